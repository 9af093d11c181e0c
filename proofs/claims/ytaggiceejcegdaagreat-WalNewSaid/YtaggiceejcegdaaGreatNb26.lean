/-
  WHAT IS SHOWN: plain facts on memory, of no program: several disks that share a power supply. what try of wal returns and leaves: the operation is called as long as it is busy. what the closures of Write and Flush of wal return and leave. what Write of wal returns and leaves. what all of wal returns and leaves: sectors are written to several disks. the log of wal in memory; what its numbered, Used, Next and Fits return. what Records and Rewrite of wal return. what the methods of a nil log of wal, and Write, Read and Flush of a nil disk return. Conditions: as each theorem names them.
-/
import Derived.Test.YtaggiceejcegdaaGreatNb24
import Derived.Test.YtaggiceejcegdaaGreatNb25
import Derived.Test.YtaggiceejcegdaaGreatNb19
import Derived.Test.YtaggiceejcegdaaGreatNb09
import Derived.Test.YtaggiceejcegdaaGreatNb17
namespace Go.Proofs.YtaggiceejcegdaaGreat
set_option linter.unusedVariables false
open Go.RowKit

theorem own_ty {w w' : World} {ts : List TypeId} {B : Bd} {base size n : Nat} {e : TypeId} {v : Value} {xs : List Value} (h : w.ownsRow base e size v n xs) (hk : KeptT ts B w w') (he : e ∉ ts) : w'.ownsRow base e size v n xs := by
  refine own_kept h hk (fun b hb => ?_)
  rcases h.2 with ⟨h2, _⟩ | ⟨g, cap, cur, h2, _, h4, _⟩
  · rw [h2] at hb; cases hb
  · rw [h2] at hb; injection hb with hb; subst hb; exact KeptT.no (IsT.of h4) he
/-- A disk in memory, its state as one value. -/
abbrev DM (w : World) (B : Bd) (q pw : Nat) (g : Geo) (F : List Flt) (d : DC) : Prop := DPm w B q pw g F d.s d.P d.L d.O
structure Many (w : World) (n pw : Nat) (g : Geo) (qs : List Nat) (m : MS) (S : Nat → Nat → Prop) (hn : n ≤ w.heap.size) : Prop where
  disk : ∀ (i : Nat) (v : DX) (q : Nat), m.ds[i]? = some v → qs[i]? = some q → DM w (Bd.on n w.heap.size (S i) hn) q pw g v.F (m.dc v)
  pow : PowM w (Bd.of n) pw m.P
  no : ∀ i j k, i < m.ds.length → j < m.ds.length → i ≠ j → k < w.heap.size → S i k → S j k → k = pw
  len : qs.length = m.ds.length
/-- Disks that share a power supply. -/
def ManyM (w : World) (n pw : Nat) (g : Geo) (qs : List Nat) (m : MS) : Prop := ∃ S hn, Many w n pw g qs m S hn
section
variable {w w' : World} {B C D : Bd} {n q pw : Nat} {g : Geo} {qs : List Nat} {m : MS} {F : List Flt} {s : DS} {P P' : Pow} {L : List Sec} {O : List OpV} {S : Nat → Nat → Prop} {hn : n ≤ w.heap.size}
theorem DPm.moveN (h : DPm w B q pw g F s P L O) (hb : Below w.heap.size w w') (hs : Bd.Sub w.heap.size B C) (hC : C.top ≤ w'.heap.size) : DPm w' C q pw g F s P L O := by
  obtain ⟨⟨p, FA, fc, hd⟩, hp, hf, hsb, hB⟩ := h
  exact ⟨⟨p, FA, fc, (hd.mono hs).below0 hb⟩, (hp.mono hs).below0 hb, hf, hsb, hC⟩
theorem DPm.moveT {ts : List TypeId} (h : DPm w B q pw g F s P L O) (hk : KeptT ts D w w') (ht : ∀ t, t ∈ [180, 197, 216, 182, 3, 26, 5] → t ∉ ts) (h1 : 127 ∉ ts) (h2 : 138 ∉ ts) (h3 : 120 ∉ ts) (hs : Bd.Sub w.heap.size B C) (hC : C.top ≤ w'.heap.size) : DPm w' C q pw g F s P L O := by
  obtain ⟨⟨p, FA, fc, hd⟩, hp, hf, hsb, hB⟩ := h
  exact ⟨⟨p, FA, fc, (hd.mono hs).keptT hk ht h1 h2⟩, (hp.mono hs).keptT hk h3, hf, hsb, hC⟩
/-- One of them has worked. -/
theorem Many.step {i : Nat} {v : DX} {d : DC} (h : Many w n pw g qs m S hn) (hv : m.ds[i]? = some v) (hq : qs[i]? = some q) (ha : DM w' (Bd.on n w.heap.size (S i) hn) q pw g v.F d) (hk : KeptT DAT (Bd.on n w.heap.size (S i) hn) w w') :
    ManyM w' n pw g qs (m.put i v.F d) := by
  have hsz := hk.size
  have hi : i < m.ds.length := (List.getElem?_eq_some_iff.1 hv).1
  have hP := ha.p
  refine ⟨fun j k => if j = i then (S i k ∨ w.heap.size ≤ k) else (S j k ∧ k < w.heap.size), Nat.le_trans hn hsz, ?_, ?_, ?_, by rw [h.len]; simp [MS.put]⟩
  · intro j u r hu hr
    by_cases hj : j = i
    · subst hj
      unfold MS.put at hu
      rw [List.getElem?_set_self hi] at hu
      injection hu with hu
      subst hu
      rw [hq] at hr
      injection hr with hr
      subst hr
      refine DPm.mono ha ⟨Nat.le_refl _, fun k hk' hh => ?_⟩ (Nat.le_refl _)
      refine (Bd.on_has hk').2 ⟨hh.1, ?_⟩
      rw [if_pos rfl]
      by_cases h2 : k < w.heap.size
      · exact .inl ((Bd.on_has h2).1 hh).2
      · exact .inr (by omega)
    · unfold MS.put at hu
      rw [List.getElem?_set_ne (Ne.symm hj)] at hu
      have hjl : j < m.ds.length := (List.getElem?_eq_some_iff.1 hu).1
      refine DPm.other (h.disk j u r hu hr) hP hk ⟨Nat.le_refl _, fun k hk' hh => ?_⟩ rfl (Nat.le_refl _) (fun k hk' h1 h0 => ?_)
      · refine (Bd.on_has (by omega)).2 ⟨hh.1, ?_⟩
        rw [if_neg hj]
        exact ⟨((Bd.on_has hk').1 hh).2, hk'⟩
      · have h1' := ((Bd.on_has (by omega)).1 h1).2
        rw [if_neg hj] at h1'
        exact h.no j i k hjl hi hj hk' h1'.1 ((Bd.on_has hk').1 h0).2
  · exact ⟨hP.obj, fun h => h⟩
  · intro a b k ha' hb' hab hk' h1 h2
    unfold MS.put at ha' hb'
    rw [List.length_set] at ha' hb'
    by_cases haI : a = i
    · subst haI
      rw [if_pos rfl] at h1
      rw [if_neg (fun e => hab e.symm)] at h2
      rcases h1 with h1 | h1
      · exact h.no a b k ha' hb' hab h2.2 h1 h2.1
      · omega
    · rw [if_neg haI] at h1
      by_cases hbI : b = i
      · subst hbI
        rw [if_pos rfl] at h2
        rcases h2 with h2 | h2
        · exact h.no a b k ha' hb' hab h1.2 h1.1 h2
        · omega
      · rw [if_neg hbI] at h2
        exact h.no a b k ha' hb' hab h1.2 h1.1 h2.1
/-- One of them. -/
theorem ManyM.at_ {i : Nat} {v : DX} (h : ManyM w n pw g qs m) (hv : m.ds[i]? = some v) (hq : qs[i]? = some q) : ∃ B : Bd, B.n = n ∧ DM w B q pw g v.F (m.dc v) ∧ ∀ w' d, DM w' B q pw g v.F d → KeptT DAT B w w' → ManyM w' n pw g qs (m.put i v.F d) := by
  obtain ⟨S, hn, h⟩ := h
  exact ⟨_, rfl, h.disk i v q hv hq, fun w' d hd hk => h.step hv hq hd hk⟩
/-- One more disk. -/
theorem Many.add (h : Many w n pw g qs m S hn) (hb : Below w.heap.size w w') (ha : DPm w' (Bd.on n w.heap.size (fun k => k = pw) hn) q pw g F s m.P L O) : ManyM w' n pw g (qs ++ [q]) ⟨m.ds ++ [⟨F, s, L, O⟩], m.P⟩ := by
  have hsz := hb.size
  refine ⟨fun j k => if j < m.ds.length then (S j k ∧ k < w.heap.size) else (k = pw ∨ w.heap.size ≤ k), Nat.le_trans hn hsz, ?_, ?_, ?_, by simp [h.len]⟩
  · intro j u r hu hr
    by_cases hj : j < m.ds.length
    · simp only at hu
      rw [List.getElem?_append_left hj] at hu
      rw [List.getElem?_append_left (by rw [h.len]; exact hj)] at hr
      refine DPm.moveN (h.disk j u r hu hr) hb ⟨Nat.le_refl _, fun k hk' hh => ?_⟩ (Nat.le_refl _)
      refine (Bd.on_has (by omega)).2 ⟨hh.1, ?_⟩
      rw [if_pos hj]
      exact ⟨((Bd.on_has hk').1 hh).2, hk'⟩
    · have hj2 : j = m.ds.length := by
        have := (List.getElem?_eq_some_iff.1 hu).1
        simp only [List.length_append, List.length_singleton] at this
        omega
      subst hj2
      simp only at hu
      rw [List.getElem?_append_right (Nat.le_refl _), Nat.sub_self] at hu
      rw [List.getElem?_append_right (by rw [h.len]; exact Nat.le_refl _), h.len, Nat.sub_self] at hr
      injection hu with hu
      subst hu
      injection hr with hr
      subst hr
      refine DPm.mono ha ⟨Nat.le_refl _, fun k hk' hh => ?_⟩ (Nat.le_refl _)
      refine (Bd.on_has hk').2 ⟨hh.1, ?_⟩
      rw [if_neg (Nat.lt_irrefl _)]
      by_cases h2 : k < w.heap.size
      · exact .inl ((Bd.on_has h2).1 hh).2
      · exact .inr (by omega)
  · exact h.pow.below0 hb
  · intro a b k ha' hb' hab hk' h1 h2
    simp only [List.length_append, List.length_singleton] at ha' hb'
    by_cases haI : a < m.ds.length
    · rw [if_pos haI] at h1
      by_cases hbI : b < m.ds.length
      · rw [if_pos hbI] at h2
        exact h.no a b k haI hbI hab h1.2 h1.1 h2.1
      · rw [if_neg hbI] at h2
        rcases h2 with h2 | h2
        · exact h2
        · omega
    · rw [if_neg haI] at h1
      by_cases hbI : b < m.ds.length
      · rw [if_pos hbI] at h2
        rcases h1 with h1 | h1
        · exact h1
        · omega
      · omega
/-- A bound for a new disk. -/
theorem ManyM.new (h : ManyM w n pw g qs m) : ∃ B : Bd, B.top ≤ w.heap.size ∧ PowM w B pw m.P ∧ ∀ w' q F s L O, Below w.heap.size w w' → DPm w' B q pw g F s m.P L O → ManyM w' n pw g (qs ++ [q]) ⟨m.ds ++ [⟨F, s, L, O⟩], m.P⟩ := by
  obtain ⟨S, hn, h⟩ := h
  refine ⟨Bd.on n w.heap.size (fun k => k = pw) hn, Nat.le_refl _, ⟨h.pow.obj, fun hh => hh.2 rfl⟩, fun w' q F s L O hb hd => h.add hb hd⟩
/-- Memory was made. -/
theorem ManyM.below0 (h : ManyM w n pw g qs m) (hb : Below w.heap.size w w') : ManyM w' n pw g qs m := by
  obtain ⟨S, hn, h⟩ := h
  refine ⟨fun j k => S j k ∧ k < w.heap.size, Nat.le_trans hn hb.size, ?_, h.pow.below0 hb, fun i j k hi hj hij _ h1 h2 => h.no i j k hi hj hij h1.2 h1.1 h2.1, h.len⟩
  intro j u r hu hr
  refine DPm.moveN (h.disk j u r hu hr) hb ⟨Nat.le_refl _, fun k hk' hh => ?_⟩ (Nat.le_refl _)
  exact (Bd.on_has (by have := hb.size; omega)).2 ⟨hh.1, ((Bd.on_has hk').1 hh).2, hk'⟩
/-- Blocks of other types have changed. -/
theorem ManyM.types {ts : List TypeId} (h : ManyM w n pw g qs m) (hk : KeptT ts C w w') (ht : ∀ t, t ∈ [180, 197, 216, 182, 3, 26, 5] → t ∉ ts) (h1 : 127 ∉ ts) (h2 : 138 ∉ ts) (h3 : 120 ∉ ts) : ManyM w' n pw g qs m := by
  obtain ⟨S, hn, h⟩ := h
  refine ⟨fun j k => S j k ∧ k < w.heap.size, Nat.le_trans hn hk.size, ?_, h.pow.keptT hk h3, fun i j k hi hj hij _ h1 h2 => h.no i j k hi hj hij h1.2 h1.1 h2.1, h.len⟩
  intro j u r hu hr
  refine DPm.moveT (h.disk j u r hu hr) hk ht h1 h2 h3 ⟨Nat.le_refl _, fun k hk' hh => ?_⟩ (Nat.le_refl _)
  exact (Bd.on_has (by have := hk.size; omega)).2 ⟨hh.1, ((Bd.on_has hk').1 hh).2, hk'⟩
/-- No disks. -/
theorem ManyM.none_ (h : PowM w (Bd.of n) pw P) (hn : n ≤ w.heap.size) : ManyM w n pw g [] ⟨[], P⟩ :=
  ⟨fun _ _ => False, hn, fun i v q hv => by simp at hv, h, fun i j k hi => by simp at hi, rfl⟩
theorem ManyM.low (h : ManyM w n pw g qs m) : n ≤ w.heap.size := by obtain ⟨_, hn, _⟩ := h; exact hn
theorem ManyM.len (h : ManyM w n pw g qs m) : qs.length = m.ds.length := by obtain ⟨_, _, h⟩ := h; exact h.len
end
end Go.Proofs.YtaggiceejcegdaaGreat
namespace Go.Proofs.YtaggiceejcegdaaGreat
set_option linter.unusedVariables false
open Go.RowKit

set_option maxRecDepth 100000 in
set_option maxHeartbeats 4000000 in
theorem trywrite_any {w : World} (bd bk ba bi bs : Nat) (J : Nat → World → Prop) (er : Nat → Int) (h0 : J 0 w) (HC : ∀ n W, n ≤ 8 → J n W → Calls Tryz.prog 55 #[.pointer (some ⟨bd, 0, none⟩), .pointer (some ⟨bk, 0, none⟩), .pointer (some ⟨ba, 0, none⟩), .pointer (some ⟨bi, 0, none⟩), .pointer (some ⟨bs, 0, none⟩)] W fun e w' => e = .returned (.int .i64 (er n)) ∧ J (n + 1) w') :
    Calls Tryz.prog 54 #[.func (.func 55) #[] #[.pointer (some ⟨bd, 0, none⟩), .pointer (some ⟨bk, 0, none⟩), .pointer (some ⟨ba, 0, none⟩), .pointer (some ⟨bi, 0, none⟩), .pointer (some ⟨bs, 0, none⟩)]] w fun e w' => ∃ k, e = .returned (.int .i64 (er k)) ∧ J (k + 1) w' ∧ (∀ j, j < k → er j = 16) ∧ (k = 8 ∨ (k ≤ 8 ∧ ¬ er k = 16)) := by
  have HC' := Lib.hid HC
  clear HC
  go_enter Tryz.func54, Tryz.ntmps54
  go_wp2_with fail
  refine (HC'.out 0 w (by omega) h0).mono ?_
  rintro e w1 ⟨rfl, h1⟩
  go_wp2
  go_loopw [3, 4] (fun e n wr => ∃ k : Nat, k ≤ 8 ∧ e = .int .i64 (er k) ∧ n = .int .i64 ((k + 1 : Nat) : Int) ∧ J (k + 1) wr ∧ Hid (∀ j, j < k → er j = 16)) (fun _ n _ => 10 - (intOf n).toNat)
  case atStart => exact ⟨0, by omega, rfl, rfl, h1, by unfold Hid; intro j hj; omega⟩
  case round =>
    obtain ⟨k, hk, rfl, rfl, hJ, HJ⟩ := hrel
    generalize hE : er k = E at *
    by_cases h8 : k < 8
    · by_cases h16 : E = 16
      · subst h16
        have d1 : decide (((k + 1 : Nat) : Int) < 9) = true := decide_eq_true (by omega)
        have hw : IntKind.i64.wrap (((k + 1 : Nat) : Int) + 1) = ((k + 1 + 1 : Nat) : Int) := by rw [IntKind.wrap_i64]; omega
        have HJ2 : Hid (∀ j, j < k + 1 → er j = 16) := by
          unfold Hid; intro j hj
          by_cases e : j = k
          · subst e; exact hE
          · exact HJ.out j (by omega)
        go_wp2_with fail
        refine (HC'.out (k + 1) wr (by omega) hJ).mono ?_
        rintro e w2 ⟨rfl, h2⟩
        go_wp2
        go_roundw
        case rel => exact ⟨k + 1, by omega, rfl, by go_num, h2, HJ2⟩
        case measure => simp [intOf]; omega
      · have d1 : decide (((k + 1 : Nat) : Int) < 9) = true := decide_eq_true (by omega)
        have d2 : (E == 16) = false := by simpa using h16
        go_wp2
        go_ret
        exact ⟨k, by rw [hE]; rfl, hJ, HJ.out, .inr ⟨hk, by rw [hE]; exact h16⟩⟩
    · have d1 : decide (((k + 1 : Nat) : Int) < 9) = false := decide_eq_false (by omega)
      go_wp2
      go_ret
      exact ⟨k, by rw [hE]; rfl, hJ, HJ.out, .inl (by omega)⟩
end Go.Proofs.YtaggiceejcegdaaGreat
namespace Go.Proofs.YtaggiceejcegdaaGreat
set_option linter.unusedVariables false
open Go.RowKit

section
variable {w w' : World} {B : Bd} {q pw : Nat} {g : Geo} {F : List Flt} {d : DC}
theorem cell_one {k : Nat} {v : Value} {t : TypeId} {fr : Nat × Nat} (h : w.heap[k]? = some (.cells #[v] t fr)) : w.cell? ⟨k, 0, none⟩ = some v := by rw [cell_of_row _ _ _ _ _ _ h]; rfl
set_option maxRecDepth 100000 in
set_option maxHeartbeats 2000000 in
theorem wrcl_any {key at_ i : Int} {xs : List Int} {A : Option Addr} {c bd bk ba bi bs : Nat} {fd fk fa fi fs : Nat × Nat} (h : DM w B q pw g F d) (hF : ∀ f ∈ F, I64 f.to_) (hn : F.length ≤ 9223372036854775807) (hon : d.O.length ≤ 99000) (hai : I64 (at_ + i))
    (hr : ∀ W, KeptT DAT B w W → Rd W W.heap.size A (xs.map (Value.int .u8))) (hx : xs.length ≤ 100000) (hc : xs.length ≤ c)
    (hd : w.heap[bd]? = some (.cells #[.pointer (some ⟨q, 0, none⟩)] 52 fd)) (hk : w.heap[bk]? = some (.cells #[.int .u64 key] 23 fk)) (ha : w.heap[ba]? = some (.cells #[.int .i64 at_] 3 fa)) (hi : w.heap[bi]? = some (.cells #[.int .i64 i] 3 fi)) (hs : w.heap[bs]? = some (.cells #[.slice A xs.length c] 26 fs)) :
    Calls Tryz.prog 55 #[.pointer (some ⟨bd, 0, none⟩), .pointer (some ⟨bk, 0, none⟩), .pointer (some ⟨ba, 0, none⟩), .pointer (some ⟨bi, 0, none⟩), .pointer (some ⟨bs, 0, none⟩)] w fun e w' => e = .returned (.int .i64 (wOne g F key (at_ + i) xs d).2.er) ∧ DM w' B q pw g F (wOne g F key (at_ + i) xs d).1 ∧ KeptT DAT B w w' := by
  have c0 := cell_one hd
  have c1 := cell_one hk
  have c2 := cell_one ha
  have c3 := cell_one hi
  have c4 := cell_one hs
  have hw : IntKind.i64.wrap (at_ + i) = at_ + i := by obtain ⟨h1, h2⟩ := hai; rw [IntKind.wrap_i64]; omega
  have HC := Lib.hid (dwrite_any key (at_ + i) xs false A c h hn hon hai (begD_to d.s d.P key hF) (fun W hW => hr W (hW.sub dpt_dat)) hx hc)
  clear hd hk ha hi hs h hr hF hai
  go_enter Tryz.func55, Tryz.ntmps55
  go_wp2_with fail
  refine HC.out.mono ?_
  rintro e w1 ⟨rfl, hd1, hk1⟩
  have HD := Lib.hid (And.intro hd1 hk1)
  clear hd1 hk1 HC
  go_wp2
  go_ret
  exact ⟨rfl, HD.out⟩
/-- Writing one sector, as long as the disk is busy. -/
theorem trywr_any {key at_ i : Int} {xs : List Int} {A : Option Addr} {c bd bk ba bi bs : Nat} {fd fk fa fi fs : Nat × Nat} (h : DM w B q pw g F d) (hF : ∀ f ∈ F, I64 f.to_) (hn : F.length ≤ 9223372036854775807) (hon : d.O.length + 9 ≤ 99000) (hai : I64 (at_ + i))
    (hr : ∀ W, KeptT DAT B w W → Rd W W.heap.size A (xs.map (Value.int .u8))) (hx : xs.length ≤ 100000) (hc : xs.length ≤ c)
    (hd : w.heap[bd]? = some (.cells #[.pointer (some ⟨q, 0, none⟩)] 52 fd)) (hk : w.heap[bk]? = some (.cells #[.int .u64 key] 23 fk)) (ha : w.heap[ba]? = some (.cells #[.int .i64 at_] 3 fa)) (hi : w.heap[bi]? = some (.cells #[.int .i64 i] 3 fi)) (hs : w.heap[bs]? = some (.cells #[.slice A xs.length c] 26 fs)) :
    Calls Tryz.prog 54 #[.func (.func 55) #[] #[.pointer (some ⟨bd, 0, none⟩), .pointer (some ⟨bk, 0, none⟩), .pointer (some ⟨ba, 0, none⟩), .pointer (some ⟨bi, 0, none⟩), .pointer (some ⟨bs, 0, none⟩)]] w fun e w' => e = .returned (.int .i64 (tryD (wOne g F key (at_ + i) xs) d).2.er) ∧ DM w' B q pw g F (tryD (wOne g F key (at_ + i) xs) d).1 ∧ KeptT DAT B w w' := by
  refine (trywrite_any bd bk ba bi bs (fun n W => DM W B q pw g F (callN (wOne g F key (at_ + i) xs) d n) ∧ KeptT DAT B w W) (fun n => (ansN (wOne g F key (at_ + i) xs) d n).er) ⟨h, KeptT.refl _ _ w⟩ ?_).mono ?_
  · intro n W hn8 ⟨hW, hkW⟩
    have hl := callN_len (wOne_len g F key (at_ + i) xs) d n
    refine (wrcl_any hW hF hn (by omega) hai (fun W' hW' => hr W' (hkW.trans hW')) hx hc (Kept.obj hkW hd (KeptT.no (IsT.of hd) (by unfold DAT; decide))) (Kept.obj hkW hk (KeptT.no (IsT.of hk) (by unfold DAT; decide)))
      (Kept.obj hkW ha (KeptT.no (IsT.of ha) (by unfold DAT; decide))) (Kept.obj hkW hi (KeptT.no (IsT.of hi) (by unfold DAT; decide))) (Kept.obj hkW hs (KeptT.no (IsT.of hs) (by unfold DAT; decide)))).mono ?_
    rintro e w' ⟨rfl, hd', hk'⟩
    exact ⟨rfl, hd', hkW.trans hk'⟩
  · rintro e w' ⟨k, rfl, ⟨hd', hk'⟩, hb, hlast⟩
    rw [try_stop hb hlast]
    exact ⟨rfl, hd', hk'⟩
end
end Go.Proofs.YtaggiceejcegdaaGreat
namespace Go.Proofs.YtaggiceejcegdaaGreat
set_option linter.unusedVariables false
open Go.RowKit

section
variable {w w' : World} {B : Bd} {q pw : Nat} {g : Geo} {F : List Flt} {d : DC}
/-- The boxes of a disk, a key and a place. -/
def Box3 (w : World) (b q : Nat) (key at_ : Int) : Prop :=
  w.heap[b]? = some (.cells #[.pointer (some ⟨q, 0, none⟩)] 52 (0, 0)) ∧ w.heap[b + 1]? = some (.cells #[.int .u64 key] 23 (0, 0)) ∧ w.heap[b + 1 + 1]? = some (.cells #[.int .i64 at_] 3 (0, 0))
theorem Box3.kept {ts : List TypeId} {b : Nat} {key at_ : Int} (h : Box3 w b q key at_) (hk : KeptT ts B w w') (ht : 52 ∉ ts ∧ 23 ∉ ts ∧ 3 ∉ ts) : Box3 w' b q key at_ :=
  ⟨Kept.obj hk h.1 (KeptT.no (IsT.of h.1) ht.1), Kept.obj hk h.2.1 (KeptT.no (IsT.of h.2.1) ht.2.1), Kept.obj hk h.2.2 (KeptT.no (IsT.of h.2.2) ht.2.2)⟩
theorem Box3.new (w : World) (q : Nat) (key at_ : Int) : Box3 (((w.alloc (.cells #[.pointer (some ⟨q, 0, none⟩)] 52)).alloc (.cells #[.int .u64 key] 23)).alloc (.cells #[.int .i64 at_] 3)) w.heap.size q key at_ := by
  refine ⟨?_, ?_, ?_⟩
  · rw [belObj (B := w.heap.size + 1) (w := w.alloc (.cells #[.pointer (some ⟨q, 0, none⟩)] 52)) (((Below.refl _ _).alloc (by simp) _).alloc (by first | (simp; done) | (simp; omega)) _) (heap_alloc_new w _) (by omega)]
  · have := heap_alloc_new (w.alloc (.cells #[.pointer (some ⟨q, 0, none⟩)] 52)) (.cells #[.int .u64 key] 23)
    rw [World.size_alloc] at this
    rw [belObj (B := w.heap.size + 2) (w := (w.alloc (.cells #[.pointer (some ⟨q, 0, none⟩)] 52)).alloc (.cells #[.int .u64 key] 23)) ((Below.refl _ _).alloc (by simp) _) this (by omega)]
  · have := heap_alloc_new ((w.alloc (.cells #[.pointer (some ⟨q, 0, none⟩)] 52)).alloc (.cells #[.int .u64 key] 23)) (.cells #[.int .i64 at_] 3)
    rw [World.size_alloc, World.size_alloc] at this
    exact this
theorem box_int_sl (w : World) (i : Int) (A : Option Addr) (n c : Nat) : ((w.alloc (.cells #[.int .i64 i] 3)).alloc (.cells #[.slice A n c] 26)).heap[w.heap.size]? = some (.cells #[.int .i64 i] 3 (0, 0)) ∧
    ((w.alloc (.cells #[.int .i64 i] 3)).alloc (.cells #[.slice A n c] 26)).heap[w.heap.size + 1]? = some (.cells #[.slice A n c] 26 (0, 0)) := by
  refine ⟨?_, ?_⟩
  · rw [belObj (B := w.heap.size + 1) (w := w.alloc (.cells #[.int .i64 i] 3)) ((Below.refl _ _).alloc (by simp) _) (heap_alloc_new w _) (by omega)]
  · have := heap_alloc_new (w.alloc (.cells #[.int .i64 i] 3)) (.cells #[.slice A n c] 26)
    rw [World.size_alloc] at this
    exact this
set_option maxRecDepth 100000 in
set_option maxHeartbeats 2000000 in
theorem wwrite_any {key at_ : Int} {ss : List Sl} {A : Option Addr} {c : Nat} (h : DM w B q pw g F d) (hF : ∀ f ∈ F, I64 f.to_) (hn : F.length ≤ 9223372036854775807) (hon : d.O.length + 9 * ss.length ≤ 99000) (ha0 : -1000000 ≤ at_) (ha1 : at_ ≤ 1000000)
    (hr : ∀ W, KeptT DAT B w W → SlsR W W.heap.size A ss) (hx : ∀ s ∈ ss, s.xs.length ≤ 100000 ∧ s.xs.length ≤ s.c) (hl : ss.length ≤ 100000) :
    Calls Tryz.prog 16 #[.pointer (some ⟨q, 0, none⟩), .int .u64 key, .int .i64 at_, .slice A ss.length c] w fun e w' => e = .returned (.int .i64 (wrD g F key at_ (ss.map Sl.xs) d).2) ∧ DM w' B q pw g F (wrD g F key at_ (ss.map Sl.xs) d).1 ∧ KeptT DAT B w w' := by
  have HR := Lib.hid hr
  have HX := Lib.hid hx
  have HF := Lib.hid hF
  have hb0 : Below w.heap.size w (((w.alloc (.cells #[.pointer (some ⟨q, 0, none⟩)] 52)).alloc (.cells #[.int .u64 key] 23)).alloc (.cells #[.int .i64 at_] 3)) := (((Below.refl _ _).alloc (Nat.le_refl _) _).alloc (by simp) _).alloc (by first | (simp; done) | (simp; omega)) _
  have hb := Box3.new w q key at_
  have h0 : DM _ B q pw g F d := DPm.below0 h hb0
  have hk0 : KeptT DAT B w _ := KeptT.bel hb0
  clear hr hx hF h hb0
  have H0 : Hid (Box3 (((w.alloc (.cells #[.pointer (some ⟨q, 0, none⟩)] 52)).alloc (.cells #[.int .u64 key] 23)).alloc (.cells #[.int .i64 at_] 3)) w.heap.size q key at_ ∧ DM (((w.alloc (.cells #[.pointer (some ⟨q, 0, none⟩)] 52)).alloc (.cells #[.int .u64 key] 23)).alloc (.cells #[.int .i64 at_] 3)) B q pw g F (wrAll g F key at_ (ss.map Sl.xs) d 0).1 ∧ (wrAll g F key at_ (ss.map Sl.xs) d 0).2 = 0 ∧
      KeptT DAT B w (((w.alloc (.cells #[.pointer (some ⟨q, 0, none⟩)] 52)).alloc (.cells #[.int .u64 key] 23)).alloc (.cells #[.int .i64 at_] 3))) := ⟨hb, h0, rfl, hk0⟩
  clear hb h0 hk0
  go_enter Tryz.func16, Tryz.ntmps16
  go_wp2
  go_loopw [16] (fun i wr => ∃ k : Nat, k ≤ ss.length ∧ i = .int .i64 k ∧ Hid (Box3 wr w.heap.size q key at_ ∧ DM wr B q pw g F (wrAll g F key at_ (ss.map Sl.xs) d k).1 ∧ (wrAll g F key at_ (ss.map Sl.xs) d k).2 = 0 ∧ KeptT DAT B w wr)) (fun i _ => ss.length - (intOf i).toNat)
  case atStart => exact ⟨0, Nat.zero_le _, rfl, H0⟩
  case round =>
    obtain ⟨k, hk, rfl, HW⟩ := hrel
    by_cases hlt : k < ss.length
    · have hkw := HW.out.2.2.2
      obtain ⟨g1, o1, rfl, hg1, j1, hr1⟩ := sl_at (HR.out wr hkw) hlt
      have hb1 : Below wr.heap.size wr ((wr.alloc (.cells #[.int .i64 (k : Int)] 3)).alloc (.cells #[.slice ss[k].A ss[k].xs.length ss[k].c] 26)) := ((Below.refl _ _).alloc (Nat.le_refl _) _).alloc (by simp) _
      have hk1 : KeptT DAT B wr _ := KeptT.bel hb1
      have hx1 := HX.out _ (List.getElem_mem hlt)
      have hbx := HW.out.1.kept hk1 (by unfold DAT; decide)
      have hnx := box_int_sl wr (k : Int) ss[k].A ss[k].xs.length ss[k].c
      have HC := Lib.hid (trywr_any (i := (k : Int)) (DPm.below0 HW.out.2.1 hb1) HF.out hn (by have := wrAll_len g F key at_ (ss.map Sl.xs) d k; omega) (by constructor <;> omega)
        (fun W hW => (HR.out W (hkw.trans (hk1.trans hW))).each _ (List.getElem_mem hlt)) hx1.1 hx1.2 hbx.1 hbx.2.1 hbx.2.2 hnx.1 hnx.2)
      have HN : Hid (wrAll g F key at_ (ss.map Sl.xs) d (k + 1) = ((tryD (wOne g F key (at_ + k) ss[k].xs) (wrAll g F key at_ (ss.map Sl.xs) d k).1).1, (tryD (wOne g F key (at_ + k) ss[k].xs) (wrAll g F key at_ (ss.map Sl.xs) d k).1).2.er)) := by
        unfold Hid
        rw [wrAll, if_pos HW.out.2.2.1, show (ss.map Sl.xs).getD k [] = ss[k].xs by simp [List.getD, hlt]]
      have HK : Hid (KeptT DAT B w _) := hkw.trans hk1
      have hbw := HW.out.1
      have HBX : Hid (∀ W, KeptT DAT B ((wr.alloc (.cells #[.int .i64 (k : Int)] 3)).alloc (.cells #[.slice ss[k].A ss[k].xs.length ss[k].c] 26)) W → Box3 W w.heap.size q key at_) := fun W hW => hbx.kept hW (by unfold DAT; decide)
      generalize tryD (wOne g F key (at_ + k) ss[k].xs) (wrAll g F key at_ (ss.map Sl.xs) d k).1 = T at *
      generalize ss[k] = s1 at *
      clear hr1 hb1 hk1 hx1 hbx hnx hkw hbw
      go_wp2_with fail
      refine HC.out.mono ?_
      rintro e w2 ⟨rfl, hd2, hk2⟩
      have HD := Lib.hid (And.intro hd2 (HK.out.trans hk2))
      have HB2 := Lib.hid (HBX.out w2 hk2)
      clear hd2 hk2 HC HK HBX
      obtain ⟨T1, ⟨er, by_⟩⟩ := T
      simp only at *
      by_cases he : er = 0
      · subst he
        go_wp2
        go_roundw
        case rel => exact ⟨k + 1, hlt, by go_num, ⟨HB2.out, by rw [HN.out]; exact HD.out.1, by rw [HN.out], HD.out.2⟩⟩
        case measure => simp [intOf]; omega
      · have he' : (er != 0) = true := by simpa using he
        have HE : Hid (wrD g F key at_ (ss.map Sl.xs) d = (T1, er)) := by
          unfold Hid wrD
          have h1 := wrAll_stay (g := g) (F := F) (key := key) (a := at_) (ls := ss.map Sl.xs) (d := d) (k := k + 1) (by rw [HN.out]; exact he) (ss.length - (k + 1))
          rw [show k + 1 + (ss.length - (k + 1)) = (ss.map Sl.xs).length by rw [List.length_map]; omega] at h1
          rw [h1, HN.out]
        go_wp2
        go_ret
        rw [HE.out]
        exact ⟨rfl, HD.out⟩
    · obtain rfl : k = ss.length := by omega
      have HD : Hid (wrD g F key at_ (ss.map Sl.xs) d = wrAll g F key at_ (ss.map Sl.xs) d ss.length) := by unfold Hid wrD; rw [List.length_map]
      go_wp2
      go_ret
      rw [HD.out]
      exact ⟨by rw [HW.out.2.2.1]; rfl, HW.out.2.1, HW.out.2.2.2⟩
end
end Go.Proofs.YtaggiceejcegdaaGreat
namespace Go.Proofs.YtaggiceejcegdaaGreat
set_option linter.unusedVariables false
open Go.RowKit

/-- The pointers of disks; those in `no` are nil. -/
def ptrs (qs : List Nat) (no : Nat → Bool) : List Value := (List.range qs.length).map fun i => .pointer (if no i then none else some ⟨qs.getD i 0, 0, none⟩)
theorem ptrs_get {qs : List Nat} {no : Nat → Bool} {i q : Nat} (h : qs[i]? = some q) : (ptrs qs no)[i]? = some (.pointer (if no i then none else some ⟨q, 0, none⟩)) := by
  have hi := (List.getElem?_eq_some_iff.1 h).1
  unfold ptrs
  rw [List.getElem?_map, List.getElem?_range hi]
  simp [List.getD, h]
theorem own_isT {w : World} {base size n c g : Nat} {t : TypeId} {xs : List Value} (h : w.ownsRow base t size (.slice (some ⟨g, 0, none⟩) n c) n xs) (hn : 0 < n) : IsT t w g := IsT.own h
/-- The errors of k disks, and of those to come. -/
def errsL (n : Nat) (es : List Int) : List Value := (es ++ List.replicate (n - es.length) 0).map (Value.int .i64)
theorem errsL_len {n : Nat} {es : List Int} (h : es.length ≤ n) : (errsL n es).length = n := by simp [errsL]; omega
theorem errsL_set {n : Nat} {es : List Int} {x : Int} (h : es.length < n) : (errsL n es).set es.length (.int .i64 x) = errsL n (es ++ [x]) := by
  unfold errsL
  obtain ⟨m, hm⟩ : ∃ m, n - es.length = m + 1 := ⟨n - es.length - 1, by omega⟩
  have h2 : n - (es ++ [x]).length = m := by simp; omega
  rw [hm, h2, List.replicate_succ]
  simp
theorem errsL_zero {n : Nat} {es : List Int} (h : es.length < n) : errsL n es = errsL n (es ++ [0]) := by
  unfold errsL
  obtain ⟨m, hm⟩ : ∃ m, n - es.length = m + 1 := ⟨n - es.length - 1, by omega⟩
  have h2 : n - (es ++ [0]).length = m := by simp; omega
  rw [hm, h2, List.replicate_succ]
  simp
theorem errsL_all {n : Nat} {es : List Int} (h : es.length = n) : errsL n es = es.map (Value.int .i64) := by
  unfold errsL; rw [h, Nat.sub_self]; simp
theorem KeptT.wideN {ts : List TypeId} {B : Bd} {n : Nat} {w w' : World} (h : KeptT ts B w w') (hB : B.n = n) : KeptT ts (Bd.of n) w w' := h.wider (fun k hk => ⟨by rw [← hB]; exact hk.1, fun h => h⟩)
theorem info_err : (Tryz.prog.info? 41).map (fun i => (i.zero, i.size, i.bytes)) = some (some (.int .i64 0), 1, 8) := by kernel_rfl
theorem made_one (z : Value) (n : Nat) : (madeCells #[z] n).toList = List.replicate n z := by
  apply List.ext_getElem?
  intro j
  by_cases hj : j < n
  · rw [List.getElem?_replicate, if_pos hj]
    unfold madeCells
    simp [hj, Nat.mod_one]
  · rw [List.getElem?_replicate, if_neg hj, List.getElem?_eq_none (by rw [Array.length_toList, size_madeCells]; omega)]
section
variable {w w' : World} {n q pw : Nat} {g : Geo} {qs : List Nat} {m : MS}
def AllPost (w : World) (n pw : Nat) (g : Geo) (qs : List Nat) (x : MS × List Int) (e : Ending) (w' : World) : Prop :=
  ∃ A c, e = .returned (.slice A x.2.length c) ∧ w'.ownsRow w.heap.size 41 1 (.slice A x.2.length c) x.2.length (x.2.map (Value.int .i64)) ∧ ManyM w' n pw g qs x.1 ∧ KeptT DAT (Bd.of n) w w'
set_option maxRecDepth 100000 in
set_option maxHeartbeats 4000000 in
theorem wall_any {key at_ : Int} {no : Nat → Bool} {ss : List Sl} {A PA : Option Addr} {c pc N : Nat} (h : ManyM w n pw g qs m) (hok : m.Ok N) (hN : N + 9 * ss.length ≤ 99000) (ha0 : -1000000 ≤ at_) (ha1 : at_ ≤ 1000000)
    (hp : ∀ W, KeptT DAT (Bd.of n) w W → Rd W W.heap.size PA (ptrs qs no)) (hq : qs.length ≤ 1000)
    (hr : ∀ W, KeptT DAT (Bd.of n) w W → SlsR W W.heap.size A ss) (hx : ∀ s ∈ ss, s.xs.length ≤ 100000 ∧ s.xs.length ≤ s.c) (hl : ss.length ≤ 100000) :
    Calls Tryz.prog 51 #[.slice PA qs.length pc, .int .u64 key, .int .i64 at_, .slice A ss.length c] w (AllPost w n pw g qs (allD g key at_ (ss.map Sl.xs) no m)) := by
  obtain ⟨i0, hi, hz0, hz1, hz2⟩ := info_parts info_err
  have hlen := h.len
  have hmk : ∀ W : World, (Instr.makeSlice 44 (.int .i64 (qs.length : Int)) (.int .i64 (qs.length : Int))).run Tryz.prog W = .ok (.slice (some ⟨W.heap.size, 0, none⟩) qs.length qs.length) (W.alloc (.cells (madeCells _ (qs.length * 1)) 41)) := fun W => by
    have := run_make (P := Tryz.prog) W 44 41 i0 _ Tryz.underlying44 hi hz0 .i64 .i64 (qs.length : Int) (qs.length : Int) (by omega) (Int.le_refl _) (by rw [hz2]; omega) (by omega)
    rw [Int.toNat_natCast, hz1] at this
    exact this
  have hrow := World.ownsRow_lit (base := w.heap.size) (e := 41) (size := 1) w (madeCells #[.int .i64 0] qs.length) qs.length (Nat.le_refl _) (by unfold maxLen; omega) (by rw [size_madeCells]; omega)
  rw [made_one] at hrow
  have hb0 : Below w.heap.size w (w.alloc (.cells (madeCells #[.int .i64 0] qs.length) 41)) := (Below.refl _ _).alloc (Nat.le_refl _) _
  have H0 : Hid ((w.alloc (.cells (madeCells #[.int .i64 0] qs.length) 41)).ownsRow w.heap.size 41 1 (.slice (some ⟨w.heap.size, 0, none⟩) qs.length qs.length) qs.length (errsL qs.length (allK g key at_ (ss.map Sl.xs) no m 0).2) ∧
      ManyM (w.alloc (.cells (madeCells #[.int .i64 0] qs.length) 41)) n pw g qs (allK g key at_ (ss.map Sl.xs) no m 0).1 ∧ KeptT DAT (Bd.of n) w (w.alloc (.cells (madeCells #[.int .i64 0] qs.length) 41))) := by
    refine ⟨?_, h.below0 hb0, KeptT.bel hb0⟩
    have e : errsL qs.length (allK g key at_ (ss.map Sl.xs) no m 0).2 = List.replicate qs.length (.int .i64 0) := by simp [errsL, allK]
    rw [e]; exact hrow
  have HP := Lib.hid hp
  have HR := Lib.hid hr
  have HX := Lib.hid hx
  have HO := Lib.hid hok
  have HL := Lib.hid hlen
  have HKL := Lib.hid (fun k hk => allK_len g key at_ (ss.map Sl.xs) no m k hk)
  have HKR := Lib.hid (fun k => allK_rest g key at_ (ss.map Sl.xs) no m k k (Nat.le_refl _))
  have HKO := Lib.hid (fun k => allK_ok (g := g) (key := key) (a := at_) (ls := ss.map Sl.xs) (no := no) hok k)
  clear h hp hr hx hok hz0 hz1 hz2 hi hlen hrow hb0
  go_enter Tryz.func51, Tryz.ntmps51
  go_wp2
  go_loopw [17] (fun i wr => ∃ k : Nat, k ≤ qs.length ∧ i = .int .i64 k ∧ Hid (wr.ownsRow w.heap.size 41 1 (.slice (some ⟨w.heap.size, 0, none⟩) qs.length qs.length) qs.length (errsL qs.length (allK g key at_ (ss.map Sl.xs) no m k).2) ∧
      ManyM wr n pw g qs (allK g key at_ (ss.map Sl.xs) no m k).1 ∧ KeptT DAT (Bd.of n) w wr)) (fun i _ => qs.length - (intOf i).toNat)
  case atStart => exact ⟨0, Nat.zero_le _, rfl, H0⟩
  case round =>
    obtain ⟨k, hk, rfl, HW⟩ := hrel
    by_cases hlt : k < qs.length
    · obtain ⟨q, hq⟩ : ∃ q, qs[k]? = some q := ⟨qs[k], List.getElem?_eq_getElem hlt⟩
      have hkd : k < m.ds.length := by rw [← HL.out]; exact hlt
      obtain ⟨v, hv⟩ : ∃ v, (allK g key at_ (ss.map Sl.xs) no m k).1.ds[k]? = some v := ⟨_, List.getElem?_eq_getElem (by rw [(HKL.out k (by omega)).1]; exact hkd)⟩
      have hel := (HKL.out k (by omega)).2
      obtain ⟨g1, o1, rfl, hg1, j1⟩ := (HP.out wr HW.out.2.2) k _ (ptrs_get hq)
      have ho := HW.out.1
      have hfz := ho.frozenAt k
      have hidx : k < (errsL qs.length (allK g key at_ (ss.map Sl.xs) no m k).2).length := by rw [errsL_len (by omega)]; exact hlt
      cases hno : no k
      · rw [hno] at j1
        simp only [Bool.false_eq_true, if_false] at j1
        obtain ⟨B, hB, hd, hback⟩ := HW.out.2.1.at_ hv hq
        have hOk := HKO.out k k v hv
        have hv' := hv
        rw [HKR.out k] at hv'
        have hO2 := (HO.out k v hv').2.2
        have hkw := HW.out.2.2
        have HC := Lib.hid (wwrite_any (key := key) (c := c) hd hOk.1 hOk.2.1 (by show v.O.length + _ ≤ _; omega) ha0 ha1 (fun W hW => HR.out W (hkw.trans (hW.wideN hB))) HX.out hl)
        have HN : Hid (allK g key at_ (ss.map Sl.xs) no m (k + 1) = ((allK g key at_ (ss.map Sl.xs) no m k).1.put k v.F (wrD g v.F key at_ (ss.map Sl.xs) ((allK g key at_ (ss.map Sl.xs) no m k).1.dc v)).1, (allK g key at_ (ss.map Sl.xs) no m k).2 ++ [(wrD g v.F key at_ (ss.map Sl.xs) ((allK g key at_ (ss.map Sl.xs) no m k).1.dc v)).2])) := by
          unfold Hid
          rw [allK, hv]
          simp only [hno, Bool.false_eq_true, if_false]
        have HBK := Lib.hid hback
        generalize wrD g v.F key at_ (ss.map Sl.xs) ((allK g key at_ (ss.map Sl.xs) no m k).1.dc v) = T at *
        clear hd hback hOk hv hv' hO2 ho hkw
        go_wp2_with fail
        refine HC.out.mono ?_
        rintro e w2 ⟨rfl, hd2, hk2⟩
        obtain ⟨T1, er⟩ := T
        simp only at *
        have ho2 := own_ty HW.out.1 hk2 (by unfold DAT; decide)
        have hfz2 := ho2.frozenAt k
        have hst := (World.ownsRow.stored ho2 k (.int .i64 er)).1
        have hkk : KeptT [41] (Bd.of 0) w2 (w2.setCell ⟨w.heap.size, k, none⟩ (.int .i64 er)) := KeptT.of ((Kept.refl (fun j => j = w.heap.size) w2).setCell (p := ⟨w.heap.size, k, none⟩) (fun _ => rfl) _) (fun j _ e => by have e' : j = w.heap.size := e; subst e'; exact ⟨⟨Nat.zero_le _, fun h => h⟩, HasT.mem (own_isT ho2 (by omega)) (by simp)⟩)
        have hm2 := (HBK.out w2 T1 hd2 hk2).types hkk (by decide) (by decide) (by decide) (by decide)
        have hkw2 : KeptT DAT (Bd.of n) w (w2.setCell ⟨w.heap.size, k, none⟩ (.int .i64 er)) := Kept.trans (HW.out.2.2.trans (hk2.wideN hB)) ((Kept.refl (fun j => j = w.heap.size) w2).setCell (p := ⟨w.heap.size, k, none⟩) (fun _ => rfl) _) (fun i hi e => by have e' : i = w.heap.size := e; omega)
        have HD : Hid ((w2.setCell ⟨w.heap.size, k, none⟩ (.int .i64 er)).ownsRow w.heap.size 41 1 (.slice (some ⟨w.heap.size, 0, none⟩) qs.length qs.length) qs.length (errsL qs.length (allK g key at_ (ss.map Sl.xs) no m (k + 1)).2) ∧
            ManyM (w2.setCell ⟨w.heap.size, k, none⟩ (.int .i64 er)) n pw g qs (allK g key at_ (ss.map Sl.xs) no m (k + 1)).1 ∧ KeptT DAT (Bd.of n) w (w2.setCell ⟨w.heap.size, k, none⟩ (.int .i64 er))) := by
          unfold Hid
          rw [HN.out]
          refine ⟨?_, hm2, hkw2⟩
          have h9 := errsL_set (n := qs.length) (es := (allK g key at_ (ss.map Sl.xs) no m k).2) (x := er) (by omega)
          rw [hel] at h9
          rw [← h9]; exact hst
        have c9 := (World.ownsRow.cellAt ho2 k (by omega))
        clear hd2 hk2 HC ho2 hst hkk hm2 hkw2 HBK HW
        go_wp2
        go_roundw
        case rel => exact ⟨k + 1, hlt, by go_num, HD⟩
        case measure => simp [intOf]; omega
      · rw [hno] at j1
        simp only [if_true] at j1
        have HN : Hid (allK g key at_ (ss.map Sl.xs) no m (k + 1) = ((allK g key at_ (ss.map Sl.xs) no m k).1, (allK g key at_ (ss.map Sl.xs) no m k).2 ++ [0])) := by
          unfold Hid
          rw [allK, hv]
          simp only [hno, if_true]
        have HD : Hid (wr.ownsRow w.heap.size 41 1 (.slice (some ⟨w.heap.size, 0, none⟩) qs.length qs.length) qs.length (errsL qs.length (allK g key at_ (ss.map Sl.xs) no m (k + 1)).2) ∧
            ManyM wr n pw g qs (allK g key at_ (ss.map Sl.xs) no m (k + 1)).1 ∧ KeptT DAT (Bd.of n) w wr) := by
          unfold Hid
          rw [HN.out]
          refine ⟨?_, HW.out.2.1, HW.out.2.2⟩
          rw [← errsL_zero (by omega)]; exact HW.out.1
        clear HW hv ho
        go_wp2
        go_roundw
        case rel => exact ⟨k + 1, hlt, by go_num, HD⟩
        case measure => simp [intOf]; omega
    · obtain rfl : k = qs.length := by omega
      have hel := (HKL.out qs.length (by rw [HL.out]; exact Nat.le_refl _)).2
      have HD : Hid (AllPost w n pw g qs (allD g key at_ (ss.map Sl.xs) no m) (.returned (.slice (some ⟨w.heap.size, 0, none⟩) qs.length qs.length)) wr) := by
        have e : allD g key at_ (ss.map Sl.xs) no m = allK g key at_ (ss.map Sl.xs) no m qs.length := by unfold allD; rw [HL.out]
        unfold Hid AllPost
        rw [e, hel]
        have ho := HW.out.1
        rw [errsL_all hel] at ho
        exact ⟨_, _, rfl, ho, HW.out.2.1, HW.out.2.2⟩
      go_wp2
      go_ret
      exact HD.out
end
end Go.Proofs.YtaggiceejcegdaaGreat
namespace Go.Proofs.YtaggiceejcegdaaGreat
set_option linter.unusedVariables false
open Go.RowKit

/-- The state of a log. -/
structure LogS where
  gen : Nat
  fr : Int
  sec : Int
  used : Int
  l : List Rec
def LogS.num (S : LogS) (r : Rec) : Rec := ⟨S.gen, S.l.length + 1, r.ws, r.ms, r.note⟩
def logObj (S : LogS) (A : Option Addr) (m c : Nat) : List Value := [.int .u64 S.gen, .int .i64 S.fr, .int .i64 S.sec, .slice A m c, .int .i64 S.used]
/-- The log of block b, whose records are those of xs. -/
structure LogMem (w : World) (n b : Nat) (A : Option Addr) (c : Nat) (xs : List RS) (S : LogS) : Prop where
  obj : w.ownsRow n 103 5 (.slice (some ⟨b, 0, none⟩) 1 1) 1 (logObj S A xs.length c)
  rec_ : xs.map RS.r = S.l
  own : RcsO w n A c xs
/-- The log of block b; its records lie in block V. -/
def LogM (w : World) (n b : Nat) (V : Option Nat) (S : LogS) : Prop := ∃ A c xs, LogMem w n b A c xs S ∧ (Value.slice A xs.length c).ownBlock = V
section
variable {w w' : World} {n b : Nat} {A : Option Addr} {c : Nat} {xs : List RS} {S : LogS} {V : Option Nat}
theorem LogMem.cells (h : LogMem w n b A c xs S) : w.cell? ⟨b, 0, none⟩ = some (.int .u64 S.gen) ∧ w.cell? ⟨b, 1, none⟩ = some (.int .i64 S.fr) ∧ w.cell? ⟨b, 2, none⟩ = some (.int .i64 S.sec) ∧ w.cell? ⟨b, 3, none⟩ = some (.slice A xs.length c) ∧ w.cell? ⟨b, 4, none⟩ = some (.int .i64 S.used) :=
  ⟨(World.ownsRow.cellAt h.obj 0 (by decide)).trans rfl, (World.ownsRow.cellAt h.obj 1 (by decide)).trans rfl, (World.ownsRow.cellAt h.obj 2 (by decide)).trans rfl, (World.ownsRow.cellAt h.obj 3 (by decide)).trans rfl, (World.ownsRow.cellAt h.obj 4 (by decide)).trans rfl⟩
theorem LogMem.len (h : LogMem w n b A c xs S) : xs.length = S.l.length := by rw [← h.rec_, List.length_map]
theorem LogMem.kept {T : Nat → Prop} (h : LogMem w n b A c xs S) (hk : Kept T w w') (hb : ¬ T b) (hv : ∀ k, (Value.slice A xs.length c).ownBlock = some k → ¬ T k) (h1 : Free w 151 T) (h2 : Free w 156 T) (h3 : Free w 5 T) : LogMem w' n b A c xs S := by
  have ok : ∀ {t : TypeId} {sz m : Nat} {v : Value} {ys : List Value}, Free w t T → w.ownsRow 0 t sz v m ys → w'.ownsRow 0 t sz v m ys := fun hf ho => own_kept ho hk (fun k e hT => by
    rcases ho.2 with ⟨e2, _⟩ | ⟨g, cap, cur, e2, _, h4, _⟩
    · rw [e2] at e; cases e
    · rw [e2] at e
      obtain rfl : g = k := by simpa [Value.ownBlock] using e
      exact hf g hT (lt_of_block h4) _ _ h4)
  exact ⟨own_kept h.obj hk (fun k e => by simp [Value.ownBlock] at e; subst e; exact hb), h.rec_, own_kept h.own.own hk hv, fun x hx => ⟨ok h1 (h.own.each x hx).ws, ok h2 (h.own.each x hx).ms, (h.own.each x hx).note.kept hk h3⟩⟩
theorem LogM.below0 (h : LogM w n b V S) (hb : Below w.heap.size w w') : LogM w' n b V S := by
  obtain ⟨A, c, xs, h, e⟩ := h
  exact ⟨A, c, xs, h.kept (belKept0 (S := fun _ => False) hb) (fun h => h) (fun _ _ h => h) (Free.none _ _) (Free.none _ _) (Free.none _ _), e⟩
theorem LogM.types {ts : List TypeId} {B : Bd} (h : LogM w n b V S) (hk : KeptT ts B w w') (h0 : 103 ∉ ts) (h1 : 28 ∉ ts) (h2 : 151 ∉ ts) (h3 : 156 ∉ ts) (h4 : 5 ∉ ts) : LogM w' n b V S := by
  obtain ⟨A, c, xs, h, e⟩ := h
  refine ⟨A, c, xs, h.kept hk (KeptT.no (IsT.own h.obj) h0) (fun k e hT => ?_) (KeptT.free h2) (KeptT.free h3) (KeptT.free h4), e⟩
  rcases h.own.own.2 with ⟨e2, _⟩ | ⟨g, cap, cur, e2, _, h4, _⟩
  · rw [e2] at e; cases e
  · rw [e2] at e
    obtain rfl : g = k := by simpa [Value.ownBlock] using e
    exact KeptT.no (IsT.of h4) h1 hT
set_option maxRecDepth 100000 in
set_option maxHeartbeats 1000000 in
theorem wnext_any (h : LogM w n b V S) (hl : S.l.length ≤ 1000) (hg : S.gen < 2 ^ 64) : Calls Tryz.prog 25 #[.pointer (some ⟨b, 0, none⟩)] w fun e w' => e = .returned (.int .u64 (nextN S.l.length S.gen : Nat)) ∧ Below w.heap.size w w' := by
  obtain ⟨A, c, xs, h, _⟩ := h
  obtain ⟨c0, _, _, c3, _⟩ := h.cells
  have HL := Lib.hid h.len
  have HN : Hid (∀ W, Calls Tryz.prog 65 #[.slice A xs.length c, .int .u64 S.gen] W fun e w' => e = .returned (.int .u64 (nextN S.l.length S.gen : Nat)) ∧ w' = W) := by
    unfold Hid; intro W; have := next_any xs.length (by rw [h.len]; omega) S.gen hg A c W; rw [h.len] at this ⊢; exact this
  clear h
  go_enter Tryz.func25, Tryz.ntmps25
  go_wp2
  go_quiet ((go_at_call 65; exact Calls.quiet_of_same (HN.out _)))
  go_wp2
  go_ret
  exact ⟨rfl, below_drewN' (Below.refl _ _) _⟩
set_option maxRecDepth 100000 in
set_option maxHeartbeats 4000000 in
theorem wnumbered_any (r : Rec) (A1 D1 N1 : Option Addr) (c1 d1 n1 : Nat) (h : LogM w n b V S) (hl : S.l.length ≤ 1000) (q : Nat) (hq : q = S.l.length + 1) :
    Calls Tryz.prog 49 #[.pointer (some ⟨b, 0, none⟩), .agg #[.int .u64 r.gen, .int .u64 r.seq, .slice A1 r.ws.length c1, .slice D1 r.ms.length d1, .slice N1 r.note.length n1]] w fun e w' => e = .returned (.agg #[.int .u64 S.gen, .int .u64 q, .slice A1 r.ws.length c1, .slice D1 r.ms.length d1, .slice N1 r.note.length n1]) ∧ Below w.heap.size w w' := by
  obtain ⟨A, c, xs, h, _⟩ := h
  obtain ⟨c0, _, _, c3, _⟩ := h.cells
  have hlen := h.len
  have hw : IntKind.u64.wrap ((xs.length : Int) + 1) = (q : Int) := by rw [IntKind.wrap_u64]; omega
  have hw0 : IntKind.u64.wrap (xs.length : Int) = (xs.length : Int) := by rw [IntKind.wrap_u64]; omega
  clear h hlen hq
  go_enter Tryz.func49, Tryz.ntmps49
  go_wp2
  go_region_held3 (fun W => W.cell? ⟨b, 0, none⟩ = some (.int .u64 S.gen) ∧ W.cell? ⟨b, 3, none⟩ = some (.slice A xs.length c))
    (first | (refine ⟨?_, ?_⟩ <;> assumption) | (simp (maxDischargeDepth := 20) [World.cell?_alloc_some, *]; done))
    (fail)
  go_wp2
  exact bodyPost_ret (v := .agg #[.int .u64 S.gen, .int .u64 q, .slice A1 r.ws.length c1, .slice D1 r.ms.length d1, .slice N1 r.note.length n1]) (by simp [results, Tryz.results49, go_sem, *]) rfl ⟨rfl, (((Below.refl _ _).alloc (Nat.le_refl _) _).alloc (by simp) _).drew⟩
set_option maxRecDepth 100000 in
set_option maxHeartbeats 4000000 in
theorem wfits_any (r : Rec) (hok : r.Ok) (A1 D1 N1 : Option Addr) (c1 d1 n1 : Nat) (hr : RecR w w.heap.size r A1 c1 D1 d1 N1 n1) (ht : Tiny r) (h : LogM w n b V S) (hl : S.l.length ≤ 1000) (hg : S.gen < 2 ^ 64) (h1 : I64 S.sec) (h2 : I64 S.used) :
    Calls Tryz.prog 14 #[.pointer (some ⟨b, 0, none⟩), .agg #[.int .u64 r.gen, .int .u64 r.seq, .slice A1 r.ws.length c1, .slice D1 r.ms.length d1, .slice N1 r.note.length n1]] w fun e w' => e = .returned (.bool (fitB S.sec S.used (S.num r))) ∧ Below w.heap.size w w' := by
  have hb0 : Below w.heap.size w (w.alloc (.cells #[.int .u64 r.gen, .int .u64 r.seq, .slice A1 r.ws.length c1, .slice D1 r.ms.length d1, .slice N1 r.note.length n1] 28)) := (Below.refl _ _).alloc (Nat.le_refl _) _
  obtain ⟨q, hq⟩ : ∃ q : Nat, q = S.l.length + 1 := ⟨_, rfl⟩
  have hok2 : (S.num r).Ok := ⟨hg, by show S.l.length + 1 < 2 ^ 64; omega, hok.ws, hok.ms, hok.note⟩
  have HNB := Lib.hid (fun W (hW : Below ((w.alloc (.cells #[.int .u64 r.gen, .int .u64 r.seq, .slice A1 r.ws.length c1, .slice D1 r.ms.length d1, .slice N1 r.note.length n1] 28))).heap.size (w.alloc (.cells #[.int .u64 r.gen, .int .u64 r.seq, .slice A1 r.ws.length c1, .slice D1 r.ms.length d1, .slice N1 r.note.length n1] 28)) W) => wnumbered_any (w := W) r A1 D1 N1 c1 d1 n1 (h.below0 (hb0.trans (hW.mono hb0.size))) hl q hq)
  have HFT : Hid (∀ W, Below ((w.alloc (.cells #[.int .u64 r.gen, .int .u64 r.seq, .slice A1 r.ws.length c1, .slice D1 r.ms.length d1, .slice N1 r.note.length n1] 28))).heap.size (w.alloc (.cells #[.int .u64 r.gen, .int .u64 r.seq, .slice A1 r.ws.length c1, .slice D1 r.ms.length d1, .slice N1 r.note.length n1] 28)) W → Calls Tryz.prog 52 #[.int .i64 S.sec, .int .i64 S.used, .agg #[.int .u64 S.gen, .int .u64 q, .slice A1 r.ws.length c1, .slice D1 r.ms.length d1, .slice N1 r.note.length n1]] W fun e w' => e = .returned (.bool (fitB S.sec S.used (S.num r))) ∧ Below W.heap.size W w') := by
    unfold Hid; intro W hW
    have hb1 := hb0.trans (hW.mono hb0.size)
    have := fits_any S.sec S.used h1 h2 (S.num r) hok2 A1 D1 N1 c1 d1 n1 W ⟨(hr.up hb1).ws, (hr.up hb1).ms, (hr.up hb1).note⟩ (by have := ht.ws; show r.ws.length ≤ _; omega) (by have := ht.ms; show r.ms.length ≤ _; omega) (by have := ht.note; show r.note.length ≤ _; omega)
    subst hq
    exact this
  obtain ⟨A, c, xs, hm, _⟩ := h.below0 hb0
  obtain ⟨c0, c1', c2', c3, c4⟩ := hm.cells
  have hbl : b < ((w.alloc (.cells #[.int .u64 r.gen, .int .u64 r.seq, .slice A1 r.ws.length c1, .slice D1 r.ms.length d1, .slice N1 r.note.length n1] 28))).heap.size := (IsT.own hm.obj).lt
  have PB := Cells5.new w 28 (.int .u64 r.gen) (.int .u64 r.seq) (.slice A1 r.ws.length c1) (.slice D1 r.ms.length d1) (.slice N1 r.note.length n1)
  have hwl : w.heap.size < ((w.alloc (.cells #[.int .u64 r.gen, .int .u64 r.seq, .slice A1 r.ws.length c1, .slice D1 r.ms.length d1, .slice N1 r.note.length n1] 28))).heap.size := by simp
  have t0 := Held.cell PB.c0 hwl; have t1 := Held.cell PB.c1 hwl; have t2 := Held.cell PB.c2 hwl; have t3 := Held.cell PB.c3 hwl; have t4 := Held.cell PB.c4 hwl
  have s2 := Held.cell c2' hbl
  have s4 := Held.cell c4 hbl
  have HB0 := Lib.hid hb0
  generalize fitB S.sec S.used (S.num r) = R at *
  clear h hm c0 c1' c2' c3 c4 PB hok2 hr hb0 hbl hwl hq
  go_enter Tryz.func14, Tryz.ntmps14
  go_wp2
  generalize (w.alloc (.cells #[.int .u64 r.gen, .int .u64 r.seq, .slice A1 r.ws.length c1, .slice D1 r.ms.length d1, .slice N1 r.note.length n1] 28)) = W1 at *
  have hne : Nonempty (Held (Below W1.heap.size W1)) := ⟨⟨_, (Held.drew_below (Nat.le_refl _))⟩⟩
  refine wp_region_heldq (S := (Below W1.heap.size W1)) (by kernel_rfl) (by kernel_rfl) (Held.drew_below (Nat.le_refl _)) ?_
  repeat (go_big_quiet_step ((first | (go_at_call 49; exact Calls.held_below (Nat.le_refl _) (HNB.out _ (Held.h _))) | (go_at_call 52; exact Calls.held_below (Nat.le_refl _) (HFT.out _ (Held.h _))))))
  refine wpQuiet_nil ?_
  intro _ hw'
  obtain ⟨sq, hw''⟩ := hw'
  subst hw''
  clear hne
  go_wp2
  go_ret
  exact ⟨rfl, HB0.out.trans (sq.h.mono HB0.out.size)⟩
end
end Go.Proofs.YtaggiceejcegdaaGreat
namespace Go.Proofs.YtaggiceejcegdaaGreat
set_option linter.unusedVariables false
open Go.RowKit

section
variable {w w' : World} {n b : Nat} {A : Option Addr} {c : Nat} {xs : List RS} {S : LogS} {V : Option Nat}
def RecsPost (w : World) (l : List Rec) (e : Ending) (w' : World) : Prop := ∃ A c ys, e = .returned (.slice A ys.length c) ∧ ys.map RS.r = l ∧ RcsO w' w.heap.size A c ys ∧ Below w.heap.size w w'
end
end Go.Proofs.YtaggiceejcegdaaGreat
namespace Go.Proofs.YtaggiceejcegdaaGreat
set_option linter.unusedVariables false
open Go.RowKit

section
variable (w : World)
set_option maxRecDepth 100000 in
set_option maxHeartbeats 1000000 in
theorem nappend_any (D : Value) (key : Int) (r : Rec) (A1 D1 N1 : Option Addr) (c1 d1 n1 : Nat) (A : Option Addr) (n c : Nat) (hD : D = .slice A n c) :
    Calls Tryz.prog 13 #[.pointer none, D, .int .u64 key, .agg #[.int .u64 r.gen, .int .u64 r.seq, .slice A1 r.ws.length c1, .slice D1 r.ms.length d1, .slice N1 r.note.length n1]] w fun e w' => e = .returned (.tuple #[.slice none 0 0, .int .i64 8]) ∧ Below w.heap.size w w' := by
  subst hD
  have hb0 : Below w.heap.size w (w.alloc (.cells #[.int .u64 r.gen, .int .u64 r.seq, .slice A1 r.ws.length c1, .slice D1 r.ms.length d1, .slice N1 r.note.length n1] 28)) := (Below.refl _ _).alloc (Nat.le_refl _) _
  go_enter Tryz.func13, Tryz.ntmps13
  go_wp2
  go_ret2
  exact ⟨rfl, hb0⟩
set_option maxRecDepth 100000 in
set_option maxHeartbeats 1000000 in
theorem nrewrite_any (key : Int) : Calls Tryz.prog 34 #[.pointer none, .slice none 0 0, .int .u64 key] w fun e w' => e = .returned (.slice none 0 0) ∧ Below w.heap.size w w' := by
  go_enter Tryz.func34, Tryz.ntmps34
  go_wp2
  go_ret
  exact ⟨rfl, Below.refl _ _⟩
set_option maxRecDepth 100000 in
set_option maxHeartbeats 1000000 in
theorem nrecords_any : Calls Tryz.prog 28 #[.pointer none] w fun e w' => e = .returned (.slice none 0 0) ∧ Below w.heap.size w w' := by
  go_enter Tryz.func28, Tryz.ntmps28
  go_wp2
  go_ret
  exact ⟨rfl, Below.refl _ _⟩
set_option maxRecDepth 100000 in
set_option maxHeartbeats 1000000 in
theorem nused_any : Calls Tryz.prog 24 #[.pointer none] w fun e w' => e = .returned (.int .i64 0) ∧ Below w.heap.size w w' := by
  go_enter Tryz.func24, Tryz.ntmps24
  go_wp2
  go_ret
  exact ⟨rfl, Below.refl _ _⟩
set_option maxRecDepth 100000 in
set_option maxHeartbeats 1000000 in
theorem nnext_any : Calls Tryz.prog 25 #[.pointer none] w fun e w' => e = .returned (.int .u64 0) ∧ Below w.heap.size w w' := by
  go_enter Tryz.func25, Tryz.ntmps25
  go_wp2
  go_ret
  exact ⟨rfl, Below.refl _ _⟩
set_option maxRecDepth 100000 in
set_option maxHeartbeats 1000000 in
theorem nfits_any (r : Rec) (A1 D1 N1 : Option Addr) (c1 d1 n1 : Nat) : Calls Tryz.prog 14 #[.pointer none, .agg #[.int .u64 r.gen, .int .u64 r.seq, .slice A1 r.ws.length c1, .slice D1 r.ms.length d1, .slice N1 r.note.length n1]] w fun e w' => e = .returned (.bool false) ∧ Below w.heap.size w w' := by
  have hb0 : Below w.heap.size w (w.alloc (.cells #[.int .u64 r.gen, .int .u64 r.seq, .slice A1 r.ws.length c1, .slice D1 r.ms.length d1, .slice N1 r.note.length n1] 28)) := (Below.refl _ _).alloc (Nat.le_refl _) _
  have HB0 := Lib.hid hb0
  clear hb0
  go_enter Tryz.func14, Tryz.ntmps14
  go_wp2
  generalize (w.alloc (.cells #[.int .u64 r.gen, .int .u64 r.seq, .slice A1 r.ws.length c1, .slice D1 r.ms.length d1, .slice N1 r.note.length n1] 28)) = W1 at *
  have hne : Nonempty (Held (Below W1.heap.size W1)) := ⟨⟨_, (Held.drew_below (Nat.le_refl _))⟩⟩
  refine wp_region_heldq (S := (Below W1.heap.size W1)) (by kernel_rfl) (by kernel_rfl) (Held.drew_below (Nat.le_refl _)) ?_
  repeat (go_big_quiet_step ((fail)))
  refine wpQuiet_nil ?_
  intro _ hw'
  obtain ⟨sq, hw''⟩ := hw'
  subst hw''
  clear hne
  go_wp2
  go_ret
  exact ⟨rfl, HB0.out.trans (sq.h.mono HB0.out.size)⟩
set_option maxRecDepth 100000 in
set_option maxHeartbeats 1000000 in
theorem nread_any (key at_ n : Int) : Calls Tryz.prog 20 #[.pointer none, .int .u64 key, .int .i64 at_, .int .i64 n] w fun e w' => e = .returned (.tuple #[.slice none 0 0, .int .i64 8]) ∧ Below w.heap.size w w' := by
  have hb0 : Below w.heap.size w (((w.alloc (.cells #[.pointer none] 52)).alloc (.cells #[.int .u64 key] 23)).alloc (.cells #[.int .i64 at_] 3)) := (((Below.refl _ _).alloc (Nat.le_refl _) _).alloc (by simp) _).alloc (by first | (simp; done) | (simp; omega)) _
  go_enter Tryz.func20, Tryz.ntmps20
  go_wp2
  go_ret2
  exact ⟨rfl, hb0⟩
set_option maxRecDepth 100000 in
set_option maxHeartbeats 1000000 in
theorem nwrite_any (key at_ : Int) : Calls Tryz.prog 16 #[.pointer none, .int .u64 key, .int .i64 at_, .slice none 0 0] w fun e w' => e = .returned (.int .i64 8) ∧ Below w.heap.size w w' := by
  have hb0 : Below w.heap.size w (((w.alloc (.cells #[.pointer none] 52)).alloc (.cells #[.int .u64 key] 23)).alloc (.cells #[.int .i64 at_] 3)) := (((Below.refl _ _).alloc (Nat.le_refl _) _).alloc (by simp) _).alloc (by first | (simp; done) | (simp; omega)) _
  go_enter Tryz.func16, Tryz.ntmps16
  go_wp2
  go_ret
  exact ⟨rfl, hb0⟩
set_option maxRecDepth 100000 in
set_option maxHeartbeats 1000000 in
theorem nflush_any (key : Int) : Calls Tryz.prog 18 #[.pointer none, .int .u64 key] w fun e w' => e = .returned (.int .i64 8) ∧ Below w.heap.size w w' := by
  have hb0 : Below w.heap.size w ((w.alloc (.cells #[.pointer none] 52)).alloc (.cells #[.int .u64 key] 23)) := ((Below.refl _ _).alloc (Nat.le_refl _) _).alloc (by simp) _
  go_enter Tryz.func18, Tryz.ntmps18
  go_wp2
  go_ret
  exact ⟨rfl, hb0⟩
end
end Go.Proofs.YtaggiceejcegdaaGreat

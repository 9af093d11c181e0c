/-
  WHAT IS SHOWN: what do of tegulalaw14 returns and leaves: each act on a disk. Conditions: the disk lies in memory; the act can be read.
-/
import Derived.Test.YtckdhhadlemakaaDisk17
namespace Go.Proofs.Ytckdhhadlemakaa
set_option linter.unusedVariables false
open Go.RowKit

/-- A disk's state with its power supply's. -/
structure DC where
  s : DS
  P : Pow
  L : List Sec
  O : List OpV
def doC (g : Geo) (F : List Flt) (d : DC) (a : ActV) : DC :=
  if a.kind = 0 then ⟨dRdS F d.s d.P d.L (playL g d.L d.O) a.key a.at_, (begD F d.s d.P a.key).P, d.L, d.O⟩
  else if a.kind = 1 then ⟨dWrS F d.s d.P d.L a.key a.at_ a.xs, (begD F d.s d.P a.key).P, dWrLM g F d.s d.P d.L d.O a.key a.at_ a.xs a.force, dWrO g F d.s d.P d.L d.O a.key a.at_ a.xs a.force⟩
  else if a.kind = 2 then ⟨dErS g F d.s d.P d.L d.O a.key a.at_, (begD F d.s d.P a.key).P, d.L, dErO g F d.s d.P d.L d.O a.key a.at_⟩
  else if a.kind = 3 then ⟨dFlS F d.s d.P a.key, (begD F d.s d.P a.key).P, dFlLM g F d.s d.P d.L d.O a.key, dFlO F d.s d.P d.O a.key⟩
  else if a.kind = 4 then ⟨acqS d.s d.P a.key, d.P, d.L, d.O⟩
  else if a.kind = 5 then ⟨{ d.s with dead := true }, d.P, d.L, d.O⟩
  else if a.kind = 6 then ⟨rstS d.s d.P, d.P, rstLM g d.s d.P d.L d.O a.at_, rstO d.s d.P d.O⟩
  else if a.kind = 7 then ⟨d.s, armP d.P a.at_, d.L, d.O⟩
  else if a.kind = 8 then ⟨d.s, { d.P with off := false }, d.L, d.O⟩
  else d
def doEr (g : Geo) (F : List Flt) (d : DC) (a : ActV) : Int :=
  if a.kind = 0 then dRdE F d.s d.P d.L (playL g d.L d.O) a.key a.at_
  else if a.kind = 1 then dWrE F d.s d.P d.L a.key a.at_ a.xs
  else if a.kind = 2 then dErE g F d.s d.P d.L d.O a.key a.at_
  else if a.kind = 3 then (begD F d.s d.P a.key).er
  else if a.kind = 4 then stE d.s d.P
  else if a.kind = 6 then rstE d.s d.P
  else 0
def doBy (g : Geo) (F : List Flt) (d : DC) (a : ActV) : List Int := if a.kind = 0 then dRdB F d.s d.P d.L (playL g d.L d.O) a.key a.at_ else []
def DoDPost (w : World) (B : Bd) (q pw : Nat) (g : Geo) (F : List Flt) (d : DC) (a : ActV) (e : Ending) (w' : World) : Prop :=
  e = .returned (.tuple #[.string (strOfNums (doBy g F d a)), .int .i64 (doEr g F d a)]) ∧ DPm w' B q pw g F (doC g F d a).s (doC g F d a).P (doC g F d a).L (doC g F d a).O ∧ KeptT DAT B w w'
theorem atF_mem : ∀ (l : List Flt) (op : Int), atF l op = noF ∨ atF l op ∈ l
  | [], _ => .inl rfl
  | f :: l, op => by
    unfold atF
    split
    · exact .inr (by simp)
    · rcases atF_mem l op with h | h
      · exact .inl h
      · exact .inr (by simp [h])
theorem begD_to {F : List Flt} (s : DS) (P : Pow) (key : Int) (hF : ∀ f ∈ F, I64 f.to_) : I64 (begD F s P key).f.to_ := by
  have h0 : I64 noF.to_ := noI64
  unfold begD
  repeat' split
  all_goals first | exact h0 | skip
  rcases atF_mem F s.ops with h | h
  · simp only [h]; exact h0
  · exact hF _ h
theorem DPm.power {w w' : World} {B : Bd} {q pw : Nat} {g : Geo} {F : List Flt} {s : DS} {P P' : Pow} {LM : List Sec} {O : List OpV} (h : DPm w B q pw g F s P LM O) (hp : PowM w' B pw P') (hk : KeptT [124] B w w') : DPm w' B q pw g F s P' LM O := by
  obtain ⟨⟨p, FA, fc, hd⟩, _, hf, hs, hB⟩ := h
  exact ⟨⟨p, FA, fc, hd.keptP hk⟩, hp, hf, hs, Nat.le_trans hB hk.size⟩
set_option maxRecDepth 100000 in
set_option maxHeartbeats 4000000 in
theorem ddo_any {w : World} {B : Bd} {q pw q0 q1 : Nat} {g : Geo} {F : List Flt} {d : DC} (a : ActV) (h : DPm w B q pw g F d.s d.P d.L d.O) (hF : ∀ f ∈ F, I64 f.to_) (hn : F.length ≤ 9223372036854775807) (hon : d.O.length ≤ 99000)
    (hq : (Int.tmod a.disk 2 = 0 ∧ q = q0) ∨ (Int.tmod a.disk 2 = 1 ∧ q = q1)) (ha : I64 a.at_) (hr : Rd w B.n a.A (a.xs.map (Value.int .u8))) (hx : a.xs.length ≤ 100000) (hc : a.xs.length ≤ a.c) :
    Calls Try.prog 43 #[.agg #[.pointer (some ⟨pw, 0, none⟩), .pointer (some ⟨q0, 0, none⟩), .pointer (some ⟨q1, 0, none⟩)], .agg #[.int .u8 a.disk, .int .u8 a.kind, .int .u64 a.key, .int .i64 a.at_, .slice a.A a.xs.length a.c, .bool a.force]] w (DoDPost w B q pw g F d a) := by
  obtain ⟨dk, kd, key, at_, A, xs, c, force⟩ := a
  obtain ⟨s, P, L, O⟩ := d
  simp only at *
  have hcq : ∀ o : Obj, ((w.alloc (.cells #[.pointer (some ⟨pw, 0, none⟩), .pointer (some ⟨q0, 0, none⟩), .pointer (some ⟨q1, 0, none⟩)] 68)).alloc o).cell? ⟨w.heap.size, 1 + (dk.tmod 2).toNat, none⟩ = some (.pointer (some ⟨q, 0, none⟩)) := by
    intro o
    rcases hq with ⟨hm, rfl⟩ | ⟨hm, rfl⟩ <;> rw [hm] <;> simp
  have hm0 : 0 ≤ dk.tmod 2 := by rcases hq with ⟨hm, _⟩ | ⟨hm, _⟩ <;> omega
  have hm1 : dk.tmod 2 < 2 := by rcases hq with ⟨hm, _⟩ | ⟨hm, _⟩ <;> omega
  have hb0 : Below w.heap.size w ((w.alloc (.cells #[.pointer (some ⟨pw, 0, none⟩), .pointer (some ⟨q0, 0, none⟩), .pointer (some ⟨q1, 0, none⟩)] 68)).alloc (.cells #[.int .u8 dk, .int .u8 kd, .int .u64 key, .int .i64 at_, .slice A xs.length c, .bool force] 78)) := ((Below.refl _ _).alloc (Nat.le_refl _) _).alloc (by simp) _
  have h0 := h.below0 hb0
  have hbn : B.n ≤ w.heap.size := Nat.le_trans B.le h.B
  have hr0 := hr.below hb0 hbn
  have hk0 : KeptT DAT B w _ := KeptT.bel hb0
  have hw0 : ∀ W, KeptT DPT B ((w.alloc (.cells #[.pointer (some ⟨pw, 0, none⟩), .pointer (some ⟨q0, 0, none⟩), .pointer (some ⟨q1, 0, none⟩)] 68)).alloc (.cells #[.int .u8 dk, .int .u8 kd, .int .u64 key, .int .i64 at_, .slice A xs.length c, .bool force] 78)) W → Rd W W.heap.size A (xs.map (Value.int .u8)) := fun W hW =>
    (Kept.rd hW hr0 (fun i hi hS => absurd hS.1.1 (by omega))).more (Nat.le_trans hbn (Nat.le_trans hb0.size hW.size))
  by_cases k0 : kd = 0
  · subst k0
    have HS : Hid (doC g F ⟨s, P, L, O⟩ ⟨dk, 0, key, at_, A, xs, c, force⟩ = ⟨dRdS F s P L (playL g L O) key at_, (begD F s P key).P, L, O⟩ ∧ doEr g F ⟨s, P, L, O⟩ ⟨dk, 0, key, at_, A, xs, c, force⟩ = dRdE F s P L (playL g L O) key at_ ∧ doBy g F ⟨s, P, L, O⟩ ⟨dk, 0, key, at_, A, xs, c, force⟩ = dRdB F s P L (playL g L O) key at_) := ⟨rfl, rfl, rfl⟩
    have HC := Lib.hid (dread_any key at_ h0 hn)
    have HK := Lib.hid hk0
    clear h hr hq hb0 h0 hr0 hk0 hw0
    go_enter Try.func43, Try.ntmps43
    go_wp2_with fail
    refine HC.out.mono ?_
    rintro e w1 ⟨v, rfl, hv, hd, hk⟩
    have HD := Lib.hid (And.intro hd (HK.out.trans hk))
    clear hd hk HC HK
    generalize dRdB F s P L (playL g L O) key at_ = ys at *
    obtain ⟨A1, c1, rfl, hr1, _⟩ := hv
    have k8 := conv_bytes c1 hr1.rd
    clear hr1
    go_wp2
    go_ret2
    unfold DoDPost
    rw [HS.out.1, HS.out.2.1, HS.out.2.2]
    exact ⟨rfl, HD.out⟩
  by_cases k1 : kd = 1
  · subst k1
    have HS : Hid (doC g F ⟨s, P, L, O⟩ ⟨dk, 1, key, at_, A, xs, c, force⟩ = ⟨dWrS F s P L key at_ xs, (begD F s P key).P, dWrLM g F s P L O key at_ xs force, dWrO g F s P L O key at_ xs force⟩ ∧ doEr g F ⟨s, P, L, O⟩ ⟨dk, 1, key, at_, A, xs, c, force⟩ = dWrE F s P L key at_ xs ∧ doBy g F ⟨s, P, L, O⟩ ⟨dk, 1, key, at_, A, xs, c, force⟩ = []) := ⟨rfl, rfl, rfl⟩
    have HC := Lib.hid (dwrite_any key at_ xs force A c h0 hn hon ha (begD_to s P key hF) hw0 hx hc)
    have HK := Lib.hid hk0
    clear h hr hq hb0 h0 hr0 hk0 hw0
    go_enter Try.func43, Try.ntmps43
    go_wp2_with fail
    refine HC.out.mono ?_
    rintro e w1 ⟨rfl, hd, hk⟩
    have HD := Lib.hid (And.intro hd (HK.out.trans hk))
    clear hd hk HC HK
    go_wp2
    go_ret2
    unfold DoDPost
    rw [HS.out.1, HS.out.2.1, HS.out.2.2]
    exact ⟨rfl, HD.out⟩
  by_cases k2 : kd = 2
  · subst k2
    have HS : Hid (doC g F ⟨s, P, L, O⟩ ⟨dk, 2, key, at_, A, xs, c, force⟩ = ⟨dErS g F s P L O key at_, (begD F s P key).P, L, dErO g F s P L O key at_⟩ ∧ doEr g F ⟨s, P, L, O⟩ ⟨dk, 2, key, at_, A, xs, c, force⟩ = dErE g F s P L O key at_ ∧ doBy g F ⟨s, P, L, O⟩ ⟨dk, 2, key, at_, A, xs, c, force⟩ = []) := ⟨rfl, rfl, rfl⟩
    have HC := Lib.hid (derase_any key at_ ha h0 hn hon)
    have HK := Lib.hid hk0
    clear h hr hq hb0 h0 hr0 hk0 hw0
    go_enter Try.func43, Try.ntmps43
    go_wp2_with fail
    refine HC.out.mono ?_
    rintro e w1 ⟨rfl, hd, hk⟩
    have HD := Lib.hid (And.intro hd (HK.out.trans hk))
    clear hd hk HC HK
    go_wp2
    go_ret2
    unfold DoDPost
    rw [HS.out.1, HS.out.2.1, HS.out.2.2]
    exact ⟨rfl, HD.out⟩
  by_cases k3 : kd = 3
  · subst k3
    have HS : Hid (doC g F ⟨s, P, L, O⟩ ⟨dk, 3, key, at_, A, xs, c, force⟩ = ⟨dFlS F s P key, (begD F s P key).P, dFlLM g F s P L O key, dFlO F s P O key⟩ ∧ doEr g F ⟨s, P, L, O⟩ ⟨dk, 3, key, at_, A, xs, c, force⟩ = (begD F s P key).er ∧ doBy g F ⟨s, P, L, O⟩ ⟨dk, 3, key, at_, A, xs, c, force⟩ = []) := ⟨rfl, rfl, rfl⟩
    have HC := Lib.hid (dflush_any key h0 hn hon)
    have HK := Lib.hid hk0
    clear h hr hq hb0 h0 hr0 hk0 hw0
    go_enter Try.func43, Try.ntmps43
    go_wp2_with fail
    refine HC.out.mono ?_
    rintro e w1 ⟨rfl, hd, hk⟩
    have HD := Lib.hid (And.intro hd (HK.out.trans hk))
    clear hd hk HC HK
    go_wp2
    go_ret2
    unfold DoDPost
    rw [HS.out.1, HS.out.2.1, HS.out.2.2]
    exact ⟨rfl, HD.out⟩
  by_cases k4 : kd = 4
  · subst k4
    have HS : Hid (doC g F ⟨s, P, L, O⟩ ⟨dk, 4, key, at_, A, xs, c, force⟩ = ⟨acqS s P key, P, L, O⟩ ∧ doEr g F ⟨s, P, L, O⟩ ⟨dk, 4, key, at_, A, xs, c, force⟩ = stE s P ∧ doBy g F ⟨s, P, L, O⟩ ⟨dk, 4, key, at_, A, xs, c, force⟩ = []) := ⟨rfl, rfl, rfl⟩
    have HC := Lib.hid (dacquire_any key h0)
    have HK := Lib.hid hk0
    clear h hr hq hb0 h0 hr0 hk0 hw0
    go_enter Try.func43, Try.ntmps43
    go_wp2_with fail
    refine HC.out.mono ?_
    rintro e w1 ⟨rfl, hd, hk⟩
    have HD := Lib.hid (And.intro hd (HK.out.trans hk))
    clear hd hk HC HK
    go_wp2
    go_ret2
    unfold DoDPost
    rw [HS.out.1, HS.out.2.1, HS.out.2.2]
    exact ⟨rfl, HD.out⟩
  by_cases k5 : kd = 5
  · subst k5
    have HS : Hid (doC g F ⟨s, P, L, O⟩ ⟨dk, 5, key, at_, A, xs, c, force⟩ = ⟨{ s with dead := true }, P, L, O⟩ ∧ doEr g F ⟨s, P, L, O⟩ ⟨dk, 5, key, at_, A, xs, c, force⟩ = 0 ∧ doBy g F ⟨s, P, L, O⟩ ⟨dk, 5, key, at_, A, xs, c, force⟩ = []) := ⟨rfl, rfl, rfl⟩
    have HC := Lib.hid (dkill_any h0)
    have HK := Lib.hid hk0
    clear h hr hq hb0 h0 hr0 hk0 hw0
    go_enter Try.func43, Try.ntmps43
    go_wp2_with fail
    refine HC.out.mono ?_
    rintro e w1 ⟨rfl, hd, hk⟩
    have HD := Lib.hid (And.intro hd (HK.out.trans hk))
    clear hd hk HC HK
    go_wp2
    go_ret2
    unfold DoDPost
    rw [HS.out.1, HS.out.2.1, HS.out.2.2]
    exact ⟨rfl, HD.out⟩
  by_cases k6 : kd = 6
  · subst k6
    have HS : Hid (doC g F ⟨s, P, L, O⟩ ⟨dk, 6, key, at_, A, xs, c, force⟩ = ⟨rstS s P, P, rstLM g s P L O at_, rstO s P O⟩ ∧ doEr g F ⟨s, P, L, O⟩ ⟨dk, 6, key, at_, A, xs, c, force⟩ = rstE s P ∧ doBy g F ⟨s, P, L, O⟩ ⟨dk, 6, key, at_, A, xs, c, force⟩ = []) := ⟨rfl, rfl, rfl⟩
    have HC := Lib.hid (drestart_any at_ h0 (by omega))
    have HK := Lib.hid hk0
    clear h hr hq hb0 h0 hr0 hk0 hw0
    go_enter Try.func43, Try.ntmps43
    go_wp2_with fail
    refine HC.out.mono ?_
    rintro e w1 ⟨rfl, hd, hk⟩
    have HD := Lib.hid (And.intro hd (HK.out.trans hk))
    clear hd hk HC HK
    go_wp2
    go_ret2
    unfold DoDPost
    rw [HS.out.1, HS.out.2.1, HS.out.2.2]
    exact ⟨rfl, HD.out⟩
  by_cases k7 : kd = 7
  · subst k7
    have HS : Hid (doC g F ⟨s, P, L, O⟩ ⟨dk, 7, key, at_, A, xs, c, force⟩ = ⟨s, armP P at_, L, O⟩ ∧ doEr g F ⟨s, P, L, O⟩ ⟨dk, 7, key, at_, A, xs, c, force⟩ = 0 ∧ doBy g F ⟨s, P, L, O⟩ ⟨dk, 7, key, at_, A, xs, c, force⟩ = []) := ⟨rfl, rfl, rfl⟩
    have HC := Lib.hid ((arm_any at_ h0.p).mono (fun e w' (hh : _ ∧ _ ∧ _) => (⟨hh.1, DPm.power h0 hh.2.1 hh.2.2, hh.2.2.sub (by unfold DAT; decide)⟩ : e = .returned (.tuple #[]) ∧ DPm w' B q pw g F s (armP P at_) L O ∧ KeptT DAT B _ w')))
    have HK := Lib.hid hk0
    clear h hr hq hb0 h0 hr0 hk0 hw0
    go_enter Try.func43, Try.ntmps43
    go_wp2_with fail
    refine HC.out.mono ?_
    rintro e w1 ⟨rfl, hd, hk⟩
    have HD := Lib.hid (And.intro hd (HK.out.trans hk))
    clear hd hk HC HK
    go_wp2
    go_ret2
    unfold DoDPost
    rw [HS.out.1, HS.out.2.1, HS.out.2.2]
    exact ⟨rfl, HD.out⟩
  by_cases k8 : kd = 8
  · subst k8
    have HS : Hid (doC g F ⟨s, P, L, O⟩ ⟨dk, 8, key, at_, A, xs, c, force⟩ = ⟨s, { P with off := false }, L, O⟩ ∧ doEr g F ⟨s, P, L, O⟩ ⟨dk, 8, key, at_, A, xs, c, force⟩ = 0 ∧ doBy g F ⟨s, P, L, O⟩ ⟨dk, 8, key, at_, A, xs, c, force⟩ = []) := ⟨rfl, rfl, rfl⟩
    have HC := Lib.hid ((don_any h0.p).mono (fun e w' (hh : _ ∧ _ ∧ _) => (⟨hh.1, DPm.power h0 hh.2.1 hh.2.2, hh.2.2.sub (by unfold DAT; decide)⟩ : e = .returned (.tuple #[]) ∧ DPm w' B q pw g F s { P with off := false } L O ∧ KeptT DAT B _ w')))
    have HK := Lib.hid hk0
    clear h hr hq hb0 h0 hr0 hk0 hw0
    go_enter Try.func43, Try.ntmps43
    go_wp2_with fail
    refine HC.out.mono ?_
    rintro e w1 ⟨rfl, hd, hk⟩
    have HD := Lib.hid (And.intro hd (HK.out.trans hk))
    clear hd hk HC HK
    go_wp2
    go_ret2
    unfold DoDPost
    rw [HS.out.1, HS.out.2.1, HS.out.2.2]
    exact ⟨rfl, HD.out⟩
  have HS : Hid (doC g F ⟨s, P, L, O⟩ ⟨dk, kd, key, at_, A, xs, c, force⟩ = ⟨s, P, L, O⟩ ∧ doEr g F ⟨s, P, L, O⟩ ⟨dk, kd, key, at_, A, xs, c, force⟩ = 0 ∧ doBy g F ⟨s, P, L, O⟩ ⟨dk, kd, key, at_, A, xs, c, force⟩ = []) := by
    unfold Hid doC doEr doBy
    simp only [if_neg k0, if_neg k1, if_neg k2, if_neg k3, if_neg k4, if_neg k5, if_neg k6, if_neg k7, if_neg k8]
    exact ⟨trivial, trivial, trivial⟩
  have HD := Lib.hid (And.intro h0 hk0)
  have e0 : (kd == 0) = false := by simpa using k0
  have e1 : (kd == 1) = false := by simpa using k1
  have e2 : (kd == 2) = false := by simpa using k2
  have e3 : (kd == 3) = false := by simpa using k3
  have e4 : (kd == 4) = false := by simpa using k4
  have e5 : (kd == 5) = false := by simpa using k5
  have e6 : (kd == 6) = false := by simpa using k6
  have e7 : (kd == 7) = false := by simpa using k7
  have e8 : (kd == 8) = false := by simpa using k8
  clear h hr hq hb0 h0 hr0 hk0 hw0 k0 k1 k2 k3 k4 k5 k6 k7 k8
  go_enter Try.func43, Try.ntmps43
  go_wp2
  go_ret2
  unfold DoDPost
  rw [HS.out.1, HS.out.2.1, HS.out.2.2]
  exact ⟨rfl, HD.out⟩
end Go.Proofs.Ytckdhhadlemakaa

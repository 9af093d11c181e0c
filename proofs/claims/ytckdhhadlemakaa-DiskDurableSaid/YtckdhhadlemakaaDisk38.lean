/-
  WHAT IS SHOWN: plain facts, of no program, on a disk without faults whose power may fail, and one whose power does not. Conditions: as each theorem names them.
-/
import Derived.Test.YtckdhhadlemakaaRkD
namespace Go.Proofs.Ytckdhhadlemakaa
set_option linter.unusedVariables false
open Go.RowKit

/-- A disk that is ready, for the key 0. -/
structure Rdy (s : DS) (P : Pow) : Prop where
  d : s.dead = false
  k : s.key = 0
  e : s.seen = P.fails
  o : P.off = false
theorem rdy_st {s : DS} {P : Pow} (h : Rdy s P) : stE s P = 0 := by
  unfold stE; rw [h.d, h.o, h.e]; simp
theorem rdy_beg {s : DS} {P : Pow} (h : Rdy s P) (ht : trip P = false) : begD [] s P 0 = ⟨0, { s with ops := wrap64 (s.ops + 1) }, callP P, noF⟩ := by
  have ho : ¬ (callP P).off = true := by unfold callP; rw [ht]; simp [h.o]
  unfold begD
  rw [if_neg (by simp [rdy_st h]), if_neg ho, if_neg (by simp [h.k])]
  rfl
theorem rdy_trip {s : DS} {P : Pow} (h : Rdy s P) (ht : trip P = true) : begD [] s P 0 = ⟨13, s, callP P, noF⟩ := by
  have ho : (callP P).off = true := by unfold callP; rw [ht]; rfl
  unfold begD
  rw [if_neg (by simp [rdy_st h]), if_pos ho]
/-- One operation with two power supplies. -/
theorem op_two {g : Geo} {s s' : DS} {P Q P1 Q1 : Pow} {L : List Sec} {O : List OpV} {a : ActV} (hk : 0 ≤ a.kind ∧ a.kind ≤ 3) (hb : begD [] s P a.key = ⟨0, s', P1, noF⟩) (hq : begD [] s Q a.key = ⟨0, s', Q1, noF⟩) :
    ∃ S L' O', doC g [] ⟨s, P, L, O⟩ a = ⟨S, P1, L', O'⟩ ∧ doC g [] ⟨s, Q, L, O⟩ a = ⟨S, Q1, L', O'⟩ ∧ S.dead = s'.dead ∧ S.seen = s'.seen ∧ S.key = s'.key ∧ doEr g [] ⟨s, P, L, O⟩ a ≠ 13 := by
  have h4 : a.kind = 0 ∨ a.kind = 1 ∨ a.kind = 2 ∨ a.kind = 3 := by omega
  unfold doEr doC
  unfold dRdE dWrE dErE dRdS dWrS dWrLM dWrO dErS dErO dFlS dFlLM dFlO
  rw [hb, hq]
  have k10 : ((1 : Int) = 0) = False := by simp
  have k20 : ((2 : Int) = 0) = False := by simp
  have k21 : ((2 : Int) = 1) = False := by simp
  have k30 : ((3 : Int) = 0) = False := by simp
  have k31 : ((3 : Int) = 1) = False := by simp
  have k32 : ((3 : Int) = 2) = False := by simp
  rcases h4 with h | h | h | h <;> rw [h] <;> simp only [k10, k20, k21, k30, k31, k32, if_true, if_false]
  · refine ⟨_, _, _, rfl, rfl, ?_, ?_, ?_, ?_⟩
    · unfold rdS; split <;> rfl
    · unfold rdS; split <;> rfl
    · unfold rdS; split <;> rfl
    · unfold rdE; repeat' split
      all_goals decide
  · refine ⟨_, _, _, rfl, rfl, ?_, ?_, ?_, ?_⟩
    · unfold wrS; split <;> rfl
    · unfold wrS; split <;> rfl
    · unfold wrS; split <;> rfl
    · unfold wrE; repeat' split
      all_goals decide
  · refine ⟨_, _, _, rfl, rfl, ?_, ?_, ?_, ?_⟩
    · unfold erS; split <;> rfl
    · unfold erS; split <;> rfl
    · unfold erS; split <;> rfl
    · unfold doE eraseE writeE; repeat' split
      all_goals decide
  · refine ⟨_, _, _, rfl, rfl, rfl, rfl, rfl, by decide⟩
/-- The state while the power lasts: k operations are done. -/
structure DurSt (n : Int) (k : Nat) (t u : TS) : Prop where
  s : t.s0 = u.s0
  L : t.L0 = u.L0
  O : t.O0 = u.O0
  p : t.P = ⟨false, true, n - k, 0⟩
  q : u.P.off = false ∧ u.P.armed = false ∧ u.P.fails = 0
  d : t.s0.dead = false ∧ t.s0.key = 0 ∧ t.s0.seen = 0
  l : t.O0.length ≤ k ∧ t.O1.length ≤ k
  l2 : u.O0.length ≤ k ∧ u.O1.length ≤ k
  n : (k : Int) ≤ n
theorem DurSt.rdy {n : Int} {k : Nat} {t u : TS} (h : DurSt n k t u) : Rdy t.s0 t.P ∧ Rdy u.s0 u.P := by
  obtain ⟨h1, h2, h3⟩ := h.d
  obtain ⟨q1, q2, q3⟩ := h.q
  refine ⟨⟨h1, h2, by rw [h.p]; exact h3, by rw [h.p]⟩, ⟨by rw [← h.s]; exact h1, by rw [← h.s]; exact h2, by rw [← h.s, q3]; exact h3, q1⟩⟩
theorem DurSt.step {g : Geo} {F1 : List Flt} {n : Int} {k : Nat} {t u : TS} {a : ActV} (h : DurSt n k t u) (hn : n ≤ 9223372036854775807) (hk : 0 ≤ a.kind ∧ a.kind ≤ 3) (hkey : a.key = 0) (hd : a.disk = 0) (hlt : (k : Int) < n) :
    DurSt n (k + 1) (t.act g [] F1 a) (u.act g [] F1 a) ∧ t.er g [] F1 a ≠ 13 := by
  obtain ⟨r1, r2⟩ := h.rdy
  have t1 : trip t.P = false := by rw [h.p]; unfold trip; simp; omega
  have t2 : trip u.P = false := by unfold trip; rw [h.q.2.1]; rfl
  have b1 := rdy_beg r1 t1
  have b2 := rdy_beg r2 t2
  rw [← h.s] at b2
  have e1 : t.P.left = n - k := by rw [h.p]
  obtain ⟨S, L', O', d1, d2, d3, d4, d5, d6⟩ := op_two (g := g) (L := t.L0) (O := t.O0) (a := a) hk (by rw [hkey]; exact b1) (by rw [hkey]; exact b2)
  have hm : Int.tmod a.disk 2 = 0 := by rw [hd]; rfl
  have ht : t.d0 = ⟨t.s0, t.P, t.L0, t.O0⟩ := rfl
  have hu : u.d0 = ⟨t.s0, u.P, t.L0, t.O0⟩ := by unfold TS.d0; rw [h.s, h.L, h.O]
  have l1 := TS.act_len (g := g) (F0 := []) (F1 := F1) (a := a) h.l
  have l2 := TS.act_len (g := g) (F0 := []) (F1 := F1) (a := a) h.l2
  have et : t.act g [] F1 a = ⟨S, t.s1, callP t.P, L', t.L1, O', t.O1⟩ := by unfold TS.act; rw [if_pos hm, ht, d1]
  have eu : u.act g [] F1 a = ⟨S, u.s1, callP u.P, L', u.L1, O', u.O1⟩ := by unfold TS.act; rw [if_pos hm, hu, d2]
  rw [et] at l1
  rw [eu] at l2
  refine ⟨?_, by unfold TS.er; rw [if_pos hm, ht]; exact d6⟩
  rw [et, eu]
  have hw : wrap64 (n - k - 1) = n - ((k + 1 : Nat) : Int) := by
    rw [w64_id (by have := h.n; omega) (by omega)]; omega
  refine ⟨rfl, rfl, rfl, ?_, ?_, ⟨d3.trans h.d.1, d5.trans h.d.2.1, d4.trans h.d.2.2⟩, l1, l2, by omega⟩
  · show callP t.P = _
    rw [h.p]; rw [h.p] at t1
    unfold callP; rw [t1]
    simp only [Bool.false_eq_true, if_false]
    rw [hw]
  · show (callP u.P).off = false ∧ _
    unfold callP; rw [t2]
    exact h.q
theorem DurSt.trips {g : Geo} {F1 : List Flt} {n : Int} {k : Nat} {t u : TS} {a : ActV} (h : DurSt n k t u) (hk : 0 ≤ a.kind ∧ a.kind ≤ 3) (hkey : a.key = 0) (hd : a.disk = 0) (hlt : (k : Int) = n) :
    t.er g [] F1 a = 13 ∧ t.act g [] F1 a = { t with P := ⟨true, false, -1, 1⟩ } := by
  obtain ⟨r1, r2⟩ := h.rdy
  have t1 : trip t.P = true := by rw [h.p]; unfold trip; simp; omega
  have b1 := rdy_trip r1 t1
  have hm : Int.tmod a.disk 2 = 0 := by rw [hd]; rfl
  have hcp : callP t.P = ⟨true, false, -1, 1⟩ := by
    unfold callP; rw [t1, h.p]
    have e0 : n - (k : Int) = 0 := by omega
    simp only [if_true, e0]
    rw [show wrap64 (0 - 1) = -1 by decide +kernel, show wrap64 (0 + 1) = 1 by decide +kernel]
  have ho := op_err (g := g) (F := []) (d := t.d0) (a := a) (E := 13) (s' := t.s0) (P' := callP t.P) (f := noF) hk (by rw [hkey]; exact b1) (by decide)
  refine ⟨by unfold TS.er; rw [if_pos hm]; exact ho.1, ?_⟩
  unfold TS.act; rw [if_pos hm, ho.2, hcp]; rfl
/-- A disk behind a restart: whatever it reads is what the medium holds. -/
structure AftSt (s : DS) (P : Pow) : Prop where
  r : Rdy s P
  a : P.armed = false
theorem aft_read {L : List Sec} {s : DS} {P : Pow} {a : Int} (h : AftSt s P) (ha : inL L a = true) :
    dRdE [] s P L L 0 a = readE L a ∧ dRdB [] s P L L 0 a = readB L a ∧ AftSt (dRdS [] s P L L 0 a) (begD [] s P 0).P := by
  have t1 : trip P = false := by unfold trip; rw [h.a]; rfl
  have hb := rdy_beg h.r t1
  have he : readE L a = 0 ∨ readE L a = 15 := by unfold readE; rw [if_pos ha]; split <;> simp
  have e1 : rdE L L a noF = readE L a := by
    have k04 : ((0 : Int) = 4) = False := by simp
    have k05 : ((0 : Int) = 5) = False := by simp
    unfold rdE frO noF; rw [if_pos ha]; simp only [k04, k05, if_false]
    rcases he with he | he <;> rw [he] <;> simp
  have hf : frO a noF = a := by unfold frO noF; rfl
  unfold dRdE dRdB dRdS
  rw [hb]
  simp only [if_true]
  refine ⟨e1, ?_, ?_, ?_⟩
  · unfold rdB; rw [e1, hf]
    split
    · rfl
    · rename_i hne; unfold readB; rw [if_neg hne]
  · have hc : callP P = ⟨P.off, P.armed, wrap64 (P.left - 1), P.fails⟩ := by unfold callP; rw [t1]; rfl
    rw [hc]
    unfold rdS
    split
    · exact ⟨h.r.d, h.r.k, h.r.e, h.r.o⟩
    · exact ⟨h.r.d, h.r.k, h.r.e, h.r.o⟩
  · unfold callP; rw [t1]; exact h.a
section
variable {n0 X Y pw q0 q1 n rp r0 r1 m : Nat} {wB wr w' : World} {g : Geo} {F0 F1 : List Flt} {t u : TS}
theorem Duo.do0 (h : Duo n0 wB wr X Y pw q0 q1 n rp r0 r1 m g F0 F1 t u) (a : ActV) (hF0 : ∀ f ∈ F0, I64 f.to_) (hn0 : F0.length ≤ 9223372036854775807) (ho : t.O0.length ≤ 99000)
    (hdk : a.disk = 0) (ha : I64 a.at_) (hr : Rd wr n a.A (a.xs.map (Value.int .u8))) (hx : a.xs.length ≤ 100000) (hc : a.xs.length ≤ a.c) :
    Calls Try.prog 43 #[.agg #[.pointer (some ⟨pw, 0, none⟩), .pointer (some ⟨q0, 0, none⟩), .pointer (some ⟨q1, 0, none⟩)], .agg #[.int .u8 0, .int .u8 a.kind, .int .u64 a.key, .int .i64 a.at_, .slice a.A a.xs.length a.c, .bool a.force]] wr
      (fun e w' => e = .returned (.tuple #[.string (strOfNums (t.by_ g F0 F1 a)), .int .i64 (t.er g F0 F1 a)]) ∧ Duo n0 wB w' X Y pw q0 q1 n rp r0 r1 m g F0 F1 (t.act g F0 F1 a) u ∧ ∃ B : Bd, B.n = n ∧ KeptT DAT B wr w') := by
  have hm : Int.tmod a.disk 2 = 0 := by rw [hdk]; rfl
  have e1 : t.by_ g F0 F1 a = doBy g F0 t.d0 a := by unfold TS.by_; rw [if_pos hm]
  have e2 : t.er g F0 F1 a = doEr g F0 t.d0 a := by unfold TS.er; rw [if_pos hm]
  have e3 : t.act g F0 F1 a = ⟨(doC g F0 t.d0 a).s, t.s1, (doC g F0 t.d0 a).P, (doC g F0 t.d0 a).L, t.L1, (doC g F0 t.d0 a).O, t.O1⟩ := by unfold TS.act; rw [if_pos hm]
  obtain ⟨B, hB, hd, hs⟩ := h.st.first
  have hh := ddo_any (q0 := q0) (q1 := q1) (d := t.d0) a hd hF0 hn0 ho (.inl ⟨hm, rfl⟩) ha (by rw [hB]; exact hr) hx hc
  rw [hdk] at hh
  refine hh.mono ?_
  rintro e w' ⟨he, hd', hk⟩
  rw [e1, e2, e3]
  exact ⟨he, h.real (hs w' _ _ _ _ hd' hk) hk, B, hB, hk⟩
theorem Duo.want0 (h : Duo n0 wB wr X Y pw q0 q1 n rp r0 r1 m g F0 F1 t u) (a : ActV) (hF0 : ∀ f ∈ F0, I64 f.to_) (hn0 : F0.length ≤ 9223372036854775807) (ho : u.O0.length ≤ 99000)
    (hP : a.kind ≤ 3) (hdk : a.disk = 0) (ha : I64 a.at_) (hr : Rd wr m a.A (a.xs.map (Value.int .u8))) (hx : a.xs.length ≤ 100000) (hc : a.xs.length ≤ a.c) :
    Calls Try.prog 46 #[.pointer none, .agg #[.pointer (some ⟨r0, 0, none⟩), .pointer (some ⟨r1, 0, none⟩)], .agg #[.int .u8 0, .int .u8 a.kind, .int .u64 a.key, .int .i64 a.at_, .slice a.A a.xs.length a.c, .bool a.force]] wr
      (fun e w' => e = .returned (.tuple #[.string (strOfNums (u.by_ g F0 F1 a)), .int .i64 (u.er g F0 F1 a)]) ∧ Duo n0 wB w' X Y pw q0 q1 n rp r0 r1 m g F0 F1 t (u.act g F0 F1 a) ∧ ∃ C : Bd, C.n = m ∧ KeptT RDT C wr w') := by
  have hm : Int.tmod a.disk 2 = 0 := by rw [hdk]; rfl
  have e1 : u.by_ g F0 F1 a = doBy g F0 u.d0 a := by unfold TS.by_; rw [if_pos hm]
  have e2 : u.er g F0 F1 a = doEr g F0 u.d0 a := by unfold TS.er; rw [if_pos hm]
  have e3 : u.act g F0 F1 a = ⟨(doC g F0 u.d0 a).s, u.s1, (doC g F0 u.d0 a).P, (doC g F0 u.d0 a).L, u.L1, (doC g F0 u.d0 a).O, u.O1⟩ := by unfold TS.act; rw [if_pos hm]
  obtain ⟨B, hB, hd, hs⟩ := h.ref.first
  have hh := rwant_any (q0 := r0) (q1 := r1) (d := u.d0) none a hd hF0 hn0 ho (fun h7 => by omega) (.inl ⟨hm, rfl⟩) ha (by rw [hB]; exact hr) hx hc
  rw [hdk] at hh
  refine hh.mono ?_
  rintro e w' ⟨he, hd', hk⟩
  rw [e1, e2, e3]
  exact ⟨he, h.refs hB (hs w' _ _ _ _ hd' hk) hk, B, hB, hk⟩
theorem Duo.arm (h : Duo n0 wB wr X Y pw q0 q1 n rp r0 r1 m g F0 F1 t u) (k : Int) : Calls Try.prog 37 #[.pointer (some ⟨pw, 0, none⟩), .int .i64 k] wr fun e w' => e = .returned (.tuple #[]) ∧ Duo n0 wB w' X Y pw q0 q1 n rp r0 r1 m g F0 F1 { t with P := armP t.P k } u := by
  obtain ⟨B, _, hd, hs⟩ := h.st.first
  exact (arm_any k hd.p).mono (fun e w' hh => ⟨hh.1, h.real (hs w' _ _ _ _ (DPm.power hd hh.2.1 hh.2.2) (hh.2.2.sub (by unfold DAT; decide))) (hh.2.2.sub (us := DAT) (by unfold DAT; decide))⟩)
theorem Duo.on (h : Duo n0 wB wr X Y pw q0 q1 n rp r0 r1 m g F0 F1 t u) : Calls Try.prog 41 #[.pointer (some ⟨pw, 0, none⟩)] wr fun e w' => e = .returned (.tuple #[]) ∧ Duo n0 wB w' X Y pw q0 q1 n rp r0 r1 m g F0 F1 { t with P := { t.P with off := false } } u := by
  obtain ⟨B, _, hd, hs⟩ := h.st.first
  exact (don_any hd.p).mono (fun e w' hh => ⟨hh.1, h.real (hs w' _ _ _ _ (DPm.power hd hh.2.1 hh.2.2) (hh.2.2.sub (by unfold DAT; decide))) (hh.2.2.sub (us := DAT) (by unfold DAT; decide))⟩)
theorem Duo.restart0 (h : Duo n0 wB wr X Y pw q0 q1 n rp r0 r1 m g F0 F1 t u) (k : Int) (ho : t.O0.length ≤ 100000) : Calls Try.prog 40 #[.pointer (some ⟨q0, 0, none⟩), .int .i64 k] wr fun e w' => e = .returned (.int .i64 (rstE t.s0 t.P)) ∧ Duo n0 wB w' X Y pw q0 q1 n rp r0 r1 m g F0 F1 { t with s0 := rstS t.s0 t.P, L0 := rstLM g t.s0 t.P t.L0 t.O0 k, O0 := rstO t.s0 t.P t.O0 } u := by
  obtain ⟨B, _, hd, hs⟩ := h.st.first
  exact (drestart_any k hd ho).mono (fun e w' hh => ⟨hh.1, h.real (hs w' _ _ _ _ hh.2.1 hh.2.2) hh.2.2⟩)
theorem Duo.read0 (h : Duo n0 wB wr X Y pw q0 q1 n rp r0 r1 m g F0 F1 t u) (a : Int) (hn : F0.length ≤ 9223372036854775807) : Calls Try.prog 48 #[.pointer (some ⟨q0, 0, none⟩), .int .u64 0, .int .i64 a] wr fun e w' => ∃ v, e = .returned (.tuple #[v, .int .i64 (dRdE F0 t.s0 t.P t.L0 (playL g t.L0 t.O0) 0 a)]) ∧ Byt 5 w' v (dRdB F0 t.s0 t.P t.L0 (playL g t.L0 t.O0) 0 a) ∧
    Duo n0 wB w' X Y pw q0 q1 n rp r0 r1 m g F0 F1 { t with s0 := dRdS F0 t.s0 t.P t.L0 (playL g t.L0 t.O0) 0 a, P := (begD F0 t.s0 t.P 0).P } u := by
  obtain ⟨B, _, hd, hs⟩ := h.st.first
  refine (dread_any 0 a hd hn).mono ?_
  rintro e w' ⟨v, he, hv, hd', hk⟩
  exact ⟨v, he, hv, h.real (hs w' _ _ _ _ hd' hk) hk⟩
/-- The reference's first cache. -/
theorem Duo.cache (h : Duo n0 wB wr X Y pw q0 q1 n rp r0 r1 m g F0 F1 t u) (ho : u.O0.length ≤ 99000) : ∃ p, wr.cell? ⟨r0, 5, none⟩ = some (.pointer (some ⟨p, 0, none⟩)) ∧ r0 < wr.heap.size ∧
    (∀ a, Calls Try.prog 49 #[.pointer (some ⟨p, 0, none⟩), .int .i64 a] wr (ReadPost wr (norm (readB (playL g u.L0 u.O0) a)) (readE (playL g u.L0 u.O0) a))) ∧
    (∀ k, Calls Try.prog 47 #[.pointer (some ⟨p, 0, none⟩), .int .i64 k] wr fun e w' => e = .returned (.tuple #[]) ∧ Duo n0 wB w' X Y pw q0 q1 n rp r0 r1 m g F0 F1 t { u with L0 := playL g u.L0 (u.O0.take (cutN k u.O0.length)), O0 := [] }) := by
  obtain ⟨C, hC, hr, hs⟩ := h.ref.first
  obtain ⟨⟨p, FA, fc, hd⟩, ⟨R, hrr, hp⟩, hf, hsb, hB⟩ := hr
  refine ⟨p, (hd.cell 5 (by decide)).trans rfl, (IsT.own hd.obj).lt, fun a => rcread_any a hd.c hf (Nat.le_trans ho (by decide)), fun k => ?_⟩
  refine (rccut_any k hd.c hf hB (Nat.le_trans ho (by decide))).mono ?_
  rintro e w' ⟨he, hc, hk⟩
  refine ⟨he, h.refs hC (hs w' _ _ _ _ ⟨⟨p, FA, fc, hd.withC hk hc⟩, ⟨R, hrr, hp.keptT hk (by unfold RT; decide)⟩, hf.len (playL_len _ _ _), short_play _ hsb, Nat.le_trans hB hk.size⟩ (hk.sub rt_rdt)) (hk.sub rt_rdt)⟩
theorem Duo.fit (h : Duo n0 wB wr X Y pw q0 q1 n rp r0 r1 m g F0 F1 t u) : szN g = (t.L0.length : Int) := by
  obtain ⟨B, _, hd, _⟩ := h.st.first
  unfold szN; rw [if_pos ((validG_iff g).2 hd.f.v)]; exact hd.f.n.symm
theorem Duo.pending0 (h : Duo n0 wB wr X Y pw q0 q1 n rp r0 r1 m g F0 F1 t u) : Calls Try.prog 32 #[.pointer (some ⟨q0, 0, none⟩)] wr fun e w' => e = .returned (.int .i64 t.O0.length) ∧ wr = w' := by
  obtain ⟨B, _, hd, _⟩ := h.st.first; exact dpending_any hd
/-- A block of another type has changed. -/
theorem Duo.typed {ts : List TypeId} {B : Bd} (h : Duo n0 wB wr X Y pw q0 q1 n rp r0 r1 m g F0 F1 t u) (hk : KeptT ts B wr w') (hB : n0 ≤ B.n) (hz : B.n ≤ wr.heap.size) (h0 : 68 ∉ ts) (h1 : 83 ∉ ts)
    (ht : ∀ t, t ∈ [147, 105, 139, 150, 3, 76, 5] → t ∉ ts) (h2 : 129 ∉ ts) (h3 : 122 ∉ ts) (h4 : 124 ∉ ts)
    (hrt : ∀ t, t ∈ [119, 108, 144, 102, 5] → t ∉ ts) (h5 : 88 ∉ ts) (h6 : 95 ∉ ts) : Duo n0 wB w' X Y pw q0 q1 n rp r0 r1 m g F0 F1 t u :=
  ⟨⟨h.st.box.trans ((hk.below hz).mono hB), own_typed h.st.var hk h0, h.st.two.typed hk ht h2 h3 h4, h.st.le⟩, own_typed h.out hk h1, h.ref.typed hk hrt h5 h3 h6, h.le⟩
end
end Go.Proofs.Ytckdhhadlemakaa

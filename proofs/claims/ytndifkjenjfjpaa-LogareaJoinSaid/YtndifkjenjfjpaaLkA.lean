/-
  WHAT IS SHOWN: plain facts on logs: the log of sectors, valid logs, the sectors of a log. plain facts: lists of records in memory. plain facts on logs: what Scan reads from the sectors of a log that are cut, or of which one is lost; the longest log; what fits. what SameAll of tegularef27 returns for equal lists; what few and large of tegulalaw28, Next of logarea and of tegularef28 return. what few and large of tegulalaw28, Next of logarea and of tegularef28 return. what Next of logarea and of tegularef28 returns. what Valid of logarea returns. what Valid of tegularef28 returns. what Sectors of logarea returns. what Sectors of tegularef28 returns. what Scan of logarea and of tegularef28 returns. what Scan of tegularef28 returns. what Fits and Join of logarea and of tegularef28 return. awake of tegulalaw28 returns true. Conditions: as each theorem names them.
-/
import Derived.Test.YtndifkjenjfjpaaRecM
import Derived.Test.YtndifkjenjfjpaaRec25
import Derived.Test.YtndifkjenjfjpaaRec31
import Derived.Test.YtndifkjenjfjpaaRec32
import Derived.Deep.DeepCutAuto
import Derived.Test.YtndifkjenjfjpaaRec21
import Derived.Test.YtndifkjenjfjpaaRecB
import Derived.Test.YtndifkjenjfjpaaRec22
import Derived.WalkMore
import Derived.Test.YtndifkjenjfjpaaRecE
import Derived.Test.YtndifkjenjfjpaaRec34
namespace Go.Proofs.Ytndifkjenjfjpaa
set_option linter.unusedVariables false
open Go.RowKit

/-! ### the log of sectors -/
def stepOk (ls : List (List Int)) (gen a k : Nat) : Bool := decide ((decD (ls.drop a)).er = 0) && decide ((decD (ls.drop a)).r.gen = gen) && decide ((decD (ls.drop a)).r.seq = k + 1)
/-- What Scan has read after i steps: the records, the number of sectors. -/
def scanS (ls : List (List Int)) (gen : Nat) : Nat → List Rec × Nat
  | 0 => ([], 0)
  | i + 1 => if stepOk ls gen (scanS ls gen i).2 (scanS ls gen i).1.length = true then ((scanS ls gen i).1 ++ [(decD (ls.drop (scanS ls gen i).2)).r], (scanS ls gen i).2 + (decD (ls.drop (scanS ls gen i).2)).n) else scanS ls gen i
def scanD (ls : List (List Int)) (gen : Nat) : List Rec × Nat := scanS ls gen (ls.length + 1)
theorem dec_n {ls : List (List Int)} (h : (decD ls).er = 0) : 1 ≤ (decD ls).n ∧ (decD ls).n ≤ ls.length := by
  obtain ⟨h0, h1, r, hr, he, hd⟩ := dec_zero h
  have hl : ∀ i, i < (hdD ls).parts → i < ls.length := fun i hi => by
    obtain ⟨b, e, _⟩ := partE_get (h1 i hi)
    exact (List.getElem?_eq_some_iff.1 e).1
  have hle : (hdD ls).parts ≤ ls.length := by
    rcases Nat.lt_or_ge ls.length (hdD ls).parts with h2 | h2
    · have := hl _ h2; omega
    · exact h2
  have hlen := congrArg List.length he
  rw [encR_len, List.length_take] at hlen
  have hpos : 0 < nCh (payR r).length := by have := payR_pos r; unfold nCh; omega
  rw [hd]
  exact ⟨by show 1 ≤ (hdD ls).parts; omega, hle⟩
theorem decD_nil : decD [] = Dec.bad 5 := by
  have h : partE [] 0 = 5 := rfl
  unfold decD
  rw [h]; rfl
theorem stepOk_end {ls : List (List Int)} {gen a k : Nat} (h : ls.length ≤ a) : stepOk ls gen a k = false := by
  unfold stepOk
  rw [List.drop_eq_nil_of_le h, decD_nil]; rfl
theorem stepOk_iff {ls : List (List Int)} {gen a k : Nat} : stepOk ls gen a k = true ↔ (decD (ls.drop a)).er = 0 ∧ (decD (ls.drop a)).r.gen = gen ∧ (decD (ls.drop a)).r.seq = k + 1 := by
  unfold stepOk
  simp [and_assoc]
theorem scan_next {ls : List (List Int)} {gen i : Nat} {X : List Rec × Nat} (hX : scanS ls gen i = X) (h : stepOk ls gen X.2 X.1.length = true) : scanS ls gen (i + 1) = (X.1 ++ [(decD (ls.drop X.2)).r], X.2 + (decD (ls.drop X.2)).n) := by
  show (if _ then _ else _) = _
  rw [hX, if_pos h]
theorem scan_stay {ls : List (List Int)} {gen i : Nat} (h : stepOk ls gen (scanS ls gen i).2 (scanS ls gen i).1.length = false) : ∀ j, scanS ls gen (i + j) = scanS ls gen i
  | 0 => rfl
  | j + 1 => by
    show (if stepOk ls gen (scanS ls gen (i + j)).2 (scanS ls gen (i + j)).1.length = true then _ else _) = _
    rw [scan_stay h j, h, if_neg (by decide)]; exact scan_stay h j
theorem scan_bound {ls : List (List Int)} {gen : Nat} : ∀ i, (scanS ls gen i).1.length = i → i ≤ (scanS ls gen i).2 ∧ (scanS ls gen i).2 ≤ ls.length
  | 0, _ => ⟨Nat.le_refl _, Nat.zero_le _⟩
  | i + 1, h => by
    have h0 : scanS ls gen (i + 1) = if stepOk ls gen (scanS ls gen i).2 (scanS ls gen i).1.length = true then ((scanS ls gen i).1 ++ [(decD (ls.drop (scanS ls gen i).2)).r], (scanS ls gen i).2 + (decD (ls.drop (scanS ls gen i).2)).n) else scanS ls gen i := rfl
    have hle : ∀ i, (scanS ls gen i).1.length ≤ i := by
      intro i
      induction i with
      | zero => exact Nat.le_refl _
      | succ i ih =>
        have hs : scanS ls gen (i + 1) = if stepOk ls gen (scanS ls gen i).2 (scanS ls gen i).1.length = true then ((scanS ls gen i).1 ++ [(decD (ls.drop (scanS ls gen i).2)).r], (scanS ls gen i).2 + (decD (ls.drop (scanS ls gen i).2)).n) else scanS ls gen i := rfl
        rw [hs]
        split
        · rw [List.length_append, List.length_singleton]; omega
        · omega
    rw [h0] at h ⊢
    split at h
    · rename_i h1
      rw [if_pos h1]
      rw [List.length_append, List.length_singleton] at h
      obtain ⟨b1, b2⟩ := scan_bound (ls := ls) (gen := gen) i (by omega)
      have h2 := dec_n (stepOk_iff.1 h1).1
      rw [List.length_drop] at h2
      exact ⟨by show _ ≤ _ + _; omega, by show _ + _ ≤ _; omega⟩
    · have := hle i; omega
theorem scan_fin {ls : List (List Int)} {gen i : Nat} {X : List Rec × Nat} (hX : scanS ls gen i = X) (hl : X.1.length = i) (h : stepOk ls gen X.2 X.1.length = false) : scanD ls gen = X := by
  subst hX
  have hb := scan_bound i hl
  unfold scanD
  rw [show ls.length + 1 = i + (ls.length + 1 - i) by omega, scan_stay h]
/-! ### valid logs, their sectors -/
def okAt (l : List Rec) (i : Nat) : Bool := match l[i]? with
  | none => true
  | some r => validR r && decide (r.gen = (l.headD zRec).gen) && decide (r.seq = i + 1)
def logV (l : List Rec) : Bool := (List.range l.length).all (okAt l)
theorem okAt_get {l : List Rec} {i : Nat} (hi : i < l.length) : okAt l i = (validR l[i] && decide (l[i].gen = (l.headD zRec).gen) && decide (l[i].seq = i + 1)) := by
  unfold okAt; rw [List.getElem?_eq_getElem hi]
theorem range_all {f : Nat → Bool} {k : Nat} (h : (List.range k).all f = true) (hf : f k = true) : (List.range (k + 1)).all f = true := by
  rw [List.range_succ, List.all_append, h]; simp [hf]
theorem logV_no {l : List Rec} {k : Nat} (hk : k < l.length) (h : okAt l k = false) : logV l = false := by
  unfold logV
  rw [List.all_eq_false]
  exact ⟨k, List.mem_range.2 hk, by rw [h]; decide⟩
theorem logV_at {l : List Rec} (h : logV l = true) {i : Nat} (hi : i < l.length) : validR l[i] = true ∧ l[i].gen = (l.headD zRec).gen ∧ l[i].seq = i + 1 := by
  unfold logV at h
  rw [List.all_eq_true] at h
  have := h i (List.mem_range.2 hi)
  rw [okAt_get hi] at this
  simp only [Bool.and_eq_true, decide_eq_true_eq] at this
  exact ⟨this.1.1, this.1.2, this.2⟩
def secsL (l : List Rec) : List (List Int) := l.flatMap encR
theorem secsL_take {l : List Rec} {k : Nat} (h : k < l.length) : secsL (l.take (k + 1)) = secsL (l.take k) ++ encR l[k] := by
  unfold secsL; rw [List.take_succ_eq_append_getElem h, List.flatMap_append]; simp
theorem secsL_app (a b : List Rec) : secsL (a ++ b) = secsL a ++ secsL b := by unfold secsL; rw [List.flatMap_append]
theorem secsL_len {l : List Rec} (h : ∀ r ∈ l, validR r = true) : (secsL l).length ≤ l.length * 4096 := by
  unfold secsL
  induction l with
  | nil => simp
  | cons a l ih =>
    rw [List.flatMap_cons, List.length_append, List.length_cons, Nat.add_mul]
    have h1 := ih (fun r hr => h r (by simp [hr]))
    have h2 : (encR a).length ≤ 4096 := by rw [encR_len]; exact nCh_le (payR_len (validR_vld (h a (by simp))))
    omega
theorem logV_mem {l : List Rec} (h : logV l = true) : ∀ r ∈ l, validR r = true := fun r hr => by
  obtain ⟨i, hi, rfl⟩ := List.mem_iff_getElem.1 hr
  exact (logV_at h hi).1
/-- Scan of the sectors of a log and what follows them. -/
theorem scan_log {l : List Rec} (hv : logV l = true) (hok : ∀ r ∈ l, r.Ok) (tail : List (List Int)) : ∀ k, k ≤ l.length → scanS (secsL l ++ tail) (l.headD zRec).gen k = (l.take k, (secsL (l.take k)).length)
  | 0, _ => rfl
  | k + 1, hk => by
    have hk' : k < l.length := by omega
    have ih := scan_log hv hok tail k (by omega)
    have hsp : (secsL l ++ tail).drop (secsL (l.take k)).length = encR l[k] ++ (secsL (l.drop (k + 1)) ++ tail) := by
      have e : secsL l = secsL (l.take k) ++ (encR l[k] ++ secsL (l.drop (k + 1))) := by
        conv => lhs; rw [← List.take_append_drop k l, secsL_app, List.drop_eq_getElem_cons hk']
        unfold secsL
        rw [List.flatMap_cons]
      rw [e, List.append_assoc, List.drop_left, List.append_assoc]
    obtain ⟨h1, h2, h3⟩ := logV_at hv hk'
    have hd := dec_enc h1 (hok _ (List.getElem_mem hk')) (secsL (l.drop (k + 1)) ++ tail)
    have hst : stepOk (secsL l ++ tail) (l.headD zRec).gen (secsL (l.take k)).length (l.take k).length = true := by
      rw [stepOk_iff, hsp, hd]
      refine ⟨rfl, h2, ?_⟩
      rw [List.length_take]
      show l[k].seq = _
      rw [h3]; omega
    rw [scan_next ih hst]
    simp only
    rw [hsp, hd]
    simp only
    rw [secsL_take hk', List.length_append, List.take_succ_eq_append_getElem hk']
theorem scan_back {l : List Rec} (hv : logV l = true) (hok : ∀ r ∈ l, r.Ok) (tail : List (List Int)) (ht : stepOk tail (l.headD zRec).gen 0 l.length = false) : scanD (secsL l ++ tail) (l.headD zRec).gen = (l, (secsL l).length) := by
  have h := scan_log hv hok tail l.length (Nat.le_refl _)
  rw [List.take_length] at h
  refine scan_fin h rfl ?_
  simp only
  unfold stepOk at ht ⊢
  rw [List.drop_left]
  rw [List.drop_zero] at ht
  exact ht
/-- Scan for another generation. -/
theorem scan_other {l : List Rec} (hv : logV l = true) (hok : ∀ r ∈ l, r.Ok) {gen : Nat} (hg : ¬ gen = (l.headD zRec).gen) : scanD (secsL l) gen = ([], 0) := by
  refine scan_fin (i := 0) rfl rfl ?_
  simp only [List.length_nil]
  cases l with
  | nil =>
    have : secsL [] = [] := rfl
    rw [this]; exact stepOk_end (Nat.le_refl _)
  | cons a l =>
    have h1 := logV_at hv (i := 0) (by simp)
    have hs : secsL (a :: l) = encR a ++ secsL l := by unfold secsL; rw [List.flatMap_cons]
    have hd := dec_enc (r := a) h1.1 (hok a (by simp)) (secsL l)
    unfold stepOk
    rw [List.drop_zero, hs, hd]
    have : ¬ a.gen = gen := fun e => hg e.symm
    simp [this]
end Go.Proofs.Ytndifkjenjfjpaa
namespace Go.Proofs.Ytndifkjenjfjpaa
set_option linter.unusedVariables false
open Go.RowKit

/-- A record and where its parts lie. -/
structure RS where
  r : Rec
  A : Option Addr
  c : Nat
  D : Option Addr
  d : Nat
  N : Option Addr
  n : Nat
def RS.cells (x : RS) : List Value := [.int .u64 x.r.gen, .int .u64 x.r.seq, .slice x.A x.r.ws.length x.c, .slice x.D x.r.ms.length x.d, .slice x.N x.r.note.length x.n]
def flatR (l : List RS) : List Value := l.flatMap RS.cells
theorem flatR_len (l : List RS) : (flatR l).length = l.length * 5 := flat_len _ 5 (fun _ => rfl) l
theorem RS.one (x : RS) : ∀ u ∈ x.cells, u.oneCell' = true := fun u hu => by
  unfold RS.cells at hu
  simp only [List.mem_cons, List.not_mem_nil, or_false] at hu
  rcases hu with rfl | rfl | rfl | rfl | rfl <;> rfl
theorem flatR_one (l : List RS) : ∀ u ∈ flatR l, u.oneCell' = true := fun u hu => by
  unfold flatR at hu
  obtain ⟨x, _, hx⟩ := List.mem_flatMap.1 hu
  exact x.one u hx
/-- Records that can be read. -/
structure RcsR (w : World) (B : Nat) (A : Option Addr) (l : List RS) : Prop where
  rd : Rd w B A (flatR l)
  each : ∀ x ∈ l, RecR w B x.r x.A x.c x.D x.d x.N x.n
/-- Records that are owned. -/
structure RcsO (w : World) (base : Nat) (A : Option Addr) (c : Nat) (l : List RS) : Prop where
  own : w.ownsRow base 27 5 (.slice A l.length c) l.length (flatR l)
  each : ∀ x ∈ l, RecO w x.r x.A x.c x.D x.d x.N x.n
section
variable {w w' : World} {B C base : Nat} {A : Option Addr} {c : Nat} {l : List RS}
theorem RcsR.below (h : RcsR w B A l) (hb : Below C w w') (hC : B ≤ C) : RcsR w' B A l := ⟨h.rd.below hb hC, fun x hx => (h.each x hx).below hb hC⟩
theorem RcsR.more (h : RcsR w B A l) (hB : B ≤ C) : RcsR w C A l := ⟨h.rd.more hB, fun x hx => (h.each x hx).more hB⟩
theorem RcsR.up (h : RcsR w w.heap.size A l) (hb : Below w.heap.size w w') : RcsR w' w'.heap.size A l := (h.below hb (Nat.le_refl _)).more hb.size
theorem RcsR.nil (w : World) (B : Nat) (A : Option Addr) : RcsR w B A [] := ⟨Rd.nil_ _ _ _, fun x hx => by simp at hx⟩
theorem RcsO.rd (h : RcsO w base A c l) : RcsR w w.heap.size A l := ⟨Rd.of_own h.own, fun x hx => (h.each x hx).rec_⟩
theorem RcsO.below (h : RcsO w base A c l) (hb : Below w.heap.size w w') : RcsO w' base A c l := ⟨own_kept h.own (belKept0 (S := fun _ => False) hb) (fun _ _ h => h), fun x hx => (h.each x hx).below0 hb⟩
theorem RcsO.mono (h : RcsO w base A c l) (hb : C ≤ base) : RcsO w C A c l := ⟨own_mono h.own hb, h.each⟩
theorem RcsO.nil (w : World) (base : Nat) : RcsO w base none 0 [] := ⟨World.ownsRow_nil _ _ _ _, fun x hx => by simp at hx⟩
theorem Rd.rs (h : Rd w B A (flatR l)) {i : Nat} (hi : i < l.length) :
    ∃ g o, A = some ⟨g, o, none⟩ ∧ g < B ∧ w.cell? ⟨g, o + i * 5, none⟩ = some (.int .u64 (l[i]).r.gen) ∧ w.cell? ⟨g, o + i * 5 + 1, none⟩ = some (.int .u64 (l[i]).r.seq) ∧ w.cell? ⟨g, o + i * 5 + 2, none⟩ = some (.slice (l[i]).A (l[i]).r.ws.length (l[i]).c) ∧ w.cell? ⟨g, o + i * 5 + 3, none⟩ = some (.slice (l[i]).D (l[i]).r.ms.length (l[i]).d) ∧ w.cell? ⟨g, o + i * 5 + 4, none⟩ = some (.slice (l[i]).N (l[i]).r.note.length (l[i]).n) := by
  obtain ⟨g, o, e, hg, hc⟩ := Rd.flat (n := 5) (fun _ => rfl) (by decide) h hi
  exact ⟨g, o, e, hg, hc 0 _ rfl, hc 1 _ rfl, hc 2 _ rfl, hc 3 _ rfl, hc 4 _ rfl⟩
theorem RecO.grown {r : Rec} {A0 D N : Option Addr} {c0 d n : Nat} {v : Value} {m : Nat} {xs : List Value} (h : RecO w r A0 c0 D d N n) (ho : w.ownsRow base 27 5 v m xs) (hg : w.grownBy w' v.ownBlock) : RecO w' r A0 c0 D d N n := by
  refine ⟨h.ws.kept hg (own_apart h.ws ho (by decide)), h.ms.kept hg (own_apart h.ms ho (by decide)), ?_⟩
  refine h.note.kept (S := fun k => v.ownBlock = some k) ⟨hg.os, hg.tape, hg.output, hg.size, fun k hk hS => hg.block k hk (fun e => hS e.symm)⟩ (fun k hk _ cur' fr e => ?_)
  have hk' : v.ownBlock = some k := hk
  rcases ho.2 with ⟨e1, _⟩ | ⟨g, cap, cur2, e1, _, hgg, _⟩
  · rw [e1] at hk'; cases hk'
  · rw [e1] at hk'
    obtain rfl : g = k := by simpa [Value.ownBlock] using hk'
    rw [hgg] at e; injection e with e; injection e with _ h3; exact absurd h3 (by decide)
theorem RcsO.push {A' : Option Addr} {c' : Nat} {x : RS} {tmp : Obj} (h : RcsO w base A c l) (hx : RecO w x.r x.A x.c x.D x.d x.N x.n)
    (hown : w'.ownsRow base 27 5 (.slice A' (l.length + 1) c') (l.length + 1) (flatR l ++ x.cells)) (hg : (w.alloc tmp).grownBy w' (Value.slice A l.length c).ownBlock) : RcsO w' base A' c' (l ++ [x]) := by
  have hb : Below w.heap.size w (w.alloc tmp) := (Below.refl _ _).alloc (Nat.le_refl _) _
  refine ⟨?_, fun y hy => ?_⟩
  · unfold flatR
    rw [List.length_append, List.flatMap_append]
    simpa [flatR] using hown
  · have hy' : RecO w y.r y.A y.c y.D y.d y.N y.n := by
      rcases List.mem_append.1 hy with hy | hy
      · exact h.each y hy
      · simp at hy; subst hy; exact hx
    exact (hy'.below0 hb).grown (h.own.alloc tmp) hg
end
/-- A record with few parts. -/
structure Tiny (r : Rec) : Prop where
  ws : r.ws.length ≤ 1000000
  ms : r.ms.length ≤ 1000000
  note : r.note.length ≤ 1000000
theorem short_tiny {r : Rec} (h : shortR r = true) : Tiny r := by
  unfold shortR at h
  simp only [Bool.and_eq_true, decide_eq_true_eq] at h
  exact ⟨by omega, by omega, by omega⟩
theorem info_rec : (Try.prog.info? 27).map (fun i => (i.zero, i.size, i.bytes)) = some (some (.agg #[.int .u64 0, .int .u64 0, .slice none 0 0, .slice none 0 0, .slice none 0 0]), 5, 88) := by kernel_rfl
end Go.Proofs.Ytndifkjenjfjpaa
namespace Go.Proofs.Ytndifkjenjfjpaa
set_option linter.unusedVariables false
open Go.RowKit

/-- Records with the numbers of a log. -/
def LogG (l : List Rec) (gen : Nat) : Prop := ∀ i (hi : i < l.length), validR l[i] = true ∧ l[i].gen = gen ∧ l[i].seq = i + 1
theorem logV_G {l : List Rec} (h : logV l = true) : LogG l (l.headD zRec).gen := fun _ hi => logV_at h hi
theorem LogG.take {l : List Rec} {gen : Nat} (h : LogG l gen) (n : Nat) : LogG (l.take n) gen := fun i hi => by
  rw [List.length_take] at hi
  rw [List.getElem_take]
  exact h i (by omega)
theorem scan_G {l : List Rec} {gen : Nat} (hv : LogG l gen) (hok : ∀ r ∈ l, r.Ok) (tail : List (List Int)) : ∀ k, k ≤ l.length → scanS (secsL l ++ tail) gen k = (l.take k, (secsL (l.take k)).length)
  | 0, _ => rfl
  | k + 1, hk => by
    have hk' : k < l.length := by omega
    have ih := scan_G hv hok tail k (by omega)
    have hsp : (secsL l ++ tail).drop (secsL (l.take k)).length = encR l[k] ++ (secsL (l.drop (k + 1)) ++ tail) := by
      have e : secsL l = secsL (l.take k) ++ (encR l[k] ++ secsL (l.drop (k + 1))) := by
        conv => lhs; rw [← List.take_append_drop k l, secsL_app, List.drop_eq_getElem_cons hk']
        unfold secsL
        rw [List.flatMap_cons]
      rw [e, List.append_assoc, List.drop_left, List.append_assoc]
    obtain ⟨h1, h2, h3⟩ := hv k hk'
    have hd := dec_enc h1 (hok _ (List.getElem_mem hk')) (secsL (l.drop (k + 1)) ++ tail)
    have hst : stepOk (secsL l ++ tail) gen (secsL (l.take k)).length (l.take k).length = true := by
      rw [stepOk_iff, hsp, hd]
      refine ⟨rfl, h2, ?_⟩
      rw [List.length_take]
      show l[k].seq = _
      rw [h3]; omega
    rw [scan_next ih hst]
    simp only
    rw [hsp, hd]
    simp only
    rw [secsL_take hk', List.length_append, List.take_succ_eq_append_getElem hk']
theorem scan_Gb {l : List Rec} {gen : Nat} (hv : LogG l gen) (hok : ∀ r ∈ l, r.Ok) (tail : List (List Int)) (ht : stepOk tail gen 0 l.length = false) : scanD (secsL l ++ tail) gen = (l, (secsL l).length) := by
  have h := scan_G hv hok tail l.length (Nat.le_refl _)
  rw [List.take_length] at h
  refine scan_fin h rfl ?_
  simp only
  unfold stepOk at ht ⊢
  rw [List.drop_left]
  rw [List.drop_zero] at ht
  exact ht
/-- Scan for a generation that is not the first record's. -/
theorem scan_no {a : Rec} {gen : Nat} (hv : validR a = true) (hok : a.Ok) (hg : ¬ a.gen = gen) (tail : List (List Int)) : scanD (encR a ++ tail) gen = ([], 0) := by
  refine scan_fin (i := 0) rfl rfl ?_
  simp only [List.length_nil]
  have hd := dec_enc hv hok tail
  unfold stepOk
  rw [List.drop_zero, hd]
  simp [hg]
theorem set_dec_tail {a : Rec} (hv : validR a = true) (hok : a.Ok) {k : Nat} (hk : k < (encR a).length) {x : List Int} {tail : List (List Int)} (h : (decD ((encR a).set k x ++ tail)).er = 0) : (insD x).er = 0 := by
  obtain ⟨h0, h1, _⟩ := dec_zero h
  have hl : ((encR a).set k x).length = (encR a).length := List.length_set
  have hx : ((encR a).set k x ++ tail)[k]? = some x := by rw [List.getElem?_append_left (by rw [hl]; exact hk), List.getElem?_set_self hk]
  by_cases hk0 : k = 0
  · subst hk0
    obtain ⟨b, e, h2, _⟩ := partE_get h0
    rw [hx] at e; injection e with e; subst e
    exact h2
  · obtain ⟨s, ch, hs, hi, _⟩ := enc_get (k := 0) (by omega) hv hok
    have hs' : ((encR a).set k x ++ tail)[0]? = some s := by rw [List.getElem?_append_left (by rw [hl]; omega), List.getElem?_set_ne hk0, hs]
    have hh := hdD_get hs'
    rw [hi] at hh
    rw [hh] at h1
    obtain ⟨b, e, h2, _⟩ := partE_get (h1 k hk)
    rw [hx] at e; injection e with e; subst e
    exact h2
theorem take_dec {a : Rec} (hv : validR a = true) (hok : a.Ok) {k : Nat} (hk : k < (encR a).length) : ¬ (decD ((encR a).take k)).er = 0 := fun h => by
  obtain ⟨h3, h4, _⟩ := dec_zero h
  have hnone : ((encR a).take k)[k]? = none := by rw [List.getElem?_take]; simp
  by_cases hk0 : k = 0
  · subst hk0
    obtain ⟨t', e, _⟩ := partE_get h3
    rw [hnone] at e; cases e
  · obtain ⟨s0, c0, hs0, hi0, _⟩ := enc_get (k := 0) (by omega) hv hok
    have hs' : ((encR a).take k)[0]? = some s0 := by rw [List.getElem?_take, if_pos (by omega), hs0]
    have hh := hdD_get hs'
    rw [hi0] at hh
    rw [hh] at h4
    obtain ⟨t', e, _⟩ := partE_get (h4 k hk)
    rw [hnone] at e; cases e
/-- The sectors of a log that is cut, or of which one is lost. -/
def cutL (ls : List (List Int)) (k : Nat) (lose : Bool) : List (List Int) := if lose then ls.set k [] else ls.take k
theorem cut_scan {l : List Rec} (hv : logV l = true) (hok : ∀ r ∈ l, r.Ok) {k i : Nat} (hi : i < l.length) (h1 : (secsL (l.take i)).length ≤ k) (h2 : k < (secsL (l.take (i + 1))).length) (lose : Bool) :
    scanD (cutL (secsL l) k lose) (l.headD zRec).gen = (l.take i, (secsL (l.take i)).length) := by
  have hG := logV_G hv
  obtain ⟨hvi, _, _⟩ := hG i hi
  have hoi := hok _ (List.getElem_mem hi)
  have e : secsL l = secsL (l.take i) ++ (encR l[i] ++ secsL (l.drop (i + 1))) := by
    conv => lhs; rw [← List.take_append_drop i l, secsL_app, List.drop_eq_getElem_cons hi]
    unfold secsL
    rw [List.flatMap_cons]
  rw [secsL_take hi, List.length_append] at h2
  obtain ⟨j, rfl⟩ : ∃ j, k = (secsL (l.take i)).length + j := ⟨k - (secsL (l.take i)).length, by omega⟩
  have hj : j < (encR l[i]).length := by omega
  have hst : ∀ ls, ¬ (decD ls).er = 0 → stepOk ls (l.headD zRec).gen 0 (l.take i).length = false := fun ls h => by
    unfold stepOk
    rw [List.drop_zero, decide_eq_false h]; rfl
  have hoki : ∀ r ∈ l.take i, r.Ok := fun r hr => hok r (List.mem_of_mem_take hr)
  cases lose with
  | true =>
    have hc : cutL (secsL l) ((secsL (l.take i)).length + j) true = secsL (l.take i) ++ ((encR l[i]).set j [] ++ secsL (l.drop (i + 1))) := by
      unfold cutL
      rw [if_pos rfl, e, List.set_append_right _ _ (by omega), Nat.add_sub_cancel_left, List.set_append_left _ _ hj]
    rw [hc]
    exact scan_Gb (hG.take i) hoki _ (hst _ (fun h => absurd (set_dec_tail hvi hoi hj h) (by decide)))
  | false =>
    have hc : cutL (secsL l) ((secsL (l.take i)).length + j) false = secsL (l.take i) ++ (encR l[i]).take j := by
      unfold cutL
      rw [if_neg (by decide), e, List.take_append, List.take_of_length_le (by omega), Nat.add_sub_cancel_left, List.take_append_of_le_length (by omega)]
    rw [hc]
    exact scan_Gb (hG.take i) hoki _ (hst _ (take_dec hvi hoi hj))
/-- What Fits says. -/
def fitB (area used : Int) (r : Rec) : Bool := validR r && decide (0 ≤ area) && decide (0 ≤ used) && decide (used ≤ area) && decide (((encR r).length : Int) ≤ area - used)
/-! ### the longest log -/
structure LS where
  A : Option Addr
  l : List RS
  c : Nat
def LS.v (x : LS) : Value := .slice x.A x.l.length x.c
/-- Logs that can be read. -/
structure LgsR (w : World) (B : Nat) (A : Option Addr) (ls : List LS) : Prop where
  rd : Rd w B A (ls.map LS.v)
  each : ∀ x ∈ ls, RcsR w B x.A x.l
theorem LgsR.up {w w' : World} {A : Option Addr} {ls : List LS} (h : LgsR w w.heap.size A ls) (hb : Below w.heap.size w w') : LgsR w' w'.heap.size A ls := ⟨(h.rd.below hb (Nat.le_refl _)).more hb.size, fun x hx => (h.each x hx).up hb⟩
theorem lgs_at {w : World} {B : Nat} {A : Option Addr} {ls : List LS} (h : LgsR w B A ls) {k : Nat} (hk : k < ls.length) : ∃ g o, A = some ⟨g, o, none⟩ ∧ g < B ∧ w.cell? ⟨g, o + k, none⟩ = some (.slice ls[k].A ls[k].l.length ls[k].c) ∧ RcsR w B ls[k].A ls[k].l := by
  obtain ⟨g, o, e, hg, hc⟩ := h.rd k ls[k].v (by rw [List.getElem?_map, List.getElem?_eq_getElem hk]; rfl)
  exact ⟨g, o, e, hg, hc, h.each _ (List.getElem_mem hk)⟩
def noLog : LS := ⟨none, [], 0⟩
def better (b x : LS) : Bool := logV (x.l.map RS.r) && decide (b.l.length < x.l.length)
def joinS (ls : List LS) : LS := ls.foldl (fun b x => if better b x then x else b) noLog
theorem joinS_take {ls : List LS} {k : Nat} (h : k < ls.length) : joinS (ls.take (k + 1)) = if better (joinS (ls.take k)) ls[k] then ls[k] else joinS (ls.take k) := by
  unfold joinS
  rw [List.take_succ_eq_append_getElem h, List.foldl_append]
  rfl
theorem joinS_mem (ls : List LS) : joinS ls = noLog ∨ joinS ls ∈ ls := by
  have key : ∀ (ls : List LS) (b : LS), ls.foldl (fun b x => if better b x then x else b) b = b ∨ ls.foldl (fun b x => if better b x then x else b) b ∈ ls := by
    intro ls
    induction ls with
    | nil => intro b; exact .inl rfl
    | cons a ls ih =>
      intro b
      rw [List.foldl_cons]
      rcases ih (if better b a then a else b) with h | h
      · by_cases hb : better b a = true
        · rw [if_pos hb] at h ⊢
          rw [h]; exact .inr (List.mem_cons_self)
        · rw [if_neg hb] at h ⊢
          exact .inl h
      · exact .inr (List.mem_cons_of_mem _ h)
  exact key ls noLog
end Go.Proofs.Ytndifkjenjfjpaa
namespace Go.Proofs.Ytndifkjenjfjpaa
set_option linter.unusedVariables false
open Go.RowKit

set_option maxRecDepth 100000 in
set_option maxHeartbeats 2000000 in
theorem sameall_any (la lb : List RS) (he : la.map RS.r = lb.map RS.r) (ht : ∀ x ∈ la, Tiny x.r) (A D : Option Addr) (c d : Nat) (w : World) (ha : RcsR w w.heap.size A la) (hb : RcsR w w.heap.size D lb) (hl : la.length ≤ 1000000) :
    Calls Try.prog 36 #[.slice A la.length c, .slice D lb.length d] w fun e w' => e = .returned (.bool true) ∧ Below w.heap.size w w' := by
  have HA := Lib.hid ha
  have HB := Lib.hid hb
  have HT := Lib.hid ht
  have hlen : lb.length = la.length := by have := congrArg List.length he; rw [List.length_map, List.length_map] at this; exact this.symm
  have HE := Lib.hid he
  have HL := Lib.hid hlen
  rw [hlen]
  clear ha hb ht he hlen
  go_enter Try.func36, Try.ntmps36
  go_wp2
  go_loopw [5] (fun i wr => ∃ k : Nat, k ≤ la.length ∧ i = .int .i64 k ∧ Hid (Below w.heap.size w wr)) (fun i _ => la.length - (intOf i).toNat)
  case atStart => exact ⟨0, Nat.zero_le _, rfl, Below.refl _ _⟩
  case round =>
    obtain ⟨k, hk, rfl, HBR⟩ := hrel
    by_cases hlt : k < la.length
    · have hlt2 : k < lb.length := by rw [HL.out]; exact hlt
      have hx := (HA.out.up HBR.out).each _ (List.getElem_mem hlt)
      have hy := (HB.out.up HBR.out).each _ (List.getElem_mem hlt2)
      have hr : lb[k].r = la[k].r := by
        have h1 : (la.map RS.r)[k]? = (lb.map RS.r)[k]? := by rw [HE.out]
        rw [List.getElem?_map, List.getElem?_map, List.getElem?_eq_getElem hlt, List.getElem?_eq_getElem hlt2] at h1
        injection h1 with h1; exact h1.symm
      have htk := HT.out _ (List.getElem_mem hlt)
      obtain ⟨g1, o1, rfl, hg1, a0, a1, a2, a3, a4⟩ := (HA.out.up HBR.out).rd.rs hlt
      obtain ⟨g2, o2, rfl, hg2, b0, b1, b2, b3, b4⟩ := (HB.out.up HBR.out).rd.rs hlt2
      rw [hr] at b0 b1 b2 b3 b4 hy
      generalize la[k] = x at *
      generalize lb[k] = y at *
      have HSA := Lib.hid (fun W (hW : Below wr.heap.size wr W) => same_rec x.r x.A x.D x.N y.A y.D y.N x.c x.d x.n y.c y.d y.n W (hx.up hW) (hy.up hW) htk.ws htk.ms htk.note)
      clear hx hy hr htk hlt2
      have c0 := Held.cell a0 hg1; have c1 := Held.cell a1 hg1; have c2 := Held.cell a2 hg1; have c3 := Held.cell a3 hg1; have c4 := Held.cell a4 hg1
      have d0 := Held.cell b0 hg2; have d1 := Held.cell b1 hg2; have d2 := Held.cell b2 hg2; have d3 := Held.cell b3 hg2; have d4 := Held.cell b4 hg2
      clear a0 a1 a2 a3 a4 b0 b1 b2 b3 b4
      go_wp2_with fail
      have hne : Nonempty (Held (Below wr.heap.size wr)) := ⟨⟨_, (Held.drew_below (Nat.le_refl _))⟩⟩
      refine wp_region_heldq (S := (Below wr.heap.size wr)) (by kernel_rfl) (by kernel_rfl) (Held.drew_below (Nat.le_refl _)) ?_
      repeat (go_big_quiet_step ((go_at_call 29; exact Calls.held_below (Nat.le_refl _) (HSA.out _ (Held.h _)))))
      refine wpQuiet_nil ?_
      intro _ hw'
      obtain ⟨sq, hw''⟩ := hw'
      subst hw''
      clear hne
      have HB2 := Lib.hid (HBR.out.trans (sq.h.mono HBR.out.size))
      clear HSA c0 c1 c2 c3 c4 d0 d1 d2 d3 d4
      go_wp2
      go_roundw
      case rel => exact ⟨k + 1, hlt, by go_num, HB2⟩
      case measure => simp [intOf]; omega
    · obtain rfl : k = la.length := by omega
      go_wp2
      go_ret
      exact ⟨rfl, HBR.out⟩
end Go.Proofs.Ytndifkjenjfjpaa
namespace Go.Proofs.Ytndifkjenjfjpaa
set_option linter.unusedVariables false
open Go.RowKit

def fewL (l : List Rec) : Bool := l.all shortR && decide (l.length ≤ 20)
def lrgL (ls : List (List Int)) : Bool := ls.any (fun b => decide (200 < b.length)) || decide (120 < ls.length)
def nextN (len gen : Nat) : Nat := if 4294967296 ≤ gen ∨ 4294967295 ≤ len then 0 else gen * 4294967296 + len + 1
set_option maxRecDepth 100000 in
set_option maxHeartbeats 1000000 in
theorem few_any (l : List RS) (A : Option Addr) (c : Nat) (w : World) (h : RcsR w w.heap.size A l) (hl : l.length ≤ 9223372036854775807) :
    Calls Try.prog 37 #[.slice A l.length c] w fun e w' => e = .returned (.bool (fewL (l.map RS.r))) ∧ Below w.heap.size w w' := by
  have HH := Lib.hid h
  clear h
  go_enter Try.func37, Try.ntmps37
  go_wp2
  go_loopw [6] (fun i wr => ∃ k : Nat, k ≤ l.length ∧ i = .int .i64 k ∧ Hid (((l.map RS.r).take k).all shortR = true) ∧ Hid (Below w.heap.size w wr)) (fun i _ => l.length - (intOf i).toNat)
  case atStart => exact ⟨0, Nat.zero_le _, rfl, rfl, Below.refl _ _⟩
  case round =>
    obtain ⟨k, hk, rfl, HT, HBR⟩ := hrel
    by_cases hlt : k < l.length
    · obtain ⟨g1, o1, rfl, hg1, a0, a1, a2, a3, a4⟩ := (HH.out.up HBR.out).rd.rs hlt
      have hxl : k < (l.map RS.r).length := by simpa using hlt
      have hxe : (l.map RS.r)[k] = l[k].r := by simp
      have HY : Hid (shortR l[k].r = true → ((l.map RS.r).take (k + 1)).all shortR = true) := fun h => by
        rw [List.take_succ_eq_append_getElem hxl, List.all_append, HT.out, hxe]; simp [h]
      have HN : Hid (shortR l[k].r = false → fewL (l.map RS.r) = false) := fun h => by
        unfold fewL
        rw [Bool.and_eq_false_iff]
        left
        rw [List.all_eq_false]
        exact ⟨_, List.getElem_mem hxl, by rw [hxe, h]; decide⟩
      generalize l[k] = x at *
      clear hxl hxe
      go_wp2_with fail
      refine (short_any x.r x.A x.D x.N x.c x.d x.n _).mono ?_
      rintro e w2 ⟨rfl, hb2⟩
      have HB2 := Lib.hid (HBR.out.trans (hb2.mono HBR.out.size))
      clear hb2 a0 a1 a2 a3 a4
      obtain hs | hs : shortR x.r = false ∨ shortR x.r = true := by cases shortR x.r; exact .inl rfl; exact .inr rfl
      · rw [hs]
        have HD := Lib.hid (HN.out hs)
        clear hs
        go_wp2
        go_ret
        exact ⟨by rw [HD.out]; rfl, HB2.out⟩
      · rw [hs]
        have HT2 := Lib.hid (HY.out hs)
        clear hs
        go_wp2
        go_roundw
        case rel => exact ⟨k + 1, hlt, by go_num, HT2, HB2⟩
        case measure => simp [intOf]; omega
    · obtain rfl : k = l.length := by omega
      have hT := HT.out
      rw [show l.length = (l.map RS.r).length by simp, List.take_length] at hT
      by_cases h20 : l.length ≤ 20
      · have HD : Hid (fewL (l.map RS.r) = true) := by unfold Hid fewL; rw [hT]; simp; omega
        go_wp2
        go_ret
        exact ⟨by rw [HD.out]; first | rfl | (simp; omega), HBR.out⟩
      · have HD : Hid (fewL (l.map RS.r) = false) := by unfold Hid fewL; rw [hT]; simp; omega
        go_wp2
        go_ret
        exact ⟨by rw [HD.out]; first | rfl | (simp; omega), HBR.out⟩
set_option maxHeartbeats 1000000 in
theorem large_any (ss : List Sl) (A : Option Addr) (c : Nat) (w : World) (h : SlsR w w.heap.size A ss) (hl : ss.length ≤ 9223372036854775807) (hx : ∀ s ∈ ss, s.xs.length ≤ 9223372036854775807) :
    Calls Try.prog 33 #[.slice A ss.length c] w fun e w' => e = .returned (.bool (lrgL (ss.map Sl.xs))) ∧ Below w.heap.size w w' := by
  have HH := Lib.hid h
  have HX := Lib.hid hx
  clear h hx
  go_enter Try.func33, Try.ntmps33
  go_wp2
  go_loopw [6] (fun i wr => ∃ k : Nat, k ≤ ss.length ∧ i = .int .i64 k ∧ Hid (((ss.map Sl.xs).take k).any (fun b => decide (200 < b.length)) = false) ∧ wr = w) (fun i _ => ss.length - (intOf i).toNat)
  case atStart => exact ⟨0, Nat.zero_le _, rfl, rfl, rfl⟩
  case round =>
    obtain ⟨k, hk, rfl, HT, rfl⟩ := hrel
    by_cases hlt : k < ss.length
    · obtain ⟨g1, o1, rfl, hg1, j1, hr1⟩ := sl_at HH.out hlt
      have hxl : k < (ss.map Sl.xs).length := by simpa using hlt
      have hxe : (ss.map Sl.xs)[k] = ss[k].xs := by simp
      have hxb := HX.out _ (List.getElem_mem hlt)
      by_cases h2 : ss[k].xs.length ≤ 200
      · have HT2 : Hid (((ss.map Sl.xs).take (k + 1)).any (fun b => decide (200 < b.length)) = false) := by
          unfold Hid
          rw [List.take_succ_eq_append_getElem hxl, List.any_append, HT.out, hxe]
          simp; omega
        generalize ss[k] = s at *
        clear hxl hxe hr1
        go_wp2
        go_roundw
        case rel => exact ⟨k + 1, hlt, by go_num, HT2, by trivial⟩
        case measure => simp [intOf]; omega
      · have HD : Hid (lrgL (ss.map Sl.xs) = true) := by
          unfold Hid lrgL
          rw [Bool.or_eq_true]
          left
          rw [List.any_eq_true]
          exact ⟨_, List.getElem_mem hxl, by rw [hxe]; simp; omega⟩
        generalize ss[k] = s at *
        clear hxl hxe hr1
        go_wp2
        go_ret
        exact ⟨by rw [HD.out]; rfl, Below.refl _ _⟩
    · obtain rfl : k = ss.length := by omega
      have hT := HT.out
      rw [show ss.length = (ss.map Sl.xs).length by simp, List.take_length] at hT
      by_cases h100 : ss.length ≤ 120
      · have HD : Hid (lrgL (ss.map Sl.xs) = false) := by unfold Hid lrgL; rw [hT]; simp; omega
        go_wp2
        go_ret
        exact ⟨by rw [HD.out]; first | rfl | (simp; omega), Below.refl _ _⟩
      · have HD : Hid (lrgL (ss.map Sl.xs) = true) := by unfold Hid lrgL; rw [hT]; simp; omega
        go_wp2
        go_ret
        exact ⟨by rw [HD.out]; first | rfl | (simp; omega), Below.refl _ _⟩
end Go.Proofs.Ytndifkjenjfjpaa
namespace Go.Proofs.Ytndifkjenjfjpaa
set_option linter.unusedVariables false
open Go.RowKit

set_option maxRecDepth 100000 in
theorem next_any (n : Nat) (hn : n ≤ 9223372036854775807) (gen : Nat) (hg : gen < 2 ^ 64) (A : Option Addr) (c : Nat) (w : World) :
    Calls Try.prog 44 #[.slice A n c, .int .u64 gen] w fun e w' => e = .returned (.int .u64 (nextN n gen : Nat)) ∧ w' = w := by
  have hgb : gen ≤ 18446744073709551615 := by omega
  clear hg
  by_cases h1 : 4294967296 ≤ gen
  · have HD : Hid (nextN n gen = 0) := by unfold Hid nextN; rw [if_pos (.inl h1)]
    go_enter Try.func44, Try.ntmps44
    go_wp2
    go_ret
    exact ⟨by rw [HD.out]; rfl, rfl⟩
  · by_cases h2 : 4294967295 ≤ n
    · have HD : Hid (nextN n gen = 0) := by unfold Hid nextN; rw [if_pos (.inr h2)]
      go_enter Try.func44, Try.ntmps44
      go_wp2
      go_ret
      exact ⟨by rw [HD.out]; rfl, rfl⟩
    · have HD : Hid (nextN n gen = gen * 4294967296 + n + 1) := by unfold Hid nextN; rw [if_neg (by omega)]
      go_enter Try.func44, Try.ntmps44
      go_wp2
      go_ret
      exact ⟨by rw [HD.out]; first | rfl | (simp; done), rfl⟩
set_option maxRecDepth 100000 in
theorem rnext_any (n : Nat) (hn : n ≤ 9223372036854775807) (gen : Nat) (hg : gen < 2 ^ 64) (A : Option Addr) (c : Nat) (w : World) :
    Calls Try.prog 45 #[.slice A n c, .int .u64 gen] w fun e w' => e = .returned (.int .u64 (nextN n gen : Nat)) ∧ w' = w := by
  have HG : Hid (gen ≤ 18446744073709551615) := by unfold Hid; omega
  clear hg
  by_cases h1 : 4294967296 ≤ gen
  · have HD : Hid (nextN n gen = 0) := by unfold Hid nextN; rw [if_pos (.inl h1)]
    have hd : decide ((4294967296 : Int) ≤ (gen : Int)) = true := by simp; omega
    clear h1
    go_enter Try.func45, Try.ntmps45
    go_wp2
    go_ret
    exact ⟨by rw [HD.out]; rfl, rfl⟩
  · by_cases h2 : 4294967295 ≤ n
    · have HD : Hid (nextN n gen = 0) := by unfold Hid nextN; rw [if_pos (.inr h2)]
      have hd : decide ((4294967296 : Int) ≤ (gen : Int)) = false := by simp; omega
      have hd2 : decide ((4294967295 : Int) ≤ (n : Int)) = true := by simp; omega
      clear h1 h2
      go_enter Try.func45, Try.ntmps45
      go_wp2
      go_ret
      exact ⟨by rw [HD.out]; rfl, rfl⟩
    · have HD : Hid (nextN n gen = gen * 4294967296 + n + 1) := by unfold Hid nextN; rw [if_neg (by omega)]
      have hd : decide ((4294967296 : Int) ≤ (gen : Int)) = false := by simp; omega
      have hd2 : decide ((4294967295 : Int) ≤ (n : Int)) = false := by simp; omega
      have b1 : gen < 4294967296 := by omega
      have b2 : n < 4294967295 := by omega
      clear h1 h2
      go_enter Try.func45, Try.ntmps45
      go_wp2
      go_ret
      exact ⟨by rw [HD.out]; first | rfl | (simp; done), rfl⟩
end Go.Proofs.Ytndifkjenjfjpaa
namespace Go.Proofs.Ytndifkjenjfjpaa
set_option linter.unusedVariables false
open Go.RowKit

theorem hd_get {l : List Rec} (h : 0 < l.length) : l.headD zRec = l[0] := by cases l with | nil => simp at h | cons a l => rfl
set_option maxRecDepth 100000 in
set_option maxHeartbeats 4000000 in
theorem logv_any (l : List RS) (ht : ∀ x ∈ l, Tiny x.r) (A : Option Addr) (c : Nat) (w : World) (h : RcsR w w.heap.size A l) (hl : l.length ≤ 1000000) :
    Calls Try.prog 47 #[.slice A l.length c] w fun e w' => e = .returned (.bool (logV (l.map RS.r))) ∧ Below w.heap.size w w' := by
  have HH := Lib.hid h
  have HT := Lib.hid ht
  clear h ht
  go_enter Try.func47, Try.ntmps47
  go_wp2
  go_loopw [7] (fun i wr => ∃ k : Nat, k ≤ l.length ∧ i = .int .i64 k ∧ Hid ((List.range k).all (okAt (l.map RS.r)) = true) ∧ Hid (Below w.heap.size w wr)) (fun i _ => l.length - (intOf i).toNat)
  case atStart => exact ⟨0, Nat.zero_le _, rfl, rfl, Below.refl _ _⟩
  case round =>
    obtain ⟨k, hk, rfl, HAL, HBR⟩ := hrel
    by_cases hlt : k < l.length
    · have hxl : k < (l.map RS.r).length := by simpa using hlt
      have h0l : 0 < l.length := by omega
      have h0m : 0 < (l.map RS.r).length := by simpa using h0l
      have hok := okAt_get hxl
      rw [hd_get h0m] at hok
      simp only [List.getElem_map] at hok
      have hrx := (HH.out.up HBR.out).each _ (List.getElem_mem hlt)
      have htx := HT.out _ (List.getElem_mem hlt)
      obtain ⟨g1, o1, rfl, hg1, a0, a1, a2, a3, a4⟩ := (HH.out.up HBR.out).rd.rs hlt
      obtain ⟨g2, o2, he2, hg2, z0, _⟩ := (HH.out.up HBR.out).rd.rs h0l
      injection he2 with he2; injection he2 with he2 he3; subst he2; subst he3
      rw [Nat.zero_mul, Nat.add_zero] at z0
      generalize l[0].r.gen = G at *
      generalize l[k] = x at *
      have hno : okAt (l.map RS.r) k = false → logV (l.map RS.r) = false := logV_no hxl
      have hyes : okAt (l.map RS.r) k = true → (List.range (k + 1)).all (okAt (l.map RS.r)) = true := range_all HAL.out
      have HNO := Lib.hid hno
      have HYE := Lib.hid hyes
      have HOK := Lib.hid hok
      have hbx : Below wr.heap.size wr (wr.alloc (.cells #[.int .u64 x.r.gen, .int .u64 x.r.seq, .slice x.A x.r.ws.length x.c, .slice x.D x.r.ms.length x.d, .slice x.N x.r.note.length x.n] 27)) := (Below.refl _ _).alloc (Nat.le_refl _) _
      have HBW := Lib.hid (HBR.out.trans (hbx.mono HBR.out.size))
      have PB := (Cells5.new wr 27 (.int .u64 x.r.gen) (.int .u64 x.r.seq) (.slice x.A x.r.ws.length x.c) (.slice x.D x.r.ms.length x.d) (.slice x.N x.r.note.length x.n))
      have z1 := (hbx.cell (p := ⟨g1, o1, none⟩) hg1).trans z0
      have hzx : wr.heap.size < (wr.alloc (.cells #[.int .u64 x.r.gen, .int .u64 x.r.seq, .slice x.A x.r.ws.length x.c, .slice x.D x.r.ms.length x.d, .slice x.N x.r.note.length x.n] 27)).heap.size := by simp
      have HRV := Lib.hid (fun W (hW : Below (wr.alloc (.cells #[.int .u64 x.r.gen, .int .u64 x.r.seq, .slice x.A x.r.ws.length x.c, .slice x.D x.r.ms.length x.d, .slice x.N x.r.note.length x.n] 27)).heap.size (wr.alloc (.cells #[.int .u64 x.r.gen, .int .u64 x.r.seq, .slice x.A x.r.ws.length x.c, .slice x.D x.r.ms.length x.d, .slice x.N x.r.note.length x.n] 27)) W) => rvalid_any x.r x.A x.D x.N x.c x.d x.n W ((hrx.up hbx).up hW) (by have := htx.ws; omega) (by have := htx.ms; omega) (by have := htx.note; omega))
      have b0 := PB.c0; have b1 := PB.c1; have b2 := PB.c2; have b3 := PB.c3; have b4 := PB.c4
      clear hno hyes hok hrx htx hxl h0m hbx z0 PB
      go_wp2_with fail
      generalize (wr.alloc (.cells #[.int .u64 x.r.gen, .int .u64 x.r.seq, .slice x.A x.r.ws.length x.c, .slice x.D x.r.ms.length x.d, .slice x.N x.r.note.length x.n] 27)) = W1 at *
      have c0 := Held.cell b0 hzx; have c1 := Held.cell b1 hzx; have c2 := Held.cell b2 hzx; have c3 := Held.cell b3 hzx; have c4 := Held.cell b4 hzx
      have d0 := Held.cell z1 (Nat.lt_trans hg1 hzx)
      clear a0 a1 a2 a3 a4 b0 b1 b2 b3 b4 z1
      have eW0 : IntKind.u64.wrap (k : Int) = (k : Int) := by rw [IntKind.wrap_u64]; omega
      have eW1 : IntKind.u64.wrap ((k : Int) + 1) = (k : Int) + 1 := by rw [IntKind.wrap_u64]; omega
      obtain hv | hv : validR x.r = false ∨ validR x.r = true := by cases validR x.r; exact .inl rfl; exact .inr rfl
      · rw [hv] at HRV HOK
        clear hv
        have HD : Hid (logV (l.map RS.r) = false) := HNO.out (by rw [HOK.out]; rfl)
        have hne : Nonempty (Held (Below W1.heap.size W1)) := ⟨⟨_, (Held.drew_below (Nat.le_refl _))⟩⟩
        refine wp_region_heldq (S := (Below W1.heap.size W1)) (by kernel_rfl) (by kernel_rfl) (Held.drew_below (Nat.le_refl _)) ?_
        repeat (go_big_quiet_step ((go_at_call 21; exact Calls.held_below (Nat.le_refl _) (HRV.out _ (Held.h _)))))
        refine wpQuiet_nil ?_
        intro _ hw'
        obtain ⟨sq, hw''⟩ := hw'
        subst hw''
        clear hne
        go_wp2
        go_ret
        exact ⟨by rw [HD.out]; rfl, HBW.out.trans (sq.h.mono HBW.out.size)⟩
      · rw [hv] at HRV HOK
        clear hv
        by_cases hg : x.r.gen = G
        · have hge : ((x.r.gen : Int) != (G : Int)) = false := by simp; omega
          by_cases hs : x.r.seq = k + 1
          · have hse : ((x.r.seq : Int) != (k : Int) + 1) = false := by simp; omega
            have HT2 : Hid ((List.range (k + 1)).all (okAt (l.map RS.r)) = true) := HYE.out (by rw [HOK.out, decide_eq_true hg, decide_eq_true hs]; rfl)
            clear hg hs
            have hne : Nonempty (Held (Below W1.heap.size W1)) := ⟨⟨_, (Held.drew_below (Nat.le_refl _))⟩⟩
            refine wp_region_heldq (S := (Below W1.heap.size W1)) (by kernel_rfl) (by kernel_rfl) (Held.drew_below (Nat.le_refl _)) ?_
            repeat (go_big_quiet_step ((go_at_call 21; exact Calls.held_below (Nat.le_refl _) (HRV.out _ (Held.h _)))))
            refine wpQuiet_nil ?_
            intro _ hw'
            obtain ⟨sq, hw''⟩ := hw'
            subst hw''
            clear hne
            have HB2 := Lib.hid (HBW.out.trans (sq.h.mono HBW.out.size))
            clear c0 c1 c2 c3 c4 d0 eW0 eW1
            go_wp2
            go_roundw
            case rel => exact ⟨k + 1, hlt, by go_num, HT2, HB2⟩
            case measure => simp [intOf]; omega
          · have hse : ((x.r.seq : Int) != (k : Int) + 1) = true := by simp; omega
            have hf : okAt (l.map RS.r) k = false := by rw [HOK.out, decide_eq_false hs]; simp
            clear hg hs
            have HD : Hid (logV (l.map RS.r) = false) := HNO.out hf
            have hne : Nonempty (Held (Below W1.heap.size W1)) := ⟨⟨_, (Held.drew_below (Nat.le_refl _))⟩⟩
            refine wp_region_heldq (S := (Below W1.heap.size W1)) (by kernel_rfl) (by kernel_rfl) (Held.drew_below (Nat.le_refl _)) ?_
            repeat (go_big_quiet_step ((go_at_call 21; exact Calls.held_below (Nat.le_refl _) (HRV.out _ (Held.h _)))))
            refine wpQuiet_nil ?_
            intro _ hw'
            obtain ⟨sq, hw''⟩ := hw'
            subst hw''
            clear hne
            go_wp2
            go_ret
            exact ⟨by rw [HD.out]; rfl, HBW.out.trans (sq.h.mono HBW.out.size)⟩
        · have hge : ((x.r.gen : Int) != (G : Int)) = true := by simp; omega
          have hf : okAt (l.map RS.r) k = false := by rw [HOK.out, decide_eq_false hg]; simp
          clear hg
          have HD : Hid (logV (l.map RS.r) = false) := HNO.out hf
          have hne : Nonempty (Held (Below W1.heap.size W1)) := ⟨⟨_, (Held.drew_below (Nat.le_refl _))⟩⟩
          refine wp_region_heldq (S := (Below W1.heap.size W1)) (by kernel_rfl) (by kernel_rfl) (Held.drew_below (Nat.le_refl _)) ?_
          repeat (go_big_quiet_step ((go_at_call 21; exact Calls.held_below (Nat.le_refl _) (HRV.out _ (Held.h _)))))
          refine wpQuiet_nil ?_
          intro _ hw'
          obtain ⟨sq, hw''⟩ := hw'
          subst hw''
          clear hne
          go_wp2
          go_ret
          exact ⟨by rw [HD.out]; rfl, HBW.out.trans (sq.h.mono HBW.out.size)⟩
    · obtain rfl : k = l.length := by omega
      have HD : Hid (logV (l.map RS.r) = true) := by unfold Hid logV; rw [List.length_map]; exact HAL.out
      go_wp2
      go_ret
      exact ⟨by rw [HD.out]; rfl, HBR.out⟩
end Go.Proofs.Ytndifkjenjfjpaa
namespace Go.Proofs.Ytndifkjenjfjpaa
set_option linter.unusedVariables false
open Go.RowKit

set_option maxRecDepth 100000 in
set_option maxHeartbeats 4000000 in
theorem rlogv_any (l : List RS) (ht : ∀ x ∈ l, Tiny x.r) (A : Option Addr) (c : Nat) (w : World) (h : RcsR w w.heap.size A l) (hl : l.length ≤ 1000000) :
    Calls Try.prog 38 #[.slice A l.length c] w fun e w' => e = .returned (.bool (logV (l.map RS.r))) ∧ Below w.heap.size w w' := by
  have HH := Lib.hid h
  have HT := Lib.hid ht
  clear h ht
  go_enter Try.func38, Try.ntmps38
  go_wp2
  go_loopw [3] (fun i wr => ∃ k : Nat, k ≤ l.length ∧ i = .int .i64 k ∧ Hid ((List.range k).all (okAt (l.map RS.r)) = true) ∧ Hid (Below w.heap.size w wr)) (fun i _ => l.length - (intOf i).toNat)
  case atStart => exact ⟨0, Nat.zero_le _, rfl, rfl, Below.refl _ _⟩
  case round =>
    obtain ⟨k, hk, rfl, HAL, HBR⟩ := hrel
    by_cases hlt : k < l.length
    · have hxl : k < (l.map RS.r).length := by simpa using hlt
      have h0l : 0 < l.length := by omega
      have h0m : 0 < (l.map RS.r).length := by simpa using h0l
      have hok := okAt_get hxl
      rw [hd_get h0m] at hok
      simp only [List.getElem_map] at hok
      have hrx := (HH.out.up HBR.out).each _ (List.getElem_mem hlt)
      have htx := HT.out _ (List.getElem_mem hlt)
      obtain ⟨g1, o1, rfl, hg1, a0, a1, a2, a3, a4⟩ := (HH.out.up HBR.out).rd.rs hlt
      obtain ⟨g2, o2, he2, hg2, z0, _⟩ := (HH.out.up HBR.out).rd.rs h0l
      injection he2 with he2; injection he2 with he2 he3; subst he2; subst he3
      rw [Nat.zero_mul, Nat.add_zero] at z0
      generalize l[0].r.gen = G at *
      generalize l[k] = x at *
      have hno : okAt (l.map RS.r) k = false → logV (l.map RS.r) = false := logV_no hxl
      have hyes : okAt (l.map RS.r) k = true → (List.range (k + 1)).all (okAt (l.map RS.r)) = true := range_all HAL.out
      have HNO := Lib.hid hno
      have HYE := Lib.hid hyes
      have HOK := Lib.hid hok
      have HBW := HBR
      have HRV := Lib.hid (fun W (hW : Below wr.heap.size wr W) => qvalid_any x.r x.A x.D x.N x.c x.d x.n W (hrx.up hW) (by have := htx.ws; omega) (by have := htx.ms; omega) (by have := htx.note; omega))
      clear hno hyes hok hrx htx hxl h0m
      go_wp2_with fail
      have c0 := Held.cell a0 hg1; have c1 := Held.cell a1 hg1; have c2 := Held.cell a2 hg1; have c3 := Held.cell a3 hg1; have c4 := Held.cell a4 hg1
      have d0 := Held.cell z0 hg1
      clear a0 a1 a2 a3 a4 z0
      have eW0 : IntKind.i64.wrap ((k : Int) + 1) = (k : Int) + 1 := by rw [IntKind.wrap_i64]; omega
      have eW1 : IntKind.u64.wrap ((k : Int) + 1) = (k : Int) + 1 := by rw [IntKind.wrap_u64]; omega
      obtain hv | hv : validR x.r = false ∨ validR x.r = true := by cases validR x.r; exact .inl rfl; exact .inr rfl
      · rw [hv] at HRV HOK
        clear hv
        have HD : Hid (logV (l.map RS.r) = false) := HNO.out (by rw [HOK.out]; rfl)
        have hne : Nonempty (Held (Below wr.heap.size wr)) := ⟨⟨_, (Held.drew_below (Nat.le_refl _))⟩⟩
        refine wp_region_heldq (S := (Below wr.heap.size wr)) (by kernel_rfl) (by kernel_rfl) (Held.drew_below (Nat.le_refl _)) ?_
        repeat (go_big_quiet_step ((go_at_call 22; exact Calls.held_below (Nat.le_refl _) (HRV.out _ (Held.h _)))))
        refine wpQuiet_nil ?_
        intro _ hw'
        obtain ⟨sq, hw''⟩ := hw'
        subst hw''
        clear hne
        go_wp2
        go_ret
        exact ⟨by rw [HD.out]; rfl, HBW.out.trans (sq.h.mono HBW.out.size)⟩
      · rw [hv] at HRV HOK
        clear hv
        by_cases hg : x.r.gen = G
        · have hge : ((x.r.gen : Int) != (G : Int)) = false := by simp; omega
          by_cases hs : x.r.seq = k + 1
          · have hse : ((x.r.seq : Int) != (k : Int) + 1) = false := by simp; omega
            have HT2 : Hid ((List.range (k + 1)).all (okAt (l.map RS.r)) = true) := HYE.out (by rw [HOK.out, decide_eq_true hg, decide_eq_true hs]; rfl)
            clear hg hs
            have hne : Nonempty (Held (Below wr.heap.size wr)) := ⟨⟨_, (Held.drew_below (Nat.le_refl _))⟩⟩
            refine wp_region_heldq (S := (Below wr.heap.size wr)) (by kernel_rfl) (by kernel_rfl) (Held.drew_below (Nat.le_refl _)) ?_
            repeat (go_big_quiet_step ((go_at_call 22; exact Calls.held_below (Nat.le_refl _) (HRV.out _ (Held.h _)))))
            refine wpQuiet_nil ?_
            intro _ hw'
            obtain ⟨sq, hw''⟩ := hw'
            subst hw''
            clear hne
            have HB2 := Lib.hid (HBW.out.trans (sq.h.mono HBW.out.size))
            clear c0 c1 c2 c3 c4 d0 eW0 eW1
            go_wp2
            go_roundw
            case rel => exact ⟨k + 1, hlt, by go_num, HT2, HB2⟩
            case measure => simp [intOf]; omega
          · have hse : ((x.r.seq : Int) != (k : Int) + 1) = true := by simp; omega
            have hf : okAt (l.map RS.r) k = false := by rw [HOK.out, decide_eq_false hs]; simp
            clear hg hs
            have HD : Hid (logV (l.map RS.r) = false) := HNO.out hf
            have hne : Nonempty (Held (Below wr.heap.size wr)) := ⟨⟨_, (Held.drew_below (Nat.le_refl _))⟩⟩
            refine wp_region_heldq (S := (Below wr.heap.size wr)) (by kernel_rfl) (by kernel_rfl) (Held.drew_below (Nat.le_refl _)) ?_
            repeat (go_big_quiet_step ((go_at_call 22; exact Calls.held_below (Nat.le_refl _) (HRV.out _ (Held.h _)))))
            refine wpQuiet_nil ?_
            intro _ hw'
            obtain ⟨sq, hw''⟩ := hw'
            subst hw''
            clear hne
            go_wp2
            go_ret
            exact ⟨by rw [HD.out]; rfl, HBW.out.trans (sq.h.mono HBW.out.size)⟩
        · have hge : ((x.r.gen : Int) != (G : Int)) = true := by simp; omega
          have hf : okAt (l.map RS.r) k = false := by rw [HOK.out, decide_eq_false hg]; simp
          clear hg
          have HD : Hid (logV (l.map RS.r) = false) := HNO.out hf
          have hne : Nonempty (Held (Below wr.heap.size wr)) := ⟨⟨_, (Held.drew_below (Nat.le_refl _))⟩⟩
          refine wp_region_heldq (S := (Below wr.heap.size wr)) (by kernel_rfl) (by kernel_rfl) (Held.drew_below (Nat.le_refl _)) ?_
          repeat (go_big_quiet_step ((go_at_call 22; exact Calls.held_below (Nat.le_refl _) (HRV.out _ (Held.h _)))))
          refine wpQuiet_nil ?_
          intro _ hw'
          obtain ⟨sq, hw''⟩ := hw'
          subst hw''
          clear hne
          go_wp2
          go_ret
          exact ⟨by rw [HD.out]; rfl, HBW.out.trans (sq.h.mono HBW.out.size)⟩
    · obtain rfl : k = l.length := by omega
      have HD : Hid (logV (l.map RS.r) = true) := by unfold Hid logV; rw [List.length_map]; exact HAL.out
      go_wp2
      go_ret
      exact ⟨by rw [HD.out]; rfl, HBR.out⟩
end Go.Proofs.Ytndifkjenjfjpaa
namespace Go.Proofs.Ytndifkjenjfjpaa
set_option linter.unusedVariables false
open Go.RowKit

def secE (l : List Rec) : Int := if logV l then 0 else 1
def secLs (l : List Rec) : List (List Int) := if logV l then secsL l else []
/-- What Sectors leaves. -/
def SecPost (w : World) (l : List Rec) (e : Ending) (w' : World) : Prop := ∃ A c ss, e = .returned (.tuple #[.slice A ss.length c, .int .i64 (secE l)]) ∧ ss.map Sl.xs = secLs l ∧ SlsO w' w.heap.size A c ss ∧ Below w.heap.size w w'
theorem SlsO.app {w w' : World} {base b2 : Nat} {A A' A2 : Option Addr} {c c' c2 : Nat} {ss tt : List Sl} (h : SlsO w base A c ss) (k : SlsO w b2 A2 c2 tt) (hb : base ≤ b2)
    (hown : w'.ownsRow base 25 1 (.slice A' (ss.length + tt.length) c') (ss.length + tt.length) (ss.map Sl.v ++ tt.map Sl.v)) (hg : w.grownBy w' (Value.slice A ss.length c).ownBlock) : SlsO w' base A' c' (ss ++ tt) := by
  refine ⟨?_, fun t ht => ?_⟩
  · rw [List.length_append, List.map_append]; exact hown
  · have ht' : w.ownsRow base 5 1 t.v t.xs.length (t.xs.map (Value.int .u8)) := by
      rcases List.mem_append.1 ht with ht | ht
      · exact h.each t ht
      · exact own_mono (k.each t ht) hb
    exact ht'.kept hg (own_apart ht' h.own (by decide))
theorem sls_one (ss : List Sl) : ∀ u ∈ ss.map Sl.v, u.oneCell' = true := fun u hu => by
  obtain ⟨s, _, rfl⟩ := List.mem_map.1 hu
  rfl
theorem encR_pos' (r : Rec) : 0 < (encR r).length := by rw [encR_len]; have := payR_pos r; unfold nCh; omega
set_option maxRecDepth 100000 in
set_option maxHeartbeats 4000000 in
theorem sectors_any (l : List RS) (ht : ∀ x ∈ l, Tiny x.r) (hok : ∀ x ∈ l, x.r.Ok) (A : Option Addr) (c : Nat) (w : World) (h : RcsR w w.heap.size A l) (hl : l.length ≤ 1000) :
    Calls Try.prog 46 #[.slice A l.length c] w (SecPost w (l.map RS.r)) := by
  have HH := Lib.hid h
  have HT := Lib.hid ht
  have HK := Lib.hid hok
  have HV := Lib.hid (logv_any l ht A c w h (by omega))
  obtain ⟨i0, hi0, hz0, hz1, hz2⟩ := info_parts info_sl
  clear h ht hok
  obtain hs | hs : logV (l.map RS.r) = false ∨ logV (l.map RS.r) = true := by cases logV (l.map RS.r); exact .inl rfl; exact .inr rfl
  · have HE : Hid (secE (l.map RS.r) = 1 ∧ secLs (l.map RS.r) = []) := by unfold Hid secE secLs; rw [hs]; exact ⟨rfl, rfl⟩
    rw [hs] at HV
    clear hs
    go_enter Try.func46, Try.ntmps46
    go_wp2_with fail
    refine HV.out.mono ?_
    rintro e w1 ⟨rfl, hb1⟩
    go_wp2
    go_ret2
    exact ⟨none, 0, [], by rw [HE.out.1]; rfl, by rw [HE.out.2]; rfl, ⟨World.ownsRow_nil _ _ _ _, by simp⟩, hb1⟩
  · have HE : Hid (secE (l.map RS.r) = 0 ∧ secLs (l.map RS.r) = secsL (l.map RS.r)) := by unfold Hid secE secLs; rw [hs]; exact ⟨rfl, rfl⟩
    have HLV := Lib.hid hs
    rw [hs] at HV
    clear hs
    go_enter Try.func46, Try.ntmps46
    go_wp2_with fail
    refine HV.out.mono ?_
    rintro e w1 ⟨rfl, hb1⟩
    have HB1 := Lib.hid hb1
    clear hb1 HV
    go_wp2
    go_loopw [4, 14] (fun o i wr => ∃ (k : Nat) (ss : List Sl) (DA : Option Addr) (dc : Nat), k ≤ l.length ∧ i = .int .i64 k ∧ o = .slice DA ss.length dc ∧ Hid (ss.map Sl.xs = secsL ((l.map RS.r).take k)) ∧ Hid (SlsO wr w.heap.size DA dc ss) ∧ Hid (Below w.heap.size w wr)) (fun _ i _ => l.length - (intOf i).toNat)
    case atStart => exact ⟨0, [], none, 0, Nat.zero_le _, rfl, rfl, rfl, ⟨World.ownsRow_nil _ _ _ _, by simp⟩, HB1.out⟩
    case round =>
      obtain ⟨k, ss, DA, dc, hk, rfl, rfl, HSE, HSO, HBR⟩ := hrel
      by_cases hlt : k < l.length
      · have hxl : k < (l.map RS.r).length := by simpa using hlt
        have hxe : (l.map RS.r)[k] = l[k].r := by simp
        have htk := HT.out _ (List.getElem_mem hlt)
        have hokk := HK.out _ (List.getElem_mem hlt)
        have hvk := (logV_at HLV.out hxl).1
        have hrx := (HH.out.up HBR.out).each _ (List.getElem_mem hlt)
        have HSN : Hid (secsL ((l.map RS.r).take (k + 1)) = secsL ((l.map RS.r).take k) ++ encR l[k].r) := by unfold Hid; rw [secsL_take hxl, hxe]
        have hsl : ss.length ≤ k * 4096 := by
          have h1 := secsL_len (l := (l.map RS.r).take k) (fun r hr => logV_mem HLV.out r (List.mem_of_mem_take hr))
          rw [← HSE.out, List.length_map, List.length_take] at h1
          have h2 : min k (l.map RS.r).length ≤ k := by omega
          have h3 := Nat.mul_le_mul_right 4096 h2
          omega
        rw [hxe] at hvk
        obtain ⟨g1, o1, rfl, hg1, a0, a1, a2, a3, a4⟩ := (HH.out.up HBR.out).rd.rs hlt
        generalize l[k] = x at *
        have hbx : Below wr.heap.size wr (wr.alloc (.cells #[.int .u64 x.r.gen, .int .u64 x.r.seq, .slice x.A x.r.ws.length x.c, .slice x.D x.r.ms.length x.d, .slice x.N x.r.note.length x.n] 27)) := (Below.refl _ _).alloc (Nat.le_refl _) _
        have HEN := Lib.hid (encode_any x.r hokk x.A x.D x.N x.c x.d x.n (wr.alloc (.cells #[.int .u64 x.r.gen, .int .u64 x.r.seq, .slice x.A x.r.ws.length x.c, .slice x.D x.r.ms.length x.d, .slice x.N x.r.note.length x.n] 27)) (hrx.up hbx) (by have := htk.ws; omega) (by have := htk.ms; omega) (by have := htk.note; omega))
        have HEL : Hid (encL x.r = encR x.r) := by unfold Hid encL; rw [if_pos hvk]
        have HEM : Hid ((encR x.r).length ≤ 4096) := by unfold Hid; rw [encR_len]; exact nCh_le (payR_len (validR_vld hvk))
        have HBX := Lib.hid hbx
        clear hxl hxe htk hokk hvk hrx hbx
        go_wp2_with fail
        refine HEN.out.mono ?_
        rintro e w2 ⟨A2, c2, tt, rfl, htt, ho2, hb2⟩
        rw [HEL.out] at htt
        have htl : tt.length = (encR x.r).length := by rw [← htt, List.length_map]
        have hmx := HEM.out
        have hpos : 0 < tt.length := by rw [htl]; exact encR_pos' x.r
        obtain ⟨g2, rfl, hg2, hg2z⟩ := own_at ho2.own hpos
        have hb2x := HBX.out.trans (hb2.mono HBX.out.size)
        have HB2 := Lib.hid (HBR.out.trans (hb2x.mono HBR.out.size))
        have HO2 := Lib.hid (ho2.mono (HBR.out.trans (HBX.out.mono HBR.out.size)).size)
        have HSO2 := Lib.hid (HSO.out.below hb2x)
        have HTT := Lib.hid htt
        have hbz := HB2.out.size
        rw [← htl] at hmx
        have hkk : k * 4096 ≤ 1000 * 4096 := Nat.mul_le_mul_right _ (by omega)
        clear htt ho2 hb2 hb2x htl HEN a0 a1 a2 a3 a4 HEM
        go_wp2_with (at_builtin; go_loud (refine wpList_append_own _ rfl _ _ 30 rfl w.heap.size 25 i0 _ 1 24 Try.underlying30 hi0 hz0 hz1 hz2 rfl (by decide) (.slice DA ss.length dc) ss.length (ss.map Sl.v) rfl HSO2.out.own ⟨g2, 0, none⟩ tt.length c2 (tt.map Sl.v) rfl (by simp) (HO2.out.rd.rd.at_add) (sls_one tt) ?c1 ?c2 ?c3 ?_))
        case c1 => unfold maxLen; omega
        case c2 => omega
        case c3 => first | omega | (simp; omega)
        intro v' w9 hown hgrow hiff
        obtain ⟨DA', dc', hv⟩ := own_form hown
        subst hv
        have HSO9 : Hid (SlsO w9 w.heap.size DA' dc' (ss ++ tt)) := SlsO.app HSO2.out HO2.out (Nat.le_refl _) hown hgrow
        have HB9 : Hid (Below w.heap.size w w9) := HB2.out.grown hgrow hbz (fun k hk => own_low HSO2.out.own hk)
        clear hown hgrow hiff hkk
        go_wp2
        go_roundw
        case rel => exact ⟨k + 1, ss ++ tt, DA', dc', hlt, by go_num, by rw [List.length_append], by unfold Hid; rw [List.map_append, HSE.out, HTT.out, HSN.out], HSO9, HB9⟩
        case measure => simp [intOf]; omega
      · obtain rfl : k = l.length := by omega
        go_wp2
        go_ret2
        exact ⟨DA, dc, ss, by rw [HE.out.1]; rfl, by rw [HE.out.2, HSE.out, show l.length = (l.map RS.r).length by simp, List.take_length], HSO.out, HBR.out⟩
end Go.Proofs.Ytndifkjenjfjpaa
namespace Go.Proofs.Ytndifkjenjfjpaa
set_option linter.unusedVariables false
open Go.RowKit

set_option maxRecDepth 100000 in
set_option maxHeartbeats 4000000 in
theorem rsectors_any (l : List RS) (ht : ∀ x ∈ l, Tiny x.r) (hok : ∀ x ∈ l, x.r.Ok) (A : Option Addr) (c : Nat) (w : World) (h : RcsR w w.heap.size A l) (hl : l.length ≤ 1000) :
    Calls Try.prog 39 #[.slice A l.length c] w (SecPost w (l.map RS.r)) := by
  have HH := Lib.hid h
  have HT := Lib.hid ht
  have HK := Lib.hid hok
  have HV := Lib.hid (rlogv_any l ht A c w h (by omega))
  obtain ⟨i0, hi0, hz0, hz1, hz2⟩ := info_parts info_sl
  clear h ht hok
  obtain hs | hs : logV (l.map RS.r) = false ∨ logV (l.map RS.r) = true := by cases logV (l.map RS.r); exact .inl rfl; exact .inr rfl
  · have HE : Hid (secE (l.map RS.r) = 1 ∧ secLs (l.map RS.r) = []) := by unfold Hid secE secLs; rw [hs]; exact ⟨rfl, rfl⟩
    rw [hs] at HV
    clear hs
    go_enter Try.func39, Try.ntmps39
    go_wp2_with fail
    refine HV.out.mono ?_
    rintro e w1 ⟨rfl, hb1⟩
    go_wp2
    go_ret2
    exact ⟨none, 0, [], by rw [HE.out.1]; rfl, by rw [HE.out.2]; rfl, ⟨World.ownsRow_nil _ _ _ _, by simp⟩, hb1⟩
  · have HE : Hid (secE (l.map RS.r) = 0 ∧ secLs (l.map RS.r) = secsL (l.map RS.r)) := by unfold Hid secE secLs; rw [hs]; exact ⟨rfl, rfl⟩
    have HLV := Lib.hid hs
    rw [hs] at HV
    clear hs
    go_enter Try.func39, Try.ntmps39
    go_wp2_with fail
    refine HV.out.mono ?_
    rintro e w1 ⟨rfl, hb1⟩
    have HB1 := Lib.hid hb1
    clear hb1 HV
    go_wp2
    go_loopw [4, 5] (fun o i wr => ∃ (k : Nat) (ss : List Sl) (DA : Option Addr) (dc : Nat), k ≤ l.length ∧ i = .int .i64 k ∧ o = .slice DA ss.length dc ∧ Hid (ss.map Sl.xs = secsL ((l.map RS.r).take k)) ∧ Hid (SlsO wr w.heap.size DA dc ss) ∧ Hid (Below w.heap.size w wr)) (fun _ i _ => l.length - (intOf i).toNat)
    case atStart => exact ⟨0, [], none, 0, Nat.zero_le _, rfl, rfl, rfl, ⟨World.ownsRow_nil _ _ _ _, by simp⟩, HB1.out⟩
    case round =>
      obtain ⟨k, ss, DA, dc, hk, rfl, rfl, HSE, HSO, HBR⟩ := hrel
      by_cases hlt : k < l.length
      · have hxl : k < (l.map RS.r).length := by simpa using hlt
        have hxe : (l.map RS.r)[k] = l[k].r := by simp
        have htk := HT.out _ (List.getElem_mem hlt)
        have hokk := HK.out _ (List.getElem_mem hlt)
        have hvk := (logV_at HLV.out hxl).1
        have hrx := (HH.out.up HBR.out).each _ (List.getElem_mem hlt)
        have HSN : Hid (secsL ((l.map RS.r).take (k + 1)) = secsL ((l.map RS.r).take k) ++ encR l[k].r) := by unfold Hid; rw [secsL_take hxl, hxe]
        have hsl : ss.length ≤ k * 4096 := by
          have h1 := secsL_len (l := (l.map RS.r).take k) (fun r hr => logV_mem HLV.out r (List.mem_of_mem_take hr))
          rw [← HSE.out, List.length_map, List.length_take] at h1
          have h2 : min k (l.map RS.r).length ≤ k := by omega
          have h3 := Nat.mul_le_mul_right 4096 h2
          omega
        rw [hxe] at hvk
        obtain ⟨g1, o1, rfl, hg1, a0, a1, a2, a3, a4⟩ := (HH.out.up HBR.out).rd.rs hlt
        generalize l[k] = x at *
        have hbx : Below wr.heap.size wr wr := Below.refl _ _
        have HEN := Lib.hid (rencode_any x.r hokk x.A x.D x.N x.c x.d x.n wr (hrx.up hbx) (by have := htk.ws; omega) (by have := htk.ms; omega) (by have := htk.note; omega))
        have HEL : Hid (encL x.r = encR x.r) := by unfold Hid encL; rw [if_pos hvk]
        have HEM : Hid ((encR x.r).length ≤ 4096) := by unfold Hid; rw [encR_len]; exact nCh_le (payR_len (validR_vld hvk))
        have HBX := Lib.hid hbx
        clear hxl hxe htk hokk hvk hrx hbx
        go_wp2_with fail
        refine HEN.out.mono ?_
        rintro e w2 ⟨A2, c2, tt, rfl, htt, ho2, hb2⟩
        rw [HEL.out] at htt
        have htl : tt.length = (encR x.r).length := by rw [← htt, List.length_map]
        have hmx := HEM.out
        have hpos : 0 < tt.length := by rw [htl]; exact encR_pos' x.r
        obtain ⟨g2, rfl, hg2, hg2z⟩ := own_at ho2.own hpos
        have hb2x := HBX.out.trans (hb2.mono HBX.out.size)
        have HB2 := Lib.hid (HBR.out.trans (hb2x.mono HBR.out.size))
        have HO2 := Lib.hid (ho2.mono (HBR.out.trans (HBX.out.mono HBR.out.size)).size)
        have HSO2 := Lib.hid (HSO.out.below hb2x)
        have HTT := Lib.hid htt
        have hbz := HB2.out.size
        rw [← htl] at hmx
        have hkk : k * 4096 ≤ 1000 * 4096 := Nat.mul_le_mul_right _ (by omega)
        clear htt ho2 hb2 hb2x htl HEN a0 a1 a2 a3 a4 HEM
        go_wp2_with (at_builtin; go_loud (refine wpList_append_own _ rfl _ _ 30 rfl w.heap.size 25 i0 _ 1 24 Try.underlying30 hi0 hz0 hz1 hz2 rfl (by decide) (.slice DA ss.length dc) ss.length (ss.map Sl.v) rfl HSO2.out.own ⟨g2, 0, none⟩ tt.length c2 (tt.map Sl.v) rfl (by simp) (HO2.out.rd.rd.at_add) (sls_one tt) ?c1 ?c2 ?c3 ?_))
        case c1 => unfold maxLen; omega
        case c2 => omega
        case c3 => first | omega | (simp; omega)
        intro v' w9 hown hgrow hiff
        obtain ⟨DA', dc', hv⟩ := own_form hown
        subst hv
        have HSO9 : Hid (SlsO w9 w.heap.size DA' dc' (ss ++ tt)) := SlsO.app HSO2.out HO2.out (Nat.le_refl _) hown hgrow
        have HB9 : Hid (Below w.heap.size w w9) := HB2.out.grown hgrow hbz (fun k hk => own_low HSO2.out.own hk)
        clear hown hgrow hiff hkk
        go_wp2
        go_roundw
        case rel => exact ⟨k + 1, ss ++ tt, DA', dc', hlt, by go_num, by rw [List.length_append], by unfold Hid; rw [List.map_append, HSE.out, HTT.out, HSN.out], HSO9, HB9⟩
        case measure => simp [intOf]; omega
      · obtain rfl : k = l.length := by omega
        go_wp2
        go_ret2
        exact ⟨DA, dc, ss, by rw [HE.out.1]; rfl, by rw [HE.out.2, HSE.out, show l.length = (l.map RS.r).length by simp, List.take_length], HSO.out, HBR.out⟩
end Go.Proofs.Ytndifkjenjfjpaa
namespace Go.Proofs.Ytndifkjenjfjpaa
set_option linter.unusedVariables false
open Go.RowKit

theorem Small.tiny {r : Rec} (h : Small r) : Tiny r := ⟨by have := h.ws; omega, by have := h.ms; omega, by have := h.note; omega⟩
/-- What Scan leaves. -/
def ScanPost (w : World) (X : List Rec × Nat) (e : Ending) (w' : World) : Prop := ∃ A c l, e = .returned (.tuple #[.slice A l.length c, .int .i64 X.2]) ∧ l.map RS.r = X.1 ∧ RcsO w' w.heap.size A c l ∧ Below w.heap.size w w'
theorem SlsR.dropk {w : World} {B b o : Nat} {ss : List Sl} (h : SlsR w B (some ⟨b, o, none⟩) ss) (n : Nat) : SlsR w B (some ⟨b, o + n, none⟩) (ss.drop n) := ⟨by rw [List.map_drop]; exact h.rd.dropk n, fun s hs => h.each s (List.mem_of_mem_drop hs)⟩
set_option maxRecDepth 100000 in
set_option maxHeartbeats 4000000 in
theorem scan_any (ss : List Sl) (hss : ∀ s ∈ ss, SlOk s) (gen : Nat) (A : Option Addr) (c : Nat) (hc : ss.length ≤ c) (hcm : c ≤ 9223372036854775807) (hl : ss.length ≤ 100000) (w : World) (h : SlsR w w.heap.size A ss) :
    Calls Try.prog 34 #[.slice A ss.length c, .int .u64 gen] w (ScanPost w (scanD (ss.map Sl.xs) gen)) := by
  have HH := Lib.hid h
  have HSS := Lib.hid hss
  clear h hss
  obtain ⟨i0, hi, hz0, hz1, hz2⟩ := info_parts info_rec
  go_enter Try.func34, Try.ntmps34
  go_wp2
  go_step3
  go_wp2
  go_step3
  go_wp2
  go_loopw [6, 7] (fun o a wr => ∃ (i at_ : Nat) (l : List RS) (DA : Option Addr) (dc : Nat), at_ ≤ ss.length ∧ a = .int .i64 at_ ∧ o = .slice DA l.length dc ∧ Hid (scanS (ss.map Sl.xs) gen i = (l.map RS.r, at_)) ∧ Hid (l.length = i) ∧ Hid (RcsO wr w.heap.size DA dc l) ∧ Hid (Below w.heap.size w wr)) (fun _ a _ => ss.length - (intOf a).toNat)
  case atStart => exact ⟨0, 0, [], none, 0, Nat.zero_le _, rfl, rfl, rfl, rfl, RcsO.nil _ _, Below.refl _ _⟩
  case round =>
    obtain ⟨i, at_, l, DA, dc, hat, rfl, rfl, HX, HLI, HRO, HBR⟩ := hrel
    have hlb : l.length ≤ 100000 := by
      have h1 := scan_bound (ls := ss.map Sl.xs) (gen := gen) i (by rw [HX.out]; rw [List.length_map]; exact HLI.out)
      rw [HX.out, List.length_map] at h1
      have := HLI.out
      have h2 : at_ ≤ ss.length := h1.2
      have h3 : i ≤ at_ := h1.1
      omega
    by_cases hlt : at_ < ss.length
    · obtain ⟨g, o, rfl, hg, _, _⟩ := sl_at (HH.out.up HBR.out) hlt
      have hdl : (ss.drop at_).length = ss.length - at_ := List.length_drop
      have HD := Lib.hid (decode_r (ss.drop at_) (fun s hs => HSS.out s (List.mem_of_mem_drop hs)) (some ⟨g, o + at_, none⟩) (c - at_) (by omega) (by omega) (by omega) wr ((HH.out.up HBR.out).dropk at_))
      rw [hdl, List.map_drop] at HD
      have HSM := Lib.hid (dec_small' ((ss.map Sl.xs).drop at_))
      have HST : Hid (stepOk (ss.map Sl.xs) gen at_ l.length = (decide ((decD ((ss.map Sl.xs).drop at_)).er = 0) && decide ((decD ((ss.map Sl.xs).drop at_)).r.gen = gen) && decide ((decD ((ss.map Sl.xs).drop at_)).r.seq = l.length + 1))) := rfl
      have HNX : Hid (stepOk (ss.map Sl.xs) gen at_ l.length = true → scanS (ss.map Sl.xs) gen (i + 1) = (l.map RS.r ++ [(decD ((ss.map Sl.xs).drop at_)).r], at_ + (decD ((ss.map Sl.xs).drop at_)).n)) := fun h => scan_next HX.out (by rw [List.length_map]; exact h)
      have HFI : Hid (stepOk (ss.map Sl.xs) gen at_ l.length = false → scanD (ss.map Sl.xs) gen = (l.map RS.r, at_)) := fun h => scan_fin HX.out (by rw [List.length_map]; exact HLI.out) (by rw [List.length_map]; exact h)
      have HDN : Hid ((decD ((ss.map Sl.xs).drop at_)).er = 0 → 1 ≤ (decD ((ss.map Sl.xs).drop at_)).n ∧ (decD ((ss.map Sl.xs).drop at_)).n ≤ ss.length - at_) := fun h => by have := dec_n h; rw [List.length_drop, List.length_map] at this; exact this
      generalize decD ((ss.map Sl.xs).drop at_) = X at *
      generalize stepOk (ss.map Sl.xs) gen at_ l.length = sok at *
      obtain ⟨r, m, er⟩ := X
      simp only at HST HNX HFI HDN HSM
      clear hdl
      have hk1 : (at_ : Int) ≤ (ss.length : Int) := by omega
      have hk2 : (ss.length : Int) ≤ (c : Int) := by omega
      have hk3 : ¬ c = at_ := by omega
      go_wp2_with fail
      refine HD.out.mono ?_
      rintro e w2 ⟨A2, c2, D2, d2, N2, n2, rfl, hr2, hb2⟩
      simp only at hr2 ⊢
      have hbx : Below w2.heap.size w2 (w2.alloc (.cells #[.int .u64 r.gen, .int .u64 r.seq, .slice A2 r.ws.length c2, .slice D2 r.ms.length d2, .slice N2 r.note.length n2] 27)) := (Below.refl _ _).alloc (Nat.le_refl _) _
      have hb2x := hb2.trans (hbx.mono hb2.size)
      have HB1 := Lib.hid (HBR.out.trans (hb2x.mono HBR.out.size))
      have HRO1 := Lib.hid (HRO.out.below hb2x)
      have HR1 := Lib.hid (hr2.below0 hbx)
      have PB := (Cells5.new w2 27 (.int .u64 r.gen) (.int .u64 r.seq) (.slice A2 r.ws.length c2) (.slice D2 r.ms.length d2) (.slice N2 r.note.length n2))
      have p0 := PB.c0; have p1 := PB.c1; have p2 := PB.c2; have p3 := PB.c3; have p4 := PB.c4
      clear HD hr2 hb2 hbx hb2x PB
      by_cases he : er = 0
      · subst he
        by_cases hg : r.gen = gen
        · have hge : ((r.gen : Int) != (gen : Int)) = false := by simp; omega
          by_cases hs : r.seq = l.length + 1
          · have hse : ((r.seq : Int) != (l.length : Int) + 1) = false := by simp; omega
            have hN := HNX.out (by rw [HST.out, decide_eq_true rfl, decide_eq_true hg, decide_eq_true hs]; rfl)
            have hdn := HDN.out rfl
            have HN := Lib.hid hN
            have HSL := Lib.hid HSM.out
            clear hN HST HNX HFI HDN hg hs
            go_upto_region 6 with fail
            generalize hW1 : (w2.alloc (.cells #[.int .u64 r.gen, .int .u64 r.seq, .slice A2 r.ws.length c2, .slice D2 r.ms.length d2, .slice N2 r.note.length n2] 27)) = W1 at *
            have hbz := HB1.out.size
            go_wp2_with (at_builtin; go_loud (refine wpList_append_own _ rfl _ _ 53 rfl w.heap.size 27 i0 _ 5 88 Try.underlying53 hi hz0 hz1 hz2 rfl (by decide) (.slice DA l.length dc) l.length (flatR l) rfl (HRO1.out.own.alloc _) ⟨W1.heap.size, 0, none⟩ 1 1 [.int .u64 r.gen, .int .u64 r.seq, .slice A2 r.ws.length c2, .slice D2 r.ms.length d2, .slice N2 r.note.length n2] rfl rfl (World.news_of_block (heap_alloc_new _ _)) (RS.one ⟨r, A2, c2, D2, d2, N2, n2⟩) ?c1 ?c2 ?c3 ?_))
            case c1 => unfold maxLen; omega
            case c2 => omega
            case c3 => first | omega | (simp; omega)
            intro v' w9 hown hgrow hiff
            obtain ⟨DA', dc', hv⟩ := own_form hown
            subst hv
            have HRO9 : Hid (RcsO w9 w.heap.size DA' dc' (l ++ [⟨r, A2, c2, D2, d2, N2, n2⟩])) := RcsO.push (x := ⟨r, A2, c2, D2, d2, N2, n2⟩) HRO1.out HR1.out hown hgrow
            have HB9 : Hid (Below w.heap.size w w9) := (HB1.out.alloc hbz _).grown hgrow (by simp; omega) (fun k hk => own_low HRO1.out.own hk)
            clear hown hgrow hiff
            go_wp2
            go_roundw
            case rel => exact ⟨i + 1, at_ + m, l ++ [⟨r, A2, c2, D2, d2, N2, n2⟩], DA', dc', by omega, by go_num, by rw [List.length_append]; rfl, by unfold Hid; rw [HN.out, List.map_append]; rfl, by unfold Hid; rw [List.length_append, HLI.out]; rfl, HRO9, HB9⟩
            case measure => simp [intOf]; omega
          · have hse : ((r.seq : Int) != (l.length : Int) + 1) = true := by simp; omega
            have hf : sok = false := by rw [HST.out, decide_eq_false hs]; simp
            clear hg hs HNX HDN HST
            have HD2 : Hid (scanD (ss.map Sl.xs) gen = (l.map RS.r, at_)) := HFI.out hf
            go_wp2
            go_ret2
            exact ⟨DA, dc, l, by rw [HD2.out]; rfl, by rw [HD2.out], HRO1.out, HB1.out⟩
        · have hge : ((r.gen : Int) != (gen : Int)) = true := by simp; omega
          have hf : sok = false := by rw [HST.out, decide_eq_false hg]; simp
          clear hg HNX HDN HST
          have HD2 : Hid (scanD (ss.map Sl.xs) gen = (l.map RS.r, at_)) := HFI.out hf
          go_wp2
          go_ret2
          exact ⟨DA, dc, l, by rw [HD2.out]; rfl, by rw [HD2.out], HRO1.out, HB1.out⟩
      · have he2 : (er != 0) = true := by simpa using he
        have hf : sok = false := by rw [HST.out, decide_eq_false he]; simp
        clear he HNX HDN HST
        have HD2 : Hid (scanD (ss.map Sl.xs) gen = (l.map RS.r, at_)) := HFI.out hf
        go_wp2
        go_ret2
        exact ⟨DA, dc, l, by rw [HD2.out]; rfl, by rw [HD2.out], HRO1.out, HB1.out⟩
    · obtain rfl : at_ = ss.length := by omega
      have HD : Hid (scanD (ss.map Sl.xs) gen = (l.map RS.r, ss.length)) := scan_fin HX.out (by rw [List.length_map]; exact HLI.out) (stepOk_end (by rw [List.length_map]; exact Nat.le_refl _))
      go_wp2
      go_ret2
      exact ⟨DA, dc, l, by rw [HD.out]; rfl, by rw [HD.out], HRO.out, HBR.out⟩
end Go.Proofs.Ytndifkjenjfjpaa
namespace Go.Proofs.Ytndifkjenjfjpaa
set_option linter.unusedVariables false
open Go.RowKit

set_option maxRecDepth 100000 in
set_option maxHeartbeats 4000000 in
theorem rscan_any (ss : List Sl) (hss : ∀ s ∈ ss, SlOk s) (gen : Nat) (A : Option Addr) (c : Nat) (hc : ss.length ≤ c) (hcm : c ≤ 9223372036854775807) (hl : ss.length ≤ 100000) (w : World) (h : SlsR w w.heap.size A ss) :
    Calls Try.prog 35 #[.slice A ss.length c, .int .u64 gen] w (ScanPost w (scanD (ss.map Sl.xs) gen)) := by
  have HH := Lib.hid h
  have HSS := Lib.hid hss
  clear h hss
  obtain ⟨i0, hi, hz0, hz1, hz2⟩ := info_parts info_rec
  go_enter Try.func35, Try.ntmps35
  go_wp2
  go_loopw [6, 7] (fun o a wr => ∃ (i at_ : Nat) (l : List RS) (DA : Option Addr) (dc : Nat), at_ ≤ ss.length ∧ a = .int .i64 at_ ∧ o = .slice DA l.length dc ∧ Hid (scanS (ss.map Sl.xs) gen i = (l.map RS.r, at_)) ∧ Hid (l.length = i) ∧ Hid (RcsO wr w.heap.size DA dc l) ∧ Hid (Below w.heap.size w wr)) (fun _ a _ => ss.length - (intOf a).toNat)
  case atStart => exact ⟨0, 0, [], none, 0, Nat.zero_le _, rfl, rfl, rfl, rfl, RcsO.nil _ _, Below.refl _ _⟩
  case round =>
    obtain ⟨i, at_, l, DA, dc, hat, rfl, rfl, HX, HLI, HRO, HBR⟩ := hrel
    have hlb : l.length ≤ 100000 := by
      have h1 := scan_bound (ls := ss.map Sl.xs) (gen := gen) i (by rw [HX.out]; rw [List.length_map]; exact HLI.out)
      rw [HX.out, List.length_map] at h1
      have := HLI.out
      have h2 : at_ ≤ ss.length := h1.2
      have h3 : i ≤ at_ := h1.1
      omega
    by_cases hlt : at_ < ss.length
    · obtain ⟨g, o, rfl, hg, _, _⟩ := sl_at (HH.out.up HBR.out) hlt
      have hdl : (ss.drop at_).length = ss.length - at_ := List.length_drop
      have HD := Lib.hid (rdecode_r (ss.drop at_) (fun s hs => HSS.out s (List.mem_of_mem_drop hs)) (some ⟨g, o + at_, none⟩) (c - at_) (by omega) (by omega) (by omega) wr ((HH.out.up HBR.out).dropk at_))
      rw [hdl, List.map_drop] at HD
      have HSM := Lib.hid (dec_small' ((ss.map Sl.xs).drop at_))
      have HST : Hid (stepOk (ss.map Sl.xs) gen at_ l.length = (decide ((decD ((ss.map Sl.xs).drop at_)).er = 0) && decide ((decD ((ss.map Sl.xs).drop at_)).r.gen = gen) && decide ((decD ((ss.map Sl.xs).drop at_)).r.seq = l.length + 1))) := rfl
      have HNX : Hid (stepOk (ss.map Sl.xs) gen at_ l.length = true → scanS (ss.map Sl.xs) gen (i + 1) = (l.map RS.r ++ [(decD ((ss.map Sl.xs).drop at_)).r], at_ + (decD ((ss.map Sl.xs).drop at_)).n)) := fun h => scan_next HX.out (by rw [List.length_map]; exact h)
      have HFI : Hid (stepOk (ss.map Sl.xs) gen at_ l.length = false → scanD (ss.map Sl.xs) gen = (l.map RS.r, at_)) := fun h => scan_fin HX.out (by rw [List.length_map]; exact HLI.out) (by rw [List.length_map]; exact h)
      have HDN : Hid ((decD ((ss.map Sl.xs).drop at_)).er = 0 → 1 ≤ (decD ((ss.map Sl.xs).drop at_)).n ∧ (decD ((ss.map Sl.xs).drop at_)).n ≤ ss.length - at_) := fun h => by have := dec_n h; rw [List.length_drop, List.length_map] at this; exact this
      generalize decD ((ss.map Sl.xs).drop at_) = X at *
      generalize stepOk (ss.map Sl.xs) gen at_ l.length = sok at *
      obtain ⟨r, m, er⟩ := X
      simp only at HST HNX HFI HDN HSM
      clear hdl
      have hk1 : (at_ : Int) ≤ (ss.length : Int) := by omega
      have hk2 : (ss.length : Int) ≤ (c : Int) := by omega
      have hk3 : ¬ c = at_ := by omega
      go_wp2_with fail
      refine HD.out.mono ?_
      rintro e w2 ⟨A2, c2, D2, d2, N2, n2, rfl, hr2, hb2⟩
      simp only at hr2 ⊢
      have hbx : Below w2.heap.size w2 (w2.alloc (.cells #[.int .u64 r.gen, .int .u64 r.seq, .slice A2 r.ws.length c2, .slice D2 r.ms.length d2, .slice N2 r.note.length n2] 27)) := (Below.refl _ _).alloc (Nat.le_refl _) _
      have hb2x := hb2.trans (hbx.mono hb2.size)
      have HB1 := Lib.hid (HBR.out.trans (hb2x.mono HBR.out.size))
      have HRO1 := Lib.hid (HRO.out.below hb2x)
      have HR1 := Lib.hid (hr2.below0 hbx)
      have PB := (Cells5.new w2 27 (.int .u64 r.gen) (.int .u64 r.seq) (.slice A2 r.ws.length c2) (.slice D2 r.ms.length d2) (.slice N2 r.note.length n2))
      have p0 := PB.c0; have p1 := PB.c1; have p2 := PB.c2; have p3 := PB.c3; have p4 := PB.c4
      clear HD hr2 hb2 hbx hb2x PB
      by_cases he : er = 0
      · subst he
        by_cases hg : r.gen = gen
        · have hge : ((r.gen : Int) != (gen : Int)) = false := by simp; omega
          by_cases hs : r.seq = l.length + 1
          · have hse : ((r.seq : Int) != (l.length : Int) + 1) = false := by simp; omega
            have hN := HNX.out (by rw [HST.out, decide_eq_true rfl, decide_eq_true hg, decide_eq_true hs]; rfl)
            have hdn := HDN.out rfl
            have HN := Lib.hid hN
            have HSL := Lib.hid HSM.out
            clear hN HST HNX HFI HDN hg hs
            go_upto_region 6 with fail
            generalize hW1 : (w2.alloc (.cells #[.int .u64 r.gen, .int .u64 r.seq, .slice A2 r.ws.length c2, .slice D2 r.ms.length d2, .slice N2 r.note.length n2] 27)) = W1 at *
            have hbz := HB1.out.size
            go_wp2_with (at_builtin; go_loud (refine wpList_append_own _ rfl _ _ 53 rfl w.heap.size 27 i0 _ 5 88 Try.underlying53 hi hz0 hz1 hz2 rfl (by decide) (.slice DA l.length dc) l.length (flatR l) rfl (HRO1.out.own.alloc _) ⟨W1.heap.size, 0, none⟩ 1 1 [.int .u64 r.gen, .int .u64 r.seq, .slice A2 r.ws.length c2, .slice D2 r.ms.length d2, .slice N2 r.note.length n2] rfl rfl (World.news_of_block (heap_alloc_new _ _)) (RS.one ⟨r, A2, c2, D2, d2, N2, n2⟩) ?c1 ?c2 ?c3 ?_))
            case c1 => unfold maxLen; omega
            case c2 => omega
            case c3 => first | omega | (simp; omega)
            intro v' w9 hown hgrow hiff
            obtain ⟨DA', dc', hv⟩ := own_form hown
            subst hv
            have HRO9 : Hid (RcsO w9 w.heap.size DA' dc' (l ++ [⟨r, A2, c2, D2, d2, N2, n2⟩])) := RcsO.push (x := ⟨r, A2, c2, D2, d2, N2, n2⟩) HRO1.out HR1.out hown hgrow
            have HB9 : Hid (Below w.heap.size w w9) := (HB1.out.alloc hbz _).grown hgrow (by simp; omega) (fun k hk => own_low HRO1.out.own hk)
            clear hown hgrow hiff
            go_wp2
            go_roundw
            case rel => exact ⟨i + 1, at_ + m, l ++ [⟨r, A2, c2, D2, d2, N2, n2⟩], DA', dc', by omega, by go_num, by rw [List.length_append]; rfl, by unfold Hid; rw [HN.out, List.map_append]; rfl, by unfold Hid; rw [List.length_append, HLI.out]; rfl, HRO9, HB9⟩
            case measure => simp [intOf]; omega
          · have hse : ((r.seq : Int) != (l.length : Int) + 1) = true := by simp; omega
            have hf : sok = false := by rw [HST.out, decide_eq_false hs]; simp
            clear hg hs HNX HDN HST
            have HD2 : Hid (scanD (ss.map Sl.xs) gen = (l.map RS.r, at_)) := HFI.out hf
            go_wp2
            go_ret2
            exact ⟨DA, dc, l, by rw [HD2.out]; rfl, by rw [HD2.out], HRO1.out, HB1.out⟩
        · have hge : ((r.gen : Int) != (gen : Int)) = true := by simp; omega
          have hf : sok = false := by rw [HST.out, decide_eq_false hg]; simp
          clear hg HNX HDN HST
          have HD2 : Hid (scanD (ss.map Sl.xs) gen = (l.map RS.r, at_)) := HFI.out hf
          go_wp2
          go_ret2
          exact ⟨DA, dc, l, by rw [HD2.out]; rfl, by rw [HD2.out], HRO1.out, HB1.out⟩
      · have he2 : (er != 0) = true := by simpa using he
        have hf : sok = false := by rw [HST.out, decide_eq_false he]; simp
        clear he HNX HDN HST
        have HD2 : Hid (scanD (ss.map Sl.xs) gen = (l.map RS.r, at_)) := HFI.out hf
        go_wp2
        go_ret2
        exact ⟨DA, dc, l, by rw [HD2.out]; rfl, by rw [HD2.out], HRO1.out, HB1.out⟩
    · obtain rfl : at_ = ss.length := by omega
      have HD2 : Hid (scanD (ss.map Sl.xs) gen = (l.map RS.r, ss.length)) := scan_fin HX.out (by rw [List.length_map]; exact HLI.out) (stepOk_end (by rw [List.length_map]; exact Nat.le_refl _))
      have HD : Hid (∀ (A' : Option Addr) (c' : Nat), c' ≤ 9223372036854775807 → Calls Try.prog 28 #[.slice A' 0 c'] wr (DecR wr (Dec.bad 5))) := fun A' c' hc' => by
        have := rdecode_r [] (fun s hs => by simp at hs) A' c' (by simp) hc' (by simp) wr ⟨Rd.nil_ _ _ _, fun s hs => by simp at hs⟩
        rw [show ([] : List Sl).map Sl.xs = [] from rfl, decD_nil] at this
        exact this
      have hk2 : (ss.length : Int) ≤ (c : Int) := by omega
      go_wp2_with fail
      all_goals (
        refine (HD.out _ _ (by omega)).mono ?_
        rintro e w2 ⟨A2, c2, D2, d2, N2, n2, rfl, hr2, hb2⟩
        have hbx : Below w2.heap.size w2 (w2.alloc (.cells #[.int .u64 (Dec.bad 5).r.gen, .int .u64 (Dec.bad 5).r.seq, .slice A2 (Dec.bad 5).r.ws.length c2, .slice D2 (Dec.bad 5).r.ms.length d2, .slice N2 (Dec.bad 5).r.note.length n2] 27)) := (Below.refl _ _).alloc (Nat.le_refl _) _
        have hb2x := hb2.trans (hbx.mono hb2.size)
        have HB1 := Lib.hid (HBR.out.trans (hb2x.mono HBR.out.size))
        have HRO1 := Lib.hid (HRO.out.below hb2x)
        have he2 : ((Dec.bad 5).er != 0) = true := rfl
        clear hr2 hb2 hbx hb2x HD
        go_wp2
        go_ret2
        exact ⟨DA, dc, l, by rw [HD2.out]; rfl, by rw [HD2.out], HRO1.out, HB1.out⟩)
end Go.Proofs.Ytndifkjenjfjpaa
namespace Go.Proofs.Ytndifkjenjfjpaa
set_option linter.unusedVariables false
open Go.RowKit

set_option maxRecDepth 100000 in
set_option maxHeartbeats 2000000 in
theorem fits_any (area used : Int) (ha : I64 area) (hu : I64 used) (r : Rec) (hok : r.Ok) (A D N : Option Addr) (c d n : Nat) (w : World) (h : RecR w w.heap.size r A c D d N n) (hw : r.ws.length ≤ 9223372036854775807) (hm : r.ms.length ≤ 9223372036854775807) (hn : r.note.length ≤ 9223372036854775807) :
    Calls Try.prog 40 #[.int .i64 area, .int .i64 used, .agg #[.int .u64 r.gen, .int .u64 r.seq, .slice A r.ws.length c, .slice D r.ms.length d, .slice N r.note.length n]] w fun e w' => e = .returned (.bool (fitB area used r)) ∧ Below w.heap.size w w' := by
  have hbx : Below w.heap.size w (w.alloc (.cells #[.int .u64 r.gen, .int .u64 r.seq, .slice A r.ws.length c, .slice D r.ms.length d, .slice N r.note.length n] 27)) := (Below.refl _ _).alloc (Nat.le_refl _) _
  have HEN := Lib.hid (encode_any r hok A D N c d n (w.alloc (.cells #[.int .u64 r.gen, .int .u64 r.seq, .slice A r.ws.length c, .slice D r.ms.length d, .slice N r.note.length n] 27)) (h.up hbx) hw hm hn)
  have PB := (Cells5.new w 27 (.int .u64 r.gen) (.int .u64 r.seq) (.slice A r.ws.length c) (.slice D r.ms.length d) (.slice N r.note.length n))
  have p0 := PB.c0; have p1 := PB.c1; have p2 := PB.c2; have p3 := PB.c3; have p4 := PB.c4
  have HBX := Lib.hid hbx
  have HFE : Hid (validR r = false → fitB area used r = false) := fun h => by unfold fitB; rw [h]; rfl
  have HFY : Hid (validR r = true → fitB area used r = (decide (0 ≤ area) && decide (0 ≤ used) && decide (used ≤ area) && decide (((encR r).length : Int) ≤ area - used))) := fun h => by unfold fitB; rw [h]; simp
  have HEM : Hid (validR r = true → (encR r).length ≤ 4096) := fun h => by rw [encR_len]; exact nCh_le (payR_len (validR_vld h))
  obtain ⟨ha1, ha2⟩ := ha
  obtain ⟨hu1, hu2⟩ := hu
  clear hbx PB h
  go_enter Try.func40, Try.ntmps40
  go_wp2_with fail
  refine HEN.out.mono ?_
  rintro e w2 ⟨A2, c2, tt, rfl, htt, ho2, hb2⟩
  have hb2x := HBX.out.trans (hb2.mono HBX.out.size)
  have HB2 := Lib.hid hb2x
  have htl := congrArg List.length htt
  rw [List.length_map] at htl
  clear htt ho2 hb2 hb2x HEN p0 p1 p2 p3 p4
  obtain hv | hv : validR r = false ∨ validR r = true := by cases validR r; exact .inl rfl; exact .inr rfl
  · have hE : encE r = 1 := by unfold encE; rw [hv]; rfl
    have HD := Lib.hid (HFE.out hv)
    rw [hE]
    clear hv hE HFY HEM
    go_wp2
    go_ret
    exact ⟨by rw [HD.out]; rfl, HB2.out⟩
  · have hE : encE r = 0 := by unfold encE; rw [hv]; rfl
    have hL : encL r = encR r := by unfold encL; rw [hv]; rfl
    have HD := Lib.hid (HFY.out hv)
    have hmx := HEM.out hv
    rw [hL] at htl
    rw [hE]
    rw [← htl] at HD hmx
    clear hv hE hL HFY HEM HFE htl
    by_cases h1 : 0 ≤ area
    · by_cases h2 : 0 ≤ used
      · by_cases h3 : used ≤ area
        · rw [decide_eq_true h1, decide_eq_true h2, decide_eq_true h3] at HD
          go_wp2
          go_ret
          exact ⟨by rw [HD.out]; first | rfl | (simp; done) | (simp; omega), HB2.out⟩
        · rw [decide_eq_false h3] at HD
          go_wp2
          go_ret
          exact ⟨by rw [HD.out]; first | rfl | (simp; done) | (simp; omega), HB2.out⟩
      · rw [decide_eq_false h2] at HD
        go_wp2
        go_ret
        exact ⟨by rw [HD.out]; first | rfl | (simp; done) | (simp; omega), HB2.out⟩
    · rw [decide_eq_false h1] at HD
      go_wp2
      go_ret
      exact ⟨by rw [HD.out]; first | rfl | (simp; done) | (simp; omega), HB2.out⟩
set_option maxRecDepth 100000 in
set_option maxHeartbeats 2000000 in
theorem rfits_any (area used : Int) (ha : I64 area) (hu : I64 used) (r : Rec) (hok : r.Ok) (A D N : Option Addr) (c d n : Nat) (w : World) (h : RecR w w.heap.size r A c D d N n) (hw : r.ws.length ≤ 9223372036854775807) (hm : r.ms.length ≤ 9223372036854775807) (hn : r.note.length ≤ 9223372036854775807) :
    Calls Try.prog 41 #[.int .i64 area, .int .i64 used, .agg #[.int .u64 r.gen, .int .u64 r.seq, .slice A r.ws.length c, .slice D r.ms.length d, .slice N r.note.length n]] w fun e w' => e = .returned (.bool (fitB area used r)) ∧ Below w.heap.size w w' := by
  have hbx : Below w.heap.size w (w.alloc (.cells #[.int .u64 r.gen, .int .u64 r.seq, .slice A r.ws.length c, .slice D r.ms.length d, .slice N r.note.length n] 27)) := (Below.refl _ _).alloc (Nat.le_refl _) _
  have HEN := Lib.hid (rencode_any r hok A D N c d n (w.alloc (.cells #[.int .u64 r.gen, .int .u64 r.seq, .slice A r.ws.length c, .slice D r.ms.length d, .slice N r.note.length n] 27)) (h.up hbx) hw hm hn)
  have PB := (Cells5.new w 27 (.int .u64 r.gen) (.int .u64 r.seq) (.slice A r.ws.length c) (.slice D r.ms.length d) (.slice N r.note.length n))
  have p0 := PB.c0; have p1 := PB.c1; have p2 := PB.c2; have p3 := PB.c3; have p4 := PB.c4
  have HBX := Lib.hid hbx
  have HFE : Hid (validR r = false → fitB area used r = false) := fun h => by unfold fitB; rw [h]; rfl
  have HFY : Hid (validR r = true → fitB area used r = (decide (0 ≤ area) && decide (0 ≤ used) && decide (used ≤ area) && decide (((encR r).length : Int) ≤ area - used))) := fun h => by unfold fitB; rw [h]; simp
  have HEM : Hid (validR r = true → (encR r).length ≤ 4096) := fun h => by rw [encR_len]; exact nCh_le (payR_len (validR_vld h))
  obtain ⟨ha1, ha2⟩ := ha
  obtain ⟨hu1, hu2⟩ := hu
  clear hbx PB h
  go_enter Try.func41, Try.ntmps41
  go_wp2_with fail
  refine HEN.out.mono ?_
  rintro e w2 ⟨A2, c2, tt, rfl, htt, ho2, hb2⟩
  have hb2x := HBX.out.trans (hb2.mono HBX.out.size)
  have HB2 := Lib.hid hb2x
  have htl := congrArg List.length htt
  rw [List.length_map] at htl
  clear htt ho2 hb2 hb2x HEN p0 p1 p2 p3 p4
  obtain hv | hv : validR r = false ∨ validR r = true := by cases validR r; exact .inl rfl; exact .inr rfl
  · have hE : encE r = 1 := by unfold encE; rw [hv]; rfl
    have HD := Lib.hid (HFE.out hv)
    rw [hE]
    clear hv hE HFY HEM
    go_wp2
    go_ret
    exact ⟨by rw [HD.out]; rfl, HB2.out⟩
  · have hE : encE r = 0 := by unfold encE; rw [hv]; rfl
    have hL : encL r = encR r := by unfold encL; rw [hv]; rfl
    have HD := Lib.hid (HFY.out hv)
    have hmx := HEM.out hv
    rw [hL] at htl
    rw [hE]
    rw [← htl] at HD hmx
    clear hv hE hL HFY HEM HFE htl
    by_cases h1 : 0 ≤ area
    · by_cases h2 : 0 ≤ used
      · by_cases h3 : used ≤ area
        · rw [decide_eq_true h1, decide_eq_true h2, decide_eq_true h3] at HD
          go_wp2
          go_ret
          exact ⟨by rw [HD.out]; first | rfl | (simp; done) | (simp; omega), HB2.out⟩
        · rw [decide_eq_false h3] at HD
          go_wp2
          go_ret
          exact ⟨by rw [HD.out]; first | rfl | (simp; done) | (simp; omega), HB2.out⟩
      · rw [decide_eq_false h2] at HD
        go_wp2
        go_ret
        exact ⟨by rw [HD.out]; first | rfl | (simp; done) | (simp; omega), HB2.out⟩
    · rw [decide_eq_false h1] at HD
      go_wp2
      go_ret
      exact ⟨by rw [HD.out]; first | rfl | (simp; done) | (simp; omega), HB2.out⟩
/-- What Join leaves. -/
def JoinPost (w : World) (b : LS) (e : Ending) (w' : World) : Prop := ∃ A c, e = .returned (.slice A b.l.length c) ∧ RcsR w' w'.heap.size A b.l ∧ Below w.heap.size w w'
theorem better_no {b x : LS} (h : logV (x.l.map RS.r) = false) : better b x = false := by unfold better; rw [h]; rfl
theorem better_len {b x : LS} (h : logV (x.l.map RS.r) = true) : better b x = decide (b.l.length < x.l.length) := by unfold better; rw [h]; rfl
set_option maxRecDepth 100000 in
set_option maxHeartbeats 2000000 in
theorem rjoin_any (ls : List LS) (ht : ∀ x ∈ ls, (∀ y ∈ x.l, Tiny y.r) ∧ x.l.length ≤ 1000) (A : Option Addr) (c : Nat) (w : World) (h : LgsR w w.heap.size A ls) (hl : ls.length ≤ 1000) :
    Calls Try.prog 43 #[.slice A ls.length c] w (JoinPost w (joinS ls)) := by
  have HH := Lib.hid h
  have HT := Lib.hid ht
  clear h ht
  go_enter Try.func43, Try.ntmps43
  go_wp2
  go_loopw [3, 4] (fun o i wr => ∃ (k : Nat) (b : LS), k ≤ ls.length ∧ i = .int .i64 k ∧ o = b.v ∧ Hid (b = joinS (ls.take k)) ∧ Hid (RcsR wr wr.heap.size b.A b.l) ∧ Hid (b.l.length ≤ 1000) ∧ Hid (Below w.heap.size w wr)) (fun _ i _ => ls.length - (intOf i).toNat)
  case atStart => exact ⟨0, noLog, Nat.zero_le _, rfl, rfl, rfl, RcsR.nil _ _ _, Nat.zero_le _, Below.refl _ _⟩
  case round =>
    obtain ⟨k, b, hk, rfl, rfl, HB, HR, HBL, HBR⟩ := hrel
    by_cases hlt : k < ls.length
    · obtain ⟨g1, o1, rfl, hg1, j1, hr1⟩ := lgs_at (HH.out.up HBR.out) hlt
      obtain ⟨ht1, ht2⟩ := HT.out _ (List.getElem_mem hlt)
      have HNX : Hid (joinS (ls.take (k + 1)) = if better b ls[k] then ls[k] else b) := by unfold Hid; rw [joinS_take hlt, ← HB.out]
      generalize ls[k] = x at *
      have HV := Lib.hid (fun W (hW : Below wr.heap.size wr W) => rlogv_any x.l ht1 x.A x.c W (hr1.up hW) (by omega))
      have HX := Lib.hid hr1
      have hbl := HBL.out
      clear ht1 hr1
      unfold LS.v
      go_wp2_with fail
      refine (HV.out _ (Below.refl _ _)).mono ?_
      rintro e w2 ⟨rfl, hb2⟩
      have j2 := (hb2.cell (p := ⟨g1, o1 + k, none⟩) hg1).trans j1
      have HB2 := Lib.hid (HBR.out.trans (hb2.mono HBR.out.size))
      have HR2 := Lib.hid (HR.out.up hb2)
      have HX2 := Lib.hid (HX.out.up hb2)
      clear HV hb2 j1
      obtain hv | hv : logV (x.l.map RS.r) = false ∨ logV (x.l.map RS.r) = true := by cases logV (x.l.map RS.r); exact .inl rfl; exact .inr rfl
      · rw [better_no hv, if_neg (by decide)] at HNX
        rw [hv]
        clear hv
        go_wp2
        go_roundw
        case rel => exact ⟨k + 1, b, hlt, by go_num, rfl, HNX.out.symm, HR2, HBL, HB2⟩
        case measure => simp [intOf]; omega
      · by_cases hlt2 : b.l.length < x.l.length
        · rw [better_len hv, if_pos (by simpa using hlt2)] at HNX
          rw [hv]
          clear hv
          go_wp2
          go_roundw
          case rel => exact ⟨k + 1, x, hlt, by go_num, rfl, HNX.out.symm, HX2, ht2, HB2⟩
          case measure => simp [intOf]; omega
        · rw [better_len hv, if_neg (by simpa using hlt2)] at HNX
          rw [hv]
          clear hv
          go_wp2
          go_roundw
          case rel => exact ⟨k + 1, b, hlt, by go_num, rfl, HNX.out.symm, HR2, HBL, HB2⟩
          case measure => simp [intOf]; omega
    · obtain rfl : k = ls.length := by omega
      unfold LS.v
      go_wp2
      go_ret
      rw [List.take_length] at HB
      rw [← HB.out]
      exact ⟨b.A, b.c, rfl, HR.out, HBR.out⟩
end Go.Proofs.Ytndifkjenjfjpaa
namespace Go.Proofs.Ytndifkjenjfjpaa
set_option linter.unusedVariables false
open Go.RowKit

theorem encR_1k {r : Rec} : ∀ b ∈ encR r, b.length ≤ 1000 := fun b hb => by
  unfold encR at hb
  obtain ⟨k, _, rfl⟩ := List.mem_map.1 hb
  unfold secB sealB
  have h1 := hdS_len r.gen r.seq k (nCh (payR r).length)
  have h2 := uintB_len (((payR r).drop (28 * k)).take 28).length
  have h3 : (((payR r).drop (28 * k)).take 28).length ≤ 28 := by rw [List.length_take]; omega
  have h4 : ∀ s, (be8 s).length = 8 := fun _ => rfl
  rw [List.length_append, List.length_append, List.length_append, h4]
  omega
theorem secs_ok {l : List Rec} (hok : ∀ r ∈ l, r.Ok) : ∀ b ∈ secsL l, U8s b ∧ b.length ≤ 1000 := fun b hb => by
  unfold secsL at hb
  obtain ⟨r, hr, hb⟩ := List.mem_flatMap.1 hb
  exact ⟨encR_u8 (hok r hr) b hb, encR_1k b hb⟩
/-- Owned sectors can be read. -/
theorem SlsO.sok {w : World} {base : Nat} {A : Option Addr} {c : Nat} {ss : List Sl} (h : SlsO w base A c ss) (hb : ∀ b ∈ ss.map Sl.xs, U8s b ∧ b.length ≤ 1000) : ∀ s ∈ ss, SlOk s := fun s hs => by
  obtain ⟨h1, h2⟩ := hb s.xs (List.mem_map.2 ⟨s, hs, rfl⟩)
  have h3 := own_cap0 (h.each s hs)
  exact ⟨h1, h2, h3.1, by have := h3.2.1; unfold maxLen at this; omega⟩
def r51 : Rec := ⟨5, 1, [], [], []⟩
def r52 : Rec := ⟨5, 2, [], [], []⟩
def r43 : Rec := ⟨4, 3, [], [], []⟩
def s51 : RS := ⟨r51, none, 0, none, 0, none, 0⟩
def s52 : RS := ⟨r52, none, 0, none, 0, none, 0⟩
theorem ok_plain {g s : Nat} (hg : g < 2 ^ 64) (hs : s < 2 ^ 64) : (⟨g, s, [], [], []⟩ : Rec).Ok := ⟨hg, hs, fun x hx => by simp at hx, fun x hx => by simp at hx, fun x hx => by simp at hx⟩
theorem logV_a : logV [r51, r52] = true := by decide
theorem enc1 (g s : Nat) (hg : g < 128) (hs : s < 128) : (encR ⟨g, s, [], [], []⟩).length = 1 := by
  have hp : payR ⟨g, s, [], [], []⟩ = [(g : Int), (s : Int), 0, 0, 0] := by
    unfold payR uintB
    rw [uintF_small hg, uintF_small hs]; rfl
  rw [encR_len, hp]; show nCh 5 = 1; rfl
theorem secs_a : secsL [r51, r52] = encR r51 ++ encR r52 := by unfold secsL; simp
theorem scan_a : scanD (secsL [r51, r52] ++ encR r43) 5 = ([r51, r52], 2) := by
  have hok : ∀ r ∈ [r51, r52], r.Ok := fun r hr => by
    simp at hr
    rcases hr with rfl | rfl <;> exact ok_plain (by decide) (by decide)
  have hd := dec_enc (r := r43) (by decide) (ok_plain (by decide) (by decide)) []
  rw [List.append_nil] at hd
  have h := scan_Gb (logV_G logV_a) hok (encR r43) (by
    unfold stepOk
    rw [List.drop_zero, hd]; rfl)
  rw [show ([r51, r52].headD zRec).gen = 5 from rfl] at h
  rw [h, secs_a, List.length_append]
  unfold r51 r52
  rw [enc1 5 1 (by decide) (by decide), enc1 5 2 (by decide) (by decide)]
theorem scan_b : scanD (secsL [r51, r52] ++ encR r43) 4 = ([], 0) := by
  rw [secs_a, List.append_assoc]
  exact scan_no (by decide) (ok_plain (by decide) (by decide)) (by decide) _
theorem recs_a (w : World) : RcsR (w.alloc (.cells #[.int .u64 5, .int .u64 1, .slice none 0 0, .slice none 0 0, .slice none 0 0, .int .u64 5, .int .u64 2, .slice none 0 0, .slice none 0 0, .slice none 0 0] 27)) (w.heap.size + 1) (some ⟨w.heap.size, 0, none⟩) [s51, s52] := by
  refine ⟨fun j u hu => ⟨w.heap.size, 0, rfl, by omega, ?_⟩, fun x hx => ?_⟩
  · have h := World.news_of_block (heap_alloc_new w (.cells #[.int .u64 5, .int .u64 1, .slice none 0 0, .slice none 0 0, .slice none 0 0, .int .u64 5, .int .u64 2, .slice none 0 0, .slice none 0 0, .slice none 0 0] 27)) j u hu
    rw [add_off] at h
    exact h
  · simp at hx
    rcases hx with rfl | rfl <;> exact ⟨Rd.nil_ _ _ _, Rd.nil_ _ _ _, Rd.nil_ _ _ _⟩
set_option maxRecDepth 100000 in
set_option maxHeartbeats 2000000 in
theorem awake28_any (w : World) : Calls Try.prog 32 #[] w fun e w' => e = .returned (.bool true) ∧ Below w.heap.size w w' := by
  obtain ⟨i0, hi0, hz0, hz1, hz2⟩ := info_parts info_sl
  have HOK : Hid (∀ x ∈ [s51, s52], x.r.Ok) := fun x hx => by
    simp at hx
    rcases hx with rfl | rfl <;> exact ok_plain (by decide) (by decide)
  have HTY : Hid (∀ x ∈ [s51, s52], Tiny x.r) := fun x hx => by
    simp at hx
    rcases hx with rfl | rfl <;> exact ⟨by decide, by decide, by decide⟩
  have HRC := Lib.hid (recs_a w)
  go_enter Try.func32, Try.ntmps32
  go_wp2_with fail
  refine (rsectors_any [s51, s52] HTY.out HOK.out (some ⟨w.heap.size, 0, none⟩) 2 _ (by rw [World.size_alloc]; exact HRC.out) (by decide)).mono ?_
  rintro e w1 ⟨A1, c1, ss, rfl, hss, ho1, hb1⟩
  rw [show [s51, s52].map RS.r = [r51, r52] from rfl] at hss ⊢
  have hE : secE [r51, r52] = 0 := by unfold secE; rw [logV_a]; rfl
  have hS : secLs [r51, r52] = secsL [r51, r52] := by unfold secLs; rw [logV_a]; rfl
  rw [hE]
  rw [hS] at hss
  have hl2 : ss.length = 2 := by
    have h1 := congrArg List.length hss
    rw [List.length_map, secs_a, List.length_append] at h1
    unfold r51 r52 at h1
    rw [enc1 5 1 (by decide) (by decide), enc1 5 2 (by decide) (by decide)] at h1
    exact h1
  have HB1 : Hid (Below w.heap.size w w1) := ((Below.refl _ _).alloc (Nat.le_refl _) _).trans (hb1.mono (by simp))
  have HO1 : Hid (SlsO w1 w.heap.size A1 c1 ss) := ho1.mono (by simp)
  have HSS := Lib.hid hss
  have HL2 := Lib.hid hl2
  have hsb : ss.length ≤ 2 := by omega
  have HEN := Lib.hid (rencode_any r43 (ok_plain (by decide) (by decide)) none none none 0 0 0 w1 ⟨Rd.nil_ _ _ _, Rd.nil_ _ _ _, Rd.nil_ _ _ _⟩ (by decide) (by decide) (by decide))
  clear hE hS hss ho1 hb1 HRC hl2
  go_wp2_with fail
  refine HEN.out.mono ?_
  rintro e w2 ⟨A2, c2, tt, rfl, htt, ho2, hb2⟩
  have hEL : encL r43 = encR r43 := by unfold encL; rw [if_pos (by decide)]
  rw [hEL] at htt
  have htl : tt.length = 1 := by
    have h1 := congrArg List.length htt
    rw [List.length_map] at h1
    unfold r43 at h1
    rw [enc1 4 3 (by decide) (by decide)] at h1
    exact h1
  obtain ⟨g2, rfl, hg2, hg2z⟩ := own_at ho2.own (show 0 < tt.length by omega)
  have HB2 := Lib.hid (HB1.out.trans (hb2.mono HB1.out.size))
  have HO2 := Lib.hid (ho2.mono HB1.out.size)
  have HSO2 := Lib.hid (HO1.out.below hb2)
  have HTT := Lib.hid htt
  have hbz := HB2.out.size
  have HTL := Lib.hid htl
  have htb : tt.length ≤ 1 := by omega
  clear htt ho2 hb2 HEN hEL htl
  go_wp2_with (at_builtin; go_loud (refine wpList_append_own _ rfl _ _ 30 rfl w.heap.size 25 i0 _ 1 24 Try.underlying30 hi0 hz0 hz1 hz2 rfl (by decide) (.slice A1 ss.length c1) ss.length (ss.map Sl.v) rfl HSO2.out.own ⟨g2, 0, none⟩ tt.length c2 (tt.map Sl.v) rfl (by simp) (HO2.out.rd.rd.at_add) (sls_one tt) ?c1 ?c2 ?c3 ?_))
  case c1 => unfold maxLen; omega
  case c2 => omega
  case c3 => first | omega | (simp; omega)
  intro v' w9 hown hgrow hiff
  obtain ⟨DA', dc', hv⟩ := own_form hown
  subst hv
  have HSO9 : Hid (SlsO w9 w.heap.size DA' dc' (ss ++ tt)) := SlsO.app HSO2.out HO2.out (Nat.le_refl _) hown hgrow
  have HB9 : Hid (Below w.heap.size w w9) := HB2.out.grown hgrow hbz (fun k hk => own_low HSO2.out.own hk)
  have HX : Hid ((ss ++ tt).map Sl.xs = secsL [r51, r52] ++ encR r43) := by unfold Hid; rw [List.map_append, HSS.out, HTT.out]
  have hso := HSO9.out.sok (by
    rw [HX.out]
    intro b hb
    rcases List.mem_append.1 hb with hb | hb
    · exact secs_ok (fun r hr => by simp at hr; rcases hr with rfl | rfl <;> exact ok_plain (by decide) (by decide)) b hb
    · exact ⟨encR_u8 (ok_plain (by decide) (by decide)) b hb, encR_1k b hb⟩)
  have hlx : (ss ++ tt).length = ss.length + tt.length := List.length_append
  have hcp := own_cap0 HSO9.out.own
  have HS5 := Lib.hid (fun W (hW : Below w9.heap.size w9 W) => scan_any (ss ++ tt) hso 5 DA' dc' hcp.1 (by have := hcp.2.1; unfold maxLen at this; omega) (by omega) W (HSO9.out.rd.up hW))
  have HS4 := Lib.hid (fun W (hW : Below w9.heap.size w9 W) => scan_any (ss ++ tt) hso 4 DA' dc' hcp.1 (by have := hcp.2.1; unfold maxLen at this; omega) (by omega) W (HSO9.out.rd.up hW))
  rw [hlx, HX.out, scan_a] at HS5
  rw [hlx, HX.out, scan_b] at HS4
  clear hown hgrow hiff hso hlx hcp
  go_wp2_with fail
  refine (HS5.out _ (Below.refl _ _)).mono ?_
  rintro e w3 ⟨A3, c3, l3, rfl, hl3, ho3, hb3⟩
  have hn3 : l3.length = 2 := by have := congrArg List.length hl3; rw [List.length_map] at this; exact this
  rw [hn3]
  have HB3 := Lib.hid hb3
  clear hl3 ho3 hb3 HS5
  go_wp2_with fail
  refine (HS4.out _ HB3.out).mono ?_
  rintro e w4 ⟨A4, c4, l4, rfl, hl4, ho4, hb4⟩
  have hn4 : l4.length = 0 := by have := congrArg List.length hl4; rw [List.length_map] at this; exact this
  rw [hn4]
  have HB4 := Lib.hid (HB9.out.trans ((HB3.out.trans (hb4.mono HB3.out.size)).mono HB9.out.size))
  clear hl4 ho4 hb4 HS4 hn3 hn4
  have HNX := Lib.hid (next_any 2 (by decide) 5 (by decide) A3 c3 w4)
  rw [show nextN 2 5 = 21474836483 from rfl] at HNX
  go_wp2_with fail
  refine HNX.out.mono ?_
  rintro e w5 ⟨rfl, rfl⟩
  go_wp2
  go_ret
  exact ⟨rfl, HB4.out⟩
end Go.Proofs.Ytndifkjenjfjpaa

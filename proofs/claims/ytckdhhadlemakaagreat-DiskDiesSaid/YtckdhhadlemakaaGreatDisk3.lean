/-
  WHAT IS SHOWN: what has of disk, and what an operation's closures of Read and Write return and leave. Conditions: the disk lies in memory.
-/
import Derived.Test.YtckdhhadlemakaaGreatDisk1
import Derived.Test.YtckdhhadlemakaaGreatDisk2
import Derived.Test.YtckdhhadlemakaaGreatMedLaws
namespace Go.Proofs.YtckdhhadlemakaaGreat
set_option linter.unusedVariables false
open Go.RowKit

section
variable {w w' : World} {B : Bd} {q pw p : Nat} {g : Geo} {F : List Flt} {s : DS} {P : Pow} {LM : List Sec} {O : List OpV} {FA : Option Addr} {fc : Nat}
set_option maxHeartbeats 1000000 in
theorem dhas_any (a : Int) (h : Dsk w B q pw g F s LM O p FA fc) (hf : Fit g LM) : Calls Tryz.prog 53 #[.pointer (some ⟨q, 0, none⟩), .int .i64 a] w fun e w' => e = .returned (.bool (inL LM a)) ∧ Below w.heap.size w w' := by
  have c5 : w.cell? ⟨q, 5, none⟩ = some (.int .i64 g.random) := (h.cell 5 (by decide)).trans rfl
  have c6 : w.cell? ⟨q, 6, none⟩ = some (.int .i64 g.bands) := (h.cell 6 (by decide)).trans rfl
  have c7 : w.cell? ⟨q, 7, none⟩ = some (.int .i64 g.tracks) := (h.cell 7 (by decide)).trans rfl
  have c8 : w.cell? ⟨q, 8, none⟩ = some (.int .i64 g.sectors) := (h.cell 8 (by decide)).trans rfl
  have c9 : w.cell? ⟨q, 9, none⟩ = some (.int .i64 g.overlap) := (h.cell 9 (by decide)).trans rfl
  have HS : Hid (∀ W, Calls Tryz.prog 78 #[.agg #[.int .i64 g.random, .int .i64 g.bands, .int .i64 g.tracks, .int .i64 g.sectors, .int .i64 g.overlap]] W fun e w' => e = .returned (.int .i64 LM.length) ∧ Below W.heap.size W w') := by
    unfold Hid; intro W
    have := gsz_any g W
    rw [show szN g = (LM.length : Int) from by unfold szN; rw [if_pos ((validG_iff g).2 hf.v)]; exact hf.n.symm] at this
    exact this
  clear h
  by_cases h0 : a < 0
  · have HI : Hid (inL LM a = false) := by unfold Hid inL; simp; omega
    clear hf
    go_enter Tryz.func53, Tryz.ntmps53
    go_wp2
    go_ret
    exact ⟨by rw [HI.out]; rfl, Below.refl _ _⟩
  · by_cases h1 : a < LM.length
    · have HI : Hid (inL LM a = true) := by unfold Hid inL; simp; omega
      clear hf
      go_enter Tryz.func53, Tryz.ntmps53
      go_wp2_with fail
      refine (HS.out _).mono ?_
      rintro e w1 ⟨rfl, hb1⟩
      go_wp2
      go_ret
      exact ⟨by rw [HI.out]; rfl, hb1⟩
    · have HI : Hid (inL LM a = false) := by unfold Hid inL; simp; omega
      clear hf
      go_enter Tryz.func53, Tryz.ntmps53
      go_wp2_with fail
      refine (HS.out _).mono ?_
      rintro e w1 ⟨rfl, hb1⟩
      go_wp2
      go_ret
      exact ⟨by rw [HI.out]; first | rfl | (simp [h1]; done) | (simp; omega), hb1⟩
/-- The types of the blocks that an operation changes without the cache's own. -/
def DPT : List TypeId := [79, 83]
theorem Dsk.of {w0 : World} (ho : w.ownsRow B.n 79 16 (.slice (some ⟨q, 0, none⟩) 1 1) 1 (dObj g s p pw FA F.length fc)) (hqx : ¬ B.X q) (hc : CacheM w0 B p g LM O) (hfl : RdT w0 64 FA (flatF F)) (hk : KeptT DPT B w0 w) : Dsk w B q pw g F s LM O p FA fc :=
  ⟨ho, hqx, hc.keptT hk (by unfold DPT; decide), hfl.kept hk (KeptT.free (by unfold DPT; decide))⟩
/-- What a read returns, behind the fault f. -/
def frO (a : Int) (f : Flt) : Int := if f.kind = 5 then f.to_ else a
def rdE (LM X : List Sec) (a : Int) (f : Flt) : Int := if inL LM a then (if f.kind = 4 then 15 else if readE X (frO a f) = 0 then 0 else 15) else 2
def rdB (LM X : List Sec) (a : Int) (f : Flt) : List Int := if rdE LM X a f = 0 then readB X (frO a f) else []
def rdS (LM X : List Sec) (a : Int) (f : Flt) (s : DS) : DS := if rdE LM X a f = 0 then { s with r := wrap64 (s.r + 1) } else s
def ReadCl (w0 w : World) (B : Bd) (q pw : Nat) (g : Geo) (n fc p ob : Nat) (FA : Option Addr) (er : Int) (xs : List Int) (s : DS) (e : Ending) (w' : World) : Prop :=
  e = .returned (.int .i64 er) ∧ (∃ v, w'.heap[ob]? = some (.cells #[v] 53 (0, 0)) ∧ Byt 5 w' v xs) ∧ w'.ownsRow B.n 79 16 (.slice (some ⟨q, 0, none⟩) 1 1) 1 (dObj g s p pw FA n fc) ∧ KeptT DPT B w0 w' ∧ KeptT [79, 53] (Bd.of 0) w w'
set_option maxRecDepth 100000 in
set_option maxHeartbeats 2000000 in
theorem readcl_any {w0 : World} (f : Flt) (a : Int) (bd ba ob : Nat) (fd fa : Nat × Nat) (ho : w.ownsRow B.n 79 16 (.slice (some ⟨q, 0, none⟩) 1 1) 1 (dObj g s p pw FA F.length fc)) (hqx : ¬ B.X q) (hc : CacheM w0 B p g LM O) (hfl : RdT w0 64 FA (flatF F)) (hk : KeptT DPT B w0 w)
    (hf : Fit g LM) (hsb : ShortB LM) (hd : w.heap[bd]? = some (.cells #[.pointer (some ⟨q, 0, none⟩)] 32 fd)) (ha : w.heap[ba]? = some (.cells #[.int .i64 a] 3 fa)) (hob : w.heap[ob]? = some (.cells #[.slice none 0 0] 53 (0, 0))) (h0 : w0.heap.size ≤ ob) :
    Calls Tryz.prog 56 #[f.val, .pointer (some ⟨bd, 0, none⟩), .pointer (some ⟨ba, 0, none⟩), .pointer (some ⟨ob, 0, none⟩)] w (ReadCl w0 w B q pw g F.length fc p ob FA (rdE LM (playL g LM O) a f) (rdB LM (playL g LM O) a f) (rdS LM (playL g LM O) a f s)) := by
  have h := Dsk.of ho hqx hc hfl hk
  have hb0 : Below w.heap.size w (w.alloc (.cells #[.int .i64 f.at_, .int .i64 f.kind, .int .i64 f.to_] 64)) := (Below.refl _ _).alloc (Nat.le_refl _) _
  have ld := lt_of_block hd
  have la := lt_of_block ha
  have lo := lt_of_block hob
  have HOW := Lib.hid (fun W (hW : Below w.heap.size w W) => h.below0 hW)
  have HHAS : Hid (∀ W, Below w.heap.size w W → Calls Tryz.prog 53 #[.pointer (some ⟨q, 0, none⟩), .int .i64 a] W fun e w' => e = .returned (.bool (inL LM a)) ∧ Below W.heap.size W w') := by
    unfold Hid; intro W hW; exact dhas_any a (h.below0 hW) hf
  have HCR : Hid (∀ W a, Below w.heap.size w W → Calls Tryz.prog 57 #[.pointer (some ⟨p, 0, none⟩), .int .i64 a] W (ReadPost W (readB (playL g LM O) a) (readE (playL g LM O) a))) := by
    unfold Hid; intro W a hW; exact cread_any a (h.c.below0 hW) hf hsb
  have HBD : Hid (∀ W, Below w.heap.size w W → W.cell? ⟨bd, 0, none⟩ = some (.pointer (some ⟨q, 0, none⟩)) ∧ W.cell? ⟨ba, 0, none⟩ = some (.int .i64 a) ∧ W.heap[ob]? = some (.cells #[.slice none 0 0] 53 (0, 0))) := by
    unfold Hid; intro W hW
    exact ⟨by rw [cell_of_row _ _ _ _ _ _ (belObj hW hd ld)]; rfl, by rw [cell_of_row _ _ _ _ _ _ (belObj hW ha la)]; rfl, belObj hW hob lo⟩
  have HFIN : Hid (∀ W, Below w.heap.size w W → rdE LM (playL g LM O) a f ≠ 0 → ReadCl w0 w B q pw g F.length fc p ob FA (rdE LM (playL g LM O) a f) (rdB LM (playL g LM O) a f) (rdS LM (playL g LM O) a f s) (.returned (.int .i64 (rdE LM (playL g LM O) a f))) W) := by
    unfold Hid; intro W hW hne
    have hB : rdB LM (playL g LM O) a f = [] := by unfold rdB; rw [if_neg hne]
    have hS : rdS LM (playL g LM O) a f s = s := by unfold rdS; rw [if_neg hne]
    rw [hB, hS]
    exact ⟨rfl, ⟨_, belObj hW hob lo, Byt.nil _ _⟩, (h.below0 hW).obj, hk.thenBelow hW, KeptT.bel hW⟩
  have tob : IsT 53 w ob := IsT.of hob
  have hqo : q ≠ ob := (IsT.own ho).ne tob (by decide)
  have HDO : Hid (∀ W v, Below w.heap.size w W → Byt 5 W v (readB (playL g LM O) (frO a f)) → rdE LM (playL g LM O) a f = 0 → ReadCl w0 w B q pw g F.length fc p ob FA 0 (rdB LM (playL g LM O) a f) (rdS LM (playL g LM O) a f s) (.returned (.int .i64 0)) ((W.setCell ⟨ob, 0, none⟩ v).setCell ⟨q, 0, none⟩ (.int .i64 (wrap64 (s.r + 1))))) := by
    unfold Hid; intro W v hW hv he
    have hB : rdB LM (playL g LM O) a f = readB (playL g LM O) (frO a f) := by unfold rdB; rw [if_pos he]
    have hS : rdS LM (playL g LM O) a f s = { s with r := wrap64 (s.r + 1) } := by unfold rdS; rw [if_pos he]
    rw [hB, hS]
    have hkob : Kept (fun k => k = ob) W (W.setCell ⟨ob, 0, none⟩ v) := (Kept.refl (fun k => k = ob) W).setCell (p := ⟨ob, 0, none⟩) (fun _ => rfl) _
    have hqW := belObj hW hob lo
    have hob1 := own_kept (h.below0 hW).obj hkob (fun k e => by simp [Value.ownBlock] at e; subst e; exact hqo)
    have hob2 := (World.ownsRow.stored hob1 0 (.int .i64 (wrap64 (s.r + 1)))).1
    have hk1 : KeptT DPT B w0 (W.setCell ⟨ob, 0, none⟩ v) := Kept.trans (hk.thenBelow hW) hkob (fun i hi e => by have e' : i = ob := e; omega)
    have hkq : Kept (fun k => k = q) (W.setCell ⟨ob, 0, none⟩ v) ((W.setCell ⟨ob, 0, none⟩ v).setCell ⟨q, 0, none⟩ (.int .i64 (wrap64 (s.r + 1)))) := (Kept.refl (fun k => k = q) _).setCell (p := ⟨q, 0, none⟩) (fun _ => rfl) _
    have fq : Free (W.setCell ⟨ob, 0, none⟩ v) 5 (fun k => k = q) := by obtain ⟨cur, hh⟩ := own_type hob1; exact Free.one hh (by decide)
    refine ⟨rfl, ⟨v, hkq.obj (one_setCell hqW) (fun e => hqo e.symm), ?_⟩, hob2, hk1.trans (KeptT.of hkq (fun k _ e => by have e' : k = q := e; subst e'; exact ⟨⟨row_low ho, hqx⟩, HasT.mem (IsT.own hob1) (by simp [DPT])⟩)), ((KeptT.bel hW).trans (KeptT.of hkob (fun k _ e => by have e' : k = ob := e; subst e'; exact ⟨⟨Nat.zero_le _, fun h => h⟩, HasT.mem (IsT.of hqW) (by simp)⟩))).trans (KeptT.of hkq (fun k _ e => by have e' : k = q := e; subst e'; exact ⟨⟨Nat.zero_le _, fun h => h⟩, HasT.mem (IsT.own hob1) (by simp)⟩))⟩
    exact (hv.kept hkob (Free.one hqW (by decide))).kept hkq fq
  have HC1 : Hid (∀ W, Below w.heap.size w W → W.cell? ⟨q, 10, none⟩ = some (.pointer (some ⟨p, 0, none⟩))) := by
    unfold Hid; intro W hW; exact ((h.below0 hW).cell 10 (by decide)).trans rfl
  have HC2 : Hid (∀ W v, Below w.heap.size w W → (W.setCell ⟨ob, 0, none⟩ v).cell? ⟨q, 0, none⟩ = some (.int .i64 s.r) ∧ (W.setCell ⟨ob, 0, none⟩ v).frozen? ⟨q, 0, none⟩ = false ∧ (W.setCell ⟨ob, 0, none⟩ v).cell? ⟨bd, 0, none⟩ = some (.pointer (some ⟨q, 0, none⟩))) := by
    unfold Hid; intro W v hW
    have hkob : Kept (fun k => k = ob) W (W.setCell ⟨ob, 0, none⟩ v) := (Kept.refl (fun k => k = ob) W).setCell (p := ⟨ob, 0, none⟩) (fun _ => rfl) _
    have hob1 := own_kept (h.below0 hW).obj hkob (fun k e => by simp [Value.ownBlock] at e; subst e; exact hqo)
    exact ⟨(World.ownsRow.cellAt hob1 0 (by decide)).trans rfl, hob1.frozenAt 0, by rw [cell_of_row _ _ _ _ _ _ (hkob.obj (belObj hW hd ld) ((IsT.of hd).ne tob (by decide)))]; rfl⟩
  generalize hX : playL g LM O = X at *
  clear h ho hc hfl hk hd ha hob hX hf
  obtain ⟨fat, fk, fto⟩ := f
  unfold Flt.val
  simp only at *
  have HC3 : Hid (∀ W, Below (w.alloc (.cells #[.int .i64 fat, .int .i64 fk, .int .i64 fto] 64)).heap.size (w.alloc (.cells #[.int .i64 fat, .int .i64 fk, .int .i64 fto] 64)) W → Cells3 W w.heap.size (.int .i64 fat) (.int .i64 fk) (.int .i64 fto)) := by
    unfold Hid; intro W hW
    have q := heap_alloc_new w (.cells #[.int .i64 fat, .int .i64 fk, .int .i64 fto] 64)
    have q' := belObj hW q (by simp)
    exact ⟨by rw [cell_of_row _ _ _ _ _ _ q']; rfl, by rw [cell_of_row _ _ _ _ _ _ q']; rfl, by rw [cell_of_row _ _ _ _ _ _ q']; rfl⟩
  obtain ⟨b0, b1, b2⟩ := HBD.out _ hb0
  clear b2
  cases hin : inL LM a
  · have HE : Hid (rdE LM X a ⟨fat, fk, fto⟩ = 2) := by unfold Hid rdE; rw [hin]; rfl
    rw [hin] at HHAS
    clear hin
    go_enter Tryz.func56, Tryz.ntmps56
    go_wp2_with fail
    refine (HHAS.out _ hb0).mono ?_
    rintro e w1 ⟨rfl, hb1⟩
    have hw1 : Below w.heap.size w w1 := hb0.trans (hb1.mono (by simp))
    obtain ⟨d0, d1, d2⟩ := HBD.out _ hw1
    have C3 := HC3.out w1 hb1
    have e0 := C3.c0
    have e1 := C3.c1
    have e2 := C3.c2
    clear d2 C3 b0 b1
    have HF := Lib.hid (HFIN.out w1 hw1 (by rw [HE.out]; decide))
    rw [HE.out] at HF
    go_wp2
    go_ret
    rw [HE.out]
    exact HF.out
  · rw [hin] at HHAS
    by_cases h4 : fk = 4
    · have HE : Hid (rdE LM X a ⟨fat, fk, fto⟩ = 15) := by unfold Hid rdE; rw [hin, h4]; rfl
      subst h4
      clear hin
      go_enter Tryz.func56, Tryz.ntmps56
      go_wp2_with fail
      refine (HHAS.out _ hb0).mono ?_
      rintro e w1 ⟨rfl, hb1⟩
      have hw1 : Below w.heap.size w w1 := hb0.trans (hb1.mono (by simp))
      obtain ⟨d0, d1, d2⟩ := HBD.out _ hw1
      have C3 := HC3.out w1 hb1
      have e0 := C3.c0
      have e1 := C3.c1
      have e2 := C3.c2
      clear d2 C3 b0 b1
      have HF := Lib.hid (HFIN.out w1 hw1 (by rw [HE.out]; decide))
      rw [HE.out] at HF
      go_wp2
      go_ret
      rw [HE.out]
      exact HF.out
    · have n4 : (fk == 4) = false := by simpa using h4
      by_cases h5 : fk = 5
      · have HFR : Hid (frO a ⟨fat, fk, fto⟩ = fto) := by unfold Hid frO; rw [if_pos h5]
        have HE0 : Hid (rdE LM X a ⟨fat, fk, fto⟩ = if readE X fto = 0 then 0 else 15) := by unfold Hid rdE; rw [hin]; simp only [if_true]; rw [if_neg h4, HFR.out]
        subst h5
        by_cases hre : readE X fto = 0
        · have HE : Hid (rdE LM X a ⟨fat, 5, fto⟩ = 0) := by unfold Hid; rw [HE0.out, if_pos hre]
          have HCQ : Hid (∀ W, Below w.heap.size w W → Calls Tryz.prog 57 #[.pointer (some ⟨p, 0, none⟩), .int .i64 fto] W (ReadPost W (readB X fto) 0)) := by
            unfold Hid; intro W hW; have := HCR.out W fto hW; rw [hre] at this; exact this
          clear hre
          clear hin
          go_enter Tryz.func56, Tryz.ntmps56
          go_wp2_with fail
          refine (HHAS.out _ hb0).mono ?_
          rintro e w1 ⟨rfl, hb1⟩
          have hw1 : Below w.heap.size w w1 := hb0.trans (hb1.mono (by simp))
          obtain ⟨d0, d1, d2⟩ := HBD.out _ hw1
          have C3 := HC3.out w1 hb1
          have e0 := C3.c0
          have e1 := C3.c1
          have e2 := C3.c2
          clear d2 C3 b0 b1
          have c10 := HC1.out w1 hw1
          go_wp2_with fail
          refine (HCQ.out _ hw1).mono ?_
          rintro e w2 ⟨v, rfl, hv, hb2⟩
          have hw2 : Below w.heap.size w w2 := hw1.trans (hb2.mono hw1.size)
          have HF := Lib.hid (HDO.out w2 v hw2 (by rw [HFR.out]; exact hv) HE.out)
          obtain ⟨A2, c2, rfl, _, _⟩ := hv
          obtain ⟨_, _, d2⟩ := HBD.out _ hw2
          have x0 := cell_of_one d2
          have x1 := free_of_one d2
          obtain ⟨y0, y1, y2⟩ := HC2.out w2 (.slice A2 (readB X fto).length c2) hw2
          clear d2 e0 e1 e2 d0 d1 c10
          go_wp2
          go_ret
          rw [HE.out]
          exact HF.out
        · have HE : Hid (rdE LM X a ⟨fat, 5, fto⟩ = 15) := by unfold Hid; rw [HE0.out, if_neg hre]
          have hre2 : (readE X fto != 0) = true := by simpa using hre
          have HCQ := Lib.hid (fun W hW => HCR.out W fto hW)
          generalize readE X fto = ER at *
          clear hre
          clear hin
          go_enter Tryz.func56, Tryz.ntmps56
          go_wp2_with fail
          refine (HHAS.out _ hb0).mono ?_
          rintro e w1 ⟨rfl, hb1⟩
          have hw1 : Below w.heap.size w w1 := hb0.trans (hb1.mono (by simp))
          obtain ⟨d0, d1, d2⟩ := HBD.out _ hw1
          have C3 := HC3.out w1 hb1
          have e0 := C3.c0
          have e1 := C3.c1
          have e2 := C3.c2
          clear d2 C3 b0 b1
          have c10 := HC1.out w1 hw1
          go_wp2_with fail
          refine (HCQ.out _ hw1).mono ?_
          rintro e w2 ⟨v, rfl, hv, hb2⟩
          have hw2 : Below w.heap.size w w2 := hw1.trans (hb2.mono hw1.size)
          have HF := Lib.hid (HFIN.out w2 hw2 (by rw [HE.out]; decide))
          rw [HE.out] at HF
          clear e0 e1 e2 d0 d1 c10
          go_wp2
          go_ret
          rw [HE.out]
          exact HF.out
      · have n5 : (fk == 5) = false := by simpa using h5
        have HFR : Hid (frO a ⟨fat, fk, fto⟩ = a) := by unfold Hid frO; rw [if_neg h5]
        have HE0 : Hid (rdE LM X a ⟨fat, fk, fto⟩ = if readE X a = 0 then 0 else 15) := by unfold Hid rdE; rw [hin]; simp only [if_true]; rw [if_neg h4, HFR.out]
        clear h4 h5
        by_cases hre : readE X a = 0
        · have HE : Hid (rdE LM X a ⟨fat, fk, fto⟩ = 0) := by unfold Hid; rw [HE0.out, if_pos hre]
          have HCQ : Hid (∀ W, Below w.heap.size w W → Calls Tryz.prog 57 #[.pointer (some ⟨p, 0, none⟩), .int .i64 a] W (ReadPost W (readB X a) 0)) := by
            unfold Hid; intro W hW; have := HCR.out W a hW; rw [hre] at this; exact this
          clear hre
          clear hin
          go_enter Tryz.func56, Tryz.ntmps56
          go_wp2_with fail
          refine (HHAS.out _ hb0).mono ?_
          rintro e w1 ⟨rfl, hb1⟩
          have hw1 : Below w.heap.size w w1 := hb0.trans (hb1.mono (by simp))
          obtain ⟨d0, d1, d2⟩ := HBD.out _ hw1
          have C3 := HC3.out w1 hb1
          have e0 := C3.c0
          have e1 := C3.c1
          have e2 := C3.c2
          clear d2 C3 b0 b1
          have c10 := HC1.out w1 hw1
          go_wp2_with fail
          refine (HCQ.out _ hw1).mono ?_
          rintro e w2 ⟨v, rfl, hv, hb2⟩
          have hw2 : Below w.heap.size w w2 := hw1.trans (hb2.mono hw1.size)
          have HF := Lib.hid (HDO.out w2 v hw2 (by rw [HFR.out]; exact hv) HE.out)
          obtain ⟨A2, c2, rfl, _, _⟩ := hv
          obtain ⟨_, _, d2⟩ := HBD.out _ hw2
          have x0 := cell_of_one d2
          have x1 := free_of_one d2
          obtain ⟨y0, y1, y2⟩ := HC2.out w2 (.slice A2 (readB X a).length c2) hw2
          clear d2 e0 e1 e2 d0 d1 c10
          go_wp2
          go_ret
          rw [HE.out]
          exact HF.out
        · have HE : Hid (rdE LM X a ⟨fat, fk, fto⟩ = 15) := by unfold Hid; rw [HE0.out, if_neg hre]
          have hre2 : (readE X a != 0) = true := by simpa using hre
          have HCQ := Lib.hid (fun W hW => HCR.out W a hW)
          generalize readE X a = ER at *
          clear hre
          clear hin
          go_enter Tryz.func56, Tryz.ntmps56
          go_wp2_with fail
          refine (HHAS.out _ hb0).mono ?_
          rintro e w1 ⟨rfl, hb1⟩
          have hw1 : Below w.heap.size w w1 := hb0.trans (hb1.mono (by simp))
          obtain ⟨d0, d1, d2⟩ := HBD.out _ hw1
          have C3 := HC3.out w1 hb1
          have e0 := C3.c0
          have e1 := C3.c1
          have e2 := C3.c2
          clear d2 C3 b0 b1
          have c10 := HC1.out w1 hw1
          go_wp2_with fail
          refine (HCQ.out _ hw1).mono ?_
          rintro e w2 ⟨v, rfl, hv, hb2⟩
          have hw2 : Below w.heap.size w w2 := hw1.trans (hb2.mono hw1.size)
          have HF := Lib.hid (HFIN.out w2 hw2 (by rw [HE.out]; decide))
          rw [HE.out] at HF
          clear e0 e1 e2 d0 d1 c10
          go_wp2
          go_ret
          rw [HE.out]
          exact HF.out
end
end Go.Proofs.YtckdhhadlemakaaGreat

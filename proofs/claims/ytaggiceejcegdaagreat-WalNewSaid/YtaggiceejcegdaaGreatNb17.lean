/-
  WHAT IS SHOWN: what Decode of record and of tegularef27 returns, for use in walks; bounds on decoded records. what Scan of logarea and of tegularef28 returns. what Scan of tegularef28 returns. what Fits and Join of logarea and of tegularef28 return. awake of tegulalaw28 returns true. nothing of its own: the texts on logs together. what slices.Clone of pieces and of moves, and copied of wal return. Conditions: as each theorem names them.
-/
import Derived.Test.YtaggiceejcegdaaGreatNb07
import Derived.Test.YtaggiceejcegdaaGreatNb09
import Derived.Test.YtaggiceejcegdaaGreatNb16
import Derived.Deep.DeepCutAuto
import Derived.WalkMore
import Derived.Test.YtaggiceejcegdaaGreatNb10
import Derived.Test.YtaggiceejcegdaaGreatNb06
namespace Go.Proofs.YtaggiceejcegdaaGreat
set_option linter.unusedVariables false
open Go.RowKit

theorem dec_small (ls : List (List Int)) : (decD ls).r.ws.length ≤ 64 ∧ (decD ls).r.ms.length ≤ 64 ∧ (decD ls).r.note.length ≤ 256 := by
  rcases dec_er ls with h | h
  · obtain ⟨_, _, r, hr, _, hd⟩ := dec_zero h
    rw [hd]
    unfold recD at hr
    split at hr
    · cases hr
    · split at hr
      · rename_i hv
        injection hr with hr; subst hr
        have := validR_vld hv
        exact ⟨this.nw, this.nm, this.nn⟩
      · cases hr
  · have hz : (decD ls).r = zRec := by
      have h1 := h.1
      unfold decD at h1 ⊢
      split
      · rfl
      · rename_i h2
        rw [if_neg h2] at h1
        cases h3 : scanE ls (hdD ls).parts with
        | some e => rfl
        | none =>
          rw [h3] at h1
          simp only at h1 ⊢
          unfold decEnd at h1 ⊢
          split
          · rfl
          · rename_i h4
            rw [h4] at h1
            simp only at h1
            split
            · rename_i h5
              rw [if_pos h5] at h1
              rcases h1 with h1 | h1 <;> exact absurd h1 (by show ¬ (0 : Int) = _; decide)
            · rfl
    rw [hz]
    exact ⟨by decide, by decide, by decide⟩
/-- What Decode leaves, for its answer. -/
def DecR (w : World) (x : Dec) (e : Ending) (w' : World) : Prop := ∃ (A : Option Addr) (c : Nat) (D : Option Addr) (d : Nat) (N : Option Addr) (n : Nat), e = .returned (.tuple #[.agg #[.int .u64 x.r.gen, .int .u64 x.r.seq, .slice A x.r.ws.length c, .slice D x.r.ms.length d, .slice N x.r.note.length n], .int .i64 x.n, .int .i64 x.er]) ∧ RecO w' x.r A c D d N n ∧ Below w.heap.size w w'
theorem rdecode_r (ss : List Sl) (hss : ∀ s ∈ ss, SlOk s) (A : Option Addr) (c : Nat) (hc : ss.length ≤ c) (hcm : c ≤ 9223372036854775807) (hl : ss.length ≤ 100000) (w : World) (h : SlsR w w.heap.size A ss) :
    Calls Tryz.prog 72 #[.slice A ss.length c] w (DecR w (decD (ss.map Sl.xs))) := rdecode_any ss hss A c hc hcm hl w h
/-- The bounds of a decoded record. -/
structure Small (r : Rec) : Prop where
  ws : r.ws.length ≤ 64
  ms : r.ms.length ≤ 64
  note : r.note.length ≤ 256
theorem dec_small' (ls : List (List Int)) : Small (decD ls).r := ⟨(dec_small ls).1, (dec_small ls).2.1, (dec_small ls).2.2⟩
end Go.Proofs.YtaggiceejcegdaaGreat
namespace Go.Proofs.YtaggiceejcegdaaGreat
set_option linter.unusedVariables false
open Go.RowKit

/-- What Scan leaves. -/
def ScanPost (w : World) (X : List Rec × Nat) (e : Ending) (w' : World) : Prop := ∃ A c l, e = .returned (.tuple #[.slice A l.length c, .int .i64 X.2]) ∧ l.map RS.r = X.1 ∧ RcsO w' w.heap.size A c l ∧ Below w.heap.size w w'
theorem SlsR.dropk {w : World} {B b o : Nat} {ss : List Sl} (h : SlsR w B (some ⟨b, o, none⟩) ss) (n : Nat) : SlsR w B (some ⟨b, o + n, none⟩) (ss.drop n) := ⟨by rw [List.map_drop]; exact h.rd.dropk n, fun s hs => h.each s (List.mem_of_mem_drop hs)⟩
end Go.Proofs.YtaggiceejcegdaaGreat
namespace Go.Proofs.YtaggiceejcegdaaGreat
set_option linter.unusedVariables false
open Go.RowKit

set_option maxRecDepth 100000 in
set_option maxHeartbeats 4000000 in
theorem rscan_any (ss : List Sl) (hss : ∀ s ∈ ss, SlOk s) (gen : Nat) (A : Option Addr) (c : Nat) (hc : ss.length ≤ c) (hcm : c ≤ 9223372036854775807) (hl : ss.length ≤ 100000) (w : World) (h : SlsR w w.heap.size A ss) :
    Calls Tryz.prog 41 #[.slice A ss.length c, .int .u64 gen] w (ScanPost w (scanD (ss.map Sl.xs) gen)) := by
  have HH := Lib.hid h
  have HSS := Lib.hid hss
  clear h hss
  obtain ⟨i0, hi, hz0, hz1, hz2⟩ := info_parts info_rec
  go_enter Tryz.func41, Tryz.ntmps41
  go_wp2
  go_loopw [6, 7] (fun o a wr => ∃ (i at_ : Nat) (l : List RS) (DA : Option Addr) (dc : Nat), at_ ≤ ss.length ∧ a = .int .i64 at_ ∧ o = .slice DA l.length dc ∧ Hid (scanS (ss.map Sl.xs) gen i = (l.map RS.r, at_)) ∧ Hid (l.length = i) ∧ Hid (RcsO wr w.heap.size DA dc l) ∧ Hid (Below w.heap.size w wr)) (fun _ a _ => ss.length - (intOf a).toNat)
  case atStart => exact ⟨0, 0, [], none, 0, Nat.zero_le _, rfl, rfl, rfl, rfl, RcsO.nil _ _, Below.refl _ _⟩
  case round =>
    obtain ⟨i, at_, l, DA, dc, hat, rfl, rfl, HX, HLI, HRO, HBR⟩ := hrel
    have hlb : l.length ≤ 100000 := by
      have h1 := scan_bound (ls := ss.map Sl.xs) (gen := gen) i (by rw [HX.out]; rw [List.length_map]; exact HLI.out)
      rw [HX.out, List.length_map] at h1
      have := HLI.out
      have h2 : at_ ≤ ss.length := h1.2
      have h3 : i ≤ at_ := h1.1
      omega
    by_cases hlt : at_ < ss.length
    · obtain ⟨g, o, rfl, hg, _, _⟩ := sl_at (HH.out.up HBR.out) hlt
      have hdl : (ss.drop at_).length = ss.length - at_ := List.length_drop
      have HD := Lib.hid (rdecode_r (ss.drop at_) (fun s hs => HSS.out s (List.mem_of_mem_drop hs)) (some ⟨g, o + at_, none⟩) (c - at_) (by omega) (by omega) (by omega) wr ((HH.out.up HBR.out).dropk at_))
      rw [hdl, List.map_drop] at HD
      have HSM := Lib.hid (dec_small' ((ss.map Sl.xs).drop at_))
      have HST : Hid (stepOk (ss.map Sl.xs) gen at_ l.length = (decide ((decD ((ss.map Sl.xs).drop at_)).er = 0) && decide ((decD ((ss.map Sl.xs).drop at_)).r.gen = gen) && decide ((decD ((ss.map Sl.xs).drop at_)).r.seq = l.length + 1))) := rfl
      have HNX : Hid (stepOk (ss.map Sl.xs) gen at_ l.length = true → scanS (ss.map Sl.xs) gen (i + 1) = (l.map RS.r ++ [(decD ((ss.map Sl.xs).drop at_)).r], at_ + (decD ((ss.map Sl.xs).drop at_)).n)) := fun h => scan_next HX.out (by rw [List.length_map]; exact h)
      have HFI : Hid (stepOk (ss.map Sl.xs) gen at_ l.length = false → scanD (ss.map Sl.xs) gen = (l.map RS.r, at_)) := fun h => scan_fin HX.out (by rw [List.length_map]; exact HLI.out) (by rw [List.length_map]; exact h)
      have HDN : Hid ((decD ((ss.map Sl.xs).drop at_)).er = 0 → 1 ≤ (decD ((ss.map Sl.xs).drop at_)).n ∧ (decD ((ss.map Sl.xs).drop at_)).n ≤ ss.length - at_) := fun h => by have := dec_n h; rw [List.length_drop, List.length_map] at this; exact this
      generalize decD ((ss.map Sl.xs).drop at_) = X at *
      generalize stepOk (ss.map Sl.xs) gen at_ l.length = sok at *
      obtain ⟨r, m, er⟩ := X
      simp only at HST HNX HFI HDN HSM
      clear hdl
      have hk1 : (at_ : Int) ≤ (ss.length : Int) := by omega
      have hk2 : (ss.length : Int) ≤ (c : Int) := by omega
      have hk3 : ¬ c = at_ := by omega
      go_wp2_with fail
      refine HD.out.mono ?_
      rintro e w2 ⟨A2, c2, D2, d2, N2, n2, rfl, hr2, hb2⟩
      simp only at hr2 ⊢
      have hbx : Below w2.heap.size w2 (w2.alloc (.cells #[.int .u64 r.gen, .int .u64 r.seq, .slice A2 r.ws.length c2, .slice D2 r.ms.length d2, .slice N2 r.note.length n2] 28)) := (Below.refl _ _).alloc (Nat.le_refl _) _
      have hb2x := hb2.trans (hbx.mono hb2.size)
      have HB1 := Lib.hid (HBR.out.trans (hb2x.mono HBR.out.size))
      have HRO1 := Lib.hid (HRO.out.below hb2x)
      have HR1 := Lib.hid (hr2.below0 hbx)
      have PB := (Cells5.new w2 28 (.int .u64 r.gen) (.int .u64 r.seq) (.slice A2 r.ws.length c2) (.slice D2 r.ms.length d2) (.slice N2 r.note.length n2))
      have p0 := PB.c0; have p1 := PB.c1; have p2 := PB.c2; have p3 := PB.c3; have p4 := PB.c4
      clear HD hr2 hb2 hbx hb2x PB
      by_cases he : er = 0
      · subst he
        by_cases hg : r.gen = gen
        · have hge : ((r.gen : Int) != (gen : Int)) = false := by simp; omega
          by_cases hs : r.seq = l.length + 1
          · have hse : ((r.seq : Int) != (l.length : Int) + 1) = false := by simp; omega
            have hN := HNX.out (by rw [HST.out, decide_eq_true rfl, decide_eq_true hg, decide_eq_true hs]; rfl)
            have hdn := HDN.out rfl
            have HN := Lib.hid hN
            have HSL := Lib.hid HSM.out
            clear hN HST HNX HFI HDN hg hs
            go_upto_region 6 with fail
            generalize hW1 : (w2.alloc (.cells #[.int .u64 r.gen, .int .u64 r.seq, .slice A2 r.ws.length c2, .slice D2 r.ms.length d2, .slice N2 r.note.length n2] 28)) = W1 at *
            have hbz := HB1.out.size
            go_wp2_with (at_builtin; go_loud (refine wpList_append_own _ rfl _ _ 22 rfl w.heap.size 28 i0 _ 5 88 Tryz.underlying22 hi hz0 hz1 hz2 rfl (by decide) (.slice DA l.length dc) l.length (flatR l) rfl (HRO1.out.own.alloc _) ⟨W1.heap.size, 0, none⟩ 1 1 [.int .u64 r.gen, .int .u64 r.seq, .slice A2 r.ws.length c2, .slice D2 r.ms.length d2, .slice N2 r.note.length n2] rfl rfl (World.news_of_block (heap_alloc_new _ _)) (RS.one ⟨r, A2, c2, D2, d2, N2, n2⟩) ?c1 ?c2 ?c3 ?_))
            case c1 => unfold maxLen; omega
            case c2 => omega
            case c3 => first | omega | (simp; omega)
            intro v' w9 hown hgrow hiff
            obtain ⟨DA', dc', hv⟩ := own_form hown
            subst hv
            have HRO9 : Hid (RcsO w9 w.heap.size DA' dc' (l ++ [⟨r, A2, c2, D2, d2, N2, n2⟩])) := RcsO.push (x := ⟨r, A2, c2, D2, d2, N2, n2⟩) HRO1.out HR1.out hown hgrow
            have HB9 : Hid (Below w.heap.size w w9) := (HB1.out.alloc hbz _).grown hgrow (by simp; omega) (fun k hk => own_low HRO1.out.own hk)
            clear hown hgrow hiff
            go_wp2
            go_roundw
            case rel => exact ⟨i + 1, at_ + m, l ++ [⟨r, A2, c2, D2, d2, N2, n2⟩], DA', dc', by omega, by go_num, by rw [List.length_append]; rfl, by unfold Hid; rw [HN.out, List.map_append]; rfl, by unfold Hid; rw [List.length_append, HLI.out]; rfl, HRO9, HB9⟩
            case measure => simp [intOf]; omega
          · have hse : ((r.seq : Int) != (l.length : Int) + 1) = true := by simp; omega
            have hf : sok = false := by rw [HST.out, decide_eq_false hs]; simp
            clear hg hs HNX HDN HST
            have HD2 : Hid (scanD (ss.map Sl.xs) gen = (l.map RS.r, at_)) := HFI.out hf
            go_wp2
            go_ret2
            exact ⟨DA, dc, l, by rw [HD2.out]; rfl, by rw [HD2.out], HRO1.out, HB1.out⟩
        · have hge : ((r.gen : Int) != (gen : Int)) = true := by simp; omega
          have hf : sok = false := by rw [HST.out, decide_eq_false hg]; simp
          clear hg HNX HDN HST
          have HD2 : Hid (scanD (ss.map Sl.xs) gen = (l.map RS.r, at_)) := HFI.out hf
          go_wp2
          go_ret2
          exact ⟨DA, dc, l, by rw [HD2.out]; rfl, by rw [HD2.out], HRO1.out, HB1.out⟩
      · have he2 : (er != 0) = true := by simpa using he
        have hf : sok = false := by rw [HST.out, decide_eq_false he]; simp
        clear he HNX HDN HST
        have HD2 : Hid (scanD (ss.map Sl.xs) gen = (l.map RS.r, at_)) := HFI.out hf
        go_wp2
        go_ret2
        exact ⟨DA, dc, l, by rw [HD2.out]; rfl, by rw [HD2.out], HRO1.out, HB1.out⟩
    · obtain rfl : at_ = ss.length := by omega
      have HD2 : Hid (scanD (ss.map Sl.xs) gen = (l.map RS.r, ss.length)) := scan_fin HX.out (by rw [List.length_map]; exact HLI.out) (stepOk_end (by rw [List.length_map]; exact Nat.le_refl _))
      have HD : Hid (∀ (A' : Option Addr) (c' : Nat), c' ≤ 9223372036854775807 → Calls Tryz.prog 72 #[.slice A' 0 c'] wr (DecR wr (Dec.bad 5))) := fun A' c' hc' => by
        have := rdecode_r [] (fun s hs => by simp at hs) A' c' (by simp) hc' (by simp) wr ⟨Rd.nil_ _ _ _, fun s hs => by simp at hs⟩
        rw [show ([] : List Sl).map Sl.xs = [] from rfl, decD_nil] at this
        exact this
      have hk2 : (ss.length : Int) ≤ (c : Int) := by omega
      go_wp2_with fail
      all_goals (
        refine (HD.out _ _ (by omega)).mono ?_
        rintro e w2 ⟨A2, c2, D2, d2, N2, n2, rfl, hr2, hb2⟩
        have hbx : Below w2.heap.size w2 (w2.alloc (.cells #[.int .u64 (Dec.bad 5).r.gen, .int .u64 (Dec.bad 5).r.seq, .slice A2 (Dec.bad 5).r.ws.length c2, .slice D2 (Dec.bad 5).r.ms.length d2, .slice N2 (Dec.bad 5).r.note.length n2] 28)) := (Below.refl _ _).alloc (Nat.le_refl _) _
        have hb2x := hb2.trans (hbx.mono hb2.size)
        have HB1 := Lib.hid (HBR.out.trans (hb2x.mono HBR.out.size))
        have HRO1 := Lib.hid (HRO.out.below hb2x)
        have he2 : ((Dec.bad 5).er != 0) = true := rfl
        clear hr2 hb2 hbx hb2x HD
        go_wp2
        go_ret2
        exact ⟨DA, dc, l, by rw [HD2.out]; rfl, by rw [HD2.out], HRO1.out, HB1.out⟩)
end Go.Proofs.YtaggiceejcegdaaGreat
namespace Go.Proofs.YtaggiceejcegdaaGreat
set_option linter.unusedVariables false
open Go.RowKit

set_option maxRecDepth 100000 in
set_option maxHeartbeats 2000000 in
theorem fits_any (area used : Int) (ha : I64 area) (hu : I64 used) (r : Rec) (hok : r.Ok) (A D N : Option Addr) (c d n : Nat) (w : World) (h : RecR w w.heap.size r A c D d N n) (hw : r.ws.length ≤ 9223372036854775807) (hm : r.ms.length ≤ 9223372036854775807) (hn : r.note.length ≤ 9223372036854775807) :
    Calls Tryz.prog 52 #[.int .i64 area, .int .i64 used, .agg #[.int .u64 r.gen, .int .u64 r.seq, .slice A r.ws.length c, .slice D r.ms.length d, .slice N r.note.length n]] w fun e w' => e = .returned (.bool (fitB area used r)) ∧ Below w.heap.size w w' := by
  have hbx : Below w.heap.size w (w.alloc (.cells #[.int .u64 r.gen, .int .u64 r.seq, .slice A r.ws.length c, .slice D r.ms.length d, .slice N r.note.length n] 28)) := (Below.refl _ _).alloc (Nat.le_refl _) _
  have HEN := Lib.hid (encode_any r hok A D N c d n (w.alloc (.cells #[.int .u64 r.gen, .int .u64 r.seq, .slice A r.ws.length c, .slice D r.ms.length d, .slice N r.note.length n] 28)) (h.up hbx) hw hm hn)
  have PB := (Cells5.new w 28 (.int .u64 r.gen) (.int .u64 r.seq) (.slice A r.ws.length c) (.slice D r.ms.length d) (.slice N r.note.length n))
  have p0 := PB.c0; have p1 := PB.c1; have p2 := PB.c2; have p3 := PB.c3; have p4 := PB.c4
  have HBX := Lib.hid hbx
  have HFE : Hid (validR r = false → fitB area used r = false) := fun h => by unfold fitB; rw [h]; rfl
  have HFY : Hid (validR r = true → fitB area used r = (decide (0 ≤ area) && decide (0 ≤ used) && decide (used ≤ area) && decide (((encR r).length : Int) ≤ area - used))) := fun h => by unfold fitB; rw [h]; simp
  have HEM : Hid (validR r = true → (encR r).length ≤ 4096) := fun h => by rw [encR_len]; exact nCh_le (payR_len (validR_vld h))
  obtain ⟨ha1, ha2⟩ := ha
  obtain ⟨hu1, hu2⟩ := hu
  clear hbx PB h
  go_enter Tryz.func52, Tryz.ntmps52
  go_wp2_with fail
  refine HEN.out.mono ?_
  rintro e w2 ⟨A2, c2, tt, rfl, htt, ho2, hb2⟩
  have hb2x := HBX.out.trans (hb2.mono HBX.out.size)
  have HB2 := Lib.hid hb2x
  have htl := congrArg List.length htt
  rw [List.length_map] at htl
  clear htt ho2 hb2 hb2x HEN p0 p1 p2 p3 p4
  obtain hv | hv : validR r = false ∨ validR r = true := by cases validR r; exact .inl rfl; exact .inr rfl
  · have hE : encE r = 1 := by unfold encE; rw [hv]; rfl
    have HD := Lib.hid (HFE.out hv)
    rw [hE]
    clear hv hE HFY HEM
    go_wp2
    go_ret
    exact ⟨by rw [HD.out]; rfl, HB2.out⟩
  · have hE : encE r = 0 := by unfold encE; rw [hv]; rfl
    have hL : encL r = encR r := by unfold encL; rw [hv]; rfl
    have HD := Lib.hid (HFY.out hv)
    have hmx := HEM.out hv
    rw [hL] at htl
    rw [hE]
    rw [← htl] at HD hmx
    clear hv hE hL HFY HEM HFE htl
    by_cases h1 : 0 ≤ area
    · by_cases h2 : 0 ≤ used
      · by_cases h3 : used ≤ area
        · rw [decide_eq_true h1, decide_eq_true h2, decide_eq_true h3] at HD
          go_wp2
          go_ret
          exact ⟨by rw [HD.out]; first | rfl | (simp; done) | (simp; omega), HB2.out⟩
        · rw [decide_eq_false h3] at HD
          go_wp2
          go_ret
          exact ⟨by rw [HD.out]; first | rfl | (simp; done) | (simp; omega), HB2.out⟩
      · rw [decide_eq_false h2] at HD
        go_wp2
        go_ret
        exact ⟨by rw [HD.out]; first | rfl | (simp; done) | (simp; omega), HB2.out⟩
    · rw [decide_eq_false h1] at HD
      go_wp2
      go_ret
      exact ⟨by rw [HD.out]; first | rfl | (simp; done) | (simp; omega), HB2.out⟩
/-- What Join leaves. -/
def JoinPost (w : World) (b : LS) (e : Ending) (w' : World) : Prop := ∃ A c, e = .returned (.slice A b.l.length c) ∧ RcsR w' w'.heap.size A b.l ∧ Below w.heap.size w w'
end Go.Proofs.YtaggiceejcegdaaGreat
namespace Go.Proofs.YtaggiceejcegdaaGreat
set_option linter.unusedVariables false
open Go.RowKit

theorem encR_1k {r : Rec} : ∀ b ∈ encR r, b.length ≤ 1000 := fun b hb => by
  unfold encR at hb
  obtain ⟨k, _, rfl⟩ := List.mem_map.1 hb
  unfold secB sealB
  have h1 := hdS_len r.gen r.seq k (nCh (payR r).length)
  have h2 := uintB_len (((payR r).drop (28 * k)).take 28).length
  have h3 : (((payR r).drop (28 * k)).take 28).length ≤ 28 := by rw [List.length_take]; omega
  have h4 : ∀ s, (be8 s).length = 8 := fun _ => rfl
  rw [List.length_append, List.length_append, List.length_append, h4]
  omega
theorem secs_ok {l : List Rec} (hok : ∀ r ∈ l, r.Ok) : ∀ b ∈ secsL l, U8s b ∧ b.length ≤ 1000 := fun b hb => by
  unfold secsL at hb
  obtain ⟨r, hr, hb⟩ := List.mem_flatMap.1 hb
  exact ⟨encR_u8 (hok r hr) b hb, encR_1k b hb⟩
/-- Owned sectors can be read. -/
theorem SlsO.sok {w : World} {base : Nat} {A : Option Addr} {c : Nat} {ss : List Sl} (h : SlsO w base A c ss) (hb : ∀ b ∈ ss.map Sl.xs, U8s b ∧ b.length ≤ 1000) : ∀ s ∈ ss, SlOk s := fun s hs => by
  obtain ⟨h1, h2⟩ := hb s.xs (List.mem_map.2 ⟨s, hs, rfl⟩)
  have h3 := own_cap0 (h.each s hs)
  exact ⟨h1, h2, h3.1, by have := h3.2.1; unfold maxLen at this; omega⟩
def r51 : Rec := ⟨5, 1, [], [], []⟩
def r52 : Rec := ⟨5, 2, [], [], []⟩
def r43 : Rec := ⟨4, 3, [], [], []⟩
def s51 : RS := ⟨r51, none, 0, none, 0, none, 0⟩
def s52 : RS := ⟨r52, none, 0, none, 0, none, 0⟩
theorem ok_plain {g s : Nat} (hg : g < 2 ^ 64) (hs : s < 2 ^ 64) : (⟨g, s, [], [], []⟩ : Rec).Ok := ⟨hg, hs, fun x hx => by simp at hx, fun x hx => by simp at hx, fun x hx => by simp at hx⟩
theorem enc1 (g s : Nat) (hg : g < 128) (hs : s < 128) : (encR ⟨g, s, [], [], []⟩).length = 1 := by
  have hp : payR ⟨g, s, [], [], []⟩ = [(g : Int), (s : Int), 0, 0, 0] := by
    unfold payR uintB
    rw [uintF_small hg, uintF_small hs]; rfl
  rw [encR_len, hp]; show nCh 5 = 1; rfl
end Go.Proofs.YtaggiceejcegdaaGreat
namespace Go.Proofs.YtaggiceejcegdaaGreat
set_option linter.unusedVariables false
end Go.Proofs.YtaggiceejcegdaaGreat
namespace Go.Proofs.YtaggiceejcegdaaGreat
set_option linter.unusedVariables false
open Go.RowKit

theorem flatW_one (l : List PW) : ∀ u ∈ flatW l, u.oneCell' = true := fun u hu => by
  unfold flatW at hu
  obtain ⟨x, _, hx⟩ := List.mem_flatMap.1 hu
  unfold PW.cells at hx
  simp only [List.mem_cons, List.not_mem_nil, or_false] at hx
  rcases hx with rfl | rfl | rfl | rfl | rfl | rfl | rfl | rfl | rfl | rfl | rfl <;> rfl
theorem flatM_one (l : List Mv) : ∀ u ∈ flatM l, u.oneCell' = true := fun u hu => by
  unfold flatM at hu
  obtain ⟨x, _, hx⟩ := List.mem_flatMap.1 hu
  unfold Mv.cells at hx
  simp only [List.mem_cons, List.not_mem_nil, or_false] at hx
  rcases hx with rfl | rfl | rfl | rfl <;> rfl
set_option maxRecDepth 100000 in
set_option maxHeartbeats 400000 in
theorem clonews_any (l : List PW) (A : Option Addr) (c : Nat) (w : World) (hr : Rd w w.heap.size A (flatW l)) (hn : l.length ≤ 1000000) :
    Calls Tryz.prog 80 #[.slice A l.length c] w fun e w' => ∃ A' c', e = .returned (.slice A' l.length c') ∧ w'.ownsRow w.heap.size 151 11 (.slice A' l.length c') l.length (flatW l) ∧ Below w.heap.size w w' := by
  obtain ⟨i0, hi, hz0, hz1, hz2⟩ := info_parts info_pw
  have hnil := fun (w : World) a n c => Lib.run_eql_slice_nil (P := Tryz.prog) w 24 151 a n c 0 0 Tryz.underlying24
  cases A with
  | none =>
    have hx := hr.qat_none
    obtain rfl : l = [] := by cases l; rfl; simp [flatW, PW.cells] at hx
    go_enter Tryz.func80, Tryz.ntmps80
    go_wp2
    go_ret
    exact ⟨none, 0, rfl, World.ownsRow_nil _ _ _ _, Below.refl _ _⟩
  | some a =>
    have hro := World.ownsRow_lit (base := w.heap.size) (e := 151) (size := 11) w #[] 0 (Nat.le_refl _) (by decide) rfl
    have hla := hr.alloc (Nat.le_refl _) (.cells #[] 151)
    go_enter Tryz.func80, Tryz.ntmps80
    go_wp2_with (at_builtin; refine wpList_append_own _ rfl _ _ 24 rfl w.heap.size 151 i0 _ 11 32 Tryz.underlying24 hi hz0 hz1 hz2 rfl (by decide) _ 0 [] rfl hro a l.length c (flatW l) rfl (flatW_len l) hla.qat_add (flatW_one l) ?c1 ?c2 ?c3 ?_)
    case c1 => unfold maxLen; omega
    case c2 => omega
    intro v' w' hown hgrow hiff
    try simp only [Nat.zero_add, List.nil_append] at hown
    obtain ⟨A', c', hv⟩ := own_form hown
    subst hv
    go_wp2
    go_ret
    exact ⟨A', c', rfl, hown, ((Below.refl _ _).alloc (Nat.le_refl _) _).grown hgrow (by simp) (fun k hk => by simp [Value.ownBlock] at hk; omega)⟩
set_option maxRecDepth 100000 in
set_option maxHeartbeats 400000 in
theorem clonems_any (l : List Mv) (A : Option Addr) (c : Nat) (w : World) (hr : Rd w w.heap.size A (flatM l)) (hn : l.length ≤ 1000000) :
    Calls Tryz.prog 81 #[.slice A l.length c] w fun e w' => ∃ A' c', e = .returned (.slice A' l.length c') ∧ w'.ownsRow w.heap.size 156 4 (.slice A' l.length c') l.length (flatM l) ∧ Below w.heap.size w w' := by
  obtain ⟨i0, hi, hz0, hz1, hz2⟩ := info_parts info_mv
  have hnil := fun (w : World) a n c => Lib.run_eql_slice_nil (P := Tryz.prog) w 25 156 a n c 0 0 Tryz.underlying25
  cases A with
  | none =>
    have hx := hr.qat_none
    obtain rfl : l = [] := by cases l; rfl; simp [flatM, Mv.cells] at hx
    go_enter Tryz.func81, Tryz.ntmps81
    go_wp2
    go_ret
    exact ⟨none, 0, rfl, World.ownsRow_nil _ _ _ _, Below.refl _ _⟩
  | some a =>
    have hro := World.ownsRow_lit (base := w.heap.size) (e := 156) (size := 4) w #[] 0 (Nat.le_refl _) (by decide) rfl
    have hla := hr.alloc (Nat.le_refl _) (.cells #[] 156)
    go_enter Tryz.func81, Tryz.ntmps81
    go_wp2_with (at_builtin; refine wpList_append_own _ rfl _ _ 25 rfl w.heap.size 156 i0 _ 4 32 Tryz.underlying25 hi hz0 hz1 hz2 rfl (by decide) _ 0 [] rfl hro a l.length c (flatM l) rfl (flatM_len l) hla.qat_add (flatM_one l) ?c1 ?c2 ?c3 ?_)
    case c1 => unfold maxLen; omega
    case c2 => omega
    intro v' w' hown hgrow hiff
    try simp only [Nat.zero_add, List.nil_append] at hown
    obtain ⟨A', c', hv⟩ := own_form hown
    subst hv
    go_wp2
    go_ret
    exact ⟨A', c', rfl, hown, ((Below.refl _ _).alloc (Nat.le_refl _) _).grown hgrow (by simp) (fun k hk => by simp [Value.ownBlock] at hk; omega)⟩
/-- What copied returns: the record, its parts owned. -/
def CopyPost (w : World) (r : Rec) (e : Ending) (w' : World) : Prop := ∃ (A : Option Addr) (c : Nat) (D : Option Addr) (d : Nat) (N : Option Addr) (n : Nat), e = .returned (.agg #[.int .u64 r.gen, .int .u64 r.seq, .slice A r.ws.length c, .slice D r.ms.length d, .slice N r.note.length n]) ∧ RecO w' r A c D d N n ∧ Below w.heap.size w w'
/-- Behind the clones: the box holds the record with its new parts. -/
def CopyMid (w : World) (r : Rec) (wx : World) : Prop := ∃ (A : Option Addr) (c : Nat) (D : Option Addr) (d : Nat) (N : Option Addr) (n : Nat),
  wx.ownsRow w.heap.size 28 5 (.slice (some ⟨w.heap.size, 0, none⟩) 1 1) 1 [.int .u64 r.gen, .int .u64 r.seq, .slice A r.ws.length c, .slice D r.ms.length d, .slice N r.note.length n] ∧
  wx.ownsRow w.heap.size 28 5 (.slice (some ⟨w.heap.size + 1, 0, none⟩) 1 1) 1 [.int .u64 0, .int .u64 0, .slice none 0 0, .slice none 0 0, .slice none 0 0] ∧ RecO wx r A c D d N n ∧ Below w.heap.size w wx
theorem copy_fin {w W : World} {r : Rec} {A0 D0 N0 A D N : Option Addr} {c0 d0 n0 c d n : Nat}
    (h1 : W.ownsRow w.heap.size 28 5 (.slice (some ⟨w.heap.size, 0, none⟩) 1 1) 1 [.int .u64 r.gen, .int .u64 r.seq, .slice A0 r.ws.length c0, .slice D0 r.ms.length d0, .slice N0 r.note.length n0])
    (h2 : W.ownsRow w.heap.size 28 5 (.slice (some ⟨w.heap.size + 1, 0, none⟩) 1 1) 1 [.int .u64 0, .int .u64 0, .slice none 0 0, .slice none 0 0, .slice none 0 0]) (hb : Below w.heap.size w W)
    (ow : W.ownsRow 0 151 11 (.slice A r.ws.length c) r.ws.length (flatW r.ws)) (om : W.ownsRow 0 156 4 (.slice D r.ms.length d) r.ms.length (flatM r.ms)) (on_ : W.ownsRow 0 5 1 (.slice N r.note.length n) r.note.length (r.note.map (Value.int .u8))) :
    CopyMid w r (((W.setCell ⟨w.heap.size, 2, none⟩ (.slice A r.ws.length c)).setCell ⟨w.heap.size, 3, none⟩ (.slice D r.ms.length d)).setCell ⟨w.heap.size, 4, none⟩ (.slice N r.note.length n)) := by
  have s1 := (World.ownsRow.stored h1 2 (.slice A r.ws.length c)).1
  have s2 := (World.ownsRow.stored s1 3 (.slice D r.ms.length d)).1
  have s3 := (World.ownsRow.stored s2 4 (.slice N r.note.length n)).1
  have hk : Kept (fun k => k = w.heap.size) W (((W.setCell ⟨w.heap.size, 2, none⟩ (.slice A r.ws.length c)).setCell ⟨w.heap.size, 3, none⟩ (.slice D r.ms.length d)).setCell ⟨w.heap.size, 4, none⟩ (.slice N r.note.length n)) :=
    (((Kept.refl (fun k => k = w.heap.size) W).setCell (p := ⟨w.heap.size, 2, none⟩) (fun _ => rfl) _).setCell (p := ⟨w.heap.size, 3, none⟩) (fun _ => rfl) _).setCell (p := ⟨w.heap.size, 4, none⟩) (fun _ => rfl) _
  obtain ⟨cur, hcur⟩ := qown_type h1
  have hb3 : Below w.heap.size w (((W.setCell ⟨w.heap.size, 2, none⟩ (.slice A r.ws.length c)).setCell ⟨w.heap.size, 3, none⟩ (.slice D r.ms.length d)).setCell ⟨w.heap.size, 4, none⟩ (.slice N r.note.length n)) :=
    ((hb.setCell (Nat.le_refl _) _).setCell (Nat.le_refl _) _).setCell (Nat.le_refl _) _
  exact ⟨A, c, D, d, N, n, s3, own_kept h2 hk (fun k e => by simp [Value.ownBlock] at e; subst e; show ¬ (w.heap.size + 1 = w.heap.size); omega),
    ⟨own_kept ow hk (own_ne ow hcur (by decide)), own_kept om hk (own_ne om hcur (by decide)), (RdT.of_own on_).kept hk (free4 hcur (by decide))⟩, hb3⟩
set_option maxRecDepth 100000 in
set_option maxHeartbeats 4000000 in
theorem copied_any (r : Rec) (A D N : Option Addr) (c d n : Nat) (w : World) (h : RecR w w.heap.size r A c D d N n) (ht : Tiny r) :
    Calls Tryz.prog 48 #[.agg #[.int .u64 r.gen, .int .u64 r.seq, .slice A r.ws.length c, .slice D r.ms.length d, .slice N r.note.length n]] w (CopyPost w r) := by
  have HW := Lib.hid (fun W (hW : Below w.heap.size w W) => clonews_any r.ws A c W ((h.ws.below hW (Nat.le_refl _)).more hW.size) ht.ws)
  have HM := Lib.hid (fun W (hW : Below w.heap.size w W) => clonems_any r.ms D d W ((h.ms.below hW (Nat.le_refl _)).more hW.size) ht.ms)
  have HN := Lib.hid (fun W (hW : Below w.heap.size w W) => cloneo_any r.note N n W ((h.note.below hW (Nat.le_refl _)).more hW.size) ht.note)
  clear h ht
  have hbW : Below w.heap.size w (((w.alloc (.cells #[.int .u64 r.gen, .int .u64 r.seq, .slice A r.ws.length c, .slice D r.ms.length d, .slice N r.note.length n] 28)).alloc (.cells #[.int .u64 0, .int .u64 0, .slice none 0 0, .slice none 0 0, .slice none 0 0] 28)).drew) := (((Below.refl _ _).alloc (Nat.le_refl _) _).alloc (by simp) _).drew
  have hz0 : (((w.alloc (.cells #[.int .u64 r.gen, .int .u64 r.seq, .slice A r.ws.length c, .slice D r.ms.length d, .slice N r.note.length n] 28)).alloc (.cells #[.int .u64 0, .int .u64 0, .slice none 0 0, .slice none 0 0, .slice none 0 0] 28)).drew).heap.size = w.heap.size + 2 := by simp
  have HR : Hid (∀ W, Below (w.heap.size + 2) (((w.alloc (.cells #[.int .u64 r.gen, .int .u64 r.seq, .slice A r.ws.length c, .slice D r.ms.length d, .slice N r.note.length n] 28)).alloc (.cells #[.int .u64 0, .int .u64 0, .slice none 0 0, .slice none 0 0, .slice none 0 0] 28)).drew) W → (W.ownsRow w.heap.size 28 5 (.slice (some ⟨w.heap.size, 0, none⟩) 1 1) 1 [.int .u64 r.gen, .int .u64 r.seq, .slice A r.ws.length c, .slice D r.ms.length d, .slice N r.note.length n] ∧
      W.ownsRow w.heap.size 28 5 (.slice (some ⟨w.heap.size + 1, 0, none⟩) 1 1) 1 [.int .u64 0, .int .u64 0, .slice none 0 0, .slice none 0 0, .slice none 0 0]) ∧ Below w.heap.size w W) := by
    unfold Hid
    intro W hW
    have o1 := World.ownsRow_lit (base := w.heap.size) (e := 28) (size := 5) w #[.int .u64 r.gen, .int .u64 r.seq, .slice A r.ws.length c, .slice D r.ms.length d, .slice N r.note.length n] 1 (Nat.le_refl _) (by decide) rfl
    have o2 := World.ownsRow_lit (base := w.heap.size) (e := 28) (size := 5) (w.alloc (.cells #[.int .u64 r.gen, .int .u64 r.seq, .slice A r.ws.length c, .slice D r.ms.length d, .slice N r.note.length n] 28)) #[.int .u64 0, .int .u64 0, .slice none 0 0, .slice none 0 0, .slice none 0 0] 1 (by simp) (by decide) rfl
    rw [World.size_alloc] at o2
    have hW' : Kept (fun i => w.heap.size + 2 ≤ i) (((w.alloc (.cells #[.int .u64 r.gen, .int .u64 r.seq, .slice A r.ws.length c, .slice D r.ms.length d, .slice N r.note.length n] 28)).alloc (.cells #[.int .u64 0, .int .u64 0, .slice none 0 0, .slice none 0 0, .slice none 0 0] 28)).drew) W := belKept hW
    refine ⟨⟨?_, ?_⟩, hbW.trans (hW.mono (by omega))⟩
    · exact own_kept (w := (((w.alloc (.cells #[.int .u64 r.gen, .int .u64 r.seq, .slice A r.ws.length c, .slice D r.ms.length d, .slice N r.note.length n] 28)).alloc (.cells #[.int .u64 0, .int .u64 0, .slice none 0 0, .slice none 0 0, .slice none 0 0] 28)).drew)) (own_kept o1 (belKept0 (S := fun _ => False) (((Below.refl _ _).alloc (Nat.le_refl _) _).drew)) (fun _ _ h => h)) hW' (fun k e => by simp [Value.ownBlock] at e; subst e; show ¬ (w.heap.size + 2 ≤ w.heap.size); omega)
    · exact own_kept (w := (((w.alloc (.cells #[.int .u64 r.gen, .int .u64 r.seq, .slice A r.ws.length c, .slice D r.ms.length d, .slice N r.note.length n] 28)).alloc (.cells #[.int .u64 0, .int .u64 0, .slice none 0 0, .slice none 0 0, .slice none 0 0] 28)).drew)) (own_kept o2 (belKept0 (S := fun _ => False) ((Below.refl _ _).drew)) (fun _ _ h => h)) hW' (fun k e => by simp [Value.ownBlock] at e; subst e; show ¬ (w.heap.size + 2 ≤ w.heap.size + 1); omega)
  have HRC : Hid (∀ W, Below (w.heap.size + 2) (((w.alloc (.cells #[.int .u64 r.gen, .int .u64 r.seq, .slice A r.ws.length c, .slice D r.ms.length d, .slice N r.note.length n] 28)).alloc (.cells #[.int .u64 0, .int .u64 0, .slice none 0 0, .slice none 0 0, .slice none 0 0] 28)).drew) W → (W.cell? ⟨w.heap.size, 2, none⟩ = some (.slice A r.ws.length c) ∧ W.cell? ⟨w.heap.size, 3, none⟩ = some (.slice D r.ms.length d) ∧ W.cell? ⟨w.heap.size, 4, none⟩ = some (.slice N r.note.length n)) ∧
      W.frozen? ⟨w.heap.size, 2, none⟩ = false ∧ W.frozen? ⟨w.heap.size, 3, none⟩ = false ∧ W.frozen? ⟨w.heap.size, 4, none⟩ = false) := by
    unfold Hid
    intro W hW
    obtain ⟨⟨o1, _⟩, _⟩ := HR.out W hW
    exact ⟨⟨(World.ownsRow.cellAt o1 2 (by decide)).trans rfl, (World.ownsRow.cellAt o1 3 (by decide)).trans rfl, (World.ownsRow.cellAt o1 4 (by decide)).trans rfl⟩, o1.frozenAt 2, o1.frozenAt 3, o1.frozenAt 4⟩
  obtain ⟨⟨p2, p3, p4⟩, _⟩ := HRC.out _ (Below.refl _ _)
  have hb : Below (w.heap.size + 2) (((w.alloc (.cells #[.int .u64 r.gen, .int .u64 r.seq, .slice A r.ws.length c, .slice D r.ms.length d, .slice N r.note.length n] 28)).alloc (.cells #[.int .u64 0, .int .u64 0, .slice none 0 0, .slice none 0 0, .slice none 0 0] 28)).drew) (((w.alloc (.cells #[.int .u64 r.gen, .int .u64 r.seq, .slice A r.ws.length c, .slice D r.ms.length d, .slice N r.note.length n] 28)).alloc (.cells #[.int .u64 0, .int .u64 0, .slice none 0 0, .slice none 0 0, .slice none 0 0] 28)).drew) := Below.refl _ _
  have hzz : ∀ W, Below (w.heap.size + 2) (((w.alloc (.cells #[.int .u64 r.gen, .int .u64 r.seq, .slice A r.ws.length c, .slice D r.ms.length d, .slice N r.note.length n] 28)).alloc (.cells #[.int .u64 0, .int .u64 0, .slice none 0 0, .slice none 0 0, .slice none 0 0] 28)).drew) W → w.heap.size + 2 ≤ W.heap.size := fun W h => by have := h.size; omega
  have HRB := Lib.hid (fun W (h : Below (w.heap.size + 2) (((w.alloc (.cells #[.int .u64 r.gen, .int .u64 r.seq, .slice A r.ws.length c, .slice D r.ms.length d, .slice N r.note.length n] 28)).alloc (.cells #[.int .u64 0, .int .u64 0, .slice none 0 0, .slice none 0 0, .slice none 0 0] 28)).drew) W) => (HR.out W h).2)
  go_enter Tryz.func48, Tryz.ntmps48
  go_upto_region 1 with (fail)
  go_cut [] from 3 to 14 (fun wx => Hid (CopyMid w r wx))
  case first =>
    go_region_law (first
        | (go_simp
           go_at_call 80
           refine (HW.out _ (HRB.out _ hb)).mono ?_
           rintro e w1 ⟨A1, c1, rfl, ho, hbn⟩
           replace hb := hb.trans (hbn.mono (hzz _ hb))
           clear p2 p3 p4
           obtain ⟨⟨p2, p3, p4⟩, f2, f3, f4⟩ := HRC.out _ hb
           have HO1 := Lib.hid (own_mono ho (Nat.zero_le _))
           try replace HO2 := Lib.hid (own_kept HO2.out (belKept0 (S := fun _ => False) hbn) (fun _ _ h => h))
           try replace HO3 := Lib.hid (own_kept HO3.out (belKept0 (S := fun _ => False) hbn) (fun _ _ h => h))
           clear ho hbn)
        | (go_simp
           go_at_call 81
           refine (HM.out _ (HRB.out _ hb)).mono ?_
           rintro e w2 ⟨A2, c2, rfl, ho, hbn⟩
           replace hb := hb.trans (hbn.mono (hzz _ hb))
           clear p2 p3 p4
           obtain ⟨⟨p2, p3, p4⟩, f2, f3, f4⟩ := HRC.out _ hb
           have HO2 := Lib.hid (own_mono ho (Nat.zero_le _))
           try replace HO1 := Lib.hid (own_kept HO1.out (belKept0 (S := fun _ => False) hbn) (fun _ _ h => h))
           try replace HO3 := Lib.hid (own_kept HO3.out (belKept0 (S := fun _ => False) hbn) (fun _ _ h => h))
           clear ho hbn)
        | (go_simp
           go_at_call 82
           refine (HN.out _ (HRB.out _ hb)).mono ?_
           rintro e w3 ⟨A3, c3, rfl, ho, hbn⟩
           replace hb := hb.trans (hbn.mono (hzz _ hb))
           clear p2 p3 p4
           obtain ⟨⟨p2, p3, p4⟩, f2, f3, f4⟩ := HRC.out _ hb
           have HO3 := Lib.hid (own_mono ho (Nat.zero_le _))
           try replace HO1 := Lib.hid (own_kept HO1.out (belKept0 (S := fun _ => False) hbn) (fun _ _ h => h))
           try replace HO2 := Lib.hid (own_kept HO2.out (belKept0 (S := fun _ => False) hbn) (fun _ _ h => h))
           clear ho hbn))
    all_goals
      go_wp2_with fail
      go_meet
      exact copy_fin (HR.out _ hb).1.1 (HR.out _ hb).1.2 (HR.out _ hb).2 HO1.out HO2.out HO3.out
  case rest =>
    obtain ⟨A1, c1, D1, d1, N1, n1, o1, o2, hr, hbx⟩ := hcut.out
    have p0 := (World.ownsRow.cellAt o1 0 (by decide)).trans (show _ = some _ from rfl)
    have p1 := (World.ownsRow.cellAt o1 1 (by decide)).trans (show _ = some _ from rfl)
    have p2 := (World.ownsRow.cellAt o1 2 (by decide)).trans (show _ = some _ from rfl)
    have p3 := (World.ownsRow.cellAt o1 3 (by decide)).trans (show _ = some _ from rfl)
    have p4 := (World.ownsRow.cellAt o1 4 (by decide)).trans (show _ = some _ from rfl)
    have q0 := (World.ownsRow.cellAt o2 0 (by decide)).trans (show _ = some _ from rfl)
    have q1 := (World.ownsRow.cellAt o2 1 (by decide)).trans (show _ = some _ from rfl)
    have q2 := (World.ownsRow.cellAt o2 2 (by decide)).trans (show _ = some _ from rfl)
    have q3 := (World.ownsRow.cellAt o2 3 (by decide)).trans (show _ = some _ from rfl)
    have q4 := (World.ownsRow.cellAt o2 4 (by decide)).trans (show _ = some _ from rfl)
    have f0 := o2.frozenAt 0
    have f1 := o2.frozenAt 1
    have f2 := o2.frozenAt 2
    have f3 := o2.frozenAt 3
    have f4 := o2.frozenAt 4
    have hk : Kept (fun k => k = w.heap.size + 1) wc (((((wc.setCell ⟨w.heap.size + 1, 0, none⟩ (.int .u64 r.gen)).setCell ⟨w.heap.size + 1, 1, none⟩ (.int .u64 r.seq)).setCell ⟨w.heap.size + 1, 2, none⟩ (.slice A1 r.ws.length c1)).setCell ⟨w.heap.size + 1, 3, none⟩ (.slice D1 r.ms.length d1)).setCell ⟨w.heap.size + 1, 4, none⟩ (.slice N1 r.note.length n1)) :=
      (((((Kept.refl (fun k => k = w.heap.size + 1) wc).setCell (p := ⟨w.heap.size + 1, 0, none⟩) (fun _ => rfl) _).setCell (p := ⟨w.heap.size + 1, 1, none⟩) (fun _ => rfl) _).setCell (p := ⟨w.heap.size + 1, 2, none⟩) (fun _ => rfl) _).setCell (p := ⟨w.heap.size + 1, 3, none⟩) (fun _ => rfl) _).setCell (p := ⟨w.heap.size + 1, 4, none⟩) (fun _ => rfl) _
    obtain ⟨cur, hcur⟩ := qown_type o2
    have HM : Hid (RecO (((((wc.setCell ⟨w.heap.size + 1, 0, none⟩ (.int .u64 r.gen)).setCell ⟨w.heap.size + 1, 1, none⟩ (.int .u64 r.seq)).setCell ⟨w.heap.size + 1, 2, none⟩ (.slice A1 r.ws.length c1)).setCell ⟨w.heap.size + 1, 3, none⟩ (.slice D1 r.ms.length d1)).setCell ⟨w.heap.size + 1, 4, none⟩ (.slice N1 r.note.length n1)) r A1 c1 D1 d1 N1 n1 ∧
        Below w.heap.size w (((((wc.setCell ⟨w.heap.size + 1, 0, none⟩ (.int .u64 r.gen)).setCell ⟨w.heap.size + 1, 1, none⟩ (.int .u64 r.seq)).setCell ⟨w.heap.size + 1, 2, none⟩ (.slice A1 r.ws.length c1)).setCell ⟨w.heap.size + 1, 3, none⟩ (.slice D1 r.ms.length d1)).setCell ⟨w.heap.size + 1, 4, none⟩ (.slice N1 r.note.length n1))) :=
      ⟨hr.kept hk hcur, ((((hbx.setCell (p := ⟨w.heap.size + 1, 0, none⟩) (Nat.le_succ _) _).setCell (p := ⟨w.heap.size + 1, 1, none⟩) (Nat.le_succ _) _).setCell (p := ⟨w.heap.size + 1, 2, none⟩) (Nat.le_succ _) _).setCell (p := ⟨w.heap.size + 1, 3, none⟩) (Nat.le_succ _) _).setCell (p := ⟨w.heap.size + 1, 4, none⟩) (Nat.le_succ _) _⟩
    clear hcut o1 o2 hr hbx hk hcur
    go_wp2
    exact bodyPost_ret (v := .agg #[.int .u64 r.gen, .int .u64 r.seq, .slice A1 r.ws.length c1, .slice D1 r.ms.length d1, .slice N1 r.note.length n1]) (by simp [results, Tryz.results48, go_sem, *]) rfl ⟨A1, c1, D1, d1, N1, n1, rfl, HM.out.1, HM.out.2⟩
end Go.Proofs.YtaggiceejcegdaaGreat

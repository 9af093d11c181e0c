/-
  WHAT IS SHOWN: tegulalaw11.MediaLocal returns true for any geometry and operations, and changes nothing. No condition.
-/
import Derived.Test.YtmjkpnplfeafeaaMediaOps
import Derived.Test.YtmjkpnplfeafeaaMedLaws
namespace Go.Proofs.Ytmjkpnplfeafeaa
set_option linter.unusedVariables false
open Go.ChangeShapes Go.WideShapes Go.ChangeAt Go.RowKit

theorem open_opval {H : Type} {enc : TypeId × Value → H} {w : World} {base b0 : Nat} {spare : Nat → Bool} {held : Bool} {r : Reach} {v : Value} {d : DataW H} {p : List MemPlace}
    (hv : Value.okWide Try.prog w r b0 40 v) (h : DataW.Trod enc Try.prog w base spare held 40 v d p) : ∃ o : OpV, v = .agg #[.bool o.er, .int .i64 o.at_, .slice o.A o.xs.length o.c] ∧ OpIn w o := by
  obtain ⟨cs, rfl, hsz⟩ := Go.WideShapes.okWide_struct Try.underlying40 hv
  rw [cellsOp] at hsz
  obtain ⟨fuel, hf⟩ := h
  obtain ⟨o, ho, hok⟩ := open_op (cs := cs.toList) (by simpa using hsz) hf
  refine ⟨o, ?_, hok⟩
  obtain ⟨l⟩ := cs
  simp only at ho
  subst ho
  rfl
def touchB (a at_ : Int) (ss : List Int) : Bool := decide (a = at_) || ss.any fun s => decide (s = a)
theorem touch_take (a at_ : Int) (ss : List Int) (k : Nat) (h : k < ss.length) : touchB a at_ (ss.take (k + 1)) = (touchB a at_ (ss.take k) || decide (ss[k] = a)) := by
  unfold touchB; rw [List.take_succ_eq_append_getElem h, List.any_append]; simp [Bool.or_assoc]
/-- Is a sector touched by an operation? -/
def touched (g : Geo) (o : OpV) (a : Int) : Bool := if o.er then (decide ((locN g a).e = 0) && decide ((locN g a).band = o.at_)) else touchB a o.at_ (shadowL g o.at_)
theorem local_same {g : Geo} {L : List Sec} (hf : Fit g L) (o : OpV) {a : Int} (h0 : 0 ≤ a) (h1 : a < L.length) (h : touched g o a = false ∨ doE g L o ≠ 0) :
    readE L a = readE (doL g L o) a ∧ readB L a = readB (doL g L o) a ∧ stateN L a = stateN (doL g L o) a := by
  apply read_same (doL_len _ _ _).symm
  unfold doL
  unfold touched at h
  unfold doE at h
  split
  · rename_i he
    rw [if_pos he, if_pos he] at h
    refine (erase_local h0 hf h1 ?_).symm
    rcases h with h | h
    · right; intro hc; rw [decide_eq_true hc.1, decide_eq_true hc.2] at h; cases h
    · exact .inl h
  · rename_i he
    rw [if_neg he, if_neg he] at h
    refine (write_local h0 hf ?_).symm
    rcases h with h | h
    · right
      unfold touchB at h
      simp at h
      exact ⟨h.1, fun s hs => h.2 s hs⟩
    · exact .inl h

set_option maxRecDepth 100000 in
set_option maxHeartbeats 16000000 in
theorem mediaLocal_walk (g : Geo) (A : Option Addr) (l : List OpV) (c : Nat) (o : OpV) (w : World) (hl : OpsIn w (.slice A l.length c) A l c) (hoi : OpIn w o) :
    Calls Try.prog 6 #[.agg #[.int .i64 g.random, .int .i64 g.bands, .int .i64 g.tracks, .int .i64 g.sectors, .int .i64 g.overlap], .slice A l.length c, .agg #[.bool o.er, .int .i64 o.at_, .slice o.A o.xs.length o.c]] w fun e w' => e = .returned (.bool true) ∧ Below w.heap.size w w' := by
  have hb0 : Below w.heap.size w ((w.alloc (.cells #[.int .i64 g.random, .int .i64 g.bands, .int .i64 g.tracks, .int .i64 g.sectors, .int .i64 g.overlap] 23)).alloc (.cells #[.bool o.er, .int .i64 o.at_, .slice o.A o.xs.length o.c] 40)) := ((Below.refl _ _).alloc (Nat.le_refl _) _).alloc (by simp) _
  have HRD := Lib.hid hl.rd
  have HOK := Lib.hid hl.ok
  have hbig := hl.big
  have HSH : Hid (∀ W, Below w.heap.size w W → Calls Try.prog 21 #[.slice A l.length c] W fun e w' => e = .returned (.bool (shortOps l)) ∧ W = w') := by
    unfold Hid; intro W hW; exact short_any l A c W ((HRD.out.below hW (Nat.le_refl _)).more hW.size) hbig (fun o ho => (HOK.out o ho).n)
  have HFR := Lib.hid (fun W => fair_any g W)
  have hon := hoi.n
  have HOI := Lib.hid hoi
  clear hl hoi
  cases hs : shortOps l
  · rw [hs] at HSH
    clear hs
    go_enter Try.func6, Try.ntmps6
    go_wp2_with fail
    refine (awake11_any _).mono ?_
    rintro e w1 ⟨rfl, hb1⟩
    have hbl1 := hb0.trans (hb1.mono hb0.size)
    have PB1 := ((Cells5.new w 23 (.int .i64 g.random) (.int .i64 g.bands) (.int .i64 g.tracks) (.int .i64 g.sectors) (.int .i64 g.overlap)).below ((Below.refl _ _).alloc (Nat.le_refl _) (.cells #[.bool o.er, .int .i64 o.at_, .slice o.A o.xs.length o.c] 40)) (by simp)).below hb1 (by simp; omega)
    have OB1 := Cells3.below (Cells3.new_at (w.alloc (.cells #[.int .i64 g.random, .int .i64 g.bands, .int .i64 g.tracks, .int .i64 g.sectors, .int .i64 g.overlap] 23)) 40 (w.heap.size + 1) (.bool o.er) (.int .i64 o.at_) (.slice o.A o.xs.length o.c) (by simp)) hb1 (by simp)
    have hz1 : w.heap.size + 1 < w1.heap.size := by have := hb1.size; simp at this; omega
    have p0 := PB1.c0; have p1 := PB1.c1; have p2 := PB1.c2; have p3 := PB1.c3; have p4 := PB1.c4; have r0 := OB1.c0; have r1 := OB1.c1; have r2 := OB1.c2
    go_wp2_with fail
    refine (HSH.out _ hbl1).mono ?_
    rintro e w2 ⟨rfl, rfl⟩
    go_wp2_with fail
    refine (awake11_any _).mono ?_
    rintro e w3 ⟨rfl, hb3⟩
    clear p0 p1 p2 p3 p4 r0 r1 r2
    have hbl3 := hbl1.trans (hb3.mono hbl1.size)
    have hz3 := Nat.lt_of_lt_of_le hz1 hb3.size
    have PB3 := PB1.below hb3 (by omega)
    have OB3 := OB1.below hb3 hz1
    have p0 := PB3.c0; have p1 := PB3.c1; have p2 := PB3.c2; have p3 := PB3.c3; have p4 := PB3.c4; have r0 := OB3.c0; have r1 := OB3.c1; have r2 := OB3.c2
    go_wp2
    go_ret
    exact ⟨rfl, hbl3⟩
  · rw [hs] at HSH
    by_cases h64 : o.xs.length ≤ 64
    · have d64 : decide ((64 : Int) < (o.xs.length : Int)) = false := decide_eq_false (by omega)
      cases hfr : fairB g
      · rw [hfr] at HFR
        clear hs hfr
        go_enter Try.func6, Try.ntmps6
        go_wp2_with fail
        refine (awake11_any _).mono ?_
        rintro e w1 ⟨rfl, hb1⟩
        have hbl1 := hb0.trans (hb1.mono hb0.size)
        have PB1 := ((Cells5.new w 23 (.int .i64 g.random) (.int .i64 g.bands) (.int .i64 g.tracks) (.int .i64 g.sectors) (.int .i64 g.overlap)).below ((Below.refl _ _).alloc (Nat.le_refl _) (.cells #[.bool o.er, .int .i64 o.at_, .slice o.A o.xs.length o.c] 40)) (by simp)).below hb1 (by simp; omega)
        have OB1 := Cells3.below (Cells3.new_at (w.alloc (.cells #[.int .i64 g.random, .int .i64 g.bands, .int .i64 g.tracks, .int .i64 g.sectors, .int .i64 g.overlap] 23)) 40 (w.heap.size + 1) (.bool o.er) (.int .i64 o.at_) (.slice o.A o.xs.length o.c) (by simp)) hb1 (by simp)
        have hz1 : w.heap.size + 1 < w1.heap.size := by have := hb1.size; simp at this; omega
        have p0 := PB1.c0; have p1 := PB1.c1; have p2 := PB1.c2; have p3 := PB1.c3; have p4 := PB1.c4; have r0 := OB1.c0; have r1 := OB1.c1; have r2 := OB1.c2
        go_wp2_with fail
        refine (HSH.out _ hbl1).mono ?_
        rintro e w2 ⟨rfl, rfl⟩
        go_wp2_with fail
        refine (HFR.out _).mono ?_
        rintro e w3 ⟨rfl, hb3⟩
        clear p0 p1 p2 p3 p4 r0 r1 r2
        have hbl3 := hbl1.trans (hb3.mono hbl1.size)
        have hz3 := Nat.lt_of_lt_of_le hz1 hb3.size
        have PB3 := PB1.below hb3 (by omega)
        have OB3 := OB1.below hb3 hz1
        have p0 := PB3.c0; have p1 := PB3.c1; have p2 := PB3.c2; have p3 := PB3.c3; have p4 := PB3.c4; have r0 := OB3.c0; have r1 := OB3.c1; have r2 := OB3.c2
        go_wp2_with fail
        refine (awake11_any _).mono ?_
        rintro e w4 ⟨rfl, hb4⟩
        clear p0 p1 p2 p3 p4 r0 r1 r2
        have hbl4 := hbl3.trans (hb4.mono hbl3.size)
        have hz4 := Nat.lt_of_lt_of_le hz3 hb4.size
        have PB4 := PB3.below hb4 (by omega)
        have OB4 := OB3.below hb4 hz3
        have p0 := PB4.c0; have p1 := PB4.c1; have p2 := PB4.c2; have p3 := PB4.c3; have p4 := PB4.c4; have r0 := OB4.c0; have r1 := OB4.c1; have r2 := OB4.c2
        go_wp2
        go_ret
        exact ⟨rfl, hbl4⟩
      · rw [hfr] at HFR
        have hv := fair_valid hfr
        have hg := (validG_iff g).1 hv
        have HN := Lib.hid (fun W => new_yes g hv W)
        have HF := Lib.hid (blank_fit hg)
        have HS := Lib.hid hs
        have HZ : Hid (∀ W, Calls Try.prog 17 #[.agg #[.int .i64 g.random, .int .i64 g.bands, .int .i64 g.tracks, .int .i64 g.sectors, .int .i64 g.overlap]] W fun e w' => e = .returned (.int .i64 ((blankL g).length : Int)) ∧ Below W.heap.size W w') := by
          unfold Hid; intro W; have := rsz_any g W
          rw [szN_valid hg, ← HF.out.n] at this; exact this
        clear hs hfr hv hg h64
        have hn1 : l.length ≤ 100000 := by have := ((shortOps_iff l).1 HS.out).1; omega
        go_enter Try.func6, Try.ntmps6
        go_wp2_with fail
        refine (awake11_any _).mono ?_
        rintro e w1 ⟨rfl, hb1⟩
        have hbl1 := hb0.trans (hb1.mono hb0.size)
        have PB1 := ((Cells5.new w 23 (.int .i64 g.random) (.int .i64 g.bands) (.int .i64 g.tracks) (.int .i64 g.sectors) (.int .i64 g.overlap)).below ((Below.refl _ _).alloc (Nat.le_refl _) (.cells #[.bool o.er, .int .i64 o.at_, .slice o.A o.xs.length o.c] 40)) (by simp)).below hb1 (by simp; omega)
        have OB1 := Cells3.below (Cells3.new_at (w.alloc (.cells #[.int .i64 g.random, .int .i64 g.bands, .int .i64 g.tracks, .int .i64 g.sectors, .int .i64 g.overlap] 23)) 40 (w.heap.size + 1) (.bool o.er) (.int .i64 o.at_) (.slice o.A o.xs.length o.c) (by simp)) hb1 (by simp)
        have hz1 : w.heap.size + 1 < w1.heap.size := by have := hb1.size; simp at this; omega
        have p0 := PB1.c0; have p1 := PB1.c1; have p2 := PB1.c2; have p3 := PB1.c3; have p4 := PB1.c4; have r0 := OB1.c0; have r1 := OB1.c1; have r2 := OB1.c2
        go_wp2_with fail
        refine (HSH.out _ hbl1).mono ?_
        rintro e w2 ⟨rfl, rfl⟩
        go_wp2_with fail
        refine (HFR.out _).mono ?_
        rintro e w4 ⟨rfl, hb4⟩
        clear p0 p1 p2 p3 p4 r0 r1 r2
        have hbl4 := hbl1.trans (hb4.mono hbl1.size)
        have hz4 := Nat.lt_of_lt_of_le hz1 hb4.size
        have PB4 := PB1.below hb4 (by omega)
        have OB4 := OB1.below hb4 hz1
        have p0 := PB4.c0; have p1 := PB4.c1; have p2 := PB4.c2; have p3 := PB4.c3; have p4 := PB4.c4; have r0 := OB4.c0; have r1 := OB4.c1; have r2 := OB4.c2
        go_wp2_with fail
        refine (HN.out _).mono ?_
        rintro e w5 ⟨m, bs, rfl, hm5, hmb, hbb, hb5⟩
        have HM5 := Lib.hid hm5
        clear hm5
        clear p0 p1 p2 p3 p4 r0 r1 r2
        have hbl5 := hbl4.trans (hb5.mono hbl4.size)
        have hz5 := Nat.lt_of_lt_of_le hz4 hb5.size
        have PB5 := PB4.below hb5 (by omega)
        have OB5 := OB4.below hb5 hz4
        have p0 := PB5.c0; have p1 := PB5.c1; have p2 := PB5.c2; have p3 := PB5.c3; have p4 := PB5.c4; have r0 := OB5.c0; have r1 := OB5.c1; have r2 := OB5.c2
        have hbs1 : w.heap.size ≤ bs := Nat.le_trans hbl4.size hbb
        have hbs2 : w.heap.size + 1 < bs := Nat.lt_of_lt_of_le hz4 hbb
        have h15 := hbl5.size
        clear p0 p1 p2 p3 p4 r0 r1 r2
        clear PB1 PB4 OB1 OB4 hbl1 hbl4 hz1 hz4 hmb hbb hb5
        go_wp2
        go_loopw [9] (fun v wr => ∃ k : Nat, k ≤ l.length ∧ v = .int .i64 k ∧ Med wr m bs g (playL g (blankL g) (l.take k)) ∧ Kept (fun k => k = bs) w5 wr) (fun v _ => l.length - (intOf v).toNat)
        case atStart => exact ⟨0, Nat.zero_le _, rfl, HM5.out, Kept.refl _ _⟩
        case round =>
          obtain ⟨k, hk, rfl, hmr, hkr⟩ := hrel
          by_cases hlt : k < l.length
          · have hS : ∀ i, i < w.heap.size → ¬ (i = bs) := fun i hi h => by omega
            have hop := opsok HOK.out HS.out ((belKept hbl5).more (T := fun i => w.heap.size ≤ i) (fun _ _ h => h)) (fun i hi h => by omega)
            have hrd5 := HRD.out.below hbl5 (Nat.le_refl _)
            obtain ⟨go, oo, rfl, hgo, c0, c1, c2⟩ := ops_at (hkr.rd hrd5 hS) hlt
            have hok := (hop _ (List.getElem_mem hlt)).kept hkr hS
            have HT := Lib.hid (playL_take g (blankL g) l k hlt)
            have HF2 : Hid (Fit g (playL g (blankL g) (l.take k))) := Lib.hid (HF.out.len (playL_len _ _ _))
            have hBr : w.heap.size ≤ wr.heap.size := Nat.le_trans h15 hkr.size
            have D1 := Lib.hid (do_any l[k] hmr HF2.out hok hBr)
            generalize playL g (blankL g) (l.take k) = X at *
            generalize l[k] = o at *
            clear hop hrd5 hok hmr
            go_wp2_with fail
            refine D1.out.mono ?_
            rintro e w6 ⟨rfl, hm6, hk6⟩
            have hk56 := hkr.trans hk6 (fun _ _ h => h)
            have HM6 := Lib.hid hm6
            clear hm6 c0 c1 c2
            go_wp2
            go_roundw
            case rel => exact ⟨k + 1, by omega, by go_num, by rw [HT.out]; exact HM6.out, hk56⟩
            case measure => simp [intOf]; omega
          · have hk' : k = l.length := by omega
            subst hk'
            rw [List.take_of_length_le (Nat.le_refl _)] at hmr
            have HFL : Hid (Fit g (playL g (blankL g) l)) := Lib.hid (HF.out.len (playL_len _ _ _))
            have HLL : Hid ((playL g (blankL g) l).length = (blankL g).length) := Lib.hid (playL_len _ _ _)
            have HSL : Hid (ShortB (playL g (blankL g) l)) := Lib.hid (short_play l (short_blankL g))
            generalize playL g (blankL g) l = LP at *
            have hbl6 : Below w.heap.size w wr := hbl5.trans (hkr.below (B := w.heap.size) (fun i hi => by have e' : i = bs := hi; omega) h15)
            have PB6 : Cells5 wr w.heap.size _ _ _ _ _ := PB5.kept hkr (fun e => by have e' : w.heap.size = bs := e; omega)
            have OB6 : Cells3 wr (w.heap.size + 1) _ _ _ := OB5.kept hkr (fun e => by have e' : w.heap.size + 1 = bs := e; omega)
            have hz6 : w.heap.size + 1 < wr.heap.size := Nat.lt_of_lt_of_le hz5 hkr.size
            have HMR := Lib.hid hmr
            clear hmr hkr PB5 OB5
            go_wp2_with fail
            refine (clone_any HMR.out HFL.out).mono ?_
            rintro e w7 ⟨m2, bs2, rfl, hm7, hmb, hbb, hb7⟩
            have hbl7 := hbl6.trans (hb7.mono hbl6.size)
            have hcc := Lib.hid hm7
            have hmm := Lib.hid (HMR.out.below0 hb7)
            have hne := Nat.ne_of_lt (Nat.lt_of_lt_of_le HMR.out.lt.2.1 hbb)
            have hne2 := Nat.ne_of_lt (Nat.lt_of_lt_of_le HMR.out.lt.2.1 hmb)
            have PB7 := PB6.below hb7 (by omega)
            have OB7 := OB6.below hb7 hz6
            have hz7 : w.heap.size + 1 < w7.heap.size := Nat.lt_of_lt_of_le hz6 hb7.size
            clear hm7 hb7 PB6 OB6 hbl6 hz6
            have p0 := PB7.c0; have p1 := PB7.c1; have p2 := PB7.c2; have p3 := PB7.c3; have p4 := PB7.c4; have r0 := OB7.c0; have r1 := OB7.c1; have r2 := OB7.c2
            have hok7 : OpOk w7 w.heap.size o := ⟨HOI.out.at_, (HOI.out.rd).below hbl7 (Nat.le_refl _), by have := of_decide_eq_false d64; omega⟩
            have HDO := Lib.hid (do_any o hmm.out HFL.out hok7 hbl7.size)
            clear hok7
            go_wp2_with fail
            refine HDO.out.mono ?_
            rintro e w8 ⟨rfl, hm8, hk8⟩
            have HLS := Lib.hid (fun (a : Int) h0 h1 h => local_same (g := g) (L := LP) HFL.out o (a := a) h0 h1 h)
            have HF8 : Hid (Fit g (doL g LP o)) := Lib.hid (HFL.out.len (doL_len _ _ _))
            have HS8 : Hid (ShortB (doL g LP o)) := Lib.hid (short_do HSL.out o)
            have HOLD := Lib.hid (hcc.out.kept hk8 (fun e => hne2 (show m2 = bs from e).symm) (fun e => hne (show bs2 = bs from e).symm) hmm.out.nobytes)
            have HNEW := Lib.hid hm8
            have PB8 : Cells5 w8 w.heap.size _ _ _ _ _ := PB7.kept hk8 (fun e => by have e' : w.heap.size = bs := e; omega)
            have OB8 : Cells3 w8 (w.heap.size + 1) _ _ _ := OB7.kept hk8 (fun e => by have e' : w.heap.size + 1 = bs := e; omega)
            have hbl8 : Below w.heap.size w w8 := hbl7.trans (hk8.below (B := w.heap.size) (fun i hi => by have e' : i = bs := hi; omega) hbl7.size)
            have hz8 : w.heap.size + 1 < w8.heap.size := Nat.lt_of_lt_of_le hz7 hk8.size
            have HSHW := Lib.hid (fun W => rshadow_any g o.at_ HOI.out.at_ W)
            clear p0 p1 p2 p3 p4 r0 r1 r2
            clear hm8 hk8 HDO hcc hmm PB7 OB7 hbl7 hz7 HMR
            have p0 := PB8.c0; have p1 := PB8.c1; have p2 := PB8.c2; have p3 := PB8.c3; have p4 := PB8.c4; have r0 := OB8.c0; have r1 := OB8.c1; have r2 := OB8.c2
            go_wp2_with fail
            refine (HSHW.out _).mono ?_
            rintro e w9 ⟨A9, c9, rfl, hown9, hb9⟩
            have hss := shadow_len g o.at_
            have HI9 : Hid (∀ k (hk : k < (shadowL g o.at_).length), ∃ g', A9 = some ⟨g', 0, none⟩ ∧ g' < w9.heap.size ∧ w9.cell? ⟨g', k, none⟩ = some (.int .i64 (shadowL g o.at_)[k])) := by
              unfold Hid; intro k hk
              obtain ⟨g', e1, _, e3⟩ := ints_at hown9 k hk
              exact ⟨g', e1, block_lt_of_cell e3, e3⟩
            have HTD : Hid (∀ a, touched g o a = if o.er then (decide ((locN g a).e = 0) && decide ((locN g a).band = o.at_)) else touchB a o.at_ (shadowL g o.at_)) := by unfold Hid; intro a; rfl
            generalize shadowL g o.at_ = ss at *
            have hbl9 := hbl8.trans (hb9.mono hbl8.size)
            have PB9 := PB8.below hb9 (by omega)
            have OB9 := OB8.below hb9 hz8
            have hz9 : w.heap.size + 1 < w9.heap.size := Nat.lt_of_lt_of_le hz8 hb9.size
            have hold9 := HOLD.out.below0 hb9
            have hnew9 := HNEW.out.below0 hb9
            have R1 : Hid (∀ W a, Below w9.heap.size w9 W → Calls Try.prog 20 #[.pointer (some ⟨m2, 0, none⟩), .int .i64 a] W (ReadPost W (readB LP a) (readE LP a))) := by
              unfold Hid; intro W a hW; exact read_any a (hold9.below0 hW) HFL.out HSL.out
            have R2 : Hid (∀ W a, Below w9.heap.size w9 W → Calls Try.prog 20 #[.pointer (some ⟨m, 0, none⟩), .int .i64 a] W (ReadPost W (readB (doL g LP o) a) (readE (doL g LP o) a))) := by
              unfold Hid; intro W a hW; exact read_any a (hnew9.below0 hW) HF8.out HS8.out
            have T1 : Hid (∀ W a, Below w9.heap.size w9 W → Calls Try.prog 25 #[.pointer (some ⟨m2, 0, none⟩), .int .i64 a] W fun e w' => e = .returned (.int .i64 (stateN LP a)) ∧ W = w') := by
              unfold Hid; intro W a hW; exact state_any a (hold9.below0 hW) HFL.out
            have T2 : Hid (∀ W a, Below w9.heap.size w9 W → Calls Try.prog 25 #[.pointer (some ⟨m, 0, none⟩), .int .i64 a] W fun e w' => e = .returned (.int .i64 (stateN (doL g LP o) a)) ∧ W = w') := by
              unfold Hid; intro W a hW; exact state_any a (hnew9.below0 hW) HF8.out
            have hLn : LP.length = (blankL g).length := HLL.out
            have hle := HF.out.le
            have HLN := Lib.hid hLn
            generalize (blankL g).length = N at *
            generalize doL g LP o = L2 at *
            generalize doE g LP o = E at *
            have HLOC := Lib.hid (fun (a : Int) ha W => rloc_any g a ha W)
            clear p0 p1 p2 p3 p4 r0 r1 r2
            clear hown9 hb9 PB8 OB8 hbl8 hz8 hold9 hnew9 HOLD HNEW HSHW HF8 HS8 hLn
            go_wp2
            go_loopw [13] (fun v wr => ∃ k : Nat, k ≤ N ∧ v = .int .i64 k ∧ Below w9.heap.size w9 wr) (fun v _ => N - (intOf v).toNat)
            case atStart => exact ⟨0, Nat.zero_le _, rfl, Below.refl _ _⟩
            case round =>
              obtain ⟨k, hk, rfl, hbr⟩ := hrel
              have PBr := PB9.below hbr (by omega)
              have OBr := OB9.below hbr hz9
              have hzr : w.heap.size + 1 < wr.heap.size := Nat.lt_of_lt_of_le hz9 hbr.size
              have p0 := PBr.c0; have p1 := PBr.c1; have p2 := PBr.c2; have p3 := PBr.c3; have p4 := PBr.c4; have r0 := OBr.c0; have r1 := OBr.c1; have r2 := OBr.c2
              go_wp2_with fail
              refine (HZ.out _).mono ?_
              rintro e w10 ⟨rfl, hb10⟩
              have hbr10 := hbr.trans (hb10.mono hbr.size)
              have PBs := PBr.below hb10 (by omega)
              have OBs := OBr.below hb10 hzr
              have hzs : w.heap.size + 1 < w10.heap.size := Nat.lt_of_lt_of_le hzr hb10.size
              clear p0 p1 p2 p3 p4 r0 r1 r2
              clear PBr OBr hzr hb10
              have p0 := PBs.c0; have p1 := PBs.c1; have p2 := PBs.c2; have p3 := PBs.c3; have p4 := PBs.c4; have r0 := OBs.c0; have r1 := OBs.c1; have r2 := OBs.c2
              by_cases hlt : k < N
              · go_wp2
                go_loop [14, 15] (fun t i => ∃ j : Nat, j ≤ ss.length ∧ i = .int .i64 j ∧ t = .bool (touchB k o.at_ (ss.take j))) (fun _ i => ss.length - (intOf i).toNat)
                case atStart => exact ⟨0, Nat.zero_le _, rfl, by simp [touchB]; rfl⟩
                case round =>
                  obtain ⟨j, hj, rfl, rfl⟩ := hrel
                  by_cases hjl : j < ss.length
                  · obtain ⟨g', rfl, hg', hc⟩ := HI9.out j hjl
                    have hcr := (hbr10.cell (p := ⟨g', j, none⟩) hg').trans hc
                    have HTT := Lib.hid (touch_take (k : Int) o.at_ ss j hjl)
                    have j0 : (0 : Int) ≤ j := by omega
                    have j1 : (j : Int) < ss.length := by omega
                    cases htb : touchB (k : Int) o.at_ (ss.take j)
                    · rw [htb] at HTT
                      clear htb hc
                      go_wp2
                      go_round
                      case rel => exact ⟨j + 1, by omega, by go_num, by rw [HTT.out]; simp; rfl⟩
                      case measure => simp [intOf]; omega
                    · rw [htb] at HTT
                      clear htb hc
                      go_wp2
                      go_round
                      case rel => exact ⟨j + 1, by omega, by go_num, by rw [HTT.out]; rfl⟩
                      case measure => simp [intOf]; omega
                  · obtain rfl : j = ss.length := by omega
                    rw [List.take_of_length_le (Nat.le_refl _)]
                    have HTK := Lib.hid (HTD.out (k : Int))
                    have HLK := Lib.hid (fun W => HLOC.out (k : Int) ⟨by omega, by omega⟩ W)
                    have HSK := Lib.hid (fun h => HLS.out (k : Int) (by omega) (by have := HLN.out; omega) h)
                    generalize locN g (k : Int) = LC at *
                    generalize htb : touchB (k : Int) o.at_ ss = tb at *
                    clear htb
                    go_wp2_with fail
                    refine (HLK.out _).mono ?_
                    rintro e w11 ⟨rfl, hb11⟩
                    have hbr11 := hbr10.trans (hb11.mono hbr10.size)
                    have OBt := OBs.below hb11 hzs
                    have hbt : Below w.heap.size w w11 := hbl9.trans (hbr11.mono hbl9.size)
                    clear p0 p1 p2 p3 p4 r0 r1 r2
                    clear PBs OBs hzs hb11 hbr10
                    have r0 := OBt.c0
                    have r1 := OBt.c1
                    obtain her | her : o.er = false ∨ o.er = true := by cases o.er <;> simp
                    · rw [her] at r0 HTK
                      clear her
                      cases tb
                      · obtain ⟨q1, q2, q3⟩ := HSK.out (.inl (HTK.out.trans rfl))
                        have F1 := Lib.hid (R1.out w11 (k : Int) hbr11)
                        have F2 : Hid (∀ W, Below w9.heap.size w9 W → Calls Try.prog 20 #[.pointer (some ⟨m, 0, none⟩), .int .i64 (k : Int)] W (ReadPost W (readB LP (k : Int)) (readE LP (k : Int)))) := by
                          unfold Hid; intro W hW; have := R2.out W (k : Int) hW; rw [← q1, ← q2] at this; exact this
                        have F3 := Lib.hid (fun W hW => T1.out W (k : Int) hW)
                        have F4 : Hid (∀ W, Below w9.heap.size w9 W → Calls Try.prog 25 #[.pointer (some ⟨m, 0, none⟩), .int .i64 (k : Int)] W fun e w' => e = .returned (.int .i64 (stateN LP (k : Int))) ∧ W = w') := by
                          unfold Hid; intro W hW; have := T2.out W (k : Int) hW; rw [← q3] at this; exact this
                        clear q1 q2 q3
                        generalize readB LP (k : Int) = xs at *
                        generalize readE LP (k : Int) = ER at *
                        generalize stateN LP (k : Int) = TT at *
                        go_wp2_with fail
                        refine F1.out.mono ?_
                        rintro e w12 ⟨v1, rfl, hv1, hb12⟩
                        have hbr12 := hbr11.trans (hb12.mono hbr11.size)
                        clear r0 r1
                        go_wp2_with fail
                        refine (F2.out _ hbr12).mono ?_
                        rintro e w13 ⟨v2, rfl, hv2, hb13⟩
                        have hbr13 := hbr12.trans (hb13.mono hbr12.size)
                        obtain ⟨A1, c1, rfl, hr1, _⟩ := hv1.kept (belKept0 (S := fun _ => False) hb13) (Free.none _ _)
                        obtain ⟨A2, c2, rfl, hr2, _⟩ := hv2
                        have k1 := conv_bytes c1 hr1.rd
                        have k2 := conv_bytes c2 hr2.rd
                        clear hv1 hr1 hr2
                        generalize strOfNums xs = SS at *
                        go_wp2_with fail
                        refine (F3.out _ hbr13).mono ?_
                        rintro e w14 ⟨rfl, rfl⟩
                        go_wp2_with fail
                        refine (F4.out _ hbr13).mono ?_
                        rintro e w14 ⟨rfl, rfl⟩
                        clear k1 k2
                        go_wp2
                        go_roundw
                        case rel => exact ⟨k + 1, by omega, by go_num, hbr13⟩
                        case measure => simp [intOf]; omega
                      · by_cases hE : E = 0
                        · have hE2 : (E != 0) = false := by simpa using hE
                          clear hE
                          have F1 := Lib.hid (R1.out w11 (k : Int) hbr11)
                          have F2 := Lib.hid (fun W hW => R2.out W (k : Int) hW)
                          generalize readB LP (k : Int) = xs at *
                          generalize readE LP (k : Int) = ER at *
                          generalize readB L2 (k : Int) = xs2 at *
                          generalize readE L2 (k : Int) = ER2 at *
                          go_wp2_with fail
                          refine F1.out.mono ?_
                          rintro e w12 ⟨v1, rfl, hv1, hb12⟩
                          have hbr12 := hbr11.trans (hb12.mono hbr11.size)
                          clear r0 r1
                          go_wp2_with fail
                          refine (F2.out _ hbr12).mono ?_
                          rintro e w13 ⟨v2, rfl, hv2, hb13⟩
                          have hbr13 := hbr12.trans (hb13.mono hbr12.size)
                          clear hv1 hv2
                          go_wp2
                          go_roundw
                          case rel => exact ⟨k + 1, by omega, by go_num, hbr13⟩
                          case measure => simp [intOf]; omega
                        · have hE2 : (E != 0) = true := by simpa using hE
                          obtain ⟨q1, q2, q3⟩ := HSK.out (.inr hE)
                          have F1 := Lib.hid (R1.out w11 (k : Int) hbr11)
                          have F2 : Hid (∀ W, Below w9.heap.size w9 W → Calls Try.prog 20 #[.pointer (some ⟨m, 0, none⟩), .int .i64 (k : Int)] W (ReadPost W (readB LP (k : Int)) (readE LP (k : Int)))) := by
                            unfold Hid; intro W hW; have := R2.out W (k : Int) hW; rw [← q1, ← q2] at this; exact this
                          have F3 := Lib.hid (fun W hW => T1.out W (k : Int) hW)
                          have F4 : Hid (∀ W, Below w9.heap.size w9 W → Calls Try.prog 25 #[.pointer (some ⟨m, 0, none⟩), .int .i64 (k : Int)] W fun e w' => e = .returned (.int .i64 (stateN LP (k : Int))) ∧ W = w') := by
                            unfold Hid; intro W hW; have := T2.out W (k : Int) hW; rw [← q3] at this; exact this
                          clear q1 q2 q3
                          generalize readB LP (k : Int) = xs at *
                          generalize readE LP (k : Int) = ER at *
                          generalize stateN LP (k : Int) = TT at *
                          go_wp2_with fail
                          refine F1.out.mono ?_
                          rintro e w12 ⟨v1, rfl, hv1, hb12⟩
                          have hbr12 := hbr11.trans (hb12.mono hbr11.size)
                          clear r0 r1
                          go_wp2_with fail
                          refine (F2.out _ hbr12).mono ?_
                          rintro e w13 ⟨v2, rfl, hv2, hb13⟩
                          have hbr13 := hbr12.trans (hb13.mono hbr12.size)
                          obtain ⟨A1, c1, rfl, hr1, _⟩ := hv1.kept (belKept0 (S := fun _ => False) hb13) (Free.none _ _)
                          obtain ⟨A2, c2, rfl, hr2, _⟩ := hv2
                          have k1 := conv_bytes c1 hr1.rd
                          have k2 := conv_bytes c2 hr2.rd
                          clear hv1 hr1 hr2
                          generalize strOfNums xs = SS at *
                          go_wp2_with fail
                          refine (F3.out _ hbr13).mono ?_
                          rintro e w14 ⟨rfl, rfl⟩
                          go_wp2_with fail
                          refine (F4.out _ hbr13).mono ?_
                          rintro e w14 ⟨rfl, rfl⟩
                          clear k1 k2
                          go_wp2
                          go_roundw
                          case rel => exact ⟨k + 1, by omega, by go_num, hbr13⟩
                          case measure => simp [intOf]; omega
                    · rw [her] at r0 HTK
                      clear her
                      by_cases e0 : LC.e = 0
                      · have e0' : (LC.e == 0) = true := by simpa using e0
                        by_cases b0 : LC.band = o.at_
                        · have b0' : (LC.band == o.at_) = true := by simpa using b0
                          by_cases hE : E = 0
                          · have hE2 : (E != 0) = false := by simpa using hE
                            clear hE b0 e0
                            have F1 := Lib.hid (R1.out w11 (k : Int) hbr11)
                            have F2 := Lib.hid (fun W hW => R2.out W (k : Int) hW)
                            generalize readB LP (k : Int) = xs at *
                            generalize readE LP (k : Int) = ER at *
                            generalize readB L2 (k : Int) = xs2 at *
                            generalize readE L2 (k : Int) = ER2 at *
                            go_wp2_with fail
                            refine F1.out.mono ?_
                            rintro e w12 ⟨v1, rfl, hv1, hb12⟩
                            have hbr12 := hbr11.trans (hb12.mono hbr11.size)
                            clear r0 r1
                            go_wp2_with fail
                            refine (F2.out _ hbr12).mono ?_
                            rintro e w13 ⟨v2, rfl, hv2, hb13⟩
                            have hbr13 := hbr12.trans (hb13.mono hbr12.size)
                            clear hv1 hv2
                            go_wp2
                            go_roundw
                            case rel => exact ⟨k + 1, by omega, by go_num, hbr13⟩
                            case measure => simp [intOf]; omega
                          · have hE2 : (E != 0) = true := by simpa using hE
                            clear b0 e0
                            obtain ⟨q1, q2, q3⟩ := HSK.out (.inr hE)
                            have F1 := Lib.hid (R1.out w11 (k : Int) hbr11)
                            have F2 : Hid (∀ W, Below w9.heap.size w9 W → Calls Try.prog 20 #[.pointer (some ⟨m, 0, none⟩), .int .i64 (k : Int)] W (ReadPost W (readB LP (k : Int)) (readE LP (k : Int)))) := by
                              unfold Hid; intro W hW; have := R2.out W (k : Int) hW; rw [← q1, ← q2] at this; exact this
                            have F3 := Lib.hid (fun W hW => T1.out W (k : Int) hW)
                            have F4 : Hid (∀ W, Below w9.heap.size w9 W → Calls Try.prog 25 #[.pointer (some ⟨m, 0, none⟩), .int .i64 (k : Int)] W fun e w' => e = .returned (.int .i64 (stateN LP (k : Int))) ∧ W = w') := by
                              unfold Hid; intro W hW; have := T2.out W (k : Int) hW; rw [← q3] at this; exact this
                            clear q1 q2 q3
                            generalize readB LP (k : Int) = xs at *
                            generalize readE LP (k : Int) = ER at *
                            generalize stateN LP (k : Int) = TT at *
                            go_wp2_with fail
                            refine F1.out.mono ?_
                            rintro e w12 ⟨v1, rfl, hv1, hb12⟩
                            have hbr12 := hbr11.trans (hb12.mono hbr11.size)
                            clear r0 r1
                            go_wp2_with fail
                            refine (F2.out _ hbr12).mono ?_
                            rintro e w13 ⟨v2, rfl, hv2, hb13⟩
                            have hbr13 := hbr12.trans (hb13.mono hbr12.size)
                            obtain ⟨A1, c1, rfl, hr1, _⟩ := hv1.kept (belKept0 (S := fun _ => False) hb13) (Free.none _ _)
                            obtain ⟨A2, c2, rfl, hr2, _⟩ := hv2
                            have k1 := conv_bytes c1 hr1.rd
                            have k2 := conv_bytes c2 hr2.rd
                            clear hv1 hr1 hr2
                            generalize strOfNums xs = SS at *
                            go_wp2_with fail
                            refine (F3.out _ hbr13).mono ?_
                            rintro e w14 ⟨rfl, rfl⟩
                            go_wp2_with fail
                            refine (F4.out _ hbr13).mono ?_
                            rintro e w14 ⟨rfl, rfl⟩
                            clear k1 k2
                            go_wp2
                            go_roundw
                            case rel => exact ⟨k + 1, by omega, by go_num, hbr13⟩
                            case measure => simp [intOf]; omega
                        · have b0' : (LC.band == o.at_) = false := by simpa using b0
                          have hTF : touched g o (k : Int) = false := HTK.out.trans (by simp [b0])
                          clear b0 e0
                          obtain ⟨q1, q2, q3⟩ := HSK.out (.inl hTF)
                          have F1 := Lib.hid (R1.out w11 (k : Int) hbr11)
                          have F2 : Hid (∀ W, Below w9.heap.size w9 W → Calls Try.prog 20 #[.pointer (some ⟨m, 0, none⟩), .int .i64 (k : Int)] W (ReadPost W (readB LP (k : Int)) (readE LP (k : Int)))) := by
                            unfold Hid; intro W hW; have := R2.out W (k : Int) hW; rw [← q1, ← q2] at this; exact this
                          have F3 := Lib.hid (fun W hW => T1.out W (k : Int) hW)
                          have F4 : Hid (∀ W, Below w9.heap.size w9 W → Calls Try.prog 25 #[.pointer (some ⟨m, 0, none⟩), .int .i64 (k : Int)] W fun e w' => e = .returned (.int .i64 (stateN LP (k : Int))) ∧ W = w') := by
                            unfold Hid; intro W hW; have := T2.out W (k : Int) hW; rw [← q3] at this; exact this
                          clear q1 q2 q3
                          generalize readB LP (k : Int) = xs at *
                          generalize readE LP (k : Int) = ER at *
                          generalize stateN LP (k : Int) = TT at *
                          go_wp2_with fail
                          refine F1.out.mono ?_
                          rintro e w12 ⟨v1, rfl, hv1, hb12⟩
                          have hbr12 := hbr11.trans (hb12.mono hbr11.size)
                          clear r0 r1
                          go_wp2_with fail
                          refine (F2.out _ hbr12).mono ?_
                          rintro e w13 ⟨v2, rfl, hv2, hb13⟩
                          have hbr13 := hbr12.trans (hb13.mono hbr12.size)
                          obtain ⟨A1, c1, rfl, hr1, _⟩ := hv1.kept (belKept0 (S := fun _ => False) hb13) (Free.none _ _)
                          obtain ⟨A2, c2, rfl, hr2, _⟩ := hv2
                          have k1 := conv_bytes c1 hr1.rd
                          have k2 := conv_bytes c2 hr2.rd
                          clear hv1 hr1 hr2
                          generalize strOfNums xs = SS at *
                          go_wp2_with fail
                          refine (F3.out _ hbr13).mono ?_
                          rintro e w14 ⟨rfl, rfl⟩
                          go_wp2_with fail
                          refine (F4.out _ hbr13).mono ?_
                          rintro e w14 ⟨rfl, rfl⟩
                          clear k1 k2
                          go_wp2
                          go_roundw
                          case rel => exact ⟨k + 1, by omega, by go_num, hbr13⟩
                          case measure => simp [intOf]; omega
                      · have e0' : (LC.e == 0) = false := by simpa using e0
                        have hTF : touched g o (k : Int) = false := HTK.out.trans (by simp [e0])
                        clear e0
                        obtain ⟨q1, q2, q3⟩ := HSK.out (.inl hTF)
                        have F1 := Lib.hid (R1.out w11 (k : Int) hbr11)
                        have F2 : Hid (∀ W, Below w9.heap.size w9 W → Calls Try.prog 20 #[.pointer (some ⟨m, 0, none⟩), .int .i64 (k : Int)] W (ReadPost W (readB LP (k : Int)) (readE LP (k : Int)))) := by
                          unfold Hid; intro W hW; have := R2.out W (k : Int) hW; rw [← q1, ← q2] at this; exact this
                        have F3 := Lib.hid (fun W hW => T1.out W (k : Int) hW)
                        have F4 : Hid (∀ W, Below w9.heap.size w9 W → Calls Try.prog 25 #[.pointer (some ⟨m, 0, none⟩), .int .i64 (k : Int)] W fun e w' => e = .returned (.int .i64 (stateN LP (k : Int))) ∧ W = w') := by
                          unfold Hid; intro W hW; have := T2.out W (k : Int) hW; rw [← q3] at this; exact this
                        clear q1 q2 q3
                        generalize readB LP (k : Int) = xs at *
                        generalize readE LP (k : Int) = ER at *
                        generalize stateN LP (k : Int) = TT at *
                        go_wp2_with fail
                        refine F1.out.mono ?_
                        rintro e w12 ⟨v1, rfl, hv1, hb12⟩
                        have hbr12 := hbr11.trans (hb12.mono hbr11.size)
                        clear r0 r1
                        go_wp2_with fail
                        refine (F2.out _ hbr12).mono ?_
                        rintro e w13 ⟨v2, rfl, hv2, hb13⟩
                        have hbr13 := hbr12.trans (hb13.mono hbr12.size)
                        obtain ⟨A1, c1, rfl, hr1, _⟩ := hv1.kept (belKept0 (S := fun _ => False) hb13) (Free.none _ _)
                        obtain ⟨A2, c2, rfl, hr2, _⟩ := hv2
                        have k1 := conv_bytes c1 hr1.rd
                        have k2 := conv_bytes c2 hr2.rd
                        clear hv1 hr1 hr2
                        generalize strOfNums xs = SS at *
                        go_wp2_with fail
                        refine (F3.out _ hbr13).mono ?_
                        rintro e w14 ⟨rfl, rfl⟩
                        go_wp2_with fail
                        refine (F4.out _ hbr13).mono ?_
                        rintro e w14 ⟨rfl, rfl⟩
                        clear k1 k2
                        go_wp2
                        go_roundw
                        case rel => exact ⟨k + 1, by omega, by go_num, hbr13⟩
                        case measure => simp [intOf]; omega
              · go_wp2
                go_ret
                exact ⟨rfl, hbl9.trans (hbr10.mono hbl9.size)⟩
    · have d64 : decide ((64 : Int) < (o.xs.length : Int)) = true := decide_eq_true (by omega)
      clear h64 hs
      go_enter Try.func6, Try.ntmps6
      go_wp2_with fail
      refine (awake11_any _).mono ?_
      rintro e w1 ⟨rfl, hb1⟩
      have hbl1 := hb0.trans (hb1.mono hb0.size)
      have PB1 := ((Cells5.new w 23 (.int .i64 g.random) (.int .i64 g.bands) (.int .i64 g.tracks) (.int .i64 g.sectors) (.int .i64 g.overlap)).below ((Below.refl _ _).alloc (Nat.le_refl _) (.cells #[.bool o.er, .int .i64 o.at_, .slice o.A o.xs.length o.c] 40)) (by simp)).below hb1 (by simp; omega)
      have OB1 := Cells3.below (Cells3.new_at (w.alloc (.cells #[.int .i64 g.random, .int .i64 g.bands, .int .i64 g.tracks, .int .i64 g.sectors, .int .i64 g.overlap] 23)) 40 (w.heap.size + 1) (.bool o.er) (.int .i64 o.at_) (.slice o.A o.xs.length o.c) (by simp)) hb1 (by simp)
      have hz1 : w.heap.size + 1 < w1.heap.size := by have := hb1.size; simp at this; omega
      have p0 := PB1.c0; have p1 := PB1.c1; have p2 := PB1.c2; have p3 := PB1.c3; have p4 := PB1.c4; have r0 := OB1.c0; have r1 := OB1.c1; have r2 := OB1.c2
      go_wp2_with fail
      refine (HSH.out _ hbl1).mono ?_
      rintro e w2 ⟨rfl, rfl⟩
      go_wp2_with fail
      refine (awake11_any _).mono ?_
      rintro e w3 ⟨rfl, hb3⟩
      clear p0 p1 p2 p3 p4 r0 r1 r2
      have hbl3 := hbl1.trans (hb3.mono hbl1.size)
      have hz3 := Nat.lt_of_lt_of_le hz1 hb3.size
      have PB3 := PB1.below hb3 (by omega)
      have OB3 := OB1.below hb3 hz1
      have p0 := PB3.c0; have p1 := PB3.c1; have p2 := PB3.c2; have p3 := PB3.c3; have p4 := PB3.c4; have r0 := OB3.c0; have r1 := OB3.c1; have r2 := OB3.c2
      go_wp2
      go_ret
      exact ⟨rfl, hbl3⟩

set_option maxRecDepth 100000 in
theorem mediaLocal_lifted (os : Os) (started : os.Started) (H : Type) (enc : TypeId × Value → H) :
    ReturnsInHanded {} Try.checked os 6 .any (Rows.mediaLocalSpec.pre6 enc Try.prog Try.f6 Rows.mediaLocalRow.domain false) (Rows.mediaLocalSpec.post enc Try.prog Try.f6 false true false false) := by
  refine returnsInHanded_of_change (C := Try.checked) own started (by kernel_rfl) Try.func6
    (ChangeSpec.witness6 (enc := enc) (C := Try.checked) false ⟨#[], #[.agg #[.int .i64 0, .int .i64 0, .int .i64 0, .int .i64 0, .int .i64 0], .slice none 0 0, .agg #[.bool false, .int .i64 0, .slice none 0 0]], []⟩ 8 (by kernel_rfl) (by kernel_rfl) (by kernel_rfl) (by kernel_rfl)) ?_
  intro W base args ds gs before hval0 hW hcnd _
  have hval : ∀ (j : Nat) t v, Try.f6.params[j]? = some t → args[j]? = some v → Value.okWide Try.prog W .any base t v := hval0
  have hW' := hW
  obtain ⟨p, q, hA0, hV, rfl, hfz, hnd⟩ := hW
  have hA : DataW.TrodAll enc Try.prog W 0 (fun _ => true) true Try.f6.params.toList args.toList ds p := hA0
  rw [Try.params6] at hA hval
  obtain ⟨v0, vs0, d0, ds0, p0, q0, hargs, rfl, rfl, h0, r0⟩ := trodAll_cons hA
  obtain ⟨v1, vs1, d1, ds1, p1, q1, rfl, rfl, rfl, h1, r1⟩ := trodAll_cons r0
  obtain ⟨v2, vs2, d2, ds2, p2, q2, rfl, rfl, rfl, h2, r2⟩ := trodAll_cons r1
  obtain ⟨rfl, rfl, rfl⟩ := trodAll_nil r2
  obtain rfl : args = #[v0, v1, v2] := by cases args; simp_all
  obtain ⟨rfl, rfl⟩ := trodVars_none hV
  have k0 := h0
  have lt0 : ∀ x ∈ p0, x.block < W.heap.size := by obtain ⟨m, hm⟩ := k0; exact DataW.trod_lt m _ _ _ hm
  have k1 := h1
  have lt1 : ∀ x ∈ p1, x.block < W.heap.size := by obtain ⟨m, hm⟩ := k1; exact DataW.trod_lt m _ _ _ hm
  have k2 := h2
  have lt2 : ∀ x ∈ p2, x.block < W.heap.size := by obtain ⟨m, hm⟩ := k2; exact DataW.trod_lt m _ _ _ hm
  obtain ⟨g, rfl, hg⟩ := open_geo (hval 0 _ _ rfl rfl) h0
  obtain ⟨A, l, c, rfl, hl⟩ := open_opsv (hval 1 _ _ rfl rfl) h1
  obtain ⟨o, rfl, ho⟩ := open_opval (hval 2 _ _ rfl rfl) h2
  clear hA0 hval0
  refine (mediaLocal_walk g A l c o W hl ho).mono fun e W' ⟨he, bel⟩ => ?_
  subst he
  exact ⟨_, rfl, _, _, _, [], _, [], hW', trodAll_mk1 (shut_bool Try.underlying4 _), (trodAll_cons_mk (Below.trod laidOut (by kernel_rfl) (of_decide_eq_true (by kernel_rfl)) k0 bel lt0) (trodAll_cons_mk (Below.trod laidOut (by kernel_rfl) (of_decide_eq_true (by kernel_rfl)) k1 bel lt1) (trodAll_cons_mk (Below.trod laidOut (by kernel_rfl) (of_decide_eq_true (by kernel_rfl)) k2 bel lt2) trodAll_mk0))), rfl, bel.frame _, fun h => by cases h⟩

/-- The statement. -/
theorem mediaLocal_holds : Rows.MediaLocalSaid :=
  OpenClaim.holds_of_wide 6 Try.f6 rfl rfl rfl rfl rfl rfl rfl ⟨rfl, rfl, rfl, rfl, rfl⟩ rfl rfl rfl rfl rfl (by kernel_rfl) Try.func6 (by kernel_rfl)
    (of_decide_eq_true (by kernel_rfl)) (by unfold Func.isWrapper; first | (rw [if_pos (by decide +kernel)]; kernel_rfl) | (rw [if_neg (by decide +kernel)]; exact ⟨rfl, rfl⟩))
    (fun os started H enc _ => mediaLocal_lifted os started H enc)
#print axioms mediaLocal_holds
end Go.Proofs.Ytmjkpnplfeafeaa

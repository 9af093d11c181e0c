/-
  WHAT IS SHOWN: the log of an area that contains the sectors of a log is this log, if what follows is not its next record (LogareaBack). Conditions: none.
-/
import Derived.Test.YtndifkjenjfjpaaLogO
import Derived.Test.YtndifkjenjfjpaaLkA
import Derived.Test.YtndifkjenjfjpaaRows
namespace Go.Proofs.Ytndifkjenjfjpaa
set_option linter.unusedVariables false
open Go.ChangeShapes Go.WideShapes Go.ChangeAt Go.RowKit

theorem few_yes3 {l : List RS} (h : fewL (l.map RS.r) = true) : l.length ≤ 20 ∧ ∀ x ∈ l, Tiny x.r := by
  unfold fewL at h
  rw [Bool.and_eq_true] at h
  obtain ⟨h1, h2⟩ := h
  rw [List.all_eq_true] at h1
  refine ⟨by simpa using h2, fun x hx => short_tiny (h1 _ (List.mem_map.2 ⟨x, hx, rfl⟩))⟩
theorem lrg_no3 {ls : List (List Int)} (h : lrgL ls = false) : ls.length ≤ 120 ∧ ∀ b ∈ ls, b.length ≤ 200 := by
  unfold lrgL at h
  rw [Bool.or_eq_false_iff] at h
  obtain ⟨h1, h2⟩ := h
  rw [List.any_eq_false] at h1
  exact ⟨by simpa using h2, fun b hb => by have := h1 b hb; simpa using this⟩
/-- Scan of joined sectors. -/
theorem back_scan {w7 w9 : World} {ss tt : List Sl} {A9 A7 T : Option Addr} {c9 base : Nat} (hso : ∀ s ∈ ss, SlOk s) (hto : ∀ s ∈ tt, SlOk s) (hown : w9.ownsRow base 25 1 (.slice A9 (ss.length + tt.length) c9) (ss.length + tt.length) (ss.map Sl.v ++ tt.map Sl.v)) (hsl : ss.length ≤ 90000) (htl : tt.length ≤ 1000)
    (hS : SlsR w7 w7.heap.size A7 ss) (hT : SlsR w7 w7.heap.size T tt) (hb : Below w7.heap.size w7 w9) {X : List (List Int)} (hX : ss.map Sl.xs = X) (gen : Nat) :
    Calls Try.prog 34 #[.slice A9 (ss.length + tt.length) c9, .int .u64 gen] w9 (ScanPost w9 (scanD (X ++ tt.map Sl.xs) gen)) := by
  have hl : (ss ++ tt).length = ss.length + tt.length := List.length_append
  obtain ⟨hc1, hc2, _⟩ := own_cap0 hown
  have h := scan_any (ss ++ tt) (fun s hs => by
    rcases List.mem_append.1 hs with hs | hs
    · exact hso s hs
    · exact hto s hs) gen A9 c9 (by omega) (by unfold maxLen at hc2; omega) (by omega) w9 ⟨by rw [List.map_append]; exact Rd.of_own hown, fun s hs => by
    rcases List.mem_append.1 hs with hs | hs
    · exact ((hS.each s hs).below hb (Nat.le_refl _)).more hb.size
    · exact ((hT.each s hs).below hb (Nat.le_refl _)).more hb.size⟩
  rw [hl, List.map_append, hX] at h
  exact h
set_option maxRecDepth 100000 in
set_option maxHeartbeats 4000000 in
theorem logareaBack_walk (l : List RS) (A : Option Addr) (c : Nat) (tt : List Sl) (T : Option Addr) (t : Nat) (w : World) (h : RcsR w w.heap.size A l) (hok : ∀ x ∈ l, x.r.Ok) (hl : l.length ≤ 9223372036854775807)
    (ht : SlsR w w.heap.size T tt) (htok : ∀ s ∈ tt, U8s s.xs ∧ s.xs.length ≤ s.c ∧ s.c ≤ 9223372036854775807) (htc : tt.length ≤ t) (htm : t ≤ 9223372036854775807) :
    Calls Try.prog 15 #[.slice A l.length c, .slice T tt.length t] w fun e w' => e = .returned (.bool true) ∧ Below w.heap.size w w' := by
  have HH := Lib.hid h
  have HK := Lib.hid hok
  have HT := Lib.hid ht
  have HTK := Lib.hid htok
  clear h hok ht htok
  go_enter Try.func15, Try.ntmps15
  go_wp2_with fail
  refine (awake28_any _).mono ?_
  rintro e w1 ⟨rfl, hb1⟩
  have HB1 := Lib.hid hb1
  have HL := Lib.hid (few_any l A c w1 (HH.out.up hb1) hl)
  clear hb1
  go_wp2_with fail
  refine HL.out.mono ?_
  rintro e w2 ⟨rfl, hb2⟩
  have HB2 := Lib.hid (HB1.out.trans (hb2.mono HB1.out.size))
  clear hb2 HL HB1
  obtain hs | hs : fewL (l.map RS.r) = false ∨ fewL (l.map RS.r) = true := by cases fewL (l.map RS.r); exact .inl rfl; exact .inr rfl
  · rw [hs]
    clear hs
    go_wp2
    go_ret
    exact ⟨rfl, HB2.out⟩
  obtain ⟨hl20, hti⟩ := few_yes3 hs
  rw [hs]
  have HTI := Lib.hid hti
  clear hs hti
  by_cases hl0 : l.length = 0
  · have hl0' : ((l.length : Int) == 0) = true := by simpa using hl0
    clear hl0
    go_wp2
    go_ret
    exact ⟨rfl, HB2.out⟩
  have hpos : 0 < l.length := by omega
  have hl0' : ((l.length : Int) == 0) = false := by simpa using hl0
  have HV := Lib.hid (rlogv_any l HTI.out A c w2 (HH.out.up HB2.out) (by omega))
  clear hl0
  go_wp2_with fail
  refine HV.out.mono ?_
  rintro e w3 ⟨rfl, hb3⟩
  have HB3 := Lib.hid (HB2.out.trans (hb3.mono HB2.out.size))
  clear hb3 HV HB2
  obtain hs | hs : logV (l.map RS.r) = false ∨ logV (l.map RS.r) = true := by cases logV (l.map RS.r); exact .inl rfl; exact .inr rfl
  · rw [hs]
    clear hs
    go_wp2
    go_ret
    exact ⟨rfl, HB3.out⟩
  rw [hs]
  have HLV := Lib.hid hs
  clear hs
  have HL := Lib.hid (large_any tt T t w3 (HT.out.up HB3.out) (by omega) (fun s hs => by have := HTK.out s hs; omega))
  go_wp2_with fail
  refine HL.out.mono ?_
  rintro e w4 ⟨rfl, hb4⟩
  have HB4 := Lib.hid (HB3.out.trans (hb4.mono HB3.out.size))
  clear hb4 HL HB3
  obtain hs | hs : lrgL (tt.map Sl.xs) = true ∨ lrgL (tt.map Sl.xs) = false := by cases lrgL (tt.map Sl.xs); exact .inr rfl; exact .inl rfl
  · rw [hs]
    clear hs
    go_wp2
    go_ret
    exact ⟨rfl, HB4.out⟩
  obtain ⟨htl, hx⟩ := lrg_no3 hs
  rw [hs]
  rw [List.length_map] at htl
  have hto : ∀ s ∈ tt, SlOk s := fun s hs => by
    obtain ⟨q1, q2, q3⟩ := HTK.out s hs
    exact ⟨q1, by have := hx s.xs (List.mem_map.2 ⟨s, hs, rfl⟩); omega, q2, q3⟩
  have HTO := Lib.hid hto
  have HD := Lib.hid (rdecode_r tt hto T t htc htm (by omega) w4 (HT.out.up HB4.out))
  have HST : Hid (∀ g k, stepOk (tt.map Sl.xs) g 0 k = (decide ((decD (tt.map Sl.xs)).er = 0) && decide ((decD (tt.map Sl.xs)).r.gen = g) && decide ((decD (tt.map Sl.xs)).r.seq = k + 1))) := fun g k => rfl
  generalize decD (tt.map Sl.xs) = X at *
  obtain ⟨r, m, er⟩ := X
  simp only at HST
  clear hs hx hto
  obtain ⟨g0, o0, rfl, hg0, a0, _⟩ := (HH.out.up HB4.out).rd.rs hpos
  rw [Nat.zero_mul, Nat.add_zero] at a0
  have hgl : l[0].r.gen < 2 ^ 64 := (HK.out _ (List.getElem_mem hpos)).gen
  have HGN : Hid (((l.map RS.r).headD zRec).gen = l[0].r.gen) := by
    unfold Hid
    rw [hd_get (by rw [List.length_map]; exact hpos), List.getElem_map]
  generalize l[0].r.gen = G at *
  go_wp2_with fail
  refine HD.out.mono ?_
  rintro e w5 ⟨A5, c5, D5, d5, N5, n5, rfl, hr5, hb5⟩
  simp only
  have hbx : Below w5.heap.size w5 (w5.alloc (.cells #[.int .u64 r.gen, .int .u64 r.seq, .slice A5 r.ws.length c5, .slice D5 r.ms.length d5, .slice N5 r.note.length n5] 27)) := (Below.refl _ _).alloc (Nat.le_refl _) _
  have hb5x := hb5.trans (hbx.mono hb5.size)
  have HB5 := Lib.hid (HB4.out.trans (hb5x.mono HB4.out.size))
  have PB := (Cells5.new w5 27 (.int .u64 r.gen) (.int .u64 r.seq) (.slice A5 r.ws.length c5) (.slice D5 r.ms.length d5) (.slice N5 r.note.length n5))
  have p0 := PB.c0; have p1 := PB.c1
  have b0 := (hb5x.cell (p := ⟨g0, o0, none⟩) hg0).trans a0
  clear hr5 hb5 hbx hb5x PB HD a0
  have HSK := Lib.hid (HST.out G l.length)
  obtain ⟨sok, hsok⟩ : ∃ sok, stepOk (tt.map Sl.xs) G 0 l.length = sok := ⟨_, rfl⟩
  rw [hsok] at HSK
  have HSOK := Lib.hid hsok
  clear hsok
  go_upto_region 6 with fail
  generalize (w5.alloc (.cells #[.int .u64 r.gen, .int .u64 r.seq, .slice A5 r.ws.length c5, .slice D5 r.ms.length d5, .slice N5 r.note.length n5] 27)) = W1 at *
  go_cut [58] (fun v wx => v = .bool sok ∧ ∃ n : Nat, wx = W1.drewN n)
  case first =>
    have eW0 : IntKind.i64.wrap ((l.length : Int) + 1) = (l.length : Int) + 1 := by rw [IntKind.wrap_i64]; omega
    have eW1 : IntKind.u64.wrap ((l.length : Int) + 1) = (l.length : Int) + 1 := by rw [IntKind.wrap_u64]; omega
    by_cases he : er = 0
    · have he' : (er == 0) = true := by simpa using he
      by_cases hg : r.gen = G
      · have hge : ((r.gen : Int) == (G : Int)) = true := by simp; omega
        by_cases hs : r.seq = l.length + 1
        · have hse : ((r.seq : Int) == (l.length : Int) + 1) = true := by simp; omega
          have hf : sok = true := by rw [HSK.out, decide_eq_true he, decide_eq_true hg, decide_eq_true hs]; rfl
          clear he hg hs
          have hsk := hf
          go_quiet (fail)
          go_wp2_with fail
          go_meet
          exact ⟨by rw [hsk], nq, rfl⟩
        · have hse : ((r.seq : Int) == (l.length : Int) + 1) = false := by simp; omega
          have hf : sok = false := by rw [HSK.out, decide_eq_false hs]; simp
          clear he hg hs
          have hsk := hf
          go_quiet (fail)
          go_wp2_with fail
          go_meet
          exact ⟨by rw [hsk], nq, rfl⟩
      · have hge : ((r.gen : Int) == (G : Int)) = false := by simp; omega
        have hf : sok = false := by rw [HSK.out, decide_eq_false hg]; simp
        clear he hg
        have hsk := hf
        go_quiet (fail)
        go_wp2_with fail
        go_meet
        exact ⟨by rw [hsk], nq, rfl⟩
    · have he' : (er == 0) = false := by simpa using he
      have hf : sok = false := by rw [HSK.out, decide_eq_false he]; simp
      clear he
      have hsk := hf
      go_quiet (fail)
      go_wp2_with fail
      go_meet
      exact ⟨by rw [hsk], nq, rfl⟩
  case rest =>
    obtain ⟨rfl, nq, rfl⟩ := hcut
    have HB6 : Hid (Below w.heap.size w (W1.drewN nq)) := below_drewN HB5.out nq
    have b1 : (W1.drewN nq).cell? ⟨g0, o0, none⟩ = some (.int .u64 G) := b0
    clear b0 p0 p1 HSK HB5
    cases sok with
    | true =>
      go_wp2
      go_ret
      exact ⟨rfl, HB6.out⟩
    | false =>
      generalize W1.drewN nq = W2 at *
      have hE : secE (l.map RS.r) = 0 := by unfold secE; rw [if_pos HLV.out]
      have hS : secLs (l.map RS.r) = secsL (l.map RS.r) := by unfold secLs; rw [if_pos HLV.out]
      have hml : (l.map RS.r).length = l.length := List.length_map _
      have HSCN : Hid (scanD (secsL (l.map RS.r) ++ tt.map Sl.xs) G = (l.map RS.r, (secsL (l.map RS.r)).length)) := by
        have h1 := scan_back HLV.out (fun r hr => by obtain ⟨x, hx, rfl⟩ := List.mem_map.1 hr; exact HK.out x hx) (tt.map Sl.xs) (by rw [HGN.out, hml]; exact HSOK.out)
        rw [HGN.out] at h1
        exact h1
      have HOTH : Hid (scanD (secsL (l.map RS.r)) ((G + 1) % 18446744073709551616) = ([], 0)) := scan_other HLV.out (fun r hr => by obtain ⟨x, hx, rfl⟩ := List.mem_map.1 hr; exact HK.out x hx) (by rw [HGN.out]; omega)
      clear hml
      have HEG : Hid ((((G + 1) % 18446744073709551616 : Nat) : Int) = IntKind.u64.wrap ((G : Int) + 1)) := by unfold Hid; rw [IntKind.wrap_u64]; omega
      have HSEC := Lib.hid (sectors_any l HTI.out HK.out (some ⟨g0, o0, none⟩) c W2 (HH.out.up HB6.out) (by omega))
      go_wp2_with fail
      refine HSEC.out.mono ?_
      rintro e w7 ⟨A7, c7, ss, rfl, hss, ho7, hb7⟩
      rw [hE]
      rw [hS] at hss
      have HMO : Hid (∀ r ∈ l.map RS.r, r.Ok) := fun r hr => by obtain ⟨x, hx, rfl⟩ := List.mem_map.1 hr; exact HK.out x hx
      have hslen : ss.length ≤ 90000 := by
        have h1 := congrArg List.length hss
        rw [List.length_map] at h1
        have h2 := secsL_len (logV_mem HLV.out)
        rw [List.length_map] at h2
        omega
      have hspos : 0 < ss.length := by
        have h1 := congrArg List.length hss
        rw [List.length_map] at h1
        rw [h1]
        cases hl : l with
        | nil => rw [hl] at hpos; simp at hpos
        | cons x l => unfold secsL; rw [List.map_cons, List.flatMap_cons, List.length_append]; have := encR_pos' x.r; omega
      obtain ⟨g7, rfl, hg7, hg7z⟩ := own_at ho7.own hspos
      have b2 := (hb7.cell (p := ⟨g0, o0, none⟩) (block_lt_of_cell b1)).trans b1
      have HB7 := Lib.hid (HB6.out.trans (hb7.mono HB6.out.size))
      have HO7 := Lib.hid (ho7.mono HB6.out.size)
      have HSS := Lib.hid hss
      have HSLN : Hid ((secsL (l.map RS.r)).length = ss.length) := by unfold Hid; rw [← hss, List.length_map]
      obtain ⟨i0, hi0, hz0, hz1, hz2⟩ := info_parts info_sl
      clear hss ho7 hb7 HSEC hE hS b1 HB6
      go_upto_region 9 with fail
      have hrS := HO7.out.rd
      have hrT := HT.out.up HB7.out
      have hro := World.ownsRow_lit (base := w7.heap.size) (e := 25) (size := 1) w7.drew #[] 0 (Nat.le_refl _) (by decide) rfl
      have hla : Rd (w7.drew.alloc (.cells #[] 25)) w7.heap.size (some ⟨g7, 0, none⟩) (ss.map Sl.v) := Rd.alloc (w := w7.drew) (hrS.rd.drewN 1) (Nat.le_refl _) (.cells #[] 25)
      have hg0z := block_lt_of_cell b2
      have hb2d : w7.drew.cell? ⟨g0, o0, none⟩ = some (.int .u64 G) := b2
      have HSO : Hid (∀ s ∈ ss, SlOk s) := HO7.out.sok (by rw [HSS.out]; exact secs_ok HMO.out)
      have HLD : Hid (Below w7.heap.size w7 (w7.drew.alloc (.cells #[] 25))) := ((Below.refl w7.heap.size w7).drew).alloc (Nat.le_refl _) _
      cases T with
      | none =>
        have hxt := hrT.rd.at_none
        obtain rfl : tt = [] := by cases tt; rfl; simp at hxt
        rw [List.map_nil, List.append_nil] at HSCN
        have HRS := Lib.hid hrS
        go_region_held3 (fun W => W.cell? ⟨g0, o0, none⟩ = some (.int .u64 G))
          (first | assumption | (simp (maxDischargeDepth := 20) [World.cell?_alloc_some, *]; done))
          ((first
            | (refine step_append_own rfl (.tmp 65) (.tmp 66) 30 rfl w7.heap.size 25 i0 _ 1 24 Try.underlying30 hi0 hz0 hz1 hz2 rfl (by decide) (.slice (some ⟨w7.heap.size, 0, none⟩) 0 0) 0 [] rfl hro ⟨g7, 0, none⟩ ss.length c7 (ss.map Sl.v) rfl (by simp) hla.at_add (sls_one ss) ?e1 ?e2 ?e3 ?_
               case e1 => unfold maxLen; omega
               case e2 => omega
               case e3 => simp
               intro v' w8 hown hgrow _
               try simp only [Nat.zero_add, List.nil_append] at hown
               obtain ⟨A8, c8, hv⟩ := own_form hown
               subst hv
               obtain ⟨g8, rfl, hg8, hg8z⟩ := own_at hown hspos
               have hb8 : Below w7.heap.size w7 w8 := HLD.out.grown hgrow (by simp) (fun k hk => by simp [Value.ownBlock] at hk; omega)
               have HB9 := Lib.hid hb8
               obtain ⟨hc8, hcm8, _⟩ := own_cap0 hown
               have hc8' : (ss.length : Int) ≤ (c8 : Int) := by omega
               have b4 := (hb8.cell (p := ⟨g0, o0, none⟩) hg0z).trans b2
               have HSC := Lib.hid (back_scan (tt := []) (c9 := c8) HSO.out (fun s hs => by simp at hs) (by rw [List.length_nil, Nat.add_zero, List.map_nil, List.append_nil]; exact hown) hslen (by simp) hrS hrT hb8 HSS.out G)
               rw [List.length_nil, Nat.add_zero, List.map_nil, List.append_nil] at HSC
               clear hown hgrow hb8 hro hla)
            | (go_at_call 34
               refine HSC.out.mono ?_
               rintro e w10 ⟨A10, c10, l10, rfl, hl10, ho10, hb10⟩
               have HB10 := Lib.hid (HB9.out.trans (hb10.mono HB9.out.size))
               have HL10 := Lib.hid hl10
               have HO10 := Lib.hid ho10
               have b5 := (hb10.cell (p := ⟨g0, o0, none⟩) (block_lt_of_cell b4)).trans b4
               clear hl10 ho10 hb10 HSC)))
        rw [HSCN.out] at HL10 ⊢
        simp only at HL10 ⊢
        rw [HSLN.out]
        have HS2 := Lib.hid (scan_any ss HSO.out ((G + 1) % 18446744073709551616) (some ⟨g7, 0, none⟩) c7 (own_cap0 HO7.out.own).1 (by have := (own_cap0 HO7.out.own).2.1; unfold maxLen at this; omega) (by omega) w10 (HO7.out.rd.up HB10.out))
        rw [HSS.out, HOTH.out, HEG.out] at HS2
        have hti10 : ∀ x ∈ l10, Tiny x.r := fun x hx => by
          have h1 : x.r ∈ l.map RS.r := by rw [← HL10.out]; exact List.mem_map.2 ⟨x, hx, rfl⟩
          obtain ⟨y, hy, e⟩ := List.mem_map.1 h1
          rw [← e]; exact HTI.out y hy
        have hln10 : l10.length = l.length := by have := congrArg List.length HL10.out; rw [List.length_map, List.length_map] at this; exact this
        have HSA := Lib.hid (fun W (hW : Below w10.heap.size w10 W) => sameall_any l10 l HL10.out hti10 A10 (some ⟨g0, o0, none⟩) c10 c W (HO10.out.rd.up hW) (HH.out.up (HB7.out.trans ((HB10.out.trans (hW.mono HB10.out.size)).mono HB7.out.size))) (by omega))
        clear hti10 hln10
        go_wp2_with fail
        refine HS2.out.mono ?_
        rintro e w11 ⟨A11, c11, l11, rfl, hl11, ho11, hb11⟩
        have hl11' : l11.map RS.r = [] := hl11
        have hn11 : l11.length = 0 := by have := congrArg List.length hl11'; rw [List.length_map] at this; exact this
        rw [hn11]
        have HB11 := Lib.hid hb11
        clear hl11 hl11' ho11 hb11 HS2 hn11
        go_wp2_with fail
        refine (HSA.out _ HB11.out).mono ?_
        rintro e w12 ⟨rfl, hb12⟩
        go_wp2
        go_ret
        exact ⟨rfl, HB7.out.trans ((HB10.out.trans ((HB11.out.trans (hb12.mono HB11.out.size)).mono HB10.out.size)).mono HB7.out.size)⟩
      | some a =>
        have HRS := Lib.hid hrS
        have HRT := Lib.hid hrT
        go_region_held3 (fun W => W.cell? ⟨g0, o0, none⟩ = some (.int .u64 G))
          (first | assumption | (simp (maxDischargeDepth := 20) [World.cell?_alloc_some, *]; done))
          ((first
            | (refine step_append_own rfl (.tmp 65) (.tmp 66) 30 rfl w7.heap.size 25 i0 _ 1 24 Try.underlying30 hi0 hz0 hz1 hz2 rfl (by decide) (.slice (some ⟨w7.heap.size, 0, none⟩) 0 0) 0 [] rfl hro ⟨g7, 0, none⟩ ss.length c7 (ss.map Sl.v) rfl (by simp) hla.at_add (sls_one ss) ?c1 ?c2 ?c3 ?_
               case c1 => unfold maxLen; omega
               case c2 => omega
               case c3 => simp
               intro v' w8 hown hgrow _
               try simp only [Nat.zero_add, List.nil_append] at hown
               obtain ⟨A8, c8, hv⟩ := own_form hown
               subst hv
               have hb8 : Below w7.heap.size w7 w8 := HLD.out.grown hgrow (by simp) (fun k hk => by simp [Value.ownBlock] at hk; omega)
               have HB8 := Lib.hid hb8
               have HOW8 := Lib.hid hown
               have b3 := (hb8.cell (p := ⟨g0, o0, none⟩) hg0z).trans b2
               have hrT8 := HRT.out.up hb8
               clear hown hgrow hb8 hro hla)
            | (refine step_append_own rfl (.tmp 67) (.tmp 68) 30 rfl w7.heap.size 25 i0 _ 1 24 Try.underlying30 hi0 hz0 hz1 hz2 rfl (by decide) (.slice A8 ss.length c8) ss.length (ss.map Sl.v) rfl HOW8.out a tt.length t (tt.map Sl.v) rfl (by simp) hrT8.rd.at_add (sls_one tt) ?d1 ?d2 ?d3 ?_
               case d1 => unfold maxLen; omega
               case d2 => omega
               case d3 => exact HB8.out.size
               intro v' w9 hown hgrow _
               obtain ⟨A9, c9, hv⟩ := own_form hown
               subst hv
               have hb9 : Below w7.heap.size w7 w9 := HB8.out.grown hgrow HB8.out.size (fun k hk => own_low HOW8.out hk)
               have HB9 := Lib.hid hb9
               have HOW9 := Lib.hid hown
               have b4 := (hb9.cell (p := ⟨g0, o0, none⟩) hg0z).trans b2
               have HSC := Lib.hid (back_scan HSO.out HTO.out hown hslen (by omega) hrS hrT hb9 HSS.out G)
               clear hown hgrow hb9 hrT8)
            | (go_at_call 34
               refine HSC.out.mono ?_
               rintro e w10 ⟨A10, c10, l10, rfl, hl10, ho10, hb10⟩
               have HB10 := Lib.hid (HB9.out.trans (hb10.mono HB9.out.size))
               have HL10 := Lib.hid hl10
               have HO10 := Lib.hid ho10
               have b5 := (hb10.cell (p := ⟨g0, o0, none⟩) (block_lt_of_cell b4)).trans b4
               clear hl10 ho10 hb10 HSC)))
        rw [HSCN.out] at HL10 ⊢
        simp only at HL10 ⊢
        rw [HSLN.out]
        have HS2 := Lib.hid (scan_any ss HSO.out ((G + 1) % 18446744073709551616) (some ⟨g7, 0, none⟩) c7 (own_cap0 HO7.out.own).1 (by have := (own_cap0 HO7.out.own).2.1; unfold maxLen at this; omega) (by omega) w10 (HO7.out.rd.up HB10.out))
        rw [HSS.out, HOTH.out, HEG.out] at HS2
        have hti10 : ∀ x ∈ l10, Tiny x.r := fun x hx => by
          have h1 : x.r ∈ l.map RS.r := by rw [← HL10.out]; exact List.mem_map.2 ⟨x, hx, rfl⟩
          obtain ⟨y, hy, e⟩ := List.mem_map.1 h1
          rw [← e]; exact HTI.out y hy
        have hln10 : l10.length = l.length := by have := congrArg List.length HL10.out; rw [List.length_map, List.length_map] at this; exact this
        have HSA := Lib.hid (fun W (hW : Below w10.heap.size w10 W) => sameall_any l10 l HL10.out hti10 A10 (some ⟨g0, o0, none⟩) c10 c W (HO10.out.rd.up hW) (HH.out.up (HB7.out.trans ((HB10.out.trans (hW.mono HB10.out.size)).mono HB7.out.size))) (by omega))
        clear hti10 hln10
        go_wp2_with fail
        refine HS2.out.mono ?_
        rintro e w11 ⟨A11, c11, l11, rfl, hl11, ho11, hb11⟩
        have hl11' : l11.map RS.r = [] := hl11
        have hn11 : l11.length = 0 := by have := congrArg List.length hl11'; rw [List.length_map] at this; exact this
        rw [hn11]
        have HB11 := Lib.hid hb11
        clear hl11 hl11' ho11 hb11 HS2 hn11
        go_wp2_with fail
        refine (HSA.out _ HB11.out).mono ?_
        rintro e w12 ⟨rfl, hb12⟩
        go_wp2
        go_ret
        exact ⟨rfl, HB7.out.trans ((HB10.out.trans ((HB11.out.trans (hb12.mono HB11.out.size)).mono HB10.out.size)).mono HB7.out.size)⟩

set_option maxRecDepth 100000 in
theorem logareaBack_lifted (os : Os) (started : os.Started) (H : Type) (enc : TypeId × Value → H) :
    ReturnsInHanded {} Try.checked os 15 .any (Rows.logareaBackSpec.pre6 enc Try.prog Try.f15 Rows.logareaBackRow.domain false) (Rows.logareaBackSpec.post enc Try.prog Try.f15 false true false false) := by
  refine returnsInHanded_of_change (C := Try.checked) own started (by kernel_rfl) Try.func15
    (ChangeSpec.witness6 (enc := enc) (C := Try.checked) false ⟨#[], #[.slice none 0 0, .slice none 0 0], []⟩ 8 (by kernel_rfl) (by kernel_rfl) (by kernel_rfl) (by kernel_rfl)) ?_
  intro W base args ds gs before hval0 hW hcnd _
  have hval : ∀ (j : Nat) t v, Try.f15.params[j]? = some t → args[j]? = some v → Value.okWide Try.prog W .any base t v := hval0
  have hW' := hW
  obtain ⟨p, q, hA0, hV, rfl, hfz, hnd⟩ := hW
  have hA : DataW.TrodAll enc Try.prog W 0 (fun _ => true) true Try.f15.params.toList args.toList ds p := hA0
  rw [Try.params15] at hA hval
  obtain ⟨v0, vs0, d0, ds0, p0, q0, hargs, rfl, rfl, h0, r0⟩ := trodAll_cons hA
  obtain ⟨v1, vs1, d1, ds1, p1, q1, rfl, rfl, rfl, h1, r1⟩ := trodAll_cons r0
  obtain ⟨rfl, rfl, rfl⟩ := trodAll_nil r1
  obtain rfl : args = #[v0, v1] := by cases args; simp_all
  obtain ⟨rfl, rfl⟩ := trodVars_none hV
  have k0 := h0
  have lt0 : ∀ x ∈ p0, x.block < W.heap.size := by obtain ⟨m, hm⟩ := k0; exact DataW.trod_lt m _ _ _ hm
  have k1 := h1
  have lt1 : ∀ x ∈ p1, x.block < W.heap.size := by obtain ⟨m, hm⟩ := k1; exact DataW.trod_lt m _ _ _ hm
  obtain ⟨a0, n0, c0, rfl⟩ := Go.WideShapes.okWide_slice Try.underlying53 (hval 0 _ _ rfl rfl)
  obtain ⟨A, l, c, hs⟩ : ∃ A l c, RcsIn W (.slice a0 n0 c0) A l c := by obtain ⟨fuel, hf⟩ := h0; exact open_recs hf
  have hsv := hs.val
  injection hsv with e1 e2 e3
  subst e1 e2 e3
  obtain ⟨b0, m0, k0', rfl⟩ := Go.WideShapes.okWide_slice Try.underlying30 (hval 1 _ _ rfl rfl)
  obtain ⟨T, tt, t, hs2⟩ : ∃ A ss c, SecsIn W (.slice b0 m0 k0') A ss c := by obtain ⟨fuel, hf⟩ := h1; exact open_secs hf
  have hsv2 := hs2.val
  injection hsv2 with e1 e2 e3
  subst e1 e2 e3
  clear hA0 hval0
  refine (logareaBack_walk l _ _ tt _ _ W hs.rd (fun x hx => (hs.each x hx).ok) (Nat.le_trans hs.len hs.cap) hs2.rd hs2.ok hs2.cap hs2.big).mono fun e W' ⟨he, bel⟩ => ?_
  subst he
  exact ⟨_, rfl, _, _, _, [], _, [], hW', trodAll_mk1 (shut_bool Try.underlying4 _), (trodAll_cons_mk (Below.trod laidOut (by kernel_rfl) (of_decide_eq_true (by kernel_rfl)) k0 bel lt0) (trodAll_cons_mk (Below.trod laidOut (by kernel_rfl) (of_decide_eq_true (by kernel_rfl)) k1 bel lt1) trodAll_mk0)), rfl, bel.frame _, fun h => by cases h⟩

/-- The statement. -/
theorem logareaBack_holds : Rows.LogareaBackSaid :=
  OpenClaim.holds_of_wide 15 Try.f15 rfl rfl rfl rfl rfl rfl rfl ⟨rfl, rfl, rfl, rfl, rfl⟩ rfl rfl rfl rfl rfl (by kernel_rfl) Try.func15 (by kernel_rfl)
    (of_decide_eq_true (by kernel_rfl)) (by unfold Func.isWrapper; first | (rw [if_pos (by decide +kernel)]; kernel_rfl) | (rw [if_neg (by decide +kernel)]; exact ⟨rfl, rfl⟩))
    (fun os started H enc _ => logareaBack_lifted os started H enc)
#print axioms logareaBack_holds
end Go.Proofs.Ytndifkjenjfjpaa

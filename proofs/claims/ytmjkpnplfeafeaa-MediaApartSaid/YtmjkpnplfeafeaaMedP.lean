/-
  WHAT IS SHOWN: what Write of media makes of a medium of which it is known in which blocks its bytes lie. Conditions: the medium lies in memory.
-/
import Derived.Test.YtmjkpnplfeafeaaMed6
namespace Go.Proofs.Ytmjkpnplfeafeaa
set_option linter.unusedVariables false
open Go.RowKit

/-- The medium of block m, whose sectors lie in block bs, and whose bytes lie in blocks of P. -/
def MedP (P : Nat → Prop) (w : World) (m bs : Nat) (g : Geo) (L : List Sec) : Prop :=
  ∃ (c : Nat) (V : List (Int × Value)), w.heap[m]? = some (.cells (medObj g bs L.length c) 84) ∧
    w.ownsRow 0 87 2 (.slice (some ⟨bs, 0, none⟩) L.length c) L.length (V.flatMap secV) ∧ V.length = L.length ∧
    ∀ (i : Nat) (s : Sec), L[i]? = some s → ∃ v, V[i]? = some (s.st, v) ∧ Byt 5 w v s.by_ ∧ ∀ b, v.ownBlock = some b → P b
section
variable {P : Nat → Prop} {w w' : World} {m bs : Nat} {g : Geo} {L : List Sec} {S : Nat → Prop}
theorem MedP.med (h : MedP P w m bs g L) : Med w m bs g L := by
  obtain ⟨c, V, h1, h2, h3, h4⟩ := h
  exact ⟨c, V, h1, h2, h3, fun i s hs => by obtain ⟨v, a, b, _⟩ := h4 i s hs; exact ⟨v, a, b⟩⟩
theorem MedP.kept (h : MedP P w m bs g L) (hk : Kept S w w') (hm : ¬ S m) (hb : ¬ S bs) (hf : Free w 5 S) : MedP P w' m bs g L := by
  obtain ⟨c, V, h1, h2, h3, h4⟩ := h
  refine ⟨c, V, hk.obj h1 hm, own_kept h2 hk (fun k e => by simp [Value.ownBlock] at e; subst e; exact hb), h3, fun i s hs => ?_⟩
  obtain ⟨v, hv, hB, hP⟩ := h4 i s hs
  exact ⟨v, hv, hB.kept hk hf, hP⟩
theorem MedP.below0 (h : MedP P w m bs g L) (hk : Below w.heap.size w w') : MedP P w' m bs g L := h.kept (belKept0 (S := fun _ => False) hk) (fun h => h) (fun h => h) (Free.none _ _)
theorem byt_apart {t : TypeId} {v : Value} {xs : List Int} (h : Byt t w v xs) (hk : Kept S w w') (hS : ∀ b, v.ownBlock = some b → ¬ S b) : Byt t w' v xs := by
  obtain ⟨A, c, rfl, hr, hn⟩ := h
  refine ⟨A, c, rfl, fun j u hu => ?_, hn⟩
  obtain ⟨g, o, cur, fr, e, hg, hc⟩ := hr j u hu
  subst e
  exact ⟨g, o, cur, fr, rfl, hk.obj hg (hS g rfl), hc⟩
/-- Blocks are written that hold none of the medium's bytes. -/
theorem MedP.apart (h : MedP P w m bs g L) (hk : Kept S w w') (hm : ¬ S m) (hb : ¬ S bs) (hS : ∀ b, P b → ¬ S b) : MedP P w' m bs g L := by
  obtain ⟨c, V, h1, h2, h3, h4⟩ := h
  refine ⟨c, V, hk.obj h1 hm, own_kept h2 hk (fun k e => by simp [Value.ownBlock] at e; subst e; exact hb), h3, fun i s hs => ?_⟩
  obtain ⟨v, hv, hB, hP⟩ := h4 i s hs
  exact ⟨v, hv, byt_apart hB hk (fun b e => hS b (hP b e)), hP⟩
theorem MedP.set (h : MedP P w m bs g L) {i : Nat} (hi : i < L.length) (s : Sec) (v : Value) (hv : Byt 5 w v s.by_) (hP : ∀ b, v.ownBlock = some b → P b) : MedP P ((w.setCell ⟨bs, i * 2, none⟩ (.int .i64 s.st)).setCell ⟨bs, i * 2 + 1, none⟩ v) m bs g (L.set i s) := by
  have hne := h.med.lt.2.2
  have hnb := h.med.nobytes
  obtain ⟨c, V, h1, h2, h3, h4⟩ := h
  have hk := set2_kept w bs i (.int .i64 s.st) v
  refine ⟨c, V.set i (s.st, v), by rw [List.length_set]; exact hk.obj h1 hne, ?_, by rw [List.length_set, List.length_set, h3], fun j t hj => ?_⟩
  · rw [List.length_set, flat_set2 secV secV_len (.int .i64 s.st) v (s.st, v) rfl V i (by omega)]
    exact (World.ownsRow.stored (World.ownsRow.stored h2 (i * 2) _).1 (i * 2 + 1) _).1
  · rw [List.getElem?_set] at hj
    by_cases e : i = j
    · subst e
      rw [if_pos rfl, if_pos hi] at hj
      injection hj with hj
      subst hj
      exact ⟨v, by rw [List.getElem?_set_self (by omega)], hv.kept hk hnb, hP⟩
    · rw [if_neg e] at hj
      obtain ⟨u, hu, hB, hPu⟩ := h4 j t hj
      exact ⟨u, by rw [List.getElem?_set_ne e]; exact hu, hB.kept hk hnb, hPu⟩
end
def WritePostP (P : Nat → Prop) (w : World) (m bs : Nat) (g : Geo) (er : Int) (L : List Sec) (e : Ending) (w' : World) : Prop :=
  e = .returned (.int .i64 er) ∧ MedP P w' m bs g L ∧ Kept (fun k => k = bs) w w'
def NewBytesF (w : World) (xs : List Int) (e : Ending) (w' : World) : Prop := ∃ v, e = .returned v ∧ Byt 5 w' v xs ∧ (∀ b, v.ownBlock = some b → w.heap.size ≤ b) ∧ Below w.heap.size w w'
set_option maxRecDepth 100000 in
set_option maxHeartbeats 400000 in
theorem clonef_any (xs : List Int) (A : Option Addr) (c : Nat) (w : World) (hr : Rd w w.heap.size A (xs.map (Value.int .u8))) (hn : xs.length ≤ 100000) :
    Calls Try.prog 60 #[.slice A xs.length c] w (NewBytesF w xs) := by
  obtain ⟨i0, hi, hz0, hz1, hz2⟩ := info_parts info_u8
  have hnil := fun (w : World) a n c => Lib.run_eql_slice_nil (P := Try.prog) w 24 5 a n c 0 0 Try.underlying24
  cases A with
  | none =>
    have hx := hr.at_none
    obtain rfl : xs = [] := by cases xs; rfl; simp at hx
    go_enter Try.func60, Try.ntmps60
    go_wp2
    go_ret
    exact ⟨.slice none 0 0, rfl, Byt.nil _ _, (fun b hb => by simp [Value.ownBlock] at hb), Below.refl _ _⟩
  | some a =>
    have hro := World.ownsRow_lit (base := w.heap.size) (e := 5) (size := 1) w #[] 0 (Nat.le_refl _) (by decide) rfl
    have hla := hr.alloc (Nat.le_refl _) (.cells #[] 5)
    go_enter Try.func60, Try.ntmps60
    go_wp2_with (at_builtin; refine wpList_append_own _ rfl _ _ 24 rfl w.heap.size 5 i0 _ 1 1 Try.underlying24 hi hz0 hz1 hz2 rfl (by decide) _ 0 [] rfl hro a xs.length c (xs.map (Value.int .u8)) rfl (by simp) hla.at_add (bytes_one xs) ?c1 ?c2 ?c3 ?_)
    case c1 => unfold maxLen; omega
    case c2 => omega
    intro v' w' hown hgrow hiff
    try simp only [Nat.zero_add, List.nil_append] at hown
    obtain ⟨A', c', hv⟩ := own_form hown
    subst hv
    go_wp2
    go_ret
    refine ⟨_, rfl, ⟨A', c', rfl, RdT.of_own hown, fun h => ?_⟩, fun b hb => (hown.lt b hb).1, ((Below.refl _ _).alloc (Nat.le_refl _) _).grown hgrow (by simp) (fun k hk => by simp [Value.ownBlock] at hk; omega)⟩
    rcases hown.2 with ⟨h2, _⟩ | ⟨g, cap, cur, h2, _⟩
    · injection h2
    · subst h; injection h2 with h2; cases h2

set_option maxRecDepth 100000 in
set_option maxHeartbeats 1000000 in
theorem writeP_any {P : Nat → Prop} {m bs : Nat} {g : Geo} {L : List Sec} {w : World} (a : Int) (ha : I64 a) (hm : MedP P w m bs g L) (hP : ∀ b, w.heap.size ≤ b → P b) (hf : Fit g L) (xs : List Int) (A : Option Addr) (c : Nat) (hr : Rd w w.heap.size A (xs.map (Value.int .u8))) (hn : xs.length ≤ 100000) :
    Calls Try.prog 19 #[.pointer (some ⟨m, 0, none⟩), .int .i64 a, .slice A xs.length c] w (WritePostP P w m bs g (writeE L a xs) (writeL g L a xs)) := by
  have HH := Lib.hid (has_any a hm.med hf)
  cases hin : inL L a
  · have HE : Hid (writeE L a xs = 2) := by unfold Hid writeE; rw [hin]; rfl
    have HB : Hid (writeL g L a xs = L) := by unfold Hid writeL; rw [hin]; rfl
    rw [hin] at HH
    have HM := Lib.hid hm
    clear hin hm hf hr
    go_enter Try.func19, Try.ntmps19
    go_wp2_with fail
    refine HH.out.mono ?_
    rintro e w' ⟨rfl, rfl⟩
    go_wp2
    go_ret
    exact ⟨by rw [HE.out]; rfl, by rw [HB.out]; exact HM.out, Kept.refl _ _⟩
  · rw [hin] at HH
    by_cases hlen : xs.length ≤ 64
    · have HE : Hid (writeE L a xs = 0) := by unfold Hid writeE; rw [hin, if_pos rfl, if_pos hlen]
      have HB : Hid (writeL g L a xs = destroy (shadowL g a) (L.set a.toNat ⟨1, xs⟩)) := by unfold Hid writeL; rw [hin, decide_eq_true hlen]; rfl
      obtain ⟨h0, h1⟩ := (inL_iff L a).1 hin
      obtain ⟨i, hi, rfl, hg, hd⟩ := get_sec h0 h1
      obtain ⟨cc, p0, p1, p2, p3, p4, p5, hcc, hs⟩ := hm.med.cells
      obtain ⟨hlm, hlb, hmb⟩ := hm.med.lt
      have hle := hf.le
      have HC : Hid (∀ W, Below w.heap.size w W → Calls Try.prog 60 #[.slice A xs.length c] W (NewBytesF W xs)) := by
        unfold Hid; intro W hW; exact clonef_any xs A c W ((hr.below hW (Nat.le_refl _)).more hW.size) hn
      have HM2 : Hid (∀ W, Below w.heap.size w W → MedP P W m bs g L) := by unfold Hid; intro W hW; exact hm.below0 hW
      have HF := Lib.hid hf
      have HS := Lib.hid (fun W => gshadow_any g (i : Int) ha W)
      have q4 : (0 : Int) ≤ i := by omega
      have q5 : (i : Int) < L.length := by omega
      rw [Int.toNat_natCast] at HB
      clear hin hm hf hr hg hd hs p0 p1 p2 p3 p4 ha
      go_enter Try.func19, Try.ntmps19
      go_wp2_with fail
      refine HH.out.mono ?_
      rintro e w' ⟨rfl, rfl⟩
      go_wp2
      go_region_held3 (fun W => W.cell? ⟨m, 5, none⟩ = some (.slice (some ⟨bs, 0, none⟩) L.length cc)) (first | assumption | (simp [World.cell?_setCell_far, *]; done))
        ((go_at_call 60
          refine (HC.out _ ((Below.refl _ _).drew)).mono ?_
          rintro e w2 ⟨v, rfl, hv, hfr, hb2⟩
          have hbw2 : Below w.heap.size w w2 := ((Below.refl w.heap.size w).drew).trans hb2
          have hm2 := HM2.out w2 hbw2
          have p5' : w2.cell? ⟨m, 5, none⟩ = some (.slice (some ⟨bs, 0, none⟩) L.length cc) := (hbw2.cell (p := ⟨m, 5, none⟩) hlm).trans p5
          have hbm : ¬ (bs = m) := fun e => hmb e.symm
          have f0 := hm2.med.free
          have hs2 := sec_at hm2.med hi
          obtain ⟨v1, q0, q1⟩ := hs2
          have hv2 := Lib.hid hv
          obtain ⟨A2, c2, rfl, _, _⟩ := hv))
      have hm3 : MedP P _ m bs g (L.set i ⟨1, xs⟩) := hm2.set hi ⟨1, xs⟩ (.slice A2 xs.length c2) hv2.out (fun b hb => hP b (hfr b hb))
      have hk3 := (belKept0 (S := fun k => k = bs) hbw2).trans (set2_kept w2 bs i (.int .i64 1) (.slice A2 xs.length c2)) (fun _ _ h => h)
      simp only at hm3
      generalize (w2.setCell ⟨bs, i * 2, none⟩ (.int .i64 1)).setCell ⟨bs, i * 2 + 1, none⟩ (.slice A2 xs.length c2) = w3 at *
      clear hv2 hb2 hbw2 q0 q1 f0 hm2 p5' p5 HH HC HM2
      obtain ⟨c3, p0, p1, p2, p3, p4, p5, hc3, _⟩ := hm3.med.cells
      have HF3 := Lib.hid (HF.out.len (L' := L.set i ⟨1, xs⟩) (by simp))
      have HSR : Hid (∀ s ∈ shadowL g (i : Int), 0 ≤ s ∧ s < (L.set i ⟨1, xs⟩).length) := by
        unfold Hid; intro s hs; exact shadow_range HF3.out hs
      have hss := shadow_len g (i : Int)
      have hL1 := HF3.out.le
      go_wp2_with fail
      refine (HS.out _).mono ?_
      rintro e w4 ⟨A4, c4, rfl, hown4, hb4⟩
      have HX : Hid (writeL g L (i : Int) xs = destroy (shadowL g (i : Int)) (L.set i ⟨1, xs⟩)) := HB
      clear HB
      generalize shadowL g (i : Int) = ss at *
      generalize L.set i ⟨1, xs⟩ = L1 at *
      have hm4 := hm3.below0 hb4
      have hk4 := hk3.thenBelow hb4
      have HI : Hid (∀ k (hk : k < ss.length), ∃ g', A4 = some ⟨g', 0, none⟩ ∧ w3.heap.size ≤ g' ∧ w4.cell? ⟨g', k, none⟩ = some (.int .i64 ss[k])) := by
        unfold Hid; intro k hk; exact ints_at hown4 k hk
      have hlb3 := hm3.med.lt.2.1
      clear p0 p1 p2 p3 p4 p5 hb4 hm3 HS hown4 hk3
      go_wp2
      go_loopw [8, 37] (fun x v wr => ∃ k : Nat, k ≤ ss.length ∧ v = .int .i64 k ∧ MedP P wr m bs g (destroy (ss.take k) L1) ∧ Kept (fun k => k = bs) w4 wr) (fun _ v _ => ss.length - (intOf v).toNat)
      case atStart => exact ⟨0, Nat.zero_le _, rfl, hm4, Kept.refl _ _⟩
      case round =>
        obtain ⟨k, hk, rfl, hmr, hkr⟩ := hrel
        by_cases hlt : k < ss.length
        · obtain ⟨g', rfl, hg', hcg⟩ := HI.out k hlt
          obtain ⟨s0, s1⟩ := HSR.out ss[k] (List.getElem_mem hlt)
          have hcr := hkr.cell hcg (by show ¬ (g' = bs); omega)
          have HT := Lib.hid (destroy_take ss k hlt L1)
          have hdl := destroy_len (ss.take k) L1
          obtain ⟨j, hj⟩ := Int.eq_ofNat_of_zero_le s0
          have hjl : j < (destroy (ss.take k) L1).length := by omega
          rw [hj] at hcr HT
          rw [Int.toNat_natCast] at HT
          have q6 : (0 : Int) ≤ j := by omega
          have q7 : (j : Int) < (destroy (ss.take k) L1).length := by omega
          have hk2 : (k : Int) < ss.length := by omega
          have hk0 : (0 : Int) ≤ k := by omega
          obtain ⟨cr, _, _, _, _, _, r5, hcc2, _⟩ := hmr.med.cells
          obtain ⟨v1, q0, q1⟩ := sec_at hmr.med hjl
          have f0 := hmr.med.free
          have hmS : Hid (MedP P ((wr.setCell ⟨bs, j * 2, none⟩ (.int .i64 2)).setCell ⟨bs, j * 2 + 1, none⟩ (.slice none 0 0)) m bs g ((destroy (ss.take k) L1).set j goneS)) :=
            hmr.set hjl goneS (.slice none 0 0) (Byt.nil _ _) (fun b hb => by simp [Value.ownBlock] at hb)
          have hkS := hkr.trans (set2_kept wr bs j (.int .i64 2) (.slice none 0 0)) (fun _ _ h => h)
          have HKS := Lib.hid hkS
          have hll := Lib.hid hdl
          clear hcg hj s0 s1 hmr hkr hm4 HI hkS hdl
          generalize destroy (ss.take k) L1 = D at *
          go_wp2
          go_roundw
          case rel => exact ⟨k + 1, by omega, by go_num, by rw [HT.out]; exact hmS.out, HKS.out⟩
          case measure => simp [intOf]; omega
        · have hk' : k = ss.length := by omega
          subst hk'
          have hmr' : MedP P wr m bs g (writeL g L (i : Int) xs) := by rw [HX.out]; rw [List.take_of_length_le (Nat.le_refl _)] at hmr; exact hmr
          have HM' := Lib.hid hmr'
          clear hmr hmr' hm4
          go_wp2
          go_ret
          exact ⟨by rw [HE.out]; rfl, HM'.out, hk4.trans hkr (fun _ _ h => h)⟩
    · have HE : Hid (writeE L a xs = 7) := by unfold Hid writeE; rw [hin, if_pos rfl, if_neg hlen]
      have HB : Hid (writeL g L a xs = L) := by unfold Hid writeL; rw [hin, decide_eq_false hlen]; rfl
      have HM := Lib.hid hm
      clear hin hm hf hr
      go_enter Try.func19, Try.ntmps19
      go_wp2_with fail
      refine HH.out.mono ?_
      rintro e w' ⟨rfl, rfl⟩
      go_wp2
      go_ret
      exact ⟨by rw [HE.out]; rfl, by rw [HB.out]; exact HM.out, Kept.refl _ _⟩

theorem medp_new {P : Nat → Prop} {w : World} {g : Geo} {n : Nat} (hn : n ≤ 100000) : MedP P ((w.alloc (.cells (madeCells #[.int .i64 0, .slice none 0 0] (n * 2)) 87)).alloc (.cells (medObj g w.heap.size n n) 84)) (w.heap.size + 1) w.heap.size g (List.replicate n blankS) := by
  have ho := World.ownsRow_lit (base := 0) (e := 87) (size := 2) w (madeCells #[.int .i64 0, .slice none 0 0] (n * 2)) n (Nat.zero_le _) (by unfold maxLen; omega) (size_madeCells _ _)
  refine ⟨n, List.replicate n (0, .slice none 0 0), ?_, ?_, by simp, fun i s hs => ?_⟩
  · have := heap_alloc_new (w.alloc (.cells (madeCells #[.int .i64 0, .slice none 0 0] (n * 2)) 87)) (.cells (medObj g w.heap.size n n) 84)
    rw [World.size_alloc] at this
    simpa using this
  · rw [made_flat secV (.int .i64 0) (.slice none 0 0) (0, .slice none 0 0) rfl n] at ho
    have := ho.alloc (.cells (medObj g w.heap.size n n) 84)
    simpa using this
  · rw [List.getElem?_replicate] at hs
    split at hs
    · rename_i h
      injection hs with hs
      subst hs
      exact ⟨_, by rw [List.getElem?_replicate, if_pos h]; rfl, Byt.nil _ _, fun b hb => by simp [Value.ownBlock] at hb⟩
    · cases hs
def NewPostP (P : Nat → Prop) (w : World) (g : Geo) (L : List Sec) (e : Ending) (w' : World) : Prop :=
  ∃ m bs, e = .returned (.tuple #[.pointer (some ⟨m, 0, none⟩), .int .i64 0]) ∧ MedP P w' m bs g L ∧ w.heap.size ≤ m ∧ w.heap.size ≤ bs ∧ Below w.heap.size w w'
set_option maxHeartbeats 1000000 in
theorem newP_yes (P : Nat → Prop) (g : Geo) (hv : validG g = true) (w : World) : Calls Try.prog 18 #[.agg #[.int .i64 g.random, .int .i64 g.bands, .int .i64 g.tracks, .int .i64 g.sectors, .int .i64 g.overlap]] w (NewPostP P w g (blankL g)) := by
  obtain ⟨i0, hi, hz0, hz1, hz2⟩ := info_parts info_sec
  have hszb := szN_bound g
  have HS : Hid (∀ W, Calls Try.prog 58 #[.agg #[.int .i64 g.random, .int .i64 g.bands, .int .i64 g.tracks, .int .i64 g.sectors, .int .i64 g.overlap]] W fun e w' => e = .returned (.int .i64 ((szN g).toNat : Int)) ∧ Below W.heap.size W w') := by
    unfold Hid; intro W; have := gsz_any g W; rw [show (((szN g).toNat : Nat) : Int) = szN g from by omega]; exact this
  have HN : Hid (blankL g = List.replicate (szN g).toNat blankS) := by unfold Hid; rfl
  have hn : (szN g).toNat ≤ 100000 := by omega
  generalize (szN g).toNat = n at *
  have hmk : ∀ W : World, (Instr.makeSlice 82 (.int .i64 (n : Int)) (.int .i64 (n : Int))).run Try.prog W = .ok (.slice (some ⟨W.heap.size, 0, none⟩) n n) (W.alloc (.cells (madeCells _ (n * 2)) 87)) := fun W => by
    have := run_make (P := Try.prog) W 82 87 i0 _ Try.underlying82 hi hz0 .i64 .i64 (n : Int) (n : Int) (by omega) (Int.le_refl _) (by rw [hz2]; omega) (by omega)
    rw [Int.toNat_natCast, hz1] at this
    exact this
  clear hszb hz0 hz1 hz2 hi
  go_enter Try.func18, Try.ntmps18
  go_wp2_with fail
  refine (gvalid_any g _).mono ?_
  rintro e w1 ⟨rfl, hb1⟩
  rw [hv]
  clear hv
  have PG := (Cells5.new w 23 _ _ _ _ _).below hb1 (by simp)
  have hbl1 : Below w.heap.size w w1 := ((Below.refl _ _).alloc (Nat.le_refl _) _).trans (hb1.mono (by simp))
  have hzz1 : w.heap.size < w1.heap.size := by have := hb1.size; simp at this; omega
  clear hb1
  have p0 := PG.c0; have p1 := PG.c1; have p2 := PG.c2; have p3 := PG.c3; have p4 := PG.c4
  have hW1 := hbl1.size
  go_wp2
  go_region_held3 (fun W => W.cell? ⟨w.heap.size, 0, none⟩ = some (.int .i64 g.random) ∧ W.cell? ⟨w.heap.size, 1, none⟩ = some (.int .i64 g.bands) ∧ W.cell? ⟨w.heap.size, 2, none⟩ = some (.int .i64 g.tracks) ∧ W.cell? ⟨w.heap.size, 3, none⟩ = some (.int .i64 g.sectors) ∧ W.cell? ⟨w.heap.size, 4, none⟩ = some (.int .i64 g.overlap))
    (first | (refine ⟨?_, ?_, ?_, ?_, ?_⟩ <;> assumption) | (simp (maxDischargeDepth := 20) [World.cell?_alloc_some, *]; done))
    ((go_at_call 58
      refine (HS.out _).mono ?_
      rintro e w2 ⟨rfl, hb2⟩
      have hw2 : Below w1.heap.size w1 w2 := ((Below.refl w1.heap.size w1).drew).trans hb2
      have PG2 := PG.below hw2 hzz1
      have q0 := PG2.c0
      have q1 := PG2.c1
      have q2 := PG2.c2
      have q3 := PG2.c3
      have q4 := PG2.c4))
  go_wp2
  go_ret2
  have hbf : Below w.heap.size w w2 := hbl1.trans (hw2.mono hW1)
  have hbs := hbf.size
  refine ⟨w2.heap.size + 1, w2.heap.size, rfl, ?_, by omega, hbs, ?_⟩
  · rw [HN.out]; exact medp_new hn
  · exact (hbf.alloc hbs _).alloc (by simp; omega) _
/-- What reading a written sector returns. -/
def ReadPostF (w : World) (xs : List Int) (e : Ending) (w' : World) : Prop := ∃ A c, e = .returned (.tuple #[.slice A xs.length c, .int .i64 0]) ∧ w'.ownsRow w.heap.size 5 1 (.slice A xs.length c) xs.length (xs.map (Value.int .u8)) ∧ Below w.heap.size w w'
def NewBytesO (w : World) (xs : List Int) (e : Ending) (w' : World) : Prop := ∃ A c, e = .returned (.slice A xs.length c) ∧ w'.ownsRow w.heap.size 5 1 (.slice A xs.length c) xs.length (xs.map (Value.int .u8)) ∧ Below w.heap.size w w'
set_option maxRecDepth 100000 in
set_option maxHeartbeats 400000 in
theorem cloneo_any (xs : List Int) (A : Option Addr) (c : Nat) (w : World) (hr : Rd w w.heap.size A (xs.map (Value.int .u8))) (hn : xs.length ≤ 100000) :
    Calls Try.prog 60 #[.slice A xs.length c] w (NewBytesO w xs) := by
  obtain ⟨i0, hi, hz0, hz1, hz2⟩ := info_parts info_u8
  have hnil := fun (w : World) a n c => Lib.run_eql_slice_nil (P := Try.prog) w 24 5 a n c 0 0 Try.underlying24
  cases A with
  | none =>
    have hx := hr.at_none
    obtain rfl : xs = [] := by cases xs; rfl; simp at hx
    go_enter Try.func60, Try.ntmps60
    go_wp2
    go_ret
    exact ⟨none, 0, rfl, World.ownsRow_nil _ _ _ _, Below.refl _ _⟩
  | some a =>
    have hro := World.ownsRow_lit (base := w.heap.size) (e := 5) (size := 1) w #[] 0 (Nat.le_refl _) (by decide) rfl
    have hla := hr.alloc (Nat.le_refl _) (.cells #[] 5)
    go_enter Try.func60, Try.ntmps60
    go_wp2_with (at_builtin; refine wpList_append_own _ rfl _ _ 24 rfl w.heap.size 5 i0 _ 1 1 Try.underlying24 hi hz0 hz1 hz2 rfl (by decide) _ 0 [] rfl hro a xs.length c (xs.map (Value.int .u8)) rfl (by simp) hla.at_add (bytes_one xs) ?c1 ?c2 ?c3 ?_)
    case c1 => unfold maxLen; omega
    case c2 => omega
    intro v' w' hown hgrow hiff
    try simp only [Nat.zero_add, List.nil_append] at hown
    obtain ⟨A', c', hv⟩ := own_form hown
    subst hv
    go_wp2
    go_ret
    exact ⟨A', c', rfl, hown, ((Below.refl _ _).alloc (Nat.le_refl _) _).grown hgrow (by simp) (fun k hk => by simp [Value.ownBlock] at hk; omega)⟩

set_option maxHeartbeats 400000 in
theorem readF_any {m bs : Nat} {g : Geo} {L : List Sec} {w : World} (a : Int) (hm : Med w m bs g L) (hf : Fit g L) (hb : ShortB L) (hE : readE L a = 0) : Calls Try.prog 20 #[.pointer (some ⟨m, 0, none⟩), .int .i64 a] w (ReadPostF w (readB L a)) := by
  have HH := Lib.hid (has_any a hm hf)
  obtain ⟨c, _, _, _, _, _, p5, hc, hs⟩ := hm.cells
  have hle := hf.le
  have hin : inL L a = true := by
    cases h : inL L a
    · unfold readE at hE; rw [h] at hE; simp at hE
    · rfl
  obtain ⟨h0, h1⟩ := (inL_iff L a).1 hin
  obtain ⟨i, hi, rfl, hg, hd⟩ := get_sec h0 h1
  obtain ⟨q0, v, q1, hv⟩ := hs i _ hg
  rw [hin] at HH
  have hst : L[i].st = 1 := by
    unfold readE at hE
    rw [hin, hd] at hE
    simp at hE
    exact hE
  have HB : Hid (readB L (i : Int) = L[i].by_) := by unfold Hid readB; rw [hE, hd]; rfl
  have hsh := hb _ (List.getElem_mem hi)
  have hst2 := Lib.hid hst
  rw [hst] at q0
  obtain ⟨A, cc, rfl, hrd, _⟩ := hv
  have HC := Lib.hid (cloneo_any L[i].by_ A cc w hrd.rd (by omega))
  generalize L[i].by_ = X at *
  clear hin hm hs hf hst hg hd hE
  go_enter Try.func20, Try.ntmps20
  go_wp2_with fail
  refine HH.out.mono ?_
  rintro e w' ⟨rfl, rfl⟩
  go_wp2_with fail
  refine HC.out.mono ?_
  rintro e w2 ⟨A2, c2, rfl, hv, hb2⟩
  go_wp2
  go_ret2
  refine ⟨A2, c2, ?_, ?_, hb2⟩
  · rw [HB.out]; rfl
  · rw [HB.out]; exact hv
end Go.Proofs.Ytmjkpnplfeafeaa

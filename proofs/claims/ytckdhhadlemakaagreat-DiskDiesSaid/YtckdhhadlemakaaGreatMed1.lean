/-
  WHAT IS SHOWN: what slices.Clone returns of bytes; what the reading methods of media and of tegularef11 return; they change nothing that was there. Conditions: the medium lies in memory.
-/
import Derived.Test.YtckdhhadlemakaaGreatMed0
namespace Go.Proofs.YtckdhhadlemakaaGreat
set_option linter.unusedVariables false
open Go.RowKit

theorem info_u8 : (Tryz.prog.info? 5).map (fun i => (i.zero, i.size, i.bytes)) = some (some (.int .u8 0), 1, 1) := by kernel_rfl
theorem Rd.at_add {w : World} {B : Nat} {a : Addr} {xs : List Value} (h : Rd w B (some a) xs) : ∀ j u, xs[j]? = some u → w.cell? (a.add j) = some u := fun j u hu => by
  obtain ⟨g, o, e, _, hc⟩ := h j u hu
  injection e with e; subst e
  rw [add_off]; exact hc
theorem Rd.at_none {w : World} {B : Nat} {xs : List Value} (h : Rd w B none xs) : xs = [] := by
  cases xs with
  | nil => rfl
  | cons b l => obtain ⟨g, o, e, _⟩ := h 0 b rfl; cases e
theorem bytes_one (xs : List Int) : ∀ u ∈ xs.map (Value.int .u8), u.oneCell' = true := by
  intro u hu
  obtain ⟨b, _, rfl⟩ := List.mem_map.1 hu
  rfl
/-- What returns new bytes. -/
def NewBytes (w : World) (xs : List Int) (e : Ending) (w' : World) : Prop := ∃ v, e = .returned v ∧ Byt 5 w' v xs ∧ Below w.heap.size w w'
set_option maxRecDepth 100000 in
set_option maxHeartbeats 400000 in
theorem cloneb_any (xs : List Int) (A : Option Addr) (c : Nat) (w : World) (hr : Rd w w.heap.size A (xs.map (Value.int .u8))) (hn : xs.length ≤ 100000) :
    Calls Tryz.prog 82 #[.slice A xs.length c] w (NewBytes w xs) := by
  obtain ⟨i0, hi, hz0, hz1, hz2⟩ := info_parts info_u8
  have hnil := fun (w : World) a n c => Lib.run_eql_slice_nil (P := Tryz.prog) w 53 5 a n c 0 0 Tryz.underlying53
  cases A with
  | none =>
    have hx := hr.at_none
    obtain rfl : xs = [] := by cases xs; rfl; simp at hx
    go_enter Tryz.func82, Tryz.ntmps82
    go_wp2
    go_ret
    exact ⟨_, rfl, Byt.nil _ _, Below.refl _ _⟩
  | some a =>
    have hro := World.ownsRow_lit (base := w.heap.size) (e := 5) (size := 1) w #[] 0 (Nat.le_refl _) (by decide) rfl
    have hla := hr.alloc (Nat.le_refl _) (.cells #[] 5)
    go_enter Tryz.func82, Tryz.ntmps82
    go_wp2_with (at_builtin; refine wpList_append_own _ rfl _ _ 53 rfl w.heap.size 5 i0 _ 1 1 Tryz.underlying53 hi hz0 hz1 hz2 rfl (by decide) _ 0 [] rfl hro a xs.length c (xs.map (Value.int .u8)) rfl (by simp) hla.at_add (bytes_one xs) ?c1 ?c2 ?c3 ?_)
    case c1 => unfold maxLen; omega
    case c2 => omega
    intro v' w' hown hgrow hiff
    try simp only [Nat.zero_add, List.nil_append] at hown
    obtain ⟨A', c', hv⟩ := own_form hown
    subst hv
    go_wp2
    go_ret
    refine ⟨_, rfl, ⟨A', c', rfl, RdT.of_own hown, fun h => ?_⟩, ((Below.refl _ _).alloc (Nat.le_refl _) _).grown hgrow (by simp) (fun k hk => by simp [Value.ownBlock] at hk; omega)⟩
    rcases hown.2 with ⟨h2, _⟩ | ⟨g, cap, cur, h2, _⟩
    · injection h2
    · subst h; injection h2 with h2; cases h2

section
variable {m bs : Nat} {g : Geo} {L : List Sec} {w : World}
theorem get_sec {a : Int} (h0 : 0 ≤ a) (h1 : a < L.length) : ∃ (i : Nat) (hi : i < L.length), a = (i : Int) ∧ L[i]? = some L[i] ∧ L.getD a.toNat blankS = L[i] := by
  obtain ⟨i, rfl⟩ := Int.eq_ofNat_of_zero_le h0
  have hi : i < L.length := by omega
  exact ⟨i, hi, rfl, List.getElem?_eq_getElem hi, by simp [List.getD, hi]⟩
set_option maxHeartbeats 400000 in
theorem has_any (a : Int) (hm : Med w m bs g L) (hf : Fit g L) : Calls Tryz.prog 98 #[.pointer (some ⟨m, 0, none⟩), .int .i64 a] w fun e w' => e = .returned (.bool (inL L a)) ∧ w = w' := by
  obtain ⟨c, _, _, _, _, _, p5, _, _⟩ := hm.cells
  have hl := hf.le
  unfold inL
  clear hm hf
  by_cases h0 : a < 0
  · go_enter Tryz.func98, Tryz.ntmps98
    go_wp2
    go_ret
    exact ⟨by first | (simp; done) | (simp; omega), rfl⟩
  · by_cases h1 : a < L.length
    · go_enter Tryz.func98, Tryz.ntmps98
      go_wp2
      go_ret
      exact ⟨by first | (simp; done) | (simp [h1]; done) | (simp; omega), rfl⟩
    · go_enter Tryz.func98, Tryz.ntmps98
      go_wp2
      go_ret
      exact ⟨by first | (simp; done) | (simp [h1]; done) | (simp; omega), rfl⟩
set_option maxHeartbeats 400000 in
theorem rhas_any (a : Int) (hm : RMed w m bs g L) (hf : Fit g L) : Calls Tryz.prog 76 #[.pointer (some ⟨m, 0, none⟩), .int .i64 a] w fun e w' => e = .returned (.bool (inL L a)) ∧ w = w' := by
  obtain ⟨c, _, _, _, _, _, p5, _, _⟩ := hm.cells
  have hl := hf.le
  unfold inL
  clear hm hf
  by_cases h0 : a < 0
  · go_enter Tryz.func76, Tryz.ntmps76
    go_wp2
    go_ret
    exact ⟨by first | (simp; done) | (simp; omega), rfl⟩
  · by_cases h1 : a < L.length
    · go_enter Tryz.func76, Tryz.ntmps76
      go_wp2
      go_ret
      exact ⟨by first | (simp; done) | (simp [h1]; done) | (simp; omega), rfl⟩
    · go_enter Tryz.func76, Tryz.ntmps76
      go_wp2
      go_ret
      exact ⟨by first | (simp; done) | (simp [h1]; done) | (simp; omega), rfl⟩
set_option maxHeartbeats 400000 in
theorem state_any (a : Int) (hm : Med w m bs g L) (hf : Fit g L) : Calls Tryz.prog 95 #[.pointer (some ⟨m, 0, none⟩), .int .i64 a] w fun e w' => e = .returned (.int .i64 (stateN L a)) ∧ w = w' := by
  have HH := Lib.hid (has_any a hm hf)
  obtain ⟨c, _, _, _, _, _, p5, hc, hs⟩ := hm.cells
  have hle := hf.le
  cases hin : inL L a
  · have HE : Hid (stateN L a = 0) := by unfold Hid stateN; rw [hin]; rfl
    rw [hin] at HH
    clear hin hm hs hf
    go_enter Tryz.func95, Tryz.ntmps95
    go_wp2_with fail
    refine HH.out.mono ?_
    rintro e w' ⟨rfl, rfl⟩
    go_wp2
    go_ret
    exact ⟨by rw [HE.out]; rfl, rfl⟩
  · obtain ⟨h0, h1⟩ := (inL_iff L a).1 hin
    obtain ⟨i, hi, rfl, hg, hd⟩ := get_sec h0 h1
    obtain ⟨q0, _⟩ := hs i _ hg
    have HE : Hid (stateN L (i : Int) = L[i].st) := by unfold Hid stateN; rw [hin, hd]; rfl
    rw [hin] at HH
    clear hin hm hs hf hg hd
    go_enter Tryz.func95, Tryz.ntmps95
    go_wp2_with fail
    refine HH.out.mono ?_
    rintro e w' ⟨rfl, rfl⟩
    go_wp2
    go_ret
    exact ⟨by rw [HE.out]; rfl, rfl⟩
set_option maxHeartbeats 400000 in
theorem rstate_any (a : Int) (hm : RMed w m bs g L) (hf : Fit g L) : Calls Tryz.prog 46 #[.pointer (some ⟨m, 0, none⟩), .int .i64 a] w fun e w' => e = .returned (.int .i64 (stateN L a)) ∧ w = w' := by
  have HH := Lib.hid (rhas_any a hm hf)
  obtain ⟨c, _, _, _, _, _, p5, hc, hs⟩ := hm.cells
  have hle := hf.le
  cases hin : inL L a
  · have HE : Hid (stateN L a = 0) := by unfold Hid stateN; rw [hin]; rfl
    rw [hin] at HH
    clear hin hm hs hf
    go_enter Tryz.func46, Tryz.ntmps46
    go_wp2_with fail
    refine HH.out.mono ?_
    rintro e w' ⟨rfl, rfl⟩
    go_wp2
    go_ret
    exact ⟨by rw [HE.out]; rfl, rfl⟩
  · obtain ⟨h0, h1⟩ := (inL_iff L a).1 hin
    obtain ⟨i, hi, rfl, hg, hd⟩ := get_sec h0 h1
    obtain ⟨q0, _⟩ := hs i _ hg
    have HE : Hid (stateN L (i : Int) = L[i].st) := by unfold Hid stateN; rw [hin, hd]; rfl
    rw [hin] at HH
    clear hin hm hs hf hg hd
    go_enter Tryz.func46, Tryz.ntmps46
    go_wp2_with fail
    refine HH.out.mono ?_
    rintro e w' ⟨rfl, rfl⟩
    go_wp2
    go_ret
    exact ⟨by rw [HE.out]; rfl, rfl⟩
/-- What reading a sector returns. -/
def ReadPost (w : World) (xs : List Int) (er : Int) (e : Ending) (w' : World) : Prop := ∃ v, e = .returned (.tuple #[v, .int .i64 er]) ∧ Byt 5 w' v xs ∧ Below w.heap.size w w'
/-- The bytes of sectors are short. -/
def ShortB (L : List Sec) : Prop := ∀ s ∈ L, s.by_.length ≤ 64
set_option maxHeartbeats 400000 in
theorem read_any (a : Int) (hm : Med w m bs g L) (hf : Fit g L) (hb : ShortB L) : Calls Tryz.prog 86 #[.pointer (some ⟨m, 0, none⟩), .int .i64 a] w (ReadPost w (readB L a) (readE L a)) := by
  have HH := Lib.hid (has_any a hm hf)
  obtain ⟨c, _, _, _, _, _, p5, hc, hs⟩ := hm.cells
  have hle := hf.le
  cases hin : inL L a
  · have HE : Hid (readE L a = 2) := by unfold Hid readE; rw [hin]; rfl
    have HB : Hid (readB L a = []) := by unfold Hid readB; rw [HE.out]; rfl
    rw [hin] at HH
    clear hin hm hs hf
    go_enter Tryz.func86, Tryz.ntmps86
    go_wp2_with fail
    refine HH.out.mono ?_
    rintro e w' ⟨rfl, rfl⟩
    go_wp2
    go_ret2
    exact ⟨_, by rw [HE.out]; rfl, by rw [HB.out]; exact Byt.nil _ _, Below.refl _ _⟩
  · obtain ⟨h0, h1⟩ := (inL_iff L a).1 hin
    obtain ⟨i, hi, rfl, hg, hd⟩ := get_sec h0 h1
    obtain ⟨q0, v, q1, hv⟩ := hs i _ hg
    rw [hin] at HH
    by_cases hst : L[i].st = 1
    · have HE : Hid (readE L (i : Int) = 0) := by unfold Hid readE; rw [hin, hd, hst]; rfl
      have HB : Hid (readB L (i : Int) = L[i].by_) := by unfold Hid readB; rw [HE.out, hd]; rfl
      have hsh := hb _ (List.getElem_mem hi)
      have hst2 := Lib.hid hst
      rw [hst] at q0
      obtain ⟨A, cc, rfl, hrd, _⟩ := hv
      have HC := Lib.hid (cloneb_any L[i].by_ A cc w hrd.rd (by omega))
      generalize L[i].by_ = X at *
      clear hin hm hs hf hst hg hd
      go_enter Tryz.func86, Tryz.ntmps86
      go_wp2_with fail
      refine HH.out.mono ?_
      rintro e w' ⟨rfl, rfl⟩
      go_wp2_with fail
      refine HC.out.mono ?_
      rintro e w2 ⟨v, rfl, hv, hb2⟩
      go_wp2
      go_ret2
      exact ⟨v, by rw [HE.out]; rfl, by rw [HB.out]; exact hv, hb2⟩
    · have HE : Hid (readE L (i : Int) = 15) := by unfold Hid readE; rw [hin, hd]; simp [hst]
      have HB : Hid (readB L (i : Int) = []) := by unfold Hid readB; rw [HE.out]; rfl
      have hst2 : (L[i].st != 1) = true := by simpa using hst
      clear hin hm hs hf hst hg hd
      go_enter Tryz.func86, Tryz.ntmps86
      go_wp2_with fail
      refine HH.out.mono ?_
      rintro e w' ⟨rfl, rfl⟩
      go_wp2
      go_ret2
      exact ⟨_, by rw [HE.out]; rfl, by rw [HB.out]; exact Byt.nil _ _, Below.refl _ _⟩
end
end Go.Proofs.YtckdhhadlemakaaGreat

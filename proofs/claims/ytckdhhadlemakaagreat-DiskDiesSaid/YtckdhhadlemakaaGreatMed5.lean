/-
  WHAT IS SHOWN: what Read of tegularef11 returns; what New and Clone of media and of tegularef11 return. Conditions: the medium lies in memory.
-/
import Derived.Test.YtckdhhadlemakaaGreatMed4
import Derived.Lib.ConvBytes
import Derived.Laws.MakeOwn
namespace Go.Proofs.YtckdhhadlemakaaGreat
set_option linter.unusedVariables false
open Go.RowKit

/-- Bytes as a string gives them back. -/
def norm (xs : List Int) : List Int := xs.map fun n => ((UInt8.ofNat n.toNat).toNat : Int)
theorem norm_len (xs : List Int) : (norm xs).length = xs.length := by unfold norm; simp
theorem norm_str (xs : List Int) : strOfNums (norm xs) = strOfNums xs := by
  unfold strOfNums norm
  congr 2
  rw [List.map_map]
  apply List.map_congr_left
  intro n _
  show UInt8.ofNat (((UInt8.ofNat n.toNat).toNat : Int)).toNat = UInt8.ofNat n.toNat
  rw [Int.toNat_natCast, UInt8.ofNat_toNat]
theorem str_size (xs : List Int) : (strOfNums xs).size = xs.length := by unfold strOfNums ByteArray.size; simp
theorem str_get (xs : List Int) (j : Nat) : (strOfNums xs).data.toList[j]? = (xs[j]?).map fun n => UInt8.ofNat n.toNat := by unfold strOfNums; simp
theorem below_bytesWorld (w : World) (e : TypeId) (s : ByteArray) : Below w.heap.size w (Lib.bytesWorld w e s) :=
  ⟨rfl, rfl, rfl, by rw [Lib.bytesWorld_size]; omega, fun j hj => Lib.bytesWorld_at_old w e s j hj⟩
theorem byt_bytesWorld (w : World) (xs : List Int) : Byt 5 (Lib.bytesWorld w 5 (strOfNums xs)) (.slice (some ⟨w.heap.size, 0, none⟩) (strOfNums xs).size (grownCap w (strOfNums xs).size 0 5)) (norm xs) := by
  refine ⟨_, _, by rw [norm_len, str_size], fun j u hu => ?_, fun h => by cases h⟩
  refine ⟨w.heap.size, 0, _, _, rfl, Lib.bytesWorld_at_new w 5 (strOfNums xs), ?_⟩
  have hj : j < xs.length := by have := (List.getElem?_eq_some_iff.1 hu).1; simpa [norm] using this
  unfold norm at hu
  simp [hj] at hu
  subst hu
  unfold Lib.bytesCells
  rw [Nat.zero_add, Array.getElem?_append_left (by simp [strOfNums]; exact hj)]
  simp [strOfNums, hj]

section
variable {m bs : Nat} {g : Geo} {L : List Sec} {w : World}
set_option maxHeartbeats 400000 in
theorem rread_any (a : Int) (hm : RMed w m bs g L) (hf : Fit g L) : Calls Tryz.prog 91 #[.pointer (some ⟨m, 0, none⟩), .int .i64 a] w (ReadPost w (norm (readB L a)) (readE L a)) := by
  have HH := Lib.hid (rhas_any a hm hf)
  obtain ⟨c, _, _, _, _, _, p5, hc, hs⟩ := hm.cells
  have hle := hf.le
  cases hin : inL L a
  · have HE : Hid (readE L a = 2) := by unfold Hid readE; rw [hin]; rfl
    have HB : Hid (readB L a = []) := by unfold Hid readB; rw [HE.out]; rfl
    rw [hin] at HH
    clear hin hm hs hf
    go_enter Tryz.func91, Tryz.ntmps91
    go_wp2_with fail
    refine HH.out.mono ?_
    rintro e w' ⟨rfl, rfl⟩
    go_wp2
    go_ret2
    exact ⟨_, by rw [HE.out]; rfl, by rw [HB.out]; exact Byt.nil _ _, Below.refl _ _⟩
  · obtain ⟨h0, h1⟩ := (inL_iff L a).1 hin
    obtain ⟨i, hi, rfl, hg, hd⟩ := get_sec h0 h1
    obtain ⟨q0, q1⟩ := hs i _ hg
    rw [hin] at HH
    by_cases hst : L[i].st = 1
    · have HE : Hid (readE L (i : Int) = 0) := by unfold Hid readE; rw [hin, hd, hst]; rfl
      have HB : Hid (readB L (i : Int) = L[i].by_) := by unfold Hid readB; rw [HE.out, hd]; rfl
      rw [hst] at q0
      have hconv := Lib.run_convert_string_bytes (P := Tryz.prog) w 9 53 5 (strOfNums L[i].by_) Tryz.underlying9 Tryz.underlying53 Tryz.underlying5
      have HBW := Lib.hid (byt_bytesWorld w L[i].by_)
      have HBB := Lib.hid (below_bytesWorld w 5 (strOfNums L[i].by_))
      generalize Lib.bytesWorld w 5 (strOfNums L[i].by_) = w2 at *
      generalize grownCap w (strOfNums L[i].by_).size 0 5 = gc at *
      generalize hSZ : (strOfNums L[i].by_).size = SZ at *
      generalize hSS : strOfNums L[i].by_ = SS at *
      have HSS := Lib.hid hSS
      have HSZ := Lib.hid hSZ
      clear hin hm hs hf hst hg hd hSS hSZ
      go_enter Tryz.func91, Tryz.ntmps91
      go_wp2_with fail
      refine HH.out.mono ?_
      rintro e w' ⟨rfl, rfl⟩
      go_wp2
      go_ret2
      exact ⟨_, by rw [HE.out]; rfl, by rw [HB.out]; exact HBW.out, HBB.out⟩
    · have HE : Hid (readE L (i : Int) = 15) := by unfold Hid readE; rw [hin, hd]; simp [hst]
      have HB : Hid (readB L (i : Int) = []) := by unfold Hid readB; rw [HE.out]; rfl
      have hst2 : (L[i].st != 1) = true := by simpa using hst
      clear hin hm hs hf hst hg hd
      go_enter Tryz.func91, Tryz.ntmps91
      go_wp2_with fail
      refine HH.out.mono ?_
      rintro e w' ⟨rfl, rfl⟩
      go_wp2
      go_ret2
      exact ⟨_, by rw [HE.out]; rfl, by rw [HB.out]; exact Byt.nil _ _, Below.refl _ _⟩
end

/-! ### New and Clone -/
theorem info_sec : (Tryz.prog.info? 133).map (fun i => (i.zero, i.size, i.bytes)) = some (some (.agg #[.int .i64 0, .slice none 0 0]), 2, 32) := by kernel_rfl
theorem info_rsec : (Tryz.prog.info? 123).map (fun i => (i.zero, i.size, i.bytes)) = some (some (.agg #[.int .i64 0, .string ByteArray.empty]), 2, 24) := by kernel_rfl
theorem made_get (z0 z1 : Value) (n j : Nat) (hj : j < n * 2) : (madeCells #[z0, z1] (n * 2)).toList[j]? = some (if j % 2 = 0 then z0 else z1) := by
  unfold madeCells
  simp only [Array.toList_map, Array.toList_range, List.getElem?_map, List.getElem?_range hj, Option.map_some]
  rcases Nat.mod_two_eq_zero_or_one j with h | h <;> simp [h]
theorem made_flat {α : Type} (f : α → List Value) (z0 z1 : Value) (a : α) (hf : f a = [z0, z1]) (n : Nat) : (madeCells #[z0, z1] (n * 2)).toList = (List.replicate n a).flatMap f := by
  apply List.ext_getElem?
  intro j
  rcases Nat.lt_or_ge j (n * 2) with hj | hj
  · rw [made_get z0 z1 n j hj]
    have hflat : ∀ (n j : Nat), j < n * 2 → ((List.replicate n a).flatMap f)[j]? = some (if j % 2 = 0 then z0 else z1) := by
      intro n
      induction n with
      | zero => intro j h; omega
      | succ n ih =>
        intro j h
        rw [List.replicate_succ, List.flatMap_cons, hf]
        match j with
        | 0 => rfl
        | 1 => rfl
        | j + 2 =>
          have := ih j (by omega)
          simp only [List.cons_append, List.nil_append, List.getElem?_cons_succ]
          rw [this]
          congr 1
          have : (j + 2) % 2 = j % 2 := by omega
          rw [this]
    rw [hflat n j hj]
  · rw [List.getElem?_eq_none (by rw [Array.length_toList, size_madeCells]; exact hj), List.getElem?_eq_none]
    have : ((List.replicate n a).flatMap f).length = n * 2 := by
      clear hj
      induction n with
      | zero => rfl
      | succ n ih => rw [List.replicate_succ, List.flatMap_cons, List.length_append, ih, hf]; simp; omega
    omega
end Go.Proofs.YtckdhhadlemakaaGreat

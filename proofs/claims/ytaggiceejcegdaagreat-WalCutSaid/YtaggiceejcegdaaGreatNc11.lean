/-
  WHAT IS SHOWN: what Inspect of tegularef27 returns. Conditions: the bytes can be read.
-/
import Derived.Deep.DeepCutAuto
import Derived.Test.YtaggiceejcegdaaGreatNc07
import Derived.Test.YtaggiceejcegdaaGreatNc08
import Derived.Test.YtaggiceejcegdaaGreatNc09
namespace Go.Proofs.YtaggiceejcegdaaGreat
set_option linter.unusedVariables false
open Go.RowKit
theorem bytes_err {r : Rdr} (h : ¬ r.bytes.2.1 = 0) : r.bytes.2.2.done = 5:=by
 have hu : ¬ r.uint.2.1 = 0 → r.uint.2.2 = Rdr.fail:=fun h=>by
  unfold Rdr.uint at h ⊢
  split
  ·rename_i he; rw [he] at h; exact absurd rfl h
  ·rfl
 unfold Rdr.bytes at h ⊢
 by_cases h1 : r.uint.2.1 = 0
 ·rw [if_pos h1] at h ⊢
  unfold Rdr.take at h ⊢
  by_cases h2 : r.uint.2.2.bad = true ∨ r.uint.2.2.rest.length < r.uint.1
  ·rw [if_pos h2]; exact done_fail
  ·rw [if_neg h2] at h; exact absurd rfl h
 ·rw [if_neg h1]; show r.uint.2.2.done = 5; rw [hu h1]; exact done_fail
theorem rdK_len (b : List Int) : ∀ k,(rdK b k).rest.length ≤ b.length
 | 0=>by show ((b.take (b.length - 8)).drop 1).length ≤ _; rw [List.length_drop,List.length_take]; omega
 | k + 1=>Nat.le_trans (uint_len' _) (rdK_len b k)
set_option maxRecDepth 100000 in
set_option maxHeartbeats 30000000 in
theorem rins_ne (b : List Int) (hu : U8s b) (A : Option Addr) (c : Nat) (w : World) (h : Rd w w.heap.size A (b.map (Value.int .u8))) (hl : b.length ≤ 100000) (hc : b.length ≤ c) (hcm : c ≤ 9223372036854775807) (h8 : ¬ b.length < 8) (hm0 : b.head? = some 82) (hs : ¬ sealB (b.take (b.length - 8)) = b) :
  Calls Tryz.prog 116 #[.slice A b.length c] w (InsPost w b):=by
 have HH:=Lib.hid h
 clear h
 have HPB : Hid (∀ W,Below (w.heap.size + 1) (w.alloc (.cells #[.int .u64 0,.int .u64 0,.int .i64 0,.int .i64 0] 118)) W → W.heap[w.heap.size]? = some (.cells #[.int .u64 0,.int .u64 0,.int .i64 0,.int .i64 0] 118 (0,0))):=fun W hW=>belObj hW (World.alloc_heap_new w _) (by omega)
 obtain ⟨n,hn⟩ : ∃ n,b.length = n + 8:=⟨b.length - 8,by omega⟩
 have h0 : 0 < b.length:=by omega
 obtain ⟨g0,o0,rfl,hg0,j0⟩:=byte_at HH.out h0
 rw [Nat.add_zero] at j0
 have hh : b.head? = some b[0]:=by cases b with | nil=>simp at h0 | cons x l=>rfl
 have hm : b[0] = 82:=by rw [hh] at hm0; injection hm0
 have hh2 : b.head? = some 82:=by rw [hh,hm]
 have hbl : (b.take n).length = n:=by rw [List.length_take]; omega
 have hn2 : b.length - 8 = n:=by omega
 have hRB : Rd w w.heap.size (some ⟨g0,o0,none⟩) ((b.take n).map (Value.int .u8)):=by rw [List.map_take]; exact HH.out.take n
 have HSE:=Lib.hid (fun W (hW : Below w.heap.size w W)=>rsealed_any (b.take n) (some ⟨g0,o0,none⟩) c W ((hRB.below hW (Nat.le_refl _)).more hW.size) (by omega))
 rw [hbl] at HSE
 rw [hm] at j0
 have hls : (sealB (b.take n)).length = n + 8:=by unfold sealB; rw [List.length_append,hbl]; rfl
 have hus : U8s (sealB (b.take n)):=by
  unfold sealB
  refine u8_append (hu.take n) ?_
  intro x hx
  unfold be8 at hx
  simp only [List.mem_cons,List.not_mem_nil,or_false] at hx
  have hw : ∀ y : Int,0 ≤ IntKind.u8.wrap y ∧ IntKind.u8.wrap y ≤ 255:=fun y=>by rw [IntKind.wrap_u8]; omega
  rcases hx with rfl | rfl | rfl | rfl | rfl | rfl | rfl | rfl <;> exact hw _
 have HI:=Lib.hid (insD_sum (by omega) hh2 hs)
 rw [hn2] at hs
 have hse:=str_ne hus hu hs
 have HV1:=Lib.hid (fun (W : World) (A1 : Option Addr) (c1 : Nat) (hR : Rd W W.heap.size A1 ((sealB (b.take n)).map (Value.int .u8))) =>qconv_bytes c1 hR)
 have HV2:=Lib.hid (fun (W : World) (hW : Below w.heap.size w W)=>qconv_bytes c (HH.out.below hW (Nat.le_refl _)))
 rw [hn] at HV2
 generalize strOfNums b = S1 at *
 generalize strOfNums (sealB (b.take n)) = S2 at *
 generalize sealB (b.take n) = sb at *
 have HLS:=Lib.hid hls
 clear hls hm hh hh2 hs hbl hn2 hRB hus
 have hN:=Lib.hid hn
 rw [hn] at hl hc ⊢
 clear hn h8 h0
 go_enter Tryz.func116,Tryz.ntmps116
 go_wp2_with fail
 have eW : IntKind.i64.wrap (n : Int) = (n : Int):=by rw [IntKind.wrap_i64]; omega
 have k1 : (n : Int) ≤ (c : Int):=by omega
 have hbW : Below w.heap.size w ((w.alloc (.cells #[.int .u64 0,.int .u64 0,.int .i64 0,.int .i64 0] 118))).drew:=((Below.refl _ _).alloc (Nat.le_refl _) _).drew
 have hvb0:=HV2.out _ hbW
 go_region_law (first
  | (go_simp
     go_at_call 109
     refine (HSE.out _ hbW).mono ?_
     rintro e w1 ⟨A1,c1,rfl,ho1,hb1⟩
     have hb1':=hbW.trans (hb1.mono hbW.size)
     have hvb1:=HV2.out _ hb1'
     have hv1:=HV1.out w1 A1 c1 (Rd.of_own ho1)
     have HB3:=Lib.hid hb1'
     have hsz0 : (((w.alloc (.cells #[.int .u64 0,.int .u64 0,.int .i64 0,.int .i64 0] 118))).drew).heap.size = w.heap.size + 1:=by simp
     have HB3b : Hid (Below (w.heap.size + 1) (w.alloc (.cells #[.int .u64 0,.int .u64 0,.int .i64 0,.int .i64 0] 118)) w1):=((Below.refl _ _).drew).trans (hb1.mono (by omega))
     have PB:=HPB.out w1 HB3b.out
     obtain ⟨q0,q1,q2,q3,f0,f1,f2,f3⟩:=cells4 PB
     clear ho1 hb1 hb1' PB))
 all_goals go_wp2
 all_goals exact bodyPost_ret (by first | (simp [results,Tryz.results116,go_sem, *]; done) | (simp [results,Tryz.results116,go_sem, *]; rfl)) rfl (InsPost.bad HI.out rfl (below4 HB3.out (Nat.le_refl _) _ _ _ _))
set_option maxRecDepth 100000 in
set_option maxHeartbeats 30000000 in
theorem rins_bad (b : List Int) (hu : U8s b) (A : Option Addr) (c : Nat) (w : World) (h : Rd w w.heap.size A (b.map (Value.int .u8))) (hl : b.length ≤ 100000) (hc : b.length ≤ c) (hcm : c ≤ 9223372036854775807) (hb : b.length < 8 ∨ ¬ b.head? = some 82) :
  Calls Tryz.prog 116 #[.slice A b.length c] w (InsPost w b):=by
 have HH:=Lib.hid h
 clear h
 have HPB : Hid (∀ W,Below (w.heap.size + 1) (w.alloc (.cells #[.int .u64 0,.int .u64 0,.int .i64 0,.int .i64 0] 118)) W → W.heap[w.heap.size]? = some (.cells #[.int .u64 0,.int .u64 0,.int .i64 0,.int .i64 0] 118 (0,0))):=fun W hW=>belObj hW (World.alloc_heap_new w _) (by omega)
 by_cases h8 : b.length < 8
 ·have HI:=Lib.hid (insD_short h8)
  go_enter Tryz.func116,Tryz.ntmps116
  go_wp2
  exact bodyPost_ret (by first | (simp [results,Tryz.results116,go_sem, *]; done) | (simp [results,Tryz.results116,go_sem, *]; rfl)) rfl (InsPost.bad HI.out rfl ((Below.refl _ _).alloc (Nat.le_refl _) _))
 ·obtain ⟨n,hn⟩ : ∃ n,b.length = n + 8:=⟨b.length - 8,by omega⟩
  have h0 : 0 < b.length:=by omega
  obtain ⟨g0,o0,rfl,hg0,j0⟩:=byte_at HH.out h0
  rw [Nat.add_zero] at j0
  have hh : b.head? = some b[0]:=by cases b with | nil=>simp at h0 | cons x l=>rfl
  have hm : ¬ b[0] = 82:=fun e=>by rcases hb with hb | hb; exact h8 hb; exact hb (by rw [hh,e])
  clear hb
  have HI:=Lib.hid (insD_mark (b:=b) (by rw [hh]; simpa using hm))
  generalize b[0] = v at *
  have hv : (v == 82) = false:=by simpa using hm
  have hv2 : (v != 82) = true:=by simpa using hm
  clear hh hm
  go_enter Tryz.func116,Tryz.ntmps116
  go_wp2
  exact bodyPost_ret (by first | (simp [results,Tryz.results116,go_sem, *]; done) | (simp [results,Tryz.results116,go_sem, *]; rfl)) rfl (InsPost.bad HI.out rfl ((Below.refl _ _).alloc (Nat.le_refl _) _))
end Go.Proofs.YtaggiceejcegdaaGreat

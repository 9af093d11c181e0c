/-
  WHAT IS SHOWN: what geometry, brief and wrong of tegulalaw49 return. Conditions: what is read can be read.
-/
import Derived.Test.YtaggiceejcegdaaGreatNc32
import Derived.Test.YtaggiceejcegdaaGreatNc30
import Derived.Test.YtaggiceejcegdaaGreatNc25
namespace Go.Proofs.YtaggiceejcegdaaGreat
set_option linter.unusedVariables false
open Go.RowKit
def gW : Geo:=⟨20,1,2,2,1⟩
theorem gW_ok : validG gW = true:=by decide
theorem wgeo_any (w : World) : Calls Tryz.prog 45 #[] w fun e w'=>e = .returned (.agg #[.int .i64 gW.random,.int .i64 gW.bands,.int .i64 gW.tracks,.int .i64 gW.sectors,.int .i64 gW.overlap]) ∧ Below w.heap.size w w':=by
 go_enter Tryz.func45,Tryz.ntmps45
 go_wp2
 exact bodyPost_ret (v:=.agg #[.int .i64 gW.random,.int .i64 gW.bands,.int .i64 gW.tracks,.int .i64 gW.sectors,.int .i64 gW.overlap]) (by simp [results,Tryz.results45,go_sem,gW]) rfl ⟨rfl,(Below.refl _ _).alloc (Nat.le_refl _) _⟩
def briefR (r : Rec) : Bool:=decide (r.ws.length ≤ 6) && decide (r.ms.length ≤ 6) && decide (r.note.length ≤ 300)
structure FL where
 A : Option Addr
 F : List Flt
 c : Nat
def FL.v (x : FL) : Value:=.slice x.A x.F.length x.c
structure FlsR (w : World) (B : Nat) (A : Option Addr) (fs : List FL) : Prop where
 rd : Rd w B A (fs.map FL.v)
 each : ∀ x ∈ fs,Rd w B x.A (flatF x.F)
theorem FlsR.up {w w' : World} {A : Option Addr} {fs : List FL} (h : FlsR w w.heap.size A fs) (hb : Below w.heap.size w w') : FlsR w' w'.heap.size A fs:=
 ⟨(h.rd.below hb (Nat.le_refl _)).more hb.size,fun x hx=>((h.each x hx).below hb (Nat.le_refl _)).more hb.size⟩
theorem fl_at {w : World} {B : Nat} {A : Option Addr} {fs : List FL} (h : FlsR w B A fs) {k : Nat} (hk : k < fs.length) : ∃ g o,A = some ⟨g,o,none⟩ ∧ g < B ∧ w.cell? ⟨g,o + k,none⟩ = some (.slice fs[k].A fs[k].F.length fs[k].c) ∧ Rd w B fs[k].A (flatF fs[k].F):=by
 obtain ⟨g,o,e,hg,hc⟩:=h.rd k fs[k].v (by rw [List.getElem?_map,List.getElem?_eq_getElem hk]; rfl)
 exact ⟨g,o,e,hg,hc,h.each _ (List.getElem_mem hk)⟩
def wrongL (fs : List (List Flt)) : Bool:=fs.any (fun l=>decide (40 < l.length) || !validF l) || decide (6 < fs.length)
end Go.Proofs.YtaggiceejcegdaaGreat

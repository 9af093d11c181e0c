/-
  WHAT IS SHOWN: plain facts on lists of bands: what Append, Unlink and Reset keep valid, what they do to the sum of Live, which band is open. plain facts on the choice of a band (packages victim and tegularef18): no candidate is better than the chosen one; bands that are no candidates do not matter. plain facts, of no program: a drive on a disk: its state, and what its methods make of it. Conditions: as each theorem names them.
-/
import Derived.Test.YtggkengmlkhdiaaGreatM10
namespace Go.Proofs.YtggkengmlkhdiaaGreat.V
set_option linter.unusedVariables false
open Go.RowKit

def okB (sz : Int) (b : BI) : Prop := 0 ≤ b.live ∧ b.live ≤ b.used ∧ b.used ≤ sz
theorem badB_false (sz : Int) (b : BI) : badB sz b.used b.live = false ↔ okB sz b := by
  unfold badB okB; simp; omega
theorem validB_iff (l : List BI) (sz : Int) : validB l sz = true ↔ 1 ≤ l.length ∧ l.length ≤ 64 ∧ 1 ≤ sz ∧ ∀ b ∈ l, okB sz b := by
  unfold validB anyBad
  simp only [Bool.and_eq_true, decide_eq_true_eq, Bool.not_eq_true', List.any_eq_false, and_assoc]
  constructor
  · rintro ⟨a, b, c, d⟩
    exact ⟨a, b, c, fun x hx => (badB_false sz x).1 (by simpa using d x hx)⟩
  · rintro ⟨a, b, c, d⟩
    exact ⟨a, b, c, fun x hx => by simpa using (badB_false sz x).2 (d x hx)⟩
theorem valid_set {l : List BI} {sz : Int} (h : validB l sz = true) (k : Nat) (b : BI) (hb : okB sz b) : validB (l.set k b) sz = true := by
  rw [validB_iff] at h ⊢
  obtain ⟨h1, h2, h3, h4⟩ := h
  refine ⟨by simpa using h1, by simpa using h2, h3, fun x hx => ?_⟩
  rcases List.mem_or_eq_of_mem_set hx with h | rfl
  · exact h4 x h
  · exact hb
theorem inL_of {l : List BI} {band : Int} (h : inL l band = true) : ∃ k : Nat, band = (k : Int) ∧ k < l.length := by
  simp [inL] at h
  obtain ⟨k, rfl⟩ := Int.eq_ofNat_of_zero_le h.1
  exact ⟨k, rfl, by omega⟩
theorem wrap64_of {n : Int} (h : I64 n) : wrap64 n = n := by obtain ⟨h1, h2⟩ := h; unfold wrap64; omega
theorem appE_zero {l : List BI} {sz band : Int} (h : appE l sz band = 0) : ∃ k : Nat, band = (k : Int) ∧ ∃ hk : k < l.length, l[k].used < sz := by
  unfold appE at h
  cases hi : inL l band
  · rw [hi] at h; simp at h
  · obtain ⟨k, rfl, hk⟩ := inL_of hi
    rw [hi, at_eq hk] at h
    refine ⟨k, rfl, hk, ?_⟩
    by_cases h1 : sz ≤ l[k].used
    · simp [h1] at h
    · omega
theorem appL_zero {l : List BI} {sz now : Int} {k : Nat} (hk : k < l.length) (h : appE l sz k = 0) : appL l sz k now = l.set k (appBI now l[k]) := by
  unfold appL; rw [if_pos h, at_eq hk]; rfl
theorem unlL_zero {l : List BI} {k : Nat} (hk : k < l.length) (h : unlE l k = 0) : unlL l k = l.set k (unlBI l[k]) := by
  unfold unlL; rw [if_pos h, at_eq hk]; rfl
theorem app_valid {l : List BI} {sz band now : Int} (hs : I64 sz) (h : validB l sz = true) (he : appE l sz band = 0) : validB (appL l sz band now) sz = true := by
  obtain ⟨k, rfl, hk, hu⟩ := appE_zero he
  rw [appL_zero hk he]
  have hb := ((validB_iff l sz).1 h).2.2.2 _ (List.getElem_mem hk)
  obtain ⟨h1, h2, h3⟩ := hb
  obtain ⟨h4, h5⟩ := hs
  refine valid_set h k _ ?_
  unfold okB appBI
  rw [wrap64_of ⟨by omega, by omega⟩, wrap64_of ⟨by omega, by omega⟩]
  exact ⟨by simp; omega, by simp; omega, by simp; omega⟩
/-! ### sums -/
def sumN (l : List BI) : Int := (l.map (·.live)).sum
/-! ### the newest band -/
theorem open_newest (sz : Int) (L : List BI) (k : Nat) (hk : k < L.length) (hp : partB sz L[k] = true) (hage : ∀ j b, j ≠ k → L[j]? = some b → b.age < L[k].age) :
    ∀ m, m ≤ L.length → (m ≤ k → True) ∧ (k < m → openFrom sz (-1, 0) 0 (L.take m) = ((k : Int), L[k].age))
  | 0, _ => ⟨fun _ => trivial, fun h => by omega⟩
  | m + 1, hm => by
    refine ⟨fun _ => trivial, fun h => ?_⟩
    rw [openFrom_take sz L _ m (by omega)]
    by_cases h1 : k < m
    · rw [(open_newest sz L k hk hp hage m (by omega)).2 h1]
      have h2 := hage m L[m] (by omega) (get_some (by omega))
      unfold openStep
      rw [if_neg]
      simp; omega
    · have h2 : m = k := by omega
      subst h2
      unfold openStep
      rw [if_pos]
      rw [hp, Bool.true_and]
      rcases openFrom_inv sz L m (by omega) with h3 | ⟨i, hi, h3, b, hb, h4⟩
      · simp [h3]
      · have h5 := hage i b (by omega) hb
        rw [h4] at h5
        simp [h5]
theorem freeN_set (l : List BI) (k : Nat) (b : BI) (hk : k < l.length) (h0 : l[k].used = 0) (h1 : b.used ≠ 0) : freeN (l.set k b) = freeN l - 1 := by
  unfold freeN
  induction l generalizing k with
  | nil => simp at hk
  | cons a l ih =>
    cases k with
    | zero =>
      simp at h0
      simp [h0, h1]
    | succ k =>
      have := ih k (by simpa using hk) (by simpa using h0)
      rw [List.set_cons_succ, List.filter_cons, List.filter_cons]
      by_cases ha : a.used = 0
      · simp [ha]; omega
      · simp [ha]; omega
theorem newest {l : List BI} {sz now : Int} {k : Nat} (hk : k < l.length) (hs : I64 sz) (h : validB l sz = true) (h2 : 2 ≤ sz) (h0 : l[k].used = 0) (hn : ∀ b ∈ l, b.age < now) :
    appE l sz k = 0 ∧ openB (appL l sz k now) sz = k ∧ freeN (appL l sz k now) = freeN l - 1 := by
  have he : appE l sz k = 0 := by
    unfold appE
    have hi : inL l (k : Int) = true := by simp [inL]; omega
    rw [hi, at_eq hk, if_pos rfl, if_neg (by omega)]
  have hv := app_valid (now := now) hs h he
  rw [appL_zero hk he] at hv ⊢
  have hu : (appBI now l[k]).used = 1 := by unfold appBI; simp only [h0]; exact wrap64_of ⟨by omega, by omega⟩
  refine ⟨he, ?_, freeN_set l k _ hk h0 (by rw [hu]; decide)⟩
  unfold openB
  rw [if_pos hv]
  have hk' : k < (l.set k (appBI now l[k])).length := by simpa using hk
  have hget : (l.set k (appBI now l[k]))[k] = appBI now l[k] := by simp
  have := (open_newest sz (l.set k (appBI now l[k])) k hk' (by rw [hget]; unfold partB; rw [hu]; simp; omega) (fun j b hj hb => by
    rw [hget]
    rw [List.getElem?_set_ne (by omega)] at hb
    exact hn b (List.mem_of_getElem? hb)) _ (Nat.le_refl _)).2 hk'
  rw [List.take_of_length_le (Nat.le_refl _)] at this
  rw [this]
end Go.Proofs.YtggkengmlkhdiaaGreat.V
namespace Go.Proofs.YtggkengmlkhdiaaGreat.V
set_option linter.unusedVariables false
open Go.RowKit

/-- x is no better choice than the chosen b. -/
def noBetter (sz now : Int) (b x : BI) : Prop := betterB x b sz now = false ∧ (betterB b x sz now = true ∨ b.wear ≤ x.wear)
end Go.Proofs.YtggkengmlkhdiaaGreat.V
namespace Go.Proofs.YtggkengmlkhdiaaGreat
set_option linter.unusedVariables false

/-! ### the state -/
/-- The newest entry of a block; the address -1 says that there is none. -/
structure NE where
  kind : Int
  ver : Int
  adr : Int
def noNE : NE := ⟨0, 0, -1⟩
/-- A drive, without its disk. -/
structure DV where
  es : List NE
  bs : List V.BI
  time : Int
  failed : Int
/-- A drive and its disk. -/
structure ST where
  v : DV
  d : DC
def eOne (g : Geo) (F : List Flt) (key a : Int) (d : DC) : DC × Ans :=
  (⟨dErS g F d.s d.P d.L d.O key a, (begD F d.s d.P key).P, d.L, dErO g F d.s d.P d.L d.O key a⟩, ⟨dErE g F d.s d.P d.L d.O key a, []⟩)
theorem eOne_len (g : Geo) (F : List Flt) (key a : Int) (d : DC) : (eOne g F key a d).1.O.length ≤ d.O.length + 1 := by
  unfold eOne dErO erO
  simp only
  repeat' split
  all_goals simp

/-! ### bands -/
def leastStep (s : Option (Nat × V.BI)) (i : Nat) (b : V.BI) : Option (Nat × V.BI) :=
  if b.used = 0 then (match s with | none => some (i, b) | some (j, c) => if b.wear < c.wear then some (i, b) else some (j, c)) else s
def leastFrom : Option (Nat × V.BI) → Nat → List V.BI → Option (Nat × V.BI)
  | s, _, [] => s
  | s, i, b :: l => leastFrom (leastStep s i b) (i + 1) l
/-- The free band with the least wear: its number and the error. -/
def leastN (l : List V.BI) : Int × Int := V.chRes (leastFrom none 0 l)
theorem leastFrom_snoc : ∀ (l : List V.BI) (s : Option (Nat × V.BI)) (k : Nat) (b : V.BI), leastFrom s k (l ++ [b]) = leastStep (leastFrom s k l) (k + l.length) b
  | [], s, k, b => by simp [leastFrom]
  | a :: l, s, k, b => by
    rw [List.cons_append, leastFrom, leastFrom, leastFrom_snoc l, List.length_cons]
    congr 1; omega
theorem leastFrom_take (l : List V.BI) (k : Nat) (h : k < l.length) : leastFrom none 0 (l.take (k + 1)) = leastStep (leastFrom none 0 (l.take k)) k l[k] := by
  rw [List.take_succ_eq_append_getElem h, leastFrom_snoc, List.length_take, Nat.min_eq_left (by omega), Nat.zero_add]
theorem least_inv (l : List V.BI) : ∀ k, k ≤ l.length → (leastFrom none 0 (l.take k) = none ∧ (∀ b ∈ l.take k, b.used ≠ 0)) ∨ ∃ (i : Nat) (hi : i < l.length), i < k ∧ leastFrom none 0 (l.take k) = some (i, l[i]) ∧ l[i].used = 0
  | 0, _ => by left; simp [leastFrom]
  | k + 1, h => by
    rw [leastFrom_take l k (by omega)]
    unfold leastStep
    by_cases hc : l[k].used = 0
    · rw [if_pos hc]
      right
      rcases least_inv l k (by omega) with ⟨h1, _⟩ | ⟨i, hi, hik, h1, h2⟩
      · rw [h1]; exact ⟨k, by omega, by omega, rfl, hc⟩
      · rw [h1]
        simp only
        by_cases hw : l[k].wear < l[i].wear
        · rw [if_pos hw]; exact ⟨k, by omega, by omega, rfl, hc⟩
        · rw [if_neg hw]; exact ⟨i, hi, by omega, rfl, h2⟩
    · rw [if_neg hc]
      rcases least_inv l k (by omega) with ⟨h1, h3⟩ | ⟨i, hi, hik, h1, h2⟩
      · left
        refine ⟨h1, fun b hb => ?_⟩
        rw [List.take_succ_eq_append_getElem (by omega)] at hb
        rcases List.mem_append.1 hb with hb | hb
        · exact h3 b hb
        · simp at hb; subst hb; exact hc
      · exact .inr ⟨i, hi, by omega, h1, h2⟩
/-- The list in which a band counts as full. -/
def fullL (g : Geo) (bs : List V.BI) (except : Int) : List V.BI := if 0 ≤ except then bs.set except.toNat { V.at_ bs except with used := bz g } else bs
/-- The band that takes appends, and the error. -/
def openN (g : Geo) (bs : List V.BI) (except : Int) : Int × Int :=
  if 0 ≤ V.openB (fullL g bs except) (bz g) then (V.openB (fullL g bs except) (bz g), 0)
  else if (leastN (fullL g bs except)).2 = 0 then ((leastN (fullL g bs except)).1, 0) else (0, 11)
/-- The room besides a band. -/
def roomFrom (sz except : Int) : Nat → List V.BI → Int
  | _, [] => 0
  | i, b :: l => (if (i : Int) = except then 0 else sz - b.used) + roomFrom sz except (i + 1) l
def roomN (sz : Int) (bs : List V.BI) (except : Int) : Int := roomFrom sz except 0 bs
def bestStep (sz : Int) (bs : List V.BI) (s : Option (Nat × V.BI)) (i : Nat) (b : V.BI) : Option (Nat × V.BI) :=
  if b.live < sz ∧ b.live ≤ roomN sz bs i then (match s with | none => some (i, b) | some (j, c) => if b.live < c.live then some (i, b) else some (j, c)) else s
def bestFrom (sz : Int) (bs : List V.BI) : Option (Nat × V.BI) → Nat → List V.BI → Option (Nat × V.BI)
  | s, _, [] => s
  | s, i, b :: l => bestFrom sz bs (bestStep sz bs s i b) (i + 1) l
/-- The band to be cleaned, and the error. -/
def victimN (g : Geo) (v : DV) : Int × Int :=
  if 0 < V.freeN v.bs then V.chooseN v.bs (bz g) v.time (V.openB v.bs (bz g)) else V.chRes (bestFrom (bz g) v.bs none 0 v.bs)

/-! ### what the methods do -/
/-- The band of an address. -/
def bandN (g : Geo) (a : Int) : Int := Int.tdiv (a - g.random) (bz g)
def DV.fail (v : DV) (er : Int) : DV := if er = 0 then v else { v with failed := er }
def unlinkV (g : Geo) (v : DV) (b : Nat) : DV :=
  { v with es := v.es.set b noNE, bs := if 0 ≤ (v.es.getD b noNE).adr then V.unlL v.bs (bandN g (v.es.getD b noNE).adr) else v.bs }
/-- The address of the next sector of a band. -/
def nextA (g : Geo) (v : DV) (k : Int) : Int := g.random + k * bz g + (V.at_ v.bs k).used
def tick (t : Int) : Int := IntKind.u64.wrap (t + 1)
/-- An entry has been written at the end of band k. -/
def linkV (g : Geo) (v : DV) (x : Ent) (k : Int) : DV :=
  { unlinkV g v x.blk.toNat with
    time := tick v.time
    bs := V.appL (unlinkV g v x.blk.toNat).bs (bz g) k (tick v.time)
    es := (unlinkV g v x.blk.toNat).es.set x.blk.toNat ⟨x.kind, x.ver, nextA g v k⟩ }
/-- Writing the entry. -/
def wrX (g : Geo) (F : List Flt) (key : Int) (S : ST) (x : Ent) (k : Int) : DC × Ans := tryD (wOne g F key (nextA g S.v k) (encB x (tick S.v.time))) S.d
def appN (g : Geo) (F : List Flt) (key : Int) (S : ST) (x : Ent) (except : Int) : ST × Int :=
  if (openN g S.v.bs except).2 = 0 then
    if validE x = true then
      if (wrX g F key S x (openN g S.v.bs except).1).2.er = 0 then (⟨linkV g S.v x (openN g S.v.bs except).1, (wrX g F key S x (openN g S.v.bs except).1).1⟩, 0)
      else (⟨S.v.fail (wrX g F key S x (openN g S.v.bs except).1).2.er, (wrX g F key S x (openN g S.v.bs except).1).1⟩, (wrX g F key S x (openN g S.v.bs except).1).2.er)
    else (S, 1)
  else (S, (openN g S.v.bs except).2)
/-- Reading the sector of a block's newest entry. -/
def rdX (g : Geo) (F : List Flt) (key : Int) (S : ST) (b : Nat) : DC × Ans := tryD (rOne g F key (S.v.es.getD b noNE).adr) S.d
/-- Do bytes hold the newest entry of a block? -/
def holdsB (n : NE) (b : Nat) (xs : List Int) : Bool := decide (decE xs = 0) && (decide ((decX xs).kind = n.kind) && (decide ((decX xs).blk = (b : Int)) && decide ((decX xs).ver = n.ver)))
/-- Reading a block's newest entry: the error. -/
def ftE (g : Geo) (F : List Flt) (key : Int) (S : ST) (b : Nat) : Int :=
  if (rdX g F key S b).2.er = 0 then (if holdsB (S.v.es.getD b noNE) b (rdX g F key S b).2.by_ = true then 0 else 15) else (rdX g F key S b).2.er
def ftX (g : Geo) (F : List Flt) (key : Int) (S : ST) (b : Nat) : Ent := if ftE g F key S b = 0 then decX (rdX g F key S b).2.by_ else noEnt
/-- Moving the newest entry of a block out of band k: the state, how many were moved, the error. -/
def mvOne (g : Geo) (F : List Flt) (key : Int) (k : Int) (b : Nat) (r : ST × Int × Int) : ST × Int × Int :=
  if ftE g F key r.1 b = 15 then (⟨unlinkV g r.1.v b, (rdX g F key r.1 b).1⟩, r.2.1, 0)
  else if ftE g F key r.1 b = 0 then
    if (appN g F key ⟨r.1.v, (rdX g F key r.1 b).1⟩ (ftX g F key r.1 b) k).2 = 0 then ((appN g F key ⟨r.1.v, (rdX g F key r.1 b).1⟩ (ftX g F key r.1 b) k).1, r.2.1 + 1, 0)
    else (⟨(appN g F key ⟨r.1.v, (rdX g F key r.1 b).1⟩ (ftX g F key r.1 b) k).1.v.fail (appN g F key ⟨r.1.v, (rdX g F key r.1 b).1⟩ (ftX g F key r.1 b) k).2, (appN g F key ⟨r.1.v, (rdX g F key r.1 b).1⟩ (ftX g F key r.1 b) k).1.d⟩, 0, (appN g F key ⟨r.1.v, (rdX g F key r.1 b).1⟩ (ftX g F key r.1 b) k).2)
  else (⟨r.1.v.fail (ftE g F key r.1 b), (rdX g F key r.1 b).1⟩, 0, ftE g F key r.1 b)
/-- Moving the first j of the blocks l. -/
def mvK (g : Geo) (F : List Flt) (key : Int) (k : Int) (l : List Nat) (S : ST) : Nat → ST × Int × Int
  | 0 => (S, 0, 0)
  | j + 1 => if (mvK g F key k l S j).2.2 = 0 then mvOne g F key k (l.getD j 0) (mvK g F key k l S j) else mvK g F key k l S j
/-- Flushing the disk, and noting an error. -/
def flushS (g : Geo) (F : List Flt) (key : Int) (S : ST) : ST × Int := (⟨S.v.fail (tryD (fOne g F key) S.d).2.er, (tryD (fOne g F key) S.d).1⟩, (tryD (fOne g F key) S.d).2.er)
def eraseS (g : Geo) (F : List Flt) (key k : Int) (S : ST) : ST × Int := (⟨S.v.fail (tryD (eOne g F key k) S.d).2.er, (tryD (eOne g F key k) S.d).1⟩, (tryD (eOne g F key k) S.d).2.er)
/-- Flushing the disk and erasing band k. -/
def wipeS (g : Geo) (F : List Flt) (key k : Int) (S : ST) (m : Int) : ST × Int × Int :=
  if (flushS g F key S).2 = 0 then
    if (eraseS g F key k (flushS g F key S).1).2 = 0 then (⟨{ (eraseS g F key k (flushS g F key S).1).1.v with bs := V.resL (eraseS g F key k (flushS g F key S).1).1.v.bs k }, (eraseS g F key k (flushS g F key S).1).1.d⟩, m, 0)
    else ((eraseS g F key k (flushS g F key S).1).1, 0, (eraseS g F key k (flushS g F key S).1).2)
  else ((flushS g F key S).1, 0, (flushS g F key S).2)
/-- Cleaning band k, whose newest entries are those of the blocks l. -/
def cleanS (g : Geo) (F : List Flt) (key k : Int) (l : List Nat) (S : ST) : ST × Int × Int :=
  if (mvK g F key k l S l.length).2.2 = 0 then wipeS g F key k (mvK g F key k l S l.length).1 (mvK g F key k l S l.length).2.1 else mvK g F key k l S l.length
/-- The blocks whose newest entries lie in band k. -/
def inBand (g : Geo) (v : DV) (k : Int) (b : Nat) : Bool := decide (0 ≤ (v.es.getD b noNE).adr) && decide (bandN g (v.es.getD b noNE).adr = k)
def blocksIn (g : Geo) (v : DV) (k : Int) : List Nat := (List.range v.es.length).filter (inBand g v k)
/-- These blocks, in the order of the addresses. -/
structure Sorted (g : Geo) (v : DV) (k : Int) (l : List Nat) : Prop where
  perm : l.Perm (blocksIn g v k)
  sort : l.Pairwise fun a b => (v.es.getD a noNE).adr ≤ (v.es.getD b noNE).adr
/-- What cleaning band k may lead to. -/
def CleanR (g : Geo) (F : List Flt) (key k : Int) (S : ST) (r : ST × Int × Int) : Prop := ∃ l, Sorted g S.v k l ∧ r = cleanS g F key k l S
/-- Cleanings that make room. -/
inductive Cleans (g : Geo) (F : List Flt) (key : Int) : ST → ST → Prop
  | none (S : ST) : Cleans g F key S S
  | more {S T : ST} {U : ST} {m : Int} (h : Cleans g F key S T) (hf : V.freeN T.v.bs < 2) (hv : (victimN g T.v).2 = 0) (hc : CleanR g F key (victimN g T.v).1 T (U, m, 0)) : Cleans g F key S U
/-- What putting an entry may lead to, when its block and version are right. -/
def PutR (g : Geo) (F : List Flt) (key : Int) (S : ST) (x : Ent) (r : ST × Int) : Prop :=
  ∃ T, Cleans g F key S T ∧
    ((2 ≤ V.freeN T.v.bs ∧ r = appN g F key T x (-1)) ∨
     (V.freeN T.v.bs < 2 ∧ (victimN g T.v).2 ≠ 0 ∧ r = (T, 11)) ∨
     (V.freeN T.v.bs < 2 ∧ (victimN g T.v).2 = 0 ∧ ∃ U m er, CleanR g F key (victimN g T.v).1 T (U, m, er) ∧ er ≠ 0 ∧ r = (U, er)))
/-- The error of a call that is rejected at once: 0 if it is not. -/
def preE (v : DV) (b ver : Int) : Int :=
  if v.failed = 0 then (if 0 ≤ b ∧ b < v.es.length then (if ver = 0 ∨ ver < (v.es.getD b.toNat noNE).ver then 1 else 0) else 2) else v.failed
/-- What Write and Trim may lead to. -/
def WriteR (g : Geo) (F : List Flt) (key : Int) (S : ST) (x : Ent) (r : ST × Int) : Prop :=
  if preE S.v x.blk x.ver = 0 then PutR g F key S x r else r = (S, preE S.v x.blk x.ver)
/-- What Read answers: the version, the data, the error. -/
def readE20 (g : Geo) (F : List Flt) (key : Int) (S : ST) (b : Int) : Int :=
  if S.v.failed = 0 then
    if 0 ≤ b ∧ b < S.v.es.length then
      if (S.v.es.getD b.toNat noNE).adr < 0 ∨ (S.v.es.getD b.toNat noNE).kind = 2 then 9
      else if ftE g F key S b.toNat = 16 then 15 else ftE g F key S b.toNat
    else 2
  else S.v.failed
/-- Does Read reach the disk? -/
def readsB (S : ST) (b : Int) : Prop := S.v.failed = 0 ∧ (0 ≤ b ∧ b < S.v.es.length) ∧ ¬ ((S.v.es.getD b.toNat noNE).adr < 0 ∨ (S.v.es.getD b.toNat noNE).kind = 2)
instance (S : ST) (b : Int) : Decidable (readsB S b) := by unfold readsB; infer_instance
def readS20 (g : Geo) (F : List Flt) (key : Int) (S : ST) (b : Int) : ST :=
  if readsB S b then ⟨if ftE g F key S b.toNat = 15 ∨ ftE g F key S b.toNat = 16 then S.v else S.v.fail (ftE g F key S b.toNat), (rdX g F key S b.toNat).1⟩ else S
def readX20 (g : Geo) (F : List Flt) (key : Int) (S : ST) (b : Int) : Ent := if readsB S b ∧ ftE g F key S b.toNat = 0 then ftX g F key S b.toNat else noEnt
/-- What Clean may lead to: the state, how many were moved, the error. -/
def CleanMR (g : Geo) (F : List Flt) (key : Int) (S : ST) (r : ST × Int × Int) : Prop :=
  if S.v.failed = 0 then (if (victimN g S.v).2 = 0 then CleanR g F key (victimN g S.v).1 S r else r = (S, 0, 9)) else r = (S, 0, S.v.failed)
def flushR (g : Geo) (F : List Flt) (key : Int) (S : ST) : ST × Int := if S.v.failed = 0 then flushS g F key S else (S, S.v.failed)
/-- A drive without entries. -/
def freshV (g : Geo) (n : Nat) : DV := ⟨List.replicate n noNE, List.replicate g.bands.toNat ⟨0, 0, 0, 0⟩, 0, 0⟩
/-- Erasing the first j bands. -/
def ersK (g : Geo) (F : List Flt) (key : Int) (d : DC) : Nat → DC × Int
  | 0 => (d, 0)
  | j + 1 => if (ersK g F key d j).2 = 0 then ((tryD (eOne g F key j) (ersK g F key d j).1).1, (tryD (eOne g F key j) (ersK g F key d j).1).2.er) else ersK g F key d j
/-- What New leaves of the disk; its error. -/
def newDD (g : Geo) (F : List Flt) (key : Int) (d : DC) : DC × Int :=
  if (ersK g F key d g.bands.toNat).2 = 0 then ((tryD (fOne g F key) (ersK g F key d g.bands.toNat).1).1, (tryD (fOne g F key) (ersK g F key d g.bands.toNat).1).2.er) else ersK g F key d g.bands.toNat
/-- Is a number of blocks possible? -/
def possB (g : Geo) (n : Int) : Bool := decide (1 ≤ n) && (decide (n ≤ 65536) && decide (n ≤ (g.bands - 3) * bzN g))
end Go.Proofs.YtggkengmlkhdiaaGreat

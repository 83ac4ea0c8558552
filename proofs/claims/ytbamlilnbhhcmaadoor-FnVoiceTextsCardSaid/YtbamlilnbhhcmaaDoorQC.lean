/- Draws: what only turns the source; sentences drawn; texts and edits found. Edits found and made, walked: the reference's. slices.IndexFunc at articles, walked; articles found. slices.IndexFunc at edits, walked; edits found: the program's. slices.Delete at articles, walked: one element goes. slices.Insert at articles, walked: one element comes. A patch applied, walked: the program's. A patch applied, walked: the program's, whole. What the laws compare: articles and edits, walked; and what is too long. A statute drawn, walked: the reference's. A patch drawn for a statute, walked: the reference's. Conflicts, and a patch applied to a statute: the program's, walked; numbers compared. Edits contained, and edits deleted by a test: the library's, walked. slices.DeleteFunc at edits, walked. Empty: this seat needs no shelf here. Empty: this seat needs no shelf here. Patches rebased and merged: the program's, walked; numbers compared. Acts: validity, days in force, statutes of days, ls plain functions; acts in memory. Acts: days in force, the program's; validity, the reference's. Acts: validity, the reference's. Acts: validity, the program's, of valid acts; a base and acts, the reference's. A statute, the reference's test; a base and acts, its test; the statute of a day, the program's. -/
import Derived.Test.YtbamlilnbhhcmaaDoorQB
import Derived.Shelf.Abstract
import Derived.Lib.AppendZerosOnto
import Derived.Lib.Overlaps
import Derived.Laws.Externs
import Derived.Laws.NewBlocks
import Derived.Laws.StructEq
import Derived.Test.YtbamlilnbhhcmaaDoorProg
import Derived.OwnWalk
namespace Go.Proofs.YtbamlilnbhhcmaaDoor
open Go.RowKit Go.Lib

theorem Src.keep {B b k : Nat} {w w' : World} (h : Src B w b k) (hb : w'.heap[b]? = w.heap[b]?) (hB : ∀ i, i < B → w'.heap[i]? = w.heap[i]?) : Src B w' b k := by
  obtain ⟨A, n, c, p, q, h1, h2, h3, h4, h5, h6⟩ := h
  refine ⟨A, n, c, p, q, by rw [hb]; exact h1, h2, h3, h4, h5, h6.1, fun hn => ?_⟩
  obtain ⟨g, off, rfl, hlt, hc⟩ := h6.2 hn
  exact ⟨g, off, rfl, hlt, fun i hi => by
    obtain ⟨x, hx, hxc⟩ := hc i hi
    exact ⟨x, hx, by rw [World.cell?_of_block (hB g hlt)]; exact hxc⟩⟩
theorem Src.lt {B b k : Nat} {w : World} (h : Src B w b k) : b < w.heap.size ∧ B ≤ b := by
  obtain ⟨A, n, c, p, q, h1, h2, _⟩ := h
  exact ⟨(Array.getElem?_eq_some_iff.1 h1).1, h2⟩
theorem Src.below {B b k D : Nat} {w w' : World} (h : Src B w b k) (hb : Below D w w') (hD : b < D) : Src B w' b k :=
  h.keep (hb.block b hD) (fun i hi => hb.block i (by have := h.lt.2; omega))
theorem Src.alloc {B b k : Nat} {w : World} (h : Src B w b k) (o : Obj) : Src B (w.alloc o) b k :=
  h.below ((Below.refl w.heap.size w).alloc (Nat.le_refl _) o) h.lt.1
theorem Src.drewN {B b k : Nat} {w : World} (h : Src B w b k) (n : Nat) : Src B (w.drewN n) b k := h.below (below_drewN (Below.refl w.heap.size w) n) h.lt.1
theorem only_of_below {b : Nat} {w w' : World} (h : Below w.heap.size w w') : Only b w w' := ⟨h.os, h.tape, h.output, h.size, fun i hi _ => h.block i hi⟩
theorem only_below' {b D : Nat} {a w w' : World} (h : Only b a w) (hb : Below D w w') (hD : a.heap.size ≤ D) : Only b a w' :=
  ⟨hb.os.trans h.os, hb.tape.trans h.tape, hb.output.trans h.output, Nat.le_trans h.size hb.size, fun i hi hn => (hb.block i (Nat.lt_of_lt_of_le hi hD)).trans (h.block i hi hn)⟩
theorem only_alloc {b : Nat} {a w : World} (h : Only b a w) (o : Obj) : Only b a (w.alloc o) := only_below' h ((Below.refl w.heap.size w).alloc (Nat.le_refl _) o) h.size
theorem only_grown {b : Nat} {a w w' : World} {row : Option Nat} (h : Only b a w) (hg : w.grownBy w' row) (hr : ∀ j, row = some j → a.heap.size ≤ j) : Only b a w' :=
  ⟨hg.os.trans h.os, hg.tape.trans h.tape, hg.output.trans h.output, Nat.le_trans h.size hg.size, fun i hi hn => (hg.block i (Nat.lt_of_lt_of_le hi h.size) (fun e => by have := hr i e.symm; omega)).trans (h.block i hi hn)⟩
theorem Src.grown {B b k : Nat} {w w' : World} {row : Option Nat} (h : Src B w b k) (hg : w.grownBy w' row) (hr : ∀ j, row = some j → b < j) : Src B w' b k :=
  h.keep (hg.block b h.lt.1 (fun e => by have := hr b e.symm; omega)) (fun i hi => hg.block i (by have := h.lt; omega) (fun e => by have := hr i e.symm; have := h.lt; omega))
theorem own_only {w w' : World} {base b n size : Nat} {e : TypeId} {v : Value} {xs : List Value} (h : w.ownsRow base e size v n xs) (hb : b < base) (ho : Only b w w') : w'.ownsRow base e size v n xs :=
  h.kept ho (by
    rcases hv : v.ownBlock with _ | g
    · exact .inl rfl
    · right
      intro e
      injection e with e
      have := (h.lt g hv).1
      omega)
theorem Row.only {w w' : World} {g b : Nat} {L : List Value} (h : Row w g L) (hg : g < w.heap.size) (hne : g ≠ b) (ho : Only b w w') : Row w' g L where
  cell := fun j u hj => (only_cells ho g j hg hne).1.trans (h.cell j u hj)
  free := fun j hj => (only_cells ho g j hg hne).2.trans (h.free j hj)
theorem OwnL.only {α : Type} {f : α → List Value} {xs : List α} {base b : Nat} {w w' : World} {v : Value} (h : OwnL f xs base w v) (hb : b < base) (ho : Only b w w') : OwnL f xs base w' v := by
  obtain ⟨A, c, rfl, h1, h2, h3⟩ := h
  refine ⟨A, c, rfl, h1, h2, fun h0 => ?_⟩
  obtain ⟨g, e, hg, hlt, hr⟩ := h3 h0
  exact ⟨g, e, hg, Nat.lt_of_lt_of_le hlt ho.size, hr.only hlt (by omega) ho⟩
theorem SlR.only {α : Type} {f : α → List Value} {size B b : Nat} {w w' : World} {v : Value} {xs : List α} (h : SlR (Pl f) size w B v xs) (hb : B ≤ w.heap.size) (hs : B ≤ b) (ho : Only b w w') : SlR (Pl f) size w' B v xs := by
  obtain ⟨A, c, rfl, h1, h2, h3⟩ := h
  refine ⟨A, c, rfl, h1, h2, fun h0 => ?_⟩
  obtain ⟨g, off, e, hlt, hc⟩ := h3 h0
  refine ⟨g, off, e, hlt, fun k x hx => ?_⟩
  obtain ⟨us, hl, hp, hcell⟩ := hc k x hx
  exact ⟨us, hl, hp, fun j u hj => (only_cells ho g _ (by omega) (by omega)).1.trans (hcell j u hj)⟩

/-- A draw of a text of a kind. -/
def TextPost (p : List UInt8 → Prop) (B : Nat) (w : World) (b k : Nat) (e : Ending) (w' : World) : Prop :=
  ∃ l, p l ∧ e = .returned (.string ⟨l.toArray⟩) ∧ Src B w' b k ∧ Only b w w'

end Go.Proofs.YtbamlilnbhhcmaaDoor

namespace Go.Proofs.YtbamlilnbhhcmaaDoor
open Go.RowKit Go.Lib

end Go.Proofs.YtbamlilnbhhcmaaDoor

namespace Go.Proofs.YtbamlilnbhhcmaaDoor
open Go.RowKit Go.Lib

/-- A test on articles: it turns nothing. -/
def PredA (g : Nat) (lb : Array Value) (p : Art → Bool) (w : World) : Prop :=
  ∀ (W : World) (x : Art), Below w.heap.size w W → Calls Tryd.prog g (#[.agg #[.int .i64 x.id, .string x.text]] ++ lb) W (RetB (.bool (p x)) W)
def idxA (p : Art → Bool) (L : List Art) : Int := match L.findIdx? p with | some k => (k : Int) | none => -1
end Go.Proofs.YtbamlilnbhhcmaaDoor

namespace Go.Proofs.YtbamlilnbhhcmaaDoor
open Go.RowKit Go.Lib

/-- A test on edits: it turns nothing. -/
def PredE (g : Nat) (lb : Array Value) (p : Edit → Bool) (w : World) : Prop :=
  ∀ (W : World) (x : Edit), Below w.heap.size w W → Calls Tryd.prog g (#[.agg #[.int .i64 x.kind, .int .i64 x.id, .string x.old, .string x.new]] ++ lb) W (RetB (.bool (p x)) W)
def idxE (p : Edit → Bool) (L : List Edit) : Int := match L.findIdx? p with | some k => (k : Int) | none => -1
/-- There is an edit with a number. -/
def hasE (L : List Edit) (q : Int) : Bool := L.any (fun a => decide (a.id = q))
end Go.Proofs.YtbamlilnbhhcmaaDoor

namespace Go.Proofs.YtbamlilnbhhcmaaDoor
open Go.RowKit Go.Lib

def DelPost {α : Type} (f : α → List Value) (e : TypeId) (size base g n cap : Nat) (R : List α) (w : World) (en : Ending) (w' : World) : Prop :=
  en = .returned (.slice (some ⟨g, 0, none⟩) n cap) ∧ w'.ownsRow base e size (.slice (some ⟨g, 0, none⟩) n cap) n (R.flatMap f) ∧ w.grownBy w' (some g)

end Go.Proofs.YtbamlilnbhhcmaaDoor

namespace Go.Proofs.YtbamlilnbhhcmaaDoor
open Go.RowKit Go.Lib

def InsPost {α : Type} (f : α → List Value) (e : TypeId) (size base g n : Nat) (R : List α) (w : World) (en : Ending) (w' : World) : Prop :=
  ∃ v, en = .returned v ∧ w'.ownsRow base e size v n (R.flatMap f) ∧ v ≠ .slice none 0 0 ∧ Only g w w'

end Go.Proofs.YtbamlilnbhhcmaaDoor

namespace Go.Proofs.YtbamlilnbhhcmaaDoor
open Go.RowKit Go.Lib

/-- The place of a new article. -/
def placeA (q : Int) (R : List Art) : Nat := (R.findIdx? (fun a => decide (q < a.id))).getD R.length
def AppPost (S : List Art) (P : List Edit) (w : World) (e : Ending) (w' : World) : Prop :=
  ∃ v, e = .returned (.tuple #[v, .bool (applyO S P).isSome]) ∧ (∀ R, applyO S P = some R → OwnL artCells R w.heap.size w' v) ∧ (∃ A n c, v = .slice A n c) ∧ Below w.heap.size w w'
end Go.Proofs.YtbamlilnbhhcmaaDoor

namespace Go.Proofs.YtbamlilnbhhcmaaDoor
open Go.RowKit Go.Lib

/-- A statute on its way. -/
structure OnWay (S : List Art) (P : List Edit) (k : Nat) (R : List Art) : Prop where
  bec : Becomes S (P.take k) R
  len : R.length ≤ S.length + k
  fit : ∀ j (h : j < P.length), j < k → (findA S P[j].id).toList = P[j].old.toList
theorem OnWay.start {S : List Art} {P : List Edit} (h : GoodA S) : OnWay S P 0 S := ⟨Becomes.nil h, by omega, fun j _ hj => absurd hj (Nat.not_lt_zero _)⟩
theorem OnWay.step {S R R' : List Art} {P : List Edit} {k : Nat} (h : OnWay S P k R) (hk : k < P.length) (hf : (findA S P[k].id).toList = P[k].old.toList) (hB : Becomes S (P.take k ++ [P[k]]) R') (hl : R'.length ≤ R.length + 1) : OnWay S P (k + 1) R' :=
  ⟨by rw [List.take_succ_eq_append_getElem hk]; exact hB, by have := h.len; omega, fun j hj hjk => by
    by_cases e : j = k
    · subst e; exact hf
    · exact h.fit j hj (by omega)⟩
theorem OnWay.done {S R : List Art} {P : List Edit} (h : OnWay S P P.length R) (hS : GoodA S) (hP : okPatch P = true) : applyO S P = if R.length ≤ 8 then some R else none := by
  refine applyO_of hS hP (fits_iff.2 (fun e he => ?_)) (by have := h.bec; rwa [List.take_length] at this)
  obtain ⟨j, hj, rfl⟩ := List.mem_iff_getElem.1 he
  have := h.fit j hj hj
  rw [← mk_toList (findA S P[j].id), this, mk_toList]
end Go.Proofs.YtbamlilnbhhcmaaDoor

namespace Go.Proofs.YtbamlilnbhhcmaaDoor
open Go.RowKit Go.Lib

theorem ba_ext {a b : ByteArray} (h : a.toList = b.toList) : a = b := by rw [← mk_toList a, ← mk_toList b, h]
theorem edit_ext {x y : Edit} (h1 : x.kind = y.kind) (h2 : x.id = y.id) (h3 : x.old.toList = y.old.toList) (h4 : x.new.toList = y.new.toList) : x = y := by
  obtain ⟨k, i, t, u⟩ := x
  obtain ⟨l, j, t', u'⟩ := y
  simp only at h1 h2 h3 h4
  rw [h1, h2, ba_ext h3, ba_ext h4]
theorem sizesOk_of {p : List Edit} (h : okPatch p = true) : SizesOk p := fun e he => by
  obtain ⟨_, _, h1, h2⟩ := okEdit_facts (((okPatch_iff p).1 h).1 e he)
  have e1 : e.old.toList.length = e.old.size := by rw [ByteArray.toList_eq]; simp
  have e2 : e.new.toList.length = e.new.size := by rw [ByteArray.toList_eq]; simp
  unfold SizeOk maxLen
  omega
theorem textsOk_of {s : List Art} (h : okStat s = true) : ∀ a ∈ s, a.text.size ≤ maxLen := fun a ha => by
  have := (okArt_facts (okStat_mem h ha)).2.2.2
  have e1 : a.text.toList.length = a.text.size := by rw [ByteArray.toList_eq]; simp
  unfold maxLen
  omega
def SameLoop {α : Type} (xs ys : List α) (w : World) (e : Ending) (w' : World) : Prop := ∃ r : Bool, e = .returned (.bool r) ∧ (r = true ↔ xs = ys) ∧ Below w.heap.size w w'
theorem take_same {α : Type} {xs ys : List α} {k : Nat} {x y : α} (hx : xs[k]? = some x) (hy : ys[k]? = some y) (h : xs.take k = ys.take k) (hxy : x = y) : xs.take (k + 1) = ys.take (k + 1) := by
  obtain ⟨h1, h1'⟩ := List.getElem?_eq_some_iff.1 hx
  obtain ⟨h2, h2'⟩ := List.getElem?_eq_some_iff.1 hy
  rw [List.take_succ_eq_append_getElem h1, List.take_succ_eq_append_getElem h2, h, h1', h2', hxy]

end Go.Proofs.YtbamlilnbhhcmaaDoor

namespace Go.Proofs.YtbamlilnbhhcmaaDoor
open Go.RowKit Go.Lib

def StatDraw (B : Nat) (w : World) (b k : Nat) (e : Ending) (w' : World) : Prop :=
  ∃ v L, e = .returned v ∧ OwnL artCells L w.heap.size w' v ∧ okStat L = true ∧ Src B w' b k ∧ Only b w w'

/-- A statute that is being drawn. -/
structure Drawn (L : List Art) (d : Int) : Prop where
  rise : RiseA L
  all : ∀ a ∈ L, 1 ≤ a.id ∧ a.id ≤ d ∧ okSent a.text.toList = true
  d0 : 0 ≤ d
  d1 : d ≤ 2 * L.length
theorem Drawn.nil : Drawn [] 0 := ⟨List.Pairwise.nil, fun a h => (by cases h), by omega, by simp⟩
theorem Drawn.ok {L : List Art} {d : Int} (h : Drawn L d) (h8 : L.length ≤ 8) : okStat L = true := by
  rw [okStat_iff]
  refine ⟨fun a ha => ?_, h.rise, h8⟩
  obtain ⟨h1, h2, h3⟩ := h.all a ha
  have := h.d1
  unfold okArt
  rw [inB_true h1 (by omega), h3]
  rfl
theorem Drawn.last {L : List Art} {a : Art} {d : Int} (h : Drawn (L ++ [a]) d) (h8 : (L ++ [a]).length ≤ 8) : okStat (L ++ [⟨99, a.text⟩]) = true := by
  rw [okStat_iff]
  have hr := h.rise
  have hd := h.d1
  unfold RiseA at hr
  rw [List.pairwise_append] at hr
  refine ⟨fun x hx => ?_, ?_, by simpa using h8⟩
  · rcases List.mem_append.1 hx with hx | hx
    · obtain ⟨h1, h2, h3⟩ := h.all x (List.mem_append_left _ hx)
      unfold okArt
      rw [inB_true h1 (by omega), h3]
      rfl
    · rw [List.mem_singleton] at hx
      subst hx
      obtain ⟨_, _, h3⟩ := h.all a (by simp)
      unfold okArt
      rw [h3]
      rfl
  · unfold RiseA
    rw [List.pairwise_append]
    refine ⟨hr.1, by simp, fun x hx y hy => ?_⟩
    rw [List.mem_singleton] at hy
    subst hy
    obtain ⟨h1, h2, h3⟩ := h.all x (List.mem_append_left _ hx)
    show x.id < 99
    omega
end Go.Proofs.YtbamlilnbhhcmaaDoor

namespace Go.Proofs.YtbamlilnbhhcmaaDoor
open Go.RowKit Go.Lib

def PatchDraw (B : Nat) (w : World) (b k : Nat) (e : Ending) (w' : World) : Prop :=
  ∃ v P, e = .returned v ∧ OwnL editCells P w.heap.size w' v ∧ okPatch P = true ∧ Src B w' b k ∧ Only b w w'

/-- A patch that is being drawn: what is below q. -/
structure DrawnE (P : List Edit) (q : Nat) : Prop where
  rise : RiseE P
  all : ∀ a ∈ P, okEdit a = true ∧ a.id < q
  len : P.length + 1 ≤ q
theorem DrawnE.nil : DrawnE [] 1 := ⟨List.Pairwise.nil, fun a h => (by cases h), by simp⟩
theorem DrawnE.ok {P : List Edit} (h : DrawnE P 17) : okPatch P = true := by
  rw [okPatch_iff]
  exact ⟨fun a ha => (h.all a ha).1, h.rise, by have := h.len; omega⟩
theorem new_at2 {w : World} {o : Obj} {cs : List Value} {T : TypeId} {j : Nat} {u : Value} (h : cs[j]? = some u) : ((w.alloc o).alloc (.cells cs.toArray T)).cell? ((⟨w.heap.size + 1, 0, none⟩ : Addr).add j) = some u := by
  have h := new_at (w := w.alloc o) (T := T) h
  rwa [show (w.alloc o).heap.size = w.heap.size + 1 by simp] at h

end Go.Proofs.YtbamlilnbhhcmaaDoor

namespace Go.Proofs.YtbamlilnbhhcmaaDoor
open Go.RowKit Go.Lib

def sameB (x y : Edit) : Bool := x.kind == y.kind && x.id == y.id && x.old.toList == y.old.toList && x.new.toList == y.new.toList
theorem sameB_iff {x y : Edit} : sameB x y = true ↔ x = y := by
  unfold sameB
  constructor
  · intro h
    simp only [Bool.and_eq_true, beq_iff_eq] at h
    exact edit_ext h.1.1.1 h.1.1.2 h.1.2 h.2
  · rintro rfl
    simp
def confB (Q : List Edit) (a : Edit) : Bool := hasE Q a.id && !(sameB a (editOf Q a.id))
def confL (P Q : List Edit) : List Int := (P.filter (confB Q)).map (·.id)
theorem int_one' (z : Int) {u : Value} (h : u ∈ intCells z) : u.oneCell' = true := by
  unfold intCells at h
  rw [List.mem_singleton] at h
  subst h
  rfl

end Go.Proofs.YtbamlilnbhhcmaaDoor

namespace Go.Proofs.YtbamlilnbhhcmaaDoor
open Go.RowKit Go.Lib

def memB (L : List Edit) (x : Edit) : Bool := L.any (sameB x)
theorem memB_iff {L : List Edit} {x : Edit} : memB L x = true ↔ x ∈ L := by
  unfold memB
  rw [List.any_eq_true]
  constructor
  · rintro ⟨y, hy, h⟩
    rw [sameB_iff.1 h]
    exact hy
  · intro h
    exact ⟨x, h, sameB_iff.2 rfl⟩

/-- A test on edits that holds while a row is rewritten. -/
def PredO (g : Nat) (lb : Array Value) (p : Edit → Bool) (row : Nat) (w : World) : Prop :=
  ∀ (W : World) (x : Edit), Only row w W → Calls Tryd.prog g (#[.agg #[.int .i64 x.kind, .int .i64 x.id, .string x.old, .string x.new]] ++ lb) W (RetB (.bool (p x)) W)

end Go.Proofs.YtbamlilnbhhcmaaDoor

namespace Go.Proofs.YtbamlilnbhhcmaaDoor
open Go.RowKit Go.Lib

/-- A row of edits that is being thinned: its first m are what is kept of the first jj. -/
structure Thin (p : Edit → Bool) (L : List Edit) (jj m : Nat) (M : List Edit) : Prop where
  len : M.length = L.length
  kept : M.take m = (L.take jj).filter (fun x => !p x)
  rest : M.drop jj = L.drop jj
  lt : m < jj
  le : jj ≤ L.length
theorem Thin.start {p : Edit → Bool} {L : List Edit} {k : Nat} (hk : k < L.length) (hp : p L[k] = true) (hn : ∀ j (hj : j < k), p (L[j]'(by omega)) = false) : Thin p L (k + 1) k L where
  len := rfl
  kept := by
    rw [List.take_succ_eq_append_getElem hk, List.filter_append]
    have h1 : (L.take k).filter (fun x => !p x) = L.take k := List.filter_eq_self.2 (fun a ha => by
      obtain ⟨j, hj, rfl⟩ := List.mem_iff_getElem.1 ha
      rw [List.length_take] at hj
      rw [List.getElem_take, hn j (by omega)]
      rfl)
    rw [h1]
    simp [hp]
  rest := rfl
  lt := by omega
  le := hk
theorem Thin.put {p : Edit → Bool} {L M : List Edit} {jj m : Nat} (h : Thin p L jj m M) (hj : jj < L.length) (hp : p L[jj] = false) : Thin p L (jj + 1) (m + 1) (M.set m L[jj]) where
  len := by rw [List.length_set]; exact h.len
  kept := by
    have hl := h.lt
    have hM := h.len
    rw [List.take_succ_eq_append_getElem hj, List.filter_append, ← h.kept, List.take_succ_eq_append_getElem (by rw [List.length_set]; omega), List.getElem_set_self, List.take_set_of_le (Nat.le_refl _)]
    simp [hp]
  rest := by
    have hl := h.lt
    rw [List.drop_set_of_lt (by omega), ← List.drop_drop, ← List.drop_drop, h.rest]
  lt := by have := h.lt; omega
  le := hj
end Go.Proofs.YtbamlilnbhhcmaaDoor

namespace Go.Proofs.YtbamlilnbhhcmaaDoor
end Go.Proofs.YtbamlilnbhhcmaaDoor

namespace Go.Proofs.YtbamlilnbhhcmaaDoor
end Go.Proofs.YtbamlilnbhhcmaaDoor

namespace Go.Proofs.YtbamlilnbhhcmaaDoor
open Go.RowKit Go.Lib

def restL (P Q : List Edit) : List Edit := Q.filter (fun e => !memB P e)
def rebO (P Q : List Edit) : Option (List Edit) := if confL P Q = [] then some (restL P Q) else none

/-- R is what P and Q merge to. -/
structure Merged (P Q R : List Edit) : Prop where
  rise : RiseE R
  mem : ∀ e, e ∈ R ↔ e ∈ P ∨ e ∈ Q
  len : R.length = P.length + (restL P Q).length
theorem noconf {P Q : List Edit} (hQ : RiseE Q) (h : confL P Q = []) {a b : Edit} (ha : a ∈ P) (hb : b ∈ Q) (hi : a.id = b.id) : a = b := by
  have hf : confB Q a = false := by
    rw [Bool.eq_false_iff]
    intro hc
    have : a.id ∈ confL P Q := List.mem_map.2 ⟨a, List.mem_filter.2 ⟨ha, hc⟩, rfl⟩
    rw [h] at this
    cases this
  unfold confB at hf
  have hh : hasE Q a.id = true := List.any_eq_true.2 ⟨b, hb, by simp [hi]⟩
  have he : editOf Q a.id = b := by rw [hi]; exact editOf_mem hQ hb
  rw [hh, he, Bool.true_and, Bool.not_eq_false'] at hf
  exact sameB_iff.1 hf
theorem Merged.of {P Q R : List Edit} (hP : RiseE P) (hQ : RiseE Q) (hc : confL P Q = []) (hp : R.Perm (P ++ restL P Q)) (hs : R.Pairwise (fun a b => a.id ≤ b.id)) : Merged P Q R where
  rise := by
    have hne : (P ++ restL P Q).Pairwise (fun a b => a.id ≠ b.id) := by
      rw [List.pairwise_append]
      refine ⟨hP.imp (fun h => by omega), (hQ.sublist (List.filter_sublist)).imp (fun h => by omega), fun a ha b hb => ?_⟩
      obtain ⟨hbQ, hbn⟩ := List.mem_filter.1 hb
      intro hi
      have := noconf hQ hc ha hbQ hi
      rw [← this, memB_iff.2 ha] at hbn
      cases hbn
    have hne2 : R.Pairwise (fun a b => a.id ≠ b.id) := (hp.pairwise_iff (fun h => fun e => h e.symm)).2 hne
    exact (hs.and hne2).imp (fun ⟨h1, h2⟩ => by omega)
  mem := fun e => by
    rw [hp.mem_iff, List.mem_append]
    constructor
    · rintro (h | h)
      · exact .inl h
      · exact .inr (List.mem_filter.1 h).1
    · rintro (h | h)
      · exact .inl h
      · by_cases hm : e ∈ P
        · exact .inl hm
        · refine .inr (List.mem_filter.2 ⟨h, ?_⟩)
          have : memB P e = false := by rw [Bool.eq_false_iff]; exact fun k => hm (memB_iff.1 k)
          rw [this]
          rfl
  len := by rw [hp.length_eq, List.length_append]

def MergePost (P Q : List Edit) (w : World) (e : Ending) (w' : World) : Prop :=
  ∃ v, ((confL P Q = [] ∧ P.length + (restL P Q).length ≤ 16 ∧ ∃ R, Merged P Q R ∧ e = .returned (.tuple #[v, .bool true]) ∧ OwnL editCells R w.heap.size w' v) ∨
    (¬ (confL P Q = [] ∧ P.length + (restL P Q).length ≤ 16) ∧ e = .returned (.tuple #[v, .bool false]) ∧ v = .slice none 0 0)) ∧ Below w.heap.size w w'

end Go.Proofs.YtbamlilnbhhcmaaDoor

namespace Go.Proofs.YtbamlilnbhhcmaaDoor
open Go.RowKit Go.Lib

structure Acta where
  beg : Int
  fin : Int
  pat : List Edit
def okActa (a : Acta) : Bool := inB a.beg 0 1000 && inB a.fin 0 1000 && decide (a.beg < a.fin) && okPatch a.pat
def begAt (L : List Acta) (k : Nat) : Int := ((L[k]?).map (·.beg)).getD 0
def actAt (L : List Acta) (k : Nat) : Bool := ((L[k]?).map okActa).getD true && (decide (k = 0) || decide (begAt L (k - 1) ≤ begAt L k))
def okActs (L : List Acta) : Bool := allLt L.length (actAt L) && decide (L.length ≤ 8)
theorem actAt_zero {L : List Acta} {k : Nat} {a : Acta} (hk : k = 0) (h : L[k]? = some a) (ho : okActa a = true) : actAt L k = true := by
  subst hk
  unfold actAt
  rw [h]
  simp [ho]
theorem actAt_succ {L : List Acta} {m : Nat} {d a : Acta} (hd : L[m]? = some d) (h : L[m + 1]? = some a) (ho : okActa a = true) : actAt L (m + 1) = decide (d.beg ≤ a.beg) := by
  unfold actAt begAt
  rw [h]
  simp [ho, hd]
theorem okActs_at {L : List Acta} (h : okActs L = true) {k : Nat} {a : Acta} (hk : L[k]? = some a) : okActa a = true := by
  unfold okActs at h
  rw [Bool.and_eq_true, allLt_true] at h
  have := h.1 k (List.getElem?_eq_some_iff.1 hk).1
  unfold actAt at this
  rw [hk, Bool.and_eq_true] at this
  exact this.1
theorem okActs_step {L : List Acta} (h : okActs L = true) {m : Nat} {d a : Acta} (hd : L[m]? = some d) (ha : L[m + 1]? = some a) : d.beg ≤ a.beg := by
  have ho := okActs_at h ha
  unfold okActs at h
  rw [Bool.and_eq_true, allLt_true] at h
  have := h.1 (m + 1) (List.getElem?_eq_some_iff.1 ha).1
  rw [actAt_succ hd ha ho] at this
  exact of_decide_eq_true this
structure ActaOk (a : Acta) : Prop where
  b0 : 0 ≤ a.beg
  b1 : a.beg ≤ 1000
  f0 : 0 ≤ a.fin
  f1 : a.fin ≤ 1000
  lt : a.beg < a.fin
  pat : okPatch a.pat = true
theorem okActa_iff {a : Acta} : okActa a = true ↔ ActaOk a := by
  unfold okActa
  rw [Bool.and_eq_true, Bool.and_eq_true, Bool.and_eq_true, inB_iff, inB_iff]
  constructor
  · rintro ⟨⟨⟨⟨a1, a2⟩, a3, a4⟩, a5⟩, a6⟩
    exact ⟨a1, a2, a3, a4, of_decide_eq_true a5, a6⟩
  · rintro ⟨a1, a2, a3, a4, a5, a6⟩
    exact ⟨⟨⟨⟨a1, a2⟩, a3, a4⟩, decide_eq_true a5⟩, a6⟩

def inF (day : Int) (a : Acta) : Bool := decide (a.beg ≤ day) && decide (day < a.fin)
/-- The first k acts' numbers that are in force on a day. -/
def forceI (L : List Acta) (day : Int) : List Int := ((List.range L.length).filter (fun k => ((L[k]?).map (inF day)).getD false)).map (fun n : Nat => (n : Int))
def forceK (L : List Acta) (day : Int) (k : Nat) : List Int := ((List.range k).filter (fun k => ((L[k]?).map (inF day)).getD false)).map (fun n : Nat => (n : Int))
/-- One step to the statute of a day. -/
def stepO (L : List Acta) (o : Option (List Art)) (i : Int) : Option (List Art) := o.bind (fun S => applyO S (((L[i.toNat]?).map (·.pat)).getD []))
def onK (base : List Art) (L : List Acta) (day : Int) (k : Nat) : Option (List Art) := ((forceI L day).take k).foldl (stepO L) (some base)
/-- The statute of a day. -/
def onO (base : List Art) (L : List Acta) (day : Int) : Option (List Art) := (forceI L day).foldl (stepO L) (some base)
/-- An act with the value of its patch. -/
structure VAct where
  a : Acta
  v : Value
def vCells (x : VAct) : List Value := [.int .i64 x.a.beg, .int .i64 x.a.fin, x.v]
def Acts (w : World) (B : Nat) (v : Value) (ls : List Acta) : Prop :=
  ∃ L : List VAct, L.map (·.a) = ls ∧ SlR (Pl vCells) 3 w B v L ∧ ∀ x ∈ L, Edits w B x.v x.a.pat
theorem Acts.on {w w' : World} {B B' : Nat} {v : Value} {ls : List Acta} (h : Acts w B v ls) (hb : Below B w w') (hB : B ≤ B') : Acts w' B' v ls := by
  obtain ⟨L, h1, h2, h3⟩ := h
  exact ⟨L, h1, SlR.on h2 (Pl.stays _) hb hB, fun x hx => SlR.on (h3 x hx) (Pl.stays _) hb hB⟩
end Go.Proofs.YtbamlilnbhhcmaaDoor

namespace Go.Proofs.YtbamlilnbhhcmaaDoor
open Go.RowKit Go.Lib

theorem Edits.aft {w : World} {B : Nat} {v : Value} {es : List Edit} (h : Edits w B v es) (hB : B ≤ w.heap.size) : ∀ y : Aft w, Edits y.val y.val.heap.size v es := SlR.aft h (Pl.stays _) hB
theorem Acts.aft {w : World} {B : Nat} {v : Value} {ls : List Acta} (h : Acts w B v ls) (hB : B ≤ w.heap.size) : ∀ y : Aft w, Acts y.val y.val.heap.size v ls := fun y => h.on (y.ok.mono hB) (Nat.le_trans hB y.ok.size)
end Go.Proofs.YtbamlilnbhhcmaaDoor

namespace Go.Proofs.YtbamlilnbhhcmaaDoor
open Go.RowKit Go.Lib

def ActsSz (ls : List Acta) : Prop := ∀ a ∈ ls, SizesOk a.pat
theorem ActsSz.of {ls : List Acta} (h : okActs ls = true) : ActsSz ls := fun a ha => by
  obtain ⟨k, hk⟩ := List.getElem?_of_mem ha
  exact sizesOk_of (okActa_iff.1 (okActs_at h hk)).pat

end Go.Proofs.YtbamlilnbhhcmaaDoor

namespace Go.Proofs.YtbamlilnbhhcmaaDoor
open Go.RowKit Go.Lib

end Go.Proofs.YtbamlilnbhhcmaaDoor

namespace Go.Proofs.YtbamlilnbhhcmaaDoor
open Go.RowKit Go.Lib

def OnPost (S : List Art) (ls : List Acta) (day : Int) (w : World) (e : Ending) (w' : World) : Prop :=
  ∃ v, e = .returned (.tuple #[v, .bool (onO S ls day).isSome]) ∧ (∀ R, onO S ls day = some R → OwnL artCells R w.heap.size w' v ∧ okStat R = true) ∧ (∃ A n c, v = .slice A n c) ∧ Below w.heap.size w w'
end Go.Proofs.YtbamlilnbhhcmaaDoor

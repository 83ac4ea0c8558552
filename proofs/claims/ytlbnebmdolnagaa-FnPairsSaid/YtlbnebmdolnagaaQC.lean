/- Draws: what only turns the source; sentences drawn; texts and edits found. Edits found and made, walked: the reference's. slices.IndexFunc at articles, walked; articles found. slices.IndexFunc at edits, walked; edits found: the program's. slices.Delete at articles, walked: one element goes. slices.Insert at articles, walked: one element comes. A patch applied, walked: the program's. A patch applied, walked: the program's, whole. What the laws compare: articles and edits, walked; and what is too long. A statute drawn, walked: the reference's. A patch drawn for a statute, walked: the reference's. Conflicts, and a patch applied to a statute: the program's, walked; numbers compared. Edits contained, and edits deleted by a test: the library's, walked. slices.DeleteFunc at edits, walked. Empty: this seat needs no shelf here. Empty: this seat needs no shelf here. Patches rebased and merged: the program's, walked; numbers compared. Acts: validity, days in force, statutes of days, ls plain functions; acts in memory. Acts: days in force, the program's; validity, the reference's. Acts: validity, the reference's. Acts: validity, the program's, of valid acts; a base and acts, the reference's. A statute, the reference's test; a base and acts, its test; the statute of a day, the program's. -/
import Derived.Test.YtlbnebmdolnagaaQB
import Derived.Shelf.Abstract
import Derived.Lib.AppendZerosOnto
import Derived.Lib.Overlaps
import Derived.Laws.Externs
import Derived.Laws.NewBlocks
import Derived.Laws.StructEq
import Derived.Lib.SlicesCompact
import Derived.Test.YtlbnebmdolnagaaProg
import Derived.OwnWalk
namespace Go.Proofs.Ytlbnebmdolnagaa
open Go.RowKit Go.Lib

theorem Src.keep {B b k : Nat} {w w' : World} (h : Src B w b k) (hb : w'.heap[b]? = w.heap[b]?) (hB : ∀ i, i < B → w'.heap[i]? = w.heap[i]?) : Src B w' b k := by
  obtain ⟨A, n, c, p, q, h1, h2, h3, h4, h5, h6⟩ := h
  refine ⟨A, n, c, p, q, by rw [hb]; exact h1, h2, h3, h4, h5, h6.1, fun hn => ?_⟩
  obtain ⟨g, off, rfl, hlt, hc⟩ := h6.2 hn
  exact ⟨g, off, rfl, hlt, fun i hi => by
    obtain ⟨x, hx, hxc⟩ := hc i hi
    exact ⟨x, hx, by rw [World.cell?_of_block (hB g hlt)]; exact hxc⟩⟩
theorem Src.lt {B b k : Nat} {w : World} (h : Src B w b k) : b < w.heap.size ∧ B ≤ b := by
  obtain ⟨A, n, c, p, q, h1, h2, _⟩ := h
  exact ⟨(Array.getElem?_eq_some_iff.1 h1).1, h2⟩
theorem Src.below {B b k D : Nat} {w w' : World} (h : Src B w b k) (hb : Below D w w') (hD : b < D) : Src B w' b k :=
  h.keep (hb.block b hD) (fun i hi => hb.block i (by have := h.lt.2; omega))
theorem Src.alloc {B b k : Nat} {w : World} (h : Src B w b k) (o : Obj) : Src B (w.alloc o) b k :=
  h.below ((Below.refl w.heap.size w).alloc (Nat.le_refl _) o) h.lt.1
theorem Src.drewN {B b k : Nat} {w : World} (h : Src B w b k) (n : Nat) : Src B (w.drewN n) b k := h.below (below_drewN (Below.refl w.heap.size w) n) h.lt.1
theorem only_of_below {b : Nat} {w w' : World} (h : Below w.heap.size w w') : Only b w w' := ⟨h.os, h.tape, h.output, h.size, fun i hi _ => h.block i hi⟩
theorem only_below' {b D : Nat} {a w w' : World} (h : Only b a w) (hb : Below D w w') (hD : a.heap.size ≤ D) : Only b a w' :=
  ⟨hb.os.trans h.os, hb.tape.trans h.tape, hb.output.trans h.output, Nat.le_trans h.size hb.size, fun i hi hn => (hb.block i (Nat.lt_of_lt_of_le hi hD)).trans (h.block i hi hn)⟩
theorem only_alloc {b : Nat} {a w : World} (h : Only b a w) (o : Obj) : Only b a (w.alloc o) := only_below' h ((Below.refl w.heap.size w).alloc (Nat.le_refl _) o) h.size
theorem only_grown {b : Nat} {a w w' : World} {row : Option Nat} (h : Only b a w) (hg : w.grownBy w' row) (hr : ∀ j, row = some j → a.heap.size ≤ j) : Only b a w' :=
  ⟨hg.os.trans h.os, hg.tape.trans h.tape, hg.output.trans h.output, Nat.le_trans h.size hg.size, fun i hi hn => (hg.block i (Nat.lt_of_lt_of_le hi h.size) (fun e => by have := hr i e.symm; omega)).trans (h.block i hi hn)⟩
theorem Src.grown {B b k : Nat} {w w' : World} {row : Option Nat} (h : Src B w b k) (hg : w.grownBy w' row) (hr : ∀ j, row = some j → b < j) : Src B w' b k :=
  h.keep (hg.block b h.lt.1 (fun e => by have := hr b e.symm; omega)) (fun i hi => hg.block i (by have := h.lt; omega) (fun e => by have := hr i e.symm; have := h.lt; omega))
theorem own_only {w w' : World} {base b n size : Nat} {e : TypeId} {v : Value} {xs : List Value} (h : w.ownsRow base e size v n xs) (hb : b < base) (ho : Only b w w') : w'.ownsRow base e size v n xs :=
  h.kept ho (by
    rcases hv : v.ownBlock with _ | g
    · exact .inl rfl
    · right
      intro e
      injection e with e
      have := (h.lt g hv).1
      omega)
theorem Row.only {w w' : World} {g b : Nat} {L : List Value} (h : Row w g L) (hg : g < w.heap.size) (hne : g ≠ b) (ho : Only b w w') : Row w' g L where
  cell := fun j u hj => (only_cells ho g j hg hne).1.trans (h.cell j u hj)
  free := fun j hj => (only_cells ho g j hg hne).2.trans (h.free j hj)
theorem OwnL.only {α : Type} {f : α → List Value} {xs : List α} {base b : Nat} {w w' : World} {v : Value} (h : OwnL f xs base w v) (hb : b < base) (ho : Only b w w') : OwnL f xs base w' v := by
  obtain ⟨A, c, rfl, h1, h2, h3⟩ := h
  refine ⟨A, c, rfl, h1, h2, fun h0 => ?_⟩
  obtain ⟨g, e, hg, hlt, hr⟩ := h3 h0
  exact ⟨g, e, hg, Nat.lt_of_lt_of_le hlt ho.size, hr.only hlt (by omega) ho⟩
theorem SlR.only {α : Type} {f : α → List Value} {size B b : Nat} {w w' : World} {v : Value} {xs : List α} (h : SlR (Pl f) size w B v xs) (hb : B ≤ w.heap.size) (hs : B ≤ b) (ho : Only b w w') : SlR (Pl f) size w' B v xs := by
  obtain ⟨A, c, rfl, h1, h2, h3⟩ := h
  refine ⟨A, c, rfl, h1, h2, fun h0 => ?_⟩
  obtain ⟨g, off, e, hlt, hc⟩ := h3 h0
  refine ⟨g, off, e, hlt, fun k x hx => ?_⟩
  obtain ⟨us, hl, hp, hcell⟩ := hc k x hx
  exact ⟨us, hl, hp, fun j u hj => (only_cells ho g _ (by omega) (by omega)).1.trans (hcell j u hj)⟩

/-- A draw of a text of a kind. -/
def TextPost (p : List UInt8 → Prop) (B : Nat) (w : World) (b k : Nat) (e : Ending) (w' : World) : Prop :=
  ∃ l, p l ∧ e = .returned (.string ⟨l.toArray⟩) ∧ Src B w' b k ∧ Only b w w'

end Go.Proofs.Ytlbnebmdolnagaa

namespace Go.Proofs.Ytlbnebmdolnagaa
open Go.RowKit Go.Lib

theorem edit_eta (e : Edit) : Value.agg #[.int .i64 e.kind, .int .i64 e.id, .string e.old, .string e.new] = editV e := rfl

theorem stepE_1 {i : Int} {o n : ByteArray} (h : o.toList = n.toList) : stepE i o n = noEdit := if_pos h
theorem stepE_2 {i : Int} {o n : ByteArray} (h : o.toList ≠ n.toList) (h2 : o.toList = []) : stepE i o n = ⟨1, i, o, n⟩ := by unfold stepE; rw [if_neg h, if_pos h2]
theorem stepE_3 {i : Int} {o n : ByteArray} (h : o.toList ≠ n.toList) (h2 : o.toList ≠ []) (h3 : n.toList = []) : stepE i o n = ⟨2, i, o, n⟩ := by unfold stepE; rw [if_neg h, if_neg h2, if_pos h3]
theorem stepE_4 {i : Int} {o n : ByteArray} (h : o.toList ≠ n.toList) (h2 : o.toList ≠ []) (h3 : n.toList ≠ []) : stepE i o n = ⟨3, i, o, n⟩ := by unfold stepE; rw [if_neg h, if_neg h2, if_neg h3]

end Go.Proofs.Ytlbnebmdolnagaa

namespace Go.Proofs.Ytlbnebmdolnagaa
open Go.RowKit Go.Lib

/-- A test on articles: it turns nothing. -/
def PredA (g : Nat) (lb : Array Value) (p : Art → Bool) (w : World) : Prop :=
  ∀ (W : World) (x : Art), Below w.heap.size w W → Calls Try.prog g (#[.agg #[.int .i64 x.id, .string x.text]] ++ lb) W (RetB (.bool (p x)) W)
def idxA (p : Art → Bool) (L : List Art) : Int := match L.findIdx? p with | some k => (k : Int) | none => -1
theorem idxA_hit {p : Art → Bool} {L : List Art} {k : Nat} (hk : k < L.length) (h : p L[k] = true) (hn : ∀ j (hj : j < k), p (L[j]'(by omega)) = false) : idxA p L = k := by
  have : L.findIdx? p = some k := List.findIdx?_eq_some_iff_getElem.2 ⟨hk, h, fun j hj => by rw [hn j hj]; simp⟩
  unfold idxA
  rw [this]
theorem idxA_none {p : Art → Bool} {L : List Art} (hn : ∀ j (hj : j < L.length), p L[j] = false) : idxA p L = -1 := by
  have : L.findIdx? p = none := List.findIdx?_eq_none_iff.2 (fun x hx => by
    obtain ⟨j, hj, rfl⟩ := List.mem_iff_getElem.1 hx
    exact hn j hj)
  unfold idxA
  rw [this]

theorem idx_cases (p : Art → Bool) (L : List Art) : (∃ k, ∃ h : k < L.length, idxA p L = k ∧ p L[k] = true ∧ ∀ j (hj : j < k), p (L[j]'(by omega)) = false) ∨ (idxA p L = -1 ∧ ∀ a ∈ L, p a = false) := by
  rcases hf : L.findIdx? p with _ | k
  · refine .inr ⟨by unfold idxA; rw [hf], fun a ha => ?_⟩
    have := List.findIdx?_eq_none_iff.1 hf a ha
    simpa using this
  · obtain ⟨h1, h2, h3⟩ := List.findIdx?_eq_some_iff_getElem.1 hf
    exact .inl ⟨k, h1, by unfold idxA; rw [hf], h2, fun j hj => by simpa using h3 j hj⟩
theorem find_first : ∀ {L : List Art} {q : Int} {k : Nat} (h : k < L.length), L[k].id = q → (∀ j (hj : j < k), (L[j]'(by omega)).id ≠ q) → findA L q = L[k].text
  | a :: L, q, 0, _, hi, _ => by
    show findA (a :: L) q = a.text
    rw [findA, if_pos (show a.id = q from hi)]
  | a :: L, q, k + 1, h, hi, hn => by
    have h0 : a.id ≠ q := hn 0 (by omega)
    show findA (a :: L) q = _
    rw [findA, if_neg h0, find_first (k := k) (by simpa using h) hi (fun j hj => hn (j + 1) (by omega))]
    rfl

end Go.Proofs.Ytlbnebmdolnagaa

namespace Go.Proofs.Ytlbnebmdolnagaa
open Go.RowKit Go.Lib

/-- A test on edits: it turns nothing. -/
def PredE (g : Nat) (lb : Array Value) (p : Edit → Bool) (w : World) : Prop :=
  ∀ (W : World) (x : Edit), Below w.heap.size w W → Calls Try.prog g (#[.agg #[.int .i64 x.kind, .int .i64 x.id, .string x.old, .string x.new]] ++ lb) W (RetB (.bool (p x)) W)
def idxE (p : Edit → Bool) (L : List Edit) : Int := match L.findIdx? p with | some k => (k : Int) | none => -1
theorem idxE_hit {p : Edit → Bool} {L : List Edit} {k : Nat} (hk : k < L.length) (h : p L[k] = true) (hn : ∀ j (hj : j < k), p (L[j]'(by omega)) = false) : idxE p L = k := by
  have : L.findIdx? p = some k := List.findIdx?_eq_some_iff_getElem.2 ⟨hk, h, fun j hj => by rw [hn j hj]; simp⟩
  unfold idxE
  rw [this]
theorem idxE_none {p : Edit → Bool} {L : List Edit} (hn : ∀ j (hj : j < L.length), p L[j] = false) : idxE p L = -1 := by
  have : L.findIdx? p = none := List.findIdx?_eq_none_iff.2 (fun x hx => by
    obtain ⟨j, hj, rfl⟩ := List.mem_iff_getElem.1 hx
    exact hn j hj)
  unfold idxE
  rw [this]
theorem idxE_cases (p : Edit → Bool) (L : List Edit) : (∃ k, ∃ h : k < L.length, idxE p L = k ∧ p L[k] = true ∧ ∀ j (hj : j < k), p (L[j]'(by omega)) = false) ∨ (idxE p L = -1 ∧ ∀ a ∈ L, p a = false) := by
  rcases hf : L.findIdx? p with _ | k
  · refine .inr ⟨by unfold idxE; rw [hf], fun a ha => ?_⟩
    have := List.findIdx?_eq_none_iff.1 hf a ha
    simpa using this
  · obtain ⟨h1, h2, h3⟩ := List.findIdx?_eq_some_iff_getElem.1 hf
    exact .inl ⟨k, h1, by unfold idxE; rw [hf], h2, fun j hj => by simpa using h3 j hj⟩
theorem edit_first : ∀ {L : List Edit} {q : Int} {k : Nat} (h : k < L.length), L[k].id = q → (∀ j (hj : j < k), (L[j]'(by omega)).id ≠ q) → editOf L q = L[k]
  | a :: L, q, 0, _, hi, _ => by
    show editOf (a :: L) q = a
    rw [editOf, if_pos (show a.id = q from hi)]
  | a :: L, q, k + 1, h, hi, hn => by
    have h0 : a.id ≠ q := hn 0 (by omega)
    show editOf (a :: L) q = _
    rw [editOf, if_neg h0, edit_first (k := k) (by simpa using h) hi (fun j hj => hn (j + 1) (by omega))]
    rfl

/-- There is an edit with a number. -/
def hasE (L : List Edit) (q : Int) : Bool := L.any (fun a => decide (a.id = q))
end Go.Proofs.Ytlbnebmdolnagaa

namespace Go.Proofs.Ytlbnebmdolnagaa
open Go.RowKit Go.Lib

def DelPost {α : Type} (f : α → List Value) (e : TypeId) (size base g n cap : Nat) (R : List α) (w : World) (en : Ending) (w' : World) : Prop :=
  en = .returned (.slice (some ⟨g, 0, none⟩) n cap) ∧ w'.ownsRow base e size (.slice (some ⟨g, 0, none⟩) n cap) n (R.flatMap f) ∧ w.grownBy w' (some g)

end Go.Proofs.Ytlbnebmdolnagaa

namespace Go.Proofs.Ytlbnebmdolnagaa
open Go.RowKit Go.Lib

theorem cells_ins_new {α : Type} (f : α → List Value) {k : Nat} (hf : ∀ x, (f x).length = k) (L : List α) (a : α) (Z : List Value) (i : Nat) (hi : i ≤ L.length) :
    (splice (splice ((L.take i).flatMap f ++ Z) (i * k) (f a)) ((i + 1) * k) ((L.drop i).flatMap f)).take ((L.length + 1) * k) = (L.take i ++ a :: L.drop i).flatMap f := by
  have h1 : ((L.take i).flatMap f).length = i * k := by rw [flat_len f hf, List.length_take, Nat.min_eq_left hi]
  have h2 : splice ((L.take i).flatMap f ++ Z) (i * k) (f a) = ((L.take i).flatMap f ++ f a) ++ ((L.take i).flatMap f ++ Z).drop (i * k + (f a).length) := by
    unfold splice
    rw [List.take_left' h1, List.append_assoc]
  have h3 : ((L.take i).flatMap f ++ f a).length = (i + 1) * k := by rw [List.length_append, h1, hf, Nat.succ_mul]
  have h4 : ((L.take i).flatMap f ++ f a ++ (L.drop i).flatMap f).length = (L.length + 1) * k := by
    rw [List.length_append, h3, flat_len f hf, List.length_drop, ← Nat.add_mul]
    congr 1
    omega
  rw [h2]
  unfold splice
  rw [List.take_left' h3, ← List.append_assoc, List.take_left' h4]
  simp
theorem cells_ins_room {α : Type} (f : α → List Value) {k : Nat} (hf : ∀ x, (f x).length = k) (L : List α) (a : α) (T : List Value) (i : Nat) (hi : i ≤ L.length) (hT : k ≤ T.length) :
    (splice (splice (L.flatMap f ++ T) ((i + 1) * k) ((L.drop i).flatMap f)) (i * k) (f a)).take ((L.length + 1) * k) = (L.take i ++ a :: L.drop i).flatMap f := by
  have h1 : ((L.take i).flatMap f).length = i * k := by rw [flat_len f hf, List.length_take, Nat.min_eq_left hi]
  have hd : ((L.drop i).flatMap f).length = (L.length - i) * k := by rw [flat_len f hf, List.length_drop]
  have hfl : (L.flatMap f ++ T).length = L.length * k + T.length := by rw [List.length_append, flat_len f hf]
  have hk : (i + 1) * k = i * k + k := Nat.succ_mul _ _
  have hs : i * k + (L.length - i) * k = L.length * k := by rw [← Nat.add_mul]; congr 1; omega
  obtain ⟨C, hC⟩ : ∃ C, C = splice (L.flatMap f ++ T) ((i + 1) * k) ((L.drop i).flatMap f) := ⟨_, rfl⟩
  have hCt : C.take (i * k) = (L.take i).flatMap f := by
    rw [hC]
    unfold splice
    rw [List.take_append_of_le_length (by rw [List.length_take]; omega), List.take_take, Nat.min_eq_left (by omega), flat_split f L i, List.append_assoc, List.take_left' h1]
  have hCd : C.drop (i * k + k) = (L.drop i).flatMap f ++ (L.flatMap f ++ T).drop ((i + 1) * k + ((L.drop i).flatMap f).length) := by
    rw [hC]
    unfold splice
    rw [List.drop_left' (by rw [List.length_take]; omega)]
  rw [← hC]
  unfold splice
  rw [hCt, hf, hCd]
  have h4 : ((L.take i).flatMap f ++ f a ++ (L.drop i).flatMap f).length = (L.length + 1) * k := by
    rw [List.length_append, List.length_append, h1, hf, hd, Nat.succ_mul]
    omega
  rw [← List.append_assoc, ← List.append_assoc, List.take_left' h4]
  simp

def InsPost {α : Type} (f : α → List Value) (e : TypeId) (size base g n : Nat) (R : List α) (w : World) (en : Ending) (w' : World) : Prop :=
  ∃ v, en = .returned v ∧ w'.ownsRow base e size v n (R.flatMap f) ∧ v ≠ .slice none 0 0 ∧ Only g w w'

end Go.Proofs.Ytlbnebmdolnagaa

namespace Go.Proofs.Ytlbnebmdolnagaa
open Go.RowKit Go.Lib

theorem rise_take {P : List Edit} {k : Nat} {e : Edit} (hP : RiseE P) (hk : P[k]? = some e) : P.take (k + 1) = P.take k ++ [e] ∧ RiseE (P.take k ++ [e]) := by
  obtain ⟨h1, h2⟩ := List.getElem?_eq_some_iff.1 hk
  have e1 : P.take (k + 1) = P.take k ++ [e] := by rw [List.take_succ_eq_append_getElem h1, h2]
  refine ⟨e1, ?_⟩
  rw [← e1]
  exact hP.sublist (List.take_sublist _ _)
theorem find_now {S R : List Art} {P : List Edit} {k : Nat} {e : Edit} (hP : RiseE P) (hk : P[k]? = some e) (hB : Becomes S (P.take k) R) : findA R e.id = findA S e.id := by
  rw [hB.find, target_old]
  intro a ha
  have h := (rise_take hP hk).2
  unfold RiseE at h
  rw [List.pairwise_append] at h
  have := h.2.2 a ha e (by simp)
  omega
theorem has_id {S R : List Art} {P : List Edit} {k : Nat} {e : Edit} (hP : RiseE P) (hk : P[k]? = some e) (hB : Becomes S (P.take k) R) (hf : (findA S e.id).toList = e.old.toList) (ho : e.old.toList ≠ []) : ∃ j, ∃ h : j < R.length, idxA (fun a => decide (a.id = e.id)) R = j ∧ R[j].id = e.id := by
  rcases idx_cases (fun a => decide (a.id = e.id)) R with ⟨j, hj, h1, h2, _⟩ | ⟨_, hn⟩
  · exact ⟨j, hj, h1, of_decide_eq_true h2⟩
  · exfalso
    have h1 := find_now hP hk hB
    rw [findA_none (fun a ha => of_decide_eq_false (hn a ha))] at h1
    apply ho
    rw [← hf, ← h1, ByteArray.toList_eq]
theorem no_id {S R : List Art} {P : List Edit} {k : Nat} {e : Edit} (hP : RiseE P) (hk : P[k]? = some e) (hB : Becomes S (P.take k) R) (hf : (findA S e.id).toList = e.old.toList) (ho : e.old.toList = []) : ∀ a ∈ R, a.id ≠ e.id := by
  intro a ha hi
  have h1 := find_now hP hk hB
  rw [← hi, findA_mem hB.good.rise ha, hi] at h1
  have := (okArt_facts (hB.good.all a ha)).2.2.1
  rw [h1, hf, ho] at this
  revert this
  decide
/-- The place of a new article. -/
def placeA (q : Int) (R : List Art) : Nat := (R.findIdx? (fun a => decide (q < a.id))).getD R.length
theorem place_le (q : Int) (R : List Art) : placeA q R ≤ R.length := by
  unfold placeA
  rcases hf : R.findIdx? (fun a => decide (q < a.id)) with _ | k
  · rw [hf]; exact Nat.le_refl _
  · obtain ⟨h1, _⟩ := List.findIdx?_eq_some_iff_getElem.1 hf
    rw [hf]; exact Nat.le_of_lt h1
theorem place_idx (q : Int) (R : List Art) : (idxA (fun a => decide (q < a.id)) R < 0 ∧ placeA q R = R.length) ∨ (idxA (fun a => decide (q < a.id)) R = (placeA q R : Int)) := by
  unfold placeA idxA
  rcases hf : R.findIdx? (fun a => decide (q < a.id)) with _ | k
  · left; rw [hf]; exact ⟨by simp, rfl⟩
  · right; rw [hf]; rfl
theorem place_below {q : Int} {R : List Art} (hn : ∀ a ∈ R, a.id ≠ q) : ∀ c ∈ R.take (placeA q R), c.id < q := by
  intro c hc
  obtain ⟨j, hj, rfl⟩ := List.mem_iff_getElem.1 hc
  rw [List.length_take] at hj
  rw [List.getElem_take]
  have hjl : j < R.length := by omega
  have h1 := hn R[j] (List.getElem_mem hjl)
  have h2 : ¬ q < R[j].id := by
    unfold placeA at hj
    rcases hf : R.findIdx? (fun a => decide (q < a.id)) with _ | k
    · have := List.findIdx?_eq_none_iff.1 hf R[j] (List.getElem_mem hjl)
      simpa using this
    · obtain ⟨_, _, h3⟩ := List.findIdx?_eq_some_iff_getElem.1 hf
      rw [hf] at hj
      have := h3 j (by simp at hj; omega)
      simpa using this
  omega
theorem place_above {q : Int} {R : List Art} (hr : RiseA R) : ∀ c ∈ R.drop (placeA q R), q < c.id := by
  intro c hc
  unfold placeA at hc
  rcases hf : R.findIdx? (fun a => decide (q < a.id)) with _ | k
  · rw [hf, Option.getD_none, List.drop_length] at hc
    cases hc
  · obtain ⟨h1, h2, _⟩ := List.findIdx?_eq_some_iff_getElem.1 hf
    rw [hf, Option.getD_some] at hc
    obtain ⟨j, hj, rfl⟩ := List.mem_iff_getElem.1 hc
    rw [List.length_drop] at hj
    rw [List.getElem_drop]
    have h2 : q < R[k].id := of_decide_eq_true h2
    by_cases hj0 : j = 0
    · subst hj0; exact h2
    · have := (List.pairwise_iff_getElem.1 hr) k (k + j) h1 (by omega) (by omega)
      omega

def AppPost (S : List Art) (P : List Edit) (w : World) (e : Ending) (w' : World) : Prop :=
  ∃ v, e = .returned (.tuple #[v, .bool (applyO S P).isSome]) ∧ (∀ R, applyO S P = some R → OwnL artCells R w.heap.size w' v) ∧ (∃ A n c, v = .slice A n c) ∧ Below w.heap.size w w'
end Go.Proofs.Ytlbnebmdolnagaa

namespace Go.Proofs.Ytlbnebmdolnagaa
open Go.RowKit Go.Lib

/-- A statute on its way. -/
structure OnWay (S : List Art) (P : List Edit) (k : Nat) (R : List Art) : Prop where
  bec : Becomes S (P.take k) R
  len : R.length ≤ S.length + k
  fit : ∀ j (h : j < P.length), j < k → (findA S P[j].id).toList = P[j].old.toList
theorem OnWay.start {S : List Art} {P : List Edit} (h : GoodA S) : OnWay S P 0 S := ⟨Becomes.nil h, by omega, fun j _ hj => absurd hj (Nat.not_lt_zero _)⟩
theorem OnWay.step {S R R' : List Art} {P : List Edit} {k : Nat} (h : OnWay S P k R) (hk : k < P.length) (hf : (findA S P[k].id).toList = P[k].old.toList) (hB : Becomes S (P.take k ++ [P[k]]) R') (hl : R'.length ≤ R.length + 1) : OnWay S P (k + 1) R' :=
  ⟨by rw [List.take_succ_eq_append_getElem hk]; exact hB, by have := h.len; omega, fun j hj hjk => by
    by_cases e : j = k
    · subst e; exact hf
    · exact h.fit j hj (by omega)⟩
theorem OnWay.done {S R : List Art} {P : List Edit} (h : OnWay S P P.length R) (hS : GoodA S) (hP : okPatch P = true) : applyO S P = if R.length ≤ 8 then some R else none := by
  refine applyO_of hS hP (fits_iff.2 (fun e he => ?_)) (by have := h.bec; rwa [List.take_length] at this)
  obtain ⟨j, hj, rfl⟩ := List.mem_iff_getElem.1 he
  have := h.fit j hj hj
  rw [← mk_toList (findA S P[j].id), this, mk_toList]
theorem fits_bad {S : List Art} {P : List Edit} {k : Nat} (hk : k < P.length) (h : (findA S P[k].id).toList ≠ P[k].old.toList) : fits S P = false := by
  rw [Bool.eq_false_iff]
  intro hf
  exact h (by rw [fits_iff.1 hf _ (List.getElem_mem hk)])
theorem cut_mid {α : Type} {L : List α} {j : Nat} (h : j < L.length) : L = L.take j ++ L[j] :: L.drop (j + 1) := by
  rw [List.getElem_cons_drop, List.take_append_drop]
theorem art_turn (A B : List Art) (a : Art) (x : ByteArray) : ((A ++ a :: B).flatMap artCells).set (A.length * 2 + 1) (.string x) = (A ++ (⟨a.id, x⟩ : Art) :: B).flatMap artCells := by
  have hl : (A.flatMap artCells).length = A.length * 2 := flat_len (k := 2) artCells (fun _ => rfl) A
  rw [List.flatMap_append, List.flatMap_append, List.flatMap_cons, List.flatMap_cons, List.set_append, if_neg (by omega), hl, show A.length * 2 + 1 - A.length * 2 = 1 by omega]
  rfl
end Go.Proofs.Ytlbnebmdolnagaa

namespace Go.Proofs.Ytlbnebmdolnagaa
open Go.RowKit Go.Lib

theorem ba_ext {a b : ByteArray} (h : a.toList = b.toList) : a = b := by rw [← mk_toList a, ← mk_toList b, h]
theorem art_ext {x y : Art} (h1 : x.id = y.id) (h2 : x.text.toList = y.text.toList) : x = y := by
  obtain ⟨i, t⟩ := x
  obtain ⟨j, u⟩ := y
  simp only at h1 h2
  rw [h1, ba_ext h2]
theorem edit_ext {x y : Edit} (h1 : x.kind = y.kind) (h2 : x.id = y.id) (h3 : x.old.toList = y.old.toList) (h4 : x.new.toList = y.new.toList) : x = y := by
  obtain ⟨k, i, t, u⟩ := x
  obtain ⟨l, j, t', u'⟩ := y
  simp only at h1 h2 h3 h4
  rw [h1, h2, ba_ext h3, ba_ext h4]
theorem sizesOk_of {p : List Edit} (h : okPatch p = true) : SizesOk p := fun e he => by
  obtain ⟨_, _, h1, h2⟩ := okEdit_facts (((okPatch_iff p).1 h).1 e he)
  have e1 : e.old.toList.length = e.old.size := by rw [ByteArray.toList_eq]; simp
  have e2 : e.new.toList.length = e.new.size := by rw [ByteArray.toList_eq]; simp
  unfold SizeOk maxLen
  omega
theorem textsOk_of {s : List Art} (h : okStat s = true) : ∀ a ∈ s, a.text.size ≤ maxLen := fun a ha => by
  have := (okArt_facts (okStat_mem h ha)).2.2.2
  have e1 : a.text.toList.length = a.text.size := by rw [ByteArray.toList_eq]; simp
  unfold maxLen
  omega
def SameLoop {α : Type} (xs ys : List α) (w : World) (e : Ending) (w' : World) : Prop := ∃ r : Bool, e = .returned (.bool r) ∧ (r = true ↔ xs = ys) ∧ Below w.heap.size w w'
theorem take_same {α : Type} {xs ys : List α} {k : Nat} {x y : α} (hx : xs[k]? = some x) (hy : ys[k]? = some y) (h : xs.take k = ys.take k) (hxy : x = y) : xs.take (k + 1) = ys.take (k + 1) := by
  obtain ⟨h1, h1'⟩ := List.getElem?_eq_some_iff.1 hx
  obtain ⟨h2, h2'⟩ := List.getElem?_eq_some_iff.1 hy
  rw [List.take_succ_eq_append_getElem h1, List.take_succ_eq_append_getElem h2, h, h1', h2', hxy]

end Go.Proofs.Ytlbnebmdolnagaa

namespace Go.Proofs.Ytlbnebmdolnagaa
open Go.RowKit Go.Lib

def StatDraw (B : Nat) (w : World) (b k : Nat) (e : Ending) (w' : World) : Prop :=
  ∃ v L, e = .returned v ∧ OwnL artCells L w.heap.size w' v ∧ okStat L = true ∧ Src B w' b k ∧ Only b w w'

/-- A statute that is being drawn. -/
structure Drawn (L : List Art) (d : Int) : Prop where
  rise : RiseA L
  all : ∀ a ∈ L, 1 ≤ a.id ∧ a.id ≤ d ∧ okSent a.text.toList = true
  d0 : 0 ≤ d
  d1 : d ≤ 2 * L.length
theorem Drawn.nil : Drawn [] 0 := ⟨List.Pairwise.nil, fun a h => (by cases h), by omega, by simp⟩
theorem Drawn.snoc {L : List Art} {d x : Int} {l : List UInt8} (h : Drawn L d) (hx : 0 ≤ x) (hx1 : x < 2) (hl : okSent l = true) : Drawn (L ++ [⟨d + (1 + x), ⟨l.toArray⟩⟩]) (d + (1 + x)) where
  rise := by
    have hr := h.rise
    unfold RiseA at *
    rw [List.pairwise_append]
    refine ⟨hr, by simp, fun a ha c hc => ?_⟩
    rw [List.mem_singleton] at hc
    subst hc
    have := h.all a ha
    show a.id < d + (1 + x)
    omega
  all := fun a ha => by
    have := h.d0
    rcases List.mem_append.1 ha with ha | ha
    · have h3 := h.all a ha
      exact ⟨h3.1, by omega, h3.2.2⟩
    · rw [List.mem_singleton] at ha
      subst ha
      refine ⟨by show 1 ≤ d + (1 + x); omega, Int.le_refl _, ?_⟩
      show okSent (⟨l.toArray⟩ : ByteArray).toList = true
      rw [ByteArray.toList_eq]
      exact hl
  d0 := by have := h.d0; omega
  d1 := by have := h.d1; rw [List.length_append]; simp; omega
theorem Drawn.ok {L : List Art} {d : Int} (h : Drawn L d) (h8 : L.length ≤ 8) : okStat L = true := by
  rw [okStat_iff]
  refine ⟨fun a ha => ?_, h.rise, h8⟩
  obtain ⟨h1, h2, h3⟩ := h.all a ha
  have := h.d1
  unfold okArt
  rw [inB_true h1 (by omega), h3]
  rfl
theorem Drawn.last {L : List Art} {a : Art} {d : Int} (h : Drawn (L ++ [a]) d) (h8 : (L ++ [a]).length ≤ 8) : okStat (L ++ [⟨99, a.text⟩]) = true := by
  rw [okStat_iff]
  have hr := h.rise
  have hd := h.d1
  unfold RiseA at hr
  rw [List.pairwise_append] at hr
  refine ⟨fun x hx => ?_, ?_, by simpa using h8⟩
  · rcases List.mem_append.1 hx with hx | hx
    · obtain ⟨h1, h2, h3⟩ := h.all x (List.mem_append_left _ hx)
      unfold okArt
      rw [inB_true h1 (by omega), h3]
      rfl
    · rw [List.mem_singleton] at hx
      subst hx
      obtain ⟨_, _, h3⟩ := h.all a (by simp)
      unfold okArt
      rw [h3]
      rfl
  · unfold RiseA
    rw [List.pairwise_append]
    refine ⟨hr.1, by simp, fun x hx y hy => ?_⟩
    rw [List.mem_singleton] at hy
    subst hy
    obtain ⟨h1, h2, h3⟩ := h.all x (List.mem_append_left _ hx)
    show x.id < 99
    omega
theorem art_set (L : List Art) (a : Art) (n : Int) : ((L ++ [a]).flatMap artCells).set (L.length * 2) (.int .i64 n) = (L ++ [(⟨n, a.text⟩ : Art)]).flatMap artCells := by
  have hl : (L.flatMap artCells).length = L.length * 2 := by
    induction L with
    | nil => rfl
    | cons x r ih => rw [List.flatMap_cons, List.length_append, ih]; simp [artCells]; omega
  rw [flat_snoc, flat_snoc, List.set_append, if_neg (by omega), hl, Nat.sub_self]
  rfl
theorem art_cell (L : List Art) (a : Art) : ((L ++ [a]).flatMap artCells)[L.length * 2]? = some (.int .i64 a.id) := by
  have hl : (L.flatMap artCells).length = L.length * 2 := by
    induction L with
    | nil => rfl
    | cons x r ih => rw [List.flatMap_cons, List.length_append, ih]; simp [artCells]; omega
  rw [flat_snoc, List.getElem?_append_right (by omega), hl, Nat.sub_self]
  rfl

end Go.Proofs.Ytlbnebmdolnagaa

namespace Go.Proofs.Ytlbnebmdolnagaa
open Go.RowKit Go.Lib

def PatchDraw (B : Nat) (w : World) (b k : Nat) (e : Ending) (w' : World) : Prop :=
  ∃ v P, e = .returned v ∧ OwnL editCells P w.heap.size w' v ∧ okPatch P = true ∧ Src B w' b k ∧ Only b w w'

/-- A patch that is being drawn: what is below q. -/
structure DrawnE (P : List Edit) (q : Nat) : Prop where
  rise : RiseE P
  all : ∀ a ∈ P, okEdit a = true ∧ a.id < q
  len : P.length + 1 ≤ q
theorem DrawnE.nil : DrawnE [] 1 := ⟨List.Pairwise.nil, fun a h => (by cases h), by simp⟩
theorem DrawnE.skip {P : List Edit} {q : Nat} (h : DrawnE P q) : DrawnE P (q + 1) := ⟨h.rise, fun a ha => ⟨(h.all a ha).1, by have := (h.all a ha).2; omega⟩, by have := h.len; omega⟩
theorem DrawnE.snoc {P : List Edit} {q : Nat} {E : Edit} (h : DrawnE P q) (hE : okEdit E = true) (hi : E.id = q) : DrawnE (P ++ [E]) (q + 1) where
  rise := by
    have hr := h.rise
    unfold RiseE at *
    rw [List.pairwise_append]
    refine ⟨hr, by simp, fun a ha c hc => ?_⟩
    rw [List.mem_singleton] at hc
    subst hc
    have := (h.all a ha).2
    omega
  all := fun a ha => by
    rcases List.mem_append.1 ha with ha | ha
    · have := h.all a ha
      exact ⟨this.1, by have := this.2; omega⟩
    · rw [List.mem_singleton] at ha
      subst ha
      exact ⟨hE, by omega⟩
  len := by have := h.len; simp; omega
theorem DrawnE.ok {P : List Edit} (h : DrawnE P 17) : okPatch P = true := by
  rw [okPatch_iff]
  exact ⟨fun a ha => (h.all a ha).1, h.rise, by have := h.len; omega⟩
theorem find_ok {es : List Art} (h : okStat es = true) (q : Int) : (findA es q).toList = [] ∨ okSent (findA es q).toList = true := by
  rcases findA_cases es q with ⟨a, ha, _, he⟩ | ⟨he, _⟩
  · rw [he]
    exact .inr (okArt_facts (okStat_mem h ha)).2.2.1
  · rw [he]
    exact .inl (by rw [ByteArray.toList_eq])
theorem sent_txt {l : List UInt8} (h : okSent l = true) : (⟨l.toArray⟩ : ByteArray).toList = [] ∨ okSent (⟨l.toArray⟩ : ByteArray).toList = true := by
  right
  rw [ByteArray.toList_eq]
  exact h
theorem emp_txt : (⟨#[]⟩ : ByteArray).toList = [] ∨ okSent (⟨#[]⟩ : ByteArray).toList = true := by
  left
  rw [ByteArray.toList_eq]

theorem new_at2 {w : World} {o : Obj} {cs : List Value} {T : TypeId} {j : Nat} {u : Value} (h : cs[j]? = some u) : ((w.alloc o).alloc (.cells cs.toArray T)).cell? ((⟨w.heap.size + 1, 0, none⟩ : Addr).add j) = some u := by
  have h := new_at (w := w.alloc o) (T := T) h
  rwa [show (w.alloc o).heap.size = w.heap.size + 1 by simp] at h

end Go.Proofs.Ytlbnebmdolnagaa

namespace Go.Proofs.Ytlbnebmdolnagaa
open Go.RowKit Go.Lib

def sameB (x y : Edit) : Bool := x.kind == y.kind && x.id == y.id && x.old.toList == y.old.toList && x.new.toList == y.new.toList
theorem sameB_iff {x y : Edit} : sameB x y = true ↔ x = y := by
  unfold sameB
  constructor
  · intro h
    simp only [Bool.and_eq_true, beq_iff_eq] at h
    exact edit_ext h.1.1.1 h.1.1.2 h.1.2 h.2
  · rintro rfl
    simp
def confB (Q : List Edit) (a : Edit) : Bool := hasE Q a.id && !(sameB a (editOf Q a.id))
def confL (P Q : List Edit) : List Int := (P.filter (confB Q)).map (·.id)
theorem confL_step {P Q : List Edit} {k : Nat} (hk : k < P.length) : confL (P.take (k + 1)) Q = confL (P.take k) Q ++ (if confB Q P[k] = true then [P[k].id] else []) := by
  unfold confL
  rw [List.take_succ_eq_append_getElem hk, List.filter_append, List.map_append]
  congr 1
  by_cases h : confB Q P[k] = true <;> simp [h]
theorem confL_len (P Q : List Edit) : (confL P Q).length ≤ P.length := by
  unfold confL
  rw [List.length_map]
  exact List.length_filter_le _ _
theorem int_one' (z : Int) {u : Value} (h : u ∈ intCells z) : u.oneCell' = true := by
  unfold intCells at h
  rw [List.mem_singleton] at h
  subst h
  rfl

end Go.Proofs.Ytlbnebmdolnagaa

namespace Go.Proofs.Ytlbnebmdolnagaa
open Go.RowKit Go.Lib

def memB (L : List Edit) (x : Edit) : Bool := L.any (sameB x)
theorem memB_iff {L : List Edit} {x : Edit} : memB L x = true ↔ x ∈ L := by
  unfold memB
  rw [List.any_eq_true]
  constructor
  · rintro ⟨y, hy, h⟩
    rw [sameB_iff.1 h]
    exact hy
  · intro h
    exact ⟨x, h, sameB_iff.2 rfl⟩

/-- A test on edits that holds while a row is rewritten. -/
def PredO (g : Nat) (lb : Array Value) (p : Edit → Bool) (row : Nat) (w : World) : Prop :=
  ∀ (W : World) (x : Edit), Only row w W → Calls Try.prog g (#[.agg #[.int .i64 x.kind, .int .i64 x.id, .string x.old, .string x.new]] ++ lb) W (RetB (.bool (p x)) W)

end Go.Proofs.Ytlbnebmdolnagaa

namespace Go.Proofs.Ytlbnebmdolnagaa
open Go.RowKit Go.Lib

/-- A row of edits that is being thinned: its first m are what is kept of the first jj. -/
structure Thin (p : Edit → Bool) (L : List Edit) (jj m : Nat) (M : List Edit) : Prop where
  len : M.length = L.length
  kept : M.take m = (L.take jj).filter (fun x => !p x)
  rest : M.drop jj = L.drop jj
  lt : m < jj
  le : jj ≤ L.length
theorem Thin.start {p : Edit → Bool} {L : List Edit} {k : Nat} (hk : k < L.length) (hp : p L[k] = true) (hn : ∀ j (hj : j < k), p (L[j]'(by omega)) = false) : Thin p L (k + 1) k L where
  len := rfl
  kept := by
    rw [List.take_succ_eq_append_getElem hk, List.filter_append]
    have h1 : (L.take k).filter (fun x => !p x) = L.take k := List.filter_eq_self.2 (fun a ha => by
      obtain ⟨j, hj, rfl⟩ := List.mem_iff_getElem.1 ha
      rw [List.length_take] at hj
      rw [List.getElem_take, hn j (by omega)]
      rfl)
    rw [h1]
    simp [hp]
  rest := rfl
  lt := by omega
  le := hk
theorem Thin.get {p : Edit → Bool} {L M : List Edit} {jj m : Nat} (h : Thin p L jj m M) (hj : jj < L.length) : M[jj]? = some L[jj] := by
  have := congrArg (fun l => l[0]?) h.rest
  simp only [List.getElem?_drop, Nat.add_zero] at this
  rw [this, List.getElem?_eq_getElem hj]
theorem Thin.skip {p : Edit → Bool} {L M : List Edit} {jj m : Nat} (h : Thin p L jj m M) (hj : jj < L.length) (hp : p L[jj] = true) : Thin p L (jj + 1) m M where
  len := h.len
  kept := by rw [List.take_succ_eq_append_getElem hj, List.filter_append, h.kept]; simp [hp]
  rest := by rw [← List.drop_drop, ← List.drop_drop, h.rest]
  lt := by have := h.lt; omega
  le := hj
theorem Thin.put {p : Edit → Bool} {L M : List Edit} {jj m : Nat} (h : Thin p L jj m M) (hj : jj < L.length) (hp : p L[jj] = false) : Thin p L (jj + 1) (m + 1) (M.set m L[jj]) where
  len := by rw [List.length_set]; exact h.len
  kept := by
    have hl := h.lt
    have hM := h.len
    rw [List.take_succ_eq_append_getElem hj, List.filter_append, ← h.kept, List.take_succ_eq_append_getElem (by rw [List.length_set]; omega), List.getElem_set_self, List.take_set_of_le (Nat.le_refl _)]
    simp [hp]
  rest := by
    have hl := h.lt
    rw [List.drop_set_of_lt (by omega), ← List.drop_drop, ← List.drop_drop, h.rest]
  lt := by have := h.lt; omega
  le := hj
theorem only_put {w0 w : World} {g : Nat} (a b c d : Addr) (u v x y : Value) (h : Only g w0 w) (ha : a.block = g) (hb : b.block = g) (hc : c.block = g) (hd : d.block = g) : Only g w0 ((((w.setCell a u).setCell b v).setCell c x).setCell d y) :=
  only_setCell (only_setCell (only_setCell (only_setCell h (.inl ha) _) (.inl hb) _) (.inl hc) _) (.inl hd) _
theorem zero_one {z : Value} (h : ∀ v ∈ z.cells.toList, v.oneCell' = true) (hs : 0 < z.cells.size) (n : Nat) : ∀ v ∈ (Builtin.zeroCells z.cells n).toList, v.oneCell' = true := by
  intro v hv
  unfold Builtin.zeroCells at hv
  rw [Array.toList_map, List.mem_map] at hv
  obtain ⟨i, _, rfl⟩ := hv
  have hm : i % z.cells.size < z.cells.size := Nat.mod_lt _ hs
  rw [getElem!_pos z.cells _ hm]
  exact h _ (by simp)

end Go.Proofs.Ytlbnebmdolnagaa

namespace Go.Proofs.Ytlbnebmdolnagaa
end Go.Proofs.Ytlbnebmdolnagaa

namespace Go.Proofs.Ytlbnebmdolnagaa
end Go.Proofs.Ytlbnebmdolnagaa

namespace Go.Proofs.Ytlbnebmdolnagaa
open Go.RowKit Go.Lib

def restL (P Q : List Edit) : List Edit := Q.filter (fun e => !memB P e)
def rebO (P Q : List Edit) : Option (List Edit) := if confL P Q = [] then some (restL P Q) else none

/-- R is what P and Q merge to. -/
structure Merged (P Q R : List Edit) : Prop where
  rise : RiseE R
  mem : ∀ e, e ∈ R ↔ e ∈ P ∨ e ∈ Q
  len : R.length = P.length + (restL P Q).length
theorem noconf {P Q : List Edit} (hQ : RiseE Q) (h : confL P Q = []) {a b : Edit} (ha : a ∈ P) (hb : b ∈ Q) (hi : a.id = b.id) : a = b := by
  have hf : confB Q a = false := by
    rw [Bool.eq_false_iff]
    intro hc
    have : a.id ∈ confL P Q := List.mem_map.2 ⟨a, List.mem_filter.2 ⟨ha, hc⟩, rfl⟩
    rw [h] at this
    cases this
  unfold confB at hf
  have hh : hasE Q a.id = true := List.any_eq_true.2 ⟨b, hb, by simp [hi]⟩
  have he : editOf Q a.id = b := by rw [hi]; exact editOf_mem hQ hb
  rw [hh, he, Bool.true_and, Bool.not_eq_false'] at hf
  exact sameB_iff.1 hf
theorem Merged.of {P Q R : List Edit} (hP : RiseE P) (hQ : RiseE Q) (hc : confL P Q = []) (hp : R.Perm (P ++ restL P Q)) (hs : R.Pairwise (fun a b => a.id ≤ b.id)) : Merged P Q R where
  rise := by
    have hne : (P ++ restL P Q).Pairwise (fun a b => a.id ≠ b.id) := by
      rw [List.pairwise_append]
      refine ⟨hP.imp (fun h => by omega), (hQ.sublist (List.filter_sublist)).imp (fun h => by omega), fun a ha b hb => ?_⟩
      obtain ⟨hbQ, hbn⟩ := List.mem_filter.1 hb
      intro hi
      have := noconf hQ hc ha hbQ hi
      rw [← this, memB_iff.2 ha] at hbn
      cases hbn
    have hne2 : R.Pairwise (fun a b => a.id ≠ b.id) := (hp.pairwise_iff (fun h => fun e => h e.symm)).2 hne
    exact (hs.and hne2).imp (fun ⟨h1, h2⟩ => by omega)
  mem := fun e => by
    rw [hp.mem_iff, List.mem_append]
    constructor
    · rintro (h | h)
      · exact .inl h
      · exact .inr (List.mem_filter.1 h).1
    · rintro (h | h)
      · exact .inl h
      · by_cases hm : e ∈ P
        · exact .inl hm
        · refine .inr (List.mem_filter.2 ⟨h, ?_⟩)
          have : memB P e = false := by rw [Bool.eq_false_iff]; exact fun k => hm (memB_iff.1 k)
          rw [this]
          rfl
  len := by rw [hp.length_eq, List.length_append]

def MergePost (P Q : List Edit) (w : World) (e : Ending) (w' : World) : Prop :=
  ∃ v, ((confL P Q = [] ∧ P.length + (restL P Q).length ≤ 16 ∧ ∃ R, Merged P Q R ∧ e = .returned (.tuple #[v, .bool true]) ∧ OwnL editCells R w.heap.size w' v) ∨
    (¬ (confL P Q = [] ∧ P.length + (restL P Q).length ≤ 16) ∧ e = .returned (.tuple #[v, .bool false]) ∧ v = .slice none 0 0)) ∧ Below w.heap.size w w'

end Go.Proofs.Ytlbnebmdolnagaa

namespace Go.Proofs.Ytlbnebmdolnagaa
open Go.RowKit Go.Lib

structure Acta where
  beg : Int
  fin : Int
  pat : List Edit
def okActa (a : Acta) : Bool := inB a.beg 0 1000 && inB a.fin 0 1000 && decide (a.beg < a.fin) && okPatch a.pat
def begAt (L : List Acta) (k : Nat) : Int := ((L[k]?).map (·.beg)).getD 0
def actAt (L : List Acta) (k : Nat) : Bool := ((L[k]?).map okActa).getD true && (decide (k = 0) || decide (begAt L (k - 1) ≤ begAt L k))
def okActs (L : List Acta) : Bool := allLt L.length (actAt L) && decide (L.length ≤ 8)
theorem actAt_bad {L : List Acta} {k : Nat} {a : Acta} (h : L[k]? = some a) (ho : okActa a = false) : actAt L k = false := by
  unfold actAt
  rw [h]
  simp [ho]
theorem actAt_zero {L : List Acta} {k : Nat} {a : Acta} (hk : k = 0) (h : L[k]? = some a) (ho : okActa a = true) : actAt L k = true := by
  subst hk
  unfold actAt
  rw [h]
  simp [ho]
theorem actAt_succ {L : List Acta} {m : Nat} {d a : Acta} (hd : L[m]? = some d) (h : L[m + 1]? = some a) (ho : okActa a = true) : actAt L (m + 1) = decide (d.beg ≤ a.beg) := by
  unfold actAt begAt
  rw [h]
  simp [ho, hd]
theorem okActs_bad {L : List Acta} {k : Nat} (hk : k < L.length) (h : actAt L k = false) : okActs L = false := by
  unfold okActs
  rw [allLt_false hk h]
  rfl
theorem okActs_at {L : List Acta} (h : okActs L = true) {k : Nat} {a : Acta} (hk : L[k]? = some a) : okActa a = true := by
  unfold okActs at h
  rw [Bool.and_eq_true, allLt_true] at h
  have := h.1 k (List.getElem?_eq_some_iff.1 hk).1
  unfold actAt at this
  rw [hk, Bool.and_eq_true] at this
  exact this.1
theorem okActs_step {L : List Acta} (h : okActs L = true) {m : Nat} {d a : Acta} (hd : L[m]? = some d) (ha : L[m + 1]? = some a) : d.beg ≤ a.beg := by
  have ho := okActs_at h ha
  unfold okActs at h
  rw [Bool.and_eq_true, allLt_true] at h
  have := h.1 (m + 1) (List.getElem?_eq_some_iff.1 ha).1
  rw [actAt_succ hd ha ho] at this
  exact of_decide_eq_true this
theorem okActs_len {L : List Acta} (h : okActs L = true) : L.length ≤ 8 := by
  unfold okActs at h
  rw [Bool.and_eq_true] at h
  exact of_decide_eq_true h.2
structure ActaOk (a : Acta) : Prop where
  b0 : 0 ≤ a.beg
  b1 : a.beg ≤ 1000
  f0 : 0 ≤ a.fin
  f1 : a.fin ≤ 1000
  lt : a.beg < a.fin
  pat : okPatch a.pat = true
theorem okActa_iff {a : Acta} : okActa a = true ↔ ActaOk a := by
  unfold okActa
  rw [Bool.and_eq_true, Bool.and_eq_true, Bool.and_eq_true, inB_iff, inB_iff]
  constructor
  · rintro ⟨⟨⟨⟨a1, a2⟩, a3, a4⟩, a5⟩, a6⟩
    exact ⟨a1, a2, a3, a4, of_decide_eq_true a5, a6⟩
  · rintro ⟨a1, a2, a3, a4, a5, a6⟩
    exact ⟨⟨⟨⟨a1, a2⟩, a3, a4⟩, decide_eq_true a5⟩, a6⟩

def inF (day : Int) (a : Acta) : Bool := decide (a.beg ≤ day) && decide (day < a.fin)
/-- The first k acts' numbers that are in force on a day. -/
def forceI (L : List Acta) (day : Int) : List Int := ((List.range L.length).filter (fun k => ((L[k]?).map (inF day)).getD false)).map (fun n : Nat => (n : Int))
def forceK (L : List Acta) (day : Int) (k : Nat) : List Int := ((List.range k).filter (fun k => ((L[k]?).map (inF day)).getD false)).map (fun n : Nat => (n : Int))
theorem forceK_yes {L : List Acta} {day : Int} {k : Nat} {a : Acta} (h : L[k]? = some a) (hf : inF day a = true) : forceK L day (k + 1) = forceK L day k ++ [(k : Int)] := by
  unfold forceK
  rw [List.range_succ, List.filter_append, List.map_append]
  simp [h, hf]
theorem forceK_no {L : List Acta} {day : Int} {k : Nat} {a : Acta} (h : L[k]? = some a) (hf : inF day a = false) : forceK L day (k + 1) = forceK L day k := by
  unfold forceK
  rw [List.range_succ, List.filter_append, List.map_append]
  simp [h, hf]
theorem forceK_len (L : List Acta) (day : Int) (k : Nat) : (forceK L day k).length ≤ k := by
  unfold forceK
  rw [List.length_map]
  exact Nat.le_trans (List.length_filter_le _ _) (by simp)
theorem forceI_at {L : List Acta} {day : Int} {j : Nat} {i : Int} (h : (forceI L day)[j]? = some i) : ∃ k : Nat, i = (k : Int) ∧ k < L.length := by
  have hm := List.mem_of_getElem? h
  unfold forceI at hm
  obtain ⟨k, hk, rfl⟩ := List.mem_map.1 hm
  exact ⟨k, rfl, List.mem_range.1 (List.mem_filter.1 hk).1⟩
/-- One step to the statute of a day. -/
def stepO (L : List Acta) (o : Option (List Art)) (i : Int) : Option (List Art) := o.bind (fun S => applyO S (((L[i.toNat]?).map (·.pat)).getD []))
def onK (base : List Art) (L : List Acta) (day : Int) (k : Nat) : Option (List Art) := ((forceI L day).take k).foldl (stepO L) (some base)
/-- The statute of a day. -/
def onO (base : List Art) (L : List Acta) (day : Int) : Option (List Art) := (forceI L day).foldl (stepO L) (some base)
theorem onK_succ {base : List Art} {L : List Acta} {day : Int} {k : Nat} {i : Int} (h : (forceI L day)[k]? = some i) : onK base L day (k + 1) = stepO L (onK base L day k) i := by
  obtain ⟨h1, h2⟩ := List.getElem?_eq_some_iff.1 h
  unfold onK
  rw [List.take_succ_eq_append_getElem h1, List.foldl_append, h2]
  rfl
theorem onK_all {base : List Art} {L : List Acta} {day : Int} {k : Nat} (h : (forceI L day).length ≤ k) : onK base L day k = onO base L day := by
  unfold onK onO
  rw [List.take_of_length_le h]
theorem stepO_none (L : List Acta) (l : List Int) : l.foldl (stepO L) none = none := by
  induction l with
  | nil => rfl
  | cons a l ih => exact ih
theorem onK_none {base : List Art} {L : List Acta} {day : Int} {k : Nat} (h : onK base L day k = none) : onO base L day = none := by
  unfold onO
  rw [← List.take_append_drop k (forceI L day), List.foldl_append]
  have : ((forceI L day).take k).foldl (stepO L) (some base) = none := h
  rw [this, stepO_none]

/-- An act with the value of its patch. -/
structure VAct where
  a : Acta
  v : Value
def vCells (x : VAct) : List Value := [.int .i64 x.a.beg, .int .i64 x.a.fin, x.v]
def Acts (w : World) (B : Nat) (v : Value) (ls : List Acta) : Prop :=
  ∃ L : List VAct, L.map (·.a) = ls ∧ SlR (Pl vCells) 3 w B v L ∧ ∀ x ∈ L, Edits w B x.v x.a.pat
theorem Acts.on {w w' : World} {B B' : Nat} {v : Value} {ls : List Acta} (h : Acts w B v ls) (hb : Below B w w') (hB : B ≤ B') : Acts w' B' v ls := by
  obtain ⟨L, h1, h2, h3⟩ := h
  exact ⟨L, h1, SlR.on h2 (Pl.stays _) hb hB, fun x hx => SlR.on (h3 x hx) (Pl.stays _) hb hB⟩
theorem acts_at {w : World} {B : Nat} {v : Value} {ls : List Acta} (h : Acts w B v ls) : ∃ (A : Option Addr) (c : Nat), v = .slice A ls.length c ∧ ls.length ≤ c ∧ c ≤ maxLen ∧ (0 < ls.length → ∃ b off, A = some ⟨b, off, none⟩ ∧ b < B ∧
    ∀ (k : Nat) (a : Acta), ls[k]? = some a → ∃ pv, w.cell? ⟨b, off + k * 3, none⟩ = some (.int .i64 a.beg) ∧ w.cell? ⟨b, off + k * 3 + 1, none⟩ = some (.int .i64 a.fin) ∧ w.cell? ⟨b, off + k * 3 + 2, none⟩ = some pv ∧ Edits w B pv a.pat) := by
  obtain ⟨L, rfl, ⟨A, c, rfl, h1, h2, h3⟩, h4⟩ := h
  rw [List.length_map]
  refine ⟨A, c, rfl, h1, h2, fun h0 => ?_⟩
  obtain ⟨b, off, rfl, hb, hk⟩ := h3 h0
  refine ⟨b, off, rfl, hb, fun k a ha => ?_⟩
  rw [List.getElem?_map] at ha
  cases hx : L[k]? with
  | none => rw [hx] at ha; cases ha
  | some x =>
    rw [hx] at ha
    injection ha with ha
    subst ha
    obtain ⟨us, hl, hp, hc⟩ := hk k x hx
    have hp : us = vCells x := hp
    subst hp
    exact ⟨x.v, hc 0 _ rfl, hc 1 _ rfl, hc 2 _ rfl, h4 x (List.mem_of_getElem? hx)⟩

end Go.Proofs.Ytlbnebmdolnagaa

namespace Go.Proofs.Ytlbnebmdolnagaa
open Go.RowKit Go.Lib

theorem Edits.aft {w : World} {B : Nat} {v : Value} {es : List Edit} (h : Edits w B v es) (hB : B ≤ w.heap.size) : ∀ y : Aft w, Edits y.val y.val.heap.size v es := SlR.aft h (Pl.stays _) hB
theorem Acts.aft {w : World} {B : Nat} {v : Value} {ls : List Acta} (h : Acts w B v ls) (hB : B ≤ w.heap.size) : ∀ y : Aft w, Acts y.val y.val.heap.size v ls := fun y => h.on (y.ok.mono hB) (Nat.le_trans hB y.ok.size)
end Go.Proofs.Ytlbnebmdolnagaa

namespace Go.Proofs.Ytlbnebmdolnagaa
open Go.RowKit Go.Lib

theorem okActa_1 {a : Acta} (h : inB a.beg 0 1000 = false) : okActa a = false := by unfold okActa; rw [h]; rfl
theorem okActa_2 {a : Acta} (h : inB a.fin 0 1000 = false) : okActa a = false := by unfold okActa; rw [h]; simp
theorem okActa_3 {a : Acta} (h : ¬ a.beg < a.fin) : okActa a = false := by unfold okActa; simp [h]
theorem okActa_4 {a : Acta} (h : okPatch a.pat = false) : okActa a = false := by unfold okActa; simp [h]
theorem okActa_5 {a : Acta} (h1 : inB a.beg 0 1000 = true) (h2 : inB a.fin 0 1000 = true) (h3 : a.beg < a.fin) (h4 : okPatch a.pat = true) : okActa a = true := by unfold okActa; simp [h1, h2, h3, h4]
def ActsSz (ls : List Acta) : Prop := ∀ a ∈ ls, SizesOk a.pat
theorem ActsSz.of {ls : List Acta} (h : okActs ls = true) : ActsSz ls := fun a ha => by
  obtain ⟨k, hk⟩ := List.getElem?_of_mem ha
  exact sizesOk_of (okActa_iff.1 (okActs_at h hk)).pat

end Go.Proofs.Ytlbnebmdolnagaa

namespace Go.Proofs.Ytlbnebmdolnagaa
open Go.RowKit Go.Lib

end Go.Proofs.Ytlbnebmdolnagaa

namespace Go.Proofs.Ytlbnebmdolnagaa
open Go.RowKit Go.Lib

theorem stepO_at {ls : List Acta} {j : Nat} {a : Acta} (R : List Art) (h : ls[j]? = some a) : stepO ls (some R) (j : Int) = applyO R a.pat := by simp [stepO, h]
def OnPost (S : List Art) (ls : List Acta) (day : Int) (w : World) (e : Ending) (w' : World) : Prop :=
  ∃ v, e = .returned (.tuple #[v, .bool (onO S ls day).isSome]) ∧ (∀ R, onO S ls day = some R → OwnL artCells R w.heap.size w' v ∧ okStat R = true) ∧ (∃ A n c, v = .slice A n c) ∧ Below w.heap.size w w'
end Go.Proofs.Ytlbnebmdolnagaa

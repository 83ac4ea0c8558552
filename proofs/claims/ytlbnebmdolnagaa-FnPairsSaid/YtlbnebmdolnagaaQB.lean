/- The text of a deed, walked: the reference's. The text of a deed, walked: the reference's, whole. The reference's readers of parts: a text cut, a number. Rows of the call's own, as lists. Rows read; equal deeds. (The rows are LawR's.) What the laws write into what a call hands back, and read again: walked. Marks in edits and deeds: walked. The reference's readers of lines and of lists of numbers. The reference's readers of an edit and of a patch. The reference's reader of a patch. Rows of the call's own, whole: cells set, copied, cleared, whatever the element's size. Sizes and copies of numbers and edits, walked: the statements' own functions (as in the first texts, here upon Row). Trees of the call's own: a row of structs whose slices lie in blocks of their own; how they stay, are filled, are marked. What the library's readers do, and the program's readers of numbers and lists. The texts of statutes, as plain functions. No program here. Statutes and patches: what rises, what is found. No program here. A patch applied to a statute, as plain functions. No program here. Statutes: the program's test and text, walked. The source of draws: each draw gives a byte, and leaves a source. -/
import Derived.Test.YtlbnebmdolnagaaQN
import Derived.Test.YtlbnebmdolnagaaQJ
import Derived.Lib.ConvBytes
import Derived.BigQuiet
import Derived.Laws.AppendOwn
import Derived.Laws.CopyOwn
import Derived.Laws.IdiomCopy
import Derived.Lib.SliceRun
import Derived.Deep.RegionLaw
import Derived.Laws.StructEq
import Derived.RegionCalls
import Derived.Test.YtlbnebmdolnagaaQA
namespace Go.Proofs.Ytlbnebmdolnagaa
open Go.RowKit Go.Lib

theorem nums_one (z : Int) (sep : List UInt8) : nums [z] sep = itoa z := by
  unfold nums
  simp [Lib.join_cons, Lib.joinTail]
theorem nums_snoc (zs : List Int) (z : Int) (sep : List UInt8) (h : zs ≠ []) : nums (zs ++ [z]) sep = nums zs sep ++ (sep ++ itoa z) := by
  obtain ⟨a, r, rfl⟩ := List.exists_cons_of_ne_nil h
  unfold nums
  rw [List.cons_append, List.map_cons, List.map_cons, List.map_append, Lib.join_cons, Lib.join_cons]
  have : ∀ xs : List (List UInt8), Lib.joinTail sep (xs ++ [itoa z]) = Lib.joinTail sep xs ++ (sep ++ itoa z) := by
    intro xs
    simp [Lib.joinTail]
  rw [List.map_cons, List.map_nil, this, List.append_assoc]

/-- Bytes of the call's own, in a block of their own. -/
structure BytesOwn (w : World) (g : Nat) (l : List UInt8) : Prop where
  cell : ∀ j (c : UInt8), l[j]? = some c → w.cell? ⟨g, j, none⟩ = some (.int .u8 (c.toNat : Int))
  free : ∀ j, j < l.length → w.frozen? ⟨g, j, none⟩ = false
def swp (fr to_ : UInt8) (l : List UInt8) (k : Nat) : List UInt8 := (l.take k).map (fun c => if c = fr then to_ else c) ++ l.drop k
theorem swp_length (fr to_ : UInt8) (l : List UInt8) (k : Nat) : (swp fr to_ l k).length = l.length := by
  unfold swp
  rw [List.length_append, List.length_map, List.length_take, List.length_drop]
  omega
theorem swp_get (fr to_ : UInt8) (l : List UInt8) (k : Nat) (h : k < l.length) : (swp fr to_ l k)[k]? = some l[k] := by
  unfold swp
  rw [List.getElem?_append_right (by rw [List.length_map, List.length_take]; omega), List.length_map, List.length_take, List.getElem?_drop]
  rw [show k + (k - min k l.length) = k by omega]
  exact List.getElem?_eq_getElem h
theorem swp_succ (fr to_ : UInt8) (l : List UInt8) (k : Nat) (h : k < l.length) : swp fr to_ l (k + 1) = (swp fr to_ l k).set k (if l[k] = fr then to_ else l[k]) := by
  unfold swp
  rw [List.take_succ_eq_append_getElem h, List.map_append, List.set_append, if_neg (by rw [List.length_map, List.length_take]; omega), List.length_map, List.length_take, show k - min k l.length = 0 by omega]
  have e : (l.drop k).set 0 (if l[k] = fr then to_ else l[k]) = (if l[k] = fr then to_ else l[k]) :: l.drop (k + 1) := by
    rw [List.drop_eq_getElem_cons h]
    rfl
  rw [e]
  simp
theorem swp_keep (fr to_ : UInt8) (l : List UInt8) (k : Nat) (h : k < l.length) (hne : l[k] ≠ fr) : swp fr to_ l (k + 1) = swp fr to_ l k := by
  rw [swp_succ fr to_ l k h, if_neg hne]
  apply List.ext_getElem?
  intro j
  rw [List.getElem?_set]
  by_cases hj : k = j
  · subst hj
    rw [if_pos rfl, swp_get fr to_ l k h, if_pos (by rw [swp_length]; exact h)]
  · rw [if_neg hj]
theorem swp_all (fr to_ : UInt8) (l : List UInt8) (k : Nat) (h : l.length ≤ k) : swp fr to_ l k = l.map (fun c => if c = fr then to_ else c) := by
  unfold swp
  rw [List.take_of_length_le h, List.drop_eq_nil_of_le h, List.append_nil]
theorem BytesOwn.set {w : World} {g : Nat} {l : List UInt8} (h : BytesOwn w g l) (k : Nat) (c : UInt8) (hk : k < l.length) : BytesOwn (w.setCell ⟨g, k, none⟩ (.int .u8 (c.toNat : Int))) g (l.set k c) where
  cell := fun j d hj => by
    by_cases e : k = j
    · subst e
      rw [List.getElem?_set, if_pos rfl, if_pos hk] at hj
      injection hj with hj
      subst hj
      have := h.cell k l[k] (List.getElem?_eq_getElem hk)
      exact World.cell?_setCell_same _ _ _ this
    · rw [List.getElem?_set, if_neg e] at hj
      rw [World.cell?_setCell_other _ _ _ _ (by intro h; injection h with _ h; exact e h)]
      exact h.cell j d hj
  free := fun j hj => by
    rw [List.length_set] at hj
    rw [World.frozen?_setCell]
    exact h.free j hj

end Go.Proofs.Ytlbnebmdolnagaa

namespace Go.Proofs.Ytlbnebmdolnagaa
open Go.RowKit Go.Lib

theorem keep5 {w X X' : World} {G a b c d e : Nat} {v1 v2 v3 v4 v5 : Value} (h : X.cell? ⟨G, a, none⟩ = some v1 ∧ X.cell? ⟨G, b, none⟩ = some v2 ∧ X.cell? ⟨G, c, none⟩ = some v3 ∧ X.cell? ⟨G, d, none⟩ = some v4 ∧ X.cell? ⟨G, e, none⟩ = some v5 ∧ Below w.heap.size w X) (hb : Below X.heap.size X X') :
    X'.cell? ⟨G, a, none⟩ = some v1 ∧ X'.cell? ⟨G, b, none⟩ = some v2 ∧ X'.cell? ⟨G, c, none⟩ = some v3 ∧ X'.cell? ⟨G, d, none⟩ = some v4 ∧ X'.cell? ⟨G, e, none⟩ = some v5 ∧ Below w.heap.size w X' := by
  obtain ⟨h1, h2, h3, h4, h5, h6⟩ := h
  have hG : G < X.heap.size := World.block_lt_of_cell? X ⟨G, a, none⟩ h1
  exact ⟨(hb.cell (p := ⟨G, a, none⟩) hG).trans h1, (hb.cell (p := ⟨G, b, none⟩) hG).trans h2, (hb.cell (p := ⟨G, c, none⟩) hG).trans h3, (hb.cell (p := ⟨G, d, none⟩) hG).trans h4, (hb.cell (p := ⟨G, e, none⟩) hG).trans h5, h6.trans (hb.mono h6.size)⟩
theorem and6 {p q r s t u : Prop} (h : p ∧ q ∧ r ∧ s ∧ t ∧ u) : u := h.2.2.2.2.2

theorem semis_map (l : List UInt8) : l.map (fun c => if c = 10 then 59 else c) = semis l := rfl

end Go.Proofs.Ytlbnebmdolnagaa

namespace Go.Proofs.Ytlbnebmdolnagaa
open Go.RowKit Go.Lib

theorem mk_data (b : ByteArray) : (⟨b.data.toList.toArray⟩ : ByteArray) = b := by
  apply ByteArray.ext
  simp
theorem ext_take (s : ByteArray) (k : Nat) : s.extract 0 k = ⟨(s.data.toList.take k).toArray⟩ := by rw [← extract_from_zero, mk_data]
theorem ext_drop (s : ByteArray) (k : Nat) : s.extract k s.size = ⟨(s.data.toList.drop k).toArray⟩ := by rw [← extract_to_end, mk_data]
theorem ext_mid (s : ByteArray) (a b : Nat) : s.extract a b = ⟨((s.data.toList.take b).drop a).toArray⟩ := by
  rw [← mk_data (s.extract a b)]
  congr 2
  rw [extract_data]
  simp [List.drop_take]
theorem take_snoc' (s : ByteArray) (k : Nat) (h : k < s.size) : s.data.toList.take (k + 1) = s.data.toList.take k ++ [s[k]] := by
  rw [List.take_succ_eq_append_getElem (by simpa using h)]; rfl

/-- The number that the digits of a text make, whatever stands between them. -/
def dval (l : List UInt8) : Nat := l.foldl (fun n c => if 48 ≤ c.toNat ∧ c.toNat ≤ 57 then 10 * n + (c.toNat - 48) else n) 0
theorem dval_snoc (l : List UInt8) (c : UInt8) : dval (l ++ [c]) = if 48 ≤ c.toNat ∧ c.toNat ≤ 57 then 10 * dval l + (c.toNat - 48) else dval l := by
  unfold dval
  rw [List.foldl_append]
  rfl
theorem dval_lt (l : List UInt8) : ∀ k, dval (l.take k) < 10 ^ (min k l.length)
  | 0 => by simp [dval]
  | k + 1 => by
    have ih := dval_lt l k
    by_cases h : k < l.length
    · rw [List.take_succ_eq_append_getElem h, dval_snoc, Nat.min_eq_left (by omega), Nat.pow_succ]
      rw [Nat.min_eq_left (by omega)] at ih
      split <;> omega
    · rw [Nat.min_eq_right (by omega)] at ih ⊢
      rw [List.take_of_length_le (by omega)] at ih ⊢
      exact ih
theorem dval_digits (u : Nat) : ∀ p : List UInt8, dval p = 0 → dval (p ++ decDigits u) = u := by
  induction u using Nat.strongRecOn with
  | _ u ih =>
    intro p hp
    rw [decDigits]
    split
    · rename_i h
      rw [dval_snoc, digit_of u h, if_pos (by omega), hp]
      omega
    · rename_i h
      rw [← List.append_assoc, dval_snoc, digit_of (u % 10) (by omega), if_pos (by omega), ih (u / 10) (by omega) p hp]
      omega
/-- What the reference takes a text for, before it looks whether it is that number's text. -/
def rdval (l : List UInt8) : Int := if l.head?.map (·.toNat) = some 45 then -(dval l : Int) else (dval l : Int)
theorem rdval_itoa (n : Int) : rdval (itoa n) = n := by
  unfold rdval itoa
  split
  · rename_i h
    have := dval_digits n.natAbs [45] (by decide)
    rw [List.singleton_append] at this
    rw [if_pos (show (45 :: decDigits n.natAbs).head?.map (·.toNat) = some 45 from rfl), this]
    omega
  · rename_i h
    obtain ⟨c, r, hd, hc⟩ := digits_head n.toNat
    have := dval_digits n.toNat [] rfl
    rw [List.nil_append, hd] at this
    unfold isDigit at hc
    rw [hd, if_neg (by simp; omega), this]
    omega
theorem itoa_len10 {n : Int} (h1 : -999999999 ≤ n) (h2 : n ≤ 999999999) : (itoa n).length ≤ 10 := by
  have hd : ∀ (k u : Nat), u < 10 ^ (k + 1) → (decDigits u).length ≤ k + 1 := by
    intro k
    induction k with
    | zero =>
      intro u hu
      rw [decDigits, dif_pos (by simpa using hu)]
      simp
    | succ k ih =>
      intro u hu
      rw [decDigits]
      split
      · simp
      · have := ih (u / 10) (by rw [Nat.pow_succ] at hu; omega)
        rw [List.length_append]
        simp
        omega
  unfold itoa
  split
  · have := hd 8 n.natAbs (by omega)
    rw [List.length_cons]
    omega
  · have := hd 8 n.toNat (by omega)
    omega

theorem numOf_no {lo hi z : Int} {t : List UInt8} (hu : ∀ q, inB q lo hi = true → itoa q = t → z = q) (h : ¬ (inB z lo hi = true ∧ itoa z = t)) : numOf lo hi t = none := inv_no hu h
theorem numOf_yes {lo hi z : Int} {t : List UInt8} (hu : ∀ q, inB q lo hi = true → itoa q = t → z = q) (h1 : inB z lo hi = true) (h2 : itoa z = t) : numOf lo hi t = some z := inv_of hu h1 h2
end Go.Proofs.Ytlbnebmdolnagaa

namespace Go.Proofs.Ytlbnebmdolnagaa
open Go.RowKit Go.Lib

/-- A row of the call's own: block g holds these cells, and they may be written. -/
structure Row (w : World) (g : Nat) (L : List Value) : Prop where
  cell : ∀ j u, L[j]? = some u → w.cell? ⟨g, j, none⟩ = some u
  free : ∀ j, j < L.length → w.frozen? ⟨g, j, none⟩ = false
theorem Row.set {w : World} {g : Nat} {L : List Value} (h : Row w g L) (k : Nat) (u : Value) (hk : k < L.length) : Row (w.setCell ⟨g, k, none⟩ u) g (L.set k u) where
  cell := fun j d hj => by
    by_cases e : k = j
    · subst e
      rw [List.getElem?_set, if_pos rfl, if_pos hk] at hj
      injection hj with hj
      subst hj
      exact World.cell?_setCell_same _ _ _ (h.cell k L[k] (List.getElem?_eq_getElem hk))
    · rw [List.getElem?_set, if_neg e] at hj
      rw [World.cell?_setCell_other _ _ _ _ (by intro h; injection h with _ h; exact e h)]
      exact h.cell j d hj
  free := fun j hj => by
    rw [List.length_set] at hj
    rw [World.frozen?_setCell]
    exact h.free j hj
theorem Row.below {w w' : World} {g B : Nat} {L : List Value} (h : Row w g L) (hb : Below B w w') (hg : g < B) : Row w' g L :=
  ⟨fun j u hj => (hb.cell (p := ⟨g, j, none⟩) hg).trans (h.cell j u hj), fun j hj => (hb.frozen (p := ⟨g, j, none⟩) hg).trans (h.free j hj)⟩
theorem Row.far {w : World} {g : Nat} {L : List Value} {p : Addr} (h : Row w g L) (u : Value) (hp : p.block ≠ g) : Row (w.setCell p u) g L :=
  ⟨fun j v hj => (World.cell?_setCell_far w p ⟨g, j, none⟩ u hp).trans (h.cell j v hj), fun j hj => by rw [World.frozen?_setCell]; exact h.free j hj⟩
theorem Row.new (w : World) (cs : Array Value) (e : TypeId) : Row (w.alloc (.cells cs e)) w.heap.size cs.toList where
  cell := fun j u hj => by
    have : cs[j]? = some u := by simpa using hj
    simpa [go_sem] using this
  free := fun j hj => by simp [go_sem]
theorem SlR.of_row {α : Type} (f : α → List Value) {size : Nat} {w : World} {g c : Nat} {xs : List α} (hf : ∀ x, (f x).length = size) (h : Row w g (xs.flatMap f)) (hg : g < w.heap.size) (hc : xs.length ≤ c) (hm : c ≤ maxLen) : SlR (Pl f) size w w.heap.size (.slice (some ⟨g, 0, none⟩) xs.length c) xs := by
  refine ⟨_, c, rfl, hc, hm, fun h0 => ⟨g, 0, rfl, hg, fun k x hx => ⟨f x, hf x, rfl, fun j u hu => ?_⟩⟩⟩
  have hj : j < size := by rw [← hf x]; exact (List.getElem?_eq_some_iff.1 hu).1
  rw [Nat.zero_add]
  exact h.cell _ u (flat_at f hf xs k x j u hx hu hj)


/-- A slice of the call's own that reads as a list: in a block at or above 'base', and it may be written. -/
def OwnL {α : Type} (f : α → List Value) (xs : List α) (base : Nat) (w : World) (v : Value) : Prop :=
  ∃ A c, v = .slice A xs.length c ∧ xs.length ≤ c ∧ c ≤ maxLen ∧ (xs ≠ [] → ∃ g, A = some ⟨g, 0, none⟩ ∧ base ≤ g ∧ g < w.heap.size ∧ Row w g (xs.flatMap f))
theorem OwnL.of_own {α : Type} (f : α → List Value) {size : Nat} {w : World} {base : Nat} {e : TypeId} {v : Value} {xs : List α} (hf : ∀ x, (f x).length = size) (h : w.ownsRow base e size v xs.length (xs.flatMap f)) : OwnL f xs base w v := by
  have hS := SlR.of_own f hf h
  obtain ⟨hl, h | ⟨g, cap, cur, rfl, hg, hh, h1, h2, h3, h4⟩⟩ := h
  · obtain ⟨rfl, h0⟩ := h
    have : xs = [] := List.eq_nil_of_length_eq_zero h0
    subst this
    exact ⟨none, 0, rfl, Nat.le_refl _, Nat.zero_le _, fun h => absurd rfl h⟩
  · refine ⟨_, cap, rfl, h1, h2, fun h0 => ⟨g, rfl, hg, ?_, ⟨fun j u hj => ?_, fun j hj => ?_⟩⟩⟩
    · rcases Nat.lt_or_ge g w.heap.size with hlt | hge
      · exact hlt
      · rw [Array.getElem?_eq_none hge] at hh; cases hh
    · have hlt : j < xs.length * size := by rw [← hl]; exact (List.getElem?_eq_some_iff.1 hj).1
      have hcur : cur[j]? = some u := by rw [← Array.getElem?_toList, ← hj, ← h4, List.getElem?_take, if_pos hlt]
      simp [World.cell?, hh, hcur]
    · have hlt : j < xs.length * size := by rw [← hl]; exact hj
      have hlc : xs.length * size ≤ cap * size := Nat.mul_le_mul_right _ h1
      simp [World.frozen?, hh]
theorem OwnL.on {α : Type} {f : α → List Value} {xs : List α} {base : Nat} {w w' : World} {v : Value} (h : OwnL f xs base w v) (hb : Below w.heap.size w w') : OwnL f xs base w' v := by
  obtain ⟨A, c, rfl, h1, h2, h3⟩ := h
  refine ⟨A, c, rfl, h1, h2, fun h0 => ?_⟩
  obtain ⟨g, e, hg, hlt, hr⟩ := h3 h0
  exact ⟨g, e, hg, Nat.lt_of_lt_of_le hlt hb.size, hr.below hb hlt⟩
theorem OwnL.less {α : Type} {f : α → List Value} {xs : List α} {base b : Nat} {w : World} {v : Value} (h : OwnL f xs base w v) (hb : b ≤ base) : OwnL f xs b w v := by
  obtain ⟨A, c, rfl, h1, h2, h3⟩ := h
  refine ⟨A, c, rfl, h1, h2, fun h0 => ?_⟩
  obtain ⟨g, e, hg, hlt, hr⟩ := h3 h0
  exact ⟨g, e, Nat.le_trans hb hg, hlt, hr⟩
theorem OwnL.slR {α : Type} {f : α → List Value} {size : Nat} {xs : List α} {base : Nat} {w : World} {v : Value} (hf : ∀ x, (f x).length = size) (h : OwnL f xs base w v) : SlR (Pl f) size w w.heap.size v xs := by
  obtain ⟨A, c, rfl, h1, h2, h3⟩ := h
  by_cases h0 : xs = []
  · subst h0
    exact SlR.nil _ _ _ _ _ _ h2
  · obtain ⟨g, rfl, hg, hlt, hr⟩ := h3 h0
    exact SlR.of_row f hf hr hlt h1 h2
theorem OwnL.nil {α : Type} (f : α → List Value) (base : Nat) (w : World) : OwnL f ([] : List α) base w (.slice none 0 0) := ⟨none, 0, rfl, Nat.le_refl _, Nat.zero_le _, fun h => absurd rfl h⟩
theorem own_len {w : World} {base : Nat} {e : TypeId} {size n : Nat} {v : Value} {xs : List Value} (h : w.ownsRow base e size v n xs) : ∃ A c, v = .slice A n c ∧ n ≤ c ∧ c ≤ maxLen := by
  obtain ⟨hl, h | ⟨g, cap, cur, rfl, hg, hh, h1, h2, h3, h4⟩⟩ := h
  · obtain ⟨rfl, rfl⟩ := h
    exact ⟨none, 0, rfl, Nat.le_refl _, Nat.zero_le _⟩
  · exact ⟨_, cap, rfl, h1, h2⟩
/-- Texts in memory. -/
def Strs (w : World) (v : Value) (ls : List (List UInt8)) : Prop := SlR (Pl strCell) 1 w w.heap.size v ls
theorem Strs.on {w w' : World} {v : Value} {ls : List (List UInt8)} (h : Strs w v ls) (hb : Below w.heap.size w w') : Strs w' v ls := SlR.on h (Pl.stays _) hb hb.size
theorem strs_get {w : World} {n c k : Nat} {A : Option Addr} {ls : List (List UInt8)} {l : List UInt8} (h : Strs w (.slice A n c) ls) (hk : ls[k]? = some l) : ∃ b off, A = some ⟨b, off, none⟩ ∧ b < w.heap.size ∧ w.cell? ⟨b, off + k, none⟩ = some (.string ⟨l.toArray⟩) := by
  obtain ⟨A', c', hv, h1, h2, h3⟩ := h
  injection hv with e1 e2 e3
  subst e1
  have hlt : k < ls.length := (List.getElem?_eq_some_iff.1 hk).1
  obtain ⟨b, off, hA, hb, hc⟩ := h3 (by omega)
  obtain ⟨us, hl, hus, hcell⟩ := hc k l hk
  subst hus
  have := hcell 0 _ rfl
  rw [Nat.mul_one, Nat.add_zero] at this
  exact ⟨b, off, hA, hb, this⟩
theorem flat_snoc {α : Type} (f : α → List Value) (xs : List α) (x : α) : (xs ++ [x]).flatMap f = xs.flatMap f ++ f x := by simp
theorem slR_len' {α : Type} {R : World → Nat → List Value → α → Prop} {size : Nat} {w : World} {B n c : Nat} {A : Option Addr} {xs : List α} (h : SlR R size w B (.slice A n c) xs) : n = xs.length ∧ xs.length ≤ c ∧ c ≤ 9223372036854775807 := by
  obtain ⟨A', c', hv, h1, h2, h3⟩ := h
  injection hv with e1 e2 e3
  unfold maxLen at h2
  exact ⟨e2, by omega, by omega⟩
theorem slR_len {α : Type} {R : World → Nat → List Value → α → Prop} {size : Nat} {w : World} {B n c : Nat} {A : Option Addr} {xs : List α} (h : SlR R size w B (.slice A n c) xs) : n = xs.length ∧ xs.length ≤ c ∧ c ≤ 9223372036854775807 := slR_len' h
end Go.Proofs.Ytlbnebmdolnagaa

namespace Go.Proofs.Ytlbnebmdolnagaa
open Go.RowKit

theorem edits_get {w : World} {B n c k : Nat} {A : Option Addr} {es : List Edit} {e : Edit} (h : Edits w B (.slice A n c) es) (hk : es[k]? = some e) :
    ∃ b off, A = some ⟨b, off, none⟩ ∧ b < B ∧ w.cell? ⟨b, off + k * 4, none⟩ = some (.int .i64 e.kind) ∧ w.cell? ⟨b, off + k * 4 + 1, none⟩ = some (.int .i64 e.id) ∧ w.cell? ⟨b, off + k * 4 + 2, none⟩ = some (.string e.old) ∧ w.cell? ⟨b, off + k * 4 + 3, none⟩ = some (.string e.new) := by
  obtain ⟨A', c', hv, h1, h2, h3⟩ := h
  injection hv with e1 e2 e3
  subst e1
  have hlt : k < es.length := (List.getElem?_eq_some_iff.1 hk).1
  obtain ⟨b, off, hA, hb, hc⟩ := h3 (by omega)
  exact ⟨b, off, hA, hb, edits_at hc hk⟩
theorem ints_get {w : World} {B n c k : Nat} {A : Option Addr} {zs : List Int} {z : Int} (h : Ints w B (.slice A n c) zs) (hk : zs[k]? = some z) :
    ∃ b off, A = some ⟨b, off, none⟩ ∧ b < B ∧ w.cell? ⟨b, off + k, none⟩ = some (.int .i64 z) := by
  obtain ⟨A', c', hv, h1, h2, h3⟩ := h
  injection hv with e1 e2 e3
  subst e1
  have hlt : k < zs.length := (List.getElem?_eq_some_iff.1 hk).1
  obtain ⟨b, off, hA, hb, hc⟩ := h3 (by omega)
  exact ⟨b, off, hA, hb, ints_at hc hk⟩
end Go.Proofs.Ytlbnebmdolnagaa

namespace Go.Proofs.Ytlbnebmdolnagaa
open Go.RowKit Go.Lib

/-- A row that is being filled. -/
def mix (L Z : List Value) (k : Nat) : List Value := L.take k ++ Z.drop k
theorem mix_length {L Z : List Value} (h : L.length = Z.length) (k : Nat) : (mix L Z k).length = Z.length := by
  unfold mix
  rw [List.length_append, List.length_take, List.length_drop]
  omega
theorem mix_succ {L Z : List Value} (h : L.length = Z.length) {k : Nat} {u : Value} (hu : L[k]? = some u) : mix L Z (k + 1) = (mix L Z k).set k u := by
  obtain ⟨hk, rfl⟩ := List.getElem?_eq_some_iff.1 hu
  unfold mix
  have e : (Z.drop k).set 0 L[k] = L[k] :: Z.drop (k + 1) := by
    rw [List.drop_eq_getElem_cons (by omega)]
    rfl
  rw [List.take_succ_eq_append_getElem hk, List.set_append, if_neg (by rw [List.length_take]; omega), List.length_take, show k - min k L.length = 0 by omega, e, List.append_assoc]
  rfl
theorem mix_all {L Z : List Value} (h : L.length = Z.length) (k : Nat) (hk : L.length ≤ k) : mix L Z k = L := by
  unfold mix
  rw [List.take_of_length_le hk, List.drop_eq_nil_of_le (by omega), List.append_nil]

theorem Row.step {w : World} {g j : Nat} {L Z : List Value} {u : Value} (h : Row w g (mix L Z j)) (hl : L.length = Z.length) (hu : L[j]? = some u) : Row (w.setCell ⟨g, j, none⟩ u) g (mix L Z (j + 1)) := by
  rw [mix_succ hl hu]
  have hj : j < L.length := (List.getElem?_eq_some_iff.1 hu).1
  exact h.set j u (by rw [mix_length hl]; omega)
theorem Row.some {w : World} {g j : Nat} {L : List Value} (h : Row w g L) (hj : j < L.length) : ∃ z, w.cell? ⟨g, j, none⟩ = some z := ⟨_, h.cell j _ (List.getElem?_eq_getElem hj)⟩
theorem below_only {b : Nat} {w w' : World} (h : Below w.heap.size w w') : Only b w w' := ⟨h.os, h.tape, h.output, h.size, fun k hk _ => h.block k hk⟩
theorem only_set {b : Nat} {a w : World} (h : Only b a w) (j : Nat) (u : Value) : Only b a (w.setCell ⟨b, j, none⟩ u) := only_setCell h (.inl rfl) u

def seqI (k n : Nat) : List Int := (List.range n).map fun i => ((k + i : Nat) : Int)
theorem seqI_len (k n : Nat) : (seqI k n).length = n := by simp [seqI]
theorem seqI_get {k n i : Nat} (h : i < n) : (seqI k n)[i]? = some (((k + i : Nat) : Int)) := by simp [seqI, h]
theorem ints_flat (zs : List Int) : (zs.flatMap intCells).length = zs.length := by
  induction zs with
  | nil => rfl
  | cons z zs ih => rw [List.flatMap_cons, List.length_append, ih]; simp [intCells]; omega
theorem ints_flat_get {zs : List Int} {i : Nat} {z : Int} (h : zs[i]? = some z) : (zs.flatMap intCells)[i]? = some (.int .i64 z) := by
  have := flat_at intCells (size := 1) (fun _ => rfl) zs i z 0 (.int .i64 z) h rfl (by omega)
  simpa using this

/-- What a function that marks leaves behind: the marks in the row, all else as it was. -/
def Marked {α : Type} (f : α → List Value) (xs : List α) (k' base : Nat) (v : Value) (w : World) (e : Ending) (w' : World) : Prop :=
  e = .returned (.int .i64 (k' : Int)) ∧ OwnL f xs base w' v ∧ w.grownBy w' (if xs.length = 0 then none else v.ownBlock)
theorem grown_refl (w : World) (r : Option Nat) : w.grownBy w r := ⟨rfl, rfl, rfl, Nat.le_refl _, fun _ _ _ => rfl⟩

end Go.Proofs.Ytlbnebmdolnagaa

namespace Go.Proofs.Ytlbnebmdolnagaa
open Go.RowKit Go.Lib

def medit (k : Nat) : Edit := ⟨(k : Int), (k : Int) + 1, ⟨(109 :: itoa ((k + 2 : Nat) : Int)).toArray⟩, ⟨(109 :: itoa ((k + 3 : Nat) : Int)).toArray⟩⟩
def medits (k n : Nat) : List Edit := (List.range n).map fun i => medit (k + 4 * i)
theorem medits_len (k n : Nat) : (medits k n).length = n := by simp [medits]
theorem medits_get {k n i : Nat} (h : i < n) : (medits k n)[i]? = some (medit (k + 4 * i)) := by simp [medits, h]
theorem edits_flat (zs : List Edit) : (zs.flatMap editCells).length = zs.length * 4 := by
  induction zs with
  | nil => rfl
  | cons z zs ih => rw [List.flatMap_cons, List.length_append, ih]; simp [editCells]; omega
end Go.Proofs.Ytlbnebmdolnagaa

namespace Go.Proofs.Ytlbnebmdolnagaa
open Go.RowKit Go.Lib


def LinesPost (s : ByteArray) (most : Nat) (w : World) (e : Ending) (w' : World) : Prop :=
  ∃ ls v ok, e = .returned (.tuple #[v, .bool ok]) ∧ Strs w' v ls ∧ (ok = true → splitC 10 s.data.toList = ls ++ [[]] ∧ ls.length ≤ most) ∧ (ok = false → ∀ qs, splitC 10 s.data.toList = qs ++ [[]] → most < qs.length) ∧ Below w.heap.size w w'

theorem mid_size (l : List UInt8) (a b : Nat) {n : Nat} (h : l.length ≤ n) : (⟨((l.take b).drop a).toArray⟩ : ByteArray).size ≤ n := by
  show (((l.take b).drop a).toArray).size ≤ n
  rw [List.size_toArray, List.length_drop, List.length_take]
  omega
def RetOwn {α : Type} (f : α → List Value) (xs : List α) (w : World) (e : Ending) (w' : World) : Prop := ∃ v, e = .returned v ∧ OwnL f xs w.heap.size w' v ∧ Below w.heap.size w w'
theorem Try.infoI : (Try.prog.info? 2).map (fun i => (i.zero, i.size, i.bytes)) = some (some (.int .i64 0), 1, 8) := by kernel_rfl

end Go.Proofs.Ytlbnebmdolnagaa

namespace Go.Proofs.Ytlbnebmdolnagaa
open Go.RowKit Go.Lib

theorem cutL_len (c : UInt8) (l : List UInt8) : (cutL c l).1.length ≤ l.length ∧ (cutL c l).2.length ≤ l.length := by
  unfold cutL
  have h1 := (List.takeWhile_sublist (fun x => x != c) (l := l)).length_le
  have h2 := (List.dropWhile_sublist (fun x => x != c) (l := l)).length_le
  refine ⟨h1, ?_⟩
  rw [List.length_drop]
  omega
theorem mk_size (l : List UInt8) : (⟨l.toArray⟩ : ByteArray).size = l.length := by simp [ByteArray.size]
theorem cons_of (s : ByteArray) (h : 0 < s.size) : s.data.toList = s[0] :: s.data.toList.drop 1 := by
  have := List.drop_eq_getElem_cons (l := s.data.toList) (i := 0) (by simpa using h)
  rw [List.drop_zero] at this
  exact this

end Go.Proofs.Ytlbnebmdolnagaa

namespace Go.Proofs.Ytlbnebmdolnagaa
open Go.RowKit Go.Lib

theorem inv_never {α : Type} {ok : α → Bool} {f : α → List UInt8} {t : List UInt8} (h : ∀ q, ok q = true → f q = t → False) : inv ok f t = none := by
  unfold inv
  rw [dif_neg]
  rintro ⟨q, h1, h2⟩
  exact h q h1 h2
theorem splitC_len (c : UInt8) : ∀ (l : List UInt8) (p : List UInt8), p ∈ splitC c l → p.length ≤ l.length
  | [], p, h => by simp [splitC] at h; subst h; simp
  | x :: l, p, h => by
    have ih := splitC_len c l
    unfold splitC at h
    split at h
    · rcases List.mem_cons.1 h with rfl | h
      · simp
      · have := ih p h; simp; omega
    · revert h
      cases hs : splitC c l with
      | nil => exact absurd hs (splitC_ne c l)
      | cons a r =>
        intro h
        rcases List.mem_cons.1 h with rfl | h
        · have := ih a (by rw [hs]; simp); simp; omega
        · have := ih p (by rw [hs]; simp [h]); simp; omega
theorem splitNC_len (c : UInt8) : ∀ (k : Nat) (l : List UInt8) (p : List UInt8), p ∈ splitNC c k l → p.length ≤ l.length
  | 0, l, p, h => by
    rw [splitNC, List.mem_singleton] at h
    rw [h]
    exact Nat.le_refl _
  | k + 1, l, p, h => by
    rw [splitNC] at h
    obtain ⟨a1, a2⟩ := cutL_len c l
    split at h
    · rcases List.mem_cons.1 h with rfl | h
      · exact a1
      · exact Nat.le_trans (splitNC_len c k _ p h) a2
    · rw [List.mem_singleton] at h
      rw [h]
      exact Nat.le_refl _
theorem lineP_size (d : Bool) (lo hi : Int) (l : List UInt8) : (lineP d lo hi l).old.size ≤ l.length ∧ (lineP d lo hi l).new.size ≤ l.length := by
  cases l with
  | nil => exact ⟨Nat.le_refl _, Nat.le_refl _⟩
  | cons h r =>
    obtain ⟨a1, a2⟩ := cutL_len 32 r
    obtain ⟨b1, b2⟩ := cutL_len 124 (cutL 32 r).2
    rw [lineP, List.length_cons]
    split
    · constructor <;> simp [ByteArray.size] <;> omega
    · split
      · constructor <;> simp [ByteArray.size] <;> omega
      · split
        · constructor <;> simp [ByteArray.size] <;> omega
        · constructor <;> simp [ByteArray.size]

def PatchPost (l : List UInt8) (w : World) (e : Ending) (w' : World) : Prop :=
  ∃ v, e = .returned (.tuple #[v, .bool (patchOf l).isSome]) ∧ OwnL editCells ((patchOf l).getD []) w.heap.size w' v ∧ Below w.heap.size w w'
theorem new_at {w : World} {cs : List Value} {T : TypeId} {j : Nat} {u : Value} (h : cs[j]? = some u) : (w.alloc (.cells cs.toArray T)).cell? ((⟨w.heap.size, 0, none⟩ : Addr).add j) = some u := by
  have hr := (Row.new w cs.toArray T).cell j u (by simpa using h)
  unfold Addr.add
  by_cases h0 : j = 0
  · subst h0; simpa using hr
  · simpa [h0] using hr
theorem edit_one {q : Edit} {u : Value} (h : u ∈ editCells q) : u.oneCell' = true := by
  simp only [editCells, List.mem_cons, List.not_mem_nil, or_false] at h
  rcases h with rfl | rfl | rfl | rfl <;> rfl
theorem base_le {b : Nat} {w : World} {o : Obj} (h : b ≤ w.heap.size) : b ≤ (w.alloc o).heap.size := by simp; omega
theorem take_edits {α : Type} (f : α → List Value) {xs : List α} {k : Nat} {x : α} (h : xs[k]? = some x) : (xs.take (k + 1)).flatMap f = (xs.take k).flatMap f ++ f x := by
  obtain ⟨hk, rfl⟩ := List.getElem?_eq_some_iff.1 h
  rw [List.take_succ_eq_append_getElem hk, flat_snoc]

end Go.Proofs.Ytlbnebmdolnagaa

namespace Go.Proofs.Ytlbnebmdolnagaa
open Go.RowKit Go.Lib

section
variable {P : Program}

/-- A block that holds these cells, none of them frozen. -/
def Blk (w : World) (g : Nat) (e : TypeId) (C : List Value) : Prop := w.heap[g]? = some (.cells C.toArray e (0, 0))
theorem Blk.cell {w : World} {g : Nat} {e : TypeId} {C : List Value} (h : Blk w g e C) (j : Nat) : w.cell? ⟨g, j, none⟩ = C[j]? := by
  unfold Blk at h
  simp [World.cell?, h]
theorem Blk.free {w : World} {g : Nat} {e : TypeId} {C : List Value} (h : Blk w g e C) {j : Nat} (_hj : j < C.length) : w.frozen? ⟨g, j, none⟩ = false := by
  unfold Blk at h
  simp [World.frozen?, h]
theorem Blk.lt {w : World} {g : Nat} {e : TypeId} {C : List Value} (h : Blk w g e C) : g < w.heap.size := (Array.getElem?_eq_some_iff.1 h).1
theorem Blk.isSome {w : World} {g : Nat} {e : TypeId} {C : List Value} (h : Blk w g e C) {j : Nat} (hj : j < C.length) : (w.cell? ⟨g, j, none⟩).isSome = true := by
  rw [h.cell, List.getElem?_eq_getElem hj]
  rfl
theorem Blk.drewN {w : World} {g : Nat} {e : TypeId} {C : List Value} (h : Blk w g e C) (n : Nat) : Blk (w.drewN n) g e C := h
theorem Blk.drew {w : World} {g : Nat} {e : TypeId} {C : List Value} (h : Blk w g e C) : Blk w.drew g e C := h
theorem Blk.grown {w w' : World} {g : Nat} {e : TypeId} {C : List Value} {row : Option Nat} (h : Blk w g e C) (hg : w.grownBy w' row) (hne : row ≠ some g) : Blk w' g e C := by
  have := hg.block g h.lt (fun e => hne e.symm)
  unfold Blk
  rw [this]
  exact h
theorem setCells_row (P : Program) {w : World} {g : Nat} {e : TypeId} {C : List Value} (h : Blk w g e C) (o : Nat) (vs : List Value) (hfit : o + vs.length ≤ C.length) (h1 : ∀ v ∈ vs, v.oneCell' = true) : w.setCells g o vs = w.setRow g (splice C o vs).toArray := by
  have a := run_storeCells_cells (P := P) g o vs 0 w (fun j hj => h.isSome (by omega)) (fun j hj => h.free (by omega)) h1
  have b := run_storeCells_at P g o e vs 0 C.toArray w h (by simpa using hfit) h1
  rw [a] at b
  injection b with _ b
  rw [Nat.add_zero] at b
  rw [b]
  simp [splice]
theorem Blk.set (P : Program) {w : World} {g : Nat} {e : TypeId} {C : List Value} (h : Blk w g e C) (o : Nat) (vs : List Value) (hfit : o + vs.length ≤ C.length) (h1 : ∀ v ∈ vs, v.oneCell' = true) : Blk (w.setCells g o vs) g e (splice C o vs) := by
  rw [setCells_row P h o vs hfit h1]
  exact setRow_heap w g _ _ e _ h
theorem grown_set (P : Program) {w : World} {g : Nat} {e : TypeId} {C : List Value} (h : Blk w g e C) (o : Nat) (vs : List Value) (hfit : o + vs.length ≤ C.length) (h1 : ∀ v ∈ vs, v.oneCell' = true) : w.grownBy (w.setCells g o vs) (some g) := by
  rw [setCells_row P h o vs hfit h1]
  exact ⟨rfl, rfl, rfl, by simp [World.setRow], fun k _ hk => setRow_other w g k _ (fun e => hk (by rw [e]))⟩
theorem blk_of_own {w : World} {base g n cap size : Nat} {e : TypeId} {xs : List Value} (h : w.ownsRow base e size (.slice (some ⟨g, 0, none⟩) n cap) n xs) : ∃ T, Blk w g e (xs ++ T) ∧ (xs ++ T).length = cap * size ∧ n ≤ cap ∧ cap ≤ maxLen ∧ base ≤ g ∧ xs.length = n * size := by
  obtain ⟨hl, ⟨hv, _⟩ | ⟨g', cap', cur, hv, hg, hh, h1, h2, h3, h4⟩⟩ := h
  · cases hv
  · injection hv with e1 e2 e3
    injection e1 with e1
    injection e1 with e1
    subst e1 e3
    refine ⟨cur.toList.drop (n * size), ?_, ?_, h1, h2, hg, hl⟩
    · unfold Blk
      rw [← h4, List.take_append_drop]
      exact hh
    · rw [← h4, List.take_append_drop]
      simpa using h3
theorem own_of_blk {w : World} {base g n cap size : Nat} {e : TypeId} {C xs : List Value} (h : Blk w g e C) (hC : C.length = cap * size) (hx : C.take (n * size) = xs) (hl : xs.length = n * size) (h1 : n ≤ cap) (h2 : cap ≤ maxLen) (hg : base ≤ g) : w.ownsRow base e size (.slice (some ⟨g, 0, none⟩) n cap) n xs :=
  ⟨hl, .inr ⟨g, cap, C.toArray, rfl, hg, h, h1, h2, by simpa using hC, by simpa using hx⟩⟩

/-- copy at elements of whatever size: all is read before anything is written. -/
theorem run_copy_k (w : World) (dT sT ty elem : TypeId) (k : Nat) (b o dLen dCap : Nat) (a : Addr) (sLen sCap : Nat) (cs : List Value)
    (hu : P.underlying dT = some (.slice elem)) (hs : (P.info? elem).map (·.size) = some k) (hn : cs.length = Nat.min sLen dLen * k)
    (hsrc : ∀ j v, cs[j]? = some v → w.cell? (a.add j) = some v) (hc : ∀ j, j < cs.length → (w.cell? ⟨b, o + j, none⟩).isSome = true) (hf : ∀ j, j < cs.length → w.frozen? ⟨b, o + j, none⟩ = false) (h1 : ∀ v ∈ cs, v.oneCell' = true) :
    (Builtin.copy_ #[dT, sT] ty #[.slice (some ⟨b, o, none⟩) dLen dCap, .slice (some a) sLen sCap]).run P w = .ok (goInt (Nat.min sLen dLen)) (w.setCells b o cs) := by
  have hl := run_loadCells_list (P := P) w a cs hsrc
  have hst := run_storeCells_cells (P := P) b o cs 0 w (by simpa using hc) (by simpa using hf) h1
  cases hq : P.info? elem with
  | none => simp [hq] at hs
  | some i =>
    have hi : i.size = k := by simpa [hq] using hs
    simp [Builtin.copy_, run_underlying hu, Builtin.lenOf, Builtin.firstCells, sizeOf, typeInfo, hq, hi, ← hn, hl, hst]
/-- clear of n elements of k cells each. -/
theorem run_clear_k (w : World) (t e ty : TypeId) (z : Value) (zs : List Value) (ht : P.underlying t = some (.slice e)) (hv : ∀ w, (zeroValue e).run P w = .ok z w) (b o n c : Nat) (hn : 0 < n)
    (hz : (Builtin.zeroCells z.cells n).toList = zs) (h1 : ∀ v ∈ zs, v.oneCell' = true)
    (hc : ∀ j, j < zs.length → (w.cell? ⟨b, o + j, none⟩).isSome = true) (hf : ∀ j, j < zs.length → w.frozen? ⟨b, o + j, none⟩ = false) :
    (Builtin.clear_ #[t] ty #[.slice (some ⟨b, o, none⟩) n c]).run P w = .ok (.tuple #[]) (w.setCells b o zs) := by
  have hst := run_storeCells_cells (P := P) b o zs 0 w (by simpa using hc) (by simpa using hf) h1
  simp only [Nat.add_zero] at hst
  obtain ⟨m, rfl⟩ : ∃ m, n = m + 1 := ⟨n - 1, by omega⟩
  simp [Builtin.clear_, run_underlying ht, hv, hz, hst]
end

theorem wp_copy_run2 {P : Program} (w : World) {o : Oper} {a : Act} {K : Act → World → Prop} {Q : Exit → Act → World → Prop} (d s : Operand) (t t' : TypeId)
    (ho : o.op = .call { callee := .builtin .copy, args := #[d, s], argTypes := #[t, t'] }) (v u : Value) (hd : a.eval d = v) (hs : a.eval s = u) {v' : Value} {w' : World}
    (hr : (Builtin.copy_ #[t, t'] o.type #[v, u]).run P w = .ok v' w') (h : K (a.put o.dst v') w') : o.wp P a w K Q := by
  unfold Oper.wp execOp
  simp only [ho, resolve, invoke, builtin, Sem.run_bind, Sem.run_pure, Result.andThen_ok, List.map_toArray, List.map_cons, List.map_nil, hd, hs, hr]
  exact h
theorem wpList_copy_run2 {P : Program} (w : World) {ops : Array Oper} {rest : List Oper} {o : Oper} {a : Act} {Q : Exit → Act → World → Prop} (hgd : o.guard = none) (d s : Operand) (t t' : TypeId)
    (ho : o.op = .call { callee := .builtin .copy, args := #[d, s], argTypes := #[t, t'] }) (v u : Value) (hd : a.eval d = v) (hs : a.eval s = u) {v' : Value} {w' : World}
    (hr : (Builtin.copy_ #[t, t'] o.type #[v, u]).run P w = .ok v' w') (h : wpList P ops Q rest (a.put o.dst v') w') : wpList P ops Q (o :: rest) a w :=
  wpList_plain hgd fun _ hK => wp_copy_run2 w d s t t' ho v u hd hs hr (hK _ _ h)
theorem step_copy_run2 {P : Program} {ops : Array Oper} {o : Oper} {a : Act} {w : World} {K : Act → World → Prop} {Q : Exit → Act → World → Prop} {E : Prop}
    (hg : o.guard = none) (d x : Operand) (dT sT : TypeId) (hop : o.op = Op.call { callee := Callee.builtin Builtin.copy, args := #[d, x], argTypes := #[dT, sT] })
    (v u : Value) (hd : a.eval d = v) (hx : a.eval x = u) {v' : Value} {w' : World} (hr : (Builtin.copy_ #[dT, sT] o.type #[v, u]).run P w = .ok v' w') (hK : K (a.put o.dst v') w') :
    if Region.wanted o (yielded ops a.tmps) = true then Oper.wp P o a w K Q else E := by
  have hw : Region.wanted o (yielded ops a.tmps) = true := by simp [Region.wanted, hg]
  rw [if_pos hw]
  unfold Oper.wp
  simp [execOp, hop, resolve, invoke, builtin, hd, hx, hr, Result.andThen]
  exact hK

theorem flat_len {α : Type} (f : α → List Value) {k : Nat} (hf : ∀ x, (f x).length = k) (L : List α) : (L.flatMap f).length = L.length * k := by
  induction L with
  | nil => simp
  | cons x r ih => rw [List.flatMap_cons, List.length_append, ih, hf, List.length_cons, Nat.succ_mul]; omega
theorem flat_split {α : Type} (f : α → List Value) (L : List α) (i : Nat) : L.flatMap f = (L.take i).flatMap f ++ (L.drop i).flatMap f := by
  rw [← List.flatMap_append, List.take_append_drop]
theorem flat_one {α : Type} (f : α → List Value) {P : Value → Prop} (h : ∀ x, ∀ v ∈ f x, P v) (L : List α) : ∀ v ∈ L.flatMap f, P v := fun v hv => by
  obtain ⟨x, _, hx⟩ := List.mem_flatMap.1 hv
  exact h x v hx
/-- The cells behind a deletion. -/
theorem cells_del {α : Type} (f : α → List Value) {k : Nat} (hf : ∀ x, (f x).length = k) (L : List α) (T zs : List Value) (i : Nat) (hi : i < L.length) (_hz : zs.length = k) (_hT : k ≤ k + T.length) :
    (splice (splice (L.flatMap f ++ T) (i * k) ((L.drop (i + 1)).flatMap f)) ((L.length - 1) * k) zs).take ((L.length - 1) * k) = (L.take i ++ L.drop (i + 1)).flatMap f := by
  have hl : ((L.take i ++ L.drop (i + 1)).flatMap f).length = (L.length - 1) * k := by
    rw [flat_len f hf, List.length_append, List.length_take, List.length_drop]
    congr 1
    omega
  have h1 : (L.flatMap f ++ T).take (i * k) = (L.take i).flatMap f := by
    rw [flat_split f L i, List.append_assoc, List.take_left']
    rw [flat_len f hf, List.length_take, Nat.min_eq_left (by omega)]
  have h2 : splice (L.flatMap f ++ T) (i * k) ((L.drop (i + 1)).flatMap f) = (L.take i ++ L.drop (i + 1)).flatMap f ++ (L.flatMap f ++ T).drop (i * k + ((L.drop (i + 1)).flatMap f).length) := by
    unfold splice
    rw [h1, List.flatMap_append, List.append_assoc]
  rw [h2]
  unfold splice
  rw [List.take_left' hl, List.take_left' hl]

section
variable {P : Program} {w : World}
/-- append of whatever slice is read as a list, to a row of the call's own. -/
theorem wpList_append_slR {α : Type} (f : α → List Value) {ops : Array Oper} {rest : List Oper} {o : Oper} {a : Act} {Q : Exit → Act → World → Prop} (hgd : o.guard = none) (s x : Operand) (t : TypeId)
    (ho : o.op = .call { callee := .builtin .append, args := #[s, x], argTypes := #[t, t] })
    (base : Nat) (e : TypeId) (i : TypeInfo) (z : Value) (size bytes : Nat) (ht : P.underlying t = some (.slice e)) (hi : P.info? e = some i) (hz : i.zero = some z)
    (hsize : i.size = size) (hby : i.bytes = bytes) (hzs : z.cells.size = size) (hsz : 0 < size)
    (v : Value) (n : Nat) (ys : List Value) (hs : a.eval s = v) (hown : w.ownsRow base e size v n ys)
    (vs : Value) (xs : List α) (B : Nat) (hx : a.eval x = vs) (hSl : SlR (Pl f) size w B vs xs) (hf : ∀ y, (f y).length = size) (h1 : ∀ y, ∀ u ∈ f y, u.oneCell' = true)
    (h63 : n + xs.length ≤ maxLen) (hbytes : (n + xs.length) * bytes ≤ 140737488355328) (hbase : base ≤ w.heap.size)
    (h : ∀ v' w', w'.ownsRow base e size v' (n + xs.length) (ys ++ xs.flatMap f) → w.grownBy w' v.ownBlock → (v ≠ .slice none 0 0 → v' ≠ .slice none 0 0) → wpList P ops Q rest (a.put o.dst v') w') : wpList P ops Q (o :: rest) a w := by
  obtain ⟨A, c, rfl, hc, hm, hel⟩ := hSl
  have hsome : ∀ ad : Addr, A = some ad → (∀ j u, (xs.flatMap f)[j]? = some u → w.cell? (ad.add j) = some u) → wpList P ops Q (o :: rest) a w := fun ad hA hcells => by
    subst hA
    exact wpList_append_own w hgd s x t ho base e i z size bytes ht hi hz hsize hby hzs hsz v n ys hs hown ad xs.length c (xs.flatMap f) hx (flat_len f hf xs) hcells (flat_one f (fun y u hu => h1 y u hu) xs) h63 hbytes hbase (fun v' w' g1 g2 g3 => h v' w' g1 g2 (fun hv hv' => hv (g3.1 hv').1))
  by_cases h0 : xs = []
  · subst h0
    cases A with
    | some ad => exact hsome ad rfl (fun j u hj => by simp at hj)
    | none =>
      have hrun : (Builtin.append_ #[t, t] o.type #[v, .slice none 0 c]).run P w = .ok v w := by
        rcases hown.2 with ⟨rfl, rfl⟩ | ⟨g, cap, cur, rfl, _, _, hnc, _⟩
        · simp [Builtin.append_, run_underlying ht, sizeOf, typeInfo, hi, Builtin.lenOf, Builtin.firstCells]
        · simp [Builtin.append_, run_underlying ht, sizeOf, typeInfo, hi, Builtin.lenOf, Builtin.firstCells, hnc, storeCells]
      refine wpList_plain hgd fun K hK => ?_
      unfold Oper.wp
      have hx' : a.eval x = .slice none 0 c := hx
      simp [execOp, ho, resolve, invoke, builtin, hs, hx', hrun, Result.andThen]
      exact hK _ _ (h v w (by simpa using hown) ⟨rfl, rfl, rfl, Nat.le_refl _, fun _ _ _ => rfl⟩ (fun hv => hv))
  · obtain ⟨b, off, hA, hb, hcell⟩ := hel (List.length_pos_iff.2 h0)
    refine hsome ⟨b, off, none⟩ hA (fun j u hj => ?_)
    have hjl : j < xs.length * size := by rw [← flat_len f hf xs]; exact (List.getElem?_eq_some_iff.1 hj).1
    have hq : j / size < xs.length := Nat.div_lt_of_lt_mul (by rw [Nat.mul_comm]; exact hjl)
    obtain ⟨us, hl, hp, hcl⟩ := hcell (j / size) xs[j / size] (List.getElem?_eq_getElem hq)
    have hp : us = f xs[j / size] := hp
    subst hp
    have hmod : j % size < size := Nat.mod_lt _ hsz
    have hu : (f xs[j / size])[j % size]? = some u := by
      have hjj : j = (j / size) * size + j % size := by rw [Nat.mul_comm]; exact (Nat.div_add_mod j size).symm
      have hfa : ∀ (L : List α) (q r : Nat) (hq : q < L.length), r < size → (L.flatMap f)[q * size + r]? = (f L[q])[r]? := by
        intro L
        induction L with
        | nil => intro q r hq; cases hq
        | cons y L ih =>
          intro q r hq hr
          rw [List.flatMap_cons]
          cases q with
          | zero => rw [Nat.zero_mul, Nat.zero_add, List.getElem?_append_left (by rw [hf]; exact hr)]; rfl
          | succ q =>
            rw [List.getElem?_append_right (by rw [hf, Nat.succ_mul]; omega), hf, Nat.succ_mul, show q * size + size + r - size = q * size + r by omega]
            exact ih q r (by simpa using hq) hr
      rw [← hfa xs (j / size) (j % size) hq hmod, ← hjj]
      exact hj
    have := hcl (j % size) u hu
    have hjj : (j / size) * size + j % size = j := by rw [Nat.mul_comm]; exact Nat.div_add_mod j size
    rw [Nat.add_assoc, hjj] at this
    rw [Addr.add_lit]
    exact this
end
end Go.Proofs.Ytlbnebmdolnagaa

namespace Go.Proofs.Ytlbnebmdolnagaa
open Go.RowKit Go.Lib

/-- A size: negative, or what is asked holds and the number is what is left. -/
def SzPost (p : Prop) (w : World) (e : Ending) (w' : World) : Prop :=
  ∃ r : Int, e = .returned (.int .i64 r) ∧ (r < 0 ∨ (p ∧ 0 ≤ r ∧ r ≤ 1048576)) ∧ Below w.heap.size w w'
def FitsE (e : Edit) : Prop := e.old.size ≤ 1048576 ∧ e.new.size ≤ 1048576
theorem row_fill4 {w : World} {g k : Nat} {L Z : List Value} {a b c d : Value} (h : L.length = Z.length) (hz : k * 4 + 4 ≤ Z.length) (hr : Row w g (mix L Z (k * 4))) (h0 : L[k * 4 + 0]? = some a) (h1 : L[k * 4 + 1]? = some b) (h2 : L[k * 4 + 2]? = some c) (h3 : L[k * 4 + 3]? = some d) :
    Row ((((w.setCell ⟨g, k * 4, none⟩ a).setCell ⟨g, k * 4 + 1, none⟩ b).setCell ⟨g, k * 4 + 2, none⟩ c).setCell ⟨g, k * 4 + 3, none⟩ d) g (mix L Z ((k + 1) * 4)) := by
  have e : mix L Z ((k + 1) * 4) = ((((mix L Z (k * 4)).set (k * 4) a).set (k * 4 + 1) b).set (k * 4 + 2) c).set (k * 4 + 3) d := by
    rw [show (k + 1) * 4 = k * 4 + 1 + 1 + 1 + 1 by omega, mix_succ h h3, mix_succ h h2, mix_succ h h1, mix_succ h (by simpa using h0)]
  have hl := mix_length h (k * 4)
  rw [e]
  exact (((hr.set _ _ (by omega)).set _ _ (by rw [List.length_set]; omega)).set _ _ (by rw [List.length_set, List.length_set]; omega)).set _ _ (by rw [List.length_set, List.length_set, List.length_set]; omega)
/-- A slice of its own that a function hands back. -/
def RetL {α : Type} (f : α → List Value) (_ : Nat) (xs : List α) (w : World) (e : Ending) (w' : World) : Prop :=
  ∃ g c, e = .returned (.slice (some ⟨g, 0, none⟩) xs.length c) ∧ xs.length ≤ c ∧ c ≤ maxLen ∧ w.heap.size ≤ g ∧ g < w'.heap.size ∧ Row w' g (xs.flatMap f) ∧ Below w.heap.size w w'
theorem flat_ints (zs : List Int) : zs.flatMap intCells = zs.map (Value.int .i64) := by
  induction zs with
  | nil => rfl
  | cons z zs ih => rw [List.flatMap_cons, ih]; rfl
theorem make_row {P : Program} (w : World) (t e : TypeId) (i : TypeInfo) (z : Value) (size : Nat) (ht : P.underlying t = some (.slice e)) (hi : P.info? e = some i) (hz : i.zero = some z) (hsize : i.size = size) (n : Nat) (hb : i.bytes * n ≤ 281474976710656) (hn : n ≤ 1048576) :
    ∃ w' Z, (Instr.makeSlice t (.int .i64 (n : Int)) (.int .i64 (n : Int))).run P w = .ok (.slice (some ⟨w.heap.size, 0, none⟩) n n) w' ∧ Row w' w.heap.size Z ∧ Z.length = n * size ∧ w.heap.size < w'.heap.size ∧ Below w.heap.size w w' := by
  subst hsize
  have hb' : (i.bytes : Int) * (n : Int) ≤ 281474976710656 := by
    have h : ((i.bytes * n : Nat) : Int) ≤ 281474976710656 := by omega
    rwa [Int.natCast_mul] at h
  have hr := run_make (P := P) w t e i z ht hi hz .i64 .i64 n n (by omega) (Int.le_refl _) hb' (by omega)
  simp only [Int.toNat_natCast] at hr
  exact ⟨_, _, hr, Row.new _ _ _, by rw [Array.length_toList, size_madeCells], by simp, (Below.refl _ _).alloc (Nat.le_refl _) _⟩
theorem RetL.ints {zs : List Int} {w w' : World} {e : Ending} (h : RetL intCells 1 zs w e w') : ∃ A c, e = .returned (.slice A zs.length c) ∧ Ints w' w'.heap.size (.slice A zs.length c) zs ∧ Below w.heap.size w w' := by
  obtain ⟨g, c, he, h1, h2, h3, h4, h5, h6⟩ := h
  exact ⟨_, c, he, SlR.of_row intCells (fun _ => rfl) h5 h4 h1 h2, h6⟩
theorem RetL.edits {es : List Edit} {w w' : World} {e : Ending} (h : RetL editCells 4 es w e w') : ∃ A c, e = .returned (.slice A es.length c) ∧ Edits w' w'.heap.size (.slice A es.length c) es ∧ Below w.heap.size w w' := by
  obtain ⟨g, c, he, h1, h2, h3, h4, h5, h6⟩ := h
  exact ⟨_, c, he, SlR.of_row editCells (fun _ => rfl) h5 h4 h1 h2, h6⟩
end Go.Proofs.Ytlbnebmdolnagaa

namespace Go.Proofs.Ytlbnebmdolnagaa
open Go.RowKit Go.Lib

/-- What lies outside of F is as it was. -/
structure Touch (F : Nat → Prop) (w w' : World) : Prop where
  os : w'.os = w.os
  tape : w'.tape = w.tape
  output : w'.output = w.output
  size : w.heap.size ≤ w'.heap.size
  block : ∀ b, b < w.heap.size → ¬ F b → w'.heap[b]? = w.heap[b]?
theorem Touch.refl (F : Nat → Prop) (w : World) : Touch F w w := ⟨rfl, rfl, rfl, Nat.le_refl _, fun _ _ _ => rfl⟩
theorem Touch.trans {F : Nat → Prop} {a b c : World} (h : Touch F a b) (k : Touch F b c) : Touch F a c :=
  ⟨k.os.trans h.os, k.tape.trans h.tape, k.output.trans h.output, Nat.le_trans h.size k.size, fun i hi hF => (k.block i (Nat.lt_of_lt_of_le hi h.size) hF).trans (h.block i hi hF)⟩
theorem Touch.mono {F G : Nat → Prop} {w w' : World} (h : Touch F w w') (hFG : ∀ b, b < w.heap.size → F b → G b) : Touch G w w' :=
  ⟨h.os, h.tape, h.output, h.size, fun b hb hG => h.block b hb (fun hF => hG (hFG b hb hF))⟩
theorem Touch.of_below {F : Nat → Prop} {w w' : World} (h : Below w.heap.size w w') : Touch F w w' := ⟨h.os, h.tape, h.output, h.size, fun b hb _ => h.block b hb⟩
theorem Touch.of_grown {F : Nat → Prop} {w w' : World} {r : Option Nat} (h : w.grownBy w' r) (hr : ∀ b, r = some b → F b) : Touch F w w' :=
  ⟨h.os, h.tape, h.output, h.size, fun b hb hF => h.block b hb (fun e => hF (hr b e.symm))⟩
theorem Touch.below {F : Nat → Prop} {B : Nat} {w w' : World} (h : Touch F w w') (hB : B ≤ w.heap.size) (hF : ∀ b, F b → B ≤ b) : Below B w w' :=
  ⟨h.os, h.tape, h.output, h.size, fun b hb => h.block b (by omega) (fun hf => by have := hF b hf; omega)⟩
theorem Touch.setCell {F : Nat → Prop} {a w : World} (h : Touch F a w) {p : Addr} (hp : F p.block) (u : Value) : Touch F a (w.setCell p u) :=
  ⟨h.os, h.tape, h.output, by simpa [World.setCell] using h.size, fun i hi hF => (Below.heap_setCell w p u i (by
    rintro rfl
    exact hF hp)).trans (h.block i hi hF)⟩
theorem Row.touch {F : Nat → Prop} {w w' : World} {g : Nat} {L : List Value} (h : Row w g L) (hg : g < w.heap.size) (ht : Touch F w w') (hF : ¬ F g) : Row w' g L :=
  ⟨fun j u hj => (World.cell?_of_block (a := ⟨g, j, none⟩) (ht.block g hg hF)).trans (h.cell j u hj), fun j hj => (World.frozen?_of_block (a := ⟨g, j, none⟩) (ht.block g hg hF)).trans (h.free j hj)⟩
/-- A slice's own block, if it holds anything. -/
def sBlk {α : Type} (xs : List α) (v : Value) (b : Nat) : Prop := xs ≠ [] ∧ v.ownBlock = some b
theorem OwnL.touch {α : Type} {f : α → List Value} {xs : List α} {base : Nat} {w w' : World} {v : Value} {F : Nat → Prop} (h : OwnL f xs base w v) (ht : Touch F w w') (hF : ∀ b, sBlk xs v b → ¬ F b) : OwnL f xs base w' v := by
  obtain ⟨A, c, rfl, h1, h2, h3⟩ := h
  refine ⟨A, c, rfl, h1, h2, fun h0 => ?_⟩
  obtain ⟨g, rfl, hg, hlt, hr⟩ := h3 h0
  exact ⟨g, rfl, hg, Nat.lt_of_lt_of_le hlt ht.size, hr.touch hlt ht (hF g ⟨h0, rfl⟩)⟩
theorem OwnL.sblk {α : Type} {f : α → List Value} {xs : List α} {base : Nat} {w : World} {v : Value} (h : OwnL f xs base w v) {b : Nat} (hb : sBlk xs v b) : base ≤ b ∧ b < w.heap.size := by
  obtain ⟨A, c, rfl, h1, h2, h3⟩ := h
  obtain ⟨g, rfl, hg, hlt, hr⟩ := h3 hb.1
  have := hb.2
  injection this with this
  have : g = b := this
  omega
theorem sBlk_len {α β : Type} {xs : List α} {ys : List β} {v : Value} {b : Nat} (h : sBlk xs v b) (hl : xs.length = ys.length) : sBlk ys v b :=
  ⟨fun e => h.1 (by rw [e] at hl; exact List.eq_nil_of_length_eq_zero hl), h.2⟩

/-- What an element's slices owe, and where they lie. -/
structure Kind (β : Type) where
  cells : β → List Value
  size : Nat
  inn : Nat → World → β → Prop
  blk : β → Nat → Prop
  len : ∀ x, (cells x).length = size
  touch : ∀ {base w w' x} {F : Nat → Prop}, inn base w x → Touch F w w' → (∀ b, blk x b → ¬ F b) → inn base w' x
  lt : ∀ {base w x b}, inn base w x → blk x b → base ≤ b ∧ b < w.heap.size
  less : ∀ {base b w x}, inn base w x → b ≤ base → inn b w x
/-- A tree of the call's own. -/
structure TreeO {β : Type} (K : Kind β) (base : Nat) (w : World) (v : Value) (L : List β) : Prop where
  row : OwnL K.cells L base w v
  inn : ∀ x ∈ L, K.inn base w x
  out : ∀ q ∈ L, ∀ b, K.blk q b → v.ownBlock ≠ some b
  two : L.Pairwise (fun p q => ∀ b, K.blk p b → ¬ K.blk q b)
def Foot {β : Type} (K : Kind β) (v : Value) (L : List β) (b : Nat) : Prop := sBlk L v b ∨ ∃ q ∈ L, K.blk q b
theorem TreeO.touch {β : Type} {K : Kind β} {base : Nat} {w w' : World} {v : Value} {L : List β} {F : Nat → Prop} (h : TreeO K base w v L) (ht : Touch F w w') (hF : ∀ b, Foot K v L b → ¬ F b) : TreeO K base w' v L :=
  ⟨h.row.touch ht (fun b hb => hF b (.inl hb)), fun x hx => K.touch (h.inn x hx) ht (fun b hb => hF b (.inr ⟨x, hx, hb⟩)), h.out, h.two⟩
theorem TreeO.below {β : Type} {K : Kind β} {base : Nat} {w w' : World} {v : Value} {L : List β} (h : TreeO K base w v L) (hb : Below w.heap.size w w') : TreeO K base w' v L :=
  h.touch (F := fun _ => False) (Touch.of_below hb) (fun _ _ h => h)
theorem TreeO.lt {β : Type} {K : Kind β} {base : Nat} {w : World} {v : Value} {L : List β} (h : TreeO K base w v L) {b : Nat} (hb : Foot K v L b) : base ≤ b ∧ b < w.heap.size := by
  rcases hb with hb | ⟨q, hq, hb⟩
  · exact h.row.sblk hb
  · exact K.lt (h.inn q hq) hb
theorem TreeO.less {β : Type} {K : Kind β} {base b : Nat} {w : World} {v : Value} {L : List β} (h : TreeO K base w v L) (hb : b ≤ base) : TreeO K b w v L :=
  ⟨h.row.less hb, fun x hx => K.less (h.inn x hx) hb, h.out, h.two⟩
theorem TreeO.slR {β : Type} {K : Kind β} {base : Nat} {w : World} {v : Value} {L : List β} (h : TreeO K base w v L) : SlR (Pl K.cells) K.size w w.heap.size v L := h.row.slR K.len
theorem TreeO.nil {β : Type} (K : Kind β) (base : Nat) (w : World) (A : Option Addr) (c : Nat) (hc : c ≤ maxLen) : TreeO K base w (.slice A 0 c) [] :=
  ⟨⟨A, c, rfl, Nat.zero_le _, hc, fun h => absurd rfl h⟩, (fun x hx => by cases hx), (fun x hx => by cases hx), List.Pairwise.nil⟩
/-- One element's cells. -/
theorem TreeO.cell {β : Type} {K : Kind β} {base : Nat} {w : World} {v : Value} {L : List β} (h : TreeO K base w v L) {j : Nat} {x : β} (hx : L[j]? = some x) : ∃ g c, v = .slice (some ⟨g, 0, none⟩) L.length c ∧ L.length ≤ c ∧ c ≤ maxLen ∧ base ≤ g ∧ g < w.heap.size ∧ ∀ i u, (K.cells x)[i]? = some u → w.cell? ⟨g, j * K.size + i, none⟩ = some u ∧ w.frozen? ⟨g, j * K.size + i, none⟩ = false := by
  obtain ⟨A, c, rfl, h1, h2, h3⟩ := h.row
  have hne : L ≠ [] := fun e => by rw [e] at hx; simp at hx
  obtain ⟨g, rfl, hg, hlt, hr⟩ := h3 hne
  refine ⟨g, c, rfl, h1, h2, hg, hlt, fun i u hu => ?_⟩
  have hf := flat_at K.cells K.len L j x i u hx hu (by rw [← K.len x]; exact (List.getElem?_eq_some_iff.1 hu).1)
  exact ⟨hr.cell _ u hf, hr.free _ (List.getElem?_eq_some_iff.1 hf).1⟩
theorem flat_set {β : Type} (K : Kind β) : ∀ (L : List β) (j : Nat) (x x' : β) (i : Nat) (u : Value), L[j]? = some x → i < K.size → K.cells x' = (K.cells x).set i u → (L.flatMap K.cells).set (j * K.size + i) u = (L.set j x').flatMap K.cells
  | [], _, _, _, _, _, h, _, _ => by simp at h
  | y :: L, 0, x, x', i, u, h, hi, hc => by
    rw [List.getElem?_cons_zero] at h
    injection h with h
    subst h
    rw [List.set_cons_zero, List.flatMap_cons, List.flatMap_cons, Nat.zero_mul, Nat.zero_add, hc, List.set_append, if_pos (by rw [K.len]; exact hi)]
  | y :: L, j + 1, x, x', i, u, h, hi, hc => by
    rw [List.getElem?_cons_succ] at h
    rw [List.set_cons_succ, List.flatMap_cons, List.flatMap_cons, List.set_append, if_neg (by rw [K.len, Nat.succ_mul]; omega), K.len, show (j + 1) * K.size + i - K.size = j * K.size + i by rw [Nat.succ_mul]; omega, flat_set K L j x x' i u h hi hc]
theorem pair_set {β : Type} {R : β → β → Prop} : ∀ (L : List β) (j : Nat) (x x' : β), L[j]? = some x → L.Pairwise R → (∀ p, R p x → R p x') → (∀ p, R x p → R x' p) → (L.set j x').Pairwise R
  | [], _, _, _, h, _, _, _ => by simp at h
  | y :: L, 0, x, x', h, hp, h1, h2 => by
    rw [List.getElem?_cons_zero] at h
    injection h with h
    subst h
    rw [List.set_cons_zero, List.pairwise_cons]
    rw [List.pairwise_cons] at hp
    exact ⟨fun p hp' => h2 p (hp.1 p hp'), hp.2⟩
  | y :: L, j + 1, x, x', h, hp, h1, h2 => by
    rw [List.getElem?_cons_succ] at h
    rw [List.pairwise_cons] at hp
    rw [List.set_cons_succ, List.pairwise_cons]
    refine ⟨fun p hp' => ?_, pair_set L j x x' h hp.2 h1 h2⟩
    rcases List.mem_or_eq_of_mem_set hp' with hm | rfl
    · exact hp.1 p hm
    · exact h1 y (hp.1 x (List.mem_of_getElem? h))
theorem two_other {β : Type} {K : Kind β} {L : List β} (h : L.Pairwise (fun p q => ∀ b, K.blk p b → ¬ K.blk q b)) {j : Nat} {x : β} (hx : L[j]? = some x) {x' : β} : ∀ q ∈ L.set j x', q = x' ∨ (q ∈ L ∧ ∀ b, K.blk x b → ¬ K.blk q b) := fun q hq => by
  obtain ⟨i, hi⟩ := List.getElem?_of_mem hq
  by_cases e : j = i
  · subst e
    rw [List.getElem?_set_self (List.getElem?_eq_some_iff.1 hx).1] at hi
    injection hi with hi
    exact .inl hi.symm
  · rw [List.getElem?_set_ne e] at hi
    refine .inr ⟨List.mem_of_getElem? hi, fun b hb hq => ?_⟩
    obtain ⟨lj, ej⟩ := List.getElem?_eq_some_iff.1 hx
    obtain ⟨li, ei⟩ := List.getElem?_eq_some_iff.1 hi
    have hp := List.pairwise_iff_getElem.1 h
    rcases Nat.lt_or_ge j i with hlt | hge
    · exact hp j i lj li hlt b (by rw [ej]; exact hb) (by rw [ei]; exact hq)
    · exact hp i j li lj (by omega) b (by rw [ei]; exact hq) (by rw [ej]; exact hb)
/-- A cell of an element is written. -/
theorem TreeO.setCell {β : Type} {K : Kind β} {base : Nat} {w : World} {v : Value} {L : List β} (h : TreeO K base w v L) {j : Nat} {x x' : β} (hx : L[j]? = some x) {g : Nat} (hv : v.ownBlock = some g) (i : Nat) (hi : i < K.size) (u : Value) (hc : K.cells x' = (K.cells x).set i u)
    (hb : ∀ b, K.blk x' b ↔ K.blk x b) (hin : ∀ w, K.inn base w x → K.inn base w x') : TreeO K base (w.setCell ⟨g, j * K.size + i, none⟩ u) v (L.set j x') := by
  obtain ⟨A, c, rfl, h1, h2, h3⟩ := h.row
  have hne : L ≠ [] := fun e => by rw [e] at hx; simp at hx
  obtain ⟨g', rfl, hg, hlt, hr⟩ := h3 hne
  injection hv with hv
  have hv : g' = g := hv
  subst hv
  have hlj := (List.getElem?_eq_some_iff.1 hx).1
  have ht : Touch (fun b => b = g') w (w.setCell ⟨g', j * K.size + i, none⟩ u) := Touch.setCell (F := fun b => b = g') (Touch.refl _ w) rfl u
  refine ⟨⟨_, c, by rw [List.length_set], by rw [List.length_set]; exact h1, h2, fun _ => ⟨g', rfl, hg, by simpa [World.setCell] using hlt, ?_⟩⟩, fun q hq => ?_, fun q hq b hqb => ?_, ?_⟩
  · rw [← flat_set K L j x x' i u hx hi hc]
    refine hr.set _ u ?_
    have : (j + 1) * K.size ≤ L.length * K.size := Nat.mul_le_mul_right _ hlj
    rw [Nat.succ_mul] at this
    rw [flat_len K.cells K.len]
    omega
  · rcases List.mem_or_eq_of_mem_set hq with hm | rfl
    · exact K.touch (h.inn q hm) ht (fun b hb' e => h.out q hm b hb' (by rw [e]; rfl))
    · have hm := List.mem_of_getElem? hx
      exact hin _ (K.touch (h.inn x hm) ht (fun b hb' e => h.out x hm b hb' (by rw [e]; rfl)))
  · rcases List.mem_or_eq_of_mem_set hq with hm | rfl
    · exact h.out q hm b hqb
    · exact h.out x (List.mem_of_getElem? hx) b ((hb b).1 hqb)
  · exact pair_set L j x x' hx h.two (fun p hp b h1 h2 => hp b h1 ((hb b).1 h2)) (fun p hp b h1 h2 => hp b ((hb b).1 h1) h2)
/-- What an element's slices hold is written. -/
theorem TreeO.inner {β : Type} {K : Kind β} {base : Nat} {w w' : World} {v : Value} {L : List β} {F : Nat → Prop} (h : TreeO K base w v L) {j : Nat} {x x' : β} (hx : L[j]? = some x) (ht : Touch F w w') (hF : ∀ b, b < w.heap.size → F b → K.blk x b) (hc : K.cells x' = K.cells x)
    (hb : ∀ b, K.blk x' b ↔ K.blk x b) (hin : K.inn base w' x') : TreeO K base w' v (L.set j x') := by
  have hm := List.mem_of_getElem? hx
  have hlj := (List.getElem?_eq_some_iff.1 hx).1
  have e : (L.set j x').flatMap K.cells = L.flatMap K.cells := by
    obtain ⟨hl, he⟩ := List.getElem?_eq_some_iff.1 hx
    rw [List.flatMap_def, List.flatMap_def, List.map_set, hc, ← List.map_set, ← he, List.set_getElem_self]
  have ht' := ht.mono hF
  refine ⟨?_, fun q hq => ?_, fun q hq b hqb => ?_, pair_set L j x x' hx h.two (fun p hp b h1 h2 => hp b h1 ((hb b).1 h2)) (fun p hp b h1 h2 => hp b ((hb b).1 h1) h2)⟩
  · obtain ⟨A, c, hv, h1, h2, h3⟩ := h.row.touch ht' (fun b hb' hk => h.out x hm b hk hb'.2)
    refine ⟨A, c, by rw [List.length_set]; exact hv, by rw [List.length_set]; exact h1, h2, fun h0 => ?_⟩
    obtain ⟨g, e1, e2, e3, e4⟩ := h3 (fun e => h0 (by rw [e]; rfl))
    exact ⟨g, e1, e2, e3, by rw [e]; exact e4⟩
  · rcases two_other h.two hx q hq with rfl | ⟨hq', hd⟩
    · exact hin
    · exact K.touch (h.inn q hq') ht' (fun b hb' hk => hd b hk hb')
  · rcases List.mem_or_eq_of_mem_set hq with hm' | rfl
    · exact h.out q hm' b hqb
    · exact h.out x hm b ((hb b).1 hqb)
theorem foot_set {β : Type} {K : Kind β} {v : Value} {L : List β} {j : Nat} {x x' : β} (hx : L[j]? = some x) (hb : ∀ b, K.blk x' b ↔ K.blk x b) (b : Nat) : Foot K v (L.set j x') b ↔ Foot K v L b := by
  have hm := List.mem_of_getElem? hx
  have hlj := (List.getElem?_eq_some_iff.1 hx).1
  unfold Foot
  constructor
  · rintro (h | ⟨q, hq, h⟩)
    · exact .inl (sBlk_len h (by simp))
    · rcases List.mem_or_eq_of_mem_set hq with hm' | rfl
      · exact .inr ⟨q, hm', h⟩
      · exact .inr ⟨x, hm, (hb b).1 h⟩
  · rintro (h | ⟨q, hq, h⟩)
    · exact .inl (sBlk_len h (by simp))
    · obtain ⟨i, hi⟩ := List.getElem?_of_mem hq
      by_cases e : j = i
      · subst e
        rw [hx] at hi
        injection hi with hi
        subst hi
        exact .inr ⟨x', List.mem_of_getElem? (List.getElem?_set_self hlj), (hb b).2 h⟩
      · exact .inr ⟨q, List.mem_of_getElem? (i := i) (by rw [List.getElem?_set_ne e]; exact hi), h⟩

theorem Row.puts {g : Nat} : ∀ (C X Y : List Value) (w : World), Row w g (X ++ Y) → C.length ≤ Y.length → Row (w.setCells g X.length C) g (X ++ (C ++ Y.drop C.length))
  | [], X, Y, w, h, _ => by simpa [World.setCells] using h
  | c :: C, X, [], w, h, hl => by simp at hl
  | c :: C, X, y :: Y, w, h, hl => by
    have h1 := h.set X.length c (by rw [List.length_append, List.length_cons]; omega)
    rw [List.set_append_right _ _ (Nat.le_refl _), Nat.sub_self, List.set_cons_zero] at h1
    have h2 := Row.puts C (X ++ [c]) Y _ (by rw [List.append_assoc]; exact h1) (by simpa using hl)
    rw [List.length_append, List.length_singleton, List.append_assoc] at h2
    rw [World.setCells]
    simpa using h2
theorem setCells_size (g : Nat) : ∀ (vs : List Value) (o : Nat) (w : World), (w.setCells g o vs).heap.size = w.heap.size
  | [], _, _ => rfl
  | v :: r, o, w => by rw [World.setCells, setCells_size g r]; simp
theorem touch_setCells {F : Nat → Prop} {a : World} (g : Nat) (hg : F g) : ∀ (vs : List Value) (o : Nat) (w : World), Touch F a w → Touch F a (w.setCells g o vs)
  | [], _, _, h => h
  | v :: r, o, w, h => by rw [World.setCells]; exact touch_setCells g hg r (o + 1) _ (h.setCell hg _)
theorem below_setCells {B : Nat} {a : World} (g : Nat) (hg : B ≤ g) : ∀ (vs : List Value) (o : Nat) (w : World), Below B a w → Below B a (w.setCells g o vs)
  | [], _, _, h => h
  | v :: r, o, w, h => by rw [World.setCells]; exact below_setCells g hg r (o + 1) _ (h.setCell hg _)
/-- A row of structs that is being filled. -/
structure Fil {β : Type} (K : Kind β) (base n : Nat) (w : World) (g : Nat) (L : List β) (Z : List Value) : Prop where
  row : Row w g (L.flatMap K.cells ++ Z)
  len : L.length * K.size + Z.length = n * K.size
  inn : ∀ x ∈ L, K.inn base w x
  out : ∀ x ∈ L, ∀ b, K.blk x b → b ≠ g
  two : L.Pairwise (fun p q => ∀ b, K.blk p b → ¬ K.blk q b)
theorem Fil.below {β : Type} {K : Kind β} {base n : Nat} {w w' : World} {g : Nat} {L : List β} {Z : List Value} (h : Fil K base n w g L Z) (hb : Below w.heap.size w w') (hg : g < w.heap.size) : Fil K base n w' g L Z :=
  ⟨h.row.below hb hg, h.len, fun x hx => K.touch (F := fun _ => False) (h.inn x hx) (Touch.of_below hb) (fun _ _ h => h), h.out, h.two⟩
theorem Fil.start {β : Type} {K : Kind β} {base n : Nat} {w : World} {g : Nat} {Z : List Value} (h : Row w g Z) (hl : Z.length = n * K.size) : Fil K base n w g ([] : List β) Z :=
  ⟨by simpa using h, by simpa using hl, (fun x hx => by cases hx), (fun x hx => by cases hx), List.Pairwise.nil⟩
/-- The next struct's cells, which can be written. -/
theorem Fil.cell {β : Type} {K : Kind β} {base n : Nat} {w : World} {g : Nat} {L : List β} {Z : List Value} (h : Fil K base n w g L Z) {k : Nat} (hk : L.length = k) (hlt : k < n) {i : Nat} (hi : i < K.size) : (∃ u, w.cell? ⟨g, k * K.size + i, none⟩ = some u) ∧ w.frozen? ⟨g, k * K.size + i, none⟩ = false := by
  subst hk
  have : (L.length + 1) * K.size ≤ n * K.size := Nat.mul_le_mul_right _ hlt
  rw [Nat.succ_mul] at this
  have hl : L.length * K.size + i < (L.flatMap K.cells ++ Z).length := by
    rw [List.length_append, flat_len K.cells K.len, h.len]
    omega
  exact ⟨⟨_, h.row.cell _ _ (List.getElem?_eq_getElem hl)⟩, h.row.free _ hl⟩
theorem Fil.step {β : Type} {K : Kind β} {base n : Nat} {w : World} {g : Nat} {L : List β} {Z : List Value} (h : Fil K base n w g L Z) {k : Nat} (hk : L.length = k) (hlt : k < n) {x : β} {lo : Nat} (hx : K.inn base w x) (hlo : ∀ b, K.blk x b → lo ≤ b) (hg : g < lo) (hL : ∀ q ∈ L, ∀ b, K.blk q b → b < lo) :
    Fil K base n (w.setCells g (k * K.size) (K.cells x)) g (L ++ [x]) (Z.drop K.size) := by
  subst hk
  have hmul : (L.length + 1) * K.size ≤ n * K.size := Nat.mul_le_mul_right _ hlt
  rw [Nat.succ_mul] at hmul
  have hl := h.len
  have hlen := flat_len K.cells K.len L
  have ht : Touch (fun b => b = g) w (w.setCells g (L.length * K.size) (K.cells x)) := touch_setCells (F := fun b => b = g) g rfl _ _ _ (Touch.refl _ _)
  refine ⟨?_, ?_, fun q hq => ?_, fun q hq b hb => ?_, ?_⟩
  · have := Row.puts (K.cells x) (L.flatMap K.cells) Z w h.row (by rw [K.len]; omega)
    rw [hlen, K.len] at this
    rw [List.flatMap_append, List.flatMap_cons, List.flatMap_nil, List.append_nil, List.append_assoc]
    exact this
  · rw [List.length_append, List.length_singleton, List.length_drop, Nat.succ_mul]
    omega
  · rcases List.mem_append.1 hq with hq | hq
    · exact K.touch (h.inn q hq) ht (fun b hb e => h.out q hq b hb e)
    · rw [List.mem_singleton.1 hq]
      exact K.touch hx ht (fun b hb e => by have := hlo b hb; omega)
  · rcases List.mem_append.1 hq with hq | hq
    · exact h.out q hq b hb
    · rw [List.mem_singleton.1 hq] at hb
      have := hlo b hb
      omega
  · rw [List.pairwise_append]
    refine ⟨h.two, List.pairwise_singleton _ _, fun p hp q hq b h1 h2 => ?_⟩
    rw [List.mem_singleton.1 hq] at h2
    have := hL p hp b h1
    have := hlo b h2
    omega
theorem Fil.lt {β : Type} {K : Kind β} {base n : Nat} {w : World} {g : Nat} {L : List β} {Z : List Value} (h : Fil K base n w g L Z) : ∀ q ∈ L, ∀ b, K.blk q b → b < w.heap.size := fun q hq _ hb => (K.lt (h.inn q hq) hb).2
theorem Fil.tree {β : Type} {K : Kind β} {base n : Nat} {w : World} {g : Nat} {L : List β} {Z : List Value} (h : Fil K base n w g L Z) (hn : L.length = n) (hg : g < w.heap.size) (hbg : base ≤ g) (hm : n ≤ maxLen) : TreeO K base w (.slice (some ⟨g, 0, none⟩) n n) L := by
  subst hn
  have hz : Z = [] := List.eq_nil_of_length_eq_zero (by have := h.len; omega)
  have hr := h.row
  rw [hz, List.append_nil] at hr
  exact ⟨⟨_, _, rfl, Nat.le_refl _, hm, fun _ => ⟨g, rfl, hbg, hg, hr⟩⟩, h.inn, fun q hq b hb e => h.out q hq b hb (by injection e with e; exact e.symm), h.two⟩
end Go.Proofs.Ytlbnebmdolnagaa

namespace Go.Proofs.Ytlbnebmdolnagaa
open Go.RowKit Go.Lib


theorem own_ne {w : World} {base g : Nat} {e e' : TypeId} {size n : Nat} {v : Value} {xs : List Value} {cs : Array Value} (h : w.ownsRow base e size v n xs) (hg : w.heap[g]? = some (.cells cs e' (0, 0))) (hne : e ≠ e') : v.ownBlock ≠ some g := by
  obtain ⟨hl, h | ⟨g1, cap, cur, rfl, _, hh, _⟩⟩ := h
  · obtain ⟨rfl, _⟩ := h
    simp [Value.ownBlock]
  · intro hb
    simp [Value.ownBlock] at hb
    subst hb
    rw [hh] at hg
    injection hg with hg
    injection hg with _ h2 _
    exact hne h2
theorem own_some {w : World} {base : Nat} {e : TypeId} {size n : Nat} {v : Value} {xs : List Value} (h : w.ownsRow base e size v n xs) (hn : v ≠ .slice none 0 0) : ∃ g cap, v = .slice (some ⟨g, 0, none⟩) n cap ∧ n ≤ cap ∧ cap ≤ maxLen := by
  obtain ⟨hl, h | ⟨g1, cap, cur, rfl, _, hh, h1, h2, _⟩⟩ := h
  · exact absurd h.1 hn
  · exact ⟨g1, cap, rfl, h1, h2⟩
theorem block_keep {w w' : World} {o : Obj} {row : Option Nat} {g : Nat} {x : Obj} (hg : (w.alloc o).grownBy w' row) (h : w.heap[g]? = some x) (hne : row ≠ some g) : w'.heap[g]? = some x := by
  have hlt : g < w.heap.size := (Array.getElem?_eq_some_iff.1 h).1
  rw [hg.block g (by simp; omega) (fun e => hne e.symm)]
  have : (w.alloc o).heap[g]? = w.heap[g]? := ((Below.refl w.heap.size w).alloc (Nat.le_refl _) o).block g hlt
  rw [this, h]
theorem block_cell {w : World} {g j : Nat} {cs : Array Value} {e : TypeId} {u : Value} (h : w.heap[g]? = some (.cells cs e (0, 0))) (hu : cs[j]? = some u) : w.cell? ⟨g, j, none⟩ = some u := by
  simp [World.cell?, h, hu]
theorem block_below {w w' : World} {g : Nat} {x : Obj} (hb : Below w.heap.size w w') (h : w.heap[g]? = some x) : w'.heap[g]? = some x := by
  rw [hb.block g (Array.getElem?_eq_some_iff.1 h).1, h]
theorem alloc_at (w : World) (o : Obj) : (w.alloc o).heap[w.heap.size]? = some o := heap_alloc_new w o
def unsemis (l : List UInt8) : List UInt8 := l.map fun c => if c = 59 then 10 else c

theorem in2_val (n a b : Int) (w : World) (r : Bool) (h : inB n a b = r) : Calls Try.prog 66 #[.int .i64 n, .int .i64 a, .int .i64 b] w (RetQ (.bool r) w) := h ▸ in2_any n a b w

/-- The program's numbers of a text. -/
noncomputable def decs (lo hi : Int) (l : List UInt8) : List Int := if l = [] then [] else if (splitC 44 l).length ≤ 101 then (numL lo hi (splitC 44 l)).getD [] else []
def DecsPost (zs : List Int) (w : World) (e : Ending) (w' : World) : Prop := ∃ v ok, e = .returned (.tuple #[v, .bool ok]) ∧ OwnL intCells zs w.heap.size w' v ∧ Below w.heap.size w w'
theorem splitC_cnt (c : UInt8) : ∀ l : List UInt8, (splitC c l).length ≤ l.length + 1
  | [] => Nat.le_refl _
  | x :: l => by
    have ih := splitC_cnt c l
    unfold splitC
    split
    · simp; omega
    · split
      · rename_i h; rw [h] at ih; simp at ih ⊢; omega
      · simp

end Go.Proofs.Ytlbnebmdolnagaa

namespace Go.Proofs.Ytlbnebmdolnagaa
open Go.RowKit Go.Lib

structure Art where
  id : Int
  text : ByteArray
def artCells (a : Art) : List Value := [.int .i64 a.id, .string a.text]
def Arts (w : World) (B : Nat) (v : Value) (s : List Art) : Prop := SlR (Pl artCells) 2 w B v s
def okArt (a : Art) : Bool := inB a.id 1 99 && okSent a.text.toList
def artId (s : List Art) (k : Nat) : Int := ((s[k]?).map (·.id)).getD 0
def statAt (s : List Art) (k : Nat) : Bool := ((s[k]?).map okArt).getD true && (decide (k = 0) || decide (artId s (k - 1) < artId s k))
def okStat (s : List Art) : Bool := allLt s.length (statAt s) && decide (s.length ≤ 8)
def artLine (a : Art) : List UInt8 := itoa a.id ++ 32 :: a.text.toList
def statText (s : List Art) : List UInt8 := s.flatMap (fun a => artLine a ++ [10])

theorem arts_at {w : World} {B b off : Nat} {es : List Art} (h : ∀ (k : Nat) (x : Art), es[k]? = some x → ∃ us, us.length = 2 ∧ Pl artCells w B us x ∧ ∀ (j : Nat) (u : Value), us[j]? = some u → w.cell? ⟨b, off + k * 2 + j, none⟩ = some u) {k : Nat} {e : Art} (hk : es[k]? = some e) :
    w.cell? ⟨b, off + k * 2, none⟩ = some (.int .i64 e.id) ∧ w.cell? ⟨b, off + k * 2 + 1, none⟩ = some (.string e.text) := by
  obtain ⟨us, hl, hp, hc⟩ := h k e hk
  have hp : us = artCells e := hp
  subst hp
  exact ⟨hc 0 _ rfl, hc 1 _ rfl⟩
theorem statAt_bad {p : List Art} {k : Nat} {e : Art} (h : p[k]? = some e) (ho : okArt e = false) : statAt p k = false := by
  unfold statAt
  rw [h]
  simp [ho]
theorem statAt_zero {p : List Art} {k : Nat} {e : Art} (hk : k = 0) (h : p[k]? = some e) (ho : okArt e = true) : statAt p k = true := by
  subst hk
  unfold statAt
  rw [h]
  simp [ho]
theorem statAt_succ {p : List Art} {m : Nat} {d e : Art} (hd : p[m]? = some d) (h : p[m + 1]? = some e) (ho : okArt e = true) : statAt p (m + 1) = decide (d.id < e.id) := by
  unfold statAt artId
  rw [h]
  simp [ho, hd]
theorem okStat_bad {p : List Art} {k : Nat} (hk : k < p.length) (h : statAt p k = false) : okStat p = false := by
  unfold okStat
  rw [allLt_false hk h]
  rfl
theorem okStat_at {p : List Art} (h : okStat p = true) {k : Nat} {e : Art} (hk : p[k]? = some e) : okArt e = true := by
  unfold okStat at h
  rw [Bool.and_eq_true, allLt_true] at h
  have hlt : k < p.length := (List.getElem?_eq_some_iff.1 hk).1
  have := h.1 k hlt
  unfold statAt at this
  rw [hk, Bool.and_eq_true] at this
  exact this.1
theorem okStat_mem {p : List Art} (h : okStat p = true) {e : Art} (he : e ∈ p) : okArt e = true := by
  obtain ⟨k, hk⟩ := List.getElem?_of_mem he
  exact okStat_at h hk
theorem okStat_len {p : List Art} (h : okStat p = true) : p.length ≤ 8 := by
  unfold okStat at h
  rw [Bool.and_eq_true] at h
  exact of_decide_eq_true h.2
theorem okArt_facts {e : Art} (h : okArt e = true) : 1 ≤ e.id ∧ e.id ≤ 99 ∧ okSent e.text.toList = true ∧ e.text.toList.length ≤ 24 := by
  unfold okArt at h
  rw [Bool.and_eq_true, inB_iff] at h
  exact ⟨h.1.1, h.1.2, h.2, okSent_len h.2⟩
theorem artLine_len {e : Art} (h : okArt e = true) : (artLine e).length ≤ 60 := by
  obtain ⟨h1, h2, _, h4⟩ := okArt_facts h
  have := itoa_length_le e.id (by omega) (by omega)
  unfold artLine
  simp only [List.length_append, List.length_cons]
  omega
theorem statText_take {p : List Art} (h : okStat p = true) (k : Nat) : (statText (p.take k)).length ≤ 61 * k := by
  induction k with
  | zero => simp [statText]
  | succ k ih =>
    by_cases hlt : k < p.length
    · rw [List.take_succ_eq_append_getElem hlt]
      unfold statText at *
      rw [List.flatMap_append, List.length_append]
      have := artLine_len (okStat_at h (List.getElem?_eq_getElem hlt))
      simp only [List.flatMap_cons, List.flatMap_nil, List.append_nil, List.length_append, List.length_cons, List.length_nil]
      omega
    · have e1 : p.take k = p := List.take_of_length_le (by omega)
      have e2 : p.take (k + 1) = p := List.take_of_length_le (by omega)
      rw [e2]
      rw [e1] at ih
      omega
theorem statText_succ {p : List Art} {k : Nat} {e : Art} (hk : p[k]? = some e) : statText (p.take (k + 1)) = statText (p.take k) ++ (artLine e ++ [10]) := by
  have hlt : k < p.length := (List.getElem?_eq_some_iff.1 hk).1
  rw [List.take_succ_eq_append_getElem hlt]
  have : p[k] = e := by rw [List.getElem?_eq_getElem hlt] at hk; exact Option.some.inj hk
  unfold statText
  rw [List.flatMap_append, this]
  simp
theorem art_line_not {e : Art} (h : okArt e = true) : (10 : UInt8) ∉ artLine e := by
  obtain ⟨_, _, hs, _⟩ := okArt_facts h
  have hi : (10 : UInt8) ∉ itoa e.id := itoa_not _ (.inl (by decide))
  have := sent_not hs (c := 10) (.inl (by decide))
  unfold artLine
  simp [hi, this]
theorem stat_lines {q : List Art} (h : okStat q = true) : splitC 10 (statText q) = q.map artLine ++ [[]] := by
  have e : statText q = q.flatMap (fun x => artLine x ++ [10]) ++ [] := by
    rw [List.append_nil]
    rfl
  rw [e, splitC_lines 10 artLine q [] (fun x hx => art_line_not (okStat_mem h hx))]
  rfl
theorem last_art {t : List UInt8} : ∀ q, okStat q = true → statText q = t → (splitC 10 t).dropLast = q.map artLine := by
  intro q h e
  rw [← e, stat_lines h]
  simp
/-- The article with a line. -/
noncomputable def lineA (l : List UInt8) : Art := ⟨(numOf 1 99 (cutL 32 l).1).getD 0, ⟨(cutL 32 l).2.toArray⟩⟩
theorem lineA_of {e : Art} (h : okArt e = true) : lineA (artLine e) = e := by
  obtain ⟨i1, i2, _, _⟩ := okArt_facts h
  have hi' : (32 : UInt8) ∉ itoa e.id := itoa_not _ (.inl (by decide))
  have hn : numOf 1 99 (itoa e.id) = some e.id := numOf_of (by omega) (by omega) (by omega) (by omega) rfl
  obtain ⟨id, text⟩ := e
  simp only at hi' hn
  simp [artLine, lineA, cutL_at _ hi', hn, mk_toList]
theorem lineA_size (l : List UInt8) : (lineA l).text.size ≤ l.length := by
  have := (cutL_len 32 l).2
  unfold lineA
  simpa [ByteArray.size] using this
noncomputable def statOf (t : List UInt8) : Option (List Art) := inv okStat statText t
/-- What StatuteText gives. -/
def statOut (s : List Art) : List UInt8 := if okStat s = true then statText s else []
theorem statOut_no {s : List Art} (h : okStat s = false) : statOut s = [] := by unfold statOut; rw [if_neg (by rw [h]; simp)]
theorem statOut_ok {s : List Art} (h : okStat s = true) : statOut s = statText s := by unfold statOut; rw [if_pos h]
theorem statOf_text {s : List Art} (h : okStat s = true) : statOf (statText s) = some s := inv_of (fun q hq e => by
  have h1 : q.map artLine = s.map artLine := by
    have := congrArg (splitC 10) e
    rw [stat_lines hq, stat_lines h] at this
    exact (List.append_inj' this rfl).1
  have h2 := congrArg (List.map lineA) h1
  rw [List.map_map, List.map_map] at h2
  have back : ∀ p : List Art, okStat p = true → p.map (lineA ∘ artLine) = p := fun p hp => by
    conv => rhs; rw [← List.map_id p]
    apply List.map_congr_left
    intro x hx
    exact lineA_of (okStat_mem hp hx)
  rw [back _ hq, back _ h] at h2
  exact h2.symm) h rfl
end Go.Proofs.Ytlbnebmdolnagaa

namespace Go.Proofs.Ytlbnebmdolnagaa
open Go.RowKit Go.Lib

theorem adj_pair {α : Type} (key : α → Int) (s : List α) (h : ∀ (k : Nat) (a b : α), s[k]? = some a → s[k + 1]? = some b → key a < key b) : s.Pairwise (fun a b => key a < key b) := by
  rw [List.pairwise_iff_getElem]
  intro i j hi hj hij
  induction j with
  | zero => omega
  | succ j ih =>
    have hj' : j < s.length := by omega
    have h1 := h j s[j] s[j + 1] (List.getElem?_eq_getElem hj') (List.getElem?_eq_getElem hj)
    by_cases e : i = j
    · subst e
      exact h1
    · have := ih hj' (by omega)
      omega
theorem pair_adj {α : Type} (key : α → Int) {s : List α} (h : s.Pairwise (fun a b => key a < key b)) : ∀ (k : Nat) (a b : α), s[k]? = some a → s[k + 1]? = some b → key a < key b := by
  intro k a b ha hb
  obtain ⟨hk, rfl⟩ := List.getElem?_eq_some_iff.1 ha
  obtain ⟨hk', rfl⟩ := List.getElem?_eq_some_iff.1 hb
  exact (List.pairwise_iff_getElem.1 h) k (k + 1) hk hk' (by omega)

def RiseA (s : List Art) : Prop := s.Pairwise (fun a b => a.id < b.id)
def RiseE (p : List Edit) : Prop := p.Pairwise (fun a b => a.id < b.id)

theorem okStat_iff (s : List Art) : okStat s = true ↔ (∀ a ∈ s, okArt a = true) ∧ RiseA s ∧ s.length ≤ 8 := by
  unfold okStat
  rw [Bool.and_eq_true, allLt_true, decide_eq_true_eq]
  constructor
  · rintro ⟨h, hl⟩
    refine ⟨fun a ha => ?_, adj_pair (fun x : Art => x.id) s (fun k a b ha hb => ?_), hl⟩
    · obtain ⟨k, hk⟩ := List.getElem?_of_mem ha
      have := h k (List.getElem?_eq_some_iff.1 hk).1
      unfold statAt at this
      rw [hk, Bool.and_eq_true] at this
      exact this.1
    · have := h (k + 1) (List.getElem?_eq_some_iff.1 hb).1
      unfold statAt artId at this
      rw [hb] at this
      simp [ha] at this
      exact this.2
  · rintro ⟨h1, h2, hl⟩
    refine ⟨fun k hk => ?_, hl⟩
    have hx : s[k]? = some s[k] := List.getElem?_eq_getElem hk
    rcases k with _ | k
    · exact statAt_zero rfl hx (h1 _ (List.getElem_mem hk))
    · have hd : s[k]? = some s[k] := List.getElem?_eq_getElem (by omega)
      rw [statAt_succ hd hx (h1 _ (List.getElem_mem hk)), decide_eq_true_eq]
      exact pair_adj (fun x : Art => x.id) h2 k _ _ hd hx
theorem okPatch_iff (s : List Edit) : okPatch s = true ↔ (∀ a ∈ s, okEdit a = true) ∧ RiseE s ∧ s.length ≤ 16 := by
  rw [okPatch_eq, Bool.and_eq_true, allLt_true, decide_eq_true_eq]
  constructor
  · rintro ⟨h, hl⟩
    refine ⟨fun a ha => ?_, adj_pair (fun x : Edit => x.id) s (fun k a b ha hb => ?_), hl⟩
    · obtain ⟨k, hk⟩ := List.getElem?_of_mem ha
      have := h k (List.getElem?_eq_some_iff.1 hk).1
      unfold patchAt at this
      rw [hk, Bool.and_eq_true] at this
      exact this.1
    · have := h (k + 1) (List.getElem?_eq_some_iff.1 hb).1
      unfold patchAt idAt at this
      rw [hb] at this
      simp [ha] at this
      exact this.2
  · rintro ⟨h1, h2, hl⟩
    refine ⟨fun k hk => ?_, hl⟩
    have hx : s[k]? = some s[k] := List.getElem?_eq_getElem hk
    rcases k with _ | k
    · exact patchAt_zero rfl hx (h1 _ (List.getElem_mem hk))
    · have hd : s[k]? = some s[k] := List.getElem?_eq_getElem (by omega)
      rw [patchAt_succ hd hx (h1 _ (List.getElem_mem hk)), decide_eq_true_eq]
      exact pair_adj (fun x : Edit => x.id) h2 k _ _ hd hx

/-- The text of the article with a number; empty if there is none. -/
def findA : List Art → Int → ByteArray
  | [], _ => ⟨#[]⟩
  | a :: r, i => if a.id = i then a.text else findA r i
def noEdit : Edit := ⟨0, 0, ⟨#[]⟩, ⟨#[]⟩⟩
/-- The edit with a number; of kind 0 if there is none. -/
def editOf : List Edit → Int → Edit
  | [], _ => noEdit
  | a :: r, i => if a.id = i then a else editOf r i
theorem findA_none {s : List Art} {i : Int} (h : ∀ a ∈ s, a.id ≠ i) : findA s i = ⟨#[]⟩ := by
  induction s with
  | nil => rfl
  | cons a r ih => rw [findA, if_neg (h a (List.mem_cons_self)), ih (fun x hx => h x (List.mem_cons_of_mem _ hx))]
theorem findA_mem {s : List Art} (hr : RiseA s) {a : Art} (h : a ∈ s) : findA s a.id = a.text := by
  induction s with
  | nil => cases h
  | cons b r ih =>
    rw [findA]
    obtain ⟨hb, hr'⟩ := List.pairwise_cons.1 hr
    rcases List.mem_cons.1 h with rfl | h
    · rw [if_pos rfl]
    · rw [if_neg (by have := hb a h; omega), ih hr' h]
theorem editOf_none {s : List Edit} {i : Int} (h : ∀ a ∈ s, a.id ≠ i) : editOf s i = noEdit := by
  induction s with
  | nil => rfl
  | cons a r ih => rw [editOf, if_neg (h a (List.mem_cons_self)), ih (fun x hx => h x (List.mem_cons_of_mem _ hx))]
theorem editOf_mem {s : List Edit} (hr : RiseE s) {a : Edit} (h : a ∈ s) : editOf s a.id = a := by
  induction s with
  | nil => cases h
  | cons b r ih =>
    rw [editOf]
    obtain ⟨hb, hr'⟩ := List.pairwise_cons.1 hr
    rcases List.mem_cons.1 h with rfl | h
    · rw [if_pos rfl]
    · rw [if_neg (by have := hb a h; omega), ih hr' h]
theorem editOf_cases (s : List Edit) (i : Int) : (editOf s i ∈ s ∧ (editOf s i).id = i) ∨ (editOf s i = noEdit ∧ ∀ a ∈ s, a.id ≠ i) := by
  induction s with
  | nil => exact .inr ⟨rfl, fun a ha => by cases ha⟩
  | cons b r ih =>
    rw [editOf]
    by_cases h : b.id = i
    · rw [if_pos h]
      exact .inl ⟨List.mem_cons_self, h⟩
    · rw [if_neg h]
      rcases ih with ⟨h1, h2⟩ | ⟨h1, h2⟩
      · exact .inl ⟨List.mem_cons_of_mem _ h1, h2⟩
      · refine .inr ⟨h1, fun a ha => ?_⟩
        rcases List.mem_cons.1 ha with rfl | ha
        · exact h
        · exact h2 a ha
theorem findA_cases (s : List Art) (i : Int) : (∃ a ∈ s, a.id = i ∧ findA s i = a.text) ∨ (findA s i = ⟨#[]⟩ ∧ ∀ a ∈ s, a.id ≠ i) := by
  induction s with
  | nil => exact .inr ⟨rfl, fun a ha => by cases ha⟩
  | cons b r ih =>
    rw [findA]
    by_cases h : b.id = i
    · rw [if_pos h]
      exact .inl ⟨b, List.mem_cons_self, h, rfl⟩
    · rw [if_neg h]
      rcases ih with ⟨a, h1, h2, h3⟩ | ⟨h1, h2⟩
      · exact .inl ⟨a, List.mem_cons_of_mem _ h1, h2, h3⟩
      · refine .inr ⟨h1, fun a ha => ?_⟩
        rcases List.mem_cons.1 ha with rfl | ha
        · exact h
        · exact h2 a ha
theorem findA_drop {s : List Art} {i : Int} {k : Nat} {a : Art} (hk : s[k]? = some a) (hn : a.id ≠ i) (h : findA s i = findA (s.drop k) i) : findA s i = findA (s.drop (k + 1)) i := by
  have hlt := (List.getElem?_eq_some_iff.1 hk).1
  have e : s.drop k = a :: s.drop (k + 1) := by
    rw [List.drop_eq_getElem_cons hlt]
    rw [(List.getElem?_eq_some_iff.1 hk).2]
  rw [h, e, findA, if_neg hn]
theorem findA_hit {s : List Art} {i : Int} {k : Nat} {a : Art} (hk : s[k]? = some a) (hn : a.id = i) (h : findA s i = findA (s.drop k) i) : findA s i = a.text := by
  have hlt := (List.getElem?_eq_some_iff.1 hk).1
  have e : s.drop k = a :: s.drop (k + 1) := by
    rw [List.drop_eq_getElem_cons hlt]
    rw [(List.getElem?_eq_some_iff.1 hk).2]
  rw [h, e, findA, if_pos hn]
theorem findA_end {s : List Art} {i : Int} {k : Nat} (hk : s.length ≤ k) (h : findA s i = findA (s.drop k) i) : findA s i = ⟨#[]⟩ := by
  rw [h, List.drop_eq_nil_of_le hk]
  rfl
theorem editOf_drop {s : List Edit} {i : Int} {k : Nat} {a : Edit} (hk : s[k]? = some a) (hn : a.id ≠ i) (h : editOf s i = editOf (s.drop k) i) : editOf s i = editOf (s.drop (k + 1)) i := by
  have hlt := (List.getElem?_eq_some_iff.1 hk).1
  have e : s.drop k = a :: s.drop (k + 1) := by
    rw [List.drop_eq_getElem_cons hlt]
    rw [(List.getElem?_eq_some_iff.1 hk).2]
  rw [h, e, editOf, if_neg hn]
theorem editOf_hit {s : List Edit} {i : Int} {k : Nat} {a : Edit} (hk : s[k]? = some a) (hn : a.id = i) (h : editOf s i = editOf (s.drop k) i) : editOf s i = a := by
  have hlt := (List.getElem?_eq_some_iff.1 hk).1
  have e : s.drop k = a :: s.drop (k + 1) := by
    rw [List.drop_eq_getElem_cons hlt]
    rw [(List.getElem?_eq_some_iff.1 hk).2]
  rw [h, e, editOf, if_pos hn]
theorem editOf_end {s : List Edit} {i : Int} {k : Nat} (hk : s.length ≤ k) (h : editOf s i = editOf (s.drop k) i) : editOf s i = noEdit := by
  rw [h, List.drop_eq_nil_of_le hk]
  rfl

/-- The edit from one text to another. -/
def stepE (i : Int) (old new : ByteArray) : Edit :=
  if old.toList = new.toList then noEdit else if old.toList = [] then ⟨1, i, old, new⟩ else if new.toList = [] then ⟨2, i, old, new⟩ else ⟨3, i, old, new⟩
theorem stepE_ok {i : Int} {old new : ByteArray} (h1 : 1 ≤ i) (h2 : i ≤ 99) (ho : old.toList = [] ∨ okSent old.toList = true) (hn : new.toList = [] ∨ okSent new.toList = true) : stepE i old new = noEdit ∨ (okEdit (stepE i old new) = true ∧ (stepE i old new).id = i ∧ (stepE i old new).kind ≠ 0 ∧ (stepE i old new).old = old) := by
  unfold stepE
  have hi : inB i 1 99 = true := inB_true h1 h2
  split
  · exact .inl rfl
  · rename_i hne
    right
    split
    · rename_i h0
      have hn' : okSent new.toList = true := hn.resolve_left (fun h => hne (by rw [h0, h]))
      exact ⟨by simp [okEdit, hi, h0, hn'], rfl, by simp, rfl⟩
    · rename_i h0
      have ho' := ho.resolve_left h0
      split
      · rename_i h3
        exact ⟨by simp [okEdit, hi, h3, ho'], rfl, by simp, rfl⟩
      · rename_i h3
        have hn' := hn.resolve_left h3
        exact ⟨by simp [okEdit, hi, ho', hn', hne], rfl, by simp, rfl⟩

/-- Two rising statutes without empty texts are the same if they find the same. -/
theorem find_ext : ∀ {s t : List Art}, RiseA s → RiseA t → (∀ a ∈ s, a.text ≠ ⟨#[]⟩) → (∀ a ∈ t, a.text ≠ ⟨#[]⟩) → (∀ i, findA s i = findA t i) → s = t
  | [], [], _, _, _, _, _ => rfl
  | [], b :: t, _, ht, _, hb, h => by
    have := h b.id
    rw [findA, findA, if_pos rfl] at this
    exact absurd this.symm (hb b List.mem_cons_self)
  | a :: s, [], _, _, ha, _, h => by
    have := h a.id
    rw [findA, findA, if_pos rfl] at this
    exact absurd this (ha a List.mem_cons_self)
  | a :: s, b :: t, hs, ht, ha, hb, h => by
    obtain ⟨hs1, hs2⟩ := List.pairwise_cons.1 hs
    obtain ⟨ht1, ht2⟩ := List.pairwise_cons.1 ht
    have hid : a.id = b.id := by
      rcases Int.lt_trichotomy a.id b.id with hlt | he | hgt
      · have e := h a.id
        rw [findA, if_pos rfl, findA, if_neg (by omega), findA_none (fun x hx => by have := ht1 x hx; omega)] at e
        exact absurd e (ha a List.mem_cons_self)
      · exact he
      · have e := h b.id
        rw [findA, if_neg (by omega), findA_none (fun x hx => by have := hs1 x hx; omega), findA, if_pos rfl] at e
        exact absurd e.symm (hb b List.mem_cons_self)
    have htx : a.text = b.text := by
      have e := h a.id
      rw [findA, if_pos rfl, findA, if_pos hid.symm] at e
      exact e
    have hab : a = b := by
      obtain ⟨i, x⟩ := a
      obtain ⟨j, y⟩ := b
      simp only at hid htx
      rw [hid, htx]
    rw [hab, find_ext hs2 ht2 (fun x hx => ha x (List.mem_cons_of_mem _ hx)) (fun x hx => hb x (List.mem_cons_of_mem _ hx)) (fun i => by
      by_cases hi : i = a.id
      · rw [findA_none (fun x hx => by have := hs1 x hx; omega), findA_none (fun x hx => by have := ht1 x hx; omega)]
      · have e := h i
        rw [findA, if_neg (by omega), findA, if_neg (by omega)] at e
        exact e)]
end Go.Proofs.Ytlbnebmdolnagaa

namespace Go.Proofs.Ytlbnebmdolnagaa
open Go.RowKit Go.Lib

theorem find_mid : ∀ {A B : List Art} {a : Art}, (∀ c ∈ A, c.id < a.id) → ∀ q, findA (A ++ a :: B) q = if q = a.id then a.text else findA (A ++ B) q
  | [], B, a, _, q => by
    show findA (a :: B) q = _
    rw [findA]
    by_cases h : a.id = q
    · rw [if_pos h, if_pos h.symm]
    · rw [if_neg h, if_neg (fun e => h e.symm)]
      rfl
  | x :: A, B, a, hA, q => by
    have hx := hA x List.mem_cons_self
    show findA (x :: (A ++ a :: B)) q = if q = a.id then a.text else findA (x :: (A ++ B)) q
    rw [findA, findA, find_mid (fun c hc => hA c (List.mem_cons_of_mem _ hc)) q]
    by_cases h : x.id = q
    · rw [if_pos h, if_pos h, if_neg (by omega)]
    · rw [if_neg h, if_neg h]
theorem rise_mid {A B : List Art} {a : Art} (h : RiseA (A ++ a :: B)) : (∀ c ∈ A, c.id < a.id) ∧ (∀ c ∈ B, a.id < c.id) ∧ RiseA (A ++ B) := by
  unfold RiseA at *
  rw [List.pairwise_append, List.pairwise_cons] at h
  refine ⟨fun c hc => h.2.2 c hc a List.mem_cons_self, h.2.1.1, ?_⟩
  rw [List.pairwise_append]
  exact ⟨h.1, h.2.1.2, fun x hx y hy => h.2.2 x hx y (List.mem_cons_of_mem _ hy)⟩
theorem rise_ins {A B : List Art} {a : Art} (h : RiseA (A ++ B)) (hA : ∀ c ∈ A, c.id < a.id) (hB : ∀ c ∈ B, a.id < c.id) : RiseA (A ++ a :: B) := by
  unfold RiseA at *
  rw [List.pairwise_append] at h ⊢
  rw [List.pairwise_cons]
  refine ⟨h.1, ⟨hB, h.2.1⟩, fun x hx y hy => ?_⟩
  rcases List.mem_cons.1 hy with rfl | hy
  · exact hA x hx
  · exact h.2.2 x hx y hy
theorem find_gone {A B : List Art} {a : Art} (h : RiseA (A ++ a :: B)) (q : Int) : findA (A ++ B) q = if q = a.id then ⟨#[]⟩ else findA (A ++ a :: B) q := by
  obtain ⟨hA, hB, _⟩ := rise_mid h
  by_cases e : q = a.id
  · rw [if_pos e, findA_none]
    intro c hc
    rcases List.mem_append.1 hc with hc | hc
    · have := hA c hc; omega
    · have := hB c hc; omega
  · rw [if_neg e, find_mid hA q, if_neg e]
theorem find_turned {A B : List Art} {a : Art} (x : ByteArray) (h : RiseA (A ++ a :: B)) (q : Int) : findA (A ++ ⟨a.id, x⟩ :: B) q = if q = a.id then x else findA (A ++ a :: B) q := by
  obtain ⟨hA, hB, _⟩ := rise_mid h
  rw [find_mid (a := ⟨a.id, x⟩) hA q, find_mid hA q]
  by_cases e : q = a.id
  · rw [if_pos e, if_pos e]
  · rw [if_neg e, if_neg e, if_neg e]
theorem rise_turned {A B : List Art} {a : Art} (x : ByteArray) (h : RiseA (A ++ a :: B)) : RiseA (A ++ ⟨a.id, x⟩ :: B) := by
  obtain ⟨hA, hB, hr⟩ := rise_mid h
  exact rise_ins (a := ⟨a.id, x⟩) hr hA hB

/-- The text of an article behind a patch. -/
def target (S : List Art) (P : List Edit) (i : Int) : ByteArray := if (editOf P i).kind = 0 then findA S i else (editOf P i).new
/-- The whole patch fits. -/
def fits (S : List Art) (P : List Edit) : Bool := P.all (fun e => findA S e.id == e.old)
theorem fits_iff {S : List Art} {P : List Edit} : fits S P = true ↔ ∀ e ∈ P, findA S e.id = e.old := by
  unfold fits
  rw [List.all_eq_true]
  constructor
  · intro h e he
    have := h e he
    rw [beq_toListBytes, beq_iff_eq] at this
    rw [← mk_toList (findA S e.id), this, mk_toList]
  · intro h e he
    rw [h e he, beq_toListBytes]
    simp
structure GoodA (S : List Art) : Prop where
  rise : RiseA S
  all : ∀ a ∈ S, okArt a = true
theorem GoodA.of {S : List Art} (h : okStat S = true) : GoodA S := ⟨((okStat_iff S).1 h).2.1, ((okStat_iff S).1 h).1⟩
theorem GoodA.ok {S : List Art} (h : GoodA S) (h8 : S.length ≤ 8) : okStat S = true := (okStat_iff S).2 ⟨h.all, h.rise, h8⟩
theorem sent_ne {t : ByteArray} (h : okSent t.toList = true) : t.toList ≠ [] := by
  intro h0
  rw [h0] at h
  revert h
  decide
theorem GoodA.text {S : List Art} (h : GoodA S) {a : Art} (ha : a ∈ S) : a.text ≠ ⟨#[]⟩ := by
  intro e
  have := (okArt_facts (h.all a ha)).2.2.1
  rw [e] at this
  exact sent_ne this (by rw [ByteArray.toList_eq])
theorem GoodA.ext {S T : List Art} (hS : GoodA S) (hT : GoodA T) (h : ∀ i, findA S i = findA T i) : S = T :=
  find_ext hS.rise hT.rise (fun _ ha => hS.text ha) (fun _ ha => hT.text ha) h
/-- R is what S becomes by P. -/
structure Becomes (S : List Art) (P : List Edit) (R : List Art) : Prop where
  good : GoodA R
  find : ∀ i, findA R i = target S P i
theorem Becomes.uniq {S : List Art} {P : List Edit} {R T : List Art} (h : Becomes S P R) (k : Becomes S P T) : R = T :=
  h.good.ext k.good (fun i => (h.find i).trans (k.find i).symm)
theorem Becomes.nil {S : List Art} (h : GoodA S) : Becomes S [] S := ⟨h, fun _ => rfl⟩

theorem editOf_app : ∀ {P Q : List Edit} {i : Int}, (∀ a ∈ P, a.id ≠ i) → editOf (P ++ Q) i = editOf Q i
  | [], _, _, _ => rfl
  | a :: P, Q, i, h => by
    show editOf (a :: (P ++ Q)) i = _
    rw [editOf, if_neg (h a List.mem_cons_self), editOf_app (fun x hx => h x (List.mem_cons_of_mem _ hx))]
theorem editOf_app' : ∀ {P Q : List Edit} {i : Int}, (∀ a ∈ Q, a.id ≠ i) → editOf (P ++ Q) i = editOf P i
  | [], Q, i, h => by
    show editOf Q i = noEdit
    exact editOf_none h
  | a :: P, Q, i, h => by
    show editOf (a :: (P ++ Q)) i = _
    rw [editOf, editOf, editOf_app' h]
theorem kind_ne {e : Edit} (h : okEdit e = true) : e.kind ≠ 0 := by
  obtain ⟨_, _, hk⟩ := okEdit_kinds h
  omega
theorem target_old {S : List Art} {P : List Edit} {i : Int} (h : ∀ a ∈ P, a.id ≠ i) : target S P i = findA S i := by
  unfold target
  rw [editOf_none h]
  rfl
theorem target_step {S : List Art} {P : List Edit} {e : Edit} (hP : RiseE (P ++ [e])) (he : okEdit e = true) (i : Int) : target S (P ++ [e]) i = if i = e.id then e.new else target S P i := by
  have hne : ∀ a ∈ P, a.id ≠ e.id := fun a ha => by
    unfold RiseE at hP
    rw [List.pairwise_append] at hP
    have := hP.2.2 a ha e (by simp)
    omega
  by_cases h : i = e.id
  · subst h
    rw [if_pos rfl]
    unfold target
    rw [editOf_app hne, editOf, if_pos rfl, if_neg (kind_ne he)]
  · rw [if_neg h]
    unfold target
    rw [editOf_app' (by simpa using fun e' => h e'.symm)]
/-- The steps of one edit. -/
theorem Becomes.drop {S A B : List Art} {P : List Edit} {e : Edit} {a : Art} (h : Becomes S P (A ++ a :: B)) (hP : RiseE (P ++ [e])) (he : okEdit e = true) (hk : e.kind = 2) (hi : a.id = e.id) : Becomes S (P ++ [e]) (A ++ B) where
  good := ⟨(rise_mid h.good.rise).2.2, fun c hc => h.good.all c (by
    rcases List.mem_append.1 hc with hc | hc
    · exact List.mem_append_left _ hc
    · exact List.mem_append_right _ (List.mem_cons_of_mem _ hc))⟩
  find := fun i => by
    have hn : e.new = ⟨#[]⟩ := by
      obtain ⟨_, _, hk'⟩ := okEdit_kinds he
      rcases hk' with ⟨k, _, _⟩ | ⟨_, _, hn⟩ | ⟨k, _, _⟩
      · omega
      · exact hn
      · omega
    rw [find_gone h.good.rise i, target_step hP he i, h.find i, hn, hi]
theorem Becomes.turn {S A B : List Art} {P : List Edit} {e : Edit} {a : Art} (h : Becomes S P (A ++ a :: B)) (hP : RiseE (P ++ [e])) (he : okEdit e = true) (hk : e.kind = 3) (hi : a.id = e.id) : Becomes S (P ++ [e]) (A ++ ⟨a.id, e.new⟩ :: B) where
  good := ⟨rise_turned _ h.good.rise, fun c hc => by
    rcases List.mem_append.1 hc with hc | hc
    · exact h.good.all c (List.mem_append_left _ hc)
    · rcases List.mem_cons.1 hc with rfl | hc
      · obtain ⟨h1, h2, hk'⟩ := okEdit_kinds he
        rcases hk' with ⟨k, _, _⟩ | ⟨k, _, _⟩ | ⟨_, _, hn⟩
        · omega
        · omega
        · unfold okArt
          rw [hn, inB_true (by show 1 ≤ a.id; omega) (by show a.id ≤ 99; omega)]
          rfl
      · exact h.good.all c (List.mem_append_right _ (List.mem_cons_of_mem _ hc))⟩
  find := fun i => by rw [find_turned _ h.good.rise i, target_step hP he i, h.find i, hi]
theorem Becomes.add {S A B : List Art} {P : List Edit} {e : Edit} (h : Becomes S P (A ++ B)) (hP : RiseE (P ++ [e])) (he : okEdit e = true) (hk : e.kind = 1) (hA : ∀ c ∈ A, c.id < e.id) (hB : ∀ c ∈ B, e.id < c.id) : Becomes S (P ++ [e]) (A ++ ⟨e.id, e.new⟩ :: B) where
  good := ⟨rise_ins (a := ⟨e.id, e.new⟩) h.good.rise hA hB, fun c hc => by
    rcases List.mem_append.1 hc with hc | hc
    · exact h.good.all c (List.mem_append_left _ hc)
    · rcases List.mem_cons.1 hc with rfl | hc
      · obtain ⟨h1, h2, hk'⟩ := okEdit_kinds he
        rcases hk' with ⟨_, _, hn⟩ | ⟨k, _, _⟩ | ⟨k, _, _⟩
        · unfold okArt
          rw [hn, inB_true h1 h2]
          rfl
        · omega
        · omega
      · exact h.good.all c (List.mem_append_right _ hc)⟩
  find := fun i => by rw [find_mid (a := ⟨e.id, e.new⟩) hA i, target_step hP he i, h.find i]

/-- What S becomes by P, as a list. -/
def applyL (S : List Art) (P : List Edit) : List Art :=
  (List.range 99).filterMap (fun j : Nat => if (target S P ((j : Int) + 1)).toList = [] then none else some ⟨(j : Int) + 1, target S P ((j : Int) + 1)⟩)
theorem target_ok {S : List Art} {P : List Edit} (hS : GoodA S) (hP : okPatch P = true) (i : Int) : (target S P i).toList = [] ∨ (okSent (target S P i).toList = true ∧ 1 ≤ i ∧ i ≤ 99) := by
  unfold target
  split
  · rcases findA_cases S i with ⟨a, ha, hi, h⟩ | ⟨h, _⟩
    · obtain ⟨h1, h2, h3, _⟩ := okArt_facts (hS.all a ha)
      rw [h]
      exact .inr ⟨h3, by omega, by omega⟩
    · rw [h]
      exact .inl (by rw [ByteArray.toList_eq])
  · rename_i hk
    rcases editOf_cases P i with ⟨hm, hi⟩ | ⟨h, _⟩
    · obtain ⟨h1, h2, hk'⟩ := okEdit_kinds (((okPatch_iff P).1 hP).1 _ hm)
      rcases hk' with ⟨_, _, hn⟩ | ⟨_, _, hn⟩ | ⟨_, _, hn⟩
      · exact .inr ⟨hn, by omega, by omega⟩
      · rw [hn]
        exact .inl (by rw [ByteArray.toList_eq])
      · exact .inr ⟨hn, by omega, by omega⟩
    · rw [h] at hk
      exact absurd rfl hk
theorem fm_mem (f : Nat → ByteArray) : ∀ (n : Nat) (a : Art), a ∈ (List.range n).filterMap (fun j => if (f j).toList = [] then none else some (⟨(j : Int) + 1, f j⟩ : Art)) → ∃ j, j < n ∧ a = ⟨(j : Int) + 1, f j⟩ ∧ (f j).toList ≠ [] := by
  intro n a h
  obtain ⟨j, hj, h⟩ := List.mem_filterMap.1 h
  split at h
  · cases h
  · rename_i hne
    injection h with h
    exact ⟨j, List.mem_range.1 hj, h.symm, hne⟩
theorem fm_rise (f : Nat → ByteArray) (n : Nat) : RiseA ((List.range n).filterMap (fun j => if (f j).toList = [] then none else some (⟨(j : Int) + 1, f j⟩ : Art))) := by
  induction n with
  | zero => exact List.Pairwise.nil
  | succ n ih =>
    unfold RiseA at *
    rw [List.range_succ, List.filterMap_append, List.pairwise_append]
    refine ⟨ih, ?_, fun x hx y hy => ?_⟩
    · rw [List.filterMap_cons, List.filterMap_nil]
      split <;> simp
    · obtain ⟨j, hj, rfl, _⟩ := fm_mem f n x hx
      obtain ⟨k, hk, h⟩ := List.mem_filterMap.1 hy
      rw [List.mem_singleton] at hk
      subst hk
      split at h
      · cases h
      · injection h with h
        rw [← h]
        show (j : Int) + 1 < (k : Int) + 1
        omega
theorem Becomes.applyL {S : List Art} {P : List Edit} (hS : GoodA S) (hP : okPatch P = true) : Becomes S P (applyL S P) where
  good := ⟨fm_rise (fun j : Nat => target S P ((j : Int) + 1)) 99, fun a ha => by
    obtain ⟨j, hj, rfl, hne⟩ := fm_mem (fun j : Nat => target S P ((j : Int) + 1)) 99 a ha
    rcases target_ok hS hP ((j : Int) + 1) with h | ⟨h1, h2, h3⟩
    · exact absurd h hne
    · unfold okArt
      rw [h1, inB_true h2 h3]
      rfl⟩
  find := fun i => by
    have hnil : ∀ t : ByteArray, t.toList = [] → t = ⟨#[]⟩ := fun t h => by rw [← mk_toList t, h]
    rcases findA_cases (Go.Proofs.Ytlbnebmdolnagaa.applyL S P) i with ⟨a, ha, hi, h⟩ | ⟨h, hno⟩
    · obtain ⟨j, hj, rfl, hne⟩ := fm_mem (fun j : Nat => target S P ((j : Int) + 1)) 99 a ha
      rw [h, ← hi]
    · rw [h]
      rcases target_ok hS hP i with h0 | ⟨h1, h2, h3⟩
      · exact (hnil _ h0).symm
      · exfalso
        refine hno ⟨i, target S P i⟩ (List.mem_filterMap.2 ⟨(i - 1).toNat, List.mem_range.2 (by omega), ?_⟩) rfl
        have e : (((i - 1).toNat : Nat) : Int) + 1 = i := by omega
        rw [e, if_neg (sent_ne h1)]
/-- What S becomes by P, if P fits and there is room. -/
def applyO (S : List Art) (P : List Edit) : Option (List Art) := if fits S P = true ∧ (applyL S P).length ≤ 8 then some (applyL S P) else none
theorem applyO_ok {S R : List Art} {P : List Edit} (hS : GoodA S) (hP : okPatch P = true) (h : applyO S P = some R) : okStat R = true ∧ Becomes S P R ∧ fits S P = true := by
  unfold applyO at h
  split at h
  · rename_i hc
    injection h with h
    subst h
    exact ⟨(Becomes.applyL hS hP).good.ok hc.2, Becomes.applyL hS hP, hc.1⟩
  · cases h
theorem applyO_of {S R : List Art} {P : List Edit} (hS : GoodA S) (hP : okPatch P = true) (hf : fits S P = true) (hR : Becomes S P R) : applyO S P = if R.length ≤ 8 then some R else none := by
  have e := (Becomes.applyL hS hP).uniq hR
  unfold applyO
  rw [e]
  by_cases h : R.length ≤ 8
  · rw [if_pos ⟨hf, h⟩, if_pos h]
  · rw [if_neg (fun k => h k.2), if_neg h]
theorem applyO_no {S : List Art} {P : List Edit} (hf : fits S P = false) : applyO S P = none := if_neg (fun k => by rw [hf] at k; cases k.1)
end Go.Proofs.Ytlbnebmdolnagaa

namespace Go.Proofs.Ytlbnebmdolnagaa
open Go.RowKit Go.Lib

theorem art_one {q : Art} {u : Value} (h : u ∈ artCells q) : u.oneCell' = true := by
  unfold artCells at h
  rcases List.mem_cons.1 h with rfl | h
  · rfl
  · rcases List.mem_cons.1 h with rfl | h
    · rfl
    · cases h

theorem okArt_1 {a : Art} (h : inB a.id 1 99 = false) : okArt a = false := by unfold okArt; rw [h]; rfl
theorem okArt_2 {a : Art} (h : okSent a.text.toList = false) : okArt a = false := by unfold okArt; rw [h, Bool.and_false]
theorem okArt_3 {a : Art} (h1 : inB a.id 1 99 = true) (h2 : okSent a.text.toList = true) : okArt a = true := by unfold okArt; rw [h1, h2]; rfl

end Go.Proofs.Ytlbnebmdolnagaa

namespace Go.Proofs.Ytlbnebmdolnagaa
open Go.RowKit

/-- The bytes of a slice that came in: below block B, n of them. -/
def BytesAt (w : World) (B : Nat) (A : Option Addr) (n : Nat) : Prop :=
  n ≤ maxLen ∧ (0 < n → ∃ b off, A = some ⟨b, off, none⟩ ∧ b < B ∧ ∀ i, i < n → ∃ x : Nat, x ≤ 255 ∧ w.cell? ⟨b, off + i, none⟩ = some (.int .u8 x))

/-- Block b is a source with at most k draws behind it. -/
def Src (B : Nat) (w : World) (b : Nat) (k : Nat) : Prop :=
  ∃ (A : Option Addr) (n c p : Nat) (q : Int), w.heap[b]? = some (.cells #[.slice A n c, .int .i64 (p : Int), .int .u64 q] 130 (0, 0)) ∧ B ≤ b ∧ p ≤ k ∧ 0 ≤ q ∧ q < 18446744073709551616 ∧ BytesAt w B A n

def NextPost (B : Nat) (w : World) (b k : Nat) (e : Ending) (w' : World) : Prop :=
  ∃ x : Nat, x ≤ 255 ∧ e = .returned (.int .i64 (x : Int)) ∧ Src B w' b (k + 1) ∧ Only b w w'

theorem bytesAt_below {w w' : World} {B : Nat} {A : Option Addr} {n : Nat} (h : BytesAt w B A n) (hb : Below B w w') : BytesAt w' B A n :=
  ⟨h.1, fun hn => by
    obtain ⟨b, off, rfl, hlt, hc⟩ := h.2 hn
    exact ⟨b, off, rfl, hlt, fun i hi => by
      obtain ⟨x, hx, hx'⟩ := hc i hi
      exact ⟨x, hx, (hb.cell (p := ⟨b, off + i, none⟩) hlt).trans hx'⟩⟩⟩

theorem src_end {w : World} {b B k : Nat} {A : Option Addr} {n c p : Nat} (p' : Nat) {pi q q' : Int} (n1 n2 : Nat) (hpi : pi = (p' : Int))
    (hb : w.heap[b]? = some (.cells #[.slice A n c, .int .i64 (p : Int), .int .u64 q] 130 (0, 0))) (hB : B ≤ b) (hA : BytesAt w B A n) (hp : p' ≤ k) (hq : 0 ≤ q') (hq' : q' < 18446744073709551616) :
    Src B ((((w.drewN n1).setCell ⟨b, 1, none⟩ (.int .i64 pi)).setCell ⟨b, 2, none⟩ (.int .u64 q')).drewN n2) b k ∧ Only b w ((((w.drewN n1).setCell ⟨b, 1, none⟩ (.int .i64 pi)).setCell ⟨b, 2, none⟩ (.int .u64 q')).drewN n2) := by
  have hlt : b < w.heap.size := by
    rcases Nat.lt_or_ge b w.heap.size with h | h
    · exact h
    · rw [Array.getElem?_eq_none h] at hb; cases hb
  have ho : Only b w ((((w.drewN n1).setCell ⟨b, 1, none⟩ (.int .i64 pi)).setCell ⟨b, 2, none⟩ (.int .u64 q')).drewN n2) :=
    only_drewN (only_setCell (only_setCell (only_drewN (only_refl b w) n1) (.inl rfl) _) (.inl rfl) _) n2
  refine ⟨⟨A, n, c, p', q', ?_, hB, hp, hq, hq', bytesAt_below hA (only_below ho hB (by omega))⟩, ho⟩
  show ((((w.drewN n1).setCell ⟨b, 1, none⟩ (.int .i64 pi)).setCell ⟨b, 2, none⟩ (.int .u64 q'))).heap[b]? = _
  simp [World.setCell, Array.getElem?_modify, hb, hpi]

theorem wrap_u64_lo (x : Int) : 0 ≤ IntKind.u64.wrap x ∧ IntKind.u64.wrap x < 18446744073709551616 := by
  rw [IntKind.wrap_u64]; omega

theorem wrap_u64_twice (z : Int) : IntKind.u64.wrap (IntKind.u64.wrap z) = IntKind.u64.wrap z := by
  simp only [IntKind.wrap_u64]; omega

theorem low_byte (z : Int) (hz : z = IntKind.u64.wrap z := by first | rfl | exact (wrap_u64_twice _).symm) : ∃ y : Nat, y ≤ 255 ∧ wrap64 (bits BinOp.and IntKind.u64 (z / 1099511627776) 255) = (y : Int) := by
  have h := wrap_u64_lo z
  rw [← hz] at h
  have h2 : (z / 1099511627776).toNat &&& (255 : Int).toNat ≤ 255 := Nat.and_le_right
  refine ⟨(z / 1099511627776).toNat &&& (255 : Int).toNat, h2, ?_⟩
  rw [u64_and _ _ (by omega) (by omega) (by omega) (by omega)]
  unfold wrap64
  omega

set_option maxHeartbeats 400000 in
theorem next_in (B b k p : Nat) (q : Int) (g off n c x : Nat) (w : World) (hb : w.heap[b]? = some (.cells #[.slice (some ⟨g, off, none⟩) n c, .int .i64 (p : Int), .int .u64 q] 130 (0, 0)))
    (hB : B ≤ b) (hpk : p ≤ k) (hA : BytesAt w B (some ⟨g, off, none⟩) n)
    (hp : p < n) (hx : x ≤ 255) (hc : w.cell? ⟨g, off + p, none⟩ = some (.int .u8 (x : Int))) :
    Calls Try.prog 122 #[.pointer (some ⟨b, 0, none⟩)] w (NextPost B w b k) := by
  have hn := hA.1
  unfold maxLen at hn
  have c0 : w.cell? ⟨b, 0, none⟩ = some (.slice (some ⟨g, off, none⟩) n c) := by simp [World.cell?, hb]
  have c1 : w.cell? ⟨b, 1, none⟩ = some (.int .i64 (p : Int)) := by simp [World.cell?, hb]
  have c2 : w.cell? ⟨b, 2, none⟩ = some (.int .u64 q) := by simp [World.cell?, hb]
  have f1 : w.frozen? ⟨b, 1, none⟩ = false := by simp [World.frozen?, hb]
  have f2 : w.frozen? ⟨b, 2, none⟩ = false := by simp [World.frozen?, hb]
  have hp0 : (p : Int) < (n : Int) := by omega
  have hp1 : (0 : Int) ≤ (p : Int) := by omega
  have hp2 : (p : Int) + 1 ≤ (n : Int) := by omega
  have Hb := Lib.hid hb
  have HA := Lib.hid hA
  clear hb hA
  go_enter Try.func122, Try.ntmps122
  go_wp2
  go_quiet (fail)
  go_wp2
  go_quiet (fail)
  go_wp2
  go_quiet (fail)
  go_wp2
  go_ret
  exact ⟨x, hx, rfl, src_end (p + 1) _ _ (by omega) Hb.out hB HA.out (by omega) (wrap_u64_lo _).1 (wrap_u64_lo _).2⟩

set_option maxHeartbeats 400000 in
theorem next_out (B b k p : Nat) (q : Int) (A : Option Addr) (n c : Nat) (w : World) (hb : w.heap[b]? = some (.cells #[.slice A n c, .int .i64 (p : Int), .int .u64 q] 130 (0, 0)))
    (hB : B ≤ b) (hpk : p ≤ k) (hk : k ≤ 60000) (hA : BytesAt w B A n) (hp : n ≤ p) :
    Calls Try.prog 122 #[.pointer (some ⟨b, 0, none⟩)] w (NextPost B w b k) := by
  have hn := hA.1
  unfold maxLen at hn
  have c0 : w.cell? ⟨b, 0, none⟩ = some (.slice A n c) := by simp [World.cell?, hb]
  have c1 : w.cell? ⟨b, 1, none⟩ = some (.int .i64 (p : Int)) := by simp [World.cell?, hb]
  have c2 : w.cell? ⟨b, 2, none⟩ = some (.int .u64 q) := by simp [World.cell?, hb]
  have f1 : w.frozen? ⟨b, 1, none⟩ = false := by simp [World.frozen?, hb]
  have f2 : w.frozen? ⟨b, 2, none⟩ = false := by simp [World.frozen?, hb]
  have hd : decide (p < n) = false := by simp; omega
  have H1 : Hid (p ≤ 60000 ∧ n ≤ p ∧ p ≤ k) := ⟨by omega, hp, hpk⟩
  have Hb := Lib.hid hb
  have HA := Lib.hid hA
  clear hb hA hp hpk hk
  go_enter Try.func122, Try.ntmps122
  go_wp2
  go_quiet (fail)
  go_upto_region 4 with (fail)
  go_cut [3] (fun s3 wx => ∃ x : Nat, x ≤ 255 ∧ s3 = .int .i64 (x : Int) ∧ ∃ m, wx = (w.drewN m).setCell ⟨b, 1, none⟩ (.int .i64 ((p : Int) + 1)))
  case first =>
    have hp1 : (0 : Int) ≤ (p : Int) := by omega
    have hp2 : (p : Int) ≤ 60000 := by have := H1.out; omega
    go_wp2_with (fail)
    go_meet
    exact ⟨0, by omega, rfl, _, rfl⟩
  case rest =>
    obtain ⟨x, hx, rfl, m, rfl⟩ := hcut
    clear hd
    have hp1 : (0 : Int) ≤ (p : Int) := by omega
    have hp2 : (p : Int) ≤ 60000 := by have := H1.out; omega
    have hd : decide ((p : Int) + 1 ≤ (n : Int)) = false := by have := H1.out; simp; omega
    go_wp2
    go_quiet (fail)
    go_wp2
    go_ret
    obtain ⟨y, hy, e⟩ := low_byte (IntKind.u64.wrap (IntKind.u64.wrap (IntKind.u64.wrap (q * 6364136223846793005) + x) + 1442695040888963407))
    exact ⟨y, hy, ret_i64 e, src_end (p + 1) _ _ (by omega) Hb.out hB HA.out (by have := H1.out; omega) (wrap_u64_lo _).1 (wrap_u64_lo _).2⟩

set_option maxHeartbeats 400000 in
theorem next_any (B b k : Nat) (w : World) (h : Src B w b k) (hk : k ≤ 60000) :
    Calls Try.prog 122 #[.pointer (some ⟨b, 0, none⟩)] w (NextPost B w b k) := by
  obtain ⟨A, n, c, p, q, hb, hB, hp, hq, hq', hA⟩ := h
  rcases Nat.lt_or_ge p n with hlt | hge
  · obtain ⟨g, off, rfl, hg, hc⟩ := hA.2 (by omega)
    obtain ⟨x, hx, hx'⟩ := hc p hlt
    exact next_in B b k p q g off n c x w hb hB hp hA hlt hx hx'
  · exact next_out B b k p q A n c w hb hB hp hk hA hge

theorem Src.more {B : Nat} {w : World} {b k k' : Nat} (h : Src B w b k) (hk : k ≤ k') : Src B w b k' := by
  obtain ⟨A, n, c, p, q, h1, h2, h3, h4⟩ := h
  exact ⟨A, n, c, p, q, h1, h2, by omega, h4⟩

def PickPost (B : Nat) (w : World) (b k : Nat) (n : Int) (e : Ending) (w' : World) : Prop :=
  ∃ x : Int, 0 ≤ x ∧ (x = 0 ∨ x < n) ∧ e = .returned (.int .i64 x) ∧ Src B w' b (k + 2) ∧ Only b w w'

theorem tmod_lt (a n : Int) (h0 : 0 ≤ a) (hn : 1 < n) : 0 ≤ a.tmod n ∧ a.tmod n < n := by
  rw [Int.tmod_eq_emod_of_nonneg h0]
  exact ⟨Int.emod_nonneg _ (by omega), Int.emod_lt_of_pos _ (by omega)⟩

set_option maxHeartbeats 400000 in
theorem pick_any (B b k : Nat) (n : Int) (w : World) (h : Src B w b k) (hk : k ≤ 59000) (hn : n ≤ 65536) (hn0 : -65536 ≤ n) :
    Calls Try.prog 78 #[.pointer (some ⟨b, 0, none⟩), .int .i64 n] w (PickPost B w b k n) := by
  by_cases h1 : n ≤ 1
  · go_enter Try.func78, Try.ntmps78
    go_wp2
    go_ret
    exact ⟨0, by omega, .inl rfl, rfl, h.more (by omega), only_refl _ _⟩
  · have h1 : 1 < n := by omega
    by_cases h2 : n ≤ 200
    · have H := Lib.hid h
      clear h
      go_enter Try.func78, Try.ntmps78
      go_wp2_with (fail)
      refine (next_any B b k w H.out (by omega)).mono ?_
      rintro e w1 ⟨x, hx, rfl, hs, ho⟩
      have Hs := Lib.hid hs
      clear hs
      go_wp2
      go_ret
      exact ⟨(x : Int) % n, Int.emod_nonneg _ (by omega), .inr (Int.emod_lt_of_pos _ (by omega)), rfl, Hs.out.more (by omega), ho⟩
    · have h2 : 200 < n := by omega
      have H := Lib.hid h
      clear h
      go_enter Try.func78, Try.ntmps78
      go_wp2_with (fail)
      refine (next_any B b k w H.out (by omega)).mono ?_
      rintro e w1 ⟨x, hx, rfl, hs, ho⟩
      have Hs := Lib.hid hs
      clear hs
      go_wp2_with (fail)
      refine (next_any B b (k + 1) w1 Hs.out (by omega)).mono ?_
      rintro e w2 ⟨y, hy, rfl, hs2, ho2⟩
      have Hs2 := Lib.hid hs2
      clear hs2
      go_wp2
      go_ret
      exact ⟨((x : Int) * 256 + y) % n, Int.emod_nonneg _ (by omega), .inr (Int.emod_lt_of_pos _ (by omega)), rfl, Hs2.out.more (by omega), only_trans ho ho2⟩

/-- A number n above 1 is picked from: the pick lies in 0 .. n - 1. -/
theorem pick_pos (B b k : Nat) (n : Int) (w : World) (h : Src B w b k) (hk : k ≤ 59000) (hn : n ≤ 65536) (hn0 : 1 ≤ n) :
    Calls Try.prog 78 #[.pointer (some ⟨b, 0, none⟩), .int .i64 n] w fun e w' => ∃ x : Nat, (x : Int) < n ∧ e = .returned (.int .i64 (x : Int)) ∧ Src B w' b (k + 2) ∧ Only b w w' :=
  (pick_any B b k n w h hk hn (by omega)).mono fun e w' ⟨x, h0, hx, he, hs, ho⟩ => ⟨x.toNat, by omega, by rw [he]; exact ret_i64 (by omega), hs, ho⟩

def OnePost (B : Nat) (w : World) (b k : Nat) (e : Ending) (w' : World) : Prop :=
  ∃ x : Bool, e = .returned (.bool x) ∧ Src B w' b (k + 2) ∧ Only b w w'

set_option maxHeartbeats 400000 in
theorem one_any (B b k : Nat) (n : Int) (w : World) (h : Src B w b k) (hk : k ≤ 59000) (hn : n ≤ 65536) (hn0 : -65536 ≤ n) :
    Calls Try.prog 104 #[.pointer (some ⟨b, 0, none⟩), .int .i64 n] w (OnePost B w b k) := by
  have H := Lib.hid h
  clear h
  go_enter Try.func104, Try.ntmps104
  go_wp2_with (fail)
  refine (pick_any B b k n w H.out hk hn hn0).mono ?_
  rintro e w1 ⟨x, hx, _, rfl, hs, ho⟩
  have Hs := Lib.hid hs
  clear hs
  go_wp2
  go_ret
  exact ⟨_, rfl, Hs.out, ho⟩

def FromPost (w : World) (e : Ending) (w' : World) : Prop :=
  e = .returned (.pointer (some ⟨w.heap.size, 0, none⟩)) ∧ Src w.heap.size w' w.heap.size 0 ∧ Below w.heap.size w w'

set_option maxHeartbeats 400000 in
theorem from_any (A : Option Addr) (n c : Nat) (w : World) (h : BytesAt w w.heap.size A n) :
    Calls Try.prog 56 #[.slice A n c] w (FromPost w) := by
  have H := Lib.hid h
  clear h
  go_enter Try.func56, Try.ntmps56
  go_wp2
  go_ret
  have hb := (Below.refl w.heap.size w).alloc (Nat.le_refl _) (.cells #[.slice A n c, .int .i64 0, .int .u64 0] 130)
  refine ⟨rfl, ⟨A, n, c, 0, 0, ?_, Nat.le_refl _, Nat.le_refl _, by omega, by omega, bytesAt_below H.out hb⟩, hb⟩
  show (w.heap.push _)[w.heap.size]? = _
  simp
end Go.Proofs.Ytlbnebmdolnagaa

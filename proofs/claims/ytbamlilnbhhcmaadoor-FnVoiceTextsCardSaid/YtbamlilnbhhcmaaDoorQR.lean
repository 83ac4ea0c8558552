/- The program's reader of a patch. The readers of deeds, as plain functions: what each makes of a deed's text is that deed. No program here. The reference's reader of a deed, walked. The program's reader of a deed, walked: the words; the vote's number. Check numbers and journals, as plain functions; deeds in memory. -/
import Derived.Test.YtbamlilnbhhcmaaDoorQB
namespace Go.Proofs.YtbamlilnbhhcmaaDoor
open Go.RowKit Go.Lib

/-- The lines of a text, in a block of the call's own. -/
def LinesOf (l : List UInt8) (w : World) (e : Ending) (w' : World) : Prop :=
  ∃ c cs, e = .returned (.slice (some ⟨w.heap.size, 0, none⟩) (splitC 10 l).dropLast.length c) ∧ w'.heap[w.heap.size]? = some (.cells cs 9 (0, 0)) ∧ (∀ (k : Nat) (p : List UInt8), (splitC 10 l).dropLast[k]? = some p → cs[k]? = some (.string ⟨p.toArray⟩)) ∧ (splitC 10 l).dropLast.length ≤ c ∧ c ≤ l.length + 1 ∧ Below w.heap.size w w'

end Go.Proofs.YtbamlilnbhhcmaaDoor

namespace Go.Proofs.YtbamlilnbhhcmaaDoor
open Go.RowKit Go.Lib

def zeroDeed : Deed := ⟨0, 0, [], ⟨#[]⟩, 0, [], 0, 0, 0⟩
noncomputable def deedOf (t : List UInt8) : Option Deed := inv okDeed deedText t

theorem nums_not {zs : List Int} {c : UInt8} (h : c.toNat < 44 ∨ 57 < c.toNat) : c ∉ nums zs [44] := by
  have h44 : (44 : UInt8).toNat = 44 := rfl
  cases zs with
  | nil => simp [nums, Lib.join, List.intercalate]
  | cons z zs =>
    unfold nums
    rw [List.map_cons, Lib.join_cons]
    intro hm
    rcases List.mem_append.1 hm with hm | hm
    · exact itoa_not z (by omega) hm
    · simp only [Lib.joinTail, List.mem_flatten, List.mem_map] at hm
      obtain ⟨l, ⟨x, ⟨y, _, rfl⟩, rfl⟩, hl⟩ := hm
      rcases List.mem_append.1 hl with hl | hl
      · have := List.mem_singleton.1 hl
        subst this
        omega
      · exact itoa_not y (by omega) hl
theorem nums_split {zs : List Int} (h : zs ≠ []) : splitC 44 (nums zs [44]) = zs.map itoa := by
  cases zs with
  | nil => exact absurd rfl h
  | cons z zs =>
    unfold nums
    rw [List.map_cons]
    exact splitC_join _ _ (fun y hy => by
      rw [← List.map_cons] at hy
      obtain ⟨n, _, rfl⟩ := List.mem_map.1 hy
      exact itoa_not n (.inl (by decide)))
theorem nums_ne {zs : List Int} (h : zs ≠ []) : nums zs [44] ≠ [] := by
  cases zs with
  | nil => exact absurd rfl h
  | cons z zs =>
    unfold nums
    rw [List.map_cons, Lib.join_cons]
    intro e
    exact itoa_ne z (List.append_eq_nil_iff.1 e).1
theorem patchOf_text {q : List Edit} (h : okPatch q = true) : patchOf (patchText q) = some q := by
  have hu := lines_uniq (t := patchText q) false (lo := 1) (hi := 99) (by omega) (by omega) (by omega) (by omega) (patch_lines h)
  have hq := hu q h rfl
  rw [hq] at hu
  exact inv_of hu h rfl
/-- What the reference takes a text for, before it tests it. -/
def voteIx (v : List UInt8) : Int := if v = wordV 0 then 0 else if v = wordV 1 then 1 else if v = wordV 2 then 2 else if v = wordV 3 then 3 else 0
noncomputable def num1 (l : List UInt8) : Int := (numOf (-999999999) 999999999 l).getD 0
noncomputable def cand1 (s : List UInt8) : Deed :=
  let p := cutL 32 s
  let a := cutL 32 p.2
  let b := cutL 32 a.2
  let c := cutL 32 b.2
  let e := cutL 32 c.2
  let f := cutL 32 e.2
  if p.1 = [116, 114, 117, 115, 116] then ⟨1, num1 a.1, (numL (-999999999) 999999999 (splitC 44 a.2)).getD [], ⟨#[]⟩, 0, [], 0, 0, 0⟩
  else if p.1 = [118, 111, 116, 101] then ⟨2, num1 a.1, [], ⟨b.1.toArray⟩, voteIx b.2, [], 0, 0, 0⟩
  else if p.1 = [112, 114, 111, 112, 111, 115, 101] then ⟨3, num1 a.1, [], ⟨b.1.toArray⟩, 0, (patchOf (unsemis f.2)).getD [], num1 e.1, num1 f.1, num1 c.1⟩
  else if p.1 = [110, 101, 120, 116] then ⟨4, 0, [], ⟨#[]⟩, 0, [], 0, 0, 0⟩
  else zeroDeed
/-- What the program takes a text for, before it tests it. -/
def ixOf (v : List UInt8) : Int := if v = wordV 0 then 0 else if v = wordV 1 then 1 else if v = wordV 2 then 2 else if v = wordV 3 then 3 else -1
noncomputable def num2 (hi : Int) (l : List UInt8) : Int := (numOf 0 hi l).getD 0
noncomputable def memb2 (ws : List (List UInt8)) : Int := if 1 < ws.length then num2 12 (ws.getD 1 []) else 0
noncomputable def cand2 (ws : List (List UInt8)) : Deed :=
  if ws.getD 0 [] = [110, 101, 120, 116] then ⟨4, memb2 ws, [], ⟨#[]⟩, 0, [], 0, 0, 0⟩
  else if ws.getD 0 [] = [116, 114, 117, 115, 116] ∧ ws.length ≤ 3 then ⟨1, memb2 ws, if ws.length = 3 then decs 0 12 (ws.getD 2 []) else [], ⟨#[]⟩, 0, [], 0, 0, 0⟩
  else if ws.getD 0 [] = [118, 111, 116, 101] ∧ ws.length = 4 then ⟨2, memb2 ws, [], ⟨(ws.getD 2 []).toArray⟩, ixOf (ws.getD 3 []), [], 0, 0, 0⟩
  else if ws.getD 0 [] = [112, 114, 111, 112, 111, 115, 101] ∧ ws.length = 7 then ⟨3, memb2 ws, [], ⟨(ws.getD 2 []).toArray⟩, 0, (patchOf (unsemis (ws.getD 6 []))).getD [], num2 1000 (ws.getD 4 []), num2 1000 (ws.getD 5 []), num2 1000 (ws.getD 3 [])⟩
  else ⟨0, memb2 ws, [], ⟨#[]⟩, 0, [], 0, 0, 0⟩
theorem decs_of {zs : List Int} (h : ∀ z ∈ zs, 0 ≤ z ∧ z ≤ 11) (hl : zs.length ≤ 4) (hz : zs ≠ []) : decs 0 12 (nums zs [44]) = zs := by
  unfold decs
  rw [if_neg (nums_ne hz), nums_split hz, if_pos (by rw [List.length_map]; omega), numL_map (by omega) (by omega) zs (fun z hz => by have := h z hz; omega)]
  rfl
end Go.Proofs.YtbamlilnbhhcmaaDoor

namespace Go.Proofs.YtbamlilnbhhcmaaDoor
open Go.RowKit Go.Lib

def deedCs (d : Deed) (A1 : Option Addr) (c1 : Nat) (A2 : Option Addr) (c2 : Nat) : List Value :=
  [.int .i64 d.kind, .int .i64 d.member, .slice A1 d.trust.length c1, .string d.title, .int .i64 d.vote, .slice A2 d.patch.length c2, .int .i64 d.start, .int .i64 d.until_, .int .i64 d.closes]
def deedV (d : Deed) (A1 : Option Addr) (c1 : Nat) (A2 : Option Addr) (c2 : Nat) : Value :=
  .agg #[.int .i64 d.kind, .int .i64 d.member, .slice A1 d.trust.length c1, .string d.title, .int .i64 d.vote, .slice A2 d.patch.length c2, .int .i64 d.start, .int .i64 d.until_, .int .i64 d.closes]
def DeedPost (s : List UInt8) (w : World) (e : Ending) (w' : World) : Prop :=
  ∃ A1 c1 A2 c2, e = .returned (.tuple #[deedV ((deedOf s).getD zeroDeed) A1 c1 A2 c2, .bool (deedOf s).isSome]) ∧ OwnL intCells ((deedOf s).getD zeroDeed).trust w.heap.size w' (.slice A1 ((deedOf s).getD zeroDeed).trust.length c1) ∧ OwnL editCells ((deedOf s).getD zeroDeed).patch w.heap.size w' (.slice A2 ((deedOf s).getD zeroDeed).patch.length c2) ∧ Below w.heap.size w w'

theorem OwnL.set {α : Type} {f : α → List Value} {xs : List α} {base : Nat} {w : World} {v : Value} (h : OwnL f xs base w v) {p : Addr} (u : Value) (hp : p.block < base) : OwnL f xs base (w.setCell p u) v := by
  obtain ⟨A, c, rfl, h1, h2, h3⟩ := h
  refine ⟨A, c, rfl, h1, h2, fun h0 => ?_⟩
  obtain ⟨g, e, hg, hlt, hr⟩ := h3 h0
  exact ⟨g, e, hg, by simpa using hlt, hr.far u (by omega)⟩

/-- The state of a reader of deeds: the result's block, the deed's block. -/
structure St (w V : World) (L : List Value) : Prop where
  row : Row V (w.heap.size + 1) L
  res : Row V w.heap.size (deedCs zeroDeed none 0 none 0)
  bel : Below w.heap.size w V
  siz : w.heap.size + 1 < V.heap.size
theorem St.set {w V : World} {L : List Value} (h : St w V L) (k : Nat) (u : Value) (hk : k < L.length) : St w (V.setCell ⟨w.heap.size + 1, k, none⟩ u) (L.set k u) :=
  ⟨h.row.set k u hk, h.res.far u (by simp), h.bel.setCell (by simp) _, by simpa using h.siz⟩
theorem St.below {w V V' : World} {L : List Value} (h : St w V L) (hb : Below V.heap.size V V') : St w V' L :=
  ⟨h.row.below hb h.siz, h.res.below hb (Nat.lt_of_succ_lt h.siz), h.bel.trans (hb.mono h.bel.size), Nat.lt_of_lt_of_le h.siz hb.size⟩
theorem St.drew {w V : World} {L : List Value} (h : St w V L) (n : Nat) : St w (V.drewN n) L := h.below (below_drewN (Below.refl _ _) n)
theorem St.own {w V : World} {L : List Value} (h : St w V L) : w.heap.size + 2 ≤ V.heap.size := h.siz

structure Cand (s : List UInt8) (w V : World) (d : Deed) (A1 : Option Addr) (c1 : Nat) (A2 : Option Addr) (c2 : Nat) : Prop where
  st : St w V (deedCs d A1 c1 A2 c2)
  o1 : OwnL intCells d.trust (w.heap.size + 2) V (.slice A1 d.trust.length c1)
  o2 : OwnL editCells d.patch (w.heap.size + 2) V (.slice A2 d.patch.length c2)
  sz : SizesOk d.patch
  ti : d.title.size ≤ maxLen
  un : ∀ q, okDeed q = true → deedText q = s → d = q
end Go.Proofs.YtbamlilnbhhcmaaDoor

namespace Go.Proofs.YtbamlilnbhhcmaaDoor
open Go.RowKit Go.Lib

/-- The state of the program's reader: the result's block, what was when the deed's block was made, the deed's block. -/
structure Si (w w1 V : World) (L : List Value) : Prop where
  row : Row V w1.heap.size L
  res : Row V w.heap.size (deedCs zeroDeed none 0 none 0)
  all : Below w.heap.size w V
  bel : Below w1.heap.size w1 V
  siz : w1.heap.size < V.heap.size
  lt : w.heap.size < w1.heap.size
theorem Si.set {w w1 V : World} {L : List Value} (h : Si w w1 V L) (k : Nat) (u : Value) (hk : k < L.length) : Si w w1 (V.setCell ⟨w1.heap.size, k, none⟩ u) (L.set k u) :=
  ⟨h.row.set k u hk, h.res.far u (by have := h.lt; simp; omega), h.all.setCell (by have := h.lt; simp; omega) _, h.bel.setCell (by simp) _, by simpa using h.siz, h.lt⟩
theorem Si.below {w w1 V V' : World} {L : List Value} (h : Si w w1 V L) (hb : Below V.heap.size V V') : Si w w1 V' L :=
  ⟨h.row.below hb h.siz, h.res.below hb (Nat.lt_trans h.lt h.siz), h.all.trans (hb.mono h.all.size), h.bel.trans (hb.mono h.bel.size), Nat.lt_of_lt_of_le h.siz hb.size, h.lt⟩
theorem Si.own {w w1 V : World} {L : List Value} (h : Si w w1 V L) : w1.heap.size + 1 ≤ V.heap.size := h.siz
/-- What stands in the deed's block behind the switch. -/
structure Pre (w w1 V : World) (d : Deed) (A1 : Option Addr) (c1 : Nat) (A2 : Option Addr) (c2 : Nat) : Prop where
  st : Si w w1 V (deedCs d A1 c1 A2 c2)
  o1 : OwnL intCells d.trust (w1.heap.size + 1) V (.slice A1 d.trust.length c1)
  o2 : OwnL editCells d.patch (w1.heap.size + 1) V (.slice A2 d.patch.length c2)
  sz : SizesOk d.patch
  ti : d.title.size ≤ maxLen
theorem Pre.below {w w1 V V' : World} {d : Deed} {A1 : Option Addr} {c1 : Nat} {A2 : Option Addr} {c2 : Nat} (h : Pre w w1 V d A1 c1 A2 c2) (hb : Below V.heap.size V V') : Pre w w1 V' d A1 c1 A2 c2 :=
  ⟨h.st.below hb, h.o1.on hb, h.o2.on hb, h.sz, h.ti⟩
theorem Pre.member {w w1 V : World} {d : Deed} {A1 : Option Addr} {c1 : Nat} {A2 : Option Addr} {c2 : Nat} (h : Pre w w1 V d A1 c1 A2 c2) (m : Int) : Pre w w1 (V.setCell ⟨w1.heap.size, 1, none⟩ (.int .i64 m)) { d with member := m } A1 c1 A2 c2 :=
  ⟨h.st.set 1 _ (by simp [deedCs]), h.o1.set _ (by simp), h.o2.set _ (by simp), h.sz, h.ti⟩

theorem Row.drew {W : World} {g : Nat} {L : List Value} (h : Row W g L) : Row W.drew g L := ⟨fun j u hj => by simpa using h.cell j u hj, fun j hj => by simpa using h.free j hj⟩
/-- The words of a text, as they lie. -/
def Words (w1 : World) (g : Nat) (ws : List (List UInt8)) : Prop := g < w1.heap.size ∧ ∀ (k : Nat) (l : List UInt8), ws[k]? = some l → w1.cell? ⟨g, k, none⟩ = some (.string ⟨l.toArray⟩)
end Go.Proofs.YtbamlilnbhhcmaaDoor

namespace Go.Proofs.YtbamlilnbhhcmaaDoor
open Go.RowKit Go.Lib

theorem take_snoc (s : ByteArray) (k : Nat) (h : k < s.size) : s.data.toList.take (k + 1) = s.data.toList.take k ++ [s[k]] := by
  rw [List.take_succ_eq_append_getElem (by simpa using h)]; rfl
def wsum : Nat → List UInt8 → Nat
  | _, [] => 0
  | i, c :: r => (i + 1) * c.toNat + wsum (i + 1) r
def chk (b : Nat) (t : List UInt8) : Nat := (31 * b + wsum 0 t) % 9973
def jrn : Nat → List Deed → List UInt8
  | _, [] => []
  | b, d :: r => itoa (chk b (deedText d) : Nat) ++ 32 :: (deedText d ++ 10 :: jrn (chk b (deedText d)) r)
def jlast : Nat → List Deed → Nat
  | b, [] => b
  | b, d :: r => jlast (chk b (deedText d)) r
def okDeeds (ds : List Deed) : Bool := decide (ds.length ≤ 40) && ds.all okDeed
def deedCells (d : Deed) (A1 : Option Addr) (c1 : Nat) (A2 : Option Addr) (c2 : Nat) : List Value :=
  [.int .i64 d.kind, .int .i64 d.member, .slice A1 d.trust.length c1, .string d.title, .int .i64 d.vote, .slice A2 d.patch.length c2, .int .i64 d.start, .int .i64 d.until_, .int .i64 d.closes]
def DeedR : World → Nat → List Value → Deed → Prop := fun w B us d =>
  ∃ A1 c1 A2 c2, us = deedCells d A1 c1 A2 c2 ∧ Ints w B (.slice A1 d.trust.length c1) d.trust ∧ Edits w B (.slice A2 d.patch.length c2) d.patch ∧ SizesOk d.patch ∧ d.title.size ≤ maxLen
theorem DeedR.stays : Stays DeedR := fun _ _ _ _ _ _ ⟨A1, c1, A2, c2, h, hi, he, hs, ht⟩ hb hB => ⟨A1, c1, A2, c2, h, hi.on (Pl.stays _) hb hB, he.on (Pl.stays _) hb hB, hs, ht⟩
def Deeds (w : World) (B : Nat) (v : Value) (ds : List Deed) : Prop := SlR DeedR 9 w B v ds
end Go.Proofs.YtbamlilnbhhcmaaDoor

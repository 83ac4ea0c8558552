/- Marks of numbers and edits, walked, where the count may be great (as in the first texts, under greater bounds). Marks in slices of structs, walked: rows, articles, acts, motions; in an assembly. (Printed by tools/gen/g_vq.py) An assembly marked, walked; marked articles read again, walked. A law on an assembly that compares a result in memory: its walk, laid once; FnExactTextToday, walked. -/
import Derived.Test.YtbamlilnbhhcmaaDoorQE
import Derived.Test.YtbamlilnbhhcmaaDoorQF
import Derived.Test.YtbamlilnbhhcmaaDoorQB
import Derived.Test.YtbamlilnbhhcmaaDoorQG
namespace Go.Proofs.YtbamlilnbhhcmaaDoor
open Go.RowKit Go.Lib

end Go.Proofs.YtbamlilnbhhcmaaDoor

namespace Go.Proofs.YtbamlilnbhhcmaaDoor
open Go.RowKit Go.Lib

/-- The elements as they are marked, and the count behind them. -/
def markL {β : Type} (m : Nat → β → β) (nx : Nat → β → Nat) : Nat → List β → List β
  | _, [] => []
  | k, x :: xs => m k x :: markL m nx (nx k x) xs
def endK {β : Type} (nx : Nat → β → Nat) : Nat → List β → Nat
  | k, [] => k
  | k, x :: xs => endK nx (nx k x) xs
theorem TreeO.put {β : Type} {K : Kind β} {base : Nat} {w : World} {v : Value} {P R : List β} {x x' : β} (h : TreeO K base w v (P ++ x :: R)) {j g : Nat} (hP : P.length = j) (hv : v.ownBlock = some g) (i : Nat) (hi : i < K.size) (u : Value) (hc : K.cells x' = (K.cells x).set i u)
    (hb : ∀ b, K.blk x' b ↔ K.blk x b) (hin : ∀ w, K.inn base w x → K.inn base w x') : TreeO K base (w.setCell ⟨g, j * K.size + i, none⟩ u) v (P ++ x' :: R) := by
  have := h.setCell (j := j) (x := x) (x' := x') (by rw [List.getElem?_append_right (by omega), hP, Nat.sub_self]; rfl) hv i hi u hc hb hin
  rwa [List.set_append_right _ _ (by omega), hP, Nat.sub_self, List.set_cons_zero] at this
def MarkT {β : Type} (K : Kind β) (m : Nat → β → β) (nx : Nat → β → Nat) (L : List β) (k base : Nat) (v : Value) (w : World) (e : Ending) (w' : World) : Prop :=
  e = .returned (.int .i64 ((endK nx k L : Nat) : Int)) ∧ TreeO K base w' v (markL m nx k L) ∧ Touch (Foot K v L) w w'
def mText (k : Nat) : ByteArray := ⟨(109 :: itoa ((k : Nat) : Int)).toArray⟩
def nRow (k : Nat) (x : VRow) : Nat := k + x.a.length
def mRow (k : Nat) (x : VRow) : VRow := ⟨seqI k x.a.length, x.v⟩
def nArt (k : Nat) (_ : Art) : Nat := k + 2
def mArt (k : Nat) (_ : Art) : Art := ⟨(k : Int), ⟨(109 :: itoa ((k + 1 : Nat) : Int)).toArray⟩⟩
def nAct (k : Nat) (x : VAct) : Nat := k + 2 + 4 * x.a.pat.length
def mAct (k : Nat) (x : VAct) : VAct := ⟨⟨(k : Int), (k : Int) + 1, medits (k + 2) x.a.pat.length⟩, x.v⟩
def nMot (k : Nat) (x : VMot) : Nat := k + 2 + 4 * x.a.pat.length + 3 + x.a.votes.length + 1
def mMot (k : Nat) (x : VMot) : VMot := ⟨⟨⟨(109 :: itoa ((k : Nat) : Int)).toArray⟩, (k : Int) + 1, medits (k + 2) x.a.pat.length, ((k + 2 + 4 * x.a.pat.length : Nat) : Int), ((k + 2 + 4 * x.a.pat.length : Nat) : Int) + 1, ((k + 2 + 4 * x.a.pat.length : Nat) : Int) + 1 + 1, seqI (k + 2 + 4 * x.a.pat.length + 3) x.a.votes.length, ((k + 2 + 4 * x.a.pat.length + 3 + x.a.votes.length : Nat) : Int)⟩, x.p, x.t⟩
end Go.Proofs.YtbamlilnbhhcmaaDoor

namespace Go.Proofs.YtbamlilnbhhcmaaDoor
open Go.RowKit Go.Lib

/-- An assembly as it is marked. -/
def mAsm (k : Nat) (a : Asm) (T : List VRow) (C : List VAct) (M : List VMot) : Asm :=
  ⟨a.day, a.rule, (markL mRow nRow k T).map VRow.a, markL mArt nArt (endK nRow k T) a.base, (markL mAct nAct (endK nArt (endK nRow k T) a.base) C).map VAct.a, (markL mMot nMot (endK nAct (endK nArt (endK nRow k T) a.base) C) M).map VMot.a⟩
def eAsm (k : Nat) (a : Asm) (T : List VRow) (C : List VAct) (M : List VMot) : Nat := endK nMot (endK nAct (endK nArt (endK nRow k T) a.base) C) M
def MarkA (x : VAsm) (a : Asm) (T : List VRow) (C : List VAct) (M : List VMot) (k base : Nat) (w : World) (e : Ending) (w' : World) : Prop :=
  e = .returned (.int .i64 ((eAsm k a T C M : Nat) : Int)) ∧
  AsmO base w' x (mAsm k a T C M) (markL mRow nRow k T) (markL mAct nAct (endK nArt (endK nRow k T) a.base) C) (markL mMot nMot (endK nAct (endK nArt (endK nRow k T) a.base) C) M) ∧
  Touch (asmFoot x a T C M) w w'
structure TreesFit (T : List VRow) (b : List Art) (C : List VAct) (M : List VMot) : Prop where
  t0 : T.length ≤ 1048576
  t : ∀ x ∈ T, x.a.length ≤ 1048576
  b0 : b.length ≤ 1048576
  c0 : C.length ≤ 1048576
  c : ∀ x ∈ C, x.a.pat.length ≤ 1048576
  m0 : M.length ≤ 1048576
  m : ∀ x ∈ M, x.a.pat.length ≤ 1048576 ∧ x.a.votes.length ≤ 1048576
end Go.Proofs.YtbamlilnbhhcmaaDoor

namespace Go.Proofs.YtbamlilnbhhcmaaDoor
open Go.RowKit Go.Lib

/-- A result in memory with a flag. -/
def ResP (own : Nat → World → Value → Prop) (r : Bool) (w : World) (e : Ending) (w' : World) : Prop := ∃ v, e = .returned (.tuple #[v, .bool r]) ∧ own w.heap.size w' v ∧ Below w.heap.size w w'
/-- What a result in memory is. -/
structure ResK where
  own : Nat → World → Value → Prop
  mrk : Nat → World → Value → Prop
  n : Nat
  slice : ∀ {b W v}, own b W v → ∃ A m c, v = .slice A m c
  touch : ∀ {b W W' v} {F : Nat → Prop}, own b W v → Touch F W W' → (∀ c, F c → c < b) → own b W' v
  mtouch : ∀ {b W W' v}, mrk b W v → Below W.heap.size W W' → mrk b W' v
theorem ResK.below (K : ResK) {b : Nat} {W W' : World} {v : Value} (h : K.own b W v) (hb : Below W.heap.size W W') : K.own b W' v := K.touch (F := fun _ => False) h (Touch.of_below hb) (fun _ h => h.elim)

/-- Articles as a result. -/
def artK (R : List Art) : ResK where
  own b W v := OwnL artCells R b W v
  mrk b W v := OwnL artCells (markL mArt nArt 1 R) b W v
  n := endK nArt 1 R
  slice h := by obtain ⟨A, c, e, _⟩ := h; exact ⟨A, _, c, e⟩
  touch h ht hF := OwnL.touch h ht (fun c hc hf => by have q1 := (OwnL.sblk h hc).1; have q2 := hF c hf; omega)
  mtouch h hb := OwnL.on h hb
noncomputable def today (a : Asm) : List Art := if okAsm a = true then (onO a.base a.acts a.day).getD [] else []
end Go.Proofs.YtbamlilnbhhcmaaDoor

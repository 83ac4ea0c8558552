/- The texts of sentences, patches and deeds, as plain functions. No program here. -/
import Derived.Test.YthlfpiflegfoiaaGreatDoorDec
import Derived.Test.YthlfpiflegfoiaaGreatDoorBase
namespace Go.Proofs.YthlfpiflegfoiaaGreatDoor
open Go.Lib

def allLt (n : Nat) (f : Nat → Bool) : Bool := (List.range n).all f
theorem allLt_succ (n : Nat) (f : Nat → Bool) : allLt (n + 1) f = (allLt n f && f n) := by
  unfold allLt
  rw [List.range_succ, List.all_append]
  simp
theorem allLt_true {n : Nat} {f : Nat → Bool} : allLt n f = true ↔ ∀ k, k < n → f k = true := by
  unfold allLt
  simp
theorem allLt_false {n k : Nat} {f : Nat → Bool} (hk : k < n) (h : f k = false) : allLt n f = false := by
  rw [Bool.eq_false_iff]
  intro e
  rw [allLt_true] at e
  rw [e k hk] at h
  cases h

structure Edit where
  kind : Int
  id : Int
  old : ByteArray
  new : ByteArray

def editCells (e : Edit) : List Value := [.int .i64 e.kind, .int .i64 e.id, .string e.old, .string e.new]
def editV (e : Edit) : Value := .agg #[.int .i64 e.kind, .int .i64 e.id, .string e.old, .string e.new]

structure Deed where
  kind : Int
  member : Int
  trust : List Int
  title : ByteArray
  vote : Int
  patch : List Edit
  start : Int
  until_ : Int
  closes : Int

def sentCh (c : Nat) : Bool := (decide (97 ≤ c) && decide (c ≤ 122)) || (decide (48 ≤ c) && decide (c ≤ 57)) || decide (c = 32)
def byteAt (l : List UInt8) (k : Nat) : Nat := (l.getD k 0).toNat
def okSent (l : List UInt8) : Bool :=
  allLt l.length (fun k => sentCh (byteAt l k)) && decide (1 ≤ l.length) && decide (l.length ≤ 24) && decide (byteAt l 0 ≠ 32) && decide (byteAt l (l.length - 1) ≠ 32)

def okName (l : List UInt8) : Bool :=
  allLt l.length (fun k => decide (97 ≤ byteAt l k) && decide (byteAt l k ≤ 122)) && decide (1 ≤ l.length) && decide (l.length ≤ 10)

def okEdit (e : Edit) : Bool :=
  inB e.id 1 99 && ((decide (e.kind = 1) && decide (e.old.toList = []) && okSent e.new.toList) || (decide (e.kind = 2) && okSent e.old.toList && decide (e.new.toList = [])) ||
    (decide (e.kind = 3) && okSent e.old.toList && okSent e.new.toList && !(e.old.toList == e.new.toList)))

def idAt (p : List Edit) (k : Nat) : Int := ((p[k]?).map (·.id)).getD 0
def okPatch (p : List Edit) : Bool :=
  allLt p.length (fun k => ((p[k]?).map okEdit).getD true && (decide (k = 0) || decide (idAt p (k - 1) < idAt p k))) && decide (p.length ≤ 16)

def editText (e : Edit) : List UInt8 :=
  if e.kind = 1 then 43 :: (itoa e.id ++ 32 :: (e.new.toList ++ [10])) else if e.kind = 2 then 45 :: (itoa e.id ++ 32 :: (e.old.toList ++ [10])) else 126 :: (itoa e.id ++ 32 :: (e.old.toList ++ 124 :: (e.new.toList ++ [10])))
def patchText (p : List Edit) : List UInt8 := p.flatMap editText

def okTrust (l : List Int) (member n : Int) : Bool :=
  allLt l.length (fun k => inB (l.getD k 0) 0 (n - 1) && decide (l.getD k 0 ≠ member) && !((l.take k).contains (l.getD k 0))) && decide (l.length ≤ 4)

def okSpan (p : List Edit) (closes start until_ : Int) : Bool :=
  !p.isEmpty && okPatch p && inB closes 1 999 && decide (closes ≤ start) && decide (start < until_) && decide (until_ ≤ 1000)

def okDeed (d : Deed) : Bool :=
  let plain := d.patch.isEmpty && decide (d.start = 0) && decide (d.until_ = 0) && decide (d.closes = 0)
  (decide (d.kind = 1) && inB d.member 0 11 && okTrust d.trust d.member 12 && decide (d.title.toList = []) && decide (d.vote = 0) && plain) ||
  (decide (d.kind = 2) && inB d.member 0 11 && okName d.title.toList && inB d.vote 0 3 && d.trust.isEmpty && plain) ||
  (decide (d.kind = 3) && inB d.member 0 11 && okName d.title.toList && okSpan d.patch d.closes d.start d.until_ && d.trust.isEmpty && decide (d.vote = 0)) ||
  (decide (d.kind = 4) && decide (d.member = 0) && d.trust.isEmpty && decide (d.title.toList = []) && decide (d.vote = 0) && plain)

end Go.Proofs.YthlfpiflegfoiaaGreatDoor

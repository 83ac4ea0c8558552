/- Names and small tests, walked: the program's and the reference's. Lists of numbers: is a number among them; who may be trusted. Deeds: the program's test, walked. Walks over later worlds: every world after W is 'x.val' for some x : Aft W; what is laid once for all of them holds at each step. No contract of the library is laid at this translation. What the library's functions do, and numbers as texts. The text of a patch, walked: the program's. Numbers in a row as a text, walked: the program's. The text of a deed, walked: the program's. Numbers as texts, walked: the reference's. (Under way.) Sentences, walked: the reference's. Edits, walked: the reference's. Patches, walked: the reference's. Deeds, walked: the reference's test. Deeds, walked: the reference's test, kind by kind. The text of a deed, walked: the reference's. The text of a deed, walked: the reference's, whole. A byte replaced by a byte, as the library's ReplaceAll does it. No program here. Texts cut into parts, as plain functions. No program here. What a text is the text of: the readers as plain functions; numbers, parts, lines. No program here. The reference's readers of parts: a text cut, a number. Rows of the call's own, as lists. The reference's readers of lines and of lists of numbers. The reference's readers of an edit and of a patch. The reference's reader of a patch. What the library's readers do, and the program's readers of numbers and lists. -/
import Derived.Test.YtmgdodgofpapgaaPA
import Derived.Test.YtmgdodgofpapgaaProg
import Derived.Lib.AppendIntMem
import Derived.Lib.AtoiErrMem
import Derived.Lib.Join
import Derived.Deep.RegionHeld3
import Derived.Lib.ConvBytes
import Derived.Lib.Replace
import Derived.Lib.CountLaws
import Derived.Lib.Split
import Derived.BigQuiet
import Derived.Laws.AppendOwn
namespace Go.Proofs.Ytmgdodgofpapgaa
open Go.RowKit

def nameCh (c : Nat) : Bool := decide (97 ≤ c) && decide (c ≤ 122)
theorem okName_bad (l : List UInt8) (k : Nat) (hk : k < l.length) (h : nameCh (byteAt l k) = false) : okName l = false := by
  unfold okName
  have h' : (decide (97 ≤ byteAt l k) && decide (byteAt l k ≤ 122)) = false := h
  rw [allLt_false (f := fun k => decide (97 ≤ byteAt l k) && decide (byteAt l k ≤ 122)) hk h']
  rfl

end Go.Proofs.Ytmgdodgofpapgaa

namespace Go.Proofs.Ytmgdodgofpapgaa
open Go.RowKit

def intCells (z : Int) : List Value := [.int .i64 z]
def Ints (w : World) (B : Nat) (v : Value) (zs : List Int) : Prop := SlR (Pl intCells) 1 w B v zs

theorem ints_at {w : World} {B b off : Nat} {zs : List Int} (h : ∀ (k : Nat) (x : Int), zs[k]? = some x → ∃ us, us.length = 1 ∧ Pl intCells w B us x ∧ ∀ (j : Nat) (u : Value), us[j]? = some u → w.cell? ⟨b, off + k * 1 + j, none⟩ = some u) {k : Nat} {z : Int} (hk : zs[k]? = some z) :
    w.cell? ⟨b, off + k, none⟩ = some (.int .i64 z) := by
  obtain ⟨us, hl, hp, hc⟩ := h k z hk
  have hp : us = intCells z := hp
  subst hp
  have := hc 0 _ rfl
  simpa using this

theorem SlR.take {α : Type} {R : World → Nat → List Value → α → Prop} {size : Nat} {w : World} {B : Nat} {A : Option Addr} {n c : Nat} {xs : List α} (h : SlR R size w B (.slice A n c) xs) (k : Nat) (hk : k ≤ xs.length) : SlR R size w B (.slice A k c) (xs.take k) := by
  obtain ⟨A', c', hv, h1, h2, h3⟩ := h
  injection hv with e1 e2 e3
  subst e1 e3
  have hl : (xs.take k).length = k := by rw [List.length_take]; omega
  refine ⟨A, c, by rw [hl], by omega, h2, fun h0 => ?_⟩
  obtain ⟨b, off, hA, hb, hc⟩ := h3 (by omega)
  refine ⟨b, off, hA, hb, fun j x hx => hc j x ?_⟩
  rw [List.getElem?_take] at hx
  split at hx
  · exact hx
  · cases hx

def IndexPost (w : World) (zs : List Int) (x : Int) (e : Ending) (w' : World) : Prop :=
  ∃ n : Int, e = .returned (.int .i64 n) ∧ w' = w ∧ (0 ≤ n ↔ x ∈ zs) ∧ -1 ≤ n ∧ n ≤ 9223372036854775807 ∧ (0 ≤ n → zs[n.toNat]? = some x ∧ x ∉ zs.take n.toNat)

def trustAt (l : List Int) (member n : Int) (k : Nat) : Bool := inB (l.getD k 0) 0 (n - 1) && decide (l.getD k 0 ≠ member) && !((l.take k).contains (l.getD k 0))
theorem okTrust_eq (l : List Int) (member n : Int) : okTrust l member n = (allLt l.length (trustAt l member n) && decide (l.length ≤ 4)) := rfl
theorem okTrust_bad {l : List Int} {member n : Int} {k : Nat} (hk : k < l.length) (h : trustAt l member n k = false) : okTrust l member n = false := by
  rw [okTrust_eq, allLt_false hk h]
  rfl
theorem trustAt_eq {l : List Int} {member n : Int} {k : Nat} {z : Int} (hz : l[k]? = some z) : trustAt l member n k = (inB z 0 (n - 1) && decide (z ≠ member) && !((l.take k).contains z)) := by
  have e : l.getD k 0 = z := by rw [List.getD_eq_getElem?_getD, hz]; rfl
  unfold trustAt
  rw [e]

end Go.Proofs.Ytmgdodgofpapgaa

namespace Go.Proofs.Ytmgdodgofpapgaa
open Go.RowKit

def plainB (d : Deed) : Bool := d.patch.isEmpty && decide (d.start = 0) && decide (d.until_ = 0) && decide (d.closes = 0)
theorem okDeed_1 {d : Deed} (hk : d.kind = 1) : okDeed d = (inB d.member 0 11 && okTrust d.trust d.member 12 && decide (d.title.toList = []) && decide (d.vote = 0) && plainB d) := by
  unfold okDeed plainB
  simp [hk]
theorem okDeed_2 {d : Deed} (hk : d.kind = 2) : okDeed d = (inB d.member 0 11 && okName d.title.toList && inB d.vote 0 3 && d.trust.isEmpty && plainB d) := by
  unfold okDeed plainB
  simp [hk]
theorem okDeed_3 {d : Deed} (hk : d.kind = 3) : okDeed d = (inB d.member 0 11 && okName d.title.toList && okSpan d.patch d.closes d.start d.until_ && d.trust.isEmpty && decide (d.vote = 0)) := by
  unfold okDeed
  simp [hk]
theorem okDeed_4 {d : Deed} (hk : d.kind = 4) : okDeed d = (decide (d.member = 0) && d.trust.isEmpty && decide (d.title.toList = []) && decide (d.vote = 0) && plainB d) := by
  unfold okDeed plainB
  simp [hk]
theorem okDeed_0 {d : Deed} (h1 : d.kind ≠ 1) (h2 : d.kind ≠ 2) (h3 : d.kind ≠ 3) (h4 : d.kind ≠ 4) : okDeed d = false := by
  unfold okDeed
  simp [h1, h2, h3, h4]

theorem len_zero {α : Type} (l : List α) : ((l.length : Int) == 0) = l.isEmpty := by
  cases l with
  | nil => rfl
  | cons a l => simp; omega
theorem int_zero (n : Int) : (n == 0) = decide (n = 0) := by
  by_cases h : n = 0 <;> simp [h]

end Go.Proofs.Ytmgdodgofpapgaa

namespace Go.Proofs.Ytmgdodgofpapgaa
open Go.RowKit

theorem calls_aft {P : Program} {f : FuncId} {args : Array Value} {w : World} {R : Ending → World → Prop} (h : ∀ x : Aft w, Calls P f args x.val R) : Calls P f args w R :=
  h ⟨w, Below.refl _ _⟩
theorem wp_aft {P : Program} {c : Code} {Q : Exit → Act → World → Prop} {a : Act} {W : World} (h : ∀ x : Aft W, c.wp P Q a x.val) : c.wp P Q a W :=
  h ⟨W, Below.refl _ _⟩
/-- A region that draws its order, at a later world. -/
theorem wp_region_at {P : Program} {id : Nat} {Q : Exit → Act → World → Prop} {a : Act} {W : World} {x : Aft W} {l : List Oper} (hm : P.follows .mixedOrders = true) (hB : Region.lexB .any l.toArray = true)
    (h : wpQuiet P l.toArray (fun w' => ∃ x : Aft W, w' = x.val) (fun a' => ∀ w', (∃ x : Aft W, w' = x.val) → Q .normal a' w') l a) : (Code.region id l.toArray true).wp P Q a x.val :=
  wp_region_quiet (C := fun w' => ∃ x : Aft W, w' = x.val) hm hB ⟨⟨x.val.drew, x.ok.drew⟩, rfl⟩ (by simpa using h)

def Aft.old {w : World} {o : Obj} (y : Aft (w.alloc o)) : Aft w := ⟨y.val, ((Below.refl w.heap.size w).alloc (Nat.le_refl _) o).trans (y.ok.mono (by simp))⟩
def Aft.of {w : World} (x : Aft w) (y : Aft x.val) : Aft w := ⟨y.val, x.ok.trans (y.ok.mono x.ok.size)⟩
theorem aft_lift {w : World} {o : Obj} {p : World → Prop} (h : ∀ x : Aft w, p x.val) : ∀ y : Aft (w.alloc o), p y.val := fun y => h y.old
theorem aft_new {w : World} {cs : Array Value} {t : TypeId} (j : Nat) (v : Value) (h : cs[j]? = some v) : ∀ y : Aft (w.alloc (.cells cs t)), y.val.cell? ⟨w.heap.size, j, none⟩ = some v :=
  fun y => y.cell (by simpa [go_sem] using h)
theorem aft_done {w W : World} (h : Below w.heap.size w W) (x : Aft W) : Below w.heap.size w x.val := h.trans (x.ok.mono h.size)
theorem aft_size {W : World} {b o : Nat} {v : Value} (h : W.cell? ⟨b, o, none⟩ = some v) : ∀ x : Aft W, b < x.val.heap.size := fun x => World.block_lt_of_cell? x.val ⟨b, o, none⟩ (x.cell h)
theorem SlR.aft {α : Type} {R : World → Nat → List Value → α → Prop} {size : Nat} {W : World} {B : Nat} {v : Value} {xs : List α} (h : SlR R size W B v xs) (hR : Stays R) (hB : B ≤ W.heap.size) : ∀ x : Aft W, SlR R size x.val x.val.heap.size v xs :=
  fun x => h.on hR (x.ok.mono hB) (Nat.le_trans hB x.ok.size)
theorem retB_aft {P : Program} {f : FuncId} {args : Array Value} {W : World} {x : Aft W} {v : Value} (h : Calls P f args x.val (RetB v x.val)) : Calls P f args x.val fun e w'' => e = .returned v ∧ ∃ y : Aft W, w'' = y.val := aft_b h
theorem retQ_b {P : Program} {f : FuncId} {args : Array Value} {w : World} {v : Value} (h : Calls P f args w (RetQ v w)) : Calls P f args w (RetB v w) :=
  h.mono fun _ _ ⟨he, k, hk⟩ => ⟨he, hk ▸ below_drewN (Below.refl _ _) k⟩

end Go.Proofs.Ytmgdodgofpapgaa

namespace Go.Proofs.Ytmgdodgofpapgaa
end Go.Proofs.Ytmgdodgofpapgaa

namespace Go.Proofs.Ytmgdodgofpapgaa
open Go.RowKit Go.Lib

/-- A text in which each new line is a semicolon. -/
def semis (l : List UInt8) : List UInt8 := l.map fun c => if c = 10 then 59 else c

theorem mk_toList (b : ByteArray) : (⟨b.toList.toArray⟩ : ByteArray) = b := by
  apply ByteArray.ext
  rw [ByteArray.toList_eq]
theorem cat_ll {P : Program} (l r : List UInt8) (hl : l.length ≤ 8388608) (hr : r.length ≤ 8388608) (w : World) : (Op.stringOp .add ⟨l.toArray⟩ ⟨r.toArray⟩).run P w = .ok (.string ⟨(l ++ r).toArray⟩) w :=
  run_string_add_lists w l r (by omega) (by omega)
theorem cat_lb {P : Program} (l : List UInt8) (b : ByteArray) (hl : l.length ≤ 8388608) (hr : b.toList.length ≤ 8388608) (w : World) : (Op.stringOp .add ⟨l.toArray⟩ b).run P w = .ok (.string ⟨(l ++ b.toList).toArray⟩) w := by
  have := run_string_add_lists (P := P) w l b.toList (by omega) (by omega)
  rwa [mk_toList] at this
theorem cat_llt {P : Program} (l r t : List UInt8) (h : l ++ r = t) (hl : l.length ≤ 8388608) (hr : r.length ≤ 8388608) (w : World) : (Op.stringOp .add ⟨l.toArray⟩ ⟨r.toArray⟩).run P w = .ok (.string ⟨t.toArray⟩) w :=
  h ▸ cat_ll l r hl hr w
theorem cat_lbt {P : Program} (l : List UInt8) (b : ByteArray) (t : List UInt8) (h : l ++ b.toList = t) (hl : l.length ≤ 8388608) (hr : b.toList.length ≤ 8388608) (w : World) : (Op.stringOp .add ⟨l.toArray⟩ b).run P w = .ok (.string ⟨t.toArray⟩) w :=
  h ▸ cat_lb l b hl hr w

end Go.Proofs.Ytmgdodgofpapgaa

namespace Go.Proofs.Ytmgdodgofpapgaa
open Go.RowKit Go.Lib

theorem okPatch_at {p : List Edit} (h : okPatch p = true) {k : Nat} {e : Edit} (hk : p[k]? = some e) : okEdit e = true := by
  rw [okPatch_eq, Bool.and_eq_true, allLt_true] at h
  have hlt : k < p.length := (List.getElem?_eq_some_iff.1 hk).1
  have := h.1 k hlt
  unfold patchAt at this
  rw [hk, Bool.and_eq_true] at this
  exact this.1
theorem okPatch_len {p : List Edit} (h : okPatch p = true) : p.length ≤ 16 := by
  rw [okPatch_eq, Bool.and_eq_true] at h
  exact of_decide_eq_true h.2
theorem okSent_len {l : List UInt8} (h : okSent l = true) : l.length ≤ 24 := by
  unfold okSent at h
  simp only [Bool.and_eq_true] at h
  exact of_decide_eq_true h.1.1.2
theorem okEdit_facts {e : Edit} (h : okEdit e = true) : 1 ≤ e.id ∧ e.id ≤ 99 ∧ e.old.toList.length ≤ 24 ∧ e.new.toList.length ≤ 24 := by
  unfold okEdit at h
  rw [Bool.and_eq_true] at h
  obtain ⟨h1, h2⟩ := h
  rw [inB_iff] at h1
  refine ⟨h1.1, h1.2, ?_⟩
  simp only [Bool.or_eq_true, Bool.and_eq_true, decide_eq_true_eq] at h2
  rcases h2 with (⟨⟨_, h⟩, hn⟩ | ⟨⟨_, ho⟩, h⟩) | ⟨⟨⟨_, ho⟩, hn⟩, _⟩
  · exact ⟨by rw [h]; simp, okSent_len hn⟩
  · exact ⟨okSent_len ho, by rw [h]; simp⟩
  · exact ⟨okSent_len ho, okSent_len hn⟩
theorem editText_len {e : Edit} (h : okEdit e = true) : (editText e).length ≤ 80 := by
  obtain ⟨h1, h2, h3, h4⟩ := okEdit_facts h
  have := itoa_length_le e.id (by omega) (by omega)
  unfold editText
  split
  · simp; omega
  · split
    · simp; omega
    · simp; omega
theorem patchText_take {p : List Edit} (h : okPatch p = true) (k : Nat) : (patchText (p.take k)).length ≤ 80 * k := by
  induction k with
  | zero => simp [patchText]
  | succ k ih =>
    by_cases hlt : k < p.length
    · rw [List.take_succ_eq_append_getElem hlt]
      unfold patchText at *
      rw [List.flatMap_append, List.length_append]
      have := editText_len (okPatch_at h (List.getElem?_eq_getElem hlt))
      simp only [List.flatMap_cons, List.flatMap_nil, List.append_nil]
      omega
    · have e1 : p.take k = p := List.take_of_length_le (by omega)
      have e2 : p.take (k + 1) = p := List.take_of_length_le (by omega)
      rw [e2]
      rw [e1] at ih
      omega
theorem patchText_succ {p : List Edit} {k : Nat} {e : Edit} (hk : p[k]? = some e) : patchText (p.take (k + 1)) = patchText (p.take k) ++ editText e := by
  have hlt : k < p.length := (List.getElem?_eq_some_iff.1 hk).1
  rw [List.take_succ_eq_append_getElem hlt]
  have : p[k] = e := by rw [List.getElem?_eq_getElem hlt] at hk; exact Option.some.inj hk
  unfold patchText
  rw [List.flatMap_append, this]
  simp

/-- What PatchText gives. -/
def patchOut (es : List Edit) : List UInt8 := if okPatch es = true then patchText es else []
theorem patchOut_no {es : List Edit} (h : okPatch es = false) : patchOut es = [] := by unfold patchOut; rw [if_neg (by rw [h]; simp)]
theorem patchOut_ok {es : List Edit} (h : okPatch es = true) : patchOut es = patchText es := by unfold patchOut; rw [if_pos h]

end Go.Proofs.Ytmgdodgofpapgaa

namespace Go.Proofs.Ytmgdodgofpapgaa
open Go.RowKit Go.Lib

def strCell (l : List UInt8) : List Value := [.string ⟨l.toArray⟩]
/-- Numbers with a text between two of them. -/
def nums (zs : List Int) (sep : List UInt8) : List UInt8 := Lib.join (zs.map itoa) sep
theorem lens_nums (zs : List Int) (hz : ∀ z ∈ zs, -9223372036854775808 ≤ z ∧ z ≤ 9223372036854775807) : Lib.lens (zs.map itoa) ≤ 21 * zs.length := by
  induction zs with
  | nil => simp [Lib.lens]
  | cons z r ih =>
    have := itoa_length_le z (hz z (by simp)).1 (hz z (by simp)).2
    have := ih fun x hx => hz x (by simp [hx])
    simp [Lib.lens] at *
    omega
theorem nums_len (zs : List Int) (sep : List UInt8) (hs : sep.length ≤ 16) (hz : ∀ z ∈ zs, -9223372036854775808 ≤ z ∧ z ≤ 9223372036854775807) : (nums zs sep).length ≤ 37 * zs.length := by
  cases zs with
  | nil => simp [nums, Lib.join_nil]
  | cons z r =>
    unfold nums
    have h1 := itoa_length_le z (hz z (by simp)).1 (hz z (by simp)).2
    have h2 := lens_nums r fun x hx => hz x (by simp [hx])
    rw [List.map_cons, Lib.join_cons, List.length_append, Lib.joinTail_length, List.length_map, List.length_cons]
    have : sep.length * r.length ≤ 16 * r.length := Nat.mul_le_mul_right _ hs
    omega

theorem Try.infoS : (Try.prog.info? 9).map (fun i => (i.zero, i.size, i.bytes)) = some (some (.string ⟨#[]⟩), 1, 16) := by kernel_rfl

theorem own_below {w w' : World} {base : Nat} {e : TypeId} {size : Nat} {v : Value} {n : Nat} {xs : List Value} (h : w.ownsRow base e size v n xs) (hb : Below w.heap.size w w') : w'.ownsRow base e size v n xs := by
  obtain ⟨hl, h | ⟨g, cap, cur, rfl, hg, hh, hr⟩⟩ := h
  · exact ⟨hl, .inl h⟩
  · refine ⟨hl, .inr ⟨g, cap, cur, rfl, hg, ?_, hr⟩⟩
    have hlt : g < w.heap.size := by
      rcases Nat.lt_or_ge g w.heap.size with hlt | hge
      · exact hlt
      · rw [Array.getElem?_eq_none hge] at hh; cases hh
    rw [hb.block g hlt]
    exact hh
theorem take_cells {zs : List Int} {k : Nat} {z : Int} (h : zs[k]? = some z) : ((zs.take (k + 1)).map itoa).flatMap strCell = ((zs.take k).map itoa).flatMap strCell ++ [.string ⟨(itoa z).toArray⟩] := by
  obtain ⟨hlt, rfl⟩ := List.getElem?_eq_some_iff.1 h
  rw [List.take_succ_eq_append_getElem hlt, List.map_append, List.flatMap_append]
  rfl

end Go.Proofs.Ytmgdodgofpapgaa

namespace Go.Proofs.Ytmgdodgofpapgaa
open Go.RowKit Go.Lib

def wordV (n : Int) : List UInt8 := if n = 0 then [110, 111, 110, 101] else if n = 1 then [121, 101, 115] else if n = 2 then [110, 111] else [98, 108, 97, 110, 107]
def deedText (d : Deed) : List UInt8 :=
  if d.kind = 1 then (if d.trust = [] then [116, 114, 117, 115, 116, 32] ++ itoa d.member else [116, 114, 117, 115, 116, 32] ++ itoa d.member ++ [32] ++ nums d.trust [44])
  else if d.kind = 2 then [118, 111, 116, 101, 32] ++ itoa d.member ++ [32] ++ d.title.toList ++ [32] ++ wordV d.vote
  else if d.kind = 3 then [112, 114, 111, 112, 111, 115, 101, 32] ++ itoa d.member ++ [32] ++ d.title.toList ++ [32] ++ nums [d.closes, d.start, d.until_] [32] ++ [32] ++ semis (patchText d.patch)
  else [110, 101, 120, 116]
def deedOut (d : Deed) : List UInt8 := if okDeed d = true then deedText d else []
theorem deedOut_no {d : Deed} (h : okDeed d = false) : deedOut d = [] := by unfold deedOut; rw [if_neg (by rw [h]; simp)]
theorem deedOut_ok {d : Deed} (h : okDeed d = true) : deedOut d = deedText d := by unfold deedOut; rw [if_pos h]

theorem cat_op {P : Program} (l r : List UInt8) (hl : l.length ≤ 8388608) (hr : r.length ≤ 8388608) : ∃ T : List UInt8, T = l ++ r ∧ T.length ≤ l.length + r.length ∧ ∀ w, (Op.stringOp .add ⟨l.toArray⟩ ⟨r.toArray⟩).run P w = .ok (.string ⟨T.toArray⟩) w :=
  ⟨_, rfl, by simp, fun w => cat_ll l r hl hr w⟩
theorem cat_opb {P : Program} (l : List UInt8) (b : ByteArray) (hl : l.length ≤ 8388608) (hr : b.toList.length ≤ 8388608) : ∃ T : List UInt8, T = l ++ b.toList ∧ T.length ≤ l.length + b.toList.length ∧ ∀ w, (Op.stringOp .add ⟨l.toArray⟩ b).run P w = .ok (.string ⟨T.toArray⟩) w :=
  ⟨_, rfl, by simp, fun w => cat_lb l b hl hr w⟩

theorem okDeed_kind {d : Deed} (h : okDeed d = true) : (d.kind = 1 ∧ d.trust.length ≤ 4 ∧ (∀ z ∈ d.trust, -9223372036854775808 ≤ z ∧ z ≤ 9223372036854775807)) ∨ (d.kind = 2 ∧ d.title.toList.length ≤ 10 ∧ 0 ≤ d.vote ∧ d.vote ≤ 3) ∨
    (d.kind = 3 ∧ d.title.toList.length ≤ 10 ∧ okPatch d.patch = true ∧ 1 ≤ d.closes ∧ d.closes ≤ 999 ∧ 1 ≤ d.start ∧ d.start ≤ 1000 ∧ 1 ≤ d.until_ ∧ d.until_ ≤ 1000) ∨ (d.kind = 4 ∧ d.member = 0) := by
  by_cases k1 : d.kind = 1
  · left
    rw [okDeed_1 k1] at h
    simp only [Bool.and_eq_true] at h
    have ht := h.1.1.1.2
    rw [okTrust_eq, Bool.and_eq_true, allLt_true] at ht
    refine ⟨k1, of_decide_eq_true ht.2, fun z hz => ?_⟩
    obtain ⟨k, hk⟩ := List.getElem?_of_mem hz
    have := ht.1 k (List.getElem?_eq_some_iff.1 hk).1
    rw [trustAt_eq hk] at this
    simp only [Bool.and_eq_true] at this
    have := inB_iff.1 this.1.1
    omega
  · by_cases k2 : d.kind = 2
    · right; left
      rw [okDeed_2 k2] at h
      simp only [Bool.and_eq_true] at h
      have hv := inB_iff.1 h.1.1.2
      have hn := h.1.1.1.2
      unfold okName at hn
      simp only [Bool.and_eq_true] at hn
      exact ⟨k2, of_decide_eq_true hn.2, hv.1, hv.2⟩
    · by_cases k3 : d.kind = 3
      · right; right; left
        rw [okDeed_3 k3] at h
        simp only [Bool.and_eq_true] at h
        have hn := h.1.1.1.2
        have hs := h.1.1.2
        unfold okName at hn
        unfold okSpan at hs
        simp only [Bool.and_eq_true, decide_eq_true_eq] at hn hs
        have hc := inB_iff.1 hs.1.1.1.2
        exact ⟨k3, hn.2, hs.1.1.1.1.2, hc.1, hc.2, by omega, by omega, by omega, by omega⟩
      · right; right; right
        by_cases k4 : d.kind = 4
        · rw [okDeed_4 k4] at h
          simp only [Bool.and_eq_true, decide_eq_true_eq] at h
          exact ⟨k4, h.1.1.1.1⟩
        · rw [okDeed_0 k1 k2 k3 k4] at h
          cases h
theorem okDeed_member {d : Deed} (h : okDeed d = true) : 0 ≤ d.member ∧ d.member ≤ 11 := by
  by_cases k1 : d.kind = 1
  · rw [okDeed_1 k1] at h
    simp only [Bool.and_eq_true] at h
    exact inB_iff.1 h.1.1.1.1
  · by_cases k2 : d.kind = 2
    · rw [okDeed_2 k2] at h
      simp only [Bool.and_eq_true] at h
      exact inB_iff.1 h.1.1.1.1
    · by_cases k3 : d.kind = 3
      · rw [okDeed_3 k3] at h
        simp only [Bool.and_eq_true] at h
        exact inB_iff.1 h.1.1.1.1
      · have := okDeed_kind h
        omega

theorem keep4 {w X X' : World} {G a b c d : Nat} {v1 v2 v3 v4 : Value} (h : X.cell? ⟨G, a, none⟩ = some v1 ∧ X.cell? ⟨G, b, none⟩ = some v2 ∧ X.cell? ⟨G, c, none⟩ = some v3 ∧ X.cell? ⟨G, d, none⟩ = some v4 ∧ Below w.heap.size w X) (hb : Below X.heap.size X X') :
    X'.cell? ⟨G, a, none⟩ = some v1 ∧ X'.cell? ⟨G, b, none⟩ = some v2 ∧ X'.cell? ⟨G, c, none⟩ = some v3 ∧ X'.cell? ⟨G, d, none⟩ = some v4 ∧ Below w.heap.size w X' := by
  obtain ⟨h1, h2, h3, h4, h5⟩ := h
  have hG : G < X.heap.size := World.block_lt_of_cell? X ⟨G, a, none⟩ h1
  exact ⟨(hb.cell (p := ⟨G, a, none⟩) hG).trans h1, (hb.cell (p := ⟨G, b, none⟩) hG).trans h2, (hb.cell (p := ⟨G, c, none⟩) hG).trans h3, (hb.cell (p := ⟨G, d, none⟩) hG).trans h4, h5.trans (hb.mono h5.size)⟩
theorem and5 {p q r s t : Prop} (h : p ∧ q ∧ r ∧ s ∧ t) : t := h.2.2.2.2
theorem ints3 (Y : World) (a b c : Int) (T : TypeId) : Ints (Y.alloc (.cells #[.int .i64 a, .int .i64 b, .int .i64 c] T)) (Y.alloc (.cells #[.int .i64 a, .int .i64 b, .int .i64 c] T)).heap.size (.slice (some ⟨Y.heap.size, 0, none⟩) 3 3) [a, b, c] := by
  refine ⟨some ⟨Y.heap.size, 0, none⟩, 3, rfl, Nat.le_refl _, by decide, fun _ => ⟨Y.heap.size, 0, rfl, by simp, fun k x hx => ⟨_, rfl, rfl, fun j u hu => ?_⟩⟩⟩
  match k, hx with
  | 0, hx =>
    match j, hu with
    | 0, hu => simp [intCells] at hx hu; subst hx hu; simp [go_sem]
  | 1, hx =>
    match j, hu with
    | 0, hu => simp [intCells] at hx hu; subst hx hu; simp [go_sem]
  | 2, hx =>
    match j, hu with
    | 0, hu => simp [intCells] at hx hu; subst hx hu; simp [go_sem]
theorem ints3d (Y : World) (a b c : Int) (T : TypeId) : Ints (Y.alloc (.cells #[.int .i64 a, .int .i64 b, .int .i64 c] T)).drew (Y.alloc (.cells #[.int .i64 a, .int .i64 b, .int .i64 c] T)).drew.heap.size (.slice (some ⟨Y.heap.size, 0, none⟩) 3 3) [a, b, c] :=
  SlR.on (ints3 Y a b c T) (Pl.stays _) ((Below.refl _ _).drew) (Nat.le_refl _)

end Go.Proofs.Ytmgdodgofpapgaa

namespace Go.Proofs.Ytmgdodgofpapgaa
open Go.RowKit Go.Lib

/-- The digits of a number, none for zero. -/
def dg (u : Nat) : List UInt8 := if u = 0 then [] else decDigits u

theorem dg_step (u : Nat) (h : ¬ u = 0) : dg u = dg (u / 10) ++ [UInt8.ofNat (48 + u % 10)] := by
  unfold dg
  rw [if_neg h]
  by_cases h10 : u < 10
  · rw [if_pos (by omega), decDigits, dif_pos h10, Nat.mod_eq_of_lt h10]; rfl
  · rw [if_neg (by omega), decDigits, dif_neg h10]
theorem len20 (a b : List UInt8) (n : Int) (h : a ++ b = itoa n) (h1 : -9223372036854775808 ≤ n) (h2 : n ≤ 9223372036854775807) : b.length ≤ 21 := by
  have := itoa_length_le n h1 h2
  rw [← h, List.length_append] at this
  omega
theorem dg_pos (n : Int) (h : 0 < n) : dg n.toNat = itoa n := by
  unfold dg itoa
  rw [if_neg (by omega), if_neg (by omega)]
theorem len21 (a b D : List UInt8) (h : a ++ b = D) (h1 : D.length ≤ 21) : b.length ≤ 21 := by
  rw [← h, List.length_append] at h1
  omega
theorem itoa_zero : itoa 0 = [48] := by unfold itoa decDigits; rfl

end Go.Proofs.Ytmgdodgofpapgaa

namespace Go.Proofs.Ytmgdodgofpapgaa
open Go.RowKit

theorem okSent_head {l : List UInt8} (h : l.length < 1 ∨ 24 < l.length ∨ byteAt l 0 = 32 ∨ byteAt l (l.length - 1) = 32) : okSent l = false := by
  unfold okSent
  rcases h with h | h | h | h
  · have : decide (1 ≤ l.length) = false := decide_eq_false (by omega)
    rw [this]; simp
  · have : decide (l.length ≤ 24) = false := decide_eq_false (by omega)
    rw [this]; simp
  · simp [h]
  · simp [h]
theorem okSent_all {l : List UInt8} (h1 : 1 ≤ l.length) (h2 : l.length ≤ 24) (h3 : byteAt l 0 ≠ 32) (h4 : byteAt l (l.length - 1) ≠ 32) (h : allLt l.length (fun j => sentCh (byteAt l j)) = true) : okSent l = true := by
  unfold okSent
  rw [h]
  simp [h1, h2, h3, h4]

set_option maxHeartbeats 2000000 in
theorem sent1_any (s : ByteArray) (w : World) (hs : s.size ≤ maxLen) :
    Calls Try.prog 95 #[.string s] w (RetQ (.bool (okSent s.toList)) w) := by
  rw [ByteArray.toList_eq]
  unfold maxLen at hs
  have hsz : s.data.toList.length = s.size := by simp
  by_cases c1 : s.size < 1
  · have HB := Lib.hid (okSent_head (l := s.data.toList) (.inl (by omega)))
    have b1 : decide ((s.size : Int) < 1) = true := by simp; omega
    clear hsz c1
    go_enter Try.func95, Try.ntmps95
    go_wp2
    go_ret
    exact ⟨by rw [HB.out]; rfl, 0, rfl⟩
  by_cases c2 : 24 < s.size
  · have HB := Lib.hid (okSent_head (l := s.data.toList) (.inr (.inl (by omega))))
    have b1 : decide ((s.size : Int) < 1) = false := by simp; omega
    have b2 : decide ((24 : Int) < (s.size : Int)) = true := by simp; omega
    clear hsz c1 c2
    go_enter Try.func95, Try.ntmps95
    go_wp2
    go_ret
    exact ⟨by rw [HB.out]; rfl, 0, rfl⟩
  have p0n : 0 < s.size := by omega
  have pln : s.size - 1 < s.size := by omega
  have d0 := byteAt_of s 0 p0n
  have d1 := byteAt_of s (s.size - 1) pln
  have b1 : decide ((s.size : Int) < 1) = false := by simp; omega
  have b2 : decide ((24 : Int) < (s.size : Int)) = false := by simp; omega
  have p0 : (0 : Int) < (s.size : Int) := by omega
  have e1 : (1 : Int) ≤ (s.size : Int) := by omega
  by_cases c3 : (s[0]'p0n).toNat = 32
  · have HB := Lib.hid (okSent_head (l := s.data.toList) (.inr (.inr (.inl (by rw [d0]; exact c3)))))
    have b3 : (((s[0]'p0n).toNat : Int) == 32) = true := by simp; omega
    clear hsz c1 c2 c3 d0 d1
    go_enter Try.func95, Try.ntmps95
    go_wp2
    go_ret
    exact ⟨by rw [HB.out]; rfl, 0, rfl⟩
  have b3 : (((s[0]'p0n).toNat : Int) == 32) = false := by simp; omega
  by_cases c4 : (s[s.size - 1]'pln).toNat = 32
  · have HB := Lib.hid (okSent_head (l := s.data.toList) (.inr (.inr (.inr (by rw [hsz, d1]; exact c4)))))
    have b4 : (((s[s.size - 1]'pln).toNat : Int) == 32) = true := by simp; omega
    clear hsz c1 c2 c3 c4 d0 d1
    go_enter Try.func95, Try.ntmps95
    go_wp2
    go_ret
    exact ⟨by rw [HB.out]; rfl, 0, rfl⟩
  have b4 : (((s[s.size - 1]'pln).toNat : Int) == 32) = false := by simp; omega
  have HALL := Lib.hid (fun h => okSent_all (l := s.data.toList) (by omega) (by omega) (by rw [d0]; exact c3) (by rw [hsz, d1]; exact c4) h)
  clear c1 c2 c3 c4 d0 d1
  go_enter Try.func95, Try.ntmps95
  go_wp2
  go_loop [3] (fun i => ∃ k : Nat, k ≤ s.size ∧ i = .int .i64 (k : Int) ∧ allLt k (fun j => sentCh (byteAt s.data.toList j)) = true) (fun i => s.size - (intOf i).toNat)
  case atStart => exact ⟨0, Nat.zero_le _, rfl, rfl⟩
  case round =>
    obtain ⟨k, hk, rfl, hall⟩ := hrel
    have HA := Lib.hid hall
    clear hall
    by_cases hlt : k < s.size
    · have hc := byteAt_of s k hlt
      have HS := allLt_succ k (fun j => sentCh (byteAt s.data.toList j))
      rw [HA.out, Bool.true_and, hc] at HS
      have HS := Lib.hid HS
      have HC := Lib.hid hc
      clear hc b1 b2 b3 b4
      have hh : (97 ≤ s[k].toNat ∧ s[k].toNat ≤ 122) ∨ (122 < s[k].toNat) ∨ (48 ≤ s[k].toNat ∧ s[k].toNat ≤ 57) ∨ (57 < s[k].toNat ∧ s[k].toNat < 97) ∨ s[k].toNat = 32 ∨ (s[k].toNat < 48 ∧ s[k].toNat ≠ 32) := by omega
      rcases hh with hh | hh | hh | hh | hh | hh
      · have aa : decide ((97 : Int) ≤ (s[k].toNat : Int)) = true := by simp; omega
        have ab : decide ((s[k].toNat : Int) ≤ 122) = true := by simp; omega
        have ae : ((s[k].toNat : Int) == 32) = false := by simp; omega
        have hsc : sentCh s[k].toNat = true := (sentCh_iff _).2 (by omega)
        have HSC := Lib.hid hsc
        clear hsc hh
        go_wp2
        go_round
        case rel => exact ⟨k + 1, by omega, by go_num, HS.out.trans HSC.out⟩
        case measure => simp [intOf]; omega
      · have aa : decide ((97 : Int) ≤ (s[k].toNat : Int)) = true := by simp; omega
        have ab : decide ((s[k].toNat : Int) ≤ 122) = false := by simp; omega
        have ac : decide ((48 : Int) ≤ (s[k].toNat : Int)) = true := by simp; omega
        have ad : decide ((s[k].toNat : Int) ≤ 57) = false := by simp; omega
        have ae : ((s[k].toNat : Int) == 32) = false := by simp; omega
        have hsc : sentCh s[k].toNat = false := sentCh_false (by omega)
        have HSC := Lib.hid hsc
        clear hsc hh
        go_wp2
        go_ret
        exact ⟨by rw [okSent_bad s.data.toList k (by simpa using hlt) (by rw [HC.out]; exact HSC.out)]; rfl, 0, rfl⟩
      · have aa : decide ((97 : Int) ≤ (s[k].toNat : Int)) = false := by simp; omega
        have ab : decide ((s[k].toNat : Int) ≤ 122) = true := by simp; omega
        have ac : decide ((48 : Int) ≤ (s[k].toNat : Int)) = true := by simp; omega
        have ad : decide ((s[k].toNat : Int) ≤ 57) = true := by simp; omega
        have ae : ((s[k].toNat : Int) == 32) = false := by simp; omega
        have hsc : sentCh s[k].toNat = true := (sentCh_iff _).2 (by omega)
        have HSC := Lib.hid hsc
        clear hsc hh
        go_wp2
        go_round
        case rel => exact ⟨k + 1, by omega, by go_num, HS.out.trans HSC.out⟩
        case measure => simp [intOf]; omega
      · have aa : decide ((97 : Int) ≤ (s[k].toNat : Int)) = false := by simp; omega
        have ab : decide ((s[k].toNat : Int) ≤ 122) = true := by simp; omega
        have ac : decide ((48 : Int) ≤ (s[k].toNat : Int)) = true := by simp; omega
        have ad : decide ((s[k].toNat : Int) ≤ 57) = false := by simp; omega
        have ae : ((s[k].toNat : Int) == 32) = false := by simp; omega
        have hsc : sentCh s[k].toNat = false := sentCh_false (by omega)
        have HSC := Lib.hid hsc
        clear hsc hh
        go_wp2
        go_ret
        exact ⟨by rw [okSent_bad s.data.toList k (by simpa using hlt) (by rw [HC.out]; exact HSC.out)]; rfl, 0, rfl⟩
      · have aa : decide ((97 : Int) ≤ (s[k].toNat : Int)) = false := by simp; omega
        have ab : decide ((s[k].toNat : Int) ≤ 122) = true := by simp; omega
        have ac : decide ((48 : Int) ≤ (s[k].toNat : Int)) = false := by simp; omega
        have ad : decide ((s[k].toNat : Int) ≤ 57) = true := by simp; omega
        have ae : ((s[k].toNat : Int) == 32) = true := by simp; omega
        have hsc : sentCh s[k].toNat = true := (sentCh_iff _).2 (by omega)
        have HSC := Lib.hid hsc
        clear hsc hh
        go_wp2
        go_round
        case rel => exact ⟨k + 1, by omega, by go_num, HS.out.trans HSC.out⟩
        case measure => simp [intOf]; omega
      · have aa : decide ((97 : Int) ≤ (s[k].toNat : Int)) = false := by simp; omega
        have ab : decide ((s[k].toNat : Int) ≤ 122) = true := by simp; omega
        have ac : decide ((48 : Int) ≤ (s[k].toNat : Int)) = false := by simp; omega
        have ad : decide ((s[k].toNat : Int) ≤ 57) = true := by simp; omega
        have ae : ((s[k].toNat : Int) == 32) = false := by simp; omega
        have hsc : sentCh s[k].toNat = false := sentCh_false (by omega)
        have HSC := Lib.hid hsc
        clear hsc hh
        go_wp2
        go_ret
        exact ⟨by rw [okSent_bad s.data.toList k (by simpa using hlt) (by rw [HC.out]; exact HSC.out)]; rfl, 0, rfl⟩
    · have hk' : k = s.size := by omega
      have HK := Lib.hid (HALL.out (by rw [hsz, ← hk']; exact HA.out))
      have hge : ¬ (k : Int) < (s.size : Int) := by omega
      clear hk' hlt hsz
      go_wp2
      go_ret
      exact ⟨by rw [HK.out]; rfl, 0, rfl⟩
end Go.Proofs.Ytmgdodgofpapgaa

namespace Go.Proofs.Ytmgdodgofpapgaa
open Go.RowKit

def okBody (e : Edit) : Bool :=
  (decide (e.kind = 1) && decide (e.old.toList = []) && okSent e.new.toList) || (decide (e.kind = 2) && okSent e.old.toList && decide (e.new.toList = [])) ||
    (decide (e.kind = 3) && okSent e.old.toList && okSent e.new.toList && !(e.old.toList == e.new.toList))
theorem okEdit_body (e : Edit) : okEdit e = (inB e.id 1 99 && okBody e) := rfl

theorem sent1_val (s : ByteArray) (w : World) (r : Bool) (hs : s.size ≤ maxLen) (h : okSent s.toList = r) :
    Calls Try.prog 95 #[.string s] w (RetQ (.bool r) w) := h ▸ sent1_any s w hs

set_option maxRecDepth 100000 in
set_option maxHeartbeats 2000000 in
theorem edit1_any (e : Edit) (b o : Nat) (w : World) (hs : SizeOk e) (c0 : w.cell? ⟨b, o, none⟩ = some (.int .i64 e.kind)) (c2 : w.cell? ⟨b, o + 2, none⟩ = some (.string e.old)) (c3 : w.cell? ⟨b, o + 3, none⟩ = some (.string e.new)) :
    Calls Try.prog 106 #[.pointer (some ⟨b, o, none⟩)] w (RetB (.bool (okBody e)) w) := by
  obtain ⟨kind, id, old, new⟩ := e
  have c0 : w.cell? ⟨b, o, none⟩ = some (.int .i64 kind) := c0
  have c2 : w.cell? ⟨b, o + 2, none⟩ = some (.string old) := c2
  have c3 : w.cell? ⟨b, o + 3, none⟩ = some (.string new) := c3
  have HS1 : Hid (old.size ≤ maxLen) := Lib.hid hs.1
  have HS2 : Hid (new.size ≤ maxLen) := Lib.hid hs.2
  clear hs
  rcases (show kind = 1 ∨ kind = 2 ∨ kind = 3 ∨ (kind ≠ 1 ∧ kind ≠ 2 ∧ kind ≠ 3) by omega) with rfl | rfl | rfl | ⟨n1, n2, n3⟩
  · have HK : Hid (okBody ⟨1, id, old, new⟩ = (decide (old.toList = []) && okSent new.toList)) := Lib.hid (by simp [okBody])
    by_cases ho : old.toList = []
    · go_enter Try.func106, Try.ntmps106
      go_wp2_with (fail)
      refine (sent1_any new _ HS2.out).mono ?_
      rintro e w2 ⟨rfl, k2, rfl⟩
      go_wp2
      go_ret
      exact ⟨by rw [HK.out]; simp [ho], below_drewN (Below.refl _ _) _⟩
    · go_enter Try.func106, Try.ntmps106
      go_wp2
      go_ret
      exact ⟨by rw [HK.out]; simp [ho], Below.refl _ _⟩
  · have HK : Hid (okBody ⟨2, id, old, new⟩ = (okSent old.toList && decide (new.toList = []))) := Lib.hid (by simp [okBody])
    cases ho : okSent old.toList with
    | true =>
      have HO := Lib.hid ho
      clear ho
      by_cases hn : new.toList = []
      all_goals
        go_enter Try.func106, Try.ntmps106
        go_wp2_with (fail)
        refine (sent1_any old _ HS1.out).mono ?_
        rintro e w2 ⟨rfl, k2, rfl⟩
        rw [HO.out]
        go_wp2
        go_ret
        exact ⟨by rw [HK.out]; simp [HO.out, hn], below_drewN (Below.refl _ _) _⟩
    | false =>
      have HO := Lib.hid ho
      clear ho
      go_enter Try.func106, Try.ntmps106
      go_wp2_with (fail)
      refine (sent1_any old _ HS1.out).mono ?_
      rintro e w2 ⟨rfl, k2, rfl⟩
      rw [HO.out]
      go_wp2
      go_ret
      exact ⟨by rw [HK.out]; simp [HO.out], below_drewN (Below.refl _ _) _⟩
  · have HK : Hid (okBody ⟨3, id, old, new⟩ = (okSent old.toList && okSent new.toList && !(old.toList == new.toList))) := Lib.hid (by simp [okBody])
    have z2 := fun x : Aft w => x.cell c2
    have z3 := fun x : Aft w => x.cell c3
    have hs1 := HS1.out
    have hs2 := HS2.out
    cases ho : okSent old.toList with
    | true =>
      cases hn : okSent new.toList with
      | true =>
        cases he : (old.toList == new.toList) with
        | true =>
          go_enter Try.func106, Try.ntmps106
          go_wp2
          refine wp_region_aft (by kernel_rfl) (by kernel_rfl) ?_
          repeat (go_big_quiet_step ((go_at_call 95; exact aft_q (sent1_val _ _ _ (by assumption) (by assumption)))))
          refine wpQuiet_nil ?_
          rintro _ ⟨y, rfl⟩
          go_wp2
          go_ret
          exact ⟨by rw [HK.out]; simp [ho, hn, he], y.ok⟩
        | false =>
          go_enter Try.func106, Try.ntmps106
          go_wp2
          refine wp_region_aft (by kernel_rfl) (by kernel_rfl) ?_
          repeat (go_big_quiet_step ((go_at_call 95; exact aft_q (sent1_val _ _ _ (by assumption) (by assumption)))))
          refine wpQuiet_nil ?_
          rintro _ ⟨y, rfl⟩
          go_wp2
          go_ret
          exact ⟨by rw [HK.out]; simp [ho, hn, he], y.ok⟩
      | false =>
        go_enter Try.func106, Try.ntmps106
        go_wp2
        refine wp_region_aft (by kernel_rfl) (by kernel_rfl) ?_
        repeat (go_big_quiet_step ((go_at_call 95; exact aft_q (sent1_val _ _ _ (by assumption) (by assumption)))))
        refine wpQuiet_nil ?_
        rintro _ ⟨y, rfl⟩
        go_wp2
        go_ret
        exact ⟨by rw [HK.out]; simp [ho, hn], y.ok⟩
    | false =>
      go_enter Try.func106, Try.ntmps106
      go_wp2
      refine wp_region_aft (by kernel_rfl) (by kernel_rfl) ?_
      repeat (go_big_quiet_step ((go_at_call 95; exact aft_q (sent1_val _ _ _ (by assumption) (by assumption)))))
      refine wpQuiet_nil ?_
      rintro _ ⟨y, rfl⟩
      go_wp2
      go_ret
      exact ⟨by rw [HK.out]; simp [ho], y.ok⟩
  · have HK : Hid (okBody ⟨kind, id, old, new⟩ = false) := Lib.hid (by simp [okBody, n1, n2, n3])
    have m1 : (kind == 1) = false := by simp; omega
    have m2 : (kind == 2) = false := by simp; omega
    have m3 : (kind == 3) = false := by simp; omega
    clear n1 n2 n3
    go_enter Try.func106, Try.ntmps106
    go_wp2
    go_ret
    exact ⟨by rw [HK.out]; rfl, Below.refl _ _⟩
end Go.Proofs.Ytmgdodgofpapgaa

namespace Go.Proofs.Ytmgdodgofpapgaa
open Go.RowKit

theorem in1_val (n a b : Int) (w : World) (r : Bool) (h : inB n a b = r) : Calls Try.prog 49 #[.int .i64 n, .int .i64 a, .int .i64 b] w (RetQ (.bool r) w) := h ▸ in1_any n a b w
theorem edit1_val (e : Edit) (b o : Nat) (w : World) (r : Bool) (hs : SizeOk e) (c0 : w.cell? ⟨b, o, none⟩ = some (.int .i64 e.kind)) (c2 : w.cell? ⟨b, o + 2, none⟩ = some (.string e.old)) (c3 : w.cell? ⟨b, o + 3, none⟩ = some (.string e.new)) (h : okBody e = r) :
    Calls Try.prog 106 #[.pointer (some ⟨b, o, none⟩)] w (RetB (.bool r) w) := h ▸ edit1_any e b o w hs c0 c2 c3

set_option maxHeartbeats 4000000 in
theorem patch1_any (es : List Edit) (w : World) (v : Value) (h : Edits w w.heap.size v es) (hs : SizesOk es) :
    Calls Try.prog 96 #[v] w (RetB (.bool (okPatch es)) w) := by
  obtain ⟨A, c, rfl, hc, hm, hel⟩ := h
  unfold maxLen at hm
  have hlm : es.length ≤ 9223372036854775807 := by omega
  have HEL := Lib.hid hel
  have HS := Lib.hid hs
  clear hel hs
  refine calls_aft fun x0 => ?_
  go_enter Try.func96, Try.ntmps96
  go_wp2
  go_loopw [3] (fun i wr => ∃ (k : Nat) (x : Aft w), k ≤ es.length ∧ i = .int .i64 (k : Int) ∧ allLt k (patchAt es) = true ∧ wr = x.val) (fun i _ => es.length - (intOf i).toNat)
  case atStart => exact ⟨0, x0, Nat.zero_le _, rfl, rfl, rfl⟩
  case round =>
    obtain ⟨k, x, hk, rfl, hall, rfl⟩ := hrel
    have HA := Lib.hid hall
    clear hall
    by_cases hlt : k < es.length
    · obtain ⟨b, off, rfl, hblt, hcell⟩ := HEL.out (by omega)
      have hget : es[k]? = some es[k] := List.getElem?_eq_getElem hlt
      obtain ⟨c0, c1, c2, c3⟩ := edits_at hcell hget
      have z0 := fun y : Aft w => y.cell c0
      have z1 := fun y : Aft w => y.cell c1
      have z2 := fun y : Aft w => y.cell c2
      have z3 := fun y : Aft w => y.cell c3
      have HG := Lib.hid hget
      have HC := Lib.hid hcell
      have hso := HS.out es[k] (List.getElem_mem hlt)
      clear hget hcell c0 c1 c2 c3
      generalize es[k] = e at *
      cases h1 : inB e.id 1 99 with
      | false =>
        have H1 := Lib.hid h1
        have HB := Lib.hid (okPatch_bad hlt (patchAt_bad HG.out (by rw [okEdit_body, h1]; rfl)))
        clear h1
        go_wp2_with (fail)
        refine wp_region_at (by kernel_rfl) (by kernel_rfl) ?_
        repeat (go_big_quiet_step ((first | (go_at_call 49; exact aft_q (in1_val _ _ _ _ _ H1.out)))))
        refine wpQuiet_nil ?_
        rintro _ ⟨y, rfl⟩
        go_wp2
        go_ret
        exact ⟨by rw [HB.out]; rfl, y.ok⟩
      | true =>
        have H1 := Lib.hid h1
        clear h1
        cases h2 : okBody e with
        | false =>
          have H2 := Lib.hid h2
          have HB := Lib.hid (okPatch_bad hlt (patchAt_bad HG.out (by rw [okEdit_body, h2]; simp)))
          clear h2
          go_wp2_with (fail)
          refine wp_region_at (by kernel_rfl) (by kernel_rfl) ?_
          repeat (go_big_quiet_step ((first | (go_at_call 49; exact aft_q (in1_val _ _ _ _ _ H1.out)) | (go_at_call 106; exact aft_b (edit1_val e _ _ _ _ hso (z0 _) (z2 _) (z3 _) H2.out)))))
          refine wpQuiet_nil ?_
          rintro _ ⟨y, rfl⟩
          go_wp2
          go_ret
          exact ⟨by rw [HB.out]; rfl, y.ok⟩
        | true =>
          have H2 := Lib.hid h2
          have HO : Hid (okEdit e = true) := Lib.hid (by rw [okEdit_body, H1.out, h2]; rfl)
          clear h2
          have HSU := allLt_succ k (patchAt es)
          rw [HA.out, Bool.true_and] at HSU
          have HSU := Lib.hid HSU
          by_cases hk0 : k = 0
          · have HN : Hid (allLt (k + 1) (patchAt es) = true) := HSU.out.trans (patchAt_zero hk0 HG.out HO.out)
            have hk1 : decide ((0 : Int) < (k : Int)) = false := by simp; omega
            have hk2 : decide (0 < k) = false := by simp; omega
            clear hk0
            go_wp2_with (fail)
            refine wp_region_at (by kernel_rfl) (by kernel_rfl) ?_
            repeat (go_big_quiet_step ((first | (go_at_call 49; exact aft_q (in1_val _ _ _ _ _ H1.out)) | (go_at_call 106; exact aft_b (edit1_val e _ _ _ _ hso (z0 _) (z2 _) (z3 _) H2.out)))))
            refine wpQuiet_nil ?_
            rintro _ ⟨y, rfl⟩
            go_wp2
            go_roundw
            case rel => exact ⟨k + 1, y, by omega, by go_num, HN.out, rfl⟩
            case measure => simp [intOf]; omega
          · obtain ⟨m, rfl⟩ : ∃ m, k = m + 1 := ⟨k - 1, by omega⟩
            have hd : es[m]? = some (es[m]'(by omega)) := List.getElem?_eq_getElem (by omega)
            obtain ⟨_, d1, _, _⟩ := edits_at HC.out hd
            generalize (es[m]'(by omega)) = d at *
            have HP := Lib.hid (patchAt_succ hd HG.out HO.out)
            have z4 := fun y : Aft w => y.cell d1
            clear hd hk0 d1
            by_cases hid : d.id < e.id
            · have HN : Hid (allLt (m + 1 + 1) (patchAt es) = true) := HSU.out.trans (HP.out.trans (decide_eq_true hid))
              have hid2 : ¬ (e.id ≤ d.id) := by omega
              go_wp2_with (fail)
              refine wp_region_at (by kernel_rfl) (by kernel_rfl) ?_
              repeat (go_big_quiet_step ((first | (go_at_call 49; exact aft_q (in1_val _ _ _ _ _ H1.out)) | (go_at_call 106; exact aft_b (edit1_val e _ _ _ _ hso (z0 _) (z2 _) (z3 _) H2.out)))))
              refine wpQuiet_nil ?_
              rintro _ ⟨y, rfl⟩
              go_wp2
              go_roundw
              case rel => exact ⟨(m + 1) + 1, y, by omega, by go_num, HN.out, rfl⟩
              case measure => simp [intOf]; omega
            · have HB := Lib.hid (okPatch_bad hlt (HP.out.trans (decide_eq_false hid)))
              have hid2 : e.id ≤ d.id := by omega
              go_wp2_with (fail)
              refine wp_region_at (by kernel_rfl) (by kernel_rfl) ?_
              repeat (go_big_quiet_step ((first | (go_at_call 49; exact aft_q (in1_val _ _ _ _ _ H1.out)) | (go_at_call 106; exact aft_b (edit1_val e _ _ _ _ hso (z0 _) (z2 _) (z3 _) H2.out)))))
              refine wpQuiet_nil ?_
              rintro _ ⟨y, rfl⟩
              go_wp2
              go_ret
              exact ⟨by rw [HB.out]; rfl, y.ok⟩
    · have hk' : k = es.length := by omega
      have hP : okPatch es = decide (es.length ≤ 16) := by
        rw [okPatch_eq, ← hk', HA.out, Bool.true_and]
      have HP := Lib.hid hP
      have hge : ¬ (k : Int) < (es.length : Int) := by omega
      clear hP hk' hlt
      by_cases h16 : es.length ≤ 16
      all_goals
        have H16 := Lib.hid h16
        have e16 : decide ((es.length : Int) ≤ 16) = decide (es.length ≤ 16) := decide_eq_decide.2 (by omega)
        first | rw [decide_eq_true H16.out] at e16 | rw [decide_eq_false H16.out] at e16
        clear h16
        go_wp2
        go_ret
        exact ⟨by rw [HP.out]; simp [H16.out], x.ok⟩
end Go.Proofs.Ytmgdodgofpapgaa

namespace Go.Proofs.Ytmgdodgofpapgaa
open Go.RowKit

/-- A deed behind a pointer. -/
structure DeedP (w : World) (b o : Nat) (d : Deed) (A1 : Option Addr) (c1 : Nat) (A2 : Option Addr) (c2 : Nat) : Prop where
  k0 : w.cell? ⟨b, o, none⟩ = some (.int .i64 d.kind)
  k1 : w.cell? ⟨b, o + 1, none⟩ = some (.int .i64 d.member)
  k2 : w.cell? ⟨b, o + 2, none⟩ = some (.slice A1 d.trust.length c1)
  k3 : w.cell? ⟨b, o + 3, none⟩ = some (.string d.title)
  k4 : w.cell? ⟨b, o + 4, none⟩ = some (.int .i64 d.vote)
  k5 : w.cell? ⟨b, o + 5, none⟩ = some (.slice A2 d.patch.length c2)
  k6 : w.cell? ⟨b, o + 6, none⟩ = some (.int .i64 d.start)
  k7 : w.cell? ⟨b, o + 7, none⟩ = some (.int .i64 d.until_)
  k8 : w.cell? ⟨b, o + 8, none⟩ = some (.int .i64 d.closes)
  ints : Ints w w.heap.size (.slice A1 d.trust.length c1) d.trust
  edits : Edits w w.heap.size (.slice A2 d.patch.length c2) d.patch
  sizes : SizesOk d.patch
  title : d.title.size ≤ maxLen
theorem DeedP.aft {w : World} {b o : Nat} {d : Deed} {A1 : Option Addr} {c1 : Nat} {A2 : Option Addr} {c2 : Nat} (h : DeedP w b o d A1 c1 A2 c2) (x : Aft w) : DeedP x.val b o d A1 c1 A2 c2 :=
  ⟨x.cell h.k0, x.cell h.k1, x.cell h.k2, x.cell h.k3, x.cell h.k4, x.cell h.k5, x.cell h.k6, x.cell h.k7, x.cell h.k8, h.ints.aft (Pl.stays _) (Nat.le_refl _) x, h.edits.aft (Pl.stays _) (Nat.le_refl _) x, h.sizes, h.title⟩

def spanB (start until_ closes : Int) : Bool := inB closes 1 999 && inB until_ 1 1000 && inB start closes (until_ - 1)
theorem patch1_val (es : List Edit) (w : World) (v : Value) (r : Bool) (h : Edits w w.heap.size v es) (hs : SizesOk es) (hr : okPatch es = r) :
    Calls Try.prog 96 #[v] w (RetB (.bool r) w) := hr ▸ patch1_any es w v h hs
theorem okSpan_span (p : List Edit) (closes start until_ : Int) : okSpan p closes start until_ = (!p.isEmpty && okPatch p && spanB start until_ closes) := by
  have : (inB closes 1 999 && decide (closes ≤ start) && decide (start < until_) && decide (until_ ≤ 1000)) = spanB start until_ closes := by
    rw [Bool.eq_iff_iff]
    unfold spanB
    simp only [Bool.and_eq_true, inB_iff, decide_eq_true_eq]
    omega
  rw [← this]
  unfold okSpan
  simp only [Bool.and_assoc]

theorem len_pos {α : Type} (l : List α) : decide ((0 : Int) < (l.length : Int)) = !l.isEmpty := by
  cases l with
  | nil => rfl
  | cons a l => simp
theorem okDeed_1s {d : Deed} (hk : d.kind = 1) : okDeed d = (inB d.member 0 11 && okTrust d.trust d.member 12 && d.title.toList.isEmpty && (d.vote == 0) && plainB d) := by
  have : decide (d.title.toList = []) = d.title.toList.isEmpty := by cases d.title.toList <;> simp
  rw [okDeed_1 hk, int_zero, this]
theorem okDeed_2s {d : Deed} (hk : d.kind = 2) : okDeed d = (inB d.member 0 11 && ((d.trust.length : Int) == 0) && okName d.title.toList && inB d.vote 0 3 && plainB d) := by
  rw [okDeed_2 hk, len_zero]
  cases inB d.member 0 11 <;> cases okName d.title.toList <;> cases inB d.vote 0 3 <;> cases d.trust.isEmpty <;> cases plainB d <;> rfl
theorem okDeed_3s {d : Deed} (hk : d.kind = 3) : okDeed d = (inB d.member 0 11 && ((d.trust.length : Int) == 0) && okName d.title.toList && (d.vote == 0) && decide ((0 : Int) < (d.patch.length : Int)) && okPatch d.patch && spanB d.start d.until_ d.closes) := by
  rw [okDeed_3 hk, len_zero, len_pos, int_zero, okSpan_span]
  cases inB d.member 0 11 <;> cases okName d.title.toList <;> cases d.trust.isEmpty <;> cases decide (d.vote = 0) <;> cases d.patch.isEmpty <;> cases okPatch d.patch <;> cases spanB d.start d.until_ d.closes <;> rfl
theorem okDeed_4s {d : Deed} (hk : d.kind = 4) : okDeed d = ((d.member == 0) && ((d.trust.length : Int) == 0) && d.title.toList.isEmpty && (d.vote == 0) && plainB d) := by
  have : decide (d.title.toList = []) = d.title.toList.isEmpty := by cases d.title.toList <;> simp
  rw [okDeed_4 hk, len_zero, int_zero, int_zero, this]
end Go.Proofs.Ytmgdodgofpapgaa

namespace Go.Proofs.Ytmgdodgofpapgaa
open Go.RowKit

end Go.Proofs.Ytmgdodgofpapgaa

namespace Go.Proofs.Ytmgdodgofpapgaa
open Go.RowKit Go.Lib

theorem nums_one (z : Int) (sep : List UInt8) : nums [z] sep = itoa z := by
  unfold nums
  simp [Lib.join_cons, Lib.joinTail]
theorem nums_snoc (zs : List Int) (z : Int) (sep : List UInt8) (h : zs ≠ []) : nums (zs ++ [z]) sep = nums zs sep ++ (sep ++ itoa z) := by
  obtain ⟨a, r, rfl⟩ := List.exists_cons_of_ne_nil h
  unfold nums
  rw [List.cons_append, List.map_cons, List.map_cons, List.map_append, Lib.join_cons, Lib.join_cons]
  have : ∀ xs : List (List UInt8), Lib.joinTail sep (xs ++ [itoa z]) = Lib.joinTail sep xs ++ (sep ++ itoa z) := by
    intro xs
    simp [Lib.joinTail]
  rw [List.map_cons, List.map_nil, this, List.append_assoc]

/-- Bytes of the call's own, in a block of their own. -/
structure BytesOwn (w : World) (g : Nat) (l : List UInt8) : Prop where
  cell : ∀ j (c : UInt8), l[j]? = some c → w.cell? ⟨g, j, none⟩ = some (.int .u8 (c.toNat : Int))
  free : ∀ j, j < l.length → w.frozen? ⟨g, j, none⟩ = false
def swp (fr to_ : UInt8) (l : List UInt8) (k : Nat) : List UInt8 := (l.take k).map (fun c => if c = fr then to_ else c) ++ l.drop k
theorem swp_length (fr to_ : UInt8) (l : List UInt8) (k : Nat) : (swp fr to_ l k).length = l.length := by
  unfold swp
  rw [List.length_append, List.length_map, List.length_take, List.length_drop]
  omega
theorem swp_get (fr to_ : UInt8) (l : List UInt8) (k : Nat) (h : k < l.length) : (swp fr to_ l k)[k]? = some l[k] := by
  unfold swp
  rw [List.getElem?_append_right (by rw [List.length_map, List.length_take]; omega), List.length_map, List.length_take, List.getElem?_drop]
  rw [show k + (k - min k l.length) = k by omega]
  exact List.getElem?_eq_getElem h
theorem swp_succ (fr to_ : UInt8) (l : List UInt8) (k : Nat) (h : k < l.length) : swp fr to_ l (k + 1) = (swp fr to_ l k).set k (if l[k] = fr then to_ else l[k]) := by
  unfold swp
  rw [List.take_succ_eq_append_getElem h, List.map_append, List.set_append, if_neg (by rw [List.length_map, List.length_take]; omega), List.length_map, List.length_take, show k - min k l.length = 0 by omega]
  have e : (l.drop k).set 0 (if l[k] = fr then to_ else l[k]) = (if l[k] = fr then to_ else l[k]) :: l.drop (k + 1) := by
    rw [List.drop_eq_getElem_cons h]
    rfl
  rw [e]
  simp
theorem swp_keep (fr to_ : UInt8) (l : List UInt8) (k : Nat) (h : k < l.length) (hne : l[k] ≠ fr) : swp fr to_ l (k + 1) = swp fr to_ l k := by
  rw [swp_succ fr to_ l k h, if_neg hne]
  apply List.ext_getElem?
  intro j
  rw [List.getElem?_set]
  by_cases hj : k = j
  · subst hj
    rw [if_pos rfl, swp_get fr to_ l k h, if_pos (by rw [swp_length]; exact h)]
  · rw [if_neg hj]
theorem swp_all (fr to_ : UInt8) (l : List UInt8) (k : Nat) (h : l.length ≤ k) : swp fr to_ l k = l.map (fun c => if c = fr then to_ else c) := by
  unfold swp
  rw [List.take_of_length_le h, List.drop_eq_nil_of_le h, List.append_nil]
theorem BytesOwn.set {w : World} {g : Nat} {l : List UInt8} (h : BytesOwn w g l) (k : Nat) (c : UInt8) (hk : k < l.length) : BytesOwn (w.setCell ⟨g, k, none⟩ (.int .u8 (c.toNat : Int))) g (l.set k c) where
  cell := fun j d hj => by
    by_cases e : k = j
    · subst e
      rw [List.getElem?_set, if_pos rfl, if_pos hk] at hj
      injection hj with hj
      subst hj
      have := h.cell k l[k] (List.getElem?_eq_getElem hk)
      exact World.cell?_setCell_same _ _ _ this
    · rw [List.getElem?_set, if_neg e] at hj
      rw [World.cell?_setCell_other _ _ _ _ (by intro h; injection h with _ h; exact e h)]
      exact h.cell j d hj
  free := fun j hj => by
    rw [List.length_set] at hj
    rw [World.frozen?_setCell]
    exact h.free j hj

end Go.Proofs.Ytmgdodgofpapgaa

namespace Go.Proofs.Ytmgdodgofpapgaa
open Go.RowKit Go.Lib

theorem keep5 {w X X' : World} {G a b c d e : Nat} {v1 v2 v3 v4 v5 : Value} (h : X.cell? ⟨G, a, none⟩ = some v1 ∧ X.cell? ⟨G, b, none⟩ = some v2 ∧ X.cell? ⟨G, c, none⟩ = some v3 ∧ X.cell? ⟨G, d, none⟩ = some v4 ∧ X.cell? ⟨G, e, none⟩ = some v5 ∧ Below w.heap.size w X) (hb : Below X.heap.size X X') :
    X'.cell? ⟨G, a, none⟩ = some v1 ∧ X'.cell? ⟨G, b, none⟩ = some v2 ∧ X'.cell? ⟨G, c, none⟩ = some v3 ∧ X'.cell? ⟨G, d, none⟩ = some v4 ∧ X'.cell? ⟨G, e, none⟩ = some v5 ∧ Below w.heap.size w X' := by
  obtain ⟨h1, h2, h3, h4, h5, h6⟩ := h
  have hG : G < X.heap.size := World.block_lt_of_cell? X ⟨G, a, none⟩ h1
  exact ⟨(hb.cell (p := ⟨G, a, none⟩) hG).trans h1, (hb.cell (p := ⟨G, b, none⟩) hG).trans h2, (hb.cell (p := ⟨G, c, none⟩) hG).trans h3, (hb.cell (p := ⟨G, d, none⟩) hG).trans h4, (hb.cell (p := ⟨G, e, none⟩) hG).trans h5, h6.trans (hb.mono h6.size)⟩
theorem and6 {p q r s t u : Prop} (h : p ∧ q ∧ r ∧ s ∧ t ∧ u) : u := h.2.2.2.2.2

theorem semis_map (l : List UInt8) : l.map (fun c => if c = 10 then 59 else c) = semis l := rfl

end Go.Proofs.Ytmgdodgofpapgaa

namespace Go.Proofs.Ytmgdodgofpapgaa
open Go.Lib

theorem split_at (c : UInt8) : ∀ l : List UInt8, c ∈ l → ∃ a r, l = a ++ c :: r ∧ c ∉ a
  | [], h => by cases h
  | x :: l, h => by
    by_cases e : x = c
    · exact ⟨[], l, by rw [e]; rfl, by simp⟩
    · obtain ⟨a, r, h1, h2⟩ := split_at c l (by rcases List.mem_cons.1 h with h | h; exact absurd h.symm e; exact h)
      exact ⟨x :: a, r, by rw [h1]; rfl, by rw [List.mem_cons]; rintro (h | h); exact e h.symm; exact h2 h⟩
theorem map_id_not (c d : UInt8) (l : List UInt8) (h : c ∉ l) : l.map (fun x => if x = c then d else x) = l := by
  conv => rhs; rw [← List.map_id l]
  apply List.map_congr_left
  intro x hx
  rw [if_neg (by rintro rfl; exact h hx)]
  rfl

theorem replaceK_map (c d : UInt8) : ∀ (n : Nat) (l : List UInt8), l.length ≤ n → replaceK [c] [d] (count l [c]) l = l.map (fun x => if x = c then d else x)
  | 0, l, h => by
    have : l = [] := List.eq_nil_of_length_eq_zero (by omega)
    subst this
    rw [count_miss (index_none [] c (by simp))]
    rfl
  | n + 1, l, h => by
    by_cases hc : c ∈ l
    · obtain ⟨a, r, rfl, ha⟩ := split_at c l hc
      have hi := index_one a r c ha
      have hcnt : count (a ++ c :: r) [c] = count r [c] + 1 := by
        have := count_hit (s := a ++ c :: r) (sub := [c]) (i := a.length) (by simp) hi
        rw [this, Nat.add_comm]
        congr 2
        simp
      rw [hcnt, replaceK_hit _ _ _ _ _ hi]
      have hd : (a ++ c :: r).drop (a.length + [c].length) = r := by simp
      rw [hd, replaceK_map c d n r (by simp at h; omega), List.map_append, List.map_cons, if_pos rfl, map_id_not c d a ha]
      simp
    · rw [count_miss (index_none l c hc), map_id_not c d l hc]
      rfl
theorem replaceAll_map (c d : UInt8) (h : c ≠ d) (l : List UInt8) : replaceAll l [c] [d] = l.map (fun x => if x = c then d else x) := by
  unfold replaceAll replace
  have : ([c] == [d]) = false := by simp [h]
  rw [this]
  have hn : replaceNum l [c] (-1) = count l [c] := by unfold replaceNum; rw [if_pos (.inl (by omega))]
  rw [hn]
  exact replaceK_map c d l.length l (Nat.le_refl _)

end Go.Proofs.Ytmgdodgofpapgaa

namespace Go.Proofs.Ytmgdodgofpapgaa
open Go.Lib

/-- A text up to the first byte of a kind, and behind it. -/
def cutL (c : UInt8) (l : List UInt8) : List UInt8 × List UInt8 := (l.takeWhile (· != c), (l.dropWhile (· != c)).drop 1)
theorem takeWhile_not {c : UInt8} : ∀ {a : List UInt8}, c ∉ a → a.takeWhile (· != c) = a ∧ a.dropWhile (· != c) = []
  | [], _ => ⟨rfl, rfl⟩
  | x :: a, h => by
    have hx : (x != c) = true := by simp; intro e; exact h (by simp [e])
    have ih := takeWhile_not (c := c) (a := a) (fun k => h (List.mem_cons_of_mem _ k))
    rw [List.takeWhile_cons, List.dropWhile_cons, if_pos hx, if_pos hx, ih.1, ih.2]
    exact ⟨rfl, rfl⟩
theorem takeWhile_at {c : UInt8} : ∀ {a : List UInt8} (r : List UInt8), c ∉ a → (a ++ c :: r).takeWhile (· != c) = a ∧ (a ++ c :: r).dropWhile (· != c) = c :: r
  | [], r, _ => by simp
  | x :: a, r, h => by
    have hx : (x != c) = true := by simp; intro e; exact h (by simp [e])
    have ih := takeWhile_at (c := c) (a := a) r (fun k => h (List.mem_cons_of_mem _ k))
    rw [List.cons_append, List.takeWhile_cons, List.dropWhile_cons, if_pos hx, if_pos hx, ih.1, ih.2]
    exact ⟨rfl, rfl⟩
theorem cutL_at {c : UInt8} {a : List UInt8} (r : List UInt8) (h : c ∉ a) : cutL c (a ++ c :: r) = (a, r) := by
  unfold cutL
  rw [(takeWhile_at r h).1, (takeWhile_at r h).2]
  rfl
theorem cutL_none {c : UInt8} {a : List UInt8} (h : c ∉ a) : cutL c a = (a, []) := by
  unfold cutL
  rw [(takeWhile_not h).1, (takeWhile_not h).2]
  rfl

/-- The parts of a text between bytes of a kind. -/
def splitC (c : UInt8) : List UInt8 → List (List UInt8)
  | [] => [[]]
  | x :: l => if x = c then [] :: splitC c l else match splitC c l with | s :: r => (x :: s) :: r | [] => [[x]]
theorem splitC_ne (c : UInt8) : ∀ l : List UInt8, splitC c l ≠ []
  | [] => by simp [splitC]
  | x :: l => by
    unfold splitC
    split
    · simp
    · split <;> simp
theorem splitC_at {c : UInt8} : ∀ {a : List UInt8} (r : List UInt8), c ∉ a → splitC c (a ++ c :: r) = a :: splitC c r
  | [], r, _ => by simp [splitC]
  | x :: a, r, h => by
    have hx : x ≠ c := fun e => h (by simp [e])
    rw [List.cons_append, splitC, if_neg hx, splitC_at r (fun k => h (List.mem_cons_of_mem _ k))]
theorem splitC_none {c : UInt8} : ∀ {a : List UInt8}, c ∉ a → splitC c a = [a]
  | [], _ => rfl
  | x :: a, h => by
    have hx : x ≠ c := fun e => h (by simp [e])
    rw [splitC, if_neg hx, splitC_none (fun k => h (List.mem_cons_of_mem _ k))]
theorem splitC_lines {α : Type} (c : UInt8) (f : α → List UInt8) : ∀ (xs : List α) (r : List UInt8), (∀ x ∈ xs, c ∉ f x) → splitC c (xs.flatMap (fun x => f x ++ [c]) ++ r) = xs.map f ++ splitC c r
  | [], r, _ => by simp
  | x :: xs, r, h => by
    rw [List.flatMap_cons, List.append_assoc, List.append_assoc, List.singleton_append, splitC_at _ (h x (by simp)), splitC_lines c f xs r (fun y hy => h y (by simp [hy]))]
    simp
theorem splitC_join {c : UInt8} : ∀ (x : List UInt8) (xs : List (List UInt8)), (∀ y ∈ x :: xs, c ∉ y) → splitC c (Lib.join (x :: xs) [c]) = x :: xs
  | x, [], h => by
    rw [Lib.join_cons]
    simp only [Lib.joinTail, List.map_nil, List.flatten_nil, List.append_nil]
    exact splitC_none (h x (by simp))
  | x, y :: ys, h => by
    have ih := splitC_join y ys (fun z hz => h z (by simp at hz ⊢; exact .inr hz))
    rw [Lib.join_cons] at ih ⊢
    have e : Lib.joinTail [c] (y :: ys) = c :: (y ++ Lib.joinTail [c] ys) := by simp [Lib.joinTail]
    rw [e, splitC_at _ (h x (by simp)), ih]

/-- Where a walk over a text stands: what is done, and the part that is begun. -/
theorem splitC_step {c : UInt8} (t : List UInt8) (done : List (List UInt8)) (fr i : Nat) (h : splitC c t = done ++ splitC c (t.drop fr)) (hf : fr ≤ i) (hi : i < t.length) (hc : t[i] = c) (hno : c ∉ (t.take i).drop fr) :
    splitC c t = (done ++ [(t.take i).drop fr]) ++ splitC c (t.drop (i + 1)) := by
  have e : t.drop fr = (t.take i).drop fr ++ c :: t.drop (i + 1) := by
    have h1 : t = t.take i ++ (t[i] :: t.drop (i + 1)) := by rw [← List.drop_eq_getElem_cons hi, List.take_append_drop]
    conv => lhs; rw [h1]
    rw [List.drop_append_of_le_length (by rw [List.length_take]; omega), hc]
  rw [h, e, splitC_at _ hno, List.append_assoc]
  rfl
theorem splitC_end {c : UInt8} (t : List UInt8) (done : List (List UInt8)) (fr : Nat) (h : splitC c t = done ++ splitC c (t.drop fr)) (hno : c ∉ t.drop fr) : splitC c t = done ++ [t.drop fr] := by
  rw [h, splitC_none hno]

end Go.Proofs.Ytmgdodgofpapgaa

namespace Go.Proofs.Ytmgdodgofpapgaa
open Go.RowKit Go.Lib

/-- The one value of a kind whose text this is, if there is one. -/
noncomputable def inv {α : Type} (ok : α → Bool) (f : α → List UInt8) (t : List UInt8) : Option α :=
  open Classical in if h : ∃ x, ok x = true ∧ f x = t then some (Classical.choose h) else none
theorem inv_some {α : Type} {ok : α → Bool} {f : α → List UInt8} {t : List UInt8} {x : α} (h : inv ok f t = some x) : ok x = true ∧ f x = t := by
  unfold inv at h
  split at h
  · rename_i hx
    injection h with h
    subst h
    exact Classical.choose_spec hx
  · cases h
theorem inv_of {α : Type} {ok : α → Bool} {f : α → List UInt8} {t : List UInt8} {x : α} (hu : ∀ q, ok q = true → f q = t → x = q) (h1 : ok x = true) (h2 : f x = t) : inv ok f t = some x := by
  unfold inv
  have hx : ∃ x, ok x = true ∧ f x = t := ⟨x, h1, h2⟩
  rw [dif_pos hx]
  congr 1
  exact (hu _ (Classical.choose_spec hx).1 (Classical.choose_spec hx).2).symm
theorem inv_no {α : Type} {ok : α → Bool} {f : α → List UInt8} {t : List UInt8} {x : α} (hu : ∀ q, ok q = true → f q = t → x = q) (h : ¬ (ok x = true ∧ f x = t)) : inv ok f t = none := by
  unfold inv
  rw [dif_neg]
  rintro ⟨q, h1, h2⟩
  have := hu q h1 h2
  subst this
  exact h ⟨h1, h2⟩

noncomputable def numOf (lo hi : Int) (t : List UInt8) : Option Int := inv (fun z => inB z lo hi) itoa t
theorem numOf_uniq {lo hi z : Int} {t : List UInt8} (hl : -9223372036854775808 ≤ lo) (hh : hi ≤ 9223372036854775807) (h1 : lo ≤ z) (h2 : z ≤ hi) (ht : itoa z = t) : ∀ q, inB q lo hi = true → itoa q = t → z = q := by
  intro q hq e
  rw [inB_iff] at hq
  exact itoa_inj (by omega) (by omega) (by omega) (by omega) (ht.trans e.symm)
theorem numOf_of {lo hi z : Int} {t : List UInt8} (hl : -9223372036854775808 ≤ lo) (hh : hi ≤ 9223372036854775807) (h1 : lo ≤ z) (h2 : z ≤ hi) (ht : itoa z = t) : numOf lo hi t = some z :=
  inv_of (numOf_uniq hl hh h1 h2 ht) (inB_true h1 h2) ht
theorem numOf_bd {lo hi z : Int} {t : List UInt8} (h : numOf lo hi t = some z) : lo ≤ z ∧ z ≤ hi := inB_iff.1 (inv_some h).1

theorem cut_cutL (c : UInt8) (l : List UInt8) : cut l [c] = ((cutL c l).1, (cutL c l).2, decide (c ∈ l)) := by
  by_cases h : c ∈ l
  · obtain ⟨a, r, rfl, ha⟩ := split_at c l h
    rw [cut_at a r c ha, cutL_at r ha]
    simp
  · rw [cut_none l c h, cutL_none h]
    simp [h]
theorem cutL_hit {c : UInt8} {l : List UInt8} {k : Nat} (hk : k < l.length) (hc : l[k] = c) (hno : c ∉ l.take k) : cutL c l = (l.take k, l.drop (k + 1)) := by
  have h1 : l = l.take k ++ (c :: l.drop (k + 1)) := by rw [← hc, ← List.drop_eq_getElem_cons hk, List.take_append_drop]
  conv => lhs; rw [h1]
  exact cutL_at _ hno

/-- A text cut at the first k bytes of a kind. -/
def splitNC (c : UInt8) : Nat → List UInt8 → List (List UInt8)
  | 0, l => [l]
  | k + 1, l => if c ∈ l then (cutL c l).1 :: splitNC c k (cutL c l).2 else [l]
theorem splitNC_at {c : UInt8} {a : List UInt8} (k : Nat) (r : List UInt8) (h : c ∉ a) : splitNC c (k + 1) (a ++ c :: r) = a :: splitNC c k r := by
  rw [splitNC, if_pos (by simp), cutL_at r h]
theorem splitNC_none {c : UInt8} {a : List UInt8} (k : Nat) (h : c ∉ a) : splitNC c k a = [a] := by
  cases k with
  | zero => rfl
  | succ k => rw [splitNC, if_neg h]
theorem splitNC_pos {c : UInt8} (k : Nat) (l : List UInt8) : 1 ≤ (splitNC c k l).length := by
  cases k with
  | zero => exact Nat.le_refl _
  | succ k => rw [splitNC]; split <;> simp
theorem splitNC_le {c : UInt8} : ∀ (k : Nat) (l : List UInt8), (splitNC c k l).length ≤ k + 1
  | 0, _ => Nat.le_refl _
  | k + 1, l => by
    rw [splitNC]
    split
    · have := splitNC_le (c := c) k (cutL c l).2
      rw [List.length_cons]
      omega
    · simp
theorem splitNC_all {c : UInt8} : ∀ (k : Nat) (l : List UInt8), l.length ≤ k → splitNC c k l = splitC c l
  | 0, l, h => by
    have : l = [] := List.eq_nil_of_length_eq_zero (by omega)
    subst this
    rfl
  | k + 1, l, h => by
    by_cases hc : c ∈ l
    · obtain ⟨a, r, rfl, ha⟩ := split_at c l hc
      rw [splitNC_at k r ha, splitC_at r ha, splitNC_all k r (by simp at h; omega)]
    · rw [splitNC_none _ hc, splitC_none hc]
theorem splitNC_min {c : UInt8} (k n : Nat) (l : List UInt8) (h : n = l.length) : splitNC c (min k n) l = splitNC c k l := by
  rcases Nat.le_total k n with h1 | h1
  · rw [Nat.min_eq_left h1]
  · rw [Nat.min_eq_right h1, splitNC_all n l (by omega), splitNC_all k l (by omega)]
theorem splitK_nc (c : UInt8) : ∀ (k : Nat) (l : List UInt8), splitK [c] 0 k l = splitNC c k l
  | 0, _ => rfl
  | k + 1, l => by
    by_cases hc : c ∈ l
    · obtain ⟨a, r, rfl, ha⟩ := split_at c l hc
      rw [splitNC_at k r ha, splitK, index_one a r c ha, if_neg (by simp), ← splitK_nc c k r]
      simp
    · rw [splitNC_none _ hc, splitK, index_none l c hc, if_pos (by simp)]
theorem count_le_len (c : UInt8) (l : List UInt8) : ∀ n, l.length ≤ n → splitNC c (count l [c]) l = splitC c l ∧ (splitC c l).length = count l [c] + 1 := by
  intro n
  induction n generalizing l with
  | zero =>
    intro h
    have : l = [] := List.eq_nil_of_length_eq_zero (by omega)
    subst this
    rw [count_miss (index_none [] c (by simp))]
    exact ⟨rfl, rfl⟩
  | succ n ih =>
    intro h
    by_cases hc : c ∈ l
    · obtain ⟨a, r, rfl, ha⟩ := split_at c l hc
      have hcnt : count (a ++ c :: r) [c] = count r [c] + 1 := by
        have := count_hit (s := a ++ c :: r) (sub := [c]) (i := a.length) (by simp) (index_one a r c ha)
        rw [this, Nat.add_comm]
        congr 2
        simp
      obtain ⟨i1, i2⟩ := ih r (by simp at h; omega)
      rw [hcnt, splitNC_at _ r ha, splitC_at r ha, i1, List.length_cons, i2]
      exact ⟨rfl, rfl⟩
    · rw [count_miss (index_none l c hc), splitC_none hc]
      exact ⟨rfl, rfl⟩

/-- The numbers of parts; none if one of them is no number. -/
noncomputable def numL (lo hi : Int) : List (List UInt8) → Option (List Int)
  | [] => some []
  | p :: ps => match numOf lo hi p, numL lo hi ps with | some n, some ns => some (n :: ns) | _, _ => none
theorem numL_map {lo hi : Int} (hl : -9223372036854775808 ≤ lo) (hh : hi ≤ 9223372036854775807) : ∀ zs : List Int, (∀ z ∈ zs, lo ≤ z ∧ z ≤ hi) → numL lo hi (zs.map itoa) = some zs
  | [], _ => rfl
  | z :: zs, h => by
    rw [List.map_cons, numL, numOf_of hl hh (h z (by simp)).1 (h z (by simp)).2 rfl, numL_map hl hh zs (fun y hy => h y (by simp [hy]))]
theorem numL_snoc {lo hi : Int} (p : List UInt8) : ∀ ps : List (List UInt8), numL lo hi (ps ++ [p]) = match numL lo hi ps, numOf lo hi p with | some ns, some n => some (ns ++ [n]) | _, _ => none
  | [] => by
    rw [List.nil_append, numL, numL, numL]
    cases numOf lo hi p <;> rfl
  | q :: ps => by
    rw [List.cons_append, numL, numL, numL_snoc p ps]
    cases numOf lo hi q <;> cases numL lo hi ps <;> cases numOf lo hi p <;> rfl
theorem numL_none_app {lo hi : Int} (ps qs : List (List UInt8)) (h : numL lo hi ps = none) : numL lo hi (ps ++ qs) = none := by
  induction ps with
  | nil => cases h
  | cons p ps ih =>
    rw [List.cons_append, numL] at *
    cases h1 : numOf lo hi p with
    | none => rfl
    | some n =>
      cases h2 : numL lo hi ps with
      | none => rw [ih h2]
      | some ns => rw [h1, h2] at h; cases h
theorem numL_len {lo hi : Int} : ∀ (ps : List (List UInt8)) {zs : List Int}, numL lo hi ps = some zs → zs.length = ps.length
  | [], zs, h => by injection h with h; subst h; rfl
  | p :: ps, zs, h => by
    rw [numL] at h
    cases h1 : numOf lo hi p with
    | none => rw [h1] at h; cases h
    | some n =>
      cases h2 : numL lo hi ps with
      | none => rw [h1, h2] at h; cases h
      | some ns =>
        rw [h1, h2] at h
        injection h with h
        subst h
        rw [List.length_cons, List.length_cons, numL_len ps h2]

def editLine (e : Edit) : List UInt8 :=
  if e.kind = 1 then 43 :: (itoa e.id ++ 32 :: e.new.toList) else if e.kind = 2 then 45 :: (itoa e.id ++ 32 :: e.old.toList) else 126 :: (itoa e.id ++ 32 :: (e.old.toList ++ 124 :: e.new.toList))
theorem editText_line (e : Edit) : editText e = editLine e ++ [10] := by
  unfold editText editLine
  split
  · simp
  · split <;> simp
theorem sent_byte {l : List UInt8} (h : okSent l = true) {c : UInt8} (hc : c ∈ l) : (97 ≤ c.toNat ∧ c.toNat ≤ 122) ∨ (48 ≤ c.toNat ∧ c.toNat ≤ 57) ∨ c.toNat = 32 := by
  unfold okSent at h
  simp only [Bool.and_eq_true] at h
  obtain ⟨⟨⟨⟨h, _⟩, _⟩, _⟩, _⟩ := h
  rw [allLt_true] at h
  obtain ⟨k, hk, rfl⟩ := List.mem_iff_getElem.1 hc
  have := h k hk
  unfold byteAt at this
  rw [List.getD_eq_getElem?_getD, List.getElem?_eq_getElem hk] at this
  exact (sentCh_iff _).1 this
theorem name_byte {l : List UInt8} (h : okName l = true) {c : UInt8} (hc : c ∈ l) : 97 ≤ c.toNat ∧ c.toNat ≤ 122 := by
  unfold okName at h
  simp only [Bool.and_eq_true] at h
  obtain ⟨⟨h, _⟩, _⟩ := h
  rw [allLt_true] at h
  obtain ⟨k, hk, rfl⟩ := List.mem_iff_getElem.1 hc
  have := h k hk
  unfold byteAt at this
  rw [List.getD_eq_getElem?_getD, List.getElem?_eq_getElem hk] at this
  simpa using this
theorem itoa_not {c : UInt8} (n : Int) (h : c.toNat < 45 ∨ c.toNat = 46 ∨ c.toNat = 47 ∨ 57 < c.toNat) : c ∉ itoa n := by
  intro hc
  rcases itoa_bytes n c hc with hd | rfl
  · unfold isDigit at hd; omega
  · have : (45 : UInt8).toNat = 45 := rfl
    omega
theorem sent_not {l : List UInt8} (h : okSent l = true) {c : UInt8} (hc : c.toNat < 32 ∨ 122 < c.toNat ∨ (57 < c.toNat ∧ c.toNat < 97)) : c ∉ l := by
  intro hm
  have := sent_byte h hm
  omega
theorem name_not {l : List UInt8} (h : okName l = true) {c : UInt8} (hc : c.toNat < 97) : c ∉ l := by
  intro hm
  have := name_byte h hm
  omega
theorem okEdit_kinds {e : Edit} (h : okEdit e = true) : 1 ≤ e.id ∧ e.id ≤ 99 ∧ ((e.kind = 1 ∧ e.old = ⟨#[]⟩ ∧ okSent e.new.toList = true) ∨ (e.kind = 2 ∧ okSent e.old.toList = true ∧ e.new = ⟨#[]⟩) ∨ (e.kind = 3 ∧ okSent e.old.toList = true ∧ okSent e.new.toList = true)) := by
  unfold okEdit at h
  simp only [Bool.and_eq_true, Bool.or_eq_true, decide_eq_true_eq, inB_iff] at h
  obtain ⟨⟨h1, h2⟩, h⟩ := h
  refine ⟨h1, h2, ?_⟩
  have nil : ∀ b : ByteArray, b.toList = [] → b = ⟨#[]⟩ := fun b hb => by
    rw [← mk_toList b, hb]
  rcases h with (⟨⟨h, ho⟩, hn⟩ | ⟨⟨h, ho⟩, hn⟩) | ⟨⟨⟨h, ho⟩, hn⟩, _⟩
  · exact .inl ⟨h, nil _ ho, hn⟩
  · exact .inr (.inl ⟨h, ho, nil _ hn⟩)
  · exact .inr (.inr ⟨h, ho, hn⟩)
theorem line_not {e : Edit} (h : okEdit e = true) {c : UInt8} (hc : c.toNat < 32 ∨ c.toNat = 59) : c ∉ editLine e := by
  obtain ⟨_, _, hk⟩ := okEdit_kinds h
  have hi : c ∉ itoa e.id := itoa_not _ (by omega)
  have h1 : c ≠ 43 := by rintro rfl; revert hc; decide
  have h2 : c ≠ 45 := by rintro rfl; revert hc; decide
  have h3 : c ≠ 126 := by rintro rfl; revert hc; decide
  have h4 : c ≠ 32 := by rintro rfl; revert hc; decide
  have h5 : c ≠ 124 := by rintro rfl; revert hc; decide
  rcases hk with ⟨k, ho, hn⟩ | ⟨k, ho, hn⟩ | ⟨k, ho, hn⟩
  · have := sent_not hn (c := c) (by omega)
    unfold editLine
    rw [if_pos k]
    simp [h1, h4, hi, this]
  · have := sent_not ho (c := c) (by omega)
    unfold editLine
    rw [if_neg (by omega), if_pos k]
    simp [h2, h4, hi, this]
  · have a := sent_not hn (c := c) (by omega)
    have b := sent_not ho (c := c) (by omega)
    unfold editLine
    rw [if_neg (by omega), if_neg (by omega)]
    simp [h3, h4, h5, hi, a, b]
theorem patch_lines {q : List Edit} (h : okPatch q = true) : splitC 10 (patchText q) = q.map editLine ++ [[]] := by
  have e : patchText q = q.flatMap (fun x => editLine x ++ [10]) ++ [] := by
    rw [List.append_nil]
    unfold patchText
    congr 1
    funext x
    exact editText_line x
  rw [e, splitC_lines 10 editLine q [] (fun x hx => by
    obtain ⟨k, hk⟩ := List.getElem?_of_mem hx
    exact line_not (okPatch_at h hk) (.inl (by decide)))]
  rfl

/-- The edit with a line; d: a line that begins otherwise is a change, too. -/
noncomputable def lineP (d : Bool) (lo hi : Int) : List UInt8 → Edit
  | [] => ⟨0, 0, ⟨#[]⟩, ⟨#[]⟩⟩
  | h :: r =>
    if h = 43 then ⟨1, (numOf lo hi (cutL 32 r).1).getD 0, ⟨#[]⟩, ⟨(cutL 32 r).2.toArray⟩⟩
    else if h = 45 then ⟨2, (numOf lo hi (cutL 32 r).1).getD 0, ⟨(cutL 32 r).2.toArray⟩, ⟨#[]⟩⟩
    else if (d || h == 126) = true then ⟨3, (numOf lo hi (cutL 32 r).1).getD 0, ⟨(cutL 124 (cutL 32 r).2).1.toArray⟩, ⟨(cutL 124 (cutL 32 r).2).2.toArray⟩⟩
    else ⟨0, 0, ⟨#[]⟩, ⟨#[]⟩⟩
theorem lineP_of {e : Edit} (d : Bool) {lo hi : Int} (h : okEdit e = true) (hl : -9223372036854775808 ≤ lo) (hh : hi ≤ 9223372036854775807) (h1 : lo ≤ 1) (h2 : 99 ≤ hi) : lineP d lo hi (editLine e) = e := by
  obtain ⟨i1, i2, hk⟩ := okEdit_kinds h
  have hi' : (32 : UInt8) ∉ itoa e.id := itoa_not _ (.inl (by decide))
  have hn : numOf lo hi (itoa e.id) = some e.id := numOf_of hl hh (by omega) (by omega) rfl
  obtain ⟨kind, id, old, new⟩ := e
  simp only at hk hi' hn i1 i2
  rcases hk with ⟨rfl, rfl, hs⟩ | ⟨rfl, hs, rfl⟩ | ⟨rfl, hs, ht⟩
  · simp [editLine, lineP, cutL_at _ hi', hn, mk_toList]
  · simp [editLine, lineP, cutL_at _ hi', hn, mk_toList]
  · have h124 : (124 : UInt8) ∉ old.toList := sent_not hs (.inr (.inl (by decide)))
    simp [editLine, lineP, cutL_at _ hi', cutL_at _ h124, hn, mk_toList]

noncomputable def patchOf (t : List UInt8) : Option (List Edit) := inv okPatch patchText t
theorem lines_uniq {t : List UInt8} {ls : List (List UInt8)} (d : Bool) {lo hi : Int} (hl : -9223372036854775808 ≤ lo) (hh : hi ≤ 9223372036854775807) (h1 : lo ≤ 1) (h2 : 99 ≤ hi) (h : splitC 10 t = ls ++ [[]]) : ∀ q, okPatch q = true → patchText q = t → ls.map (lineP d lo hi) = q := by
  intro q hq e
  rw [← e, patch_lines hq] at h
  have hls : q.map editLine = ls := (List.append_inj' h rfl).1
  rw [← hls, List.map_map]
  conv => rhs; rw [← List.map_id q]
  apply List.map_congr_left
  intro x hx
  obtain ⟨k, hk⟩ := List.getElem?_of_mem hx
  exact lineP_of d (okPatch_at hq hk) hl hh h1 h2
end Go.Proofs.Ytmgdodgofpapgaa

namespace Go.Proofs.Ytmgdodgofpapgaa
open Go.RowKit Go.Lib

theorem mk_data (b : ByteArray) : (⟨b.data.toList.toArray⟩ : ByteArray) = b := by
  apply ByteArray.ext
  simp
theorem ext_take (s : ByteArray) (k : Nat) : s.extract 0 k = ⟨(s.data.toList.take k).toArray⟩ := by rw [← extract_from_zero, mk_data]
theorem ext_drop (s : ByteArray) (k : Nat) : s.extract k s.size = ⟨(s.data.toList.drop k).toArray⟩ := by rw [← extract_to_end, mk_data]
theorem ext_mid (s : ByteArray) (a b : Nat) : s.extract a b = ⟨((s.data.toList.take b).drop a).toArray⟩ := by
  rw [← mk_data (s.extract a b)]
  congr 2
  rw [extract_data]
  simp [List.drop_take]
theorem take_snoc' (s : ByteArray) (k : Nat) (h : k < s.size) : s.data.toList.take (k + 1) = s.data.toList.take k ++ [s[k]] := by
  rw [List.take_succ_eq_append_getElem (by simpa using h)]; rfl

/-- The number that the digits of a text make, whatever stands between them. -/
def dval (l : List UInt8) : Nat := l.foldl (fun n c => if 48 ≤ c.toNat ∧ c.toNat ≤ 57 then 10 * n + (c.toNat - 48) else n) 0
theorem dval_snoc (l : List UInt8) (c : UInt8) : dval (l ++ [c]) = if 48 ≤ c.toNat ∧ c.toNat ≤ 57 then 10 * dval l + (c.toNat - 48) else dval l := by
  unfold dval
  rw [List.foldl_append]
  rfl
theorem dval_lt (l : List UInt8) : ∀ k, dval (l.take k) < 10 ^ (min k l.length)
  | 0 => by simp [dval]
  | k + 1 => by
    have ih := dval_lt l k
    by_cases h : k < l.length
    · rw [List.take_succ_eq_append_getElem h, dval_snoc, Nat.min_eq_left (by omega), Nat.pow_succ]
      rw [Nat.min_eq_left (by omega)] at ih
      split <;> omega
    · rw [Nat.min_eq_right (by omega)] at ih ⊢
      rw [List.take_of_length_le (by omega)] at ih ⊢
      exact ih
theorem dval_digits (u : Nat) : ∀ p : List UInt8, dval p = 0 → dval (p ++ decDigits u) = u := by
  induction u using Nat.strongRecOn with
  | _ u ih =>
    intro p hp
    rw [decDigits]
    split
    · rename_i h
      rw [dval_snoc, digit_of u h, if_pos (by omega), hp]
      omega
    · rename_i h
      rw [← List.append_assoc, dval_snoc, digit_of (u % 10) (by omega), if_pos (by omega), ih (u / 10) (by omega) p hp]
      omega
/-- What the reference takes a text for, before it looks whether it is that number's text. -/
def rdval (l : List UInt8) : Int := if l.head?.map (·.toNat) = some 45 then -(dval l : Int) else (dval l : Int)
theorem rdval_itoa (n : Int) : rdval (itoa n) = n := by
  unfold rdval itoa
  split
  · rename_i h
    have := dval_digits n.natAbs [45] (by decide)
    rw [List.singleton_append] at this
    rw [if_pos (show (45 :: decDigits n.natAbs).head?.map (·.toNat) = some 45 from rfl), this]
    omega
  · rename_i h
    obtain ⟨c, r, hd, hc⟩ := digits_head n.toNat
    have := dval_digits n.toNat [] rfl
    rw [List.nil_append, hd] at this
    unfold isDigit at hc
    rw [hd, if_neg (by simp; omega), this]
    omega
theorem itoa_len10 {n : Int} (h1 : -999999999 ≤ n) (h2 : n ≤ 999999999) : (itoa n).length ≤ 10 := by
  have hd : ∀ (k u : Nat), u < 10 ^ (k + 1) → (decDigits u).length ≤ k + 1 := by
    intro k
    induction k with
    | zero =>
      intro u hu
      rw [decDigits, dif_pos (by simpa using hu)]
      simp
    | succ k ih =>
      intro u hu
      rw [decDigits]
      split
      · simp
      · have := ih (u / 10) (by rw [Nat.pow_succ] at hu; omega)
        rw [List.length_append]
        simp
        omega
  unfold itoa
  split
  · have := hd 8 n.natAbs (by omega)
    rw [List.length_cons]
    omega
  · have := hd 8 n.toNat (by omega)
    omega

theorem numOf_no {lo hi z : Int} {t : List UInt8} (hu : ∀ q, inB q lo hi = true → itoa q = t → z = q) (h : ¬ (inB z lo hi = true ∧ itoa z = t)) : numOf lo hi t = none := inv_no hu h
theorem numOf_yes {lo hi z : Int} {t : List UInt8} (hu : ∀ q, inB q lo hi = true → itoa q = t → z = q) (h1 : inB z lo hi = true) (h2 : itoa z = t) : numOf lo hi t = some z := inv_of hu h1 h2
end Go.Proofs.Ytmgdodgofpapgaa

namespace Go.Proofs.Ytmgdodgofpapgaa
open Go.RowKit Go.Lib

/-- A row of the call's own: block g holds these cells, and they may be written. -/
structure Row (w : World) (g : Nat) (L : List Value) : Prop where
  cell : ∀ j u, L[j]? = some u → w.cell? ⟨g, j, none⟩ = some u
  free : ∀ j, j < L.length → w.frozen? ⟨g, j, none⟩ = false
theorem Row.set {w : World} {g : Nat} {L : List Value} (h : Row w g L) (k : Nat) (u : Value) (hk : k < L.length) : Row (w.setCell ⟨g, k, none⟩ u) g (L.set k u) where
  cell := fun j d hj => by
    by_cases e : k = j
    · subst e
      rw [List.getElem?_set, if_pos rfl, if_pos hk] at hj
      injection hj with hj
      subst hj
      exact World.cell?_setCell_same _ _ _ (h.cell k L[k] (List.getElem?_eq_getElem hk))
    · rw [List.getElem?_set, if_neg e] at hj
      rw [World.cell?_setCell_other _ _ _ _ (by intro h; injection h with _ h; exact e h)]
      exact h.cell j d hj
  free := fun j hj => by
    rw [List.length_set] at hj
    rw [World.frozen?_setCell]
    exact h.free j hj
theorem Row.below {w w' : World} {g B : Nat} {L : List Value} (h : Row w g L) (hb : Below B w w') (hg : g < B) : Row w' g L :=
  ⟨fun j u hj => (hb.cell (p := ⟨g, j, none⟩) hg).trans (h.cell j u hj), fun j hj => (hb.frozen (p := ⟨g, j, none⟩) hg).trans (h.free j hj)⟩
theorem Row.far {w : World} {g : Nat} {L : List Value} {p : Addr} (h : Row w g L) (u : Value) (hp : p.block ≠ g) : Row (w.setCell p u) g L :=
  ⟨fun j v hj => (World.cell?_setCell_far w p ⟨g, j, none⟩ u hp).trans (h.cell j v hj), fun j hj => by rw [World.frozen?_setCell]; exact h.free j hj⟩
theorem Row.new (w : World) (cs : Array Value) (e : TypeId) : Row (w.alloc (.cells cs e)) w.heap.size cs.toList where
  cell := fun j u hj => by
    have : cs[j]? = some u := by simpa using hj
    simpa [go_sem] using this
  free := fun j hj => by simp [go_sem]
theorem SlR.of_row {α : Type} (f : α → List Value) {size : Nat} {w : World} {g c : Nat} {xs : List α} (hf : ∀ x, (f x).length = size) (h : Row w g (xs.flatMap f)) (hg : g < w.heap.size) (hc : xs.length ≤ c) (hm : c ≤ maxLen) : SlR (Pl f) size w w.heap.size (.slice (some ⟨g, 0, none⟩) xs.length c) xs := by
  refine ⟨_, c, rfl, hc, hm, fun h0 => ⟨g, 0, rfl, hg, fun k x hx => ⟨f x, hf x, rfl, fun j u hu => ?_⟩⟩⟩
  have hj : j < size := by rw [← hf x]; exact (List.getElem?_eq_some_iff.1 hu).1
  rw [Nat.zero_add]
  exact h.cell _ u (flat_at f hf xs k x j u hx hu hj)


/-- A slice of the call's own that reads as a list: in a block at or above 'base', and it may be written. -/
def OwnL {α : Type} (f : α → List Value) (xs : List α) (base : Nat) (w : World) (v : Value) : Prop :=
  ∃ A c, v = .slice A xs.length c ∧ xs.length ≤ c ∧ c ≤ maxLen ∧ (xs ≠ [] → ∃ g, A = some ⟨g, 0, none⟩ ∧ base ≤ g ∧ g < w.heap.size ∧ Row w g (xs.flatMap f))
theorem OwnL.of_own {α : Type} (f : α → List Value) {size : Nat} {w : World} {base : Nat} {e : TypeId} {v : Value} {xs : List α} (hf : ∀ x, (f x).length = size) (h : w.ownsRow base e size v xs.length (xs.flatMap f)) : OwnL f xs base w v := by
  have hS := SlR.of_own f hf h
  obtain ⟨hl, h | ⟨g, cap, cur, rfl, hg, hh, h1, h2, h3, h4⟩⟩ := h
  · obtain ⟨rfl, h0⟩ := h
    have : xs = [] := List.eq_nil_of_length_eq_zero h0
    subst this
    exact ⟨none, 0, rfl, Nat.le_refl _, Nat.zero_le _, fun h => absurd rfl h⟩
  · refine ⟨_, cap, rfl, h1, h2, fun h0 => ⟨g, rfl, hg, ?_, ⟨fun j u hj => ?_, fun j hj => ?_⟩⟩⟩
    · rcases Nat.lt_or_ge g w.heap.size with hlt | hge
      · exact hlt
      · rw [Array.getElem?_eq_none hge] at hh; cases hh
    · have hlt : j < xs.length * size := by rw [← hl]; exact (List.getElem?_eq_some_iff.1 hj).1
      have hcur : cur[j]? = some u := by rw [← Array.getElem?_toList, ← hj, ← h4, List.getElem?_take, if_pos hlt]
      simp [World.cell?, hh, hcur]
    · have hlt : j < xs.length * size := by rw [← hl]; exact hj
      have hlc : xs.length * size ≤ cap * size := Nat.mul_le_mul_right _ h1
      simp [World.frozen?, hh]
theorem OwnL.on {α : Type} {f : α → List Value} {xs : List α} {base : Nat} {w w' : World} {v : Value} (h : OwnL f xs base w v) (hb : Below w.heap.size w w') : OwnL f xs base w' v := by
  obtain ⟨A, c, rfl, h1, h2, h3⟩ := h
  refine ⟨A, c, rfl, h1, h2, fun h0 => ?_⟩
  obtain ⟨g, e, hg, hlt, hr⟩ := h3 h0
  exact ⟨g, e, hg, Nat.lt_of_lt_of_le hlt hb.size, hr.below hb hlt⟩
theorem OwnL.less {α : Type} {f : α → List Value} {xs : List α} {base b : Nat} {w : World} {v : Value} (h : OwnL f xs base w v) (hb : b ≤ base) : OwnL f xs b w v := by
  obtain ⟨A, c, rfl, h1, h2, h3⟩ := h
  refine ⟨A, c, rfl, h1, h2, fun h0 => ?_⟩
  obtain ⟨g, e, hg, hlt, hr⟩ := h3 h0
  exact ⟨g, e, Nat.le_trans hb hg, hlt, hr⟩
theorem OwnL.slR {α : Type} {f : α → List Value} {size : Nat} {xs : List α} {base : Nat} {w : World} {v : Value} (hf : ∀ x, (f x).length = size) (h : OwnL f xs base w v) : SlR (Pl f) size w w.heap.size v xs := by
  obtain ⟨A, c, rfl, h1, h2, h3⟩ := h
  by_cases h0 : xs = []
  · subst h0
    exact SlR.nil _ _ _ _ _ _ h2
  · obtain ⟨g, rfl, hg, hlt, hr⟩ := h3 h0
    exact SlR.of_row f hf hr hlt h1 h2
theorem OwnL.nil {α : Type} (f : α → List Value) (base : Nat) (w : World) : OwnL f ([] : List α) base w (.slice none 0 0) := ⟨none, 0, rfl, Nat.le_refl _, Nat.zero_le _, fun h => absurd rfl h⟩
theorem own_len {w : World} {base : Nat} {e : TypeId} {size n : Nat} {v : Value} {xs : List Value} (h : w.ownsRow base e size v n xs) : ∃ A c, v = .slice A n c ∧ n ≤ c ∧ c ≤ maxLen := by
  obtain ⟨hl, h | ⟨g, cap, cur, rfl, hg, hh, h1, h2, h3, h4⟩⟩ := h
  · obtain ⟨rfl, rfl⟩ := h
    exact ⟨none, 0, rfl, Nat.le_refl _, Nat.zero_le _⟩
  · exact ⟨_, cap, rfl, h1, h2⟩
/-- Texts in memory. -/
def Strs (w : World) (v : Value) (ls : List (List UInt8)) : Prop := SlR (Pl strCell) 1 w w.heap.size v ls
theorem Strs.on {w w' : World} {v : Value} {ls : List (List UInt8)} (h : Strs w v ls) (hb : Below w.heap.size w w') : Strs w' v ls := SlR.on h (Pl.stays _) hb hb.size
theorem strs_get {w : World} {n c k : Nat} {A : Option Addr} {ls : List (List UInt8)} {l : List UInt8} (h : Strs w (.slice A n c) ls) (hk : ls[k]? = some l) : ∃ b off, A = some ⟨b, off, none⟩ ∧ b < w.heap.size ∧ w.cell? ⟨b, off + k, none⟩ = some (.string ⟨l.toArray⟩) := by
  obtain ⟨A', c', hv, h1, h2, h3⟩ := h
  injection hv with e1 e2 e3
  subst e1
  have hlt : k < ls.length := (List.getElem?_eq_some_iff.1 hk).1
  obtain ⟨b, off, hA, hb, hc⟩ := h3 (by omega)
  obtain ⟨us, hl, hus, hcell⟩ := hc k l hk
  subst hus
  have := hcell 0 _ rfl
  rw [Nat.mul_one, Nat.add_zero] at this
  exact ⟨b, off, hA, hb, this⟩
theorem flat_snoc {α : Type} (f : α → List Value) (xs : List α) (x : α) : (xs ++ [x]).flatMap f = xs.flatMap f ++ f x := by simp
theorem slR_len' {α : Type} {R : World → Nat → List Value → α → Prop} {size : Nat} {w : World} {B n c : Nat} {A : Option Addr} {xs : List α} (h : SlR R size w B (.slice A n c) xs) : n = xs.length ∧ xs.length ≤ c ∧ c ≤ 9223372036854775807 := by
  obtain ⟨A', c', hv, h1, h2, h3⟩ := h
  injection hv with e1 e2 e3
  unfold maxLen at h2
  exact ⟨e2, by omega, by omega⟩
theorem slR_len {α : Type} {R : World → Nat → List Value → α → Prop} {size : Nat} {w : World} {B n c : Nat} {A : Option Addr} {xs : List α} (h : SlR R size w B (.slice A n c) xs) : n = xs.length ∧ xs.length ≤ c ∧ c ≤ 9223372036854775807 := slR_len' h
end Go.Proofs.Ytmgdodgofpapgaa

namespace Go.Proofs.Ytmgdodgofpapgaa
open Go.RowKit Go.Lib


def LinesPost (s : ByteArray) (most : Nat) (w : World) (e : Ending) (w' : World) : Prop :=
  ∃ ls v ok, e = .returned (.tuple #[v, .bool ok]) ∧ Strs w' v ls ∧ (ok = true → splitC 10 s.data.toList = ls ++ [[]] ∧ ls.length ≤ most) ∧ (ok = false → ∀ qs, splitC 10 s.data.toList = qs ++ [[]] → most < qs.length) ∧ Below w.heap.size w w'

theorem mid_size (l : List UInt8) (a b : Nat) {n : Nat} (h : l.length ≤ n) : (⟨((l.take b).drop a).toArray⟩ : ByteArray).size ≤ n := by
  show (((l.take b).drop a).toArray).size ≤ n
  rw [List.size_toArray, List.length_drop, List.length_take]
  omega
def RetOwn {α : Type} (f : α → List Value) (xs : List α) (w : World) (e : Ending) (w' : World) : Prop := ∃ v, e = .returned v ∧ OwnL f xs w.heap.size w' v ∧ Below w.heap.size w w'
theorem Try.infoI : (Try.prog.info? 2).map (fun i => (i.zero, i.size, i.bytes)) = some (some (.int .i64 0), 1, 8) := by kernel_rfl

end Go.Proofs.Ytmgdodgofpapgaa

namespace Go.Proofs.Ytmgdodgofpapgaa
open Go.RowKit Go.Lib

theorem cutL_len (c : UInt8) (l : List UInt8) : (cutL c l).1.length ≤ l.length ∧ (cutL c l).2.length ≤ l.length := by
  unfold cutL
  have h1 := (List.takeWhile_sublist (fun x => x != c) (l := l)).length_le
  have h2 := (List.dropWhile_sublist (fun x => x != c) (l := l)).length_le
  refine ⟨h1, ?_⟩
  rw [List.length_drop]
  omega
theorem mk_size (l : List UInt8) : (⟨l.toArray⟩ : ByteArray).size = l.length := by simp [ByteArray.size]
theorem cons_of (s : ByteArray) (h : 0 < s.size) : s.data.toList = s[0] :: s.data.toList.drop 1 := by
  have := List.drop_eq_getElem_cons (l := s.data.toList) (i := 0) (by simpa using h)
  rw [List.drop_zero] at this
  exact this

end Go.Proofs.Ytmgdodgofpapgaa

namespace Go.Proofs.Ytmgdodgofpapgaa
open Go.RowKit Go.Lib

theorem inv_never {α : Type} {ok : α → Bool} {f : α → List UInt8} {t : List UInt8} (h : ∀ q, ok q = true → f q = t → False) : inv ok f t = none := by
  unfold inv
  rw [dif_neg]
  rintro ⟨q, h1, h2⟩
  exact h q h1 h2
theorem splitC_len (c : UInt8) : ∀ (l : List UInt8) (p : List UInt8), p ∈ splitC c l → p.length ≤ l.length
  | [], p, h => by simp [splitC] at h; subst h; simp
  | x :: l, p, h => by
    have ih := splitC_len c l
    unfold splitC at h
    split at h
    · rcases List.mem_cons.1 h with rfl | h
      · simp
      · have := ih p h; simp; omega
    · revert h
      cases hs : splitC c l with
      | nil => exact absurd hs (splitC_ne c l)
      | cons a r =>
        intro h
        rcases List.mem_cons.1 h with rfl | h
        · have := ih a (by rw [hs]; simp); simp; omega
        · have := ih p (by rw [hs]; simp [h]); simp; omega
theorem splitNC_len (c : UInt8) : ∀ (k : Nat) (l : List UInt8) (p : List UInt8), p ∈ splitNC c k l → p.length ≤ l.length
  | 0, l, p, h => by
    rw [splitNC, List.mem_singleton] at h
    rw [h]
    exact Nat.le_refl _
  | k + 1, l, p, h => by
    rw [splitNC] at h
    obtain ⟨a1, a2⟩ := cutL_len c l
    split at h
    · rcases List.mem_cons.1 h with rfl | h
      · exact a1
      · exact Nat.le_trans (splitNC_len c k _ p h) a2
    · rw [List.mem_singleton] at h
      rw [h]
      exact Nat.le_refl _
theorem lineP_size (d : Bool) (lo hi : Int) (l : List UInt8) : (lineP d lo hi l).old.size ≤ l.length ∧ (lineP d lo hi l).new.size ≤ l.length := by
  cases l with
  | nil => exact ⟨Nat.le_refl _, Nat.le_refl _⟩
  | cons h r =>
    obtain ⟨a1, a2⟩ := cutL_len 32 r
    obtain ⟨b1, b2⟩ := cutL_len 124 (cutL 32 r).2
    rw [lineP, List.length_cons]
    split
    · constructor <;> simp [ByteArray.size] <;> omega
    · split
      · constructor <;> simp [ByteArray.size] <;> omega
      · split
        · constructor <;> simp [ByteArray.size] <;> omega
        · constructor <;> simp [ByteArray.size]

def PatchPost (l : List UInt8) (w : World) (e : Ending) (w' : World) : Prop :=
  ∃ v, e = .returned (.tuple #[v, .bool (patchOf l).isSome]) ∧ OwnL editCells ((patchOf l).getD []) w.heap.size w' v ∧ Below w.heap.size w w'
theorem Try.infoE : (Try.prog.info? 59).map (fun i => (i.zero, i.size, i.bytes)) = some (some (.agg #[.int .i64 0, .int .i64 0, .string ⟨#[]⟩, .string ⟨#[]⟩]), 4, 48) := by kernel_rfl
theorem new_at {w : World} {cs : List Value} {T : TypeId} {j : Nat} {u : Value} (h : cs[j]? = some u) : (w.alloc (.cells cs.toArray T)).cell? ((⟨w.heap.size, 0, none⟩ : Addr).add j) = some u := by
  have hr := (Row.new w cs.toArray T).cell j u (by simpa using h)
  unfold Addr.add
  by_cases h0 : j = 0
  · subst h0; simpa using hr
  · simpa [h0] using hr
theorem edit_one {q : Edit} {u : Value} (h : u ∈ editCells q) : u.oneCell' = true := by
  simp only [editCells, List.mem_cons, List.not_mem_nil, or_false] at h
  rcases h with rfl | rfl | rfl | rfl <;> rfl
theorem base_le {b : Nat} {w : World} {o : Obj} (h : b ≤ w.heap.size) : b ≤ (w.alloc o).heap.size := by simp; omega
theorem take_edits {α : Type} (f : α → List Value) {xs : List α} {k : Nat} {x : α} (h : xs[k]? = some x) : (xs.take (k + 1)).flatMap f = (xs.take k).flatMap f ++ f x := by
  obtain ⟨hk, rfl⟩ := List.getElem?_eq_some_iff.1 h
  rw [List.take_succ_eq_append_getElem hk, flat_snoc]

end Go.Proofs.Ytmgdodgofpapgaa

namespace Go.Proofs.Ytmgdodgofpapgaa
open Go.RowKit Go.Lib


theorem own_ne {w : World} {base g : Nat} {e e' : TypeId} {size n : Nat} {v : Value} {xs : List Value} {cs : Array Value} (h : w.ownsRow base e size v n xs) (hg : w.heap[g]? = some (.cells cs e' (0, 0))) (hne : e ≠ e') : v.ownBlock ≠ some g := by
  obtain ⟨hl, h | ⟨g1, cap, cur, rfl, _, hh, _⟩⟩ := h
  · obtain ⟨rfl, _⟩ := h
    simp [Value.ownBlock]
  · intro hb
    simp [Value.ownBlock] at hb
    subst hb
    rw [hh] at hg
    injection hg with hg
    injection hg with _ h2 _
    exact hne h2
theorem own_some {w : World} {base : Nat} {e : TypeId} {size n : Nat} {v : Value} {xs : List Value} (h : w.ownsRow base e size v n xs) (hn : v ≠ .slice none 0 0) : ∃ g cap, v = .slice (some ⟨g, 0, none⟩) n cap ∧ n ≤ cap ∧ cap ≤ maxLen := by
  obtain ⟨hl, h | ⟨g1, cap, cur, rfl, _, hh, h1, h2, _⟩⟩ := h
  · exact absurd h.1 hn
  · exact ⟨g1, cap, rfl, h1, h2⟩
theorem block_keep {w w' : World} {o : Obj} {row : Option Nat} {g : Nat} {x : Obj} (hg : (w.alloc o).grownBy w' row) (h : w.heap[g]? = some x) (hne : row ≠ some g) : w'.heap[g]? = some x := by
  have hlt : g < w.heap.size := (Array.getElem?_eq_some_iff.1 h).1
  rw [hg.block g (by simp; omega) (fun e => hne e.symm)]
  have : (w.alloc o).heap[g]? = w.heap[g]? := ((Below.refl w.heap.size w).alloc (Nat.le_refl _) o).block g hlt
  rw [this, h]
theorem block_cell {w : World} {g j : Nat} {cs : Array Value} {e : TypeId} {u : Value} (h : w.heap[g]? = some (.cells cs e (0, 0))) (hu : cs[j]? = some u) : w.cell? ⟨g, j, none⟩ = some u := by
  simp [World.cell?, h, hu]
theorem block_below {w w' : World} {g : Nat} {x : Obj} (hb : Below w.heap.size w w') (h : w.heap[g]? = some x) : w'.heap[g]? = some x := by
  rw [hb.block g (Array.getElem?_eq_some_iff.1 h).1, h]
theorem alloc_at (w : World) (o : Obj) : (w.alloc o).heap[w.heap.size]? = some o := heap_alloc_new w o
def unsemis (l : List UInt8) : List UInt8 := l.map fun c => if c = 59 then 10 else c

theorem in2_val (n a b : Int) (w : World) (r : Bool) (h : inB n a b = r) : Calls Try.prog 46 #[.int .i64 n, .int .i64 a, .int .i64 b] w (RetQ (.bool r) w) := h ▸ in2_any n a b w

/-- The program's numbers of a text. -/
noncomputable def decs (lo hi : Int) (l : List UInt8) : List Int := if l = [] then [] else if (splitC 44 l).length ≤ 101 then (numL lo hi (splitC 44 l)).getD [] else []
def DecsPost (zs : List Int) (w : World) (e : Ending) (w' : World) : Prop := ∃ v ok, e = .returned (.tuple #[v, .bool ok]) ∧ OwnL intCells zs w.heap.size w' v ∧ Below w.heap.size w w'
theorem splitC_cnt (c : UInt8) : ∀ l : List UInt8, (splitC c l).length ≤ l.length + 1
  | [] => Nat.le_refl _
  | x :: l => by
    have ih := splitC_cnt c l
    unfold splitC
    split
    · simp; omega
    · split
      · rename_i h; rw [h] at ih; simp at ih ⊢; omega
      · simp

end Go.Proofs.Ytmgdodgofpapgaa

/- The program's reader of a deed, walked: the words; the vote's number. -/
import Derived.Test.YthlfpiflegfoiaaGreatDoorRH
import Derived.Test.YthlfpiflegfoiaaGreatDoorRF
namespace Go.Proofs.YthlfpiflegfoiaaGreatDoor
open Go.RowKit Go.Lib

theorem word_cell' {k : Nat} (h : k < 4) : ([.string ⟨#[110, 111, 110, 101]⟩, .string ⟨#[121, 101, 115]⟩, .string ⟨#[110, 111]⟩, .string ⟨#[98, 108, 97, 110, 107]⟩] : List Value)[k]? = some (.string ⟨(wordV (k : Int)).toArray⟩) := by
  have : k = 0 ∨ k = 1 ∨ k = 2 ∨ k = 3 := by omega
  rcases this with rfl | rfl | rfl | rfl <;> rfl
theorem ixOf_no {v : List UInt8} (h : ∀ j : Nat, j < 4 → wordV (j : Int) ≠ v) : ixOf v = -1 := by
  unfold ixOf
  rw [if_neg (fun e => h 0 (by omega) e.symm), if_neg (fun e => h 1 (by omega) e.symm), if_neg (fun e => h 2 (by omega) e.symm), if_neg (fun e => h 3 (by omega) e.symm)]

set_option maxHeartbeats 1000000 in
theorem indexS_any (g : Nat) (v : ByteArray) (w : World) (h : Row w g [.string ⟨#[110, 111, 110, 101]⟩, .string ⟨#[121, 101, 115]⟩, .string ⟨#[110, 111]⟩, .string ⟨#[98, 108, 97, 110, 107]⟩]) :
    Calls Tryz.prog 59 #[.slice (some ⟨g, 0, none⟩) 4 4, .string v] w (RetQ (.int .i64 (ixOf v.data.toList)) w) := by
  have HR := Lib.hid h
  clear h
  go_enter Tryz.func59, Tryz.ntmps59
  go_wp2
  go_loop [5, 8] (fun _ i => ∃ k : Nat, k ≤ 4 ∧ i = .int .i64 (k : Int) ∧ ∀ j : Nat, j < k → wordV (j : Int) ≠ v.data.toList) (fun _ i => 4 - (RowKit.intOf i).toNat)
  case atStart => exact ⟨0, Nat.zero_le _, rfl, fun j hj => absurd hj (Nat.not_lt_zero _)⟩
  case round =>
    obtain ⟨k, hk, rfl, hno⟩ := hrel
    have HN := Lib.hid hno
    clear hno
    by_cases hlt : k < 4
    · have x0 : w.cell? ⟨g, k, none⟩ = some (.string ⟨(wordV (k : Int)).toArray⟩) := HR.out.cell k _ (word_cell' hlt)
      have hix := ixOf_word (z := (k : Int)) (by omega) (by omega)
      have HIX := Lib.hid hix
      clear hix
      by_cases he : wordV (k : Int) = v.data.toList
      · have h1 : (v.toList == wordV (k : Int)) = true := by rw [ByteArray.toList_eq, he]; simp
        have HE : Hid (ixOf v.data.toList = (k : Int)) := Lib.hid (by rw [← he]; exact HIX.out)
        clear he HIX
        generalize wordV (k : Int) = wk at *
        go_wp2
        go_ret
        exact ⟨by rw [HE.out]; rfl, 0, rfl⟩
      · have h1 : (v.toList == wordV (k : Int)) = false := by rw [ByteArray.toList_eq]; simpa using fun e => he e.symm
        have HNX : Hid (∀ j : Nat, j < k + 1 → wordV (j : Int) ≠ v.data.toList) := Lib.hid (fun j hj => by
          rcases Nat.lt_or_ge j k with h | h
          · exact HN.out j h
          · have : j = k := by omega
            rw [this]; exact he)
        clear he HIX
        generalize wordV (k : Int) = wk at *
        go_wp2
        go_round
        case rel => exact ⟨k + 1, by omega, by go_num, HNX.out⟩
        case measure => simp [RowKit.intOf]; omega
    · have hge : ¬ (k : Int) < 4 := by omega
      have HE : Hid (ixOf v.data.toList = -1) := Lib.hid (ixOf_no (fun j hj => HN.out j (by omega)))
      go_wp2
      go_ret
      exact ⟨by rw [HE.out]; rfl, 0, rfl⟩

/-- The state of the program's reader: the result's block, what was when the deed's block was made, the deed's block. -/
structure Si (w w1 V : World) (L : List Value) : Prop where
  row : Row V w1.heap.size L
  res : Row V w.heap.size (deedCs zeroDeed none 0 none 0)
  all : Below w.heap.size w V
  bel : Below w1.heap.size w1 V
  siz : w1.heap.size < V.heap.size
  lt : w.heap.size < w1.heap.size
theorem Si.set {w w1 V : World} {L : List Value} (h : Si w w1 V L) (k : Nat) (u : Value) (hk : k < L.length) : Si w w1 (V.setCell ⟨w1.heap.size, k, none⟩ u) (L.set k u) :=
  ⟨h.row.set k u hk, h.res.far u (by have := h.lt; simp; omega), h.all.setCell (by have := h.lt; simp; omega) _, h.bel.setCell (by simp) _, by simpa using h.siz, h.lt⟩
theorem Si.below {w w1 V V' : World} {L : List Value} (h : Si w w1 V L) (hb : Below V.heap.size V V') : Si w w1 V' L :=
  ⟨h.row.below hb h.siz, h.res.below hb (Nat.lt_trans h.lt h.siz), h.all.trans (hb.mono h.all.size), h.bel.trans (hb.mono h.bel.size), Nat.lt_of_lt_of_le h.siz hb.size, h.lt⟩
theorem Si.drew' {w w1 V V' : World} {L : List Value} {n : Nat} (h : Si w w1 V L) (hw : V' = V.drewN n) : Si w w1 V' L := hw ▸ h.below (below_drewN (Below.refl _ _) n)
theorem Si.alloc' {w w1 V V' : World} {L : List Value} {o : Obj} (h : Si w w1 V L) (hw : V' = V.alloc o) : Si w w1 V' L := hw ▸ h.below ((Below.refl _ _).alloc (Nat.le_refl _) _)
theorem Si.own {w w1 V : World} {L : List Value} (h : Si w w1 V L) : w1.heap.size + 1 ≤ V.heap.size := h.siz
theorem Si.start {w w1 : World} (hr : Row w1 w.heap.size (deedCs zeroDeed none 0 none 0)) (hb : Below w.heap.size w w1) (hlt : w.heap.size < w1.heap.size) (cs : Array Value) : Si w w1 (w1.alloc (.cells cs 39)) cs.toList := by
  have b1 : Below w1.heap.size w1 (w1.alloc (.cells cs 39)) := (Below.refl _ _).alloc (Nat.le_refl _) _
  exact ⟨Row.new _ _ _, hr.below b1 hlt, hb.trans (b1.mono hb.size), b1, by simp, hlt⟩
theorem Si.deed {w w1 V : World} {d : Deed} {A1 : Option Addr} {c1 : Nat} {A2 : Option Addr} {c2 : Nat} (h : Si w w1 V (deedCs d A1 c1 A2 c2)) (h1 : Ints V V.heap.size (.slice A1 d.trust.length c1) d.trust) (h2 : Edits V V.heap.size (.slice A2 d.patch.length c2) d.patch) (h3 : SizesOk d.patch) (h4 : d.title.size ≤ maxLen) : DeedP V w1.heap.size 0 d A1 c1 A2 c2 :=
  ⟨h.row.cell 0 _ rfl, h.row.cell 1 _ rfl, h.row.cell 2 _ rfl, h.row.cell 3 _ rfl, h.row.cell 4 _ rfl, h.row.cell 5 _ rfl, h.row.cell 6 _ rfl, h.row.cell 7 _ rfl, h.row.cell 8 _ rfl, h1, h2, h3, h4⟩

/-- What stands in the deed's block behind the switch. -/
structure Pre (w w1 V : World) (d : Deed) (A1 : Option Addr) (c1 : Nat) (A2 : Option Addr) (c2 : Nat) : Prop where
  st : Si w w1 V (deedCs d A1 c1 A2 c2)
  o1 : OwnL intCells d.trust (w1.heap.size + 1) V (.slice A1 d.trust.length c1)
  o2 : OwnL editCells d.patch (w1.heap.size + 1) V (.slice A2 d.patch.length c2)
  sz : SizesOk d.patch
  ti : d.title.size ≤ maxLen
theorem Pre.deed {w w1 V : World} {d : Deed} {A1 : Option Addr} {c1 : Nat} {A2 : Option Addr} {c2 : Nat} (h : Pre w w1 V d A1 c1 A2 c2) : DeedP V w1.heap.size 0 d A1 c1 A2 c2 :=
  h.st.deed (h.o1.slR (size := 1) fun _ => rfl) (h.o2.slR (size := 4) fun _ => rfl) h.sz h.ti
theorem Pre.below {w w1 V V' : World} {d : Deed} {A1 : Option Addr} {c1 : Nat} {A2 : Option Addr} {c2 : Nat} (h : Pre w w1 V d A1 c1 A2 c2) (hb : Below V.heap.size V V') : Pre w w1 V' d A1 c1 A2 c2 :=
  ⟨h.st.below hb, h.o1.on hb, h.o2.on hb, h.sz, h.ti⟩
theorem Pre.member {w w1 V : World} {d : Deed} {A1 : Option Addr} {c1 : Nat} {A2 : Option Addr} {c2 : Nat} (h : Pre w w1 V d A1 c1 A2 c2) (m : Int) : Pre w w1 (V.setCell ⟨w1.heap.size, 1, none⟩ (.int .i64 m)) { d with member := m } A1 c1 A2 c2 :=
  ⟨h.st.set 1 _ (by simp [deedCs]), h.o1.set _ (by simp), h.o2.set _ (by simp), h.sz, h.ti⟩

theorem Row.drew {W : World} {g : Nat} {L : List Value} (h : Row W g L) : Row W.drew g L := ⟨fun j u hj => by simpa using h.cell j u hj, fun j hj => by simpa using h.free j hj⟩
/-- The words of a text, as they lie. -/
def Words (w1 : World) (g : Nat) (ws : List (List UInt8)) : Prop := g < w1.heap.size ∧ ∀ (k : Nat) (l : List UInt8), ws[k]? = some l → w1.cell? ⟨g, k, none⟩ = some (.string ⟨l.toArray⟩)
theorem Words.at {w w1 V : World} {L : List Value} {g : Nat} {ws : List (List UInt8)} (h : Words w1 g ws) (hS : Si w w1 V L) {k : Nat} {l : List UInt8} (hk : ws[k]? = some l) : V.cell? ⟨g, k, none⟩ = some (.string ⟨l.toArray⟩) :=
  (hS.bel.cell (p := ⟨g, k, none⟩) h.1).trans (h.2 k l hk)
end Go.Proofs.YthlfpiflegfoiaaGreatDoor

/- Draws: what only turns the source; sentences drawn; texts and edits found. -/
import Derived.Test.YtmgdodgofpapgaaDoorSrc
import Derived.Test.YtmgdodgofpapgaaDoorSp
namespace Go.Proofs.YtmgdodgofpapgaaDoor
open Go.RowKit Go.Lib

theorem Src.keep {B b k : Nat} {w w' : World} (h : Src B w b k) (hb : w'.heap[b]? = w.heap[b]?) (hB : ∀ i, i < B → w'.heap[i]? = w.heap[i]?) : Src B w' b k := by
  obtain ⟨A, n, c, p, q, h1, h2, h3, h4, h5, h6⟩ := h
  refine ⟨A, n, c, p, q, by rw [hb]; exact h1, h2, h3, h4, h5, h6.1, fun hn => ?_⟩
  obtain ⟨g, off, rfl, hlt, hc⟩ := h6.2 hn
  exact ⟨g, off, rfl, hlt, fun i hi => by
    obtain ⟨x, hx, hxc⟩ := hc i hi
    exact ⟨x, hx, by rw [World.cell?_of_block (hB g hlt)]; exact hxc⟩⟩
theorem Src.lt {B b k : Nat} {w : World} (h : Src B w b k) : b < w.heap.size ∧ B ≤ b := by
  obtain ⟨A, n, c, p, q, h1, h2, _⟩ := h
  exact ⟨(Array.getElem?_eq_some_iff.1 h1).1, h2⟩
theorem Src.below {B b k D : Nat} {w w' : World} (h : Src B w b k) (hb : Below D w w') (hD : b < D) : Src B w' b k :=
  h.keep (hb.block b hD) (fun i hi => hb.block i (by have := h.lt.2; omega))
theorem Src.alloc {B b k : Nat} {w : World} (h : Src B w b k) (o : Obj) : Src B (w.alloc o) b k :=
  h.below ((Below.refl w.heap.size w).alloc (Nat.le_refl _) o) h.lt.1
theorem Src.drewN {B b k : Nat} {w : World} (h : Src B w b k) (n : Nat) : Src B (w.drewN n) b k := h.below (below_drewN (Below.refl w.heap.size w) n) h.lt.1
theorem only_of_below {b : Nat} {w w' : World} (h : Below w.heap.size w w') : Only b w w' := ⟨h.os, h.tape, h.output, h.size, fun i hi _ => h.block i hi⟩
theorem only_below' {b D : Nat} {a w w' : World} (h : Only b a w) (hb : Below D w w') (hD : a.heap.size ≤ D) : Only b a w' :=
  ⟨hb.os.trans h.os, hb.tape.trans h.tape, hb.output.trans h.output, Nat.le_trans h.size hb.size, fun i hi hn => (hb.block i (Nat.lt_of_lt_of_le hi hD)).trans (h.block i hi hn)⟩
theorem only_alloc {b : Nat} {a w : World} (h : Only b a w) (o : Obj) : Only b a (w.alloc o) := only_below' h ((Below.refl w.heap.size w).alloc (Nat.le_refl _) o) h.size
theorem only_grown {b : Nat} {a w w' : World} {row : Option Nat} (h : Only b a w) (hg : w.grownBy w' row) (hr : ∀ j, row = some j → a.heap.size ≤ j) : Only b a w' :=
  ⟨hg.os.trans h.os, hg.tape.trans h.tape, hg.output.trans h.output, Nat.le_trans h.size hg.size, fun i hi hn => (hg.block i (Nat.lt_of_lt_of_le hi h.size) (fun e => by have := hr i e.symm; omega)).trans (h.block i hi hn)⟩
theorem Src.grown {B b k : Nat} {w w' : World} {row : Option Nat} (h : Src B w b k) (hg : w.grownBy w' row) (hr : ∀ j, row = some j → b < j) : Src B w' b k :=
  h.keep (hg.block b h.lt.1 (fun e => by have := hr b e.symm; omega)) (fun i hi => hg.block i (by have := h.lt; omega) (fun e => by have := hr i e.symm; have := h.lt; omega))
theorem own_only {w w' : World} {base b n size : Nat} {e : TypeId} {v : Value} {xs : List Value} (h : w.ownsRow base e size v n xs) (hb : b < base) (ho : Only b w w') : w'.ownsRow base e size v n xs :=
  h.kept ho (by
    rcases hv : v.ownBlock with _ | g
    · exact .inl rfl
    · right
      intro e
      injection e with e
      have := (h.lt g hv).1
      omega)
theorem Row.only {w w' : World} {g b : Nat} {L : List Value} (h : Row w g L) (hg : g < w.heap.size) (hne : g ≠ b) (ho : Only b w w') : Row w' g L where
  cell := fun j u hj => (only_cells ho g j hg hne).1.trans (h.cell j u hj)
  free := fun j hj => (only_cells ho g j hg hne).2.trans (h.free j hj)
theorem OwnL.only {α : Type} {f : α → List Value} {xs : List α} {base b : Nat} {w w' : World} {v : Value} (h : OwnL f xs base w v) (hb : b < base) (ho : Only b w w') : OwnL f xs base w' v := by
  obtain ⟨A, c, rfl, h1, h2, h3⟩ := h
  refine ⟨A, c, rfl, h1, h2, fun h0 => ?_⟩
  obtain ⟨g, e, hg, hlt, hr⟩ := h3 h0
  exact ⟨g, e, hg, Nat.lt_of_lt_of_le hlt ho.size, hr.only hlt (by omega) ho⟩
theorem SlR.only {α : Type} {f : α → List Value} {size B b : Nat} {w w' : World} {v : Value} {xs : List α} (h : SlR (Pl f) size w B v xs) (hb : B ≤ w.heap.size) (hs : B ≤ b) (ho : Only b w w') : SlR (Pl f) size w' B v xs := by
  obtain ⟨A, c, rfl, h1, h2, h3⟩ := h
  refine ⟨A, c, rfl, h1, h2, fun h0 => ?_⟩
  obtain ⟨g, off, e, hlt, hc⟩ := h3 h0
  refine ⟨g, off, e, hlt, fun k x hx => ?_⟩
  obtain ⟨us, hl, hp, hcell⟩ := hc k x hx
  exact ⟨us, hl, hp, fun j u hj => (only_cells ho g _ (by omega) (by omega)).1.trans (hcell j u hj)⟩

/-- A draw of a text of a kind. -/
def TextPost (p : List UInt8 → Prop) (B : Nat) (w : World) (b k : Nat) (e : Ending) (w' : World) : Prop :=
  ∃ l, p l ∧ e = .returned (.string ⟨l.toArray⟩) ∧ Src B w' b k ∧ Only b w w'

set_option maxHeartbeats 400000 in
theorem text_any (p : List UInt8 → Prop) (B b k g n c : Nat) (w : World) (h : Src B w b k) (hk : k ≤ 58000) (hn : 1 ≤ n) (hn' : n ≤ 60000) (hg : g < w.heap.size) (hgb : g ≠ b)
    (hc : ∀ j, j < n → ∃ l : List UInt8, p l ∧ w.cell? ⟨g, j, none⟩ = some (.string ⟨l.toArray⟩)) :
    Calls Tryd.prog 36 #[.pointer (some ⟨b, 0, none⟩), .slice (some ⟨g, 0, none⟩) n c] w (TextPost p B w b (k + 2)) := by
  have H := Lib.hid h
  have HC := Lib.hid hc
  clear h hc
  go_enter Tryd.func36, Tryd.ntmps36
  go_wp2_with (fail)
  refine (pick_pos B b k n w H.out (by omega) (by omega) (by omega)).mono ?_
  rintro e w1 ⟨x, hx, rfl, hs, ho⟩
  have Hs := Lib.hid hs
  have hx' : x < n := by omega
  obtain ⟨l, hp, hl⟩ := HC.out x hx'
  have x0 : w1.cell? ⟨g, x, none⟩ = some (.string ⟨l.toArray⟩) := (only_cells ho g x hg hgb).1.trans hl
  have HP := Lib.hid hp
  have HO := Lib.hid ho
  clear hs hl hp ho
  go_wp2
  go_ret
  exact ⟨l, HP.out, rfl, Hs.out, HO.out⟩

set_option maxHeartbeats 400000 in
theorem drawSent_any (B b k : Nat) (w : World) (h : Src B w b k) (hk : k ≤ 58000) :
    Calls Tryd.prog 25 #[.pointer (some ⟨b, 0, none⟩)] w (TextPost (fun l => okSent l = true) B w b (k + 2)) := by
  have H := Lib.hid h
  clear h
  go_enter Tryd.func25, Tryd.ntmps25
  go_wp2_with (fail)
  refine (text_any (fun l => okSent l = true) B b k w.heap.size 10 10 _ (H.out.alloc _) hk (by omega) (by omega) (by simp) (by have := H.out.lt.1; omega) ?_).mono ?_
  · intro j hj
    have hcell : ∀ (L : List (List UInt8)), (∀ l ∈ L, okSent l = true) → j < L.length → ∃ l, okSent l = true ∧ (w.alloc (.cells (L.map (fun l => Value.string ⟨l.toArray⟩)).toArray 9)).cell? ⟨w.heap.size, j, none⟩ = some (.string ⟨l.toArray⟩) := fun L hL hj => by
      refine ⟨L[j], hL _ (List.getElem_mem hj), ?_⟩
      have := (Row.new w (L.map (fun l => Value.string ⟨l.toArray⟩)).toArray 9).cell j (.string ⟨L[j].toArray⟩) (by simp [List.getElem?_eq_getElem hj])
      exact this
    exact hcell [[97], [98], [100, 111, 103, 115, 32, 97, 114, 101, 32, 108, 101, 100], [100, 111, 103, 115, 32, 97, 114, 101, 32, 102, 114, 101, 101], [116, 104, 101, 32, 103, 97, 116, 101, 32, 105, 115, 32, 115, 104, 117, 116], [114, 117, 108, 101, 32, 55], [112, 97, 121, 32, 51, 32, 97, 32, 121, 101, 97, 114], [120, 32, 121, 32, 122], [97, 98, 99, 100, 101, 102, 103, 104, 105, 106, 107, 108, 109, 110, 111, 112, 113, 114, 115, 116, 117, 118, 119, 120], [110, 111]] (by decide) hj
  rintro e w1 ⟨l, hp, rfl, hs, ho⟩
  have Hs := Lib.hid hs
  have HO : Hid (Only b w w1) := Lib.hid (only_trans (only_of_below ((Below.refl w.heap.size w).alloc (Nat.le_refl _) _)) ho)
  have HP := Lib.hid hp
  clear hs ho hp
  go_wp2
  go_ret
  exact ⟨l, HP.out, rfl, Hs.out, HO.out⟩

set_option maxHeartbeats 1000000 in
theorem find1_any (es : List Art) (q : Int) (w : World) (v : Value) (h : Arts w w.heap.size v es) :
    Calls Tryd.prog 26 #[v, .int .i64 q] w (RetQ (.string (findA es q)) w) := by
  obtain ⟨A, c, rfl, hc, hm, hel⟩ := h
  unfold maxLen at hm
  have hlm : es.length ≤ 9223372036854775807 := by omega
  have HEL := Lib.hid hel
  clear hel
  go_enter Tryd.func26, Tryd.ntmps26
  go_wp2
  go_loop [5] (fun i => ∃ k : Nat, k ≤ es.length ∧ i = .int .i64 (k : Int) ∧ findA es q = findA (es.drop k) q) (fun i => es.length - (RowKit.intOf i).toNat)
  case atStart => exact ⟨0, Nat.zero_le _, rfl, rfl⟩
  case round =>
    obtain ⟨k, hk, rfl, hf⟩ := hrel
    have HF := Lib.hid hf
    clear hf
    by_cases hlt : k < es.length
    · obtain ⟨b, off, rfl, hblt, hcell⟩ := HEL.out (by omega)
      have hget : es[k]? = some es[k] := List.getElem?_eq_getElem hlt
      obtain ⟨x0, x1⟩ := arts_at hcell hget
      have HG := Lib.hid hget
      clear hget hcell
      generalize es[k] = e at *
      by_cases hq : e.id = q
      · have HR := Lib.hid (findA_hit HG.out hq HF.out)
        have hb : (e.id == q) = true := by simp [hq]
        clear hq
        go_wp2
        go_ret
        exact ⟨by rw [HR.out]; rfl, 0, rfl⟩
      · have HR := Lib.hid (findA_drop HG.out hq HF.out)
        have hb : (e.id == q) = false := by simp [hq]
        clear hq
        go_wp2
        go_round
        case rel => exact ⟨k + 1, by omega, by go_num, HR.out⟩
        case measure => simp [RowKit.intOf]; omega
    · have HR := Lib.hid (findA_end (by omega : es.length ≤ k) HF.out)
      have hge : ¬ (k : Int) < (es.length : Int) := by omega
      go_wp2
      go_ret
      exact ⟨by rw [HR.out]; rfl, 0, rfl⟩
end Go.Proofs.YtmgdodgofpapgaaDoor

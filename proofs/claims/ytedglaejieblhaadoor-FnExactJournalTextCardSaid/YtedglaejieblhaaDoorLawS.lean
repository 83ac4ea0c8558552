/- Copies of deeds, walked: the statements' own functions. -/
import Derived.Test.YtedglaejieblhaaDoorLawR
namespace Go.Proofs.YtedglaejieblhaaDoor
open Go.RowKit

/-- A row of the call's own: block g holds these cells, and they may be written. -/
structure Row (w : World) (g : Nat) (L : List Value) : Prop where
  cell : ∀ j u, L[j]? = some u → w.cell? ⟨g, j, none⟩ = some u
  free : ∀ j, j < L.length → w.frozen? ⟨g, j, none⟩ = false
theorem Row.set {w : World} {g : Nat} {L : List Value} (h : Row w g L) (k : Nat) (u : Value) (hk : k < L.length) : Row (w.setCell ⟨g, k, none⟩ u) g (L.set k u) where
  cell := fun j d hj => by
    by_cases e : k = j
    · subst e
      rw [List.getElem?_set, if_pos rfl, if_pos hk] at hj
      injection hj with hj
      subst hj
      exact World.cell?_setCell_same _ _ _ (h.cell k L[k] (List.getElem?_eq_getElem hk))
    · rw [List.getElem?_set, if_neg e] at hj
      rw [World.cell?_setCell_other _ _ _ _ (by intro h; injection h with _ h; exact e h)]
      exact h.cell j d hj
  free := fun j hj => by
    rw [List.length_set] at hj
    rw [World.frozen?_setCell]
    exact h.free j hj
theorem Row.below {w w' : World} {g B : Nat} {L : List Value} (h : Row w g L) (hb : Below B w w') (hg : g < B) : Row w' g L :=
  ⟨fun j u hj => (hb.cell (p := ⟨g, j, none⟩) hg).trans (h.cell j u hj), fun j hj => (hb.frozen (p := ⟨g, j, none⟩) hg).trans (h.free j hj)⟩
theorem Row.far {w : World} {g : Nat} {L : List Value} {p : Addr} (h : Row w g L) (u : Value) (hp : p.block ≠ g) : Row (w.setCell p u) g L :=
  ⟨fun j v hj => (World.cell?_setCell_far w p ⟨g, j, none⟩ u hp).trans (h.cell j v hj), fun j hj => by rw [World.frozen?_setCell]; exact h.free j hj⟩
theorem Row.new (w : World) (cs : Array Value) (e : TypeId) : Row (w.alloc (.cells cs e)) w.heap.size cs.toList where
  cell := fun j u hj => by
    have : cs[j]? = some u := by simpa using hj
    simpa [go_sem] using this
  free := fun j hj => by simp [go_sem]
theorem SlR.of_row {α : Type} (f : α → List Value) {size : Nat} {w : World} {g c : Nat} {xs : List α} (hf : ∀ x, (f x).length = size) (h : Row w g (xs.flatMap f)) (hg : g < w.heap.size) (hc : xs.length ≤ c) (hm : c ≤ maxLen) : SlR (Pl f) size w w.heap.size (.slice (some ⟨g, 0, none⟩) xs.length c) xs := by
  refine ⟨_, c, rfl, hc, hm, fun h0 => ⟨g, 0, rfl, hg, fun k x hx => ⟨f x, hf x, rfl, fun j u hu => ?_⟩⟩⟩
  have hj : j < size := by rw [← hf x]; exact (List.getElem?_eq_some_iff.1 hu).1
  rw [Nat.zero_add]
  exact h.cell _ u (flat_at f hf xs k x j u hx hu hj)

/-- A row that is being filled. -/
def mix (L Z : List Value) (k : Nat) : List Value := L.take k ++ Z.drop k
theorem mix_length {L Z : List Value} (h : L.length = Z.length) (k : Nat) : (mix L Z k).length = Z.length := by
  unfold mix
  rw [List.length_append, List.length_take, List.length_drop]
  omega
theorem mix_succ {L Z : List Value} (h : L.length = Z.length) {k : Nat} {u : Value} (hu : L[k]? = some u) : mix L Z (k + 1) = (mix L Z k).set k u := by
  obtain ⟨hk, rfl⟩ := List.getElem?_eq_some_iff.1 hu
  unfold mix
  have e : (Z.drop k).set 0 L[k] = L[k] :: Z.drop (k + 1) := by
    rw [List.drop_eq_getElem_cons (by omega)]
    rfl
  rw [List.take_succ_eq_append_getElem hk, List.set_append, if_neg (by rw [List.length_take]; omega), List.length_take, show k - min k L.length = 0 by omega, e, List.append_assoc]
  rfl
theorem mix_all {L Z : List Value} (h : L.length = Z.length) (k : Nat) (hk : L.length ≤ k) : mix L Z k = L := by
  unfold mix
  rw [List.take_of_length_le hk, List.drop_eq_nil_of_le (by omega), List.append_nil]

theorem row_fill4 {w : World} {g k : Nat} {L Z : List Value} {a b c d : Value} (h : L.length = Z.length) (hz : k * 4 + 4 ≤ Z.length) (hr : Row w g (mix L Z (k * 4))) (h0 : L[k * 4 + 0]? = some a) (h1 : L[k * 4 + 1]? = some b) (h2 : L[k * 4 + 2]? = some c) (h3 : L[k * 4 + 3]? = some d) :
    Row ((((w.setCell ⟨g, k * 4, none⟩ a).setCell ⟨g, k * 4 + 1, none⟩ b).setCell ⟨g, k * 4 + 2, none⟩ c).setCell ⟨g, k * 4 + 3, none⟩ d) g (mix L Z ((k + 1) * 4)) := by
  have e : mix L Z ((k + 1) * 4) = ((((mix L Z (k * 4)).set (k * 4) a).set (k * 4 + 1) b).set (k * 4 + 2) c).set (k * 4 + 3) d := by
    rw [show (k + 1) * 4 = k * 4 + 1 + 1 + 1 + 1 by omega, mix_succ h h3, mix_succ h h2, mix_succ h h1, mix_succ h (by simpa using h0)]
  have hl := mix_length h (k * 4)
  rw [e]
  exact (((hr.set _ _ (by omega)).set _ _ (by rw [List.length_set]; omega)).set _ _ (by rw [List.length_set, List.length_set]; omega)).set _ _ (by rw [List.length_set, List.length_set, List.length_set]; omega)

/-- A slice of its own that a function hands back. -/
def RetL {α : Type} (f : α → List Value) (size : Nat) (xs : List α) (w : World) (e : Ending) (w' : World) : Prop :=
  ∃ g c, e = .returned (.slice (some ⟨g, 0, none⟩) xs.length c) ∧ xs.length ≤ c ∧ c ≤ maxLen ∧ w.heap.size ≤ g ∧ g < w'.heap.size ∧ Row w' g (xs.flatMap f) ∧ Below w.heap.size w w'

theorem flat_len (es : List Edit) : (es.flatMap editCells).length = es.length * 4 := by
  induction es with
  | nil => rfl
  | cons e es ih => rw [List.flatMap_cons, List.length_append, ih, List.length_cons]; simp [editCells]; omega
theorem flat_ints (zs : List Int) : zs.flatMap intCells = zs.map (Value.int .i64) := by
  induction zs with
  | nil => rfl
  | cons z zs ih => rw [List.flatMap_cons, ih]; rfl

theorem Tryd.infoI : (Tryd.prog.info? 2).map (fun i => (i.zero, i.size, i.bytes)) = some (some (.int .i64 0), 1, 8) := by kernel_rfl
theorem Tryd.infoE : (Tryd.prog.info? 78).map (fun i => (i.zero, i.size, i.bytes)) = some (some (.agg #[.int .i64 0, .int .i64 0, .string ⟨#[]⟩, .string ⟨#[]⟩]), 4, 48) := by kernel_rfl

theorem make_row {P : Program} (w : World) (t e : TypeId) (i : TypeInfo) (z : Value) (size : Nat) (ht : P.underlying t = some (.slice e)) (hi : P.info? e = some i) (hz : i.zero = some z) (hsize : i.size = size) (n : Nat) (hb : i.bytes * n ≤ 281474976710656) (hn : n ≤ 1048576) :
    ∃ w' Z, (Instr.makeSlice t (.int .i64 (n : Int)) (.int .i64 (n : Int))).run P w = .ok (.slice (some ⟨w.heap.size, 0, none⟩) n n) w' ∧ Row w' w.heap.size Z ∧ Z.length = n * size ∧ w.heap.size < w'.heap.size ∧ Below w.heap.size w w' := by
  subst hsize
  have hb' : (i.bytes : Int) * (n : Int) ≤ 281474976710656 := by
    have h : ((i.bytes * n : Nat) : Int) ≤ 281474976710656 := by omega
    rwa [Int.natCast_mul] at h
  have hr := run_make (P := P) w t e i z ht hi hz .i64 .i64 n n (by omega) (Int.le_refl _) hb' (by omega)
  simp only [Int.toNat_natCast] at hr
  exact ⟨_, _, hr, Row.new _ _ _, by rw [Array.length_toList, size_madeCells], by simp, (Below.refl _ _).alloc (Nat.le_refl _) _⟩

set_option maxHeartbeats 2000000 in
theorem toInts_any (zs : List Int) (A : Option Addr) (n c : Nat) (w : World) (h : Ints w w.heap.size (.slice A n c) zs) (hn : n ≤ 1048576) :
    Calls Tryd.prog 28 #[.slice A n c] w (RetL intCells 1 zs w) := by
  obtain ⟨rfl, e1, g1⟩ := slR_len h
  have H1 := Lib.hid h
  clear h
  obtain ⟨i0, hi, hz0, hz1, hz2⟩ := info_parts Tryd.infoI
  obtain ⟨W, Z, hmk, hrow, hZ, hgs, hbW⟩ := make_row (P := Tryd.prog) w 22 2 i0 _ 1 Tryd.underlying22 hi hz0 hz1 zs.length (by rw [hz2]; omega) hn
  have hLZ : (zs.map (Value.int .i64)).length = Z.length := by rw [List.length_map, hZ]; omega
  have HLZ := Lib.hid hLZ
  have HZ := Lib.hid hZ
  have HR := Lib.hid hrow
  clear hi hz0 hz1 hz2 hrow hLZ hZ
  go_enter Tryd.func28, Tryd.ntmps28
  go_wp2
  go_loopw [4] (fun i wr => ∃ k : Nat, k ≤ zs.length ∧ i = .int .i64 (k : Int) ∧ Row wr w.heap.size (mix (zs.map (Value.int .i64)) Z k) ∧ Below w.heap.size w wr ∧ w.heap.size < wr.heap.size) (fun i _ => zs.length - (intOf i).toNat)
  case atStart => exact ⟨0, Nat.zero_le _, rfl, HR.out, hbW, hgs⟩
  case round =>
    obtain ⟨k, hk, rfl, hrow, hb, hgr⟩ := hrel
    have HW := Lib.hid hrow
    by_cases hlt : k < zs.length
    · have hget : zs[k]? = some zs[k] := List.getElem?_eq_getElem hlt
      obtain ⟨b, off, rfl, hblt, c0⟩ := ints_get H1.out hget
      have x0 := (hb.cell (p := ⟨b, off + k, none⟩) hblt).trans c0
      have hml : k < (mix (zs.map (Value.int .i64)) Z k).length := by rw [mix_length HLZ.out, HZ.out]; omega
      have f0 := hrow.free k hml
      have g0 := hrow.cell k _ (List.getElem?_eq_getElem hml)
      have HS := Lib.hid (mix_succ HLZ.out (k := k) (u := .int .i64 zs[k]) (by rw [List.getElem?_map, hget]; rfl))
      have HML := Lib.hid hml
      have HB := Lib.hid hb
      clear hget c0 hrow hb
      generalize zs[k] = z at *
      generalize (mix (zs.map (Value.int .i64)) Z k)[k] = old at *
      have HN : Hid (Row (wr.setCell ⟨w.heap.size, k, none⟩ (.int .i64 z)) w.heap.size (mix (zs.map (Value.int .i64)) Z (k + 1))) := Lib.hid (by rw [HS.out]; exact HW.out.set k _ HML.out)
      go_wp2
      go_roundw
      case rel => exact ⟨k + 1, by omega, by go_num, HN.out, HB.out.setCell (Nat.le_refl _) _, by simpa using hgr⟩
      case measure => simp [intOf]; omega
    · have hge : ¬ (k : Int) < (zs.length : Int) := by omega
      rw [mix_all HLZ.out k (by rw [List.length_map]; omega), ← flat_ints] at hrow
      have HF := Lib.hid hrow
      clear hrow HW
      go_wp2
      go_ret
      exact ⟨_, _, rfl, Nat.le_refl _, by unfold maxLen; omega, Nat.le_refl _, hgr, HF.out, hb⟩

set_option maxRecDepth 100000 in
set_option maxHeartbeats 2000000 in
theorem toEdit_any (e : Edit) (w : World) :
    Calls Tryd.prog 64 #[.agg #[.int .i64 e.kind, .int .i64 e.id, .string e.old, .string e.new]] w (RetB (.agg #[.int .i64 e.kind, .int .i64 e.id, .string e.old, .string e.new]) w) := by
  go_enter Tryd.func64, Tryd.ntmps64
  go_wp2
  exact bodyPost_ret (v := .agg #[.int .i64 e.kind, .int .i64 e.id, .string e.old, .string e.new]) (by simp [results, Tryd.results64, go_sem]) rfl ⟨rfl, (((Below.refl _ _).alloc (Nat.le_refl _) _).alloc (by simp) _).alloc (by simp; omega) _⟩

set_option maxRecDepth 100000 in
set_option maxHeartbeats 4000000 in
theorem toEdits_any (es : List Edit) (A : Option Addr) (n c : Nat) (w : World) (h : Edits w w.heap.size (.slice A n c) es) (hn : n ≤ 1048576) :
    Calls Tryd.prog 29 #[.slice A n c] w (RetL editCells 4 es w) := by
  obtain ⟨rfl, e1, g1⟩ := slR_len h
  have H1 := Lib.hid h
  clear h
  obtain ⟨i0, hi, hz0, hz1, hz2⟩ := info_parts Tryd.infoE
  obtain ⟨W, Z, hmk, hrow, hZ, hgs, hbW⟩ := make_row (P := Tryd.prog) w 29 78 i0 _ 4 Tryd.underlying29 hi hz0 hz1 es.length (by rw [hz2]; omega) hn
  have hLZ : (es.flatMap editCells).length = Z.length := by rw [flat_len, hZ]
  have HLZ := Lib.hid hLZ
  have HZ := Lib.hid hZ
  have HR := Lib.hid hrow
  clear hi hz0 hz1 hz2 hrow hLZ hZ
  go_enter Tryd.func29, Tryd.ntmps29
  go_wp2
  go_loopw [4] (fun i wr => ∃ k : Nat, k ≤ es.length ∧ i = .int .i64 (k : Int) ∧ Row wr w.heap.size (mix (es.flatMap editCells) Z (k * 4)) ∧ Below w.heap.size w wr ∧ w.heap.size < wr.heap.size) (fun i _ => es.length - (intOf i).toNat)
  case atStart => exact ⟨0, Nat.zero_le _, rfl, HR.out, hbW, hgs⟩
  case round =>
    obtain ⟨k, hk, rfl, hrow, hb, hgr⟩ := hrel
    have HW := Lib.hid hrow
    by_cases hlt : k < es.length
    · have hget : es[k]? = some es[k] := List.getElem?_eq_getElem hlt
      obtain ⟨b, off, rfl, hblt, c0, c1, c2, c3⟩ := edits_get H1.out hget
      have x0 := (hb.cell (p := ⟨b, off + k * 4, none⟩) hblt).trans c0
      have x1 := (hb.cell (p := ⟨b, off + k * 4 + 1, none⟩) hblt).trans c1
      have x2 := (hb.cell (p := ⟨b, off + k * 4 + 2, none⟩) hblt).trans c2
      have x3 := (hb.cell (p := ⟨b, off + k * 4 + 3, none⟩) hblt).trans c3
      have hF : ∀ j u, (editCells es[k])[j]? = some u → (es.flatMap editCells)[k * 4 + j]? = some u := fun j u hu => flat_at editCells (fun _ => rfl) es k _ j u hget hu (by have := (List.getElem?_eq_some_iff.1 hu).1; simpa [editCells] using this)
      have HF := Lib.hid hF
      have HB := Lib.hid hb
      clear hget c0 c1 c2 c3 hF hrow hb
      generalize es[k] = e at *
      go_wp2_with (fail)
      refine (toEdit_any e _).mono ?_
      rintro e' w1 ⟨rfl, hb1⟩
      have hgr1 := Nat.lt_of_lt_of_le hgr hb1.size
      have hrow1 := HW.out.below hb1 hgr
      have hml : ∀ j, j < 4 → k * 4 + j < (mix (es.flatMap editCells) Z (k * 4)).length := fun j hj => by rw [mix_length HLZ.out, HZ.out]; omega
      have f0 := hrow1.free (k * 4) (hml 0 (by omega))
      have f1 := hrow1.free (k * 4 + 1) (hml 1 (by omega))
      have f2 := hrow1.free (k * 4 + 2) (hml 2 (by omega))
      have f3 := hrow1.free (k * 4 + 3) (hml 3 (by omega))
      obtain ⟨o0, g0⟩ : ∃ o, w1.cell? ⟨w.heap.size, k * 4, none⟩ = some o := ⟨_, hrow1.cell (k * 4) _ (List.getElem?_eq_getElem (hml 0 (by omega)))⟩
      obtain ⟨o1, g1⟩ : ∃ o, w1.cell? ⟨w.heap.size, k * 4 + 1, none⟩ = some o := ⟨_, hrow1.cell (k * 4 + 1) _ (List.getElem?_eq_getElem (hml 1 (by omega)))⟩
      obtain ⟨o2, g2⟩ : ∃ o, w1.cell? ⟨w.heap.size, k * 4 + 2, none⟩ = some o := ⟨_, hrow1.cell (k * 4 + 2) _ (List.getElem?_eq_getElem (hml 2 (by omega)))⟩
      obtain ⟨o3, g3⟩ : ∃ o, w1.cell? ⟨w.heap.size, k * 4 + 3, none⟩ = some o := ⟨_, hrow1.cell (k * 4 + 3) _ (List.getElem?_eq_getElem (hml 3 (by omega)))⟩
      have HR1 := Lib.hid hrow1
      have HB1 := Lib.hid hb1
      clear hrow1 hb1
      clear hml
      have HML := Lib.hid (show k * 4 + 4 ≤ Z.length by rw [HZ.out]; omega)
      go_wp2
      go_roundw
      case rel => exact ⟨k + 1, by omega, by go_num, row_fill4 HLZ.out HML.out HR1.out (HF.out 0 _ rfl) (HF.out 1 _ rfl) (HF.out 2 _ rfl) (HF.out 3 _ rfl), (((((HB.out.trans (HB1.out.mono HB.out.size)).setCell (Nat.le_refl _) _).setCell (Nat.le_refl _) _).setCell (Nat.le_refl _) _).setCell (Nat.le_refl _) _), by simpa using hgr1⟩
      case measure => simp [intOf]; omega
    · have hge : ¬ (k : Int) < (es.length : Int) := by omega
      rw [mix_all HLZ.out (k * 4) (by rw [flat_len]; omega)] at hrow
      have HF := Lib.hid hrow
      clear hrow HW
      go_wp2
      go_ret
      exact ⟨_, _, rfl, Nat.le_refl _, by unfold maxLen; omega, Nat.le_refl _, hgr, HF.out, hb⟩

theorem RetL.ints {zs : List Int} {w w' : World} {e : Ending} (h : RetL intCells 1 zs w e w') : ∃ A c, e = .returned (.slice A zs.length c) ∧ Ints w' w'.heap.size (.slice A zs.length c) zs ∧ Below w.heap.size w w' := by
  obtain ⟨g, c, he, h1, h2, h3, h4, h5, h6⟩ := h
  exact ⟨_, c, he, SlR.of_row intCells (fun _ => rfl) h5 h4 h1 h2, h6⟩
theorem RetL.edits {es : List Edit} {w w' : World} {e : Ending} (h : RetL editCells 4 es w e w') : ∃ A c, e = .returned (.slice A es.length c) ∧ Edits w' w'.heap.size (.slice A es.length c) es ∧ Below w.heap.size w w' := by
  obtain ⟨g, c, he, h1, h2, h3, h4, h5, h6⟩ := h
  exact ⟨_, c, he, SlR.of_row editCells (fun _ => rfl) h5 h4 h1 h2, h6⟩

end Go.Proofs.YtedglaejieblhaaDoor

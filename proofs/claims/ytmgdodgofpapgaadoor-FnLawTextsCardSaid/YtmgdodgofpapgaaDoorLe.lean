/- What the laws compare: articles and edits, walked; and what is too long. -/
import Derived.Test.YtmgdodgofpapgaaDoorSp
import Derived.Laws.StructEq
namespace Go.Proofs.YtmgdodgofpapgaaDoor
open Go.RowKit Go.Lib

theorem ba_ext {a b : ByteArray} (h : a.toList = b.toList) : a = b := by rw [← mk_toList a, ← mk_toList b, h]
theorem art_ext {x y : Art} (h1 : x.id = y.id) (h2 : x.text.toList = y.text.toList) : x = y := by
  obtain ⟨i, t⟩ := x
  obtain ⟨j, u⟩ := y
  simp only at h1 h2
  rw [h1, ba_ext h2]
theorem edit_ext {x y : Edit} (h1 : x.kind = y.kind) (h2 : x.id = y.id) (h3 : x.old.toList = y.old.toList) (h4 : x.new.toList = y.new.toList) : x = y := by
  obtain ⟨k, i, t, u⟩ := x
  obtain ⟨l, j, t', u'⟩ := y
  simp only at h1 h2 h3 h4
  rw [h1, h2, ba_ext h3, ba_ext h4]
theorem equal_art (x y : Art) (r : Bool) (hr : r = true ↔ x = y) (w : World) : (Op.equalIn 10000 48 (.agg #[.int .i64 x.id, .string x.text]) (.agg #[.int .i64 y.id, .string y.text])).run Tryd.prog w = .ok r w := by
  have hS : Tryd.prog.underlying 48 = some (.struct (Tryd.prog.fieldsOf 48)) := by kernel_rfl
  have hp : Tryd.prog.stoodInHeld 48 = false := by kernel_rfl
  have u9 := Tryd.underlying9
  have u2 := Tryd.underlying2
  have a9 := Tryd.isAgg9
  have a2 := Tryd.isAgg2
  have z9 := Tryd.sizeOf9
  have z2 := Tryd.sizeOf2
  rw [show (10000 : Nat) = 9999 + 1 from rfl, run_equalIn_agg w 9999 48 _ _ hS hp]
  simp only [Program.fieldsOf, Tryd.underlying48]
  go_simp
  by_cases h1 : x.id = y.id <;> by_cases h2 : x.text.toList = y.text.toList
  · have : r = true := hr.2 (art_ext h1 h2)
    subst this
    simp [h1, h2]
  · have : r = false := by
      rw [Bool.eq_false_iff]
      intro e
      exact h2 (by rw [hr.1 e])
    subst this
    simp [h1, h2]
  · have : r = false := by
      rw [Bool.eq_false_iff]
      intro e
      exact h1 (by rw [hr.1 e])
    subst this
    simp [h1]
  · have : r = false := by
      rw [Bool.eq_false_iff]
      intro e
      exact h1 (by rw [hr.1 e])
    subst this
    simp [h1]
theorem equal_edit (x y : Edit) (r : Bool) (hr : r = true ↔ x = y) (w : World) : (Op.equalIn 10000 44 (.agg #[.int .i64 x.kind, .int .i64 x.id, .string x.old, .string x.new]) (.agg #[.int .i64 y.kind, .int .i64 y.id, .string y.old, .string y.new])).run Tryd.prog w = .ok r w := by
  have hS : Tryd.prog.underlying 44 = some (.struct (Tryd.prog.fieldsOf 44)) := by kernel_rfl
  have hp : Tryd.prog.stoodInHeld 44 = false := by kernel_rfl
  have u9 := Tryd.underlying9
  have u2 := Tryd.underlying2
  have a9 := Tryd.isAgg9
  have a2 := Tryd.isAgg2
  have z9 := Tryd.sizeOf9
  have z2 := Tryd.sizeOf2
  rw [show (10000 : Nat) = 9999 + 1 from rfl, run_equalIn_agg w 9999 44 _ _ hS hp]
  simp only [Program.fieldsOf, Tryd.underlying44]
  go_simp
  cases hrv : r with
  | true =>
    have := hr.1 hrv
    subst this
    simp
  | false =>
    by_cases h1 : x.kind = y.kind <;> by_cases h2 : x.id = y.id <;> by_cases h3 : x.old.toList = y.old.toList <;> by_cases h4 : x.new.toList = y.new.toList <;> first | (simp [h1, h2, h3, h4]; done) | skip
    exact absurd (hr.2 (edit_ext h1 h2 h3 h4)) (by rw [hrv]; simp)

def SameLoop {α : Type} (xs ys : List α) (w : World) (e : Ending) (w' : World) : Prop := ∃ r : Bool, e = .returned (.bool r) ∧ (r = true ↔ xs = ys) ∧ Below w.heap.size w w'
theorem take_same {α : Type} {xs ys : List α} {k : Nat} {x y : α} (hx : xs[k]? = some x) (hy : ys[k]? = some y) (h : xs.take k = ys.take k) (hxy : x = y) : xs.take (k + 1) = ys.take (k + 1) := by
  obtain ⟨h1, h1'⟩ := List.getElem?_eq_some_iff.1 hx
  obtain ⟨h2, h2'⟩ := List.getElem?_eq_some_iff.1 hy
  rw [List.take_succ_eq_append_getElem h1, List.take_succ_eq_append_getElem h2, h, h1', h2', hxy]

set_option maxHeartbeats 2000000 in
theorem sameArts_any (xs ys : List Art) (w : World) (v1 v2 : Value) (h1 : Arts w w.heap.size v1 xs) (h2 : Arts w w.heap.size v2 ys) :
    Calls Tryd.prog 10 #[v1, v2] w (SameLoop xs ys w) := by
  obtain ⟨A1, c1, rfl, hc1, hm1, hel1⟩ := h1
  obtain ⟨A2, c2, rfl, hc2, hm2, hel2⟩ := h2
  unfold maxLen at hm1 hm2
  have HEL1 := Lib.hid hel1
  have HEL2 := Lib.hid hel2
  clear hel1 hel2
  by_cases hl : xs.length = ys.length
  · have hle : ((xs.length : Int) == (ys.length : Int)) = true := by simp [hl]
    have hli : (xs.length : Int) ≤ 9223372036854775807 := by omega
    have hgu : Tryd.prog.eqGuardType Tryd.prog.depth 48 = false := by kernel_rfl
    go_enter Tryd.func10, Tryd.ntmps10
    go_wp2
    go_loopw [5] (fun i wr => ∃ k : Nat, k ≤ xs.length ∧ i = .int .i64 (k : Int) ∧ xs.take k = ys.take k ∧ Below w.heap.size w wr) (fun i _ => xs.length - (RowKit.intOf i).toNat)
    case atStart => exact ⟨0, Nat.zero_le _, rfl, rfl, Below.refl _ _⟩
    case round =>
      obtain ⟨k, hk, rfl, ht, hb⟩ := hrel
      have HT := Lib.hid ht
      clear ht
      by_cases hlt : k < xs.length
      · obtain ⟨b1, o1, rfl, hb1, hcell1⟩ := HEL1.out (by omega)
        obtain ⟨b2, o2, rfl, hb2, hcell2⟩ := HEL2.out (by omega)
        have g1 : xs[k]? = some xs[k] := List.getElem?_eq_getElem hlt
        have g2 : ys[k]? = some (ys[k]'(by omega)) := List.getElem?_eq_getElem (by omega)
        obtain ⟨d0, d1⟩ := arts_at hcell1 g1
        obtain ⟨e0, e1⟩ := arts_at hcell2 g2
        have x0 := (hb.cell (p := ⟨b1, o1 + k * 2, none⟩) hb1).trans d0
        have x1 := (hb.cell (p := ⟨b1, o1 + k * 2 + 1, none⟩) hb1).trans d1
        have y0 := (hb.cell (p := ⟨b2, o2 + k * 2, none⟩) hb2).trans e0
        have y1 := (hb.cell (p := ⟨b2, o2 + k * 2 + 1, none⟩) hb2).trans e1
        have G1 := Lib.hid g1
        have G2 := Lib.hid g2
        clear hcell1 hcell2 d0 d1 e0 e1 g1 g2
        have hk2 : (k : Int) < (ys.length : Int) := by omega
        generalize xs[k] = x at *
        generalize (ys[k]'(by omega)) = y at *
        go_upto_region 6 with (fail)
        have z0 := fun x : Aft wr => x.cell x0
        have z1 := fun x : Aft wr => x.cell x1
        have z2 := fun x : Aft wr => x.cell y0
        have z3 := fun x : Aft wr => x.cell y1
        clear x0 x1 y0 y1
        by_cases hxy : x = y
        · have heq := equal_art x y true (by simp [hxy])
          have HN := Lib.hid (take_same G1.out G2.out HT.out hxy)
          clear hxy
          refine wp_region_aft (by kernel_rfl) (by kernel_rfl) ?_
          repeat (go_big_quiet_step (fail))
          refine wpQuiet_nil ?_
          rintro _ ⟨y, rfl⟩
          have bY := hb.trans (y.ok.mono hb.size)
          go_wp2
          go_roundw
          case rel => exact ⟨k + 1, by omega, by go_num, HN.out, bY⟩
          case measure => simp [RowKit.intOf]; omega
        · have heq := equal_art x y false (by simp [hxy])
          have HN : Hid (xs ≠ ys) := Lib.hid (fun e => hxy (by
            have a := G1.out
            rw [e, G2.out] at a
            exact (Option.some.inj a).symm))
          clear hxy
          refine wp_region_aft (by kernel_rfl) (by kernel_rfl) ?_
          repeat (go_big_quiet_step (fail))
          refine wpQuiet_nil ?_
          rintro _ ⟨y, rfl⟩
          have bY := hb.trans (y.ok.mono hb.size)
          go_wp2
          go_ret
          exact ⟨false, rfl, by simp [HN.out], bY⟩
      · have hge : ¬ (k : Int) < (xs.length : Int) := by omega
        have HN : Hid (xs = ys) := Lib.hid (by
          have := HT.out
          rw [List.take_of_length_le (by omega), List.take_of_length_le (by omega)] at this
          exact this)
        clear hl hk hlt
        go_wp2
        go_ret
        exact ⟨true, rfl, by simp [HN.out], hb⟩
  · have hle : ((xs.length : Int) == (ys.length : Int)) = false := by simp; omega
    have HN : Hid (xs ≠ ys) := Lib.hid (fun e => hl (by rw [e]))
    clear hl hc1 hc2 hm1 hm2 HEL1 HEL2
    generalize xs.length = n1 at hle ⊢
    generalize ys.length = n2 at hle ⊢
    go_enter Tryd.func10, Tryd.ntmps10
    go_wp2
    go_ret
    exact ⟨false, rfl, by simp [HN.out], Below.refl _ _⟩

set_option maxHeartbeats 2000000 in
theorem sameEdits_any (xs ys : List Edit) (w : World) (v1 v2 : Value) (h1 : Edits w w.heap.size v1 xs) (h2 : Edits w w.heap.size v2 ys) :
    Calls Tryd.prog 11 #[v1, v2] w (SameLoop xs ys w) := by
  obtain ⟨A1, c1, rfl, hc1, hm1, hel1⟩ := h1
  obtain ⟨A2, c2, rfl, hc2, hm2, hel2⟩ := h2
  unfold maxLen at hm1 hm2
  have HEL1 := Lib.hid hel1
  have HEL2 := Lib.hid hel2
  clear hel1 hel2
  by_cases hl : xs.length = ys.length
  · have hle : ((xs.length : Int) == (ys.length : Int)) = true := by simp [hl]
    have hli : (xs.length : Int) ≤ 9223372036854775807 := by omega
    have hgu : Tryd.prog.eqGuardType Tryd.prog.depth 44 = false := by kernel_rfl
    go_enter Tryd.func11, Tryd.ntmps11
    go_wp2
    go_loopw [5] (fun i wr => ∃ k : Nat, k ≤ xs.length ∧ i = .int .i64 (k : Int) ∧ xs.take k = ys.take k ∧ Below w.heap.size w wr) (fun i _ => xs.length - (RowKit.intOf i).toNat)
    case atStart => exact ⟨0, Nat.zero_le _, rfl, rfl, Below.refl _ _⟩
    case round =>
      obtain ⟨k, hk, rfl, ht, hb⟩ := hrel
      have HT := Lib.hid ht
      clear ht
      by_cases hlt : k < xs.length
      · obtain ⟨b1, o1, rfl, hb1, hcell1⟩ := HEL1.out (by omega)
        obtain ⟨b2, o2, rfl, hb2, hcell2⟩ := HEL2.out (by omega)
        have g1 : xs[k]? = some xs[k] := List.getElem?_eq_getElem hlt
        have g2 : ys[k]? = some (ys[k]'(by omega)) := List.getElem?_eq_getElem (by omega)
        obtain ⟨d0, d1, d2, d3⟩ := edits_at hcell1 g1
        obtain ⟨e0, e1, e2, e3⟩ := edits_at hcell2 g2
        have z0 := fun x : Aft wr => x.cell ((hb.cell (p := ⟨b1, o1 + k * 4, none⟩) hb1).trans d0)
        have z1 := fun x : Aft wr => x.cell ((hb.cell (p := ⟨b1, o1 + k * 4 + 1, none⟩) hb1).trans d1)
        have z2 := fun x : Aft wr => x.cell ((hb.cell (p := ⟨b1, o1 + k * 4 + 2, none⟩) hb1).trans d2)
        have z3 := fun x : Aft wr => x.cell ((hb.cell (p := ⟨b1, o1 + k * 4 + 3, none⟩) hb1).trans d3)
        have u0 := fun x : Aft wr => x.cell ((hb.cell (p := ⟨b2, o2 + k * 4, none⟩) hb2).trans e0)
        have u1 := fun x : Aft wr => x.cell ((hb.cell (p := ⟨b2, o2 + k * 4 + 1, none⟩) hb2).trans e1)
        have u2 := fun x : Aft wr => x.cell ((hb.cell (p := ⟨b2, o2 + k * 4 + 2, none⟩) hb2).trans e2)
        have u3 := fun x : Aft wr => x.cell ((hb.cell (p := ⟨b2, o2 + k * 4 + 3, none⟩) hb2).trans e3)
        have G1 := Lib.hid g1
        have G2 := Lib.hid g2
        clear hcell1 hcell2 d0 d1 d2 d3 e0 e1 e2 e3 g1 g2
        have hk2 : (k : Int) < (ys.length : Int) := by omega
        generalize xs[k] = x at *
        generalize (ys[k]'(by omega)) = y at *
        go_upto_region 6 with (fail)
        by_cases hxy : x = y
        · have heq := equal_edit x y true (by simp [hxy])
          have HN := Lib.hid (take_same G1.out G2.out HT.out hxy)
          clear hxy
          refine wp_region_aft (by kernel_rfl) (by kernel_rfl) ?_
          repeat (go_big_quiet_step (fail))
          refine wpQuiet_nil ?_
          rintro _ ⟨y, rfl⟩
          have bY := hb.trans (y.ok.mono hb.size)
          go_wp2
          go_roundw
          case rel => exact ⟨k + 1, by omega, by go_num, HN.out, bY⟩
          case measure => simp [RowKit.intOf]; omega
        · have heq := equal_edit x y false (by simp [hxy])
          have HN : Hid (xs ≠ ys) := Lib.hid (fun e => hxy (by
            have a := G1.out
            rw [e, G2.out] at a
            exact (Option.some.inj a).symm))
          clear hxy
          refine wp_region_aft (by kernel_rfl) (by kernel_rfl) ?_
          repeat (go_big_quiet_step (fail))
          refine wpQuiet_nil ?_
          rintro _ ⟨y, rfl⟩
          have bY := hb.trans (y.ok.mono hb.size)
          go_wp2
          go_ret
          exact ⟨false, rfl, by simp [HN.out], bY⟩
      · have hge : ¬ (k : Int) < (xs.length : Int) := by omega
        have HN : Hid (xs = ys) := Lib.hid (by
          have := HT.out
          rw [List.take_of_length_le (by omega), List.take_of_length_le (by omega)] at this
          exact this)
        clear hl hk hlt
        go_wp2
        go_ret
        exact ⟨true, rfl, by simp [HN.out], hb⟩
  · have hle : ((xs.length : Int) == (ys.length : Int)) = false := by simp; omega
    have HN : Hid (xs ≠ ys) := Lib.hid (fun e => hl (by rw [e]))
    clear hl hc1 hc2 hm1 hm2 HEL1 HEL2
    generalize xs.length = n1 at hle ⊢
    generalize ys.length = n2 at hle ⊢
    go_enter Tryd.func11, Tryd.ntmps11
    go_wp2
    go_ret
    exact ⟨false, rfl, by simp [HN.out], Below.refl _ _⟩
end Go.Proofs.YtmgdodgofpapgaaDoor

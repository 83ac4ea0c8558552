/- Lists compared, walked. The edits between two statutes, the reference's, walked. slices.EqualFunc at lists, acts and motions; sameActs, sameMotions, walked. Acts and motions compared, walked. -/
import Derived.Test.YtmfgonddmodpmaaGreatQI
import Derived.Test.YtmfgonddmodpmaaGreatQD
namespace Go.Proofs.YtmfgonddmodpmaaGreat
open Go.RowKit Go.Lib

set_option maxRecDepth 100000 in
set_option maxHeartbeats 2000000 in
theorem same00_any (xs ys : List Int) (w : World) (v1 v2 : Value) (h1 : SlR (Pl intCells) 1 w w.heap.size v1 xs) (h2 : SlR (Pl intCells) 1 w w.heap.size v2 ys) :
    Calls Tryz.prog 101 #[v1, v2] w (SameLoop xs ys w) := by
  obtain ⟨A1, c1, rfl, hc1, hm1, hel1⟩ := h1
  obtain ⟨A2, c2, rfl, hc2, hm2, hel2⟩ := h2
  unfold maxLen at hm1 hm2
  have HEL1 := Lib.hid hel1
  have HEL2 := Lib.hid hel2
  clear hel1 hel2
  by_cases hl : xs.length = ys.length
  · have hle : ((xs.length : Int) == (ys.length : Int)) = true := by simp [hl]
    have hli : (xs.length : Int) ≤ 9223372036854775807 := by omega
    go_enter Tryz.func101, Tryz.ntmps101
    go_wp2
    go_loopw [5] (fun i wr => ∃ k : Nat, k ≤ xs.length ∧ i = .int .i64 (k : Int) ∧ xs.take k = ys.take k ∧ Below w.heap.size w wr) (fun i _ => xs.length - (RowKit.intOf i).toNat)
    case atStart => exact ⟨0, Nat.zero_le _, rfl, rfl, Below.refl _ _⟩
    case round =>
      obtain ⟨k, hk, rfl, ht, hb⟩ := hrel
      have HT := Lib.hid ht
      clear ht
      by_cases hlt : k < xs.length
      · obtain ⟨b1, o1, rfl, hb1, hcell1⟩ := HEL1.out (by omega)
        obtain ⟨b2, o2, rfl, hb2, hcell2⟩ := HEL2.out (by omega)
        have g1 : xs[k]? = some xs[k] := List.getElem?_eq_getElem hlt
        have g2 : ys[k]? = some (ys[k]'(by omega)) := List.getElem?_eq_getElem (by omega)
        have d0 := int_at hcell1 g1
        have e0 := int_at hcell2 g2
        have z0 := fun x : Aft wr => x.cell ((hb.cell (p := ⟨b1, o1 + k, none⟩) hb1).trans d0)
        have z1 := fun x : Aft wr => x.cell ((hb.cell (p := ⟨b2, o2 + k, none⟩) hb2).trans e0)
        have G1 := Lib.hid g1
        have G2 := Lib.hid g2
        clear hcell1 hcell2 d0 e0 g1 g2
        have hk2 : (k : Int) < (ys.length : Int) := by omega
        generalize xs[k] = x at *
        generalize (ys[k]'(by omega)) = y at *
        go_upto_region 6 with (fail)
        by_cases hxy : x = y
        · have heq : (x == y) = true := by simp [hxy]
          have HN := Lib.hid (take_same G1.out G2.out HT.out hxy)
          clear hxy
          refine wp_region_aft (by kernel_rfl) (by kernel_rfl) ?_
          repeat (go_big_quiet_step (fail))
          refine wpQuiet_nil ?_
          rintro _ ⟨y, rfl⟩
          have bY := hb.trans (y.ok.mono hb.size)
          go_wp2
          go_roundw
          case rel => exact ⟨k + 1, by omega, by go_num, HN.out, bY⟩
          case measure => simp [RowKit.intOf]; omega
        · have heq : (x == y) = false := by simp [hxy]
          have HN : Hid (xs ≠ ys) := Lib.hid (fun e => hxy (by
            have a := G1.out
            rw [e, G2.out] at a
            exact (Option.some.inj a).symm))
          clear hxy
          refine wp_region_aft (by kernel_rfl) (by kernel_rfl) ?_
          repeat (go_big_quiet_step (fail))
          refine wpQuiet_nil ?_
          rintro _ ⟨y, rfl⟩
          have bY := hb.trans (y.ok.mono hb.size)
          go_wp2
          go_ret
          exact ⟨false, rfl, by simp [HN.out], bY⟩
      · have hge : ¬ (k : Int) < (xs.length : Int) := by omega
        have HN : Hid (xs = ys) := Lib.hid (by
          have := HT.out
          rw [List.take_of_length_le (by omega), List.take_of_length_le (by omega)] at this
          exact this)
        clear hl hk hlt
        go_wp2
        go_ret
        exact ⟨true, rfl, by simp [HN.out], hb⟩
  · have hle : ((xs.length : Int) == (ys.length : Int)) = false := by simp; omega
    have HN : Hid (xs ≠ ys) := Lib.hid (fun e => hl (by rw [e]))
    clear hl hc1 hc2 hm1 hm2 HEL1 HEL2
    generalize xs.length = n1 at hle ⊢
    generalize ys.length = n2 at hle ⊢
    go_enter Tryz.func101, Tryz.ntmps101
    go_wp2
    go_ret
    exact ⟨false, rfl, by simp [HN.out], Below.refl _ _⟩

set_option maxRecDepth 100000 in
set_option maxHeartbeats 2000000 in
theorem patches_any (xs ys : List Edit) (w : World) (v1 v2 : Value) (h1 : Edits w w.heap.size v1 xs) (h2 : Edits w w.heap.size v2 ys) :
    Calls Tryz.prog 102 #[v1, v2] w (SameLoop xs ys w) := by
  obtain ⟨A1, c1, rfl, hc1, hm1, hel1⟩ := h1
  obtain ⟨A2, c2, rfl, hc2, hm2, hel2⟩ := h2
  unfold maxLen at hm1 hm2
  have HEL1 := Lib.hid hel1
  have HEL2 := Lib.hid hel2
  clear hel1 hel2
  by_cases hl : xs.length = ys.length
  · have hle : ((xs.length : Int) == (ys.length : Int)) = true := by simp [hl]
    have hli : (xs.length : Int) ≤ 9223372036854775807 := by omega
    have hgu : Tryz.prog.eqGuardType Tryz.prog.depth 130 = false := by kernel_rfl
    go_enter Tryz.func102, Tryz.ntmps102
    go_wp2
    go_loopw [5] (fun i wr => ∃ k : Nat, k ≤ xs.length ∧ i = .int .i64 (k : Int) ∧ xs.take k = ys.take k ∧ Below w.heap.size w wr) (fun i _ => xs.length - (RowKit.intOf i).toNat)
    case atStart => exact ⟨0, Nat.zero_le _, rfl, rfl, Below.refl _ _⟩
    case round =>
      obtain ⟨k, hk, rfl, ht, hb⟩ := hrel
      have HT := Lib.hid ht
      clear ht
      by_cases hlt : k < xs.length
      · obtain ⟨b1, o1, rfl, hb1, hcell1⟩ := HEL1.out (by omega)
        obtain ⟨b2, o2, rfl, hb2, hcell2⟩ := HEL2.out (by omega)
        have g1 : xs[k]? = some xs[k] := List.getElem?_eq_getElem hlt
        have g2 : ys[k]? = some (ys[k]'(by omega)) := List.getElem?_eq_getElem (by omega)
        obtain ⟨d0, d1, d2, d3⟩ := edits_at hcell1 g1
        obtain ⟨e0, e1, e2, e3⟩ := edits_at hcell2 g2
        have z0 := fun x : Aft wr => x.cell ((hb.cell (p := ⟨b1, o1 + k * 4, none⟩) hb1).trans d0)
        have z1 := fun x : Aft wr => x.cell ((hb.cell (p := ⟨b1, o1 + k * 4 + 1, none⟩) hb1).trans d1)
        have z2 := fun x : Aft wr => x.cell ((hb.cell (p := ⟨b1, o1 + k * 4 + 2, none⟩) hb1).trans d2)
        have z3 := fun x : Aft wr => x.cell ((hb.cell (p := ⟨b1, o1 + k * 4 + 3, none⟩) hb1).trans d3)
        have u0 := fun x : Aft wr => x.cell ((hb.cell (p := ⟨b2, o2 + k * 4, none⟩) hb2).trans e0)
        have u1 := fun x : Aft wr => x.cell ((hb.cell (p := ⟨b2, o2 + k * 4 + 1, none⟩) hb2).trans e1)
        have u2 := fun x : Aft wr => x.cell ((hb.cell (p := ⟨b2, o2 + k * 4 + 2, none⟩) hb2).trans e2)
        have u3 := fun x : Aft wr => x.cell ((hb.cell (p := ⟨b2, o2 + k * 4 + 3, none⟩) hb2).trans e3)
        have G1 := Lib.hid g1
        have G2 := Lib.hid g2
        clear hcell1 hcell2 d0 d1 d2 d3 e0 e1 e2 e3 g1 g2
        have hk2 : (k : Int) < (ys.length : Int) := by omega
        generalize xs[k] = x at *
        generalize (ys[k]'(by omega)) = y at *
        go_upto_region 6 with (fail)
        by_cases hxy : x = y
        · have heq := equal_edit x y true (by simp [hxy])
          have HN := Lib.hid (take_same G1.out G2.out HT.out hxy)
          clear hxy
          refine wp_region_aft (by kernel_rfl) (by kernel_rfl) ?_
          repeat (go_big_quiet_step (fail))
          refine wpQuiet_nil ?_
          rintro _ ⟨y, rfl⟩
          have bY := hb.trans (y.ok.mono hb.size)
          go_wp2
          go_roundw
          case rel => exact ⟨k + 1, by omega, by go_num, HN.out, bY⟩
          case measure => simp [RowKit.intOf]; omega
        · have heq := equal_edit x y false (by simp [hxy])
          have HN : Hid (xs ≠ ys) := Lib.hid (fun e => hxy (by
            have a := G1.out
            rw [e, G2.out] at a
            exact (Option.some.inj a).symm))
          clear hxy
          refine wp_region_aft (by kernel_rfl) (by kernel_rfl) ?_
          repeat (go_big_quiet_step (fail))
          refine wpQuiet_nil ?_
          rintro _ ⟨y, rfl⟩
          have bY := hb.trans (y.ok.mono hb.size)
          go_wp2
          go_ret
          exact ⟨false, rfl, by simp [HN.out], bY⟩
      · have hge : ¬ (k : Int) < (xs.length : Int) := by omega
        have HN : Hid (xs = ys) := Lib.hid (by
          have := HT.out
          rw [List.take_of_length_le (by omega), List.take_of_length_le (by omega)] at this
          exact this)
        clear hl hk hlt
        go_wp2
        go_ret
        exact ⟨true, rfl, by simp [HN.out], hb⟩
  · have hle : ((xs.length : Int) == (ys.length : Int)) = false := by simp; omega
    have HN : Hid (xs ≠ ys) := Lib.hid (fun e => hl (by rw [e]))
    clear hl hc1 hc2 hm1 hm2 HEL1 HEL2
    generalize xs.length = n1 at hle ⊢
    generalize ys.length = n2 at hle ⊢
    go_enter Tryz.func102, Tryz.ntmps102
    go_wp2
    go_ret
    exact ⟨false, rfl, by simp [HN.out], Below.refl _ _⟩

set_option maxRecDepth 100000 in
set_option maxHeartbeats 2000000 in
theorem equalI_any (xs ys : List Int) (w : World) (v1 v2 : Value) (h1 : SlR (Pl intCells) 1 w w.heap.size v1 xs) (h2 : SlR (Pl intCells) 1 w w.heap.size v2 ys) :
    Calls Tryz.prog 57 #[v1, v2] w (SameLoop xs ys w) := by
  obtain ⟨A1, c1, rfl, hc1, hm1, hel1⟩ := h1
  obtain ⟨A2, c2, rfl, hc2, hm2, hel2⟩ := h2
  unfold maxLen at hm1 hm2
  have HEL1 := Lib.hid hel1
  have HEL2 := Lib.hid hel2
  clear hel1 hel2
  by_cases hl : xs.length = ys.length
  · have hle : ((xs.length : Int) == (ys.length : Int)) = true := by simp [hl]
    have hli : (xs.length : Int) ≤ 9223372036854775807 := by omega
    go_enter Tryz.func57, Tryz.ntmps57
    go_wp2
    go_loopw [13] (fun i wr => ∃ k : Nat, k ≤ xs.length ∧ i = .int .i64 (k : Int) ∧ xs.take k = ys.take k ∧ Below w.heap.size w wr) (fun i _ => xs.length - (RowKit.intOf i).toNat)
    case atStart => exact ⟨0, Nat.zero_le _, rfl, rfl, Below.refl _ _⟩
    case round =>
      obtain ⟨k, hk, rfl, ht, hb⟩ := hrel
      have HT := Lib.hid ht
      clear ht
      by_cases hlt : k < xs.length
      · obtain ⟨b1, o1, rfl, hb1, hcell1⟩ := HEL1.out (by omega)
        obtain ⟨b2, o2, rfl, hb2, hcell2⟩ := HEL2.out (by omega)
        have g1 : xs[k]? = some xs[k] := List.getElem?_eq_getElem hlt
        have g2 : ys[k]? = some (ys[k]'(by omega)) := List.getElem?_eq_getElem (by omega)
        have d0 := int_at hcell1 g1
        have e0 := int_at hcell2 g2
        have z0 := fun x : Aft wr => x.cell ((hb.cell (p := ⟨b1, o1 + k, none⟩) hb1).trans d0)
        have z1 := fun x : Aft wr => x.cell ((hb.cell (p := ⟨b2, o2 + k, none⟩) hb2).trans e0)
        have G1 := Lib.hid g1
        have G2 := Lib.hid g2
        clear hcell1 hcell2 d0 e0 g1 g2
        have hk2 : (k : Int) < (ys.length : Int) := by omega
        generalize xs[k] = x at *
        generalize (ys[k]'(by omega)) = y at *
        go_upto_region 6 with (fail)
        by_cases hxy : x = y
        · have heq : (x == y) = true := by simp [hxy]
          have HN := Lib.hid (take_same G1.out G2.out HT.out hxy)
          clear hxy
          refine wp_region_aft (by kernel_rfl) (by kernel_rfl) ?_
          repeat (go_big_quiet_step (fail))
          refine wpQuiet_nil ?_
          rintro _ ⟨y, rfl⟩
          have bY := hb.trans (y.ok.mono hb.size)
          go_wp2
          go_roundw
          case rel => exact ⟨k + 1, by omega, by go_num, HN.out, bY⟩
          case measure => simp [RowKit.intOf]; omega
        · have heq : (x == y) = false := by simp [hxy]
          have HN : Hid (xs ≠ ys) := Lib.hid (fun e => hxy (by
            have a := G1.out
            rw [e, G2.out] at a
            exact (Option.some.inj a).symm))
          clear hxy
          refine wp_region_aft (by kernel_rfl) (by kernel_rfl) ?_
          repeat (go_big_quiet_step (fail))
          refine wpQuiet_nil ?_
          rintro _ ⟨y, rfl⟩
          have bY := hb.trans (y.ok.mono hb.size)
          go_wp2
          go_ret
          exact ⟨false, rfl, by simp [HN.out], bY⟩
      · have hge : ¬ (k : Int) < (xs.length : Int) := by omega
        have HN : Hid (xs = ys) := Lib.hid (by
          have := HT.out
          rw [List.take_of_length_le (by omega), List.take_of_length_le (by omega)] at this
          exact this)
        have hge2 : ¬ (k : Int) < (ys.length : Int) := by omega
        clear hl hk hlt
        go_wp2
        go_ret
        exact ⟨true, rfl, by simp [HN.out], hb⟩
  · have hle : ((xs.length : Int) == (ys.length : Int)) = false := by simp; omega
    have HN : Hid (xs ≠ ys) := Lib.hid (fun e => hl (by rw [e]))
    clear hl hc1 hc2 hm1 hm2 HEL1 HEL2
    generalize xs.length = n1 at hle ⊢
    generalize ys.length = n2 at hle ⊢
    go_enter Tryz.func57, Tryz.ntmps57
    go_wp2
    go_ret
    exact ⟨false, rfl, by simp [HN.out], Below.refl _ _⟩

set_option maxRecDepth 100000 in
set_option maxHeartbeats 2000000 in
theorem equalE_any (xs ys : List Edit) (w : World) (v1 v2 : Value) (h1 : Edits w w.heap.size v1 xs) (h2 : Edits w w.heap.size v2 ys) :
    Calls Tryz.prog 106 #[v1, v2] w (SameLoop xs ys w) := by
  obtain ⟨A1, c1, rfl, hc1, hm1, hel1⟩ := h1
  obtain ⟨A2, c2, rfl, hc2, hm2, hel2⟩ := h2
  unfold maxLen at hm1 hm2
  have HEL1 := Lib.hid hel1
  have HEL2 := Lib.hid hel2
  clear hel1 hel2
  by_cases hl : xs.length = ys.length
  · have hle : ((xs.length : Int) == (ys.length : Int)) = true := by simp [hl]
    have hli : (xs.length : Int) ≤ 9223372036854775807 := by omega
    have hgu : Tryz.prog.eqGuardType Tryz.prog.depth 130 = false := by kernel_rfl
    go_enter Tryz.func106, Tryz.ntmps106
    go_wp2
    go_loopw [13] (fun i wr => ∃ k : Nat, k ≤ xs.length ∧ i = .int .i64 (k : Int) ∧ xs.take k = ys.take k ∧ Below w.heap.size w wr) (fun i _ => xs.length - (RowKit.intOf i).toNat)
    case atStart => exact ⟨0, Nat.zero_le _, rfl, rfl, Below.refl _ _⟩
    case round =>
      obtain ⟨k, hk, rfl, ht, hb⟩ := hrel
      have HT := Lib.hid ht
      clear ht
      by_cases hlt : k < xs.length
      · obtain ⟨b1, o1, rfl, hb1, hcell1⟩ := HEL1.out (by omega)
        obtain ⟨b2, o2, rfl, hb2, hcell2⟩ := HEL2.out (by omega)
        have g1 : xs[k]? = some xs[k] := List.getElem?_eq_getElem hlt
        have g2 : ys[k]? = some (ys[k]'(by omega)) := List.getElem?_eq_getElem (by omega)
        obtain ⟨d0, d1, d2, d3⟩ := edits_at hcell1 g1
        obtain ⟨e0, e1, e2, e3⟩ := edits_at hcell2 g2
        have z0 := fun x : Aft wr => x.cell ((hb.cell (p := ⟨b1, o1 + k * 4, none⟩) hb1).trans d0)
        have z1 := fun x : Aft wr => x.cell ((hb.cell (p := ⟨b1, o1 + k * 4 + 1, none⟩) hb1).trans d1)
        have z2 := fun x : Aft wr => x.cell ((hb.cell (p := ⟨b1, o1 + k * 4 + 2, none⟩) hb1).trans d2)
        have z3 := fun x : Aft wr => x.cell ((hb.cell (p := ⟨b1, o1 + k * 4 + 3, none⟩) hb1).trans d3)
        have u0 := fun x : Aft wr => x.cell ((hb.cell (p := ⟨b2, o2 + k * 4, none⟩) hb2).trans e0)
        have u1 := fun x : Aft wr => x.cell ((hb.cell (p := ⟨b2, o2 + k * 4 + 1, none⟩) hb2).trans e1)
        have u2 := fun x : Aft wr => x.cell ((hb.cell (p := ⟨b2, o2 + k * 4 + 2, none⟩) hb2).trans e2)
        have u3 := fun x : Aft wr => x.cell ((hb.cell (p := ⟨b2, o2 + k * 4 + 3, none⟩) hb2).trans e3)
        have G1 := Lib.hid g1
        have G2 := Lib.hid g2
        clear hcell1 hcell2 d0 d1 d2 d3 e0 e1 e2 e3 g1 g2
        have hk2 : (k : Int) < (ys.length : Int) := by omega
        generalize xs[k] = x at *
        generalize (ys[k]'(by omega)) = y at *
        go_upto_region 6 with (fail)
        by_cases hxy : x = y
        · have heq := equal_edit x y true (by simp [hxy])
          have HN := Lib.hid (take_same G1.out G2.out HT.out hxy)
          clear hxy
          refine wp_region_aft (by kernel_rfl) (by kernel_rfl) ?_
          repeat (go_big_quiet_step (fail))
          refine wpQuiet_nil ?_
          rintro _ ⟨y, rfl⟩
          have bY := hb.trans (y.ok.mono hb.size)
          go_wp2
          go_roundw
          case rel => exact ⟨k + 1, by omega, by go_num, HN.out, bY⟩
          case measure => simp [RowKit.intOf]; omega
        · have heq := equal_edit x y false (by simp [hxy])
          have HN : Hid (xs ≠ ys) := Lib.hid (fun e => hxy (by
            have a := G1.out
            rw [e, G2.out] at a
            exact (Option.some.inj a).symm))
          clear hxy
          refine wp_region_aft (by kernel_rfl) (by kernel_rfl) ?_
          repeat (go_big_quiet_step (fail))
          refine wpQuiet_nil ?_
          rintro _ ⟨y, rfl⟩
          have bY := hb.trans (y.ok.mono hb.size)
          go_wp2
          go_ret
          exact ⟨false, rfl, by simp [HN.out], bY⟩
      · have hge : ¬ (k : Int) < (xs.length : Int) := by omega
        have HN : Hid (xs = ys) := Lib.hid (by
          have := HT.out
          rw [List.take_of_length_le (by omega), List.take_of_length_le (by omega)] at this
          exact this)
        have hge2 : ¬ (k : Int) < (ys.length : Int) := by omega
        clear hl hk hlt
        go_wp2
        go_ret
        exact ⟨true, rfl, by simp [HN.out], hb⟩
  · have hle : ((xs.length : Int) == (ys.length : Int)) = false := by simp; omega
    have HN : Hid (xs ≠ ys) := Lib.hid (fun e => hl (by rw [e]))
    clear hl hc1 hc2 hm1 hm2 HEL1 HEL2
    generalize xs.length = n1 at hle ⊢
    generalize ys.length = n2 at hle ⊢
    go_enter Tryz.func106, Tryz.ntmps106
    go_wp2
    go_ret
    exact ⟨false, rfl, by simp [HN.out], Below.refl _ _⟩

theorem same_val {α : Type} {f : FuncId} {args : Array Value} {w : World} {xs ys : List α} {r : Bool} (h : Calls Tryz.prog f args w (SameLoop xs ys w)) (hr : r = true ↔ xs = ys) : Calls Tryz.prog f args w (RetB (.bool r) w) :=
  h.mono fun e w' ⟨r', he, hr', hb⟩ => by
    have : r' = r := by
      cases r <;> cases r' <;> simp_all
    subst this
    exact ⟨he, hb⟩
end Go.Proofs.YtmfgonddmodpmaaGreat

namespace Go.Proofs.YtmfgonddmodpmaaGreat
open Go.RowKit Go.Lib

def diffAt (S R : List Art) (i : Int) : Edit := stepE i (findA S i) (findA R i)
def diffK (S R : List Art) (n : Nat) : List Edit :=
  (List.range n).filterMap (fun j : Nat => if (diffAt S R ((j : Int) + 1)).kind = 0 then none else some (diffAt S R ((j : Int) + 1)))
theorem diffK_no {S R : List Art} {n : Nat} (h : (diffAt S R ((n : Int) + 1)).kind = 0) : diffK S R (n + 1) = diffK S R n := by
  unfold diffK
  rw [List.range_succ, List.filterMap_append]
  simp [h]
theorem diffK_yes {S R : List Art} {n : Nat} (h : (diffAt S R ((n : Int) + 1)).kind ≠ 0) : diffK S R (n + 1) = diffK S R n ++ [diffAt S R ((n : Int) + 1)] := by
  unfold diffK
  rw [List.range_succ, List.filterMap_append]
  simp [h]
theorem diffK_len (S R : List Art) (n : Nat) : (diffK S R n).length ≤ n := by
  unfold diffK
  exact Nat.le_trans (List.length_filterMap_le _ _) (by simp)
theorem stepE_0 {i : Int} {o n : ByteArray} : (stepE i o n).kind = 0 ↔ o = n := by
  constructor
  · intro h
    by_cases h1 : o.toList = n.toList
    · rw [← mk_toList o, h1, mk_toList]
    · by_cases h2 : o.toList = []
      · rw [stepE_2 h1 h2] at h; cases h
      · by_cases h3 : n.toList = []
        · rw [stepE_3 h1 h2 h3] at h; cases h
        · rw [stepE_4 h1 h2 h3] at h; cases h
  · rintro rfl
    rw [stepE_1 rfl]
    rfl
theorem find_far {S : List Art} (h : okStat S = true) {i : Int} (hi : ¬ (1 ≤ i ∧ i ≤ 99)) : findA S i = ⟨#[]⟩ := by
  rcases findA_cases S i with ⟨a, hm, he, _⟩ | ⟨hn, _⟩
  · have := ((okStat_iff S).1 h).1 a hm
    unfold okArt at this
    rw [Bool.and_eq_true] at this
    have := inB_iff.1 this.1
    omega
  · exact hn
theorem diff_none {S R : List Art} (hS : okStat S = true) (hR : okStat R = true) : diffK S R 99 = [] ↔ S = R := by
  constructor
  · intro h
    refine GoodA.ext (GoodA.of hS) (GoodA.of hR) fun i => ?_
    by_cases hi : 1 ≤ i ∧ i ≤ 99
    · apply Classical.byContradiction
      intro hne
      have hk : (diffAt S R i).kind ≠ 0 := fun h0 => hne (stepE_0.1 h0)
      have e1 : (((i - 1).toNat : Nat) : Int) + 1 = i := by omega
      have : diffAt S R i ∈ diffK S R 99 := by
        unfold diffK
        rw [List.mem_filterMap]
        exact ⟨(i - 1).toNat, List.mem_range.2 (by omega), by rw [e1, if_neg hk]⟩
      rw [h] at this
      cases this
    · rw [find_far hS hi, find_far hR hi]
  · rintro rfl
    unfold diffK
    rw [List.filterMap_eq_nil_iff]
    intro j _
    have : (diffAt S S ((j : Int) + 1)).kind = 0 := stepE_0.2 rfl
    rw [if_pos this]

def DiffPost (S R : List Art) (w : World) (e : Ending) (w' : World) : Prop :=
  ∃ g cap, e = .returned (.slice (some ⟨g, 0, none⟩) (diffK S R 99).length cap) ∧ Below w.heap.size w w'
set_option maxRecDepth 100000 in
set_option maxHeartbeats 4000000 in
theorem diff1_any (S R : List Art) (w : World) (vs vr : Value) (hS : Arts w w.heap.size vs S) (hR : Arts w w.heap.size vr R) :
    Calls Tryz.prog 100 #[vs, vr] w (DiffPost S R w) := by
  have HS := Lib.hid (fun w' (hb : Below w.heap.size w w') (q : Int) => find1_any S q w' vs (SlR.on hS (Pl.stays _) hb hb.size))
  have HR := Lib.hid (fun w' (hb : Below w.heap.size w w') (q : Int) => find1_any R q w' vr (SlR.on hR (Pl.stays _) hb hb.size))
  have bW := (Below.refl w.heap.size w).alloc (Nat.le_refl _) (.cells #[] 130)
  have HB0 := Lib.hid bW
  have hown0 : (w.alloc (.cells #[] 130)).ownsRow w.heap.size 130 4 (.slice (some ⟨w.heap.size, 0, none⟩) 0 0) 0 [] := by simpa using World.ownsRow_made w #[] 0 (Nat.le_refl _) (Nat.zero_le _) rfl
  have HOWN0 := Lib.hid hown0
  obtain ⟨A, c, rfl, _⟩ := hS
  obtain ⟨A2, c2, rfl, _⟩ := hR
  obtain ⟨i0, hi, hz0, hz1, hz2⟩ := info_parts Tryz.infoE
  clear bW hown0
  go_enter Tryz.func100, Tryz.ntmps100
  go_wp2
  go_loopw [5, 6] (fun o i wr => ∃ (j : Nat), i = .int .i64 ((j : Int) + 1) ∧ j ≤ 99 ∧ wr.ownsRow w.heap.size 130 4 o (diffK S R j).length ((diffK S R j).flatMap editCells) ∧ o ≠ .slice none 0 0 ∧ Below w.heap.size w wr) (fun _ i _ => 100 - (RowKit.intOf i).toNat)
  case atStart => exact ⟨0, rfl, Nat.zero_le _, HOWN0.out, by simp, HB0.out⟩
  case round =>
    obtain ⟨j, rfl, hj, hown, hnn, hb⟩ := hrel
    obtain ⟨g, cap, rfl, hdc, hcm⟩ := own_some hown hnn
    unfold maxLen at hcm
    have HOWN := Lib.hid hown
    have HB := Lib.hid hb
    have hkl := diffK_len S R j
    clear hown hnn hb
    by_cases hlt : j < 99
    · have hc : (j : Int) + 1 ≤ 99 := by omega
      have HF := Lib.hid (HS.out wr HB.out ((j : Int) + 1))
      have HD : Hid (diffAt S R ((j : Int) + 1) = stepE ((j : Int) + 1) (findA S ((j : Int) + 1)) (findA R ((j : Int) + 1))) := Lib.hid rfl
      have HNO := Lib.hid (fun h => diffK_no (S := S) (R := R) (n := j) h)
      have HYES := Lib.hid (fun h => diffK_yes (S := S) (R := R) (n := j) h)
      go_wp2_with (fail)
      refine (HF.out).mono ?_
      rintro e' w1 ⟨rfl, m, rfl⟩
      have HB1 := Lib.hid (below_drewN HB.out m)
      have HG := Lib.hid (HR.out _ HB1.out ((j : Int) + 1))
      have HOWN1 := Lib.hid (own_below HOWN.out (below_drewN (Below.refl wr.heap.size wr) m))
      generalize findA S ((j : Int) + 1) = F at *
      generalize findA R ((j : Int) + 1) = G at *
      clear HF
      generalize wr.drewN m = w1 at *
      go_wp2_with (fail)
      refine (HG.out).mono ?_
      rintro e' w2 ⟨rfl, m2, rfl⟩
      have HB2 := Lib.hid (below_drewN HB1.out m2)
      have HOWN2 := Lib.hid (own_below HOWN1.out (below_drewN (Below.refl w1.heap.size w1) m2))
      clear HG
      generalize w1.drewN m2 = w2 at *
      go_wp2_with (fail)
      refine (step1_any _ _ _ _).mono ?_
      rintro e' w3 ⟨rfl, hb3⟩
      have HB3 := Lib.hid (HB2.out.trans (hb3.mono HB2.out.size))
      have HOWN3 := Lib.hid (own_below HOWN2.out hb3)
      rw [← HD.out]
      clear hb3 HD
      generalize diffAt S R ((j : Int) + 1) = e at *
      generalize diffK S R j = Z at *
      unfold editV
      by_cases hk0 : e.kind = 0
      · have e0 : (e.kind != 0) = false := by simp [hk0]
        replace HNO := Lib.hid (HNO.out hk0)
        clear HYES hk0
        go_wp2
        go_roundw
        case rel => exact ⟨j + 1, by go_num, by omega, by rw [HNO.out]; exact HOWN3.out.alloc _, by simp, HB3.out.alloc HB3.out.size _⟩
        case measure => simp [RowKit.intOf]; omega
      · have e0 : (e.kind != 0) = true := by simp [hk0]
        replace HYES := Lib.hid (HYES.out hk0)
        clear HNO hk0
        have hg2 := (HOWN3.out.lt g rfl).2
        go_wp2_with (at_builtin; refine wpList_append_own _ rfl _ _ 64 rfl w.heap.size 130 i0 (.agg #[.int .i64 0, .int .i64 0, .string ⟨#[]⟩, .string ⟨#[]⟩]) 4 48 Tryz.underlying64 hi hz0 hz1 hz2 rfl (by decide) _ _ _ rfl ((HOWN3.out.alloc _).alloc _) ⟨w3.heap.size + 1, 0, none⟩ 1 1 (editCells e) rfl rfl (fun j u hj => new_at2 hj) (fun u hu => edit_one hu) ?c3 ?c4 (base_le (base_le HB3.out.size)) ?_)
        case c3 => unfold maxLen; omega
        case c4 => omega
        · intro v' w9 hown' hgrow hiff
          have hnn' : v' ≠ .slice none 0 0 := by simpa using hiff
          have hb9 := ((HB3.out.alloc HB3.out.size (.cells #[.int .i64 e.kind, .int .i64 e.id, .string e.old, .string e.new] 130)).alloc (base_le HB3.out.size) (.cells #[.int .i64 e.kind, .int .i64 e.id, .string e.old, .string e.new] 130)).grown hgrow (base_le (base_le HB3.out.size)) (fun j hj => (HOWN3.out.lt j hj).1)
          clear hgrow hiff
          go_wp2
          go_roundw
          case rel => exact ⟨j + 1, by go_num, by omega, by rw [HYES.out, List.flatMap_append, List.length_append]; simpa using hown', hnn', hb9⟩
          case measure => simp [RowKit.intOf]; omega
    · have hc : ¬ (j : Int) + 1 ≤ 99 := by omega
      have hE : diffK S R j = diffK S R 99 := by rw [show j = 99 from by omega]
      have HE := Lib.hid hE
      generalize diffK S R j = Z at *
      clear hlt hE
      go_wp2
      go_ret
      exact ⟨g, cap, by rw [← HE.out]; rfl, HB.out⟩
end Go.Proofs.YtmfgonddmodpmaaGreat

namespace Go.Proofs.YtmfgonddmodpmaaGreat
open Go.RowKit Go.Lib

def SameV {α : Type} (x y : α) (w : World) (e : Ending) (w' : World) : Prop := ∃ r : Bool, e = .returned (.bool r) ∧ (r = true ↔ x = y) ∧ Below w.heap.size w w'
theorem sameV_val {α : Type} {f : FuncId} {args : Array Value} {w : World} {x y : α} {r : Bool} (h : Calls Tryz.prog f args w (SameV x y w)) (hr : r = true ↔ x = y) : Calls Tryz.prog f args w (RetB (.bool r) w) :=
  h.mono fun e w' ⟨r', he, hr', hb⟩ => by
    have : r' = r := by
      cases r <;> cases r' <;> simp_all
    subst this
    exact ⟨he, hb⟩
theorem SameV.loop {α : Type} {f : FuncId} {args : Array Value} {w : World} {x y : List α} (h : Calls Tryz.prog f args w (SameLoop x y w)) : Calls Tryz.prog f args w (SameV x y w) :=
  h.mono fun _ _ ⟨r, he, hr, hb⟩ => ⟨r, he, hr, hb⟩
theorem not_same {α : Type} {xs ys : List α} {k : Nat} {x y : α} (hx : xs[k]? = some x) (hy : ys[k]? = some y) (h : x ≠ y) : xs ≠ ys := fun e => h (by
  rw [e, hy] at hx
  exact (Option.some.inj hx).symm)

def EqI (g : Nat) (w : World) : Prop :=
  ∀ (W : World) (p q : List Int) (B1 : Option Addr) (d1 : Nat) (B2 : Option Addr) (d2 : Nat), Below w.heap.size w W → Ints W W.heap.size (.slice B1 p.length d1) p → Ints W W.heap.size (.slice B2 q.length d2) q → Calls Tryz.prog g #[.slice B1 p.length d1, .slice B2 q.length d2] W (SameV p q W)
set_option maxRecDepth 100000 in
set_option maxHeartbeats 4000000 in
theorem eqFuncI_any (L R : List (List Int)) (v1 v2 : Value) (w : World) (h1 : RowsR w w.heap.size v1 L) (h2 : RowsR w w.heap.size v2 R) (g : Nat) (hp : EqI g w) (eg : ∀ args w, (callFunc g args).run Tryz.prog w = .ok (.enter g args) w) :
    Calls Tryz.prog 55 #[v1, v2, .func (.func g) #[] #[]] w (SameLoop L R w) := by
  obtain ⟨A1, c1, rfl, _, m1, g1⟩ := rows_at h1
  obtain ⟨A2, c2, rfl, _, m2, g2⟩ := rows_at h2
  have H1 := Lib.hid g1
  have H2 := Lib.hid g2
  have HP := Lib.hid hp
  unfold maxLen at m1 m2
  have hlm : L.length ≤ 9223372036854775807 := by omega
  clear h1 h2 g1 g2 hp
  by_cases hl : L.length = R.length
  · rw [← hl]
    have HL := Lib.hid hl
    clear hl
    go_enter Tryz.func55, Tryz.ntmps55
    go_wp2
    go_loopw [7, 8, 9, 17] (fun _ _ _ i wr => ∃ (k : Nat) (x : Aft w), k ≤ L.length ∧ i = .int .i64 (k : Int) ∧ L.take k = R.take k ∧ wr = x.val) (fun _ _ _ i _ => L.length - (RowKit.intOf i).toNat)
    case atStart => exact ⟨0, ⟨w, Below.refl _ _⟩, Nat.zero_le _, rfl, rfl, rfl⟩
    case round =>
      obtain ⟨k, x, hk, rfl, ht, rfl⟩ := hrel
      have HT := Lib.hid ht
      clear ht
      by_cases hlt : k < L.length
      · have hlt2 : k < R.length := by rw [← HL.out]; exact hlt
        have E1 := Lib.hid (List.getElem?_eq_getElem hlt)
        have E2 := Lib.hid (List.getElem?_eq_getElem hlt2)
        obtain ⟨b1, o1, rfl, hb1, hc1⟩ := H1.out (by omega)
        obtain ⟨b2, o2, rfl, hb2, hc2⟩ := H2.out (by omega)
        obtain ⟨B1, d1, c0, _, hI⟩ := hc1 k _ (List.getElem?_eq_getElem hlt)
        obtain ⟨B2, d2, c3, _, hJ⟩ := hc2 k _ (List.getElem?_eq_getElem hlt2)
        have z0 := x.cell c0
        have z1 := x.cell c3
        have HC0 := Lib.hid (fun W (hW : Below w.heap.size w W) => HP.out W L[k] R[k] B1 d1 B2 d2 hW (SlR.on hI (Pl.stays _) hW hW.size) (SlR.on hJ (Pl.stays _) hW hW.size))
        clear c0 c3 hc1 hc2 hI hJ
        by_cases hxy : L[k] = R[k]
        · have HN := Lib.hid (take_same E1.out E2.out HT.out hxy)
          have HC := Lib.hid (fun W hW => sameV_val (r := true) (HC0.out W hW) (by simp [hxy]))
          clear hxy E1 E2 HC0
          generalize L[k] = p at *
          generalize R[k] = q at *
          go_wp2_with (go_at_fn g; refine (HC.out _ x.ok).mono ?_; rintro e' w9 ⟨rfl, hb9⟩)
          go_roundw
          case rel => exact ⟨k + 1, ⟨_, (Below.trans x.ok (hb9.mono (Below.size x.ok)))⟩, by omega, by go_num, HN.out, rfl⟩
          case measure => simp [RowKit.intOf]; omega
        · have HN := Lib.hid (not_same E1.out E2.out hxy)
          have HC := Lib.hid (fun W hW => sameV_val (r := false) (HC0.out W hW) (by simp [hxy]))
          clear hxy E1 E2 HC0
          generalize L[k] = p at *
          generalize R[k] = q at *
          go_wp2_with (go_at_fn g; refine (HC.out _ x.ok).mono ?_; rintro e' w9 ⟨rfl, hb9⟩)
          go_ret
          exact ⟨false, rfl, by simp [HN.out], Below.trans x.ok (hb9.mono (Below.size x.ok))⟩
      · have hge : ¬ (k : Int) < (L.length : Int) := by omega
        have HN : Hid (L = R) := Lib.hid (by
          have := HT.out
          rw [List.take_of_length_le (by omega), List.take_of_length_le (by rw [← HL.out]; omega)] at this
          exact this)
        clear hlt hk
        go_wp2
        go_ret
        exact ⟨true, rfl, by simp [HN.out], x.ok⟩
  · have hle : ((L.length : Int) == (R.length : Int)) = false := by simp; omega
    have HN : Hid (L ≠ R) := Lib.hid (fun e => hl (by rw [e]))
    clear hl
    generalize L.length = n1 at hle ⊢
    generalize R.length = n2 at hle ⊢
    go_enter Tryz.func55, Tryz.ntmps55
    go_wp2
    go_ret
    exact ⟨false, rfl, by simp [HN.out], Below.refl _ _⟩
def actV (p : Acta) (B : Option Addr) (d : Nat) : Value := .agg #[.int .i64 p.beg, .int .i64 p.fin, .slice B p.pat.length d]
def motV (m : Mot) (A1 : Option Addr) (c1 : Nat) (A2 : Option Addr) (c2 : Nat) : Value := .agg #[.string m.title, .int .i64 m.author, .slice A1 m.pat.length c1, .int .i64 m.beg, .int .i64 m.fin, .int .i64 m.closes, .slice A2 m.votes.length c2, .int .i64 m.result]
def EqA (g : Nat) (w : World) : Prop :=
  ∀ (W : World) (p q : Acta) (B1 : Option Addr) (d1 : Nat) (B2 : Option Addr) (d2 : Nat), Below w.heap.size w W → Edits W W.heap.size (.slice B1 p.pat.length d1) p.pat → Edits W W.heap.size (.slice B2 q.pat.length d2) q.pat → Calls Tryz.prog g #[actV p B1 d1, actV q B2 d2] W (SameV p q W)
def EqM (g : Nat) (w : World) : Prop :=
  ∀ (W : World) (p q : Mot) (A1 : Option Addr) (c1 : Nat) (A2 : Option Addr) (c2 : Nat) (A3 : Option Addr) (c3 : Nat) (A4 : Option Addr) (c4 : Nat), Below w.heap.size w W → Edits W W.heap.size (.slice A1 p.pat.length c1) p.pat → Ints W W.heap.size (.slice A2 p.votes.length c2) p.votes → Edits W W.heap.size (.slice A3 q.pat.length c3) q.pat → Ints W W.heap.size (.slice A4 q.votes.length c4) q.votes → Calls Tryz.prog g #[motV p A1 c1 A2 c2, motV q A3 c3 A4 c4] W (SameV p q W)
theorem keepB {w : World} (x : Aft w) {b o : Nat} {v : Value} (h : x.val.cell? ⟨b, o, none⟩ = some v) (ob : Obj) : (x.val.alloc ob).cell? ⟨b, o, none⟩ = some v :=
  (((Below.refl x.val.heap.size x.val).alloc (Nat.le_refl _) ob).cell (p := ⟨b, o, none⟩) (World.block_lt_of_cell? x.val ⟨b, o, none⟩ h)).trans h
set_option maxRecDepth 100000 in
set_option maxHeartbeats 4000000 in
theorem eqFuncA_any (L R : List Acta) (v1 v2 : Value) (w : World) (h1 : Acts w w.heap.size v1 L) (h2 : Acts w w.heap.size v2 R) (g : Nat) (hp : EqA g w) (eg : ∀ args w, (callFunc g args).run Tryz.prog w = .ok (.enter g args) w) :
    Calls Tryz.prog 104 #[v1, v2, .func (.func g) #[] #[]] w (SameLoop L R w) := by
  obtain ⟨A1, c1, rfl, _, m1, g1⟩ := acts_at h1
  obtain ⟨A2, c2, rfl, _, m2, g2⟩ := acts_at h2
  have H1 := Lib.hid g1
  have H2 := Lib.hid g2
  have HP := Lib.hid hp
  unfold maxLen at m1 m2
  have hlm : L.length ≤ 9223372036854775807 := by omega
  clear h1 h2 g1 g2 hp
  by_cases hl : L.length = R.length
  · rw [← hl]
    have HL := Lib.hid hl
    clear hl
    go_enter Tryz.func104, Tryz.ntmps104
    go_wp2
    go_loopw [7, 8, 9, 17] (fun _ _ _ i wr => ∃ (k : Nat) (x : Aft w), k ≤ L.length ∧ i = .int .i64 (k : Int) ∧ L.take k = R.take k ∧ wr = x.val) (fun _ _ _ i _ => L.length - (RowKit.intOf i).toNat)
    case atStart => exact ⟨0, ⟨w, Below.refl _ _⟩, Nat.zero_le _, rfl, rfl, rfl⟩
    case round =>
      obtain ⟨k, x, hk, rfl, ht, rfl⟩ := hrel
      have HT := Lib.hid ht
      clear ht
      by_cases hlt : k < L.length
      · have hlt2 : k < R.length := by rw [← HL.out]; exact hlt
        have E1 := Lib.hid (List.getElem?_eq_getElem hlt)
        have E2 := Lib.hid (List.getElem?_eq_getElem hlt2)
        obtain ⟨b1, o1, rfl, hb1, hc1⟩ := H1.out (by omega)
        obtain ⟨b2, o2, rfl, hb2, hc2⟩ := H2.out (by omega)
        obtain ⟨pv, c0, c1', c2', hI⟩ := hc1 k _ (List.getElem?_eq_getElem hlt)
        obtain ⟨qv, d0, d1, d2, hJ⟩ := hc2 k _ (List.getElem?_eq_getElem hlt2)
        obtain ⟨B1, e1, rfl, _, _⟩ := Edits.sl hI
        obtain ⟨B2, e2, rfl, _, _⟩ := Edits.sl hJ
        have z0 := x.cell c0
        have z1 := x.cell c1'
        have z2 := x.cell c2'
        have t0 := keepB x (x.cell d0)
        have t1 := keepB x (x.cell d1)
        have t2 := keepB x (x.cell d2)
        have HBL : Hid (∀ o p, Below w.heap.size w ((x.val.alloc o).alloc p)) := Lib.hid (fun o p => (x.ok.alloc x.ok.size o).alloc (base_le x.ok.size) p)
        have HC0 := Lib.hid (fun W (hW : Below w.heap.size w W) => HP.out W L[k] R[k] B1 e1 B2 e2 hW (SlR.on hI (Pl.stays _) hW hW.size) (SlR.on hJ (Pl.stays _) hW hW.size))
        unfold actV at HC0
        clear c0 c1' c2' d0 d1 d2 hc1 hc2 hI hJ
        by_cases hxy : L[k] = R[k]
        · have HN := Lib.hid (take_same E1.out E2.out HT.out hxy)
          have HC := Lib.hid (fun W hW => sameV_val (r := true) (HC0.out W hW) (by simp [hxy]))
          clear hxy E1 E2 HC0
          generalize L[k] = p at *
          generalize R[k] = q at *
          go_wp2_with (go_at_fn g; refine (HC.out _ (HBL.out _ _)).mono ?_; rintro e' w9 ⟨rfl, hb9⟩)
          go_roundw
          case rel => exact ⟨k + 1, ⟨_, (Below.trans (HBL.out _ _) (hb9.mono (Below.size (HBL.out _ _))))⟩, by omega, by go_num, HN.out, rfl⟩
          case measure => simp [RowKit.intOf]; omega
        · have HN := Lib.hid (not_same E1.out E2.out hxy)
          have HC := Lib.hid (fun W hW => sameV_val (r := false) (HC0.out W hW) (by simp [hxy]))
          clear hxy E1 E2 HC0
          generalize L[k] = p at *
          generalize R[k] = q at *
          go_wp2_with (go_at_fn g; refine (HC.out _ (HBL.out _ _)).mono ?_; rintro e' w9 ⟨rfl, hb9⟩)
          go_ret
          exact ⟨false, rfl, by simp [HN.out], Below.trans (HBL.out _ _) (hb9.mono (Below.size (HBL.out _ _)))⟩
      · have hge : ¬ (k : Int) < (L.length : Int) := by omega
        have HN : Hid (L = R) := Lib.hid (by
          have := HT.out
          rw [List.take_of_length_le (by omega), List.take_of_length_le (by rw [← HL.out]; omega)] at this
          exact this)
        clear hlt hk
        go_wp2
        go_ret
        exact ⟨true, rfl, by simp [HN.out], x.ok⟩
  · have hle : ((L.length : Int) == (R.length : Int)) = false := by simp; omega
    have HN : Hid (L ≠ R) := Lib.hid (fun e => hl (by rw [e]))
    clear hl
    generalize L.length = n1 at hle ⊢
    generalize R.length = n2 at hle ⊢
    go_enter Tryz.func104, Tryz.ntmps104
    go_wp2
    go_ret
    exact ⟨false, rfl, by simp [HN.out], Below.refl _ _⟩
set_option maxRecDepth 100000 in
set_option maxHeartbeats 4000000 in
theorem eqFuncM_any (L R : List Mot) (v1 v2 : Value) (w : World) (h1 : Mots w w.heap.size v1 L) (h2 : Mots w w.heap.size v2 R) (g : Nat) (hp : EqM g w) (eg : ∀ args w, (callFunc g args).run Tryz.prog w = .ok (.enter g args) w) :
    Calls Tryz.prog 107 #[v1, v2, .func (.func g) #[] #[]] w (SameLoop L R w) := by
  obtain ⟨A1, c1, rfl, _, m1, g1⟩ := mots_at h1
  obtain ⟨A2, c2, rfl, _, m2, g2⟩ := mots_at h2
  have H1 := Lib.hid g1
  have H2 := Lib.hid g2
  have HP := Lib.hid hp
  unfold maxLen at m1 m2
  have hlm : L.length ≤ 9223372036854775807 := by omega
  clear h1 h2 g1 g2 hp
  by_cases hl : L.length = R.length
  · rw [← hl]
    have HL := Lib.hid hl
    clear hl
    go_enter Tryz.func107, Tryz.ntmps107
    go_wp2
    go_loopw [7, 8, 9, 17] (fun _ _ _ i wr => ∃ (k : Nat) (x : Aft w), k ≤ L.length ∧ i = .int .i64 (k : Int) ∧ L.take k = R.take k ∧ wr = x.val) (fun _ _ _ i _ => L.length - (RowKit.intOf i).toNat)
    case atStart => exact ⟨0, ⟨w, Below.refl _ _⟩, Nat.zero_le _, rfl, rfl, rfl⟩
    case round =>
      obtain ⟨k, x, hk, rfl, ht, rfl⟩ := hrel
      have HT := Lib.hid ht
      clear ht
      by_cases hlt : k < L.length
      · have hlt2 : k < R.length := by rw [← HL.out]; exact hlt
        have E1 := Lib.hid (List.getElem?_eq_getElem hlt)
        have E2 := Lib.hid (List.getElem?_eq_getElem hlt2)
        obtain ⟨b1, o1, rfl, hb1, hc1⟩ := H1.out (by omega)
        obtain ⟨b2, o2, rfl, hb2, hc2⟩ := H2.out (by omega)
        obtain ⟨B1, d1, B2, d2, hP⟩ := hc1 k _ (List.getElem?_eq_getElem hlt)
        obtain ⟨B3, d3, B4, d4, hQ⟩ := hc2 k _ (List.getElem?_eq_getElem hlt2)
        have z0 := x.cell hP.k0
        have z1 := x.cell hP.k1
        have z2 := x.cell hP.k2
        have z3 := x.cell hP.k3
        have z4 := x.cell hP.k4
        have z5 := x.cell hP.k5
        have z6 := x.cell hP.k6
        have z7 := x.cell hP.k7
        have t0 := keepB x (x.cell hQ.k0)
        have t1 := keepB x (x.cell hQ.k1)
        have t2 := keepB x (x.cell hQ.k2)
        have t3 := keepB x (x.cell hQ.k3)
        have t4 := keepB x (x.cell hQ.k4)
        have t5 := keepB x (x.cell hQ.k5)
        have t6 := keepB x (x.cell hQ.k6)
        have t7 := keepB x (x.cell hQ.k7)
        have HBL : Hid (∀ o p, Below w.heap.size w ((x.val.alloc o).alloc p)) := Lib.hid (fun o p => (x.ok.alloc x.ok.size o).alloc (base_le x.ok.size) p)
        have HC0 := Lib.hid (fun W (hW : Below w.heap.size w W) => HP.out W L[k] R[k] B1 d1 B2 d2 B3 d3 B4 d4 hW (hP.on hW hW.size hb1).edits (hP.on hW hW.size hb1).ints (hQ.on hW hW.size hb2).edits (hQ.on hW hW.size hb2).ints)
        unfold motV at HC0
        clear hP hQ hc1 hc2
        by_cases hxy : L[k] = R[k]
        · have HN := Lib.hid (take_same E1.out E2.out HT.out hxy)
          have HC := Lib.hid (fun W hW => sameV_val (r := true) (HC0.out W hW) (by simp [hxy]))
          clear hxy E1 E2 HC0
          generalize L[k] = p at *
          generalize R[k] = q at *
          go_wp2_with (go_at_fn g; refine (HC.out _ (HBL.out _ _)).mono ?_; rintro e' w9 ⟨rfl, hb9⟩)
          go_roundw
          case rel => exact ⟨k + 1, ⟨_, (Below.trans (HBL.out _ _) (hb9.mono (Below.size (HBL.out _ _))))⟩, by omega, by go_num, HN.out, rfl⟩
          case measure => simp [RowKit.intOf]; omega
        · have HN := Lib.hid (not_same E1.out E2.out hxy)
          have HC := Lib.hid (fun W hW => sameV_val (r := false) (HC0.out W hW) (by simp [hxy]))
          clear hxy E1 E2 HC0
          generalize L[k] = p at *
          generalize R[k] = q at *
          go_wp2_with (go_at_fn g; refine (HC.out _ (HBL.out _ _)).mono ?_; rintro e' w9 ⟨rfl, hb9⟩)
          go_ret
          exact ⟨false, rfl, by simp [HN.out], Below.trans (HBL.out _ _) (hb9.mono (Below.size (HBL.out _ _)))⟩
      · have hge : ¬ (k : Int) < (L.length : Int) := by omega
        have HN : Hid (L = R) := Lib.hid (by
          have := HT.out
          rw [List.take_of_length_le (by omega), List.take_of_length_le (by rw [← HL.out]; omega)] at this
          exact this)
        clear hlt hk
        go_wp2
        go_ret
        exact ⟨true, rfl, by simp [HN.out], x.ok⟩
  · have hle : ((L.length : Int) == (R.length : Int)) = false := by simp; omega
    have HN : Hid (L ≠ R) := Lib.hid (fun e => hl (by rw [e]))
    clear hl
    generalize L.length = n1 at hle ⊢
    generalize R.length = n2 at hle ⊢
    go_enter Tryz.func107, Tryz.ntmps107
    go_wp2
    go_ret
    exact ⟨false, rfl, by simp [HN.out], Below.refl _ _⟩
end Go.Proofs.YtmfgonddmodpmaaGreat

namespace Go.Proofs.YtmfgonddmodpmaaGreat
open Go.RowKit Go.Lib

theorem bool_iff (p : Prop) : ∃ b : Bool, b = true ↔ p := by
  by_cases h : p
  · exact ⟨true, by simp [h]⟩
  · exact ⟨false, by simp [h]⟩
theorem act_iff {m n : Acta} {b2 : Bool} (e2 : b2 = true ↔ m.pat = n.pat) : ((m.beg == n.beg) && ((m.fin == n.fin) && b2)) = true ↔ m = n := by
  obtain ⟨a1, a2, a3⟩ := m
  obtain ⟨c1, c2, c3⟩ := n
  simp [e2]
theorem txt_iff (s t : ByteArray) : (s.toList == t.toList) = true ↔ s = t := by
  rw [beq_iff_eq]
  exact ⟨fun h => by rw [← mk_toList s, h, mk_toList], fun h => by rw [h]⟩
theorem mot_iff {m n : Mot} {b2 b6 : Bool} (e2 : b2 = true ↔ m.pat = n.pat) (e6 : b6 = true ↔ m.votes = n.votes) : ((m.title.toList == n.title.toList) && ((m.author == n.author) && (b2 && ((m.beg == n.beg) && ((m.fin == n.fin) && ((m.closes == n.closes) && (b6 && (m.result == n.result)))))))) = true ↔ m = n := by
  obtain ⟨a1, a2, a3, a4, a5, a6, a7, a8⟩ := m
  obtain ⟨c1, c2, c3, c4, c5, c6, c7, c8⟩ := n
  simp only [Bool.and_eq_true, txt_iff, e2, e6]
  simp only [beq_iff_eq, Mot.mk.injEq]

set_option maxRecDepth 100000 in
set_option maxHeartbeats 4000000 in
theorem actsT_any (m n : Acta) (A1 : Option Addr) (c1 : Nat) (A2 : Option Addr) (c2 : Nat) (w : World) (k1 : Edits w w.heap.size (.slice A1 m.pat.length c1) m.pat) (k2 : Edits w w.heap.size (.slice A2 n.pat.length c2) n.pat) :
    Calls Tryz.prog 105 #[actV m A1 c1, actV n A2 c2] w (SameV m n w) := by
  unfold actV
  obtain ⟨b2, e2⟩ := bool_iff (m.pat = n.pat)
  have hiff := act_iff e2
  obtain ⟨W, hW⟩ : ∃ W : World, W = (w.alloc (.cells #[.int .i64 m.beg, .int .i64 m.fin, .slice A1 m.pat.length c1] 109)).alloc (.cells #[.int .i64 n.beg, .int .i64 n.fin, .slice A2 n.pat.length c2] 109) := ⟨_, rfl⟩
  have bW : Below w.heap.size w W := by rw [hW]; exact ((Below.refl _ _).alloc (Nat.le_refl _) _).alloc (by simp) _
  have a1 : Row W w.heap.size [.int .i64 m.beg, .int .i64 m.fin, .slice A1 m.pat.length c1] := by rw [hW]; exact (Row.new w _ _).below ((Below.refl _ _).alloc (Nat.le_refl _) _) (by simp)
  have a2 : Row W (w.heap.size + 1) [.int .i64 n.beg, .int .i64 n.fin, .slice A2 n.pat.length c2] := by rw [hW]; simpa using Row.new (w.alloc (.cells #[.int .i64 m.beg, .int .i64 m.fin, .slice A1 m.pat.length c1] 109)) #[.int .i64 n.beg, .int .i64 n.fin, .slice A2 n.pat.length c2] 109
  have z0 := fun y : Aft W => y.cell (a1.cell 0 _ rfl)
  have z1 := fun y : Aft W => y.cell (a1.cell 1 _ rfl)
  have z2 := fun y : Aft W => y.cell (a1.cell 2 _ rfl)
  have t0 := fun y : Aft W => y.cell (a2.cell 0 _ rfl)
  have t1 := fun y : Aft W => y.cell (a2.cell 1 _ rfl)
  have t2 := fun y : Aft W => y.cell (a2.cell 2 _ rfl)
  have HE := Lib.hid (fun y : Aft W => same_val (equalE_any m.pat n.pat y.val _ _ (SlR.on k1 (Pl.stays _) (aft_done bW y) (aft_done bW y).size) (SlR.on k2 (Pl.stays _) (aft_done bW y) (aft_done bW y).size)) e2)
  have HW := Lib.hid hW
  clear hW a1 a2 k1 k2 e2
  cases h0 : (m.beg == n.beg) with
  | false =>
    have HR : Hid (¬ m = n) := Lib.hid (by have := hiff; rw [h0] at this; simpa using this)
    clear hiff
    go_enter Tryz.func105, Tryz.ntmps105
    go_upto_region 1 with (fail)
    rw [← HW.out]
    obtain ⟨x0, hx0⟩ : ∃ y : Aft W, y.val = W := ⟨⟨W, Below.refl _ _⟩, rfl⟩
    rw [← hx0]
    clear hx0
    go_wp2_with (first | (go_at_call 106; refine (aft_b (HE.out _)).mono ?_; rintro e _ ⟨rfl, y, rfl⟩))
    go_ret
    exact ⟨false, rfl, ⟨fun h => (by cases h), fun h => absurd h HR.out⟩, aft_done bW (by assumption)⟩
  | true =>
  cases h1 : (m.fin == n.fin) with
  | false =>
    have HR : Hid (¬ m = n) := Lib.hid (by have := hiff; rw [h0, h1] at this; simpa using this)
    clear hiff
    go_enter Tryz.func105, Tryz.ntmps105
    go_upto_region 1 with (fail)
    rw [← HW.out]
    obtain ⟨x0, hx0⟩ : ∃ y : Aft W, y.val = W := ⟨⟨W, Below.refl _ _⟩, rfl⟩
    rw [← hx0]
    clear hx0
    go_wp2_with (first | (go_at_call 106; refine (aft_b (HE.out _)).mono ?_; rintro e _ ⟨rfl, y, rfl⟩))
    go_ret
    exact ⟨false, rfl, ⟨fun h => (by cases h), fun h => absurd h HR.out⟩, aft_done bW (by assumption)⟩
  | true =>
  cases h2 : b2 with
  | false =>
    have HR : Hid (¬ m = n) := Lib.hid (by have := hiff; rw [h0, h1, h2] at this; simpa using this)
    clear hiff
    go_enter Tryz.func105, Tryz.ntmps105
    go_upto_region 1 with (fail)
    rw [← HW.out]
    obtain ⟨x0, hx0⟩ : ∃ y : Aft W, y.val = W := ⟨⟨W, Below.refl _ _⟩, rfl⟩
    rw [← hx0]
    clear hx0
    go_wp2_with (first | (go_at_call 106; refine (aft_b (HE.out _)).mono ?_; rintro e _ ⟨rfl, y, rfl⟩))
    go_ret
    exact ⟨false, rfl, ⟨fun h => (by cases h), fun h => absurd h HR.out⟩, aft_done bW (by assumption)⟩
  | true =>
  have HR : Hid (m = n) := Lib.hid (by have := hiff; rw [h0, h1, h2] at this; simpa using this)
  clear hiff
  go_enter Tryz.func105, Tryz.ntmps105
  go_upto_region 1 with (fail)
  rw [← HW.out]
  obtain ⟨x0, hx0⟩ : ∃ y : Aft W, y.val = W := ⟨⟨W, Below.refl _ _⟩, rfl⟩
  rw [← hx0]
  clear hx0
  go_wp2_with (first | (go_at_call 106; refine (aft_b (HE.out _)).mono ?_; rintro e _ ⟨rfl, y, rfl⟩))
  go_ret
  exact ⟨true, rfl, ⟨fun _ => HR.out, fun _ => rfl⟩, aft_done bW (by assumption)⟩
set_option maxRecDepth 100000 in
set_option maxHeartbeats 4000000 in
theorem motsT_any (m n : Mot) (A1 : Option Addr) (c1 : Nat) (A2 : Option Addr) (c2 : Nat) (A3 : Option Addr) (c3 : Nat) (A4 : Option Addr) (c4 : Nat) (w : World) (k1 : Edits w w.heap.size (.slice A1 m.pat.length c1) m.pat) (k2 : Ints w w.heap.size (.slice A2 m.votes.length c2) m.votes) (k3 : Edits w w.heap.size (.slice A3 n.pat.length c3) n.pat) (k4 : Ints w w.heap.size (.slice A4 n.votes.length c4) n.votes) :
    Calls Tryz.prog 108 #[motV m A1 c1 A2 c2, motV n A3 c3 A4 c4] w (SameV m n w) := by
  unfold motV
  obtain ⟨b2, e2⟩ := bool_iff (m.pat = n.pat)
  obtain ⟨b6, e6⟩ := bool_iff (m.votes = n.votes)
  have hiff := mot_iff e2 e6
  obtain ⟨W, hW⟩ : ∃ W : World, W = (w.alloc (.cells #[.string m.title, .int .i64 m.author, .slice A1 m.pat.length c1, .int .i64 m.beg, .int .i64 m.fin, .int .i64 m.closes, .slice A2 m.votes.length c2, .int .i64 m.result] 66)).alloc (.cells #[.string n.title, .int .i64 n.author, .slice A3 n.pat.length c3, .int .i64 n.beg, .int .i64 n.fin, .int .i64 n.closes, .slice A4 n.votes.length c4, .int .i64 n.result] 66) := ⟨_, rfl⟩
  have bW : Below w.heap.size w W := by rw [hW]; exact ((Below.refl _ _).alloc (Nat.le_refl _) _).alloc (by simp) _
  have a1 : Row W w.heap.size [.string m.title, .int .i64 m.author, .slice A1 m.pat.length c1, .int .i64 m.beg, .int .i64 m.fin, .int .i64 m.closes, .slice A2 m.votes.length c2, .int .i64 m.result] := by rw [hW]; exact (Row.new w _ _).below ((Below.refl _ _).alloc (Nat.le_refl _) _) (by simp)
  have a2 : Row W (w.heap.size + 1) [.string n.title, .int .i64 n.author, .slice A3 n.pat.length c3, .int .i64 n.beg, .int .i64 n.fin, .int .i64 n.closes, .slice A4 n.votes.length c4, .int .i64 n.result] := by rw [hW]; simpa using Row.new (w.alloc (.cells #[.string m.title, .int .i64 m.author, .slice A1 m.pat.length c1, .int .i64 m.beg, .int .i64 m.fin, .int .i64 m.closes, .slice A2 m.votes.length c2, .int .i64 m.result] 66)) #[.string n.title, .int .i64 n.author, .slice A3 n.pat.length c3, .int .i64 n.beg, .int .i64 n.fin, .int .i64 n.closes, .slice A4 n.votes.length c4, .int .i64 n.result] 66
  have z0 := fun y : Aft W => y.cell (a1.cell 0 _ rfl)
  have z1 := fun y : Aft W => y.cell (a1.cell 1 _ rfl)
  have z2 := fun y : Aft W => y.cell (a1.cell 2 _ rfl)
  have z3 := fun y : Aft W => y.cell (a1.cell 3 _ rfl)
  have z4 := fun y : Aft W => y.cell (a1.cell 4 _ rfl)
  have z5 := fun y : Aft W => y.cell (a1.cell 5 _ rfl)
  have z6 := fun y : Aft W => y.cell (a1.cell 6 _ rfl)
  have z7 := fun y : Aft W => y.cell (a1.cell 7 _ rfl)
  have t0 := fun y : Aft W => y.cell (a2.cell 0 _ rfl)
  have t1 := fun y : Aft W => y.cell (a2.cell 1 _ rfl)
  have t2 := fun y : Aft W => y.cell (a2.cell 2 _ rfl)
  have t3 := fun y : Aft W => y.cell (a2.cell 3 _ rfl)
  have t4 := fun y : Aft W => y.cell (a2.cell 4 _ rfl)
  have t5 := fun y : Aft W => y.cell (a2.cell 5 _ rfl)
  have t6 := fun y : Aft W => y.cell (a2.cell 6 _ rfl)
  have t7 := fun y : Aft W => y.cell (a2.cell 7 _ rfl)
  have HE := Lib.hid (fun y : Aft W => same_val (equalE_any m.pat n.pat y.val _ _ (SlR.on k1 (Pl.stays _) (aft_done bW y) (aft_done bW y).size) (SlR.on k3 (Pl.stays _) (aft_done bW y) (aft_done bW y).size)) e2)
  have HI := Lib.hid (fun y : Aft W => same_val (equalI_any m.votes n.votes y.val _ _ (SlR.on k2 (Pl.stays _) (aft_done bW y) (aft_done bW y).size) (SlR.on k4 (Pl.stays _) (aft_done bW y) (aft_done bW y).size)) e6)
  have HW := Lib.hid hW
  clear hW a1 a2 k1 k2 k3 k4 e2 e6
  cases h0 : (m.title.toList == n.title.toList) with
  | false =>
    have HR : Hid (¬ m = n) := Lib.hid (by have := hiff; rw [h0] at this; simpa using this)
    clear hiff
    go_enter Tryz.func108, Tryz.ntmps108
    go_upto_region 1 with (fail)
    rw [← HW.out]
    obtain ⟨x0, hx0⟩ : ∃ y : Aft W, y.val = W := ⟨⟨W, Below.refl _ _⟩, rfl⟩
    rw [← hx0]
    clear hx0
    go_wp2_with (first | (go_at_call 106; refine (aft_b (HE.out _)).mono ?_; rintro e _ ⟨rfl, y, rfl⟩) | (go_at_call 57; refine (aft_b (HI.out _)).mono ?_; rintro e _ ⟨rfl, y, rfl⟩))
    go_ret
    exact ⟨false, rfl, ⟨fun h => (by cases h), fun h => absurd h HR.out⟩, aft_done bW (by assumption)⟩
  | true =>
  cases h1 : (m.author == n.author) with
  | false =>
    have HR : Hid (¬ m = n) := Lib.hid (by have := hiff; rw [h0, h1] at this; simpa using this)
    clear hiff
    go_enter Tryz.func108, Tryz.ntmps108
    go_upto_region 1 with (fail)
    rw [← HW.out]
    obtain ⟨x0, hx0⟩ : ∃ y : Aft W, y.val = W := ⟨⟨W, Below.refl _ _⟩, rfl⟩
    rw [← hx0]
    clear hx0
    go_wp2_with (first | (go_at_call 106; refine (aft_b (HE.out _)).mono ?_; rintro e _ ⟨rfl, y, rfl⟩) | (go_at_call 57; refine (aft_b (HI.out _)).mono ?_; rintro e _ ⟨rfl, y, rfl⟩))
    go_ret
    exact ⟨false, rfl, ⟨fun h => (by cases h), fun h => absurd h HR.out⟩, aft_done bW (by assumption)⟩
  | true =>
  cases h2 : b2 with
  | false =>
    have HR : Hid (¬ m = n) := Lib.hid (by have := hiff; rw [h0, h1, h2] at this; simpa using this)
    clear hiff
    go_enter Tryz.func108, Tryz.ntmps108
    go_upto_region 1 with (fail)
    rw [← HW.out]
    obtain ⟨x0, hx0⟩ : ∃ y : Aft W, y.val = W := ⟨⟨W, Below.refl _ _⟩, rfl⟩
    rw [← hx0]
    clear hx0
    go_wp2_with (first | (go_at_call 106; refine (aft_b (HE.out _)).mono ?_; rintro e _ ⟨rfl, y, rfl⟩) | (go_at_call 57; refine (aft_b (HI.out _)).mono ?_; rintro e _ ⟨rfl, y, rfl⟩))
    go_ret
    exact ⟨false, rfl, ⟨fun h => (by cases h), fun h => absurd h HR.out⟩, aft_done bW (by assumption)⟩
  | true =>
  cases h3 : (m.beg == n.beg) with
  | false =>
    have HR : Hid (¬ m = n) := Lib.hid (by have := hiff; rw [h0, h1, h2, h3] at this; simpa using this)
    clear hiff
    go_enter Tryz.func108, Tryz.ntmps108
    go_upto_region 1 with (fail)
    rw [← HW.out]
    obtain ⟨x0, hx0⟩ : ∃ y : Aft W, y.val = W := ⟨⟨W, Below.refl _ _⟩, rfl⟩
    rw [← hx0]
    clear hx0
    go_wp2_with (first | (go_at_call 106; refine (aft_b (HE.out _)).mono ?_; rintro e _ ⟨rfl, y, rfl⟩) | (go_at_call 57; refine (aft_b (HI.out _)).mono ?_; rintro e _ ⟨rfl, y, rfl⟩))
    go_ret
    exact ⟨false, rfl, ⟨fun h => (by cases h), fun h => absurd h HR.out⟩, aft_done bW (by assumption)⟩
  | true =>
  cases h4 : (m.fin == n.fin) with
  | false =>
    have HR : Hid (¬ m = n) := Lib.hid (by have := hiff; rw [h0, h1, h2, h3, h4] at this; simpa using this)
    clear hiff
    go_enter Tryz.func108, Tryz.ntmps108
    go_upto_region 1 with (fail)
    rw [← HW.out]
    obtain ⟨x0, hx0⟩ : ∃ y : Aft W, y.val = W := ⟨⟨W, Below.refl _ _⟩, rfl⟩
    rw [← hx0]
    clear hx0
    go_wp2_with (first | (go_at_call 106; refine (aft_b (HE.out _)).mono ?_; rintro e _ ⟨rfl, y, rfl⟩) | (go_at_call 57; refine (aft_b (HI.out _)).mono ?_; rintro e _ ⟨rfl, y, rfl⟩))
    go_ret
    exact ⟨false, rfl, ⟨fun h => (by cases h), fun h => absurd h HR.out⟩, aft_done bW (by assumption)⟩
  | true =>
  cases h5 : (m.closes == n.closes) with
  | false =>
    have HR : Hid (¬ m = n) := Lib.hid (by have := hiff; rw [h0, h1, h2, h3, h4, h5] at this; simpa using this)
    clear hiff
    go_enter Tryz.func108, Tryz.ntmps108
    go_upto_region 1 with (fail)
    rw [← HW.out]
    obtain ⟨x0, hx0⟩ : ∃ y : Aft W, y.val = W := ⟨⟨W, Below.refl _ _⟩, rfl⟩
    rw [← hx0]
    clear hx0
    go_wp2_with (first | (go_at_call 106; refine (aft_b (HE.out _)).mono ?_; rintro e _ ⟨rfl, y, rfl⟩) | (go_at_call 57; refine (aft_b (HI.out _)).mono ?_; rintro e _ ⟨rfl, y, rfl⟩))
    go_ret
    exact ⟨false, rfl, ⟨fun h => (by cases h), fun h => absurd h HR.out⟩, aft_done bW (by assumption)⟩
  | true =>
  cases h6 : b6 with
  | false =>
    have HR : Hid (¬ m = n) := Lib.hid (by have := hiff; rw [h0, h1, h2, h3, h4, h5, h6] at this; simpa using this)
    clear hiff
    go_enter Tryz.func108, Tryz.ntmps108
    go_upto_region 1 with (fail)
    rw [← HW.out]
    obtain ⟨x0, hx0⟩ : ∃ y : Aft W, y.val = W := ⟨⟨W, Below.refl _ _⟩, rfl⟩
    rw [← hx0]
    clear hx0
    go_wp2_with (first | (go_at_call 106; refine (aft_b (HE.out _)).mono ?_; rintro e _ ⟨rfl, y, rfl⟩) | (go_at_call 57; refine (aft_b (HI.out _)).mono ?_; rintro e _ ⟨rfl, y, rfl⟩))
    go_ret
    exact ⟨false, rfl, ⟨fun h => (by cases h), fun h => absurd h HR.out⟩, aft_done bW (by assumption)⟩
  | true =>
  cases h7 : (m.result == n.result) with
  | false =>
    have HR : Hid (¬ m = n) := Lib.hid (by have := hiff; rw [h0, h1, h2, h3, h4, h5, h6, h7] at this; simpa using this)
    clear hiff
    go_enter Tryz.func108, Tryz.ntmps108
    go_upto_region 1 with (fail)
    rw [← HW.out]
    obtain ⟨x0, hx0⟩ : ∃ y : Aft W, y.val = W := ⟨⟨W, Below.refl _ _⟩, rfl⟩
    rw [← hx0]
    clear hx0
    go_wp2_with (first | (go_at_call 106; refine (aft_b (HE.out _)).mono ?_; rintro e _ ⟨rfl, y, rfl⟩) | (go_at_call 57; refine (aft_b (HI.out _)).mono ?_; rintro e _ ⟨rfl, y, rfl⟩))
    go_ret
    exact ⟨false, rfl, ⟨fun h => (by cases h), fun h => absurd h HR.out⟩, aft_done bW (by assumption)⟩
  | true =>
  have HR : Hid (m = n) := Lib.hid (by have := hiff; rw [h0, h1, h2, h3, h4, h5, h6, h7] at this; simpa using this)
  clear hiff
  go_enter Tryz.func108, Tryz.ntmps108
  go_upto_region 1 with (fail)
  rw [← HW.out]
  obtain ⟨x0, hx0⟩ : ∃ y : Aft W, y.val = W := ⟨⟨W, Below.refl _ _⟩, rfl⟩
  rw [← hx0]
  clear hx0
  go_wp2_with (first | (go_at_call 106; refine (aft_b (HE.out _)).mono ?_; rintro e _ ⟨rfl, y, rfl⟩) | (go_at_call 57; refine (aft_b (HI.out _)).mono ?_; rintro e _ ⟨rfl, y, rfl⟩))
  go_ret
  exact ⟨true, rfl, ⟨fun _ => HR.out, fun _ => rfl⟩, aft_done bW (by assumption)⟩
set_option maxRecDepth 100000 in
set_option maxHeartbeats 4000000 in
theorem mots1_any (m n : Mot) (b o b' o' : Nat) (A1 : Option Addr) (c1 : Nat) (A2 : Option Addr) (c2 : Nat) (A3 : Option Addr) (c3 : Nat) (A4 : Option Addr) (c4 : Nat) (w : World) (hP : MotP w w.heap.size b o m A1 c1 A2 c2) (hQ : MotP w w.heap.size b' o' n A3 c3 A4 c4) (hb : b < w.heap.size) (hb' : b' < w.heap.size) :
    Calls Tryz.prog 103 #[.pointer (some ⟨b, o, none⟩), .pointer (some ⟨b', o', none⟩)] w (SameV m n w) := by
  refine calls_aft fun x0 => ?_
  obtain ⟨b2, e2⟩ := bool_iff (m.pat = n.pat)
  obtain ⟨b6, e6⟩ := bool_iff (m.votes = n.votes)
  have hiff := mot_iff e2 e6
  have z0 := fun y : Aft w => y.cell hP.k0
  have z1 := fun y : Aft w => y.cell hP.k1
  have z2 := fun y : Aft w => y.cell hP.k2
  have z3 := fun y : Aft w => y.cell hP.k3
  have z4 := fun y : Aft w => y.cell hP.k4
  have z5 := fun y : Aft w => y.cell hP.k5
  have z6 := fun y : Aft w => y.cell hP.k6
  have z7 := fun y : Aft w => y.cell hP.k7
  have t0 := fun y : Aft w => y.cell hQ.k0
  have t1 := fun y : Aft w => y.cell hQ.k1
  have t2 := fun y : Aft w => y.cell hQ.k2
  have t3 := fun y : Aft w => y.cell hQ.k3
  have t4 := fun y : Aft w => y.cell hQ.k4
  have t5 := fun y : Aft w => y.cell hQ.k5
  have t6 := fun y : Aft w => y.cell hQ.k6
  have t7 := fun y : Aft w => y.cell hQ.k7
  have HE := Lib.hid (fun y : Aft w => same_val (patches_any m.pat n.pat y.val _ _ (hP.on y.ok y.ok.size hb).edits (hQ.on y.ok y.ok.size hb').edits) e2)
  have HI := Lib.hid (fun y : Aft w => same_val (same00_any m.votes n.votes y.val _ _ (hP.on y.ok y.ok.size hb).ints (hQ.on y.ok y.ok.size hb').ints) e6)
  clear hP hQ e2 e6
  cases h0 : (m.title.toList == n.title.toList) with
  | false =>
    have HR : Hid (¬ m = n) := Lib.hid (by have := hiff; rw [h0] at this; simpa using this)
    clear hiff
    go_enter Tryz.func103, Tryz.ntmps103
    go_wp2_with (fail)
    simp only [List.append_eq, List.cons_append, List.nil_append]
    refine wp_region_at (by kernel_rfl) (by kernel_rfl) ?_
    repeat (go_big_quiet_step ((first | (go_at_call 102; exact aft_b (HE.out _)) | (go_at_call 101; exact aft_b (HI.out _)))))
    refine wpQuiet_nil ?_
    rintro _ ⟨y, rfl⟩
    go_wp2
    go_ret
    exact ⟨false, rfl, ⟨fun h => (by cases h), fun h => absurd h HR.out⟩, y.ok⟩
  | true =>
  cases h1 : (m.author == n.author) with
  | false =>
    have HR : Hid (¬ m = n) := Lib.hid (by have := hiff; rw [h0, h1] at this; simpa using this)
    clear hiff
    go_enter Tryz.func103, Tryz.ntmps103
    go_wp2_with (fail)
    simp only [List.append_eq, List.cons_append, List.nil_append]
    refine wp_region_at (by kernel_rfl) (by kernel_rfl) ?_
    repeat (go_big_quiet_step ((first | (go_at_call 102; exact aft_b (HE.out _)) | (go_at_call 101; exact aft_b (HI.out _)))))
    refine wpQuiet_nil ?_
    rintro _ ⟨y, rfl⟩
    go_wp2
    go_ret
    exact ⟨false, rfl, ⟨fun h => (by cases h), fun h => absurd h HR.out⟩, y.ok⟩
  | true =>
  cases h2 : b2 with
  | false =>
    have HR : Hid (¬ m = n) := Lib.hid (by have := hiff; rw [h0, h1, h2] at this; simpa using this)
    clear hiff
    go_enter Tryz.func103, Tryz.ntmps103
    go_wp2_with (fail)
    simp only [List.append_eq, List.cons_append, List.nil_append]
    refine wp_region_at (by kernel_rfl) (by kernel_rfl) ?_
    repeat (go_big_quiet_step ((first | (go_at_call 102; exact aft_b (HE.out _)) | (go_at_call 101; exact aft_b (HI.out _)))))
    refine wpQuiet_nil ?_
    rintro _ ⟨y, rfl⟩
    go_wp2
    go_ret
    exact ⟨false, rfl, ⟨fun h => (by cases h), fun h => absurd h HR.out⟩, y.ok⟩
  | true =>
  cases h3 : (m.beg == n.beg) with
  | false =>
    have HR : Hid (¬ m = n) := Lib.hid (by have := hiff; rw [h0, h1, h2, h3] at this; simpa using this)
    clear hiff
    go_enter Tryz.func103, Tryz.ntmps103
    go_wp2_with (fail)
    simp only [List.append_eq, List.cons_append, List.nil_append]
    refine wp_region_at (by kernel_rfl) (by kernel_rfl) ?_
    repeat (go_big_quiet_step ((first | (go_at_call 102; exact aft_b (HE.out _)) | (go_at_call 101; exact aft_b (HI.out _)))))
    refine wpQuiet_nil ?_
    rintro _ ⟨y, rfl⟩
    go_wp2
    go_ret
    exact ⟨false, rfl, ⟨fun h => (by cases h), fun h => absurd h HR.out⟩, y.ok⟩
  | true =>
  cases h4 : (m.fin == n.fin) with
  | false =>
    have HR : Hid (¬ m = n) := Lib.hid (by have := hiff; rw [h0, h1, h2, h3, h4] at this; simpa using this)
    clear hiff
    go_enter Tryz.func103, Tryz.ntmps103
    go_wp2_with (fail)
    simp only [List.append_eq, List.cons_append, List.nil_append]
    refine wp_region_at (by kernel_rfl) (by kernel_rfl) ?_
    repeat (go_big_quiet_step ((first | (go_at_call 102; exact aft_b (HE.out _)) | (go_at_call 101; exact aft_b (HI.out _)))))
    refine wpQuiet_nil ?_
    rintro _ ⟨y, rfl⟩
    go_wp2
    go_ret
    exact ⟨false, rfl, ⟨fun h => (by cases h), fun h => absurd h HR.out⟩, y.ok⟩
  | true =>
  cases h5 : (m.closes == n.closes) with
  | false =>
    have HR : Hid (¬ m = n) := Lib.hid (by have := hiff; rw [h0, h1, h2, h3, h4, h5] at this; simpa using this)
    clear hiff
    go_enter Tryz.func103, Tryz.ntmps103
    go_wp2_with (fail)
    simp only [List.append_eq, List.cons_append, List.nil_append]
    refine wp_region_at (by kernel_rfl) (by kernel_rfl) ?_
    repeat (go_big_quiet_step ((first | (go_at_call 102; exact aft_b (HE.out _)) | (go_at_call 101; exact aft_b (HI.out _)))))
    refine wpQuiet_nil ?_
    rintro _ ⟨y, rfl⟩
    go_wp2
    go_ret
    exact ⟨false, rfl, ⟨fun h => (by cases h), fun h => absurd h HR.out⟩, y.ok⟩
  | true =>
  cases h6 : b6 with
  | false =>
    have HR : Hid (¬ m = n) := Lib.hid (by have := hiff; rw [h0, h1, h2, h3, h4, h5, h6] at this; simpa using this)
    clear hiff
    go_enter Tryz.func103, Tryz.ntmps103
    go_wp2_with (fail)
    simp only [List.append_eq, List.cons_append, List.nil_append]
    refine wp_region_at (by kernel_rfl) (by kernel_rfl) ?_
    repeat (go_big_quiet_step ((first | (go_at_call 102; exact aft_b (HE.out _)) | (go_at_call 101; exact aft_b (HI.out _)))))
    refine wpQuiet_nil ?_
    rintro _ ⟨y, rfl⟩
    go_wp2
    go_ret
    exact ⟨false, rfl, ⟨fun h => (by cases h), fun h => absurd h HR.out⟩, y.ok⟩
  | true =>
  cases h7 : (m.result == n.result) with
  | false =>
    have HR : Hid (¬ m = n) := Lib.hid (by have := hiff; rw [h0, h1, h2, h3, h4, h5, h6, h7] at this; simpa using this)
    clear hiff
    go_enter Tryz.func103, Tryz.ntmps103
    go_wp2_with (fail)
    simp only [List.append_eq, List.cons_append, List.nil_append]
    refine wp_region_at (by kernel_rfl) (by kernel_rfl) ?_
    repeat (go_big_quiet_step ((first | (go_at_call 102; exact aft_b (HE.out _)) | (go_at_call 101; exact aft_b (HI.out _)))))
    refine wpQuiet_nil ?_
    rintro _ ⟨y, rfl⟩
    go_wp2
    go_ret
    exact ⟨false, rfl, ⟨fun h => (by cases h), fun h => absurd h HR.out⟩, y.ok⟩
  | true =>
  have HR : Hid (m = n) := Lib.hid (by have := hiff; rw [h0, h1, h2, h3, h4, h5, h6, h7] at this; simpa using this)
  clear hiff
  go_enter Tryz.func103, Tryz.ntmps103
  go_wp2_with (fail)
  simp only [List.append_eq, List.cons_append, List.nil_append]
  refine wp_region_at (by kernel_rfl) (by kernel_rfl) ?_
  repeat (go_big_quiet_step ((first | (go_at_call 102; exact aft_b (HE.out _)) | (go_at_call 101; exact aft_b (HI.out _)))))
  refine wpQuiet_nil ?_
  rintro _ ⟨y, rfl⟩
  go_wp2
  go_ret
  exact ⟨true, rfl, ⟨fun _ => HR.out, fun _ => rfl⟩, y.ok⟩
theorem enters_sA : ∀ args w, (callFunc 105 args).run Tryz.prog w = .ok (.enter 105 args) w := enters_of Tryz.func105 (by kernel_rfl) rfl
theorem enters_sM : ∀ args w, (callFunc 108 args).run Tryz.prog w = .ok (.enter 108 args) w := enters_of Tryz.func108 (by kernel_rfl) rfl
theorem enters_sI : ∀ args w, (callFunc 56 args).run Tryz.prog w = .ok (.enter 56 args) w := enters_of Tryz.func56 (by kernel_rfl) rfl
theorem sameI_any (p q : List Int) (B1 : Option Addr) (d1 : Nat) (B2 : Option Addr) (d2 : Nat) (w : World) (h1 : Ints w w.heap.size (.slice B1 p.length d1) p) (h2 : Ints w w.heap.size (.slice B2 q.length d2) q) :
    Calls Tryz.prog 56 #[.slice B1 p.length d1, .slice B2 q.length d2] w (SameV p q w) := by
  have H := Lib.hid (equalI_any p q w _ _ h1 h2)
  clear h1 h2
  go_enter Tryz.func56, Tryz.ntmps56
  go_wp2_with (fail)
  refine H.out.mono ?_
  rintro e w1 ⟨r, rfl, hr, hb⟩
  have HR := Lib.hid hr
  clear hr
  go_wp2
  go_ret
  exact ⟨r, rfl, HR.out, hb⟩
theorem sameActs_any (L R : List Acta) (v1 v2 : Value) (w : World) (h1 : Acts w w.heap.size v1 L) (h2 : Acts w w.heap.size v2 R) :
    Calls Tryz.prog 59 #[v1, v2] w (SameLoop L R w) := by
  have H := Lib.hid (eqFuncA_any L R v1 v2 w h1 h2 _ (fun W p q B1 d1 B2 d2 _ k1 k2 => actsT_any p q B1 d1 B2 d2 W k1 k2) enters_sA)
  clear h1 h2
  go_enter Tryz.func59, Tryz.ntmps59
  go_wp2_with (fail)
  refine H.out.mono ?_
  rintro e w1 ⟨r, rfl, hr, hb⟩
  have HR := Lib.hid hr
  clear hr
  go_wp2
  go_ret
  exact ⟨r, rfl, HR.out, hb⟩
theorem sameMots_any (L R : List Mot) (v1 v2 : Value) (w : World) (h1 : Mots w w.heap.size v1 L) (h2 : Mots w w.heap.size v2 R) :
    Calls Tryz.prog 60 #[v1, v2] w (SameLoop L R w) := by
  have H := Lib.hid (eqFuncM_any L R v1 v2 w h1 h2 _ (fun W p q A1 c1 A2 c2 A3 c3 A4 c4 _ k1 k2 k3 k4 => motsT_any p q A1 c1 A2 c2 A3 c3 A4 c4 W k1 k2 k3 k4) enters_sM)
  clear h1 h2
  go_enter Tryz.func60, Tryz.ntmps60
  go_wp2_with (fail)
  refine H.out.mono ?_
  rintro e w1 ⟨r, rfl, hr, hb⟩
  have HR := Lib.hid hr
  clear hr
  go_wp2
  go_ret
  exact ⟨r, rfl, HR.out, hb⟩
end Go.Proofs.YtmfgonddmodpmaaGreat

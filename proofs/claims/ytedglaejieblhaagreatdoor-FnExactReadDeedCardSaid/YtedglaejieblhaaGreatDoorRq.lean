/- Rows read; equal deeds. (The rows are LawR's.) -/
import Derived.Test.YtedglaejieblhaaGreatDoorRow
import Derived.Test.YtedglaejieblhaaGreatDoorLawQ
namespace Go.Proofs.YtedglaejieblhaaGreatDoor
open Go.RowKit

theorem edits_get {w : World} {B n c k : Nat} {A : Option Addr} {es : List Edit} {e : Edit} (h : Edits w B (.slice A n c) es) (hk : es[k]? = some e) :
    ∃ b off, A = some ⟨b, off, none⟩ ∧ b < B ∧ w.cell? ⟨b, off + k * 4, none⟩ = some (.int .i64 e.kind) ∧ w.cell? ⟨b, off + k * 4 + 1, none⟩ = some (.int .i64 e.id) ∧ w.cell? ⟨b, off + k * 4 + 2, none⟩ = some (.string e.old) ∧ w.cell? ⟨b, off + k * 4 + 3, none⟩ = some (.string e.new) := by
  obtain ⟨A', c', hv, h1, h2, h3⟩ := h
  injection hv with e1 e2 e3
  subst e1
  have hlt : k < es.length := (List.getElem?_eq_some_iff.1 hk).1
  obtain ⟨b, off, hA, hb, hc⟩ := h3 (by omega)
  exact ⟨b, off, hA, hb, edits_at hc hk⟩
theorem ints_get {w : World} {B n c k : Nat} {A : Option Addr} {zs : List Int} {z : Int} (h : Ints w B (.slice A n c) zs) (hk : zs[k]? = some z) :
    ∃ b off, A = some ⟨b, off, none⟩ ∧ b < B ∧ w.cell? ⟨b, off + k, none⟩ = some (.int .i64 z) := by
  obtain ⟨A', c', hv, h1, h2, h3⟩ := h
  injection hv with e1 e2 e3
  subst e1
  have hlt : k < zs.length := (List.getElem?_eq_some_iff.1 hk).1
  obtain ⟨b, off, hA, hb, hc⟩ := h3 (by omega)
  exact ⟨b, off, hA, hb, ints_at hc hk⟩
set_option maxHeartbeats 1000000 in
theorem eqInts_any (zs : List Int) (A1 : Option Addr) (n1 c1 : Nat) (A2 : Option Addr) (n2 c2 : Nat) (w : World) (h1 : Ints w w.heap.size (.slice A1 n1 c1) zs) (h2 : Ints w w.heap.size (.slice A2 n2 c2) zs) :
    Calls Tryz.prog 38 #[.slice A1 n1 c1, .slice A2 n2 c2] w (RetB (.bool true) w) := by
  obtain ⟨rfl, e1, g1⟩ := slR_len h1
  obtain ⟨rfl, e2, g2⟩ := slR_len h2
  have H1 := Lib.hid h1
  have H2 := Lib.hid h2
  have hlm : zs.length ≤ 9223372036854775807 := by omega
  clear h1 h2
  refine calls_aft fun x0 => ?_
  go_enter Tryz.func38, Tryz.ntmps38
  go_wp2
  go_loopw [5] (fun i wr => ∃ (k : Nat) (x : Aft w), k ≤ zs.length ∧ i = .int .i64 (k : Int) ∧ wr = x.val) (fun i _ => zs.length - (intOf i).toNat)
  case atStart => exact ⟨0, x0, Nat.zero_le _, rfl, rfl⟩
  case round =>
    obtain ⟨k, x, hk, rfl, rfl⟩ := hrel
    by_cases hlt : k < zs.length
    · have hget : zs[k]? = some zs[k] := List.getElem?_eq_getElem hlt
      obtain ⟨b, off, rfl, hb, c0⟩ := ints_get H1.out hget
      obtain ⟨b', off', rfl, hb', c1⟩ := ints_get H2.out hget
      have z0 := fun y : Aft w => y.cell c0
      have z1 := fun y : Aft w => y.cell c1
      clear hget c0 c1
      generalize zs[k] = z at *
      go_wp2_with (fail)
      refine wp_region_at (by kernel_rfl) (by kernel_rfl) ?_
      repeat (go_big_quiet_step (fail))
      refine wpQuiet_nil ?_
      rintro _ ⟨y, rfl⟩
      go_wp2
      go_roundw
      case rel => exact ⟨k + 1, y, by omega, by go_num, rfl⟩
      case measure => simp [intOf]; omega
    · have hge : ¬ (k : Int) < (zs.length : Int) := by omega
      go_wp2
      go_ret
      exact ⟨rfl, x.ok⟩

set_option maxHeartbeats 1000000 in
theorem eqEdit_any (e : Edit) (w : World) :
    Calls Tryz.prog 80 #[.agg #[.int .i64 e.kind, .int .i64 e.id, .string e.old, .string e.new], .agg #[.int .i64 e.kind, .int .i64 e.id, .string e.old, .string e.new]] w (RetB (.bool true) w) := by
  go_enter Tryz.func80, Tryz.ntmps80
  go_wp2
  go_ret
  exact ⟨rfl, ((Below.refl _ _).alloc (Nat.le_refl _) _).alloc (by simp) _⟩

set_option maxHeartbeats 2000000 in
theorem eqEdits_any (es : List Edit) (A1 : Option Addr) (n1 c1 : Nat) (A2 : Option Addr) (n2 c2 : Nat) (w : World) (h1 : Edits w w.heap.size (.slice A1 n1 c1) es) (h2 : Edits w w.heap.size (.slice A2 n2 c2) es) :
    Calls Tryz.prog 39 #[.slice A1 n1 c1, .slice A2 n2 c2] w (RetB (.bool true) w) := by
  obtain ⟨rfl, e1, g1⟩ := slR_len h1
  obtain ⟨rfl, e2, g2⟩ := slR_len h2
  have H1 := Lib.hid h1
  have H2 := Lib.hid h2
  have hlm : es.length ≤ 9223372036854775807 := by omega
  clear h1 h2
  refine calls_aft fun x0 => ?_
  go_enter Tryz.func39, Tryz.ntmps39
  go_wp2
  go_loopw [5] (fun i wr => ∃ (k : Nat) (x : Aft w), k ≤ es.length ∧ i = .int .i64 (k : Int) ∧ wr = x.val) (fun i _ => es.length - (intOf i).toNat)
  case atStart => exact ⟨0, x0, Nat.zero_le _, rfl, rfl⟩
  case round =>
    obtain ⟨k, x, hk, rfl, rfl⟩ := hrel
    by_cases hlt : k < es.length
    · have hget : es[k]? = some es[k] := List.getElem?_eq_getElem hlt
      obtain ⟨b, off, rfl, hb, c0, c1, c2, c3⟩ := edits_get H1.out hget
      obtain ⟨b', off', rfl, hb', d0, d1, d2, d3⟩ := edits_get H2.out hget
      have z0 := fun y : Aft w => y.cell c0
      have z1 := fun y : Aft w => y.cell c1
      have z2 := fun y : Aft w => y.cell c2
      have z3 := fun y : Aft w => y.cell c3
      have t0 := fun y : Aft w => y.cell d0
      have t1 := fun y : Aft w => y.cell d1
      have t2 := fun y : Aft w => y.cell d2
      have t3 := fun y : Aft w => y.cell d3
      clear hget c0 c1 c2 c3 d0 d1 d2 d3
      generalize es[k] = e at *
      go_wp2_with (fail)
      refine wp_region_at (by kernel_rfl) (by kernel_rfl) ?_
      repeat (go_big_quiet_step ((first | (go_at_call 80; exact aft_b (eqEdit_any e _)))))
      refine wpQuiet_nil ?_
      rintro _ ⟨y, rfl⟩
      go_wp2
      go_roundw
      case rel => exact ⟨k + 1, y, by omega, by go_num, rfl⟩
      case measure => simp [intOf]; omega
    · have hge : ¬ (k : Int) < (es.length : Int) := by omega
      go_wp2
      go_ret
      exact ⟨rfl, x.ok⟩

set_option maxRecDepth 100000 in
set_option maxHeartbeats 2000000 in
theorem eqDeed_any (d : Deed) (A1 : Option Addr) (n1 c1 : Nat) (A2 : Option Addr) (n2 c2 : Nat) (A3 : Option Addr) (n3 c3 : Nat) (A4 : Option Addr) (n4 c4 : Nat) (w : World) (h1 : Ints w w.heap.size (.slice A1 n1 c1) d.trust) (h2 : Edits w w.heap.size (.slice A2 n2 c2) d.patch) (h3 : Ints w w.heap.size (.slice A3 n3 c3) d.trust) (h4 : Edits w w.heap.size (.slice A4 n4 c4) d.patch) :
    Calls Tryz.prog 11 #[.agg #[.int .i64 d.kind, .int .i64 d.member, .slice A1 n1 c1, .string d.title, .int .i64 d.vote, .slice A2 n2 c2, .int .i64 d.start, .int .i64 d.until_, .int .i64 d.closes], .agg #[.int .i64 d.kind, .int .i64 d.member, .slice A3 n3 c3, .string d.title, .int .i64 d.vote, .slice A4 n4 c4, .int .i64 d.start, .int .i64 d.until_, .int .i64 d.closes]] w (RetB (.bool true) w) := by
  go_enter Tryz.func11, Tryz.ntmps11
  go_wp2_with (fail)
  obtain ⟨W, hW⟩ : ∃ W : World, W = (w.alloc (.cells #[.int .i64 d.kind, .int .i64 d.member, .slice A1 n1 c1, .string d.title, .int .i64 d.vote, .slice A2 n2 c2, .int .i64 d.start, .int .i64 d.until_, .int .i64 d.closes] 25)).alloc (.cells #[.int .i64 d.kind, .int .i64 d.member, .slice A3 n3 c3, .string d.title, .int .i64 d.vote, .slice A4 n4 c4, .int .i64 d.start, .int .i64 d.until_, .int .i64 d.closes] 25) := ⟨_, rfl⟩
  have bW : Below w.heap.size w W := by rw [hW]; exact ((Below.refl _ _).alloc (Nat.le_refl _) _).alloc (by simp) _
  have y3 : W.cell? ⟨w.heap.size, 3, none⟩ = some (.string d.title) := by rw [hW]; simp [go_sem]
  have y4 : W.cell? ⟨w.heap.size, 4, none⟩ = some (.int .i64 d.vote) := by rw [hW]; simp [go_sem]
  have y5 : W.cell? ⟨w.heap.size, 5, none⟩ = some (.slice A2 n2 c2) := by rw [hW]; simp [go_sem]
  have y6 : W.cell? ⟨w.heap.size, 6, none⟩ = some (.int .i64 d.start) := by rw [hW]; simp [go_sem]
  have y7 : W.cell? ⟨w.heap.size, 7, none⟩ = some (.int .i64 d.until_) := by rw [hW]; simp [go_sem]
  have y8 : W.cell? ⟨w.heap.size, 8, none⟩ = some (.int .i64 d.closes) := by rw [hW]; simp [go_sem]
  have v3 : W.cell? ⟨w.heap.size + 1, 3, none⟩ = some (.string d.title) := by rw [hW]; simp [go_sem]
  have v4 : W.cell? ⟨w.heap.size + 1, 4, none⟩ = some (.int .i64 d.vote) := by rw [hW]; simp [go_sem]
  have v5 : W.cell? ⟨w.heap.size + 1, 5, none⟩ = some (.slice A4 n4 c4) := by rw [hW]; simp [go_sem]
  have v6 : W.cell? ⟨w.heap.size + 1, 6, none⟩ = some (.int .i64 d.start) := by rw [hW]; simp [go_sem]
  have v7 : W.cell? ⟨w.heap.size + 1, 7, none⟩ = some (.int .i64 d.until_) := by rw [hW]; simp [go_sem]
  have v8 : W.cell? ⟨w.heap.size + 1, 8, none⟩ = some (.int .i64 d.closes) := by rw [hW]; simp [go_sem]
  rw [← hW]
  clear hW
  have Z3 := fun y : Aft W => y.cell y3
  have Z4 := fun y : Aft W => y.cell y4
  have Z5 := fun y : Aft W => y.cell y5
  have Z6 := fun y : Aft W => y.cell y6
  have Z7 := fun y : Aft W => y.cell y7
  have Z8 := fun y : Aft W => y.cell y8
  have V3 := fun y : Aft W => y.cell v3
  have V4 := fun y : Aft W => y.cell v4
  have V5 := fun y : Aft W => y.cell v5
  have V6 := fun y : Aft W => y.cell v6
  have V7 := fun y : Aft W => y.cell v7
  have V8 := fun y : Aft W => y.cell v8
  have HE2 := Lib.hid (fun y : Aft W => h2.on (Pl.stays _) (aft_done bW y) (aft_done bW y).size)
  have HE4 := Lib.hid (fun y : Aft W => h4.on (Pl.stays _) (aft_done bW y) (aft_done bW y).size)
  have I1 := h1.on (Pl.stays _) bW bW.size
  have I3 := h3.on (Pl.stays _) bW bW.size
  clear y3 y4 y5 y6 y7 y8 v3 v4 v5 v6 v7 v8 h1 h2 h3 h4
  refine (eqInts_any d.trust A1 n1 c1 A3 n3 c3 _ I1 I3).mono ?_
  rintro e1 w1 ⟨rfl, hb1⟩
  obtain ⟨y, rfl⟩ : ∃ y : Aft W, w1 = y.val := ⟨⟨w1, hb1⟩, rfl⟩
  go_wp2_with (fail)
  refine (aft_b (eqEdits_any d.patch A2 n2 c2 A4 n4 c4 _ (HE2.out y) (HE4.out y))).mono ?_
  rintro e2 _ ⟨rfl, t, rfl⟩
  go_wp2
  go_ret
  exact ⟨rfl, aft_done bW t⟩
end Go.Proofs.YtedglaejieblhaaGreatDoor

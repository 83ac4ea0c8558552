/- Fractions: the program's exported functions. -/
import Derived.Test.YtgjlldljdkilcaaDoorFrC
namespace Go.Proofs.YtgjlldljdkilcaaDoor
open Go.RowKit

theorem ok_bd {a b : Int} (h : Ok a b) : -1000000000 ≤ a ∧ a ≤ 1000000000 ∧ 1 ≤ b ∧ b ≤ 1000000000 := ⟨h.2.2.1, h.2.2.2.1, h.1, h.2.1⟩

set_option maxHeartbeats 1000000 in
theorem add_any (a b c d p q : Int) (k : Nat) (w : World) (h1 : Ok a b) (h2 : Ok c d) (hk : 1 ≤ k) (hp : a * d + c * b = p * k) (hq : b * d = q * k) (hok : Ok p q) :
    Calls Tryd.prog 7 #[.agg #[.int .i64 a, .int .i64 b], .agg #[.int .i64 c, .int .i64 d]] w (RetB (.tuple #[.agg #[.int .i64 p, .int .i64 q], .bool true]) w) := by
  have Hp := Lib.hid hp
  have Hq := Lib.hid hq
  have H1 := Lib.hid h1
  have H2 := Lib.hid h2
  clear hp hq h1 h2
  go_enter Tryd.func7, Tryd.ntmps7
  go_wp2_with (fail)
  refine (ok2_yes _ _ _ H1.out).mono ?_
  rintro e w1 ⟨rfl, hb1⟩
  have hz1 : w.heap.size + 2 < w1.heap.size := by have := hb1.size; simp at this; omega
  have x0 := (bcell hb1).1 w.heap.size 0 (by simp; omega)
  have x1 := (bcell hb1).1 w.heap.size 1 (by simp; omega)
  have y0 := (bcell hb1).1 (w.heap.size + 1) 0 (by simp)
  have y1 := (bcell hb1).1 (w.heap.size + 1) 1 (by simp)
  have z0 := (bcell hb1).1 (w.heap.size + 2) 0 (by simp)
  have z1 := (bcell hb1).1 (w.heap.size + 2) 1 (by simp)
  have f0 := (bcell hb1).2 (w.heap.size + 2) 0 (by simp)
  have f1 := (bcell hb1).2 (w.heap.size + 2) 1 (by simp)
  simp [go_sem] at x0 x1 y0 y1 z0 z1 f0 f1
  go_wp2_with (fail)
  refine (ok2_yes _ _ _ H2.out).mono ?_
  rintro e w2 ⟨rfl, hb2⟩
  have hz2 : w.heap.size + 2 < w2.heap.size := by have := hb2.size; omega
  have x0' := ((bcell hb2).1 w.heap.size 0 (by omega)).trans x0
  have x1' := ((bcell hb2).1 w.heap.size 1 (by omega)).trans x1
  have y0' := ((bcell hb2).1 (w.heap.size + 1) 0 (by omega)).trans y0
  have y1' := ((bcell hb2).1 (w.heap.size + 1) 1 (by omega)).trans y1
  have z0' := ((bcell hb2).1 (w.heap.size + 2) 0 (by omega)).trans z0
  have z1' := ((bcell hb2).1 (w.heap.size + 2) 1 (by omega)).trans z1
  have f0' := ((bcell hb2).2 (w.heap.size + 2) 0 (by omega)).trans f0
  have f1' := ((bcell hb2).2 (w.heap.size + 2) 1 (by omega)).trans f1
  clear x0 x1 y0 y1 z0 z1 f0 f1
  go_wp2_with (fail)
  refine (plus_any _ _ _ _ p q k _ H1.out H2.out hk Hp.out Hq.out hok).mono ?_
  rintro e w3 ⟨rfl, hb3⟩
  have hz3 : w.heap.size + 2 < w3.heap.size := by have := hb3.size; omega
  have z0'' := ((bcell hb3).1 (w.heap.size + 2) 0 (by omega)).trans z0'
  have z1'' := ((bcell hb3).1 (w.heap.size + 2) 1 (by omega)).trans z1'
  have f0'' := ((bcell hb3).2 (w.heap.size + 2) 0 (by omega)).trans f0'
  have f1'' := ((bcell hb3).2 (w.heap.size + 2) 1 (by omega)).trans f1'
  clear x0' x1' y0' y1' z0' z1' f0' f1'
  go_wp2_with (fail)
  refine (told_any _ _ _ hok).mono ?_
  rintro e w4 ⟨rfl, hb4⟩
  have hz4 : w.heap.size + 2 < w4.heap.size := by have := hb4.size; omega
  have z0 := ((bcell hb4).1 (w.heap.size + 2) 0 (by omega)).trans z0''
  have z1 := ((bcell hb4).1 (w.heap.size + 2) 1 (by omega)).trans z1''
  have f0 := ((bcell hb4).2 (w.heap.size + 2) 0 (by omega)).trans f0''
  have f1 := ((bcell hb4).2 (w.heap.size + 2) 1 (by omega)).trans f1''
  clear z0'' z1'' f0'' f1''
  go_wp2
  refine bodyPost_ret (v := .tuple #[.agg #[.int .i64 p, .int .i64 q], .bool true]) (by simp [results, Tryd.results7, go_sem, z0, z1]) rfl ⟨rfl, ?_⟩
  exact (((((((((Below.refl _ _).alloc (Nat.le_refl _) _).alloc (by simp) _).alloc (by simp; omega) _).trans (hb1.mono (by simp; omega))).trans (hb2.mono (by omega))).trans (hb3.mono (by omega))).trans (hb4.mono (by omega))).setCell (by simp; omega) _).setCell (by simp; omega) _

set_option maxHeartbeats 1000000 in
theorem sub_any (a b c d p q : Int) (k : Nat) (w : World) (h1 : Ok a b) (h2 : Ok c d) (hk : 1 ≤ k) (hp : a * d + (-c) * b = p * k) (hq : b * d = q * k) (hok : Ok p q) :
    Calls Tryd.prog 8 #[.agg #[.int .i64 a, .int .i64 b], .agg #[.int .i64 c, .int .i64 d]] w (RetB (.tuple #[.agg #[.int .i64 p, .int .i64 q], .bool true]) w) := by
  have Hp := Lib.hid hp
  have Hq := Lib.hid hq
  have H1 := Lib.hid h1
  have H2 := Lib.hid h2
  clear hp hq h1 h2
  go_enter Tryd.func8, Tryd.ntmps8
  go_wp2_with (fail)
  refine (ok2_yes _ _ _ H1.out).mono ?_
  rintro e w1 ⟨rfl, hb1⟩
  have hz1 : w.heap.size + 2 < w1.heap.size := by have := hb1.size; simp at this; omega
  have x0 := (bcell hb1).1 w.heap.size 0 (by simp; omega)
  have x1 := (bcell hb1).1 w.heap.size 1 (by simp; omega)
  have y0 := (bcell hb1).1 (w.heap.size + 1) 0 (by simp)
  have y1 := (bcell hb1).1 (w.heap.size + 1) 1 (by simp)
  have z0 := (bcell hb1).1 (w.heap.size + 2) 0 (by simp)
  have z1 := (bcell hb1).1 (w.heap.size + 2) 1 (by simp)
  have f0 := (bcell hb1).2 (w.heap.size + 2) 0 (by simp)
  have f1 := (bcell hb1).2 (w.heap.size + 2) 1 (by simp)
  simp [go_sem] at x0 x1 y0 y1 z0 z1 f0 f1
  go_wp2_with (fail)
  refine (ok2_yes _ _ _ H2.out).mono ?_
  rintro e w2 ⟨rfl, hb2⟩
  have hz2 : w.heap.size + 2 < w2.heap.size := by have := hb2.size; omega
  have x0' := ((bcell hb2).1 w.heap.size 0 (by omega)).trans x0
  have x1' := ((bcell hb2).1 w.heap.size 1 (by omega)).trans x1
  have y0' := ((bcell hb2).1 (w.heap.size + 1) 0 (by omega)).trans y0
  have y1' := ((bcell hb2).1 (w.heap.size + 1) 1 (by omega)).trans y1
  have z0' := ((bcell hb2).1 (w.heap.size + 2) 0 (by omega)).trans z0
  have z1' := ((bcell hb2).1 (w.heap.size + 2) 1 (by omega)).trans z1
  have f0' := ((bcell hb2).2 (w.heap.size + 2) 0 (by omega)).trans f0
  have f1' := ((bcell hb2).2 (w.heap.size + 2) 1 (by omega)).trans f1
  clear x0 x1 y0 y1 z0 z1 f0 f1
  go_wp2_with (fail)
  refine (minus_any _ _ _ _ p q k _ H1.out H2.out hk Hp.out Hq.out hok).mono ?_
  rintro e w3 ⟨rfl, hb3⟩
  have hz3 : w.heap.size + 2 < w3.heap.size := by have := hb3.size; omega
  have z0'' := ((bcell hb3).1 (w.heap.size + 2) 0 (by omega)).trans z0'
  have z1'' := ((bcell hb3).1 (w.heap.size + 2) 1 (by omega)).trans z1'
  have f0'' := ((bcell hb3).2 (w.heap.size + 2) 0 (by omega)).trans f0'
  have f1'' := ((bcell hb3).2 (w.heap.size + 2) 1 (by omega)).trans f1'
  clear x0' x1' y0' y1' z0' z1' f0' f1'
  go_wp2_with (fail)
  refine (told_any _ _ _ hok).mono ?_
  rintro e w4 ⟨rfl, hb4⟩
  have hz4 : w.heap.size + 2 < w4.heap.size := by have := hb4.size; omega
  have z0 := ((bcell hb4).1 (w.heap.size + 2) 0 (by omega)).trans z0''
  have z1 := ((bcell hb4).1 (w.heap.size + 2) 1 (by omega)).trans z1''
  have f0 := ((bcell hb4).2 (w.heap.size + 2) 0 (by omega)).trans f0''
  have f1 := ((bcell hb4).2 (w.heap.size + 2) 1 (by omega)).trans f1''
  clear z0'' z1'' f0'' f1''
  go_wp2
  refine bodyPost_ret (v := .tuple #[.agg #[.int .i64 p, .int .i64 q], .bool true]) (by simp [results, Tryd.results8, go_sem, z0, z1]) rfl ⟨rfl, ?_⟩
  exact (((((((((Below.refl _ _).alloc (Nat.le_refl _) _).alloc (by simp) _).alloc (by simp; omega) _).trans (hb1.mono (by simp; omega))).trans (hb2.mono (by omega))).trans (hb3.mono (by omega))).trans (hb4.mono (by omega))).setCell (by simp; omega) _).setCell (by simp; omega) _

set_option maxHeartbeats 1000000 in
theorem mul_any (a b c d p q : Int) (k : Nat) (w : World) (h1 : Ok a b) (h2 : Ok c d) (hk : 1 ≤ k) (hp : a * c = p * k) (hq : b * d = q * k) (hok : Ok p q) :
    Calls Tryd.prog 12 #[.agg #[.int .i64 a, .int .i64 b], .agg #[.int .i64 c, .int .i64 d]] w (RetB (.tuple #[.agg #[.int .i64 p, .int .i64 q], .bool true]) w) := by
  have Hp := Lib.hid hp
  have Hq := Lib.hid hq
  have H1 := Lib.hid h1
  have H2 := Lib.hid h2
  clear hp hq h1 h2
  go_enter Tryd.func12, Tryd.ntmps12
  go_wp2_with (fail)
  refine (ok2_yes _ _ _ H1.out).mono ?_
  rintro e w1 ⟨rfl, hb1⟩
  have hz1 : w.heap.size + 2 < w1.heap.size := by have := hb1.size; simp at this; omega
  have x0 := (bcell hb1).1 w.heap.size 0 (by simp; omega)
  have x1 := (bcell hb1).1 w.heap.size 1 (by simp; omega)
  have y0 := (bcell hb1).1 (w.heap.size + 1) 0 (by simp)
  have y1 := (bcell hb1).1 (w.heap.size + 1) 1 (by simp)
  have z0 := (bcell hb1).1 (w.heap.size + 2) 0 (by simp)
  have z1 := (bcell hb1).1 (w.heap.size + 2) 1 (by simp)
  have f0 := (bcell hb1).2 (w.heap.size + 2) 0 (by simp)
  have f1 := (bcell hb1).2 (w.heap.size + 2) 1 (by simp)
  simp [go_sem] at x0 x1 y0 y1 z0 z1 f0 f1
  go_wp2_with (fail)
  refine (ok2_yes _ _ _ H2.out).mono ?_
  rintro e w2 ⟨rfl, hb2⟩
  have hz2 : w.heap.size + 2 < w2.heap.size := by have := hb2.size; omega
  have x0' := ((bcell hb2).1 w.heap.size 0 (by omega)).trans x0
  have x1' := ((bcell hb2).1 w.heap.size 1 (by omega)).trans x1
  have y0' := ((bcell hb2).1 (w.heap.size + 1) 0 (by omega)).trans y0
  have y1' := ((bcell hb2).1 (w.heap.size + 1) 1 (by omega)).trans y1
  have z0' := ((bcell hb2).1 (w.heap.size + 2) 0 (by omega)).trans z0
  have z1' := ((bcell hb2).1 (w.heap.size + 2) 1 (by omega)).trans z1
  have f0' := ((bcell hb2).2 (w.heap.size + 2) 0 (by omega)).trans f0
  have f1' := ((bcell hb2).2 (w.heap.size + 2) 1 (by omega)).trans f1
  clear x0 x1 y0 y1 z0 z1 f0 f1
  go_wp2_with (fail)
  refine (times_any _ _ _ _ p q k _ H1.out H2.out hk Hp.out Hq.out hok).mono ?_
  rintro e w3 ⟨rfl, hb3⟩
  have hz3 : w.heap.size + 2 < w3.heap.size := by have := hb3.size; omega
  have z0'' := ((bcell hb3).1 (w.heap.size + 2) 0 (by omega)).trans z0'
  have z1'' := ((bcell hb3).1 (w.heap.size + 2) 1 (by omega)).trans z1'
  have f0'' := ((bcell hb3).2 (w.heap.size + 2) 0 (by omega)).trans f0'
  have f1'' := ((bcell hb3).2 (w.heap.size + 2) 1 (by omega)).trans f1'
  clear x0' x1' y0' y1' z0' z1' f0' f1'
  go_wp2_with (fail)
  refine (told_any _ _ _ hok).mono ?_
  rintro e w4 ⟨rfl, hb4⟩
  have hz4 : w.heap.size + 2 < w4.heap.size := by have := hb4.size; omega
  have z0 := ((bcell hb4).1 (w.heap.size + 2) 0 (by omega)).trans z0''
  have z1 := ((bcell hb4).1 (w.heap.size + 2) 1 (by omega)).trans z1''
  have f0 := ((bcell hb4).2 (w.heap.size + 2) 0 (by omega)).trans f0''
  have f1 := ((bcell hb4).2 (w.heap.size + 2) 1 (by omega)).trans f1''
  clear z0'' z1'' f0'' f1''
  go_wp2
  refine bodyPost_ret (v := .tuple #[.agg #[.int .i64 p, .int .i64 q], .bool true]) (by simp [results, Tryd.results12, go_sem, z0, z1]) rfl ⟨rfl, ?_⟩
  exact (((((((((Below.refl _ _).alloc (Nat.le_refl _) _).alloc (by simp) _).alloc (by simp; omega) _).trans (hb1.mono (by simp; omega))).trans (hb2.mono (by omega))).trans (hb3.mono (by omega))).trans (hb4.mono (by omega))).setCell (by simp; omega) _).setCell (by simp; omega) _

set_option maxHeartbeats 1000000 in
theorem div_pos (a b c d p q : Int) (k : Nat) (w : World) (h1 : Ok a b) (h2 : Ok c d) (hcc : 0 < c) (hk : 1 ≤ k) (hp : a * d = p * k) (hq : b * c = q * k) (hok : Ok p q) :
    Calls Tryd.prog 13 #[.agg #[.int .i64 a, .int .i64 b], .agg #[.int .i64 c, .int .i64 d]] w (RetB (.tuple #[.agg #[.int .i64 p, .int .i64 q], .bool true]) w) := by
  have Hp := Lib.hid hp
  have Hq := Lib.hid hq
  have H1 := Lib.hid h1
  have H2 := Lib.hid h2
  clear hp hq h1 h2
  have hc0 : (c == 0) = false := by simp; omega
  go_enter Tryd.func13, Tryd.ntmps13
  go_wp2_with (fail)
  refine (ok2_yes _ _ _ H1.out).mono ?_
  rintro e w1 ⟨rfl, hb1⟩
  have hz1 : w.heap.size + 2 < w1.heap.size := by have := hb1.size; simp at this; omega
  have x0 := (bcell hb1).1 w.heap.size 0 (by simp; omega)
  have x1 := (bcell hb1).1 w.heap.size 1 (by simp; omega)
  have y0 := (bcell hb1).1 (w.heap.size + 1) 0 (by simp)
  have y1 := (bcell hb1).1 (w.heap.size + 1) 1 (by simp)
  have z0 := (bcell hb1).1 (w.heap.size + 2) 0 (by simp)
  have z1 := (bcell hb1).1 (w.heap.size + 2) 1 (by simp)
  have f0 := (bcell hb1).2 (w.heap.size + 2) 0 (by simp)
  have f1 := (bcell hb1).2 (w.heap.size + 2) 1 (by simp)
  simp [go_sem] at x0 x1 y0 y1 z0 z1 f0 f1
  go_wp2_with (fail)
  refine (ok2_yes _ _ _ H2.out).mono ?_
  rintro e w2 ⟨rfl, hb2⟩
  have hz2 : w.heap.size + 2 < w2.heap.size := by have := hb2.size; omega
  have x0' := ((bcell hb2).1 w.heap.size 0 (by omega)).trans x0
  have x1' := ((bcell hb2).1 w.heap.size 1 (by omega)).trans x1
  have y0' := ((bcell hb2).1 (w.heap.size + 1) 0 (by omega)).trans y0
  have y1' := ((bcell hb2).1 (w.heap.size + 1) 1 (by omega)).trans y1
  have z0' := ((bcell hb2).1 (w.heap.size + 2) 0 (by omega)).trans z0
  have z1' := ((bcell hb2).1 (w.heap.size + 2) 1 (by omega)).trans z1
  have f0' := ((bcell hb2).2 (w.heap.size + 2) 0 (by omega)).trans f0
  have f1' := ((bcell hb2).2 (w.heap.size + 2) 1 (by omega)).trans f1
  clear x0 x1 y0 y1 z0 z1 f0 f1
  go_wp2_with (fail)
  refine (over_pos _ _ _ _ p q k _ H1.out H2.out hcc hk Hp.out Hq.out hok).mono ?_
  rintro e w3 ⟨rfl, hb3⟩
  have hz3 : w.heap.size + 2 < w3.heap.size := by have := hb3.size; omega
  have z0'' := ((bcell hb3).1 (w.heap.size + 2) 0 (by omega)).trans z0'
  have z1'' := ((bcell hb3).1 (w.heap.size + 2) 1 (by omega)).trans z1'
  have f0'' := ((bcell hb3).2 (w.heap.size + 2) 0 (by omega)).trans f0'
  have f1'' := ((bcell hb3).2 (w.heap.size + 2) 1 (by omega)).trans f1'
  clear x0' x1' y0' y1' z0' z1' f0' f1'
  go_wp2_with (fail)
  refine (told_any _ _ _ hok).mono ?_
  rintro e w4 ⟨rfl, hb4⟩
  have hz4 : w.heap.size + 2 < w4.heap.size := by have := hb4.size; omega
  have z0 := ((bcell hb4).1 (w.heap.size + 2) 0 (by omega)).trans z0''
  have z1 := ((bcell hb4).1 (w.heap.size + 2) 1 (by omega)).trans z1''
  have f0 := ((bcell hb4).2 (w.heap.size + 2) 0 (by omega)).trans f0''
  have f1 := ((bcell hb4).2 (w.heap.size + 2) 1 (by omega)).trans f1''
  clear z0'' z1'' f0'' f1''
  go_wp2
  refine bodyPost_ret (v := .tuple #[.agg #[.int .i64 p, .int .i64 q], .bool true]) (by simp [results, Tryd.results13, go_sem, z0, z1]) rfl ⟨rfl, ?_⟩
  exact (((((((((Below.refl _ _).alloc (Nat.le_refl _) _).alloc (by simp) _).alloc (by simp; omega) _).trans (hb1.mono (by simp; omega))).trans (hb2.mono (by omega))).trans (hb3.mono (by omega))).trans (hb4.mono (by omega))).setCell (by simp; omega) _).setCell (by simp; omega) _

set_option maxHeartbeats 1000000 in
theorem div_neg (a b c d p q : Int) (k : Nat) (w : World) (h1 : Ok a b) (h2 : Ok c d) (hcc : c < 0) (hk : 1 ≤ k) (hp : (-a) * d = p * k) (hq : (-b) * c = q * k) (hok : Ok p q) :
    Calls Tryd.prog 13 #[.agg #[.int .i64 a, .int .i64 b], .agg #[.int .i64 c, .int .i64 d]] w (RetB (.tuple #[.agg #[.int .i64 p, .int .i64 q], .bool true]) w) := by
  have Hp := Lib.hid hp
  have Hq := Lib.hid hq
  have H1 := Lib.hid h1
  have H2 := Lib.hid h2
  clear hp hq h1 h2
  have hc0 : (c == 0) = false := by simp; omega
  go_enter Tryd.func13, Tryd.ntmps13
  go_wp2_with (fail)
  refine (ok2_yes _ _ _ H1.out).mono ?_
  rintro e w1 ⟨rfl, hb1⟩
  have hz1 : w.heap.size + 2 < w1.heap.size := by have := hb1.size; simp at this; omega
  have x0 := (bcell hb1).1 w.heap.size 0 (by simp; omega)
  have x1 := (bcell hb1).1 w.heap.size 1 (by simp; omega)
  have y0 := (bcell hb1).1 (w.heap.size + 1) 0 (by simp)
  have y1 := (bcell hb1).1 (w.heap.size + 1) 1 (by simp)
  have z0 := (bcell hb1).1 (w.heap.size + 2) 0 (by simp)
  have z1 := (bcell hb1).1 (w.heap.size + 2) 1 (by simp)
  have f0 := (bcell hb1).2 (w.heap.size + 2) 0 (by simp)
  have f1 := (bcell hb1).2 (w.heap.size + 2) 1 (by simp)
  simp [go_sem] at x0 x1 y0 y1 z0 z1 f0 f1
  go_wp2_with (fail)
  refine (ok2_yes _ _ _ H2.out).mono ?_
  rintro e w2 ⟨rfl, hb2⟩
  have hz2 : w.heap.size + 2 < w2.heap.size := by have := hb2.size; omega
  have x0' := ((bcell hb2).1 w.heap.size 0 (by omega)).trans x0
  have x1' := ((bcell hb2).1 w.heap.size 1 (by omega)).trans x1
  have y0' := ((bcell hb2).1 (w.heap.size + 1) 0 (by omega)).trans y0
  have y1' := ((bcell hb2).1 (w.heap.size + 1) 1 (by omega)).trans y1
  have z0' := ((bcell hb2).1 (w.heap.size + 2) 0 (by omega)).trans z0
  have z1' := ((bcell hb2).1 (w.heap.size + 2) 1 (by omega)).trans z1
  have f0' := ((bcell hb2).2 (w.heap.size + 2) 0 (by omega)).trans f0
  have f1' := ((bcell hb2).2 (w.heap.size + 2) 1 (by omega)).trans f1
  clear x0 x1 y0 y1 z0 z1 f0 f1
  go_wp2_with (fail)
  refine (over_neg _ _ _ _ p q k _ H1.out H2.out hcc hk Hp.out Hq.out hok).mono ?_
  rintro e w3 ⟨rfl, hb3⟩
  have hz3 : w.heap.size + 2 < w3.heap.size := by have := hb3.size; omega
  have z0'' := ((bcell hb3).1 (w.heap.size + 2) 0 (by omega)).trans z0'
  have z1'' := ((bcell hb3).1 (w.heap.size + 2) 1 (by omega)).trans z1'
  have f0'' := ((bcell hb3).2 (w.heap.size + 2) 0 (by omega)).trans f0'
  have f1'' := ((bcell hb3).2 (w.heap.size + 2) 1 (by omega)).trans f1'
  clear x0' x1' y0' y1' z0' z1' f0' f1'
  go_wp2_with (fail)
  refine (told_any _ _ _ hok).mono ?_
  rintro e w4 ⟨rfl, hb4⟩
  have hz4 : w.heap.size + 2 < w4.heap.size := by have := hb4.size; omega
  have z0 := ((bcell hb4).1 (w.heap.size + 2) 0 (by omega)).trans z0''
  have z1 := ((bcell hb4).1 (w.heap.size + 2) 1 (by omega)).trans z1''
  have f0 := ((bcell hb4).2 (w.heap.size + 2) 0 (by omega)).trans f0''
  have f1 := ((bcell hb4).2 (w.heap.size + 2) 1 (by omega)).trans f1''
  clear z0'' z1'' f0'' f1''
  go_wp2
  refine bodyPost_ret (v := .tuple #[.agg #[.int .i64 p, .int .i64 q], .bool true]) (by simp [results, Tryd.results13, go_sem, z0, z1]) rfl ⟨rfl, ?_⟩
  exact (((((((((Below.refl _ _).alloc (Nat.le_refl _) _).alloc (by simp) _).alloc (by simp; omega) _).trans (hb1.mono (by simp; omega))).trans (hb2.mono (by omega))).trans (hb3.mono (by omega))).trans (hb4.mono (by omega))).setCell (by simp; omega) _).setCell (by simp; omega) _

set_option maxHeartbeats 1000000 in
theorem cmp_any (a b c d : Int) (w : World) (h1 : Ok a b) (h2 : Ok c d) :
    Calls Tryd.prog 9 #[.agg #[.int .i64 a, .int .i64 b], .agg #[.int .i64 c, .int .i64 d]] w (RetB (.tuple #[.int .i64 (cmpI (a * d) (c * b)), .bool true]) w) := by
  have H1 := Lib.hid h1
  have H2 := Lib.hid h2
  clear h1 h2
  go_enter Tryd.func9, Tryd.ntmps9
  go_wp2_with (fail)
  refine (ok2_yes _ _ _ H1.out).mono ?_
  rintro e w1 ⟨rfl, hb1⟩
  have hz1 : w.heap.size + 1 < w1.heap.size := by have := hb1.size; simp at this; omega
  have x0 := (bcell hb1).1 w.heap.size 0 (by simp; omega)
  have x1 := (bcell hb1).1 w.heap.size 1 (by simp; omega)
  have y0 := (bcell hb1).1 (w.heap.size + 1) 0 (by simp)
  have y1 := (bcell hb1).1 (w.heap.size + 1) 1 (by simp)
  simp [go_sem] at x0 x1 y0 y1
  go_wp2_with (fail)
  refine (ok2_yes _ _ _ H2.out).mono ?_
  rintro e w2 ⟨rfl, hb2⟩
  have hz2 : w.heap.size + 1 < w2.heap.size := by have := hb2.size; omega
  have x0' := ((bcell hb2).1 w.heap.size 0 (by omega)).trans x0
  have x1' := ((bcell hb2).1 w.heap.size 1 (by omega)).trans x1
  have y0' := ((bcell hb2).1 (w.heap.size + 1) 0 (by omega)).trans y0
  have y1' := ((bcell hb2).1 (w.heap.size + 1) 1 (by omega)).trans y1
  clear x0 x1 y0 y1
  go_wp2_with (fail)
  refine (compare_any _ _ _ _ _ H1.out H2.out).mono ?_
  rintro e w3 ⟨rfl, hb3⟩
  go_wp2
  go_ret2
  exact ⟨rfl, ((((Below.refl _ _).alloc (Nat.le_refl _) _).alloc (by simp) _).trans (hb1.mono (by simp; omega))).trans ((hb2.mono (by omega)).trans (hb3.mono (by omega)))⟩

def FloorOfPost (n d : Int) (w : World) (e : Ending) (w' : World) : Prop := ∃ x : Int, e = .returned (.tuple #[.int .i64 x, .bool true]) ∧ Below w.heap.size w w' ∧ x * d ≤ n ∧ n < (x + 1) * d ∧ -1000000001 ≤ x ∧ x ≤ 1000000000

set_option maxHeartbeats 1000000 in
theorem floorOf_any (a b : Int) (w : World) (h1 : Ok a b) :
    Calls Tryd.prog 14 #[.agg #[.int .i64 a, .int .i64 b]] w (FloorOfPost a b w) := by
  have H1 := Lib.hid h1
  obtain ⟨ha1, ha2, hb1, hb2⟩ := ok_bd h1
  clear h1
  go_enter Tryd.func14, Tryd.ntmps14
  go_wp2_with (fail)
  refine (ok2_yes _ _ _ H1.out).mono ?_
  rintro e w1 ⟨rfl, hb1⟩
  have hz1 : w.heap.size < w1.heap.size := by have := hb1.size; simp at this; omega
  have x0 := (bcell hb1).1 w.heap.size 0 (by simp)
  have x1 := (bcell hb1).1 w.heap.size 1 (by simp)
  simp [go_sem] at x0 x1
  go_wp2_with (fail)
  refine (floor_any _ _ _ (by omega) (by omega) (by omega) (by omega)).mono ?_
  rintro e w2 ⟨x, rfl, rfl, hx1, hx2, hx3, hx4⟩
  have X1 := Lib.hid hx1
  have X2 := Lib.hid hx2
  clear hx1 hx2
  go_wp2
  go_ret2
  exact ⟨x, rfl, ((Below.refl _ _).alloc (Nat.le_refl _) _).trans (hb1.mono (by simp)), X1.out, X2.out, hx3, hx4⟩
end Go.Proofs.YtgjlldljdkilcaaDoor

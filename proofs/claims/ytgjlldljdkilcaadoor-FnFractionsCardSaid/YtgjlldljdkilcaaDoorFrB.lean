/- Fractions: the walks of the program's arithmetic. -/
import Derived.Test.YtgjlldljdkilcaaDoorFrA
namespace Go.Proofs.YtgjlldljdkilcaaDoor
open Go.RowKit

set_option maxHeartbeats 1000000 in
theorem frac_any (n d p q : Int) (k : Nat) (w : World) (hn : -2000000000000000000 ≤ n) (hn' : n ≤ 2000000000000000000) (hd : 1 ≤ d) (hd' : d ≤ 2000000000000000000) (hk : 1 ≤ k) (hp : n = p * k) (hq : d = q * k) (hok : Ok p q) :
    Calls Tryd.prog 51 #[.int .i64 n, .int .i64 d] w (RetB (.agg #[.int .i64 p, .int .i64 q]) w) := by
  have e1 := (quo_exact n p k (by omega) hp)
  have e2 := (quo_exact d q k (by omega) hq)
  have hg : Nat.gcd n.natAbs d.natAbs = k := by
    rw [hp, hq, Int.natAbs_mul, Int.natAbs_mul]
    exact gcd_mul _ _ _ hok.2.2.2.2
  have hk2 : k ≤ 2000000000000000000 := by
    rw [← hg]
    exact Nat.le_trans (Nat.gcd_le_right _ (by omega)) (by omega)
  obtain ⟨m, rfl⟩ := Int.eq_ofNat_of_zero_le (show 0 ≤ d by omega)
  have hg : Nat.gcd n.natAbs m = k := hg
  have hp1 : -1000000000 ≤ p := hok.2.2.1
  have hp2 : p ≤ 1000000000 := hok.2.2.2.1
  have hq1 : 1 ≤ q := hok.1
  have hq2 : q ≤ 1000000000 := hok.2.1
  have h1 : k = 1 → n = p ∧ (m : Int) = q := by rintro rfl; omega
  have H1 := Lib.hid h1
  have E1 := Lib.hid e1
  have E2 := Lib.hid e2
  have HG := Lib.hid hg
  clear hp hq e1 e2 hg h1 hok
  have hk1 : (1 : Int) ≤ (k : Int) := by omega
  have hk0 : ((k : Int) == 0) = false := by simp; omega
  by_cases hlt : 1 < k
  · have hlt' : (1 : Int) < (k : Int) := by omega
    go_enter Tryd.func51, Tryd.ntmps51
    go_wp2_with (fail)
    refine (abs2_any _ _ (by omega) (by omega)).mono ?_
    rintro e w1 ⟨rfl, rfl⟩
    go_wp2_with (fail)
    refine (gcd2_any _ _ _ (by omega) (by omega)).mono ?_
    rintro e w1 ⟨rfl, kk, rfl⟩
    rw [HG.out]
    go_wp2
    have e11 := E1.out.1
    have e12 := E1.out.2
    have e21 := E2.out.1
    have e22 := E2.out.2
    go_quiet (fail)
    go_wp2
    refine bodyPost_ret (v := .agg #[.int .i64 p, .int .i64 q]) (by simp [results, Tryd.results51, go_sem]) rfl ⟨rfl, ?_⟩
    exact ((below_drewN ((Below.refl _ _).alloc (Nat.le_refl _) _) _).setCell (by simp) _).setCell (by simp) _
  · obtain rfl : k = 1 := by omega
    obtain ⟨rfl, h2⟩ := H1.out rfl
    subst h2
    go_enter Tryd.func51, Tryd.ntmps51
    go_wp2_with (fail)
    refine (abs2_any _ _ (by omega) (by omega)).mono ?_
    rintro e w1 ⟨rfl, rfl⟩
    go_wp2_with (fail)
    refine (gcd2_any _ _ _ (by omega) (by omega)).mono ?_
    rintro e w1 ⟨rfl, kk, rfl⟩
    rw [HG.out]
    go_wp2
    refine bodyPost_ret (v := .agg #[.int .i64 n, .int .i64 m]) (by simp [results, Tryd.results51, go_sem]) rfl ⟨rfl, ?_⟩
    exact ((below_drewN ((Below.refl _ _).alloc (Nat.le_refl _) _) _).setCell (by simp) _).setCell (by simp) _

set_option maxHeartbeats 1000000 in
theorem told_any (p q : Int) (w : World) (hok : Ok p q) :
    Calls Tryd.prog 24 #[.agg #[.int .i64 p, .int .i64 q]] w (RetB (.tuple #[.agg #[.int .i64 p, .int .i64 q], .bool true]) w) := by
  go_enter Tryd.func24, Tryd.ntmps24
  go_wp2_with (fail)
  refine (ok2_yes _ _ _ hok).mono ?_
  rintro e w1 ⟨rfl, hb⟩
  obtain ⟨hc, hf⟩ := bcell hb
  have hz : w.heap.size + 1 < w1.heap.size := by have := hb.size; simp at this; omega
  have k0 := hc w.heap.size 0 (by simp; omega)
  have k1 := hc w.heap.size 1 (by simp; omega)
  have k2 := hc (w.heap.size + 1) 0 (by simp)
  have k3 := hc (w.heap.size + 1) 1 (by simp)
  have g2 := hf (w.heap.size + 1) 0 (by simp)
  have g3 := hf (w.heap.size + 1) 1 (by simp)
  simp [go_sem] at k0 k1 k2 k3 g2 g3
  clear hc hf
  go_wp2
  refine bodyPost_ret (v := .tuple #[.agg #[.int .i64 p, .int .i64 q], .bool true]) (by simp [results, Tryd.results24, go_sem, k2, k3]) rfl ⟨rfl, ?_⟩
  exact (((((Below.refl _ _).alloc (Nat.le_refl _) _).alloc (by simp) _).trans (hb.mono (by simp; omega))).setCell (by simp) _).setCell (by simp) _

theorem mul_bd (x y : Int) (h1 : -1000000000 ≤ x) (h2 : x ≤ 1000000000) (h3 : -1000000000 ≤ y) (h4 : y ≤ 1000000000) : -1000000000000000000 ≤ x * y ∧ x * y ≤ 1000000000000000000 := by
  have e : (x * y).natAbs = x.natAbs * y.natAbs := Int.natAbs_mul x y
  have h : x.natAbs * y.natAbs ≤ 1000000000 * 1000000000 := Nat.mul_le_mul (by omega) (by omega)
  rw [← e] at h
  omega

set_option maxHeartbeats 1000000 in
theorem plus_any (a b c d p q : Int) (k : Nat) (w : World) (h1 : Ok a b) (h2 : Ok c d) (hk : 1 ≤ k) (hp : a * d + c * b = p * k) (hq : b * d = q * k) (hok : Ok p q) :
    Calls Tryd.prog 25 #[.agg #[.int .i64 a, .int .i64 b], .agg #[.int .i64 c, .int .i64 d]] w (RetB (.agg #[.int .i64 p, .int .i64 q]) w) := by
  obtain ⟨hb1, hb2, ha1, ha2, _⟩ := h1
  obtain ⟨hd1, hd2, hc1, hc2, _⟩ := h2
  have m0 := mul_bd (a) (d) (by omega) (by omega) (by omega) (by omega)
  have m01 := m0.1
  have m02 := m0.2
  clear m0
  have m1 := mul_bd (c) (b) (by omega) (by omega) (by omega) (by omega)
  have m11 := m1.1
  have m12 := m1.2
  clear m1
  have m2 := mul_bd (b) (d) (by omega) (by omega) (by omega) (by omega)
  have m21 := m2.1
  have m22 := m2.2
  clear m2
  have Hp := Lib.hid hp
  have Hq := Lib.hid hq
  clear hp hq
  go_enter Tryd.func25, Tryd.ntmps25
  go_wp2_with (fail)
  refine (frac_any _ _ p q k _ (by omega) (by omega) ?_ (by omega) hk Hp.out Hq.out hok).mono ?_
  · have := Int.mul_pos (show 0 < b by omega) (show 0 < d by omega); omega
  rintro e w1 ⟨rfl, hb⟩
  obtain ⟨hc, hf⟩ := bcell hb
  have hz : w.heap.size + 2 < w1.heap.size := by have := hb.size; simp at this; omega
  have k0 := hc (w.heap.size + 2) 0 (by simp)
  have k1 := hc (w.heap.size + 2) 1 (by simp)
  have g0 := hf (w.heap.size + 2) 0 (by simp)
  have g1 := hf (w.heap.size + 2) 1 (by simp)
  simp [go_sem] at k0 k1 g0 g1
  clear hc hf
  go_wp2
  refine bodyPost_ret (v := .agg #[.int .i64 p, .int .i64 q]) (by simp [results, Tryd.results25, go_sem, k0, k1]) rfl ⟨rfl, ?_⟩
  exact (((((Below.refl _ _).alloc (Nat.le_refl _) _).alloc (by simp) _).alloc (by simp; omega) _).trans (hb.mono (by simp; omega))).setCell (by simp; omega) _ |>.setCell (by simp; omega) _

set_option maxHeartbeats 1000000 in
theorem times_any (a b c d p q : Int) (k : Nat) (w : World) (h1 : Ok a b) (h2 : Ok c d) (hk : 1 ≤ k) (hp : a * c = p * k) (hq : b * d = q * k) (hok : Ok p q) :
    Calls Tryd.prog 31 #[.agg #[.int .i64 a, .int .i64 b], .agg #[.int .i64 c, .int .i64 d]] w (RetB (.agg #[.int .i64 p, .int .i64 q]) w) := by
  obtain ⟨hb1, hb2, ha1, ha2, _⟩ := h1
  obtain ⟨hd1, hd2, hc1, hc2, _⟩ := h2
  have m0 := mul_bd (a) (c) (by omega) (by omega) (by omega) (by omega)
  have m01 := m0.1
  have m02 := m0.2
  clear m0
  have m1 := mul_bd (b) (d) (by omega) (by omega) (by omega) (by omega)
  have m11 := m1.1
  have m12 := m1.2
  clear m1
  have Hp := Lib.hid hp
  have Hq := Lib.hid hq
  clear hp hq
  go_enter Tryd.func31, Tryd.ntmps31
  go_wp2_with (fail)
  refine (frac_any _ _ p q k _ (by omega) (by omega) ?_ (by omega) hk Hp.out Hq.out hok).mono ?_
  · have := Int.mul_pos (show 0 < b by omega) (show 0 < d by omega); omega
  rintro e w1 ⟨rfl, hb⟩
  obtain ⟨hc, hf⟩ := bcell hb
  have hz : w.heap.size + 2 < w1.heap.size := by have := hb.size; simp at this; omega
  have k0 := hc (w.heap.size + 2) 0 (by simp)
  have k1 := hc (w.heap.size + 2) 1 (by simp)
  have g0 := hf (w.heap.size + 2) 0 (by simp)
  have g1 := hf (w.heap.size + 2) 1 (by simp)
  simp [go_sem] at k0 k1 g0 g1
  clear hc hf
  go_wp2
  refine bodyPost_ret (v := .agg #[.int .i64 p, .int .i64 q]) (by simp [results, Tryd.results31, go_sem, k0, k1]) rfl ⟨rfl, ?_⟩
  exact (((((Below.refl _ _).alloc (Nat.le_refl _) _).alloc (by simp) _).alloc (by simp; omega) _).trans (hb.mono (by simp; omega))).setCell (by simp; omega) _ |>.setCell (by simp; omega) _

end Go.Proofs.YtgjlldljdkilcaaDoor

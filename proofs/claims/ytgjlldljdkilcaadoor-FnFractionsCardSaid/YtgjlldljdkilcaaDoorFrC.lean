/- Fractions: the program's public functions. -/
import Derived.Test.YtgjlldljdkilcaaDoorFrB
namespace Go.Proofs.YtgjlldljdkilcaaDoor
open Go.RowKit

set_option maxHeartbeats 1000000 in
theorem minus_any (a b c d p q : Int) (k : Nat) (w : World) (h1 : Ok a b) (h2 : Ok c d) (hk : 1 ≤ k) (hp : a * d + (-c) * b = p * k) (hq : b * d = q * k) (hok : Ok p q) :
    Calls Tryd.prog 26 #[.agg #[.int .i64 a, .int .i64 b], .agg #[.int .i64 c, .int .i64 d]] w (RetB (.agg #[.int .i64 p, .int .i64 q]) w) := by
  have h3 : Ok (-c) d := ⟨h2.1, h2.2.1, by have := h2.2.2.2.1; omega, by have := h2.2.2.1; omega, by rw [Int.natAbs_neg]; exact h2.2.2.2.2⟩
  obtain ⟨hd1, hd2, hc1, hc2, _⟩ := h2
  have Hp := Lib.hid hp
  have Hq := Lib.hid hq
  have H1 := Lib.hid h1
  have H3 := Lib.hid h3
  clear hp hq h1 h3
  go_enter Tryd.func26, Tryd.ntmps26
  go_wp2_with (fail)
  refine (plus_any _ _ _ _ p q k _ H1.out H3.out hk Hp.out Hq.out hok).mono ?_
  rintro e w1 ⟨rfl, hb⟩
  obtain ⟨hc, hf⟩ := bcell hb
  have hz : w.heap.size + 2 < w1.heap.size := by have := hb.size; simp at this; omega
  have k0 := hc (w.heap.size + 2) 0 (by simp)
  have k1 := hc (w.heap.size + 2) 1 (by simp)
  have g0 := hf (w.heap.size + 2) 0 (by simp)
  have g1 := hf (w.heap.size + 2) 1 (by simp)
  simp [go_sem] at k0 k1 g0 g1
  clear hc hf
  go_wp2
  refine bodyPost_ret (v := .agg #[.int .i64 p, .int .i64 q]) (by simp [results, Tryd.results26, go_sem, k0, k1]) rfl ⟨rfl, ?_⟩
  exact (((((Below.refl _ _).alloc (Nat.le_refl _) _).alloc (by simp) _).alloc (by simp; omega) _).trans (hb.mono (by simp; omega))).setCell (by simp; omega) _ |>.setCell (by simp; omega) _

set_option maxHeartbeats 1000000 in
theorem over_pos (a b c d p q : Int) (k : Nat) (w : World) (h1 : Ok a b) (h2 : Ok c d) (hcc : 0 < c) (hk : 1 ≤ k) (hp : a * d = p * k) (hq : b * c = q * k) (hok : Ok p q) :
    Calls Tryd.prog 32 #[.agg #[.int .i64 a, .int .i64 b], .agg #[.int .i64 c, .int .i64 d]] w (RetB (.agg #[.int .i64 p, .int .i64 q]) w) := by
  obtain ⟨hb1, hb2, ha1, ha2, _⟩ := h1
  obtain ⟨hd1, hd2, hc1, hc2, _⟩ := h2
  have m0 := mul_bd (a) (d) (by omega) (by omega) (by omega) (by omega)
  have m01 := m0.1
  have m02 := m0.2
  clear m0
  have m1 := mul_bd (b) (c) (by omega) (by omega) (by omega) (by omega)
  have m11 := m1.1
  have m12 := m1.2
  clear m1
  have hge : 1 ≤ b * c := by
    have := Int.mul_pos (show 0 < b by omega) (show 0 < c by omega); omega
  have Hp := Lib.hid hp
  have Hq := Lib.hid hq
  clear hp hq
  go_enter Tryd.func32, Tryd.ntmps32
  go_wp2_with (fail)
  refine (frac_any _ _ p q k _ (by omega) (by omega) (by omega) (by omega) hk Hp.out Hq.out hok).mono ?_
  rintro e w1 ⟨rfl, hb⟩
  obtain ⟨hc, hf⟩ := bcell hb
  have hz : w.heap.size + 2 < w1.heap.size := by have := hb.size; simp at this; omega
  have k0 := hc (w.heap.size + 2) 0 (by simp)
  have k1 := hc (w.heap.size + 2) 1 (by simp)
  have g0 := hf (w.heap.size + 2) 0 (by simp)
  have g1 := hf (w.heap.size + 2) 1 (by simp)
  simp [go_sem] at k0 k1 g0 g1
  clear hc hf
  go_wp2
  refine bodyPost_ret (v := .agg #[.int .i64 p, .int .i64 q]) (by simp [results, Tryd.results32, go_sem, k0, k1]) rfl ⟨rfl, ?_⟩
  exact (((((Below.refl _ _).alloc (Nat.le_refl _) _).alloc (by simp) _).alloc (by simp; omega) _).trans (hb.mono (by simp; omega))).setCell (by simp; omega) _ |>.setCell (by simp; omega) _

set_option maxHeartbeats 1000000 in
theorem over_neg (a b c d p q : Int) (k : Nat) (w : World) (h1 : Ok a b) (h2 : Ok c d) (hcc : c < 0) (hk : 1 ≤ k) (hp : (-a) * d = p * k) (hq : (-b) * c = q * k) (hok : Ok p q) :
    Calls Tryd.prog 32 #[.agg #[.int .i64 a, .int .i64 b], .agg #[.int .i64 c, .int .i64 d]] w (RetB (.agg #[.int .i64 p, .int .i64 q]) w) := by
  obtain ⟨hb1, hb2, ha1, ha2, _⟩ := h1
  obtain ⟨hd1, hd2, hc1, hc2, _⟩ := h2
  have m0 := mul_bd (-a) (d) (by omega) (by omega) (by omega) (by omega)
  have m01 := m0.1
  have m02 := m0.2
  clear m0
  have m1 := mul_bd (-b) (c) (by omega) (by omega) (by omega) (by omega)
  have m11 := m1.1
  have m12 := m1.2
  clear m1
  have hge : 1 ≤ (-b) * c := by
    have := Int.mul_pos (show 0 < b by omega) (show 0 < -c by omega); rw [Int.mul_neg, ← Int.neg_mul] at this; omega
  have Hp := Lib.hid hp
  have Hq := Lib.hid hq
  clear hp hq
  go_enter Tryd.func32, Tryd.ntmps32
  go_wp2_with (fail)
  refine (frac_any _ _ p q k _ (by omega) (by omega) (by omega) (by omega) hk Hp.out Hq.out hok).mono ?_
  rintro e w1 ⟨rfl, hb⟩
  obtain ⟨hc, hf⟩ := bcell hb
  have hz : w.heap.size + 2 < w1.heap.size := by have := hb.size; simp at this; omega
  have k0 := hc (w.heap.size + 2) 0 (by simp)
  have k1 := hc (w.heap.size + 2) 1 (by simp)
  have g0 := hf (w.heap.size + 2) 0 (by simp)
  have g1 := hf (w.heap.size + 2) 1 (by simp)
  simp [go_sem] at k0 k1 g0 g1
  clear hc hf
  go_wp2
  refine bodyPost_ret (v := .agg #[.int .i64 p, .int .i64 q]) (by simp [results, Tryd.results32, go_sem, k0, k1]) rfl ⟨rfl, ?_⟩
  exact (((((Below.refl _ _).alloc (Nat.le_refl _) _).alloc (by simp) _).alloc (by simp; omega) _).trans (hb.mono (by simp; omega))).setCell (by simp; omega) _ |>.setCell (by simp; omega) _

def cmpI (x y : Int) : Int := if x < y then -1 else if y < x then 1 else 0

set_option maxHeartbeats 1000000 in
theorem compare_any (a b c d : Int) (w : World) (h1 : Ok a b) (h2 : Ok c d) :
    Calls Tryd.prog 27 #[.agg #[.int .i64 a, .int .i64 b], .agg #[.int .i64 c, .int .i64 d]] w (RetB (.int .i64 (cmpI (a * d) (c * b))) w) := by
  obtain ⟨hb1, hb2, ha1, ha2, _⟩ := h1
  obtain ⟨hd1, hd2, hc1, hc2, _⟩ := h2
  have m0 := mul_bd (a) (d) (by omega) (by omega) (by omega) (by omega)
  have m01 := m0.1
  have m02 := m0.2
  clear m0
  have m1 := mul_bd (c) (b) (by omega) (by omega) (by omega) (by omega)
  have m11 := m1.1
  have m12 := m1.2
  clear m1
  rcases Int.lt_trichotomy (a * d) (c * b) with hlt | heq | hgt
  · have hv : cmpI (a * d) (c * b) = -1 := by unfold cmpI; rw [if_pos hlt]
    rw [hv]
    clear hv
    go_enter Tryd.func27, Tryd.ntmps27
    go_wp2
    go_quiet (fail)
    go_wp2
    go_ret
    exact ⟨rfl, below_drewN (((Below.refl _ _).alloc (Nat.le_refl _) _).alloc (by simp) _) _⟩
  · have hv : cmpI (a * d) (c * b) = 0 := by unfold cmpI; rw [if_neg (by omega), if_neg (by omega)]
    rw [hv]
    have n1 : ¬ a * d < c * b := by omega
    have n2 : ¬ c * b < a * d := by omega
    clear hv heq
    go_enter Tryd.func27, Tryd.ntmps27
    go_wp2
    go_quiet (fail)
    go_wp2
    go_ret
    exact ⟨rfl, below_drewN (((Below.refl _ _).alloc (Nat.le_refl _) _).alloc (by simp) _) _⟩
  · have hv : cmpI (a * d) (c * b) = 1 := by unfold cmpI; rw [if_neg (by omega), if_pos hgt]
    rw [hv]
    have n1 : ¬ a * d < c * b := by omega
    clear hv
    go_enter Tryd.func27, Tryd.ntmps27
    go_wp2
    go_quiet (fail)
    go_wp2
    go_ret
    exact ⟨rfl, below_drewN (((Below.refl _ _).alloc (Nat.le_refl _) _).alloc (by simp) _) _⟩

def FloorPost (n d : Int) (w : World) (e : Ending) (w' : World) : Prop := ∃ x : Int, e = .returned (.int .i64 x) ∧ w = w' ∧ x * d ≤ n ∧ n < (x + 1) * d ∧ -1000000001 ≤ x ∧ x ≤ 1000000000

theorem tdiv_bd (n d : Int) (h1 : -1000000000 ≤ n) (h2 : n ≤ 1000000000) (hd : 1 ≤ d) : -1000000000 ≤ n.tdiv d ∧ n.tdiv d ≤ 1000000000 := by
  have h := Int.natAbs_tdiv_le_natAbs n d
  omega

set_option maxHeartbeats 1000000 in
theorem floor_any (n d : Int) (w : World) (h1 : -1000000000 ≤ n) (h2 : n ≤ 1000000000) (hd : 1 ≤ d) (hd2 : d ≤ 1000000000) :
    Calls Tryd.prog 33 #[.int .i64 n, .int .i64 d] w (FloorPost n d w) := by
  have hb := tdiv_bd n d h1 h2 hd
  have hb1 := hb.1
  have hb2 := hb.2
  clear hb
  have he := Int.mul_tdiv_add_tmod n d
  have hlo : -d < n.tmod d := by have := Int.lt_tmod_of_pos n (show 0 < d by omega); omega
  have hhi : n.tmod d < d := Int.tmod_lt_of_pos n (show 0 < d by omega)
  have HE := Lib.hid he
  clear he
  have hd0 : (d == 0) = false := by simp; omega
  by_cases hneg : n.tmod d < 0
  · go_enter Tryd.func33, Tryd.ntmps33
    go_wp2
    go_ret
    refine ⟨n.tdiv d - 1, rfl, rfl, ?_, ?_, by omega, by omega⟩
    · have := HE.out
      rw [Int.sub_mul, Int.mul_comm (n.tdiv d) d]
      omega
    · have := HE.out
      rw [show n.tdiv d - 1 + 1 = n.tdiv d by omega, Int.mul_comm (n.tdiv d) d]
      omega
  · go_enter Tryd.func33, Tryd.ntmps33
    go_wp2
    go_ret
    refine ⟨n.tdiv d, rfl, rfl, ?_, ?_, by omega, by omega⟩
    · have := HE.out
      rw [Int.mul_comm (n.tdiv d) d]
      omega
    · have := HE.out
      rw [Int.add_mul, Int.mul_comm (n.tdiv d) d]
      omega
end Go.Proofs.YtgjlldljdkilcaaDoor

/- The plain law of fractions: sums lead back, products lead back, the difference's sign. No program here. -/
import Derived.Test.YtgjlldljdkilcaaDoorFrD
namespace Go.Proofs.YtgjlldljdkilcaaDoor

theorem uniq (x y a b : Int) (hy : 1 ≤ y) (hb : 1 ≤ b) (hg : Nat.gcd a.natAbs b.natAbs = 1) (h : x * b = a * y) : ∃ k : Nat, 1 ≤ k ∧ x = a * k ∧ y = b * k := by
  have h1 : b ∣ a * y := ⟨x, by rw [← h, Int.mul_comm]⟩
  have h2 : b ∣ y := by
    rw [← Int.natAbs_dvd_natAbs] at h1 ⊢
    rw [Int.natAbs_mul] at h1
    exact Nat.Coprime.dvd_of_dvd_mul_left (by rw [Nat.Coprime, Nat.gcd_comm]; exact hg) h1
  obtain ⟨k, hk⟩ := h2
  have hk1 : 1 ≤ k := by
    rcases Int.lt_or_le 0 k with hk0 | hk0
    · omega
    · have := Int.mul_nonpos_of_nonneg_of_nonpos (show 0 ≤ b by omega) hk0
      omega
  obtain ⟨m, rfl⟩ := Int.eq_ofNat_of_zero_le (show 0 ≤ k by omega)
  refine ⟨m, by omega, ?_, hk⟩
  rw [hk] at h
  have h3 : x * b = (a * m) * b := by rw [h, Int.mul_assoc, Int.mul_comm b]
  exact Int.eq_of_mul_eq_mul_right (by omega) h3

theorem ok_small {n d p q : Int} {k : Nat} (hk : 1 ≤ k) (hp : n = p * k) (hq : d = q * k) (hg : Nat.gcd p.natAbs q.natAbs = 1) (hpn : p.natAbs ≤ n.natAbs) (hq1 : 1 ≤ q) (hqd : q ≤ d) (hn : n.natAbs ≤ 1000000000) (hd : d ≤ 1000000000) : Ok p q :=
  ⟨hq1, by omega, by omega, by omega, hg⟩

theorem prod_bd (x y : Int) (h1 : x.natAbs ≤ 300) (h2 : y.natAbs ≤ 300) : (x * y).natAbs ≤ 90000 := by
  rw [Int.natAbs_mul]
  exact Nat.mul_le_mul h1 h2

theorem add_back (a b c d : Int) (h1 : Ok a b) (h2 : Ok c d) (ha : a.natAbs ≤ 300) (hb : b ≤ 300) (hc : c.natAbs ≤ 300) (hd : d ≤ 300) :
    ∃ (s t : Int) (k k' : Nat), 1 ≤ k ∧ a * d + c * b = s * k ∧ b * d = t * k ∧ Ok s t ∧ 1 ≤ k' ∧ s * d + (-c) * t = a * k' ∧ t * d = b * k' := by
  have b1 := h1.1
  have d1 := h2.1
  have e1 := prod_bd a d ha (by omega)
  have e2 := prod_bd c b hc (by omega)
  have e3 := prod_bd b d (by omega) (by omega)
  have hbd : 1 ≤ b * d := by have := Int.mul_pos (show 0 < b by omega) (show 0 < d by omega); omega
  obtain ⟨s, t, k, hk, hp, hq, hg, hpn, hq1, hqd⟩ := lowest (a * d + c * b) (b * d) hbd
  have hok : Ok s t := ok_small hk hp hq hg hpn hq1 hqd (by omega) (by omega)
  have htd : 1 ≤ t * d := by have := Int.mul_pos (show 0 < t by omega) (show 0 < d by omega); omega
  have hx : (s * d + (-c) * t) * b = a * (t * d) := by
    have hk0 : (0 : Int) < (k : Int) := by omega
    have : ((s * d + (-c) * t) * b) * k = (a * (t * d)) * k := by
      have l : ((s * d + (-c) * t) * b) * k = ((s * k) * d - c * (t * k)) * b := by
        simp only [Int.add_mul, Int.sub_mul, Int.neg_mul]
        have i1 : s * d * b * ↑k = s * ↑k * d * b := by ac_rfl
        have i2 : c * t * b * ↑k = c * (t * ↑k) * b := by ac_rfl
        rw [i1, i2]
        omega
      have r : (a * (t * d)) * k = a * (t * k) * d := by ac_rfl
      rw [l, r, ← hp, ← hq]
      simp only [Int.add_mul, Int.sub_mul]
      have i1 : c * b * d * b = c * (b * d) * b := by ac_rfl
      have i2 : a * d * d * b = a * (b * d) * d := by ac_rfl
      rw [i1, i2]
      omega
    exact Int.eq_of_mul_eq_mul_right (by omega) this
  obtain ⟨k', hk', hx1, hx2⟩ := uniq _ _ a b htd b1 h1.2.2.2.2 hx
  exact ⟨s, t, k, k', hk, hp, hq, hok, hk', hx1, hx2⟩

theorem sub_sign (a b c d : Int) (h1 : Ok a b) (h2 : Ok c d) (ha : a.natAbs ≤ 300) (hb : b ≤ 300) (hc : c.natAbs ≤ 300) (hd : d ≤ 300) :
    ∃ (s t : Int) (k : Nat), 1 ≤ k ∧ a * d + (-c) * b = s * k ∧ b * d = t * k ∧ Ok s t ∧ (a * d < c * b → s < 0) ∧ (a * d = c * b → s = 0) ∧ (c * b < a * d → 0 < s) := by
  have b1 := h1.1
  have d1 := h2.1
  have e1 := prod_bd a d ha (by omega)
  have e2 := prod_bd (-c) b (by omega) (by omega)
  have e3 := prod_bd b d (by omega) (by omega)
  have hbd : 1 ≤ b * d := by have := Int.mul_pos (show 0 < b by omega) (show 0 < d by omega); omega
  obtain ⟨s, t, k, hk, hp, hq, hg, hpn, hq1, hqd⟩ := lowest (a * d + (-c) * b) (b * d) hbd
  have hok : Ok s t := ok_small hk hp hq hg hpn hq1 hqd (by omega) (by omega)
  have hn : (-c) * b = -(c * b) := Int.neg_mul _ _
  refine ⟨s, t, k, hk, hp, hq, hok, fun h => ?_, fun h => ?_, fun h => ?_⟩
  · rcases Int.lt_or_le s 0 with h0 | h0
    · exact h0
    · have := Int.mul_nonneg h0 (show (0 : Int) ≤ (k : Int) by omega)
      omega
  · rw [hn, h] at hp
    have h0 : s * (k : Int) = 0 := by omega
    rcases Int.mul_eq_zero.1 h0 with h0 | h0
    · exact h0
    · omega
  · rcases Int.lt_or_le 0 s with h0 | h0
    · exact h0
    · have := Int.mul_nonpos_of_nonpos_of_nonneg h0 (show (0 : Int) ≤ (k : Int) by omega)
      omega

theorem mul_back (a b c d : Int) (h1 : Ok a b) (h2 : Ok c d) (ha : a.natAbs ≤ 300) (hb : b ≤ 300) (hc : c.natAbs ≤ 300) (hd : d ≤ 300) (hc0 : c ≠ 0) :
    ∃ (s t : Int) (k k' : Nat), 1 ≤ k ∧ a * c = s * k ∧ b * d = t * k ∧ Ok s t ∧ 1 ≤ k' ∧ (0 < c → s * d = a * k' ∧ t * c = b * k') ∧ (c < 0 → (-s) * d = a * k' ∧ (-t) * c = b * k') := by
  have b1 := h1.1
  have d1 := h2.1
  have e1 := prod_bd a c ha hc
  have e3 := prod_bd b d (by omega) (by omega)
  have hbd : 1 ≤ b * d := by have := Int.mul_pos (show 0 < b by omega) (show 0 < d by omega); omega
  obtain ⟨s, t, k, hk, hp, hq, hg, hpn, hq1, hqd⟩ := lowest (a * c) (b * d) hbd
  have hok : Ok s t := ok_small hk hp hq hg hpn hq1 hqd (by omega) (by omega)
  have hx : (s * d) * b = a * (t * c) := by
    have : ((s * d) * b) * k = (a * (t * c)) * k := by
      have l : ((s * d) * b) * k = (s * k) * (b * d) := by ac_rfl
      have r : (a * (t * c)) * k = (a * c) * (t * k) := by ac_rfl
      rw [l, r, ← hp, ← hq]
    exact Int.eq_of_mul_eq_mul_right (by omega) this
  rcases Int.lt_or_lt_of_ne hc0 with hneg | hpos
  · have htc : 1 ≤ (-t) * c := by
      have := Int.mul_pos (show 0 < t by omega) (show 0 < -c by omega)
      rw [Int.mul_neg] at this
      rw [Int.neg_mul]
      omega
    have hx' : ((-s) * d) * b = a * ((-t) * c) := by
      simp only [Int.neg_mul, Int.mul_neg, hx]
    obtain ⟨k', hk', hx1, hx2⟩ := uniq _ _ a b htc b1 h1.2.2.2.2 hx'
    exact ⟨s, t, k, k', hk, hp, hq, hok, hk', fun h => by omega, fun _ => ⟨hx1, hx2⟩⟩
  · have htc : 1 ≤ t * c := by have := Int.mul_pos (show 0 < t by omega) (show 0 < c by omega); omega
    obtain ⟨k', hk', hx1, hx2⟩ := uniq _ _ a b htc b1 h1.2.2.2.2 hx
    exact ⟨s, t, k, k', hk, hp, hq, hok, hk', fun _ => ⟨hx1, hx2⟩, fun h => by omega⟩

end Go.Proofs.YtgjlldljdkilcaaDoor

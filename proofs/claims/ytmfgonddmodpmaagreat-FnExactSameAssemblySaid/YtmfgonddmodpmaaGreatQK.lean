/- Two assemblies compared, the reference's, walked. -/
import Derived.Test.YtmfgonddmodpmaaGreatQJ
import Derived.StillTailTactics
namespace Go.Proofs.YtmfgonddmodpmaaGreat
open Go.RowKit Go.Lib

theorem asm_iff {a b : Asm} : a = b ↔ a.day = b.day ∧ a.rule = b.rule ∧ a.trust = b.trust ∧ a.base = b.base ∧ a.acts = b.acts ∧ a.mots = b.mots := by
  obtain ⟨a1, a2, a3, a4, a5, a6⟩ := a
  obtain ⟨c1, c2, c3, c4, c5, c6⟩ := b
  simp only [Asm.mk.injEq]
theorem asm_ne {a b : Asm} : (a.day ≠ b.day ∨ a.rule ≠ b.rule ∨ a.trust ≠ b.trust ∨ a.base ≠ b.base ∨ a.acts ≠ b.acts ∨ a.mots ≠ b.mots) → ¬ a = b := by
  rintro h rfl
  simp at h
theorem len_ne {α : Type} {x y : List α} (h : ((x.length : Int) != (y.length : Int)) = true) : x ≠ y := fun e => by
  rw [e] at h
  simp at h
theorem len_eq {α : Type} {x y : List α} (h : ((x.length : Int) != (y.length : Int)) = false) : x.length = y.length := by
  have := bne_eq_false_iff_eq.1 h
  omega
theorem okAsm_base {a : Asm} (h : okAsm a = true) : okStat a.base = true := by
  unfold okAsm at h
  simp only [Bool.and_eq_true] at h
  exact h.1.1.2
theorem take_all {α : Type} {x y : List α} {k : Nat} (h : x.take k = y.take k) (hx : x.length ≤ k) (hl : x.length = y.length) : x = y := by
  rwa [List.take_of_length_le hx, List.take_of_length_le (by omega)] at h

set_option maxRecDepth 100000 in
set_option maxHeartbeats 8000000 in
theorem same1_bad (a b : Asm) (A1 : Option Addr) (c1 : Nat) (A2 : Option Addr) (c2 : Nat) (A3 : Option Addr) (c3 : Nat) (A4 : Option Addr) (c4 : Nat) (B1 : Option Addr) (d1 : Nat) (B2 : Option Addr) (d2 : Nat) (B3 : Option Addr) (d3 : Nat) (B4 : Option Addr) (d4 : Nat) (g g' : Nat) (w : World)
    (hS : Six w g a ⟨.slice A1 a.trust.length c1, .slice A2 a.base.length c2, .slice A3 a.acts.length c3, .slice A4 a.mots.length c4⟩) (hS' : Six w g' b ⟨.slice B1 b.trust.length d1, .slice B2 b.base.length d2, .slice B3 b.acts.length d3, .slice B4 b.mots.length d4⟩)
    (hX : AsmR w w.heap.size ⟨.slice A1 a.trust.length c1, .slice A2 a.base.length c2, .slice A3 a.acts.length c3, .slice A4 a.mots.length c4⟩ a) (hY : AsmR w w.heap.size ⟨.slice B1 b.trust.length d1, .slice B2 b.base.length d2, .slice B3 b.acts.length d3, .slice B4 b.mots.length d4⟩ b)
    (hbad : ¬ ((a.day != b.day) = false ∧ (a.rule != b.rule) = false ∧ ((a.trust.length : Int) != (b.trust.length : Int)) = false ∧ ((a.acts.length : Int) != (b.acts.length : Int)) = false ∧ ((a.mots.length : Int) != (b.mots.length : Int)) = false)) :
    Calls Tryz.prog 54 #[.pointer (some ⟨g, 0, none⟩), .pointer (some ⟨g', 0, none⟩)] w (SameV a b w) := by
  refine calls_aft fun x0 => ?_
  have z0 := fun y : Aft w => y.cell (hS.cell 0 _ rfl)
  have z1 := fun y : Aft w => y.cell (hS.cell 1 _ rfl)
  have z2 := fun y : Aft w => y.cell (hS.cell 2 _ rfl)
  have z3 := fun y : Aft w => y.cell (hS.cell 3 _ rfl)
  have z4 := fun y : Aft w => y.cell (hS.cell 4 _ rfl)
  have z5 := fun y : Aft w => y.cell (hS.cell 5 _ rfl)
  have t0 := fun y : Aft w => y.cell (hS'.cell 0 _ rfl)
  have t1 := fun y : Aft w => y.cell (hS'.cell 1 _ rfl)
  have t2 := fun y : Aft w => y.cell (hS'.cell 2 _ rfl)
  have t3 := fun y : Aft w => y.cell (hS'.cell 3 _ rfl)
  have t4 := fun y : Aft w => y.cell (hS'.cell 4 _ rfl)
  have t5 := fun y : Aft w => y.cell (hS'.cell 5 _ rfl)
  obtain ⟨A', c', hv, q1, q2, g1⟩ := rows_at hX.t
  injection hv with e1 e2 e3
  subst e1 e3
  clear e2
  have bg1 : a.trust.length ≤ 9223372036854775807 := by unfold maxLen at q2; omega
  have Hg1 := Lib.hid g1
  clear g1 q1 q2
  obtain ⟨A', c', hv, q1, q2, f1⟩ := rows_at hY.t
  injection hv with e1 e2 e3
  subst e1 e3
  clear e2
  have bf1 : b.trust.length ≤ 9223372036854775807 := by unfold maxLen at q2; omega
  have Hf1 := Lib.hid f1
  clear f1 q1 q2
  obtain ⟨A', c', hv, q1, q2, g2⟩ := acts_at hX.c
  injection hv with e1 e2 e3
  subst e1 e3
  clear e2
  have bg2 : a.acts.length ≤ 9223372036854775807 := by unfold maxLen at q2; omega
  have Hg2 := Lib.hid g2
  clear g2 q1 q2
  obtain ⟨A', c', hv, q1, q2, f2⟩ := acts_at hY.c
  injection hv with e1 e2 e3
  subst e1 e3
  clear e2
  have bf2 : b.acts.length ≤ 9223372036854775807 := by unfold maxLen at q2; omega
  have Hf2 := Lib.hid f2
  clear f2 q1 q2
  obtain ⟨A', c', hv, q1, q2, g3⟩ := mots_at hX.m
  injection hv with e1 e2 e3
  subst e1 e3
  clear e2
  have bg3 : a.mots.length ≤ 9223372036854775807 := by unfold maxLen at q2; omega
  have Hg3 := Lib.hid g3
  clear g3 q1 q2
  obtain ⟨A', c', hv, q1, q2, f3⟩ := mots_at hY.m
  injection hv with e1 e2 e3
  subst e1 e3
  clear e2
  have bf3 : b.mots.length ≤ 9223372036854775807 := by unfold maxLen at q2; omega
  have Hf3 := Lib.hid f3
  clear f3 q1 q2
  clear hS hS' hX hY
  cases h0 : (a.day != b.day) with
  | true =>
    have HR : Hid (¬ a = b) := Lib.hid (asm_ne (Or.inl (bne_iff_ne.1 h0)))
    go_enter Tryz.func54, Tryz.ntmps54
    go_wp2_with (fail)
    refine wp_region_at (by kernel_rfl) (by kernel_rfl) ?_
    repeat (go_big_quiet_step (fail))
    refine wpQuiet_nil ?_
    rintro _ ⟨y, rfl⟩
    go_wp2
    go_ret
    exact ⟨false, rfl, ⟨fun h => (by cases h), fun h => absurd h HR.out⟩, y.ok⟩
  | false =>
  cases h1 : (a.rule != b.rule) with
  | true =>
    have HR : Hid (¬ a = b) := Lib.hid (asm_ne (Or.inr (Or.inl (bne_iff_ne.1 h1))))
    go_enter Tryz.func54, Tryz.ntmps54
    go_wp2_with (fail)
    refine wp_region_at (by kernel_rfl) (by kernel_rfl) ?_
    repeat (go_big_quiet_step (fail))
    refine wpQuiet_nil ?_
    rintro _ ⟨y, rfl⟩
    go_wp2
    go_ret
    exact ⟨false, rfl, ⟨fun h => (by cases h), fun h => absurd h HR.out⟩, y.ok⟩
  | false =>
  cases h2 : ((a.trust.length : Int) != (b.trust.length : Int)) with
  | true =>
    have HR : Hid (¬ a = b) := Lib.hid (asm_ne (Or.inr (Or.inr (Or.inl (len_ne h2)))))
    go_enter Tryz.func54, Tryz.ntmps54
    go_wp2_with (fail)
    refine wp_region_at (by kernel_rfl) (by kernel_rfl) ?_
    repeat (go_big_quiet_step (fail))
    refine wpQuiet_nil ?_
    rintro _ ⟨y, rfl⟩
    go_wp2
    go_ret
    exact ⟨false, rfl, ⟨fun h => (by cases h), fun h => absurd h HR.out⟩, y.ok⟩
  | false =>
  cases h3 : ((a.acts.length : Int) != (b.acts.length : Int)) with
  | true =>
    have HR : Hid (¬ a = b) := Lib.hid (asm_ne (Or.inr (Or.inr (Or.inr (Or.inr (Or.inl (len_ne h3)))))))
    go_enter Tryz.func54, Tryz.ntmps54
    go_wp2_with (fail)
    refine wp_region_at (by kernel_rfl) (by kernel_rfl) ?_
    repeat (go_big_quiet_step (fail))
    refine wpQuiet_nil ?_
    rintro _ ⟨y, rfl⟩
    go_wp2
    go_ret
    exact ⟨false, rfl, ⟨fun h => (by cases h), fun h => absurd h HR.out⟩, y.ok⟩
  | false =>
  cases h4 : ((a.mots.length : Int) != (b.mots.length : Int)) with
  | true =>
    have HR : Hid (¬ a = b) := Lib.hid (asm_ne (Or.inr (Or.inr (Or.inr (Or.inr (Or.inr (len_ne h4)))))))
    go_enter Tryz.func54, Tryz.ntmps54
    go_wp2_with (fail)
    refine wp_region_at (by kernel_rfl) (by kernel_rfl) ?_
    repeat (go_big_quiet_step (fail))
    refine wpQuiet_nil ?_
    rintro _ ⟨y, rfl⟩
    go_wp2
    go_ret
    exact ⟨false, rfl, ⟨fun h => (by cases h), fun h => absurd h HR.out⟩, y.ok⟩
  | false =>
  exact absurd ⟨h0, h1, h2, h3, h4⟩ hbad
set_option maxRecDepth 100000 in
set_option maxHeartbeats 8000000 in
theorem same1_go (a b : Asm) (A1 : Option Addr) (c1 : Nat) (A2 : Option Addr) (c2 : Nat) (A3 : Option Addr) (c3 : Nat) (A4 : Option Addr) (c4 : Nat) (B1 : Option Addr) (d1 : Nat) (B2 : Option Addr) (d2 : Nat) (B3 : Option Addr) (d3 : Nat) (B4 : Option Addr) (d4 : Nat) (g g' : Nat) (w : World)
    (hS : Six w g a ⟨.slice A1 a.trust.length c1, .slice A2 a.base.length c2, .slice A3 a.acts.length c3, .slice A4 a.mots.length c4⟩) (hS' : Six w g' b ⟨.slice B1 b.trust.length d1, .slice B2 b.base.length d2, .slice B3 b.acts.length d3, .slice B4 b.mots.length d4⟩)
    (hX : AsmR w w.heap.size ⟨.slice A1 a.trust.length c1, .slice A2 a.base.length c2, .slice A3 a.acts.length c3, .slice A4 a.mots.length c4⟩ a) (hY : AsmR w w.heap.size ⟨.slice B1 b.trust.length d1, .slice B2 b.base.length d2, .slice B3 b.acts.length d3, .slice B4 b.mots.length d4⟩ b)
    (ha : okAsm a = true) (hb : okAsm b = true) :
    Calls Tryz.prog 54 #[.pointer (some ⟨g, 0, none⟩), .pointer (some ⟨g', 0, none⟩)] w (SameV a b w) := by
  refine Classical.byCases (p := (a.day != b.day) = false ∧ (a.rule != b.rule) = false ∧ ((a.trust.length : Int) != (b.trust.length : Int)) = false ∧ ((a.acts.length : Int) != (b.acts.length : Int)) = false ∧ ((a.mots.length : Int) != (b.mots.length : Int)) = false) (fun hg => ?_) (fun hg => same1_bad a b A1 c1 A2 c2 A3 c3 A4 c4 B1 d1 B2 d2 B3 d3 B4 d4 g g' w hS hS' hX hY hg)
  obtain ⟨h0, h1, h2, h3, h4⟩ := hg
  refine calls_aft fun x0 => ?_
  have z0 := fun y : Aft w => y.cell (hS.cell 0 _ rfl)
  have z1 := fun y : Aft w => y.cell (hS.cell 1 _ rfl)
  have z2 := fun y : Aft w => y.cell (hS.cell 2 _ rfl)
  have z3 := fun y : Aft w => y.cell (hS.cell 3 _ rfl)
  have z4 := fun y : Aft w => y.cell (hS.cell 4 _ rfl)
  have z5 := fun y : Aft w => y.cell (hS.cell 5 _ rfl)
  have t0 := fun y : Aft w => y.cell (hS'.cell 0 _ rfl)
  have t1 := fun y : Aft w => y.cell (hS'.cell 1 _ rfl)
  have t2 := fun y : Aft w => y.cell (hS'.cell 2 _ rfl)
  have t3 := fun y : Aft w => y.cell (hS'.cell 3 _ rfl)
  have t4 := fun y : Aft w => y.cell (hS'.cell 4 _ rfl)
  have t5 := fun y : Aft w => y.cell (hS'.cell 5 _ rfl)
  have HD := Lib.hid (fun y : Aft w => diff1_any a.base b.base y.val _ _ (hX.aft (Nat.le_refl _) y).b (hY.aft (Nat.le_refl _) y).b)
  have HDN := Lib.hid (diff_none (okAsm_base ha) (okAsm_base hb))
  obtain ⟨A', c', hv, q1, q2, g1⟩ := rows_at hX.t
  injection hv with e1 e2 e3
  subst e1 e3
  clear e2
  have bg1 : a.trust.length ≤ 9223372036854775807 := by unfold maxLen at q2; omega
  have Hg1 := Lib.hid g1
  clear g1 q1 q2
  obtain ⟨A', c', hv, q1, q2, f1⟩ := rows_at hY.t
  injection hv with e1 e2 e3
  subst e1 e3
  clear e2
  have bf1 : b.trust.length ≤ 9223372036854775807 := by unfold maxLen at q2; omega
  have Hf1 := Lib.hid f1
  clear f1 q1 q2
  obtain ⟨A', c', hv, q1, q2, g2⟩ := acts_at hX.c
  injection hv with e1 e2 e3
  subst e1 e3
  clear e2
  have bg2 : a.acts.length ≤ 9223372036854775807 := by unfold maxLen at q2; omega
  have Hg2 := Lib.hid g2
  clear g2 q1 q2
  obtain ⟨A', c', hv, q1, q2, f2⟩ := acts_at hY.c
  injection hv with e1 e2 e3
  subst e1 e3
  clear e2
  have bf2 : b.acts.length ≤ 9223372036854775807 := by unfold maxLen at q2; omega
  have Hf2 := Lib.hid f2
  clear f2 q1 q2
  obtain ⟨A', c', hv, q1, q2, g3⟩ := mots_at hX.m
  injection hv with e1 e2 e3
  subst e1 e3
  clear e2
  have bg3 : a.mots.length ≤ 9223372036854775807 := by unfold maxLen at q2; omega
  have Hg3 := Lib.hid g3
  clear g3 q1 q2
  obtain ⟨A', c', hv, q1, q2, f3⟩ := mots_at hY.m
  injection hv with e1 e2 e3
  subst e1 e3
  clear e2
  have bf3 : b.mots.length ≤ 9223372036854775807 := by unfold maxLen at q2; omega
  have Hf3 := Lib.hid f3
  clear f3 q1 q2
  clear hS hS' hX hY
  clear ha hb
  have L1 := Lib.hid (len_eq h2)
  have L2 := Lib.hid (len_eq h3)
  have L3 := Lib.hid (len_eq h4)
  have E0 : Hid (a.day = b.day ∧ a.rule = b.rule) := Lib.hid ⟨bne_eq_false_iff_eq.1 h0, bne_eq_false_iff_eq.1 h1⟩
  unfold DiffPost at HD
  obtain ⟨n, hn⟩ : ∃ n : Nat, n = (diffK a.base b.base 99).length := ⟨_, rfl⟩
  rw [← hn] at HD
  have HNN : Hid (n = 0 ↔ a.base = b.base) := Lib.hid (by rw [hn, List.length_eq_zero_iff]; exact HDN.out)
  have HDF := HD
  clear hn HD HDN
  go_enter Tryz.func54, Tryz.ntmps54
  go_wp2_with (fail)
  go_still_tail 68, (by kernel_rfl)
  change wpList _ _ _ _ _ x0.val.drew
  obtain ⟨x2, hx2⟩ : ∃ y : Aft w, y.val = x0.val.drew := ⟨⟨_, x0.ok.drew⟩, rfl⟩
  rw [← hx2]
  clear hx2
  go_wp2_with (fail)
  refine (HDF.out x2).mono ?_
  rintro e w1 ⟨g1, cap1, rfl, hb1⟩
  obtain ⟨x1, rfl⟩ : ∃ y : Aft w, w1 = y.val := ⟨⟨w1, x2.ok.trans (hb1.mono x2.ok.size)⟩, rfl⟩
  clear hb1
  clear HDF
  by_cases hz : n = 0
  · have EB := Lib.hid (HNN.out.1 hz)
    have hdec : decide (0 < (n : Int)) = false := by simp; omega
    clear HNN
    go_wp2_with (fail)
    clear h0 h1 h2 h3 h4 hdec hz
    go_wp2
    go_loopw [5] (fun i wr => ∃ (k : Nat) (x : Aft w), k ≤ a.trust.length ∧ i = .int .i64 (k : Int) ∧ a.trust.take k = b.trust.take k ∧ wr = x.val) (fun i _ => a.trust.length - (RowKit.intOf i).toNat)
    case atStart => exact ⟨0, x1, Nat.zero_le _, rfl, rfl, rfl⟩
    case round =>
      obtain ⟨k, x, hk, rfl, ht, rfl⟩ := hrel
      have HT := Lib.hid ht
      clear ht
      by_cases hlt : k < a.trust.length
      · have hlt2 : k < b.trust.length := by rw [← L1.out]; exact hlt
        have hk2 : (k : Int) < (b.trust.length : Int) := by omega
        have E1 := Lib.hid (List.getElem?_eq_getElem hlt)
        have E2 := Lib.hid (List.getElem?_eq_getElem hlt2)
        obtain ⟨b1, o1, rfl, hb1, hc1⟩ := Hg1.out (by omega)
        obtain ⟨b2, o2, rfl, hb2, hc2⟩ := Hf1.out (by omega)
        obtain ⟨P1, m1, k0, _, hI⟩ := hc1 k _ (List.getElem?_eq_getElem hlt)
        obtain ⟨P2, m2, k3, _, hJ⟩ := hc2 k _ (List.getElem?_eq_getElem hlt2)
        have s0 := fun y : Aft w => y.cell k0
        have s1 := fun y : Aft w => y.cell k3
        have HC0 := Lib.hid (fun y : Aft w => same00_any a.trust[k] b.trust[k] y.val _ _ (SlR.aft hI (Pl.stays _) (Nat.le_refl _) y) (SlR.aft hJ (Pl.stays _) (Nat.le_refl _) y))
        clear k0 k3 hc1 hc2 hI hJ
        by_cases hxy : a.trust[k] = b.trust[k]
        · have HN := Lib.hid (take_same E1.out E2.out HT.out hxy)
          have HC := Lib.hid (fun y => same_val (r := true) (HC0.out y) (by simp [hxy]))
          clear hxy E1 E2 HC0
          generalize a.trust[k] = p at *
          generalize b.trust[k] = q at *
          go_wp2_with (fail)
          refine wp_region_at (by kernel_rfl) (by kernel_rfl) ?_
          repeat (go_big_quiet_step ((first | (go_at_call 101; exact aft_b (HC.out _)))))
          refine wpQuiet_nil ?_
          rintro _ ⟨y, rfl⟩
          go_wp2
          go_roundw
          case rel => exact ⟨k + 1, y, by omega, by go_num, HN.out, rfl⟩
          case measure => simp [RowKit.intOf]; omega
        · have HR : Hid (¬ a = b) := Lib.hid (asm_ne (Or.inr (Or.inr (Or.inl (not_same E1.out E2.out hxy)))))
          have HC := Lib.hid (fun y => same_val (r := false) (HC0.out y) (by simp [hxy]))
          clear hxy E1 E2 HC0
          generalize a.trust[k] = p at *
          generalize b.trust[k] = q at *
          go_wp2_with (fail)
          refine wp_region_at (by kernel_rfl) (by kernel_rfl) ?_
          repeat (go_big_quiet_step ((first | (go_at_call 101; exact aft_b (HC.out _)))))
          refine wpQuiet_nil ?_
          rintro _ ⟨y, rfl⟩
          go_wp2
          go_ret
          exact ⟨false, rfl, ⟨fun h => (by cases h), fun h => absurd h HR.out⟩, y.ok⟩
      · have hge : ¬ (k : Int) < (a.trust.length : Int) := by omega
        have ET : Hid (a.trust = b.trust) := Lib.hid (take_all HT.out (by omega) L1.out)
        clear HT hlt hk
        go_wp2
        go_loopw [6] (fun i wr => ∃ (k : Nat) (x : Aft w), k ≤ a.acts.length ∧ i = .int .i64 (k : Int) ∧ a.acts.take k = b.acts.take k ∧ wr = x.val) (fun i _ => a.acts.length - (RowKit.intOf i).toNat)
        case atStart => exact ⟨0, x, Nat.zero_le _, rfl, rfl, rfl⟩
        case round =>
          clear hge
          obtain ⟨k, x, hk, rfl, ht, rfl⟩ := hrel
          have HT := Lib.hid ht
          clear ht
          by_cases hlt : k < a.acts.length
          · have hlt2 : k < b.acts.length := by rw [← L2.out]; exact hlt
            have hk2 : (k : Int) < (b.acts.length : Int) := by omega
            have E1 := Lib.hid (List.getElem?_eq_getElem hlt)
            have E2 := Lib.hid (List.getElem?_eq_getElem hlt2)
            obtain ⟨b1, o1, rfl, hb1, hc1⟩ := Hg2.out (by omega)
            obtain ⟨b2, o2, rfl, hb2, hc2⟩ := Hf2.out (by omega)
            obtain ⟨pv, k0, k1, k2, hI⟩ := hc1 k _ (List.getElem?_eq_getElem hlt)
            obtain ⟨qv, l0, l1, l2, hJ⟩ := hc2 k _ (List.getElem?_eq_getElem hlt2)
            obtain ⟨P1, m1, rfl, _, _⟩ := Edits.sl hI
            obtain ⟨P2, m2, rfl, _, _⟩ := Edits.sl hJ
            have s0 := fun y : Aft w => y.cell k0
            have s1 := fun y : Aft w => y.cell k1
            have s2 := fun y : Aft w => y.cell k2
            have u0 := fun y : Aft w => y.cell l0
            have u1 := fun y : Aft w => y.cell l1
            have u2 := fun y : Aft w => y.cell l2
            obtain ⟨r2, e2⟩ := bool_iff (a.acts[k].pat = b.acts[k].pat)
            have HC := Lib.hid (fun y : Aft w => same_val (patches_any a.acts[k].pat b.acts[k].pat y.val _ _ (SlR.aft hI (Pl.stays _) (Nat.le_refl _) y) (SlR.aft hJ (Pl.stays _) (Nat.le_refl _) y)) e2)
            have HI := Lib.hid (act_iff e2)
            clear k0 k1 k2 l0 l1 l2 hc1 hc2 hI hJ e2
            have HN := Lib.hid (fun hxy => take_same E1.out E2.out HT.out hxy)
            have HR := Lib.hid (fun hxy => asm_ne (a := a) (b := b) (Or.inr (Or.inr (Or.inr (Or.inr (Or.inl (not_same E1.out E2.out hxy)))))))
            clear E1 E2
            generalize a.acts[k] = p at *
            generalize b.acts[k] = q at *
            cases h0 : (p.beg != q.beg) with
            | true =>
              replace HR := Lib.hid (HR.out (fun e => by subst e; simp at h0))
              go_wp2_with (fail)
              refine wp_region_at (by kernel_rfl) (by kernel_rfl) ?_
              repeat (go_big_quiet_step ((first | (go_at_call 102; exact aft_b (HC.out _)))))
              refine wpQuiet_nil ?_
              rintro _ ⟨y, rfl⟩
              go_wp2
              go_ret
              exact ⟨false, rfl, ⟨fun h => (by cases h), fun h => absurd h HR.out⟩, y.ok⟩
            | false =>
            cases h1 : (p.fin != q.fin) with
            | true =>
              replace HR := Lib.hid (HR.out (fun e => by subst e; simp at h1))
              go_wp2_with (fail)
              refine wp_region_at (by kernel_rfl) (by kernel_rfl) ?_
              repeat (go_big_quiet_step ((first | (go_at_call 102; exact aft_b (HC.out _)))))
              refine wpQuiet_nil ?_
              rintro _ ⟨y, rfl⟩
              go_wp2
              go_ret
              exact ⟨false, rfl, ⟨fun h => (by cases h), fun h => absurd h HR.out⟩, y.ok⟩
            | false =>
            cases h2 : r2 with
            | false =>
              replace HR := Lib.hid (HR.out (fun e => by have := HI.out.2 e; rw [h2] at this; simp at this))
              rw [h2] at HC
              clear h2
              go_wp2_with (fail)
              refine wp_region_at (by kernel_rfl) (by kernel_rfl) ?_
              repeat (go_big_quiet_step ((first | (go_at_call 102; exact aft_b (HC.out _)))))
              refine wpQuiet_nil ?_
              rintro _ ⟨y, rfl⟩
              go_wp2
              go_ret
              exact ⟨false, rfl, ⟨fun h => (by cases h), fun h => absurd h HR.out⟩, y.ok⟩
            | true =>
              replace HN := Lib.hid (HN.out (HI.out.1 (by rw [beq_iff_eq.2 (bne_eq_false_iff_eq.1 h0), beq_iff_eq.2 (bne_eq_false_iff_eq.1 h1), h2]; rfl)))
              rw [h2] at HC
              clear h2 HR
              go_wp2_with (fail)
              refine wp_region_at (by kernel_rfl) (by kernel_rfl) ?_
              repeat (go_big_quiet_step ((first | (go_at_call 102; exact aft_b (HC.out _)))))
              refine wpQuiet_nil ?_
              rintro _ ⟨y, rfl⟩
              go_wp2
              go_roundw
              case rel => exact ⟨k + 1, y, by omega, by go_num, HN.out, rfl⟩
              case measure => simp [RowKit.intOf]; omega
          · have hge : ¬ (k : Int) < (a.acts.length : Int) := by omega
            have EA : Hid (a.acts = b.acts) := Lib.hid (take_all HT.out (by omega) L2.out)
            clear HT hlt hk
            go_wp2
            go_loopw [7] (fun i wr => ∃ (k : Nat) (x : Aft w), k ≤ a.mots.length ∧ i = .int .i64 (k : Int) ∧ a.mots.take k = b.mots.take k ∧ wr = x.val) (fun i _ => a.mots.length - (RowKit.intOf i).toNat)
            case atStart => exact ⟨0, x, Nat.zero_le _, rfl, rfl, rfl⟩
            case round =>
              clear hge
              obtain ⟨k, x, hk, rfl, ht, rfl⟩ := hrel
              have HT := Lib.hid ht
              clear ht
              by_cases hlt : k < a.mots.length
              · have hlt2 : k < b.mots.length := by rw [← L3.out]; exact hlt
                have hk2 : (k : Int) < (b.mots.length : Int) := by omega
                have E1 := Lib.hid (List.getElem?_eq_getElem hlt)
                have E2 := Lib.hid (List.getElem?_eq_getElem hlt2)
                obtain ⟨b1, o1, rfl, hb1, hc1⟩ := Hg3.out (by omega)
                obtain ⟨b2, o2, rfl, hb2, hc2⟩ := Hf3.out (by omega)
                obtain ⟨P1, m1, P2, m2, hP⟩ := hc1 k _ (List.getElem?_eq_getElem hlt)
                obtain ⟨P3, m3, P4, m4, hQ⟩ := hc2 k _ (List.getElem?_eq_getElem hlt2)
                have HC0 := Lib.hid (fun y : Aft w => mots1_any a.mots[k] b.mots[k] b1 _ b2 _ _ _ _ _ _ _ _ _ y.val (hP.on y.ok y.ok.size hb1) (hQ.on y.ok y.ok.size hb2) (Nat.lt_of_lt_of_le hb1 y.ok.size) (Nat.lt_of_lt_of_le hb2 y.ok.size))
                clear hc1 hc2 hP hQ
                by_cases hxy : a.mots[k] = b.mots[k]
                · have HN := Lib.hid (take_same E1.out E2.out HT.out hxy)
                  have HC := Lib.hid (fun y => sameV_val (r := true) (HC0.out y) (by simp [hxy]))
                  clear hxy E1 E2 HC0
                  generalize a.mots[k] = p at *
                  generalize b.mots[k] = q at *
                  go_wp2_with (fail)
                  refine wp_region_at (by kernel_rfl) (by kernel_rfl) ?_
                  repeat (go_big_quiet_step ((first | (go_at_call 103; exact aft_b (HC.out _)))))
                  refine wpQuiet_nil ?_
                  rintro _ ⟨y, rfl⟩
                  go_wp2
                  go_roundw
                  case rel => exact ⟨k + 1, y, by omega, by go_num, HN.out, rfl⟩
                  case measure => simp [RowKit.intOf]; omega
                · have HR : Hid (¬ a = b) := Lib.hid (asm_ne (Or.inr (Or.inr (Or.inr (Or.inr (Or.inr (not_same E1.out E2.out hxy)))))))
                  have HC := Lib.hid (fun y => sameV_val (r := false) (HC0.out y) (by simp [hxy]))
                  clear hxy E1 E2 HC0
                  generalize a.mots[k] = p at *
                  generalize b.mots[k] = q at *
                  go_wp2_with (fail)
                  refine wp_region_at (by kernel_rfl) (by kernel_rfl) ?_
                  repeat (go_big_quiet_step ((first | (go_at_call 103; exact aft_b (HC.out _)))))
                  refine wpQuiet_nil ?_
                  rintro _ ⟨y, rfl⟩
                  go_wp2
                  go_ret
                  exact ⟨false, rfl, ⟨fun h => (by cases h), fun h => absurd h HR.out⟩, y.ok⟩
              · have hge : ¬ (k : Int) < (a.mots.length : Int) := by omega
                have EM : Hid (a.mots = b.mots) := Lib.hid (take_all HT.out (by omega) L3.out)
                clear HT hlt hk
                go_wp2
                go_ret
                exact ⟨true, rfl, ⟨fun _ => asm_iff.2 ⟨E0.out.1, E0.out.2, ET.out, EB.out, EA.out, EM.out⟩, fun _ => rfl⟩, x.ok⟩
  · have HR : Hid (¬ a = b) := Lib.hid (asm_ne (Or.inr (Or.inr (Or.inr (Or.inl (fun e => hz (HNN.out.2 e)))))))
    have hp : 0 < n := Nat.pos_of_ne_zero hz
    have hdec : decide (0 < (n : Int)) = true := by simp; omega
    clear HNN hz
    go_wp2
    go_ret
    exact ⟨false, rfl, ⟨fun h => (by cases h), fun h => absurd h HR.out⟩, x1.ok⟩
end Go.Proofs.YtmfgonddmodpmaaGreat

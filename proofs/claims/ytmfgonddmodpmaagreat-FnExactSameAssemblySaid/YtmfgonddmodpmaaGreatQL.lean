/- FnExactSameAssembly, walked. SameAssembly, the program's, walked. FnExactSameAssembly: the law, walked. -/
import Derived.Test.YtmfgonddmodpmaaGreatQK
import Derived.Test.YtmfgonddmodpmaaGreatQG
namespace Go.Proofs.YtmfgonddmodpmaaGreat
open Go.RowKit Go.Lib

def sameP (a b : Asm) : Prop := okAsm a = true ∧ okAsm b = true ∧ a = b
set_option maxRecDepth 100000 in
set_option maxHeartbeats 4000000 in
theorem sameAsm1_any (a b : Asm) (x y : VAsm) (w : World) (r : Bool) (hX : AsmR w w.heap.size x a) (hY : AsmR w w.heap.size y b) (sa : AsmSz a) (sb : AsmSz b) (hr : r = true ↔ sameP a b) :
    Calls Tryz.prog 18 #[asmV a x, asmV b y] w (RetB (.bool r) w) := by
  obtain ⟨A1, c1, A2, c2, A3, c3, A4, c4, rfl⟩ := hX.slices
  obtain ⟨B1, d1, B2, d2, B3, d3, B4, d4, rfl⟩ := hY.slices
  unfold asmV
  obtain ⟨W, hW⟩ : ∃ W : World, W = (w.alloc (.cells #[.int .i64 a.day, .int .i64 a.rule, .slice A1 a.trust.length c1, .slice A2 a.base.length c2, .slice A3 a.acts.length c3, .slice A4 a.mots.length c4] 34)).alloc (.cells #[.int .i64 b.day, .int .i64 b.rule, .slice B1 b.trust.length d1, .slice B2 b.base.length d2, .slice B3 b.acts.length d3, .slice B4 b.mots.length d4] 34) := ⟨_, rfl⟩
  have bW : Below w.heap.size w W := by rw [hW]; exact ((Below.refl _ _).alloc (Nat.le_refl _) _).alloc (by simp) _
  have a1 : Six W w.heap.size a ⟨.slice A1 a.trust.length c1, .slice A2 a.base.length c2, .slice A3 a.acts.length c3, .slice A4 a.mots.length c4⟩ := by rw [hW]; exact (Row.new w _ _).below ((Below.refl _ _).alloc (Nat.le_refl _) _) (by simp)
  have a2 : Six W (w.heap.size + 1) b ⟨.slice B1 b.trust.length d1, .slice B2 b.base.length d2, .slice B3 b.acts.length d3, .slice B4 b.mots.length d4⟩ := by rw [hW]; simpa [Six] using Row.new (w.alloc (.cells #[.int .i64 a.day, .int .i64 a.rule, .slice A1 a.trust.length c1, .slice A2 a.base.length c2, .slice A3 a.acts.length c3, .slice A4 a.mots.length c4] 34)) #[.int .i64 b.day, .int .i64 b.rule, .slice B1 b.trust.length d1, .slice B2 b.base.length d2, .slice B3 b.acts.length d3, .slice B4 b.mots.length d4] 34
  unfold sameP at hr
  have H1 := Lib.hid (fun y : Aft W => ok1_any a ⟨.slice A1 a.trust.length c1, .slice A2 a.base.length c2, .slice A3 a.acts.length c3, .slice A4 a.mots.length c4⟩ w.heap.size 0 y.val (y.cell (a1.cell 0 _ rfl)) (y.cell (a1.cell 1 _ rfl)) (y.cell (a1.cell 2 _ rfl)) (y.cell (a1.cell 3 _ rfl)) (y.cell (a1.cell 4 _ rfl)) (y.cell (a1.cell 5 _ rfl)) (hX.on (aft_done bW y) (aft_done bW y).size) sa)
  have H2 := Lib.hid (fun y : Aft W => ok1_any b ⟨.slice B1 b.trust.length d1, .slice B2 b.base.length d2, .slice B3 b.acts.length d3, .slice B4 b.mots.length d4⟩ (w.heap.size + 1) 0 y.val (y.cell (a2.cell 0 _ rfl)) (y.cell (a2.cell 1 _ rfl)) (y.cell (a2.cell 2 _ rfl)) (y.cell (a2.cell 3 _ rfl)) (y.cell (a2.cell 4 _ rfl)) (y.cell (a2.cell 5 _ rfl)) (hY.on (aft_done bW y) (aft_done bW y).size) sb)
  have H3 := Lib.hid (fun (y : Aft W) ha hb => same1_go a b A1 c1 A2 c2 A3 c3 A4 c4 B1 d1 B2 d2 B3 d3 B4 d4 w.heap.size (w.heap.size + 1) y.val (a1.below y.ok) (a2.below y.ok) (hX.on (aft_done bW y) (aft_done bW y).size) (hY.on (aft_done bW y) (aft_done bW y).size) ha hb)
  have HR := Lib.hid hr
  have HW := Lib.hid hW
  clear hX hY sa sb hr hW a1 a2
  cases ha : okAsm a with
  | false =>
    have hrf : r = false := by
      cases r with
      | false => rfl
      | true => have := (HR.out.1 rfl).1; rw [ha] at this; cases this
    subst hrf
    rw [ha] at H1
    clear HR H2 H3 ha
    go_enter Tryz.func18, Tryz.ntmps18
    go_upto_region 1 with (fail)
    rw [← HW.out]
    obtain ⟨x0, hx0⟩ : ∃ y : Aft W, y.val = W := ⟨⟨W, Below.refl _ _⟩, rfl⟩
    rw [← hx0]
    clear hx0
    go_wp2_with (fail)
    refine (aft_b (H1.out _)).mono ?_
    rintro e _ ⟨rfl, y, rfl⟩
    go_wp2
    go_ret
    exact ⟨rfl, aft_done bW y⟩
  | true =>
  cases hb : okAsm b with
  | false =>
    have hrf : r = false := by
      cases r with
      | false => rfl
      | true => have := (HR.out.1 rfl).2.1; rw [hb] at this; cases this
    subst hrf
    rw [ha] at H1
    rw [hb] at H2
    clear HR H3 ha hb
    go_enter Tryz.func18, Tryz.ntmps18
    go_upto_region 1 with (fail)
    rw [← HW.out]
    obtain ⟨x0, hx0⟩ : ∃ y : Aft W, y.val = W := ⟨⟨W, Below.refl _ _⟩, rfl⟩
    rw [← hx0]
    clear hx0
    go_wp2_with (fail)
    refine (aft_b (H1.out _)).mono ?_
    rintro e _ ⟨rfl, y, rfl⟩
    go_wp2_with (fail)
    refine (aft_b (H2.out _)).mono ?_
    rintro e _ ⟨rfl, y2, rfl⟩
    go_wp2
    go_ret
    exact ⟨rfl, aft_done bW y2⟩
  | true =>
    have HC := Lib.hid (fun y => sameV_val (r := r) (H3.out y ha hb) (by rw [HR.out, ha, hb]; simp))
    rw [ha] at H1
    rw [hb] at H2
    clear HR H3 ha hb
    go_enter Tryz.func18, Tryz.ntmps18
    go_upto_region 1 with (fail)
    rw [← HW.out]
    obtain ⟨x0, hx0⟩ : ∃ y : Aft W, y.val = W := ⟨⟨W, Below.refl _ _⟩, rfl⟩
    rw [← hx0]
    clear hx0
    go_wp2_with (fail)
    refine (aft_b (H1.out _)).mono ?_
    rintro e _ ⟨rfl, y, rfl⟩
    go_wp2_with (fail)
    refine (aft_b (H2.out _)).mono ?_
    rintro e _ ⟨rfl, y2, rfl⟩
    go_wp2_with (fail)
    refine (aft_b (HC.out _)).mono ?_
    rintro e _ ⟨rfl, y3, rfl⟩
    go_wp2
    go_ret
    exact ⟨rfl, aft_done bW y3⟩
end Go.Proofs.YtmfgonddmodpmaaGreat

namespace Go.Proofs.YtmfgonddmodpmaaGreat
open Go.RowKit Go.Lib
theorem asm_bits {a b : Asm} {rt rb ra rm : Bool} (e1 : rt = true ↔ a.trust = b.trust) (e2 : rb = true ↔ a.base = b.base) (e3 : ra = true ↔ a.acts = b.acts) (e4 : rm = true ↔ a.mots = b.mots) : (rt && ((a.day == b.day) && ((a.rule == b.rule) && (rb && (ra && rm))))) = true ↔ a = b := by
  rw [asm_iff]
  simp only [Bool.and_eq_true, beq_iff_eq, e1, e2, e3, e4]
  constructor
  · rintro ⟨h1, h2, h3, h4, h5, h6⟩
    exact ⟨h2, h3, h1, h4, h5, h6⟩
  · rintro ⟨h2, h3, h1, h4, h5, h6⟩
    exact ⟨h1, h2, h3, h4, h5, h6⟩
set_option maxRecDepth 100000 in
set_option maxHeartbeats 8000000 in
theorem sameAsm2_any (a b : Asm) (x y : VAsm) (w : World) (r : Bool) (hX : AsmR w w.heap.size x a) (hY : AsmR w w.heap.size y b) (sa : AsmSz a) (sb : AsmSz b) (hr : r = true ↔ sameP a b) :
    Calls Tryz.prog 19 #[asmV a x, asmV b y] w (RetB (.bool r) w) := by
  obtain ⟨A1, c1, A2, c2, A3, c3, A4, c4, rfl⟩ := hX.slices
  obtain ⟨B1, d1, B2, d2, B3, d3, B4, d4, rfl⟩ := hY.slices
  unfold asmV
  obtain ⟨W, hW⟩ : ∃ W : World, W = (w.alloc (.cells #[.int .i64 a.day, .int .i64 a.rule, .slice A1 a.trust.length c1, .slice A2 a.base.length c2, .slice A3 a.acts.length c3, .slice A4 a.mots.length c4] 34)).alloc (.cells #[.int .i64 b.day, .int .i64 b.rule, .slice B1 b.trust.length d1, .slice B2 b.base.length d2, .slice B3 b.acts.length d3, .slice B4 b.mots.length d4] 34) := ⟨_, rfl⟩
  have bW : Below w.heap.size w W := by rw [hW]; exact ((Below.refl _ _).alloc (Nat.le_refl _) _).alloc (by simp) _
  have a1 : Six W w.heap.size a ⟨.slice A1 a.trust.length c1, .slice A2 a.base.length c2, .slice A3 a.acts.length c3, .slice A4 a.mots.length c4⟩ := by rw [hW]; exact (Row.new w _ _).below ((Below.refl _ _).alloc (Nat.le_refl _) _) (by simp)
  have a2 : Six W (w.heap.size + 1) b ⟨.slice B1 b.trust.length d1, .slice B2 b.base.length d2, .slice B3 b.acts.length d3, .slice B4 b.mots.length d4⟩ := by rw [hW]; simpa [Six] using Row.new (w.alloc (.cells #[.int .i64 a.day, .int .i64 a.rule, .slice A1 a.trust.length c1, .slice A2 a.base.length c2, .slice A3 a.acts.length c3, .slice A4 a.mots.length c4] 34)) #[.int .i64 b.day, .int .i64 b.rule, .slice B1 b.trust.length d1, .slice B2 b.base.length d2, .slice B3 b.acts.length d3, .slice B4 b.mots.length d4] 34
  have z0 := fun y : Aft W => y.cell (a1.cell 0 _ rfl)
  have z1 := fun y : Aft W => y.cell (a1.cell 1 _ rfl)
  have z2 := fun y : Aft W => y.cell (a1.cell 2 _ rfl)
  have z3 := fun y : Aft W => y.cell (a1.cell 3 _ rfl)
  have z4 := fun y : Aft W => y.cell (a1.cell 4 _ rfl)
  have z5 := fun y : Aft W => y.cell (a1.cell 5 _ rfl)
  have t0 := fun y : Aft W => y.cell (a2.cell 0 _ rfl)
  have t1 := fun y : Aft W => y.cell (a2.cell 1 _ rfl)
  have t2 := fun y : Aft W => y.cell (a2.cell 2 _ rfl)
  have t3 := fun y : Aft W => y.cell (a2.cell 3 _ rfl)
  have t4 := fun y : Aft W => y.cell (a2.cell 4 _ rfl)
  have t5 := fun y : Aft W => y.cell (a2.cell 5 _ rfl)
  unfold sameP at hr
  obtain ⟨rt, e1⟩ := bool_iff (a.trust = b.trust)
  obtain ⟨rb, e2⟩ := bool_iff (a.base = b.base)
  obtain ⟨ra, e3⟩ := bool_iff (a.acts = b.acts)
  obtain ⟨rm, e4⟩ := bool_iff (a.mots = b.mots)
  have hiff := asm_bits e1 e2 e3 e4
  have HX := Lib.hid (fun y : Aft W => hX.on (aft_done bW y) (aft_done bW y).size)
  have HY := Lib.hid (fun y : Aft W => hY.on (aft_done bW y) (aft_done bW y).size)
  have H1 := Lib.hid (fun y : Aft W => valid2_any a _ y.val (HX.out y) sa)
  have H2 := Lib.hid (fun y : Aft W => valid2_any b _ y.val (HY.out y) sb)
  have HT := Lib.hid (fun y : Aft W => same_val (eqFuncI_any a.trust b.trust _ _ y.val (HX.out y).t (HY.out y).t _ (fun W p q B1 d1 B2 d2 _ k1 k2 => sameI_any p q B1 d1 B2 d2 W k1 k2) enters_sI) e1)
  have HB := Lib.hid (fun y : Aft W => same_val (equalA_any a.base b.base y.val _ _ (HX.out y).b (HY.out y).b) e2)
  have HA := Lib.hid (fun y : Aft W => same_val (sameActs_any a.acts b.acts _ _ y.val (HX.out y).c (HY.out y).c) e3)
  have HM := Lib.hid (fun y : Aft W => same_val (sameMots_any a.mots b.mots _ _ y.val (HX.out y).m (HY.out y).m) e4)
  unfold asmV at H1 H2
  have HR := Lib.hid hr
  have HW := Lib.hid hW
  clear hX hY sa sb hr hW a1 a2 HX HY e1 e2 e3 e4
  cases ha : okAsm a with
  | false =>
    have hrf : r = false := by
      cases r with
      | false => rfl
      | true => have := (HR.out.1 rfl).1; rw [ha] at this; cases this
    subst hrf
    rw [ha] at H1
    clear HR H2 ha HT HB HA HM hiff
    go_enter Tryz.func19, Tryz.ntmps19
    go_upto_region 1 with (fail)
    rw [← HW.out]
    obtain ⟨x0, hx0⟩ : ∃ y : Aft W, y.val = W := ⟨⟨W, Below.refl _ _⟩, rfl⟩
    rw [← hx0]
    clear hx0
    go_wp2_with (fail)
    refine (aft_b (H1.out _)).mono ?_
    rintro e _ ⟨rfl, y, rfl⟩
    go_wp2
    go_ret
    exact ⟨rfl, aft_done bW y⟩
  | true =>
  cases hb : okAsm b with
  | false =>
    have hrf : r = false := by
      cases r with
      | false => rfl
      | true => have := (HR.out.1 rfl).2.1; rw [hb] at this; cases this
    subst hrf
    rw [ha] at H1
    rw [hb] at H2
    clear HR ha hb HT HB HA HM hiff
    go_enter Tryz.func19, Tryz.ntmps19
    go_upto_region 1 with (fail)
    rw [← HW.out]
    obtain ⟨x0, hx0⟩ : ∃ y : Aft W, y.val = W := ⟨⟨W, Below.refl _ _⟩, rfl⟩
    rw [← hx0]
    clear hx0
    go_wp2_with (fail)
    refine (aft_b (H1.out _)).mono ?_
    rintro e _ ⟨rfl, y, rfl⟩
    go_wp2_with (fail)
    refine (aft_b (H2.out _)).mono ?_
    rintro e _ ⟨rfl, y2, rfl⟩
    go_wp2
    go_ret
    exact ⟨rfl, aft_done bW y2⟩
  | true =>
  replace HR := Lib.hid (show r = true ↔ a = b by rw [HR.out, ha, hb]; simp)
  cases g0 : rt with
  | false =>
    have hrf : r = false := by
      rw [g0] at hiff
      cases r with
      | false => rfl
      | true => have := hiff.2 (HR.out.1 rfl); simp at this
    subst hrf
    rw [g0] at HT
    clear g0
    rw [ha] at H1
    rw [hb] at H2
    clear HR ha hb hiff
    go_enter Tryz.func19, Tryz.ntmps19
    go_upto_region 1 with (fail)
    rw [← HW.out]
    obtain ⟨x0, hx0⟩ : ∃ y : Aft W, y.val = W := ⟨⟨W, Below.refl _ _⟩, rfl⟩
    rw [← hx0]
    clear hx0
    go_wp2_with (fail)
    refine (aft_b (H1.out _)).mono ?_
    rintro e _ ⟨rfl, y, rfl⟩
    go_wp2_with (fail)
    refine (aft_b (H2.out _)).mono ?_
    rintro e _ ⟨rfl, y2, rfl⟩
    go_wp2_with (first | (go_at_call 55; refine (aft_b (HT.out _)).mono ?_; rintro e _ ⟨rfl, y, rfl⟩) | (go_at_call 58; refine (aft_b (HB.out _)).mono ?_; rintro e _ ⟨rfl, y, rfl⟩) | (go_at_call 59; refine (aft_b (HA.out _)).mono ?_; rintro e _ ⟨rfl, y, rfl⟩) | (go_at_call 60; refine (aft_b (HM.out _)).mono ?_; rintro e _ ⟨rfl, y, rfl⟩))
    go_ret
    exact ⟨rfl, aft_done bW (by assumption)⟩
  | true =>
  cases g1 : (a.day == b.day) with
  | false =>
    have hrf : r = false := by
      rw [g0, g1] at hiff
      cases r with
      | false => rfl
      | true => have := hiff.2 (HR.out.1 rfl); simp at this
    subst hrf
    rw [g0] at HT
    clear g0
    rw [ha] at H1
    rw [hb] at H2
    clear HR ha hb hiff
    go_enter Tryz.func19, Tryz.ntmps19
    go_upto_region 1 with (fail)
    rw [← HW.out]
    obtain ⟨x0, hx0⟩ : ∃ y : Aft W, y.val = W := ⟨⟨W, Below.refl _ _⟩, rfl⟩
    rw [← hx0]
    clear hx0
    go_wp2_with (fail)
    refine (aft_b (H1.out _)).mono ?_
    rintro e _ ⟨rfl, y, rfl⟩
    go_wp2_with (fail)
    refine (aft_b (H2.out _)).mono ?_
    rintro e _ ⟨rfl, y2, rfl⟩
    go_wp2_with (first | (go_at_call 55; refine (aft_b (HT.out _)).mono ?_; rintro e _ ⟨rfl, y, rfl⟩) | (go_at_call 58; refine (aft_b (HB.out _)).mono ?_; rintro e _ ⟨rfl, y, rfl⟩) | (go_at_call 59; refine (aft_b (HA.out _)).mono ?_; rintro e _ ⟨rfl, y, rfl⟩) | (go_at_call 60; refine (aft_b (HM.out _)).mono ?_; rintro e _ ⟨rfl, y, rfl⟩))
    go_ret
    exact ⟨rfl, aft_done bW (by assumption)⟩
  | true =>
  cases g2 : (a.rule == b.rule) with
  | false =>
    have hrf : r = false := by
      rw [g0, g1, g2] at hiff
      cases r with
      | false => rfl
      | true => have := hiff.2 (HR.out.1 rfl); simp at this
    subst hrf
    rw [g0] at HT
    clear g0
    rw [ha] at H1
    rw [hb] at H2
    clear HR ha hb hiff
    go_enter Tryz.func19, Tryz.ntmps19
    go_upto_region 1 with (fail)
    rw [← HW.out]
    obtain ⟨x0, hx0⟩ : ∃ y : Aft W, y.val = W := ⟨⟨W, Below.refl _ _⟩, rfl⟩
    rw [← hx0]
    clear hx0
    go_wp2_with (fail)
    refine (aft_b (H1.out _)).mono ?_
    rintro e _ ⟨rfl, y, rfl⟩
    go_wp2_with (fail)
    refine (aft_b (H2.out _)).mono ?_
    rintro e _ ⟨rfl, y2, rfl⟩
    go_wp2_with (first | (go_at_call 55; refine (aft_b (HT.out _)).mono ?_; rintro e _ ⟨rfl, y, rfl⟩) | (go_at_call 58; refine (aft_b (HB.out _)).mono ?_; rintro e _ ⟨rfl, y, rfl⟩) | (go_at_call 59; refine (aft_b (HA.out _)).mono ?_; rintro e _ ⟨rfl, y, rfl⟩) | (go_at_call 60; refine (aft_b (HM.out _)).mono ?_; rintro e _ ⟨rfl, y, rfl⟩))
    go_ret
    exact ⟨rfl, aft_done bW (by assumption)⟩
  | true =>
  cases g3 : rb with
  | false =>
    have hrf : r = false := by
      rw [g0, g1, g2, g3] at hiff
      cases r with
      | false => rfl
      | true => have := hiff.2 (HR.out.1 rfl); simp at this
    subst hrf
    rw [g0] at HT
    clear g0
    rw [g3] at HB
    clear g3
    rw [ha] at H1
    rw [hb] at H2
    clear HR ha hb hiff
    go_enter Tryz.func19, Tryz.ntmps19
    go_upto_region 1 with (fail)
    rw [← HW.out]
    obtain ⟨x0, hx0⟩ : ∃ y : Aft W, y.val = W := ⟨⟨W, Below.refl _ _⟩, rfl⟩
    rw [← hx0]
    clear hx0
    go_wp2_with (fail)
    refine (aft_b (H1.out _)).mono ?_
    rintro e _ ⟨rfl, y, rfl⟩
    go_wp2_with (fail)
    refine (aft_b (H2.out _)).mono ?_
    rintro e _ ⟨rfl, y2, rfl⟩
    go_wp2_with (first | (go_at_call 55; refine (aft_b (HT.out _)).mono ?_; rintro e _ ⟨rfl, y, rfl⟩) | (go_at_call 58; refine (aft_b (HB.out _)).mono ?_; rintro e _ ⟨rfl, y, rfl⟩) | (go_at_call 59; refine (aft_b (HA.out _)).mono ?_; rintro e _ ⟨rfl, y, rfl⟩) | (go_at_call 60; refine (aft_b (HM.out _)).mono ?_; rintro e _ ⟨rfl, y, rfl⟩))
    go_ret
    exact ⟨rfl, aft_done bW (by assumption)⟩
  | true =>
  cases g4 : ra with
  | false =>
    have hrf : r = false := by
      rw [g0, g1, g2, g3, g4] at hiff
      cases r with
      | false => rfl
      | true => have := hiff.2 (HR.out.1 rfl); simp at this
    subst hrf
    rw [g0] at HT
    clear g0
    rw [g3] at HB
    clear g3
    rw [g4] at HA
    clear g4
    rw [ha] at H1
    rw [hb] at H2
    clear HR ha hb hiff
    go_enter Tryz.func19, Tryz.ntmps19
    go_upto_region 1 with (fail)
    rw [← HW.out]
    obtain ⟨x0, hx0⟩ : ∃ y : Aft W, y.val = W := ⟨⟨W, Below.refl _ _⟩, rfl⟩
    rw [← hx0]
    clear hx0
    go_wp2_with (fail)
    refine (aft_b (H1.out _)).mono ?_
    rintro e _ ⟨rfl, y, rfl⟩
    go_wp2_with (fail)
    refine (aft_b (H2.out _)).mono ?_
    rintro e _ ⟨rfl, y2, rfl⟩
    go_wp2_with (first | (go_at_call 55; refine (aft_b (HT.out _)).mono ?_; rintro e _ ⟨rfl, y, rfl⟩) | (go_at_call 58; refine (aft_b (HB.out _)).mono ?_; rintro e _ ⟨rfl, y, rfl⟩) | (go_at_call 59; refine (aft_b (HA.out _)).mono ?_; rintro e _ ⟨rfl, y, rfl⟩) | (go_at_call 60; refine (aft_b (HM.out _)).mono ?_; rintro e _ ⟨rfl, y, rfl⟩))
    go_ret
    exact ⟨rfl, aft_done bW (by assumption)⟩
  | true =>
  cases g5 : rm with
  | false =>
    have hrf : r = false := by
      rw [g0, g1, g2, g3, g4, g5] at hiff
      cases r with
      | false => rfl
      | true => have := hiff.2 (HR.out.1 rfl); simp at this
    subst hrf
    rw [g0] at HT
    clear g0
    rw [g3] at HB
    clear g3
    rw [g4] at HA
    clear g4
    rw [g5] at HM
    clear g5
    rw [ha] at H1
    rw [hb] at H2
    clear HR ha hb hiff
    go_enter Tryz.func19, Tryz.ntmps19
    go_upto_region 1 with (fail)
    rw [← HW.out]
    obtain ⟨x0, hx0⟩ : ∃ y : Aft W, y.val = W := ⟨⟨W, Below.refl _ _⟩, rfl⟩
    rw [← hx0]
    clear hx0
    go_wp2_with (fail)
    refine (aft_b (H1.out _)).mono ?_
    rintro e _ ⟨rfl, y, rfl⟩
    go_wp2_with (fail)
    refine (aft_b (H2.out _)).mono ?_
    rintro e _ ⟨rfl, y2, rfl⟩
    go_wp2_with (first | (go_at_call 55; refine (aft_b (HT.out _)).mono ?_; rintro e _ ⟨rfl, y, rfl⟩) | (go_at_call 58; refine (aft_b (HB.out _)).mono ?_; rintro e _ ⟨rfl, y, rfl⟩) | (go_at_call 59; refine (aft_b (HA.out _)).mono ?_; rintro e _ ⟨rfl, y, rfl⟩) | (go_at_call 60; refine (aft_b (HM.out _)).mono ?_; rintro e _ ⟨rfl, y, rfl⟩))
    go_ret
    exact ⟨rfl, aft_done bW (by assumption)⟩
  | true =>
    have hrt : r = true := by
      rw [g0, g1, g2, g3, g4, g5] at hiff
      exact HR.out.2 (hiff.1 rfl)
    subst hrt
    rw [g0] at HT
    clear g0
    rw [g3] at HB
    clear g3
    rw [g4] at HA
    clear g4
    rw [g5] at HM
    clear g5
    rw [ha] at H1
    rw [hb] at H2
    clear HR ha hb hiff
    go_enter Tryz.func19, Tryz.ntmps19
    go_upto_region 1 with (fail)
    rw [← HW.out]
    obtain ⟨x0, hx0⟩ : ∃ y : Aft W, y.val = W := ⟨⟨W, Below.refl _ _⟩, rfl⟩
    rw [← hx0]
    clear hx0
    go_wp2_with (fail)
    refine (aft_b (H1.out _)).mono ?_
    rintro e _ ⟨rfl, y, rfl⟩
    go_wp2_with (fail)
    refine (aft_b (H2.out _)).mono ?_
    rintro e _ ⟨rfl, y2, rfl⟩
    go_wp2_with (first | (go_at_call 55; refine (aft_b (HT.out _)).mono ?_; rintro e _ ⟨rfl, y, rfl⟩) | (go_at_call 58; refine (aft_b (HB.out _)).mono ?_; rintro e _ ⟨rfl, y, rfl⟩) | (go_at_call 59; refine (aft_b (HA.out _)).mono ?_; rintro e _ ⟨rfl, y, rfl⟩) | (go_at_call 60; refine (aft_b (HM.out _)).mono ?_; rintro e _ ⟨rfl, y, rfl⟩))
    go_ret
    exact ⟨rfl, aft_done bW (by assumption)⟩
end Go.Proofs.YtmfgonddmodpmaaGreat

namespace Go.Proofs.YtmfgonddmodpmaaGreat
open Go.RowKit Go.Lib
def AsmP (a : Asm) (w : World) (e : Ending) (w' : World) : Prop := ∃ A1 c1 A2 c2 A3 c3 A4 c4, e = .returned (.agg #[.int .i64 a.day, .int .i64 a.rule, .slice A1 a.trust.length c1, .slice A2 a.base.length c2, .slice A3 a.acts.length c3, .slice A4 a.mots.length c4]) ∧ AsmR w' w'.heap.size ⟨.slice A1 a.trust.length c1, .slice A2 a.base.length c2, .slice A3 a.acts.length c3, .slice A4 a.mots.length c4⟩ a ∧ Below w.heap.size w w'
theorem toAsmP (a : Asm) (x : VAsm) (w : World) (h : AsmR w w.heap.size x a) (hf : AsmFits a) : Calls Tryz.prog 9 #[asmV a x] w (AsmP a w) :=
  (toAsm_any a x w h hf).mono fun e w' ⟨y, T, C, M, he, hO, hb⟩ => by
    have hr := hO.r
    obtain ⟨A1, c1, A2, c2, A3, c3, A4, c4, rfl⟩ := hO.r.slices
    exact ⟨A1, c1, A2, c2, A3, c3, A4, c4, he, hr, hb⟩
set_option maxRecDepth 100000 in
set_option maxHeartbeats 16000000 in
theorem lawS_any (a b : Asm) (x y : VAsm) (w : World) (hX : AsmR w w.heap.size x a) (hY : AsmR w w.heap.size y b) (sa : AsmSz a) (sb : AsmSz b) :
    Calls Tryz.prog 5 #[asmV a x, asmV b y] w (RetB (.bool true) w) := by
  obtain ⟨r, hr⟩ := bool_iff (sameP a b)
  have HSP := Lib.hid (fun W x y (h1 : AsmR W W.heap.size x a) (h2 : AsmR W W.heap.size y b) => sameAsm1_any a b x y W r h1 h2 sa sb hr)
  have HIM := Lib.hid (fun W x y (h1 : AsmR W W.heap.size x a) (h2 : AsmR W W.heap.size y b) => sameAsm2_any a b x y W r h1 h2 sa sb hr)
  have hrr : (r != r) = false := by cases r <;> rfl
  clear hr
  obtain ⟨A1, c1, A2, c2, A3, c3, A4, c4, rfl⟩ := hX.slices
  obtain ⟨B1, d1, B2, d2, B3, d3, B4, d4, rfl⟩ := hY.slices
  unfold asmV
  obtain ⟨W, hW⟩ : ∃ W : World, W = (w.alloc (.cells #[.int .i64 a.day, .int .i64 a.rule, .slice A1 a.trust.length c1, .slice A2 a.base.length c2, .slice A3 a.acts.length c3, .slice A4 a.mots.length c4] 27)).alloc (.cells #[.int .i64 b.day, .int .i64 b.rule, .slice B1 b.trust.length d1, .slice B2 b.base.length d2, .slice B3 b.acts.length d3, .slice B4 b.mots.length d4] 27) := ⟨_, rfl⟩
  have bW : Below w.heap.size w W := by rw [hW]; exact ((Below.refl _ _).alloc (Nat.le_refl _) _).alloc (by simp) _
  have a1 : Six W w.heap.size a ⟨.slice A1 a.trust.length c1, .slice A2 a.base.length c2, .slice A3 a.acts.length c3, .slice A4 a.mots.length c4⟩ := by rw [hW]; exact (Row.new w _ _).below ((Below.refl _ _).alloc (Nat.le_refl _) _) (by simp)
  have a2 : Six W (w.heap.size + 1) b ⟨.slice B1 b.trust.length d1, .slice B2 b.base.length d2, .slice B3 b.acts.length d3, .slice B4 b.mots.length d4⟩ := by rw [hW]; simpa [Six] using Row.new (w.alloc (.cells #[.int .i64 a.day, .int .i64 a.rule, .slice A1 a.trust.length c1, .slice A2 a.base.length c2, .slice A3 a.acts.length c3, .slice A4 a.mots.length c4] 27)) #[.int .i64 b.day, .int .i64 b.rule, .slice B1 b.trust.length d1, .slice B2 b.base.length d2, .slice B3 b.acts.length d3, .slice B4 b.mots.length d4] 27
  have z0 := fun y : Aft W => y.cell (a1.cell 0 _ rfl)
  have z1 := fun y : Aft W => y.cell (a1.cell 1 _ rfl)
  have z2 := fun y : Aft W => y.cell (a1.cell 2 _ rfl)
  have z3 := fun y : Aft W => y.cell (a1.cell 3 _ rfl)
  have z4 := fun y : Aft W => y.cell (a1.cell 4 _ rfl)
  have z5 := fun y : Aft W => y.cell (a1.cell 5 _ rfl)
  have t0 := fun y : Aft W => y.cell (a2.cell 0 _ rfl)
  have t1 := fun y : Aft W => y.cell (a2.cell 1 _ rfl)
  have t2 := fun y : Aft W => y.cell (a2.cell 2 _ rfl)
  have t3 := fun y : Aft W => y.cell (a2.cell 3 _ rfl)
  have t4 := fun y : Aft W => y.cell (a2.cell 4 _ rfl)
  have t5 := fun y : Aft W => y.cell (a2.cell 5 _ rfl)
  have HRA := Lib.hid (fun y : Aft W => hX.on (aft_done bW y) (aft_done bW y).size)
  have HRB := Lib.hid (fun y : Aft W => hY.on (aft_done bW y) (aft_done bW y).size)
  have HZA := Lib.hid (fun (y : Aft W) (n : Int) (h0 : 0 ≤ n) (h1 : n ≤ 1048576) => szAsm_any a _ n y.val (HRA.out y) sa h0 h1)
  have HZB := Lib.hid (fun (y : Aft W) (n : Int) (h0 : 0 ≤ n) (h1 : n ≤ 1048576) => szAsm_any b _ n y.val (HRB.out y) sb h0 h1)
  have HA1 := Lib.hid a1
  have HA2 := Lib.hid a2
  have HW := Lib.hid hW
  clear hX hY sa sb hW a1 a2
  unfold asmV at HSP HIM HZA HZB
  go_enter Tryz.func5, Tryz.ntmps5
  go_upto_region 1 with (fail)
  rw [← HW.out]
  obtain ⟨x0, hx0⟩ : ∃ y : Aft W, y.val = W := ⟨⟨W, Below.refl _ _⟩, rfl⟩
  rw [← hx0]
  clear hx0
  go_wp2_with (fail)
  refine (HZA.out x0 1048576 (by omega) (by omega)).mono ?_
  rintro e1 w1 ⟨n1, rfl, hn1, hb1⟩
  obtain ⟨x1, rfl⟩ : ∃ y : Aft W, w1 = y.val := ⟨⟨w1, x0.ok.trans (hb1.mono x0.ok.size)⟩, rfl⟩
  clear hb1 HZA
  rcases hn1 with hn1 | ⟨hfa, hn1, hn1'⟩
  · go_wp2
    go_ret
    exact ⟨rfl, aft_done bW x1⟩
  have hrn : ¬ n1 < 0 := by omega
  go_wp2_with (fail)
  refine (HZB.out x1 n1 (by omega) (by omega)).mono ?_
  rintro e2 w2 ⟨n2, rfl, hn2, hb2⟩
  obtain ⟨x2, rfl⟩ : ∃ y : Aft W, w2 = y.val := ⟨⟨w2, x1.ok.trans (hb2.mono x1.ok.size)⟩, rfl⟩
  clear hb2 HZB
  rcases hn2 with hn2 | ⟨hfb, hn2, hn2'⟩
  · go_wp2
    go_ret
    exact ⟨rfl, aft_done bW x2⟩
  have hrn2 : ¬ n2 < 0 := by omega
  have HTA := Lib.hid (fun W' (h : Below W.heap.size W W') => toAsmP a _ W' (HRA.out ⟨W', h⟩) hfa)
  have HTB := Lib.hid (fun W' (h : Below W.heap.size W W') => toAsmP b _ W' (HRB.out ⟨W', h⟩) hfb)
  simp only [asmV] at HTA HTB
  clear hfa hfb HRA HRB
  go_wp2_with (fail)
  have HKEEP : Hid (∀ w', Below W.heap.size W w' → w'.cell? ⟨w.heap.size, 0, none⟩ = some (.int .i64 a.day) ∧ w'.cell? ⟨w.heap.size, 1, none⟩ = some (.int .i64 a.rule) ∧ w'.cell? ⟨w.heap.size, 2, none⟩ = some (.slice A1 a.trust.length c1) ∧ w'.cell? ⟨w.heap.size, 3, none⟩ = some (.slice A2 a.base.length c2) ∧ w'.cell? ⟨w.heap.size, 4, none⟩ = some (.slice A3 a.acts.length c3) ∧ w'.cell? ⟨w.heap.size, 5, none⟩ = some (.slice A4 a.mots.length c4) ∧ w'.cell? ⟨w.heap.size + 1, 0, none⟩ = some (.int .i64 b.day) ∧ w'.cell? ⟨w.heap.size + 1, 1, none⟩ = some (.int .i64 b.rule) ∧ w'.cell? ⟨w.heap.size + 1, 2, none⟩ = some (.slice B1 b.trust.length d1) ∧ w'.cell? ⟨w.heap.size + 1, 3, none⟩ = some (.slice B2 b.base.length d2) ∧ w'.cell? ⟨w.heap.size + 1, 4, none⟩ = some (.slice B3 b.acts.length d3) ∧ w'.cell? ⟨w.heap.size + 1, 5, none⟩ = some (.slice B4 b.mots.length d4) ∧ Below W.heap.size W w') := Lib.hid (fun w' h => ⟨z0 ⟨w', h⟩, z1 ⟨w', h⟩, z2 ⟨w', h⟩, z3 ⟨w', h⟩, z4 ⟨w', h⟩, z5 ⟨w', h⟩, t0 ⟨w', h⟩, t1 ⟨w', h⟩, t2 ⟨w', h⟩, t3 ⟨w', h⟩, t4 ⟨w', h⟩, t5 ⟨w', h⟩, h⟩)
  have HBEL : Hid (∀ w', w'.cell? ⟨w.heap.size, 0, none⟩ = some (.int .i64 a.day) ∧ w'.cell? ⟨w.heap.size, 1, none⟩ = some (.int .i64 a.rule) ∧ w'.cell? ⟨w.heap.size, 2, none⟩ = some (.slice A1 a.trust.length c1) ∧ w'.cell? ⟨w.heap.size, 3, none⟩ = some (.slice A2 a.base.length c2) ∧ w'.cell? ⟨w.heap.size, 4, none⟩ = some (.slice A3 a.acts.length c3) ∧ w'.cell? ⟨w.heap.size, 5, none⟩ = some (.slice A4 a.mots.length c4) ∧ w'.cell? ⟨w.heap.size + 1, 0, none⟩ = some (.int .i64 b.day) ∧ w'.cell? ⟨w.heap.size + 1, 1, none⟩ = some (.int .i64 b.rule) ∧ w'.cell? ⟨w.heap.size + 1, 2, none⟩ = some (.slice B1 b.trust.length d1) ∧ w'.cell? ⟨w.heap.size + 1, 3, none⟩ = some (.slice B2 b.base.length d2) ∧ w'.cell? ⟨w.heap.size + 1, 4, none⟩ = some (.slice B3 b.acts.length d3) ∧ w'.cell? ⟨w.heap.size + 1, 5, none⟩ = some (.slice B4 b.mots.length d4) ∧ Below W.heap.size W w' → Below W.heap.size W w') := Lib.hid (fun w' h => h.2.2.2.2.2.2.2.2.2.2.2.2)
  go_region_held3 (fun w' => w'.cell? ⟨w.heap.size, 0, none⟩ = some (.int .i64 a.day) ∧ w'.cell? ⟨w.heap.size, 1, none⟩ = some (.int .i64 a.rule) ∧ w'.cell? ⟨w.heap.size, 2, none⟩ = some (.slice A1 a.trust.length c1) ∧ w'.cell? ⟨w.heap.size, 3, none⟩ = some (.slice A2 a.base.length c2) ∧ w'.cell? ⟨w.heap.size, 4, none⟩ = some (.slice A3 a.acts.length c3) ∧ w'.cell? ⟨w.heap.size, 5, none⟩ = some (.slice A4 a.mots.length c4) ∧ w'.cell? ⟨w.heap.size + 1, 0, none⟩ = some (.int .i64 b.day) ∧ w'.cell? ⟨w.heap.size + 1, 1, none⟩ = some (.int .i64 b.rule) ∧ w'.cell? ⟨w.heap.size + 1, 2, none⟩ = some (.slice B1 b.trust.length d1) ∧ w'.cell? ⟨w.heap.size + 1, 3, none⟩ = some (.slice B2 b.base.length d2) ∧ w'.cell? ⟨w.heap.size + 1, 4, none⟩ = some (.slice B3 b.acts.length d3) ∧ w'.cell? ⟨w.heap.size + 1, 5, none⟩ = some (.slice B4 b.mots.length d4) ∧ Below W.heap.size W w')
    (first | exact HKEEP.out _ x2.ok | exact HKEEP.out _ x2.ok.drew | exact HKEEP.out _ ((HBEL.out _ (by assumption)).trans (Below.mono (by assumption) (HBEL.out _ (by assumption)).size)))
    (first | (go_at_call 9; (with_reducible refine Calls.mono (HTA.out _ (HBEL.out _ (by assumption))) ?_); rintro e6 w6 ⟨P1, i1, P2, i2, P3, i3, P4, i4, rfl, hra, hba⟩) | (go_at_call 9; (with_reducible refine Calls.mono (HTB.out _ (HBEL.out _ (by assumption))) ?_); rintro e6 w6 ⟨Q1, j1, Q2, j2, Q3, j3, Q4, j4, rfl, hrb, hbb⟩) | (go_at_call 18; refine (HSP.out _ _ _ (hra.on hbb hbb.size) hrb).mono ?_; rintro e7 w7 ⟨rfl, hb7⟩) | (go_at_call 18; refine (HSP.out _ _ _ hra (hrb.on hba hba.size)).mono ?_; rintro e7 w7 ⟨rfl, hb7⟩))
  all_goals
    obtain ⟨x3, hx3⟩ : ∃ y : Aft W, y.val = w7 := ⟨⟨w7, HBEL.out _ (by assumption)⟩, rfl⟩
    subst hx3
    clear hra hrb hba hbb hb7 HKEEP HBEL
    go_wp2_with (fail)
    refine (HTA.out _ x3.ok).mono ?_
    rintro e4 w4 ⟨E1, p1, E2, p2, E3, p3, E4, p4, rfl, hrE, hb4⟩
    obtain ⟨x4, rfl⟩ : ∃ y : Aft W, w4 = y.val := ⟨⟨w4, x3.ok.trans (hb4.mono x3.ok.size)⟩, rfl⟩
    clear hb4
    go_upto_region 10 with (fail)
    obtain ⟨V, hV⟩ : ∃ V : World, V = x4.val.alloc (.cells #[.int .i64 a.day, .int .i64 a.rule, .slice E1 a.trust.length p1, .slice E2 a.base.length p2, .slice E3 a.acts.length p3, .slice E4 a.mots.length p4] 34) := ⟨_, rfl⟩
    have bV : Below x4.val.heap.size x4.val V := by rw [hV]; exact (Below.refl _ _).alloc (Nat.le_refl _) _
    have rV : Six V x4.val.heap.size a ⟨.slice E1 a.trust.length p1, .slice E2 a.base.length p2, .slice E3 a.acts.length p3, .slice E4 a.mots.length p4⟩ := by rw [hV]; exact Row.new x4.val _ _
    have bWV : Below W.heap.size W V := x4.ok.trans (bV.mono x4.ok.size)
    rw [← hV]
    obtain ⟨x5, rfl⟩ : ∃ y : Aft W, V = y.val := ⟨⟨V, bWV⟩, rfl⟩
    clear hV
    go_wp2_with (fail)
    refine (HTB.out _ x5.ok).mono ?_
    rintro e5 w6 ⟨F1, q1, F2, q2, F3, q3, F4, q4, rfl, hrF, hb6⟩
    obtain ⟨x6, rfl⟩ : ∃ y : Aft W, w6 = y.val := ⟨⟨w6, x5.ok.trans (hb6.mono x5.ok.size)⟩, rfl⟩
    go_upto_region 11 with (fail)
    obtain ⟨U, hU⟩ : ∃ U : World, U = x6.val.alloc (.cells #[.int .i64 b.day, .int .i64 b.rule, .slice F1 b.trust.length q1, .slice F2 b.base.length q2, .slice F3 b.acts.length q3, .slice F4 b.mots.length q4] 34) := ⟨_, rfl⟩
    have bU : Below x6.val.heap.size x6.val U := by rw [hU]; exact (Below.refl _ _).alloc (Nat.le_refl _) _
    have s6 : Six U x6.val.heap.size b ⟨.slice F1 b.trust.length q1, .slice F2 b.base.length q2, .slice F3 b.acts.length q3, .slice F4 b.mots.length q4⟩ := by rw [hU]; exact Row.new x6.val _ _
    have b5U : Below x5.val.heap.size x5.val U := hb6.trans (bU.mono hb6.size)
    have s4 : Six U x4.val.heap.size a ⟨.slice E1 a.trust.length p1, .slice E2 a.base.length p2, .slice E3 a.acts.length p3, .slice E4 a.mots.length p4⟩ := rV.below b5U
    have bWU : Below W.heap.size W U := x6.ok.trans (bU.mono x6.ok.size)
    have sA := HA1.out.below bWU
    have sB := HA2.out.below bWU
    have rE := Lib.hid (fun w' (h : Below U.heap.size U w') => hrE.on ((bV.trans (b5U.mono bV.size)).trans (h.mono (bV.trans (b5U.mono bV.size)).size)) ((bV.trans (b5U.mono bV.size)).trans (h.mono (bV.trans (b5U.mono bV.size)).size)).size)
    have rF := Lib.hid (fun w' (h : Below U.heap.size U w') => hrF.on (bU.trans (h.mono bU.size)) (bU.trans (h.mono bU.size)).size)
    have HTA2 := Lib.hid (fun w' (h : Below U.heap.size U w') => HTA.out w' (bWU.trans (h.mono bWU.size)))
    have HTB2 := Lib.hid (fun w' (h : Below U.heap.size U w') => HTB.out w' (bWU.trans (h.mono bWU.size)))
    have HEA := Lib.hid (fun w' (h : Below U.heap.size U w') P1 i1 P2 i2 P3 i3 P4 i4 hr => eqAsm_any a ⟨.slice E1 a.trust.length p1, .slice E2 a.base.length p2, .slice E3 a.acts.length p3, .slice E4 a.mots.length p4⟩ (⟨.slice P1 a.trust.length i1, .slice P2 a.base.length i2, .slice P3 a.acts.length i3, .slice P4 a.mots.length i4⟩ : VAsm) w' (rE.out w' h) hr)
    have HEB := Lib.hid (fun w' (h : Below U.heap.size U w') P1 i1 P2 i2 P3 i3 P4 i4 hr => eqAsm_any b ⟨.slice F1 b.trust.length q1, .slice F2 b.base.length q2, .slice F3 b.acts.length q3, .slice F4 b.mots.length q4⟩ (⟨.slice P1 b.trust.length i1, .slice P2 b.base.length i2, .slice P3 b.acts.length i3, .slice P4 b.mots.length i4⟩ : VAsm) w' (rF.out w' h) hr)
    simp only [asmV] at HEA HEB
    have HFIN : Hid (∀ w', Below U.heap.size U w' → Below w.heap.size w w') := Lib.hid (fun w' h => bW.trans ((bWU.trans (h.mono bWU.size)).mono bW.size))
    have e0 := s4.cell 0 _ rfl
    have e1 := s4.cell 1 _ rfl
    have e2 := s4.cell 2 _ rfl
    have e3 := s4.cell 3 _ rfl
    have e4 := s4.cell 4 _ rfl
    have e5 := s4.cell 5 _ rfl
    have f0 := s6.cell 0 _ rfl
    have f1 := s6.cell 1 _ rfl
    have f2 := s6.cell 2 _ rfl
    have f3 := s6.cell 3 _ rfl
    have f4 := s6.cell 4 _ rfl
    have f5 := s6.cell 5 _ rfl
    have HKA : Hid (∀ w', Below U.heap.size U w' → w'.cell? ⟨x4.val.heap.size, 0, none⟩ = some (.int .i64 a.day) ∧ w'.cell? ⟨x4.val.heap.size, 1, none⟩ = some (.int .i64 a.rule) ∧ w'.cell? ⟨x4.val.heap.size, 2, none⟩ = some (.slice E1 a.trust.length p1) ∧ w'.cell? ⟨x4.val.heap.size, 3, none⟩ = some (.slice E2 a.base.length p2) ∧ w'.cell? ⟨x4.val.heap.size, 4, none⟩ = some (.slice E3 a.acts.length p3) ∧ w'.cell? ⟨x4.val.heap.size, 5, none⟩ = some (.slice E4 a.mots.length p4) ∧ w'.cell? ⟨w.heap.size, 0, none⟩ = some (.int .i64 a.day) ∧ w'.cell? ⟨w.heap.size, 1, none⟩ = some (.int .i64 a.rule) ∧ w'.cell? ⟨w.heap.size, 2, none⟩ = some (.slice A1 a.trust.length c1) ∧ w'.cell? ⟨w.heap.size, 3, none⟩ = some (.slice A2 a.base.length c2) ∧ w'.cell? ⟨w.heap.size, 4, none⟩ = some (.slice A3 a.acts.length c3) ∧ w'.cell? ⟨w.heap.size, 5, none⟩ = some (.slice A4 a.mots.length c4) ∧ Below U.heap.size U w') := Lib.hid (fun w' h => ⟨(s4.below h).cell 0 _ rfl, (s4.below h).cell 1 _ rfl, (s4.below h).cell 2 _ rfl, (s4.below h).cell 3 _ rfl, (s4.below h).cell 4 _ rfl, (s4.below h).cell 5 _ rfl, (sA.below h).cell 0 _ rfl, (sA.below h).cell 1 _ rfl, (sA.below h).cell 2 _ rfl, (sA.below h).cell 3 _ rfl, (sA.below h).cell 4 _ rfl, (sA.below h).cell 5 _ rfl, h⟩)
    have HBA : Hid (∀ w', w'.cell? ⟨x4.val.heap.size, 0, none⟩ = some (.int .i64 a.day) ∧ w'.cell? ⟨x4.val.heap.size, 1, none⟩ = some (.int .i64 a.rule) ∧ w'.cell? ⟨x4.val.heap.size, 2, none⟩ = some (.slice E1 a.trust.length p1) ∧ w'.cell? ⟨x4.val.heap.size, 3, none⟩ = some (.slice E2 a.base.length p2) ∧ w'.cell? ⟨x4.val.heap.size, 4, none⟩ = some (.slice E3 a.acts.length p3) ∧ w'.cell? ⟨x4.val.heap.size, 5, none⟩ = some (.slice E4 a.mots.length p4) ∧ w'.cell? ⟨w.heap.size, 0, none⟩ = some (.int .i64 a.day) ∧ w'.cell? ⟨w.heap.size, 1, none⟩ = some (.int .i64 a.rule) ∧ w'.cell? ⟨w.heap.size, 2, none⟩ = some (.slice A1 a.trust.length c1) ∧ w'.cell? ⟨w.heap.size, 3, none⟩ = some (.slice A2 a.base.length c2) ∧ w'.cell? ⟨w.heap.size, 4, none⟩ = some (.slice A3 a.acts.length c3) ∧ w'.cell? ⟨w.heap.size, 5, none⟩ = some (.slice A4 a.mots.length c4) ∧ Below U.heap.size U w' → Below U.heap.size U w') := Lib.hid (fun w' h => h.2.2.2.2.2.2.2.2.2.2.2.2)
    have HKB : Hid (∀ w', Below U.heap.size U w' → w'.cell? ⟨x6.val.heap.size, 0, none⟩ = some (.int .i64 b.day) ∧ w'.cell? ⟨x6.val.heap.size, 1, none⟩ = some (.int .i64 b.rule) ∧ w'.cell? ⟨x6.val.heap.size, 2, none⟩ = some (.slice F1 b.trust.length q1) ∧ w'.cell? ⟨x6.val.heap.size, 3, none⟩ = some (.slice F2 b.base.length q2) ∧ w'.cell? ⟨x6.val.heap.size, 4, none⟩ = some (.slice F3 b.acts.length q3) ∧ w'.cell? ⟨x6.val.heap.size, 5, none⟩ = some (.slice F4 b.mots.length q4) ∧ w'.cell? ⟨w.heap.size + 1, 0, none⟩ = some (.int .i64 b.day) ∧ w'.cell? ⟨w.heap.size + 1, 1, none⟩ = some (.int .i64 b.rule) ∧ w'.cell? ⟨w.heap.size + 1, 2, none⟩ = some (.slice B1 b.trust.length d1) ∧ w'.cell? ⟨w.heap.size + 1, 3, none⟩ = some (.slice B2 b.base.length d2) ∧ w'.cell? ⟨w.heap.size + 1, 4, none⟩ = some (.slice B3 b.acts.length d3) ∧ w'.cell? ⟨w.heap.size + 1, 5, none⟩ = some (.slice B4 b.mots.length d4) ∧ Below U.heap.size U w') := Lib.hid (fun w' h => ⟨(s6.below h).cell 0 _ rfl, (s6.below h).cell 1 _ rfl, (s6.below h).cell 2 _ rfl, (s6.below h).cell 3 _ rfl, (s6.below h).cell 4 _ rfl, (s6.below h).cell 5 _ rfl, (sB.below h).cell 0 _ rfl, (sB.below h).cell 1 _ rfl, (sB.below h).cell 2 _ rfl, (sB.below h).cell 3 _ rfl, (sB.below h).cell 4 _ rfl, (sB.below h).cell 5 _ rfl, h⟩)
    have HBB : Hid (∀ w', w'.cell? ⟨x6.val.heap.size, 0, none⟩ = some (.int .i64 b.day) ∧ w'.cell? ⟨x6.val.heap.size, 1, none⟩ = some (.int .i64 b.rule) ∧ w'.cell? ⟨x6.val.heap.size, 2, none⟩ = some (.slice F1 b.trust.length q1) ∧ w'.cell? ⟨x6.val.heap.size, 3, none⟩ = some (.slice F2 b.base.length q2) ∧ w'.cell? ⟨x6.val.heap.size, 4, none⟩ = some (.slice F3 b.acts.length q3) ∧ w'.cell? ⟨x6.val.heap.size, 5, none⟩ = some (.slice F4 b.mots.length q4) ∧ w'.cell? ⟨w.heap.size + 1, 0, none⟩ = some (.int .i64 b.day) ∧ w'.cell? ⟨w.heap.size + 1, 1, none⟩ = some (.int .i64 b.rule) ∧ w'.cell? ⟨w.heap.size + 1, 2, none⟩ = some (.slice B1 b.trust.length d1) ∧ w'.cell? ⟨w.heap.size + 1, 3, none⟩ = some (.slice B2 b.base.length d2) ∧ w'.cell? ⟨w.heap.size + 1, 4, none⟩ = some (.slice B3 b.acts.length d3) ∧ w'.cell? ⟨w.heap.size + 1, 5, none⟩ = some (.slice B4 b.mots.length d4) ∧ Below U.heap.size U w' → Below U.heap.size U w') := Lib.hid (fun w' h => h.2.2.2.2.2.2.2.2.2.2.2.2)
    rw [← hU]
    clear hU bV rV bWV hb6 bU b5U s4 s6 sA sB hrE hrF HTA HTB z0 z1 z2 z3 z4 z5 t0 t1 t2 t3 t4 t5 bWU
    go_wp2_with (fail)
    refine (HIM.out U _ _ (rE.out U (Below.refl _ _)) (rF.out U (Below.refl _ _))).mono ?_
    rintro e7 U2 ⟨rfl, bU2⟩
    clear e0 e1 e2 e3 e4 e5 f0 f1 f2 f3 f4 f5
    go_wp2_with (fail)
    go_region_held3 (fun w' => w'.cell? ⟨x4.val.heap.size, 0, none⟩ = some (.int .i64 a.day) ∧ w'.cell? ⟨x4.val.heap.size, 1, none⟩ = some (.int .i64 a.rule) ∧ w'.cell? ⟨x4.val.heap.size, 2, none⟩ = some (.slice E1 a.trust.length p1) ∧ w'.cell? ⟨x4.val.heap.size, 3, none⟩ = some (.slice E2 a.base.length p2) ∧ w'.cell? ⟨x4.val.heap.size, 4, none⟩ = some (.slice E3 a.acts.length p3) ∧ w'.cell? ⟨x4.val.heap.size, 5, none⟩ = some (.slice E4 a.mots.length p4) ∧ w'.cell? ⟨w.heap.size, 0, none⟩ = some (.int .i64 a.day) ∧ w'.cell? ⟨w.heap.size, 1, none⟩ = some (.int .i64 a.rule) ∧ w'.cell? ⟨w.heap.size, 2, none⟩ = some (.slice A1 a.trust.length c1) ∧ w'.cell? ⟨w.heap.size, 3, none⟩ = some (.slice A2 a.base.length c2) ∧ w'.cell? ⟨w.heap.size, 4, none⟩ = some (.slice A3 a.acts.length c3) ∧ w'.cell? ⟨w.heap.size, 5, none⟩ = some (.slice A4 a.mots.length c4) ∧ Below U.heap.size U w')
      (first | exact HKA.out _ bU2 | exact HKA.out _ (Below.drew bU2) | exact HKA.out _ ((HBA.out _ (by assumption)).trans (Below.mono (by assumption) (HBA.out _ (by assumption)).size)))
      (first | (go_at_call 9; refine Calls.mono (HTA2.out _ (HBA.out _ (by assumption))) ?_; rintro e6 w6 ⟨P1, i1, P2, i2, P3, i3, P4, i4, rfl, hra, hba⟩) | (go_at_call 11; refine Calls.mono (HEA.out _ (HBA.out _ (by assumption)) _ _ _ _ _ _ _ _ hra) ?_; rintro e7 w7 ⟨rfl, hb7⟩))
    all_goals
      have bU7 : Below U.heap.size U w7 := HBA.out _ (by assumption)
      clear hra hba hb7
      go_wp2_with (fail)
      go_region_held3 (fun w' => w'.cell? ⟨x6.val.heap.size, 0, none⟩ = some (.int .i64 b.day) ∧ w'.cell? ⟨x6.val.heap.size, 1, none⟩ = some (.int .i64 b.rule) ∧ w'.cell? ⟨x6.val.heap.size, 2, none⟩ = some (.slice F1 b.trust.length q1) ∧ w'.cell? ⟨x6.val.heap.size, 3, none⟩ = some (.slice F2 b.base.length q2) ∧ w'.cell? ⟨x6.val.heap.size, 4, none⟩ = some (.slice F3 b.acts.length q3) ∧ w'.cell? ⟨x6.val.heap.size, 5, none⟩ = some (.slice F4 b.mots.length q4) ∧ w'.cell? ⟨w.heap.size + 1, 0, none⟩ = some (.int .i64 b.day) ∧ w'.cell? ⟨w.heap.size + 1, 1, none⟩ = some (.int .i64 b.rule) ∧ w'.cell? ⟨w.heap.size + 1, 2, none⟩ = some (.slice B1 b.trust.length d1) ∧ w'.cell? ⟨w.heap.size + 1, 3, none⟩ = some (.slice B2 b.base.length d2) ∧ w'.cell? ⟨w.heap.size + 1, 4, none⟩ = some (.slice B3 b.acts.length d3) ∧ w'.cell? ⟨w.heap.size + 1, 5, none⟩ = some (.slice B4 b.mots.length d4) ∧ Below U.heap.size U w')
        (first | exact HKB.out _ bU7 | exact HKB.out _ (Below.drew bU7) | exact HKB.out _ ((HBB.out _ (by assumption)).trans (Below.mono (by assumption) (HBB.out _ (by assumption)).size)))
        (first | (go_at_call 9; refine Calls.mono (HTB2.out _ (HBB.out _ (by assumption))) ?_; rintro e6 w6 ⟨P1, i1, P2, i2, P3, i3, P4, i4, rfl, hra, hba⟩) | (go_at_call 11; refine Calls.mono (HEB.out _ (HBB.out _ (by assumption)) _ _ _ _ _ _ _ _ hra) ?_; rintro e7 w7 ⟨rfl, hb7⟩))
      all_goals
        have bU8 := HFIN.out _ (HBB.out _ (by assumption))
        go_wp2
        go_ret
        exact ⟨rfl, bU8⟩
end Go.Proofs.YtmfgonddmodpmaaGreat

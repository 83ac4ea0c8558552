/- FnExactValidAssembly, walked. -/
import Derived.Test.YtmfgonddmodpmaaGreatQF
namespace Go.Proofs.YtmfgonddmodpmaaGreat
open Go.RowKit Go.Lib

theorem AsmFits.sz {a : Asm} (h : AsmFits a) : AsmSz a where
  b := fun x hx => Nat.le_trans (h.b x hx) (by unfold maxLen; omega)
  c := fun x hx e he => ⟨Nat.le_trans ((h.c x hx).2 e he).1 (by unfold maxLen; omega), Nat.le_trans ((h.c x hx).2 e he).2 (by unfold maxLen; omega)⟩
  m := fun x hx => ⟨Nat.le_trans (h.m x hx).1 (by unfold maxLen; omega), fun e he => ⟨Nat.le_trans ((h.m x hx).2.2.1 e he).1 (by unfold maxLen; omega), Nat.le_trans ((h.m x hx).2.2.1 e he).2 (by unfold maxLen; omega)⟩⟩
/-- The six cells of an assembly's own variable. -/
def Six (W : World) (g : Nat) (a : Asm) (x : VAsm) : Prop := Row W g [.int .i64 a.day, .int .i64 a.rule, x.t, x.b, x.c, x.m]
theorem Six.below {W W' : World} {g : Nat} {a : Asm} {x : VAsm} (h : Six W g a x) (hb : Below W.heap.size W W') : Six W' g a x :=
  Row.below h hb (World.block_lt_of_cell? W ⟨g, 0, none⟩ (h.cell 0 _ rfl))
def SixC (W : World) (g : Nat) (a : Asm) (x : VAsm) : Prop := W.cell? ⟨g, 0, none⟩ = some (.int .i64 a.day) ∧ W.cell? ⟨g, 1, none⟩ = some (.int .i64 a.rule) ∧ W.cell? ⟨g, 2, none⟩ = some x.t ∧ W.cell? ⟨g, 3, none⟩ = some x.b ∧ W.cell? ⟨g, 4, none⟩ = some x.c ∧ W.cell? ⟨g, 5, none⟩ = some x.m
theorem Six.c {W : World} {g : Nat} {a : Asm} {x : VAsm} (h : Six W g a x) : SixC W g a x := ⟨h.cell 0 _ rfl, h.cell 1 _ rfl, h.cell 2 _ rfl, h.cell 3 _ rfl, h.cell 4 _ rfl, h.cell 5 _ rfl⟩
theorem Six.new (w : World) (a : Asm) (x : VAsm) (t : TypeId) : Six (w.alloc (.cells #[.int .i64 a.day, .int .i64 a.rule, x.t, x.b, x.c, x.m] t)) w.heap.size a x := Row.new w _ _

set_option maxRecDepth 100000 in
set_option maxHeartbeats 8000000 in
theorem lawV_any (a : Asm) (x : VAsm) (w : World) (h : AsmR w w.heap.size x a) (hs : AsmSz a) :
    Calls Tryz.prog 3 #[asmV a x] w (RetB (.bool true) w) := by
  obtain ⟨At, ct, Ab, cb, Ac, cc, Am, cm, rfl⟩ := h.slices
  obtain ⟨X, hX⟩ : ∃ X : VAsm, X = ⟨.slice At a.trust.length ct, .slice Ab a.base.length cb, .slice Ac a.acts.length cc, .slice Am a.mots.length cm⟩ := ⟨_, rfl⟩
  obtain ⟨W, hW⟩ : ∃ W : World, W = w.alloc (.cells #[.int .i64 a.day, .int .i64 a.rule, .slice At a.trust.length ct, .slice Ab a.base.length cb, .slice Ac a.acts.length cc, .slice Am a.mots.length cm] 27) := ⟨_, rfl⟩
  have bW : Below w.heap.size w W := by rw [hW]; exact (Below.refl _ _).alloc (Nat.le_refl _) _
  have a1 : Row W w.heap.size [.int .i64 a.day, .int .i64 a.rule, .slice At a.trust.length ct, .slice Ab a.base.length cb, .slice Ac a.acts.length cc, .slice Am a.mots.length cm] := by rw [hW]; exact Row.new w _ _
  have z0 := fun y : Aft W => y.cell (a1.cell 0 _ rfl)
  have z1 := fun y : Aft W => y.cell (a1.cell 1 _ rfl)
  have z2 := fun y : Aft W => y.cell (a1.cell 2 _ rfl)
  have z3 := fun y : Aft W => y.cell (a1.cell 3 _ rfl)
  have z4 := fun y : Aft W => y.cell (a1.cell 4 _ rfl)
  have z5 := fun y : Aft W => y.cell (a1.cell 5 _ rfl)
  have HR := Lib.hid (fun y : Aft W => h.on (aft_done bW y) (aft_done bW y).size)
  have HS := Lib.hid hs
  have HW := Lib.hid hW
  clear h hs hW a1
  unfold asmV
  go_enter Tryz.func3, Tryz.ntmps3
  go_wp2_with (fail)
  rw [← HW.out]
  obtain ⟨x0, hx0⟩ : ∃ y : Aft W, y.val = W := ⟨⟨W, Below.refl _ _⟩, rfl⟩
  rw [← hx0]
  clear hx0
  refine (szAsm_any a _ 1048576 _ (HR.out x0) HS.out (by omega) (by omega)).mono ?_
  rintro e1 w1 ⟨r, rfl, hr, hb1⟩
  obtain ⟨x1, rfl⟩ : ∃ y : Aft W, w1 = y.val := ⟨⟨w1, x0.ok.trans (hb1.mono x0.ok.size)⟩, rfl⟩
  clear hb1
  rcases hr with hr | ⟨hf, hr0, hr1⟩
  · go_wp2
    go_ret
    exact ⟨rfl, aft_done bW x1⟩
  have hrn : ¬ r < 0 := by omega
  have HF := Lib.hid hf
  clear hf
  go_wp2_with (fail)
  refine (toAsm_any a _ _ (HR.out x1) HF.out).mono ?_
  rintro e2 w2 ⟨y2, T2, C2, M2, rfl, hO2, hb2⟩
  obtain ⟨x2, rfl⟩ : ∃ y : Aft W, w2 = y.val := ⟨⟨w2, x1.ok.trans (hb2.mono x1.ok.size)⟩, rfl⟩
  have HO2 := Lib.hid hO2.r
  obtain ⟨B1, d1, B2, d2, B3, d3, B4, d4, rfl⟩ := hO2.r.slices
  clear hb2 hO2
  unfold asmV
  go_wp2_with (fail)
  refine (aft_b (valid1_any a _ _ HO2.out HS.out)).mono ?_
  rintro e3 _ ⟨rfl, x3, rfl⟩
  go_wp2_with (fail)
  refine (toAsm_any a _ _ (HR.out x3) HF.out).mono ?_
  rintro e4 w4 ⟨y4, T4, C4, M4, rfl, hO4, hb4⟩
  obtain ⟨x4, rfl⟩ : ∃ y : Aft W, w4 = y.val := ⟨⟨w4, x3.ok.trans (hb4.mono x3.ok.size)⟩, rfl⟩
  have hR4 := hO4.r
  obtain ⟨D1, f1, D2, f2, D3, f3, D4, f4, rfl⟩ := hO4.r.slices
  clear hb4 hO4
  unfold asmV
  have hsz4 : w.heap.size < x4.val.heap.size := World.block_lt_of_cell? x4.val ⟨w.heap.size, 0, none⟩ (z0 x4)
  go_wp2_with (fail)
  obtain ⟨V, hV⟩ : ∃ V : World, V = x4.val.alloc (.cells #[.int .i64 a.day, .int .i64 a.rule, .slice D1 a.trust.length f1, .slice D2 a.base.length f2, .slice D3 a.acts.length f3, .slice D4 a.mots.length f4] 34) := ⟨_, rfl⟩
  have bV : Below x4.val.heap.size x4.val V := by rw [hV]; exact (Below.refl _ _).alloc (Nat.le_refl _) _
  have bWV : Below W.heap.size W V := x4.ok.trans (bV.mono x4.ok.size)
  have hSV : Six V x4.val.heap.size a ⟨.slice D1 a.trust.length f1, .slice D2 a.base.length f2, .slice D3 a.acts.length f3, .slice D4 a.mots.length f4⟩ := by rw [hV]; exact Row.new x4.val _ _
  have hSW : Six V w.heap.size a ⟨.slice At a.trust.length ct, .slice Ab a.base.length cb, .slice Ac a.acts.length cc, .slice Am a.mots.length cm⟩ := by
    have : Six W w.heap.size a ⟨.slice At a.trust.length ct, .slice Ab a.base.length cb, .slice Ac a.acts.length cc, .slice Am a.mots.length cm⟩ := by rw [HW.out]; exact Row.new w _ _
    exact this.below bWV
  have HSV := Lib.hid hSV
  have HSW := Lib.hid hSW
  have HRV := Lib.hid (fun X (hX : Below V.heap.size V X) => hR4.on (bV.trans (hX.mono bV.size)) (bV.trans (hX.mono bV.size)).size)
  have HRW := Lib.hid (fun X (hX : Below V.heap.size V X) => HR.out ⟨X, bWV.trans (hX.mono bWV.size)⟩)
  have bwV : Below w.heap.size w V := bW.trans (bWV.mono bW.size)
  rw [← hV]
  clear hV hR4 hSV hSW z0 z1 z2 z3 z4 z5
  have BV0 := Below.refl V.heap.size V
  refine (valid2_any a _ _ (HRV.out V BV0) HS.out).mono ?_
  rintro e5 U ⟨rfl, bU⟩
  have HKEEP : Hid (∀ w', Below V.heap.size V w' → w'.cell? ⟨x4.val.heap.size, 0, none⟩ = some (.int .i64 a.day) ∧ w'.cell? ⟨x4.val.heap.size, 1, none⟩ = some (.int .i64 a.rule) ∧ w'.cell? ⟨x4.val.heap.size, 2, none⟩ = some (.slice D1 a.trust.length f1) ∧ w'.cell? ⟨x4.val.heap.size, 3, none⟩ = some (.slice D2 a.base.length f2) ∧ w'.cell? ⟨x4.val.heap.size, 4, none⟩ = some (.slice D3 a.acts.length f3) ∧ w'.cell? ⟨x4.val.heap.size, 5, none⟩ = some (.slice D4 a.mots.length f4) ∧ w'.cell? ⟨w.heap.size, 0, none⟩ = some (.int .i64 a.day) ∧ w'.cell? ⟨w.heap.size, 1, none⟩ = some (.int .i64 a.rule) ∧ w'.cell? ⟨w.heap.size, 2, none⟩ = some (.slice At a.trust.length ct) ∧ w'.cell? ⟨w.heap.size, 3, none⟩ = some (.slice Ab a.base.length cb) ∧ w'.cell? ⟨w.heap.size, 4, none⟩ = some (.slice Ac a.acts.length cc) ∧ w'.cell? ⟨w.heap.size, 5, none⟩ = some (.slice Am a.mots.length cm) ∧ Below V.heap.size V w') := Lib.hid (fun X hX => ⟨(HSV.out.below hX).cell 0 _ rfl, (HSV.out.below hX).cell 1 _ rfl, (HSV.out.below hX).cell 2 _ rfl, (HSV.out.below hX).cell 3 _ rfl, (HSV.out.below hX).cell 4 _ rfl, (HSV.out.below hX).cell 5 _ rfl, (HSW.out.below hX).cell 0 _ rfl, (HSW.out.below hX).cell 1 _ rfl, (HSW.out.below hX).cell 2 _ rfl, (HSW.out.below hX).cell 3 _ rfl, (HSW.out.below hX).cell 4 _ rfl, (HSW.out.below hX).cell 5 _ rfl, hX⟩)
  have HBEL : Hid (∀ w', w'.cell? ⟨x4.val.heap.size, 0, none⟩ = some (.int .i64 a.day) ∧ w'.cell? ⟨x4.val.heap.size, 1, none⟩ = some (.int .i64 a.rule) ∧ w'.cell? ⟨x4.val.heap.size, 2, none⟩ = some (.slice D1 a.trust.length f1) ∧ w'.cell? ⟨x4.val.heap.size, 3, none⟩ = some (.slice D2 a.base.length f2) ∧ w'.cell? ⟨x4.val.heap.size, 4, none⟩ = some (.slice D3 a.acts.length f3) ∧ w'.cell? ⟨x4.val.heap.size, 5, none⟩ = some (.slice D4 a.mots.length f4) ∧ w'.cell? ⟨w.heap.size, 0, none⟩ = some (.int .i64 a.day) ∧ w'.cell? ⟨w.heap.size, 1, none⟩ = some (.int .i64 a.rule) ∧ w'.cell? ⟨w.heap.size, 2, none⟩ = some (.slice At a.trust.length ct) ∧ w'.cell? ⟨w.heap.size, 3, none⟩ = some (.slice Ab a.base.length cb) ∧ w'.cell? ⟨w.heap.size, 4, none⟩ = some (.slice Ac a.acts.length cc) ∧ w'.cell? ⟨w.heap.size, 5, none⟩ = some (.slice Am a.mots.length cm) ∧ Below V.heap.size V w' → Below V.heap.size V w') := Lib.hid (fun X hX => hX.2.2.2.2.2.2.2.2.2.2.2.2)
  generalize okAsm a = ok
  cases ok <;>
  · go_wp2_with (fail)
    go_region_held3 (fun w' => w'.cell? ⟨x4.val.heap.size, 0, none⟩ = some (.int .i64 a.day) ∧ w'.cell? ⟨x4.val.heap.size, 1, none⟩ = some (.int .i64 a.rule) ∧ w'.cell? ⟨x4.val.heap.size, 2, none⟩ = some (.slice D1 a.trust.length f1) ∧ w'.cell? ⟨x4.val.heap.size, 3, none⟩ = some (.slice D2 a.base.length f2) ∧ w'.cell? ⟨x4.val.heap.size, 4, none⟩ = some (.slice D3 a.acts.length f3) ∧ w'.cell? ⟨x4.val.heap.size, 5, none⟩ = some (.slice D4 a.mots.length f4) ∧ w'.cell? ⟨w.heap.size, 0, none⟩ = some (.int .i64 a.day) ∧ w'.cell? ⟨w.heap.size, 1, none⟩ = some (.int .i64 a.rule) ∧ w'.cell? ⟨w.heap.size, 2, none⟩ = some (.slice At a.trust.length ct) ∧ w'.cell? ⟨w.heap.size, 3, none⟩ = some (.slice Ab a.base.length cb) ∧ w'.cell? ⟨w.heap.size, 4, none⟩ = some (.slice Ac a.acts.length cc) ∧ w'.cell? ⟨w.heap.size, 5, none⟩ = some (.slice Am a.mots.length cm) ∧ Below V.heap.size V w')
      (first | exact HKEEP.out _ bU | exact HKEEP.out _ bU.drew | exact HKEEP.out _ ((HBEL.out _ (by assumption)).trans (Below.mono (by assumption) (HBEL.out _ (by assumption)).size)))
      (first | (go_at_call 9; refine (toAsm_any a _ _ (HRW.out _ (HBEL.out _ (by assumption))) HF.out).mono ?_; rintro e6 w6 ⟨y6, T6, C6, M6, rfl, hO6, hb6⟩; have hR6 := hO6.r; obtain ⟨E1, l1, E2, l2, E3, l3, E4, l4, rfl⟩ := hO6.r.slices; clear hO6; unfold asmV) | (go_at_call 11; refine (eqAsm_any a _ _ _ (HRV.out _ (HBEL.out _ (by assumption))) hR6).mono ?_; rintro e7 w7 ⟨rfl, hb7⟩))
    all_goals
      go_wp2
      go_ret
      exact ⟨rfl, bwV.trans (Below.mono (HBEL.out _ (by assumption)) bwV.size)⟩
end Go.Proofs.YtmfgonddmodpmaaGreat

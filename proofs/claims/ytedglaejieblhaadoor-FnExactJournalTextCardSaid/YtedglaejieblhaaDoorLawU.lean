/- FnExactDeedText, walked. -/
import Derived.Test.YtedglaejieblhaaDoorLawT
namespace Go.Proofs.YtedglaejieblhaaDoor
open Go.RowKit Go.Lib

set_option maxRecDepth 100000 in
set_option maxHeartbeats 4000000 in
theorem deedText1_any (d : Deed) (A1 : Option Addr) (c1 : Nat) (A2 : Option Addr) (c2 : Nat) (w : World) (hT : Ints w w.heap.size (.slice A1 d.trust.length c1) d.trust) (hP : Edits w w.heap.size (.slice A2 d.patch.length c2) d.patch) (hs : SizesOk d.patch) (ht : d.title.size ≤ maxLen) :
    Calls Tryd.prog 7 #[.agg #[.int .i64 d.kind, .int .i64 d.member, .slice A1 d.trust.length c1, .string d.title, .int .i64 d.vote, .slice A2 d.patch.length c2, .int .i64 d.start, .int .i64 d.until_, .int .i64 d.closes]] w (RetB (.tuple #[.string ⟨(deedOut d).toArray⟩, .bool (okDeed d)]) w) := by
  obtain ⟨W, hW⟩ : ∃ W : World, W = w.alloc (.cells #[.int .i64 d.kind, .int .i64 d.member, .slice A1 d.trust.length c1, .string d.title, .int .i64 d.vote, .slice A2 d.patch.length c2, .int .i64 d.start, .int .i64 d.until_, .int .i64 d.closes] 31) := ⟨_, rfl⟩
  have bW : Below w.heap.size w W := by rw [hW]; exact (Below.refl _ _).alloc (Nat.le_refl _) _
  have HD : Hid (DeedP W w.heap.size 0 d A1 c1 A2 c2) := Lib.hid ⟨by rw [hW]; simp [go_sem], by rw [hW]; simp [go_sem], by rw [hW]; simp [go_sem], by rw [hW]; simp [go_sem], by rw [hW]; simp [go_sem], by rw [hW]; simp [go_sem], by rw [hW]; simp [go_sem], by rw [hW]; simp [go_sem], by rw [hW]; simp [go_sem], hT.on (Pl.stays _) bW bW.size, hP.on (Pl.stays _) bW bW.size, hs, ht⟩
  clear hT hP hs ht
  have HWE := Lib.hid hW
  clear hW
  go_enter Tryd.func7, Tryd.ntmps7
  go_wp2_with (fail)
  rw [← HWE.out]
  refine (deed1_any d w.heap.size 0 A1 c1 A2 c2 _ HD.out).mono ?_
  rintro e1 w1 ⟨rfl, hb1⟩
  obtain ⟨y, rfl⟩ : ∃ y : Aft W, w1 = y.val := ⟨⟨w1, hb1⟩, rfl⟩
  cases hok : okDeed d with
  | false =>
    have HO := Lib.hid hok
    clear hok
    go_wp2
    go_ret2
    exact ⟨by rw [deedOut_no HO.out, HO.out]; rfl, aft_done bW y⟩
  | true =>
    have HO := Lib.hid hok
    clear hok
    go_wp2_with (fail)
    refine (aft_b (text1_any d w.heap.size 0 A1 c1 A2 c2 _ (HD.out.aft y) HO.out)).mono ?_
    rintro e2 _ ⟨rfl, z, rfl⟩
    go_wp2
    go_ret2
    exact ⟨by rw [deedOut_ok HO.out, HO.out]; rfl, aft_done bW z⟩

theorem below_keep {V X X' : World} (h : Below V.heap.size V X) (hb : Below X.heap.size X X') : Below V.heap.size V X' := h.trans (hb.mono h.size)
theorem fits_ok {es : List Edit} (h : ∀ e ∈ es, Fits e) : SizesOk es := fun e he => ⟨Nat.le_trans (h e he).1 (by unfold maxLen; omega), Nat.le_trans (h e he).2 (by unfold maxLen; omega)⟩

set_option maxRecDepth 100000 in
set_option maxHeartbeats 8000000 in
theorem law_any (d : Deed) (A1 : Option Addr) (n1 c1 : Nat) (A2 : Option Addr) (n2 c2 : Nat) (w : World) (hT : Ints w w.heap.size (.slice A1 n1 c1) d.trust) (hP : Edits w w.heap.size (.slice A2 n2 c2) d.patch) (hs : SizesOk d.patch) (ht : d.title.size ≤ maxLen) (hE : Env w.heap.size w) :
    Calls Tryd.prog 3 #[.agg #[.int .i64 d.kind, .int .i64 d.member, .slice A1 n1 c1, .string d.title, .int .i64 d.vote, .slice A2 n2 c2, .int .i64 d.start, .int .i64 d.until_, .int .i64 d.closes]] w (RetB (.bool true) w) := by
  obtain ⟨W, hW⟩ : ∃ W : World, W = w.alloc (.cells #[.int .i64 d.kind, .int .i64 d.member, .slice A1 n1 c1, .string d.title, .int .i64 d.vote, .slice A2 n2 c2, .int .i64 d.start, .int .i64 d.until_, .int .i64 d.closes] 25) := ⟨_, rfl⟩
  have bW : Below w.heap.size w W := by rw [hW]; exact (Below.refl _ _).alloc (Nat.le_refl _) _
  have z0 := fun y : Aft W => y.cell (show W.cell? ⟨w.heap.size, 0, none⟩ = some (.int .i64 d.kind) by rw [hW]; simp [go_sem])
  have z1 := fun y : Aft W => y.cell (show W.cell? ⟨w.heap.size, 1, none⟩ = some (.int .i64 d.member) by rw [hW]; simp [go_sem])
  have z2 := fun y : Aft W => y.cell (show W.cell? ⟨w.heap.size, 2, none⟩ = some (.slice A1 n1 c1) by rw [hW]; simp [go_sem])
  have z3 := fun y : Aft W => y.cell (show W.cell? ⟨w.heap.size, 3, none⟩ = some (.string d.title) by rw [hW]; simp [go_sem])
  have z4 := fun y : Aft W => y.cell (show W.cell? ⟨w.heap.size, 4, none⟩ = some (.int .i64 d.vote) by rw [hW]; simp [go_sem])
  have z5 := fun y : Aft W => y.cell (show W.cell? ⟨w.heap.size, 5, none⟩ = some (.slice A2 n2 c2) by rw [hW]; simp [go_sem])
  have z6 := fun y : Aft W => y.cell (show W.cell? ⟨w.heap.size, 6, none⟩ = some (.int .i64 d.start) by rw [hW]; simp [go_sem])
  have z7 := fun y : Aft W => y.cell (show W.cell? ⟨w.heap.size, 7, none⟩ = some (.int .i64 d.until_) by rw [hW]; simp [go_sem])
  have z8 := fun y : Aft W => y.cell (show W.cell? ⟨w.heap.size, 8, none⟩ = some (.int .i64 d.closes) by rw [hW]; simp [go_sem])
  have HT := Lib.hid (fun y : Aft W => hT.on (Pl.stays _) (aft_done bW y) (aft_done bW y).size)
  have HP := Lib.hid (fun y : Aft W => hP.on (Pl.stays _) (aft_done bW y) (aft_done bW y).size)
  have HE := Lib.hid (fun y : Aft W => env_more (hE.on (aft_done bW y)) (aft_done bW y).size)
  have HS := Lib.hid hs
  have HTI := Lib.hid ht
  have hsz := fun y : Aft W => World.block_lt_of_cell? y.val ⟨w.heap.size, 0, none⟩ (z0 y)
  have HWE := Lib.hid hW
  clear hT hP hs ht hE hW
  go_enter Tryd.func3, Tryd.ntmps3
  go_wp2_with (fail)
  rw [← HWE.out]
  obtain ⟨x0, hx0⟩ : ∃ x : Aft W, x.val = W := ⟨⟨W, Below.refl _ _⟩, rfl⟩
  rw [← hx0]
  have HX := Lib.hid hx0
  clear hx0
  refine (szDeed_any d A1 n1 c1 A2 n2 c2 1048576 _ (HT.out x0) (HP.out x0) HS.out HTI.out (by omega) (by omega)).mono ?_
  rintro e1 w1 ⟨r, rfl, hr, hb1⟩
  obtain ⟨x1, rfl⟩ : ∃ y : Aft W, w1 = y.val := ⟨⟨w1, x0.ok.trans (hb1.mono x0.ok.size)⟩, rfl⟩
  rcases hr with hr | ⟨⟨q1, q2, q3, q4⟩, hr0, hr1⟩
  · go_wp2
    go_ret
    exact ⟨rfl, aft_done bW x1⟩
  · have hrn : ¬ r < 0 := by omega
    have HF := Lib.hid q4
    clear q2 q4 hb1
    go_wp2_with (fail)
    refine (toDeed_any d A1 n1 c1 A2 n2 c2 _ (HT.out x1) (HP.out x1) q1 q3).mono ?_
    rintro e2 w2 ⟨B1, d1, B2, d2, rfl, hI, hE2, hb2⟩
    obtain ⟨x2, rfl⟩ : ∃ y : Aft W, w2 = y.val := ⟨⟨w2, x1.ok.trans (hb2.mono x1.ok.size)⟩, rfl⟩
    go_wp2_with (fail)
    refine (aft_b (deedText1_any d B1 d1 B2 d2 _ hI hE2 (fits_ok HF.out) HTI.out)).mono ?_
    rintro e3 _ ⟨rfl, x3, rfl⟩
    clear hI hE2 hb2
    go_wp2_with (fail)
    refine (toDeed_any d A1 n1 c1 A2 n2 c2 _ (HT.out x3) (HP.out x3) q1 q3).mono ?_
    rintro e4 w4 ⟨E1, f1, E2, f2, rfl, hI, hE2, hb4⟩
    obtain ⟨x4, rfl⟩ : ∃ y : Aft W, w4 = y.val := ⟨⟨w4, x3.ok.trans (hb4.mono x3.ok.size)⟩, rfl⟩
    have HI4 := Lib.hid hI
    have HE4 := Lib.hid hE2
    clear hI hE2 hb4
    have hs4 := hsz x4
    go_wp2_with (fail)
    obtain ⟨V, hV⟩ : ∃ V : World, V = x4.val.alloc (.cells #[.int .i64 d.kind, .int .i64 d.member, .slice E1 d.trust.length f1, .string d.title, .int .i64 d.vote, .slice E2 d.patch.length f2, .int .i64 d.start, .int .i64 d.until_, .int .i64 d.closes] 31) := ⟨_, rfl⟩
    have bV : Below x4.val.heap.size x4.val V := by rw [hV]; exact (Below.refl _ _).alloc (Nat.le_refl _) _
    have bwV : Below w.heap.size w V := (aft_done bW x4).trans (bV.mono (aft_done bW x4).size)
    have v0 := fun y : Aft V => y.cell (show V.cell? ⟨x4.val.heap.size, 0, none⟩ = some (.int .i64 d.kind) by rw [hV]; simp [go_sem])
    have v1 := fun y : Aft V => y.cell (show V.cell? ⟨x4.val.heap.size, 1, none⟩ = some (.int .i64 d.member) by rw [hV]; simp [go_sem])
    have v2 := fun y : Aft V => y.cell (show V.cell? ⟨x4.val.heap.size, 2, none⟩ = some (.slice E1 d.trust.length f1) by rw [hV]; simp [go_sem])
    have v3 := fun y : Aft V => y.cell (show V.cell? ⟨x4.val.heap.size, 3, none⟩ = some (.string d.title) by rw [hV]; simp [go_sem])
    have v4 := fun y : Aft V => y.cell (show V.cell? ⟨x4.val.heap.size, 4, none⟩ = some (.int .i64 d.vote) by rw [hV]; simp [go_sem])
    have v5 := fun y : Aft V => y.cell (show V.cell? ⟨x4.val.heap.size, 5, none⟩ = some (.slice E2 d.patch.length f2) by rw [hV]; simp [go_sem])
    have v6 := fun y : Aft V => y.cell (show V.cell? ⟨x4.val.heap.size, 6, none⟩ = some (.int .i64 d.start) by rw [hV]; simp [go_sem])
    have v7 := fun y : Aft V => y.cell (show V.cell? ⟨x4.val.heap.size, 7, none⟩ = some (.int .i64 d.until_) by rw [hV]; simp [go_sem])
    have v8 := fun y : Aft V => y.cell (show V.cell? ⟨x4.val.heap.size, 8, none⟩ = some (.int .i64 d.closes) by rw [hV]; simp [go_sem])
    have v0s : V.heap.size = x4.val.heap.size + 1 := by rw [hV]; simp
    have hVW : Below W.heap.size W V := x4.ok.trans (bV.mono x4.ok.size)
    have bWV := hVW
    have y0 := fun y : Aft V => (show y.val.cell? ⟨w.heap.size, 0, none⟩ = some (.int .i64 d.kind) from z0 ⟨y.val, aft_done hVW y⟩)
    have y1 := fun y : Aft V => (show y.val.cell? ⟨w.heap.size, 1, none⟩ = some (.int .i64 d.member) from z1 ⟨y.val, aft_done hVW y⟩)
    have y2 := fun y : Aft V => (show y.val.cell? ⟨w.heap.size, 2, none⟩ = some (.slice A1 n1 c1) from z2 ⟨y.val, aft_done hVW y⟩)
    have y3 := fun y : Aft V => (show y.val.cell? ⟨w.heap.size, 3, none⟩ = some (.string d.title) from z3 ⟨y.val, aft_done hVW y⟩)
    have y4 := fun y : Aft V => (show y.val.cell? ⟨w.heap.size, 4, none⟩ = some (.int .i64 d.vote) from z4 ⟨y.val, aft_done hVW y⟩)
    have y5 := fun y : Aft V => (show y.val.cell? ⟨w.heap.size, 5, none⟩ = some (.slice A2 n2 c2) from z5 ⟨y.val, aft_done hVW y⟩)
    have y6 := fun y : Aft V => (show y.val.cell? ⟨w.heap.size, 6, none⟩ = some (.int .i64 d.start) from z6 ⟨y.val, aft_done hVW y⟩)
    have y7 := fun y : Aft V => (show y.val.cell? ⟨w.heap.size, 7, none⟩ = some (.int .i64 d.until_) from z7 ⟨y.val, aft_done hVW y⟩)
    have y8 := fun y : Aft V => (show y.val.cell? ⟨w.heap.size, 8, none⟩ = some (.int .i64 d.closes) from z8 ⟨y.val, aft_done hVW y⟩)
    rw [← hV]
    have HI5 := Lib.hid (fun y : Aft V => HI4.out.on (Pl.stays _) (aft_done bV y) (aft_done bV y).size)
    have HE5 := Lib.hid (fun y : Aft V => HE4.out.on (Pl.stays _) (aft_done bV y) (aft_done bV y).size)
    have HAW := Lib.hid (fun y : Aft V => (⟨⟨y.val, aft_done hVW y⟩, rfl⟩ : ∃ t : Aft W, t.val = y.val))
    clear hV z0 z1 z2 z3 z4 z5 z6 z7 z8
    obtain ⟨g, hg⟩ : ∃ g, g = x4.val.heap.size := ⟨_, rfl⟩
    obtain ⟨u0, hu0⟩ : ∃ y : Aft V, y.val = V := ⟨⟨V, Below.refl _ _⟩, rfl⟩
    rw [← hu0]
    have HV0 := Lib.hid hu0
    clear hu0
    refine (aft_b (deedText2_any d E1 f1 E2 f2 _ (HI5.out u0) (HE5.out u0) (fits_ok HF.out) HTI.out (by obtain ⟨t, ht⟩ := HAW.out u0; rw [← ht]; exact HE.out t))).mono ?_
    rintro e5 _ ⟨rfl, u1, rfl⟩
    go_wp2_with (fail)
    have HTV : Hid (∀ X : World, Below V.heap.size V X → Ints X X.heap.size (.slice A1 n1 c1) d.trust) := Lib.hid (fun X hX => HT.out ⟨X, aft_done hVW ⟨X, hX⟩⟩)
    have HPV : Hid (∀ X : World, Below V.heap.size V X → Edits X X.heap.size (.slice A2 n2 c2) d.patch) := Lib.hid (fun X hX => HP.out ⟨X, aft_done hVW ⟨X, hX⟩⟩)
    have HIV : Hid (∀ X : World, Below V.heap.size V X → Ints X X.heap.size (.slice E1 d.trust.length f1) d.trust) := Lib.hid (fun X hX => HI5.out ⟨X, hX⟩)
    have HEV : Hid (∀ X : World, Below V.heap.size V X → Edits X X.heap.size (.slice E2 d.patch.length f2) d.patch) := Lib.hid (fun X hX => HE5.out ⟨X, hX⟩)
    have t0 : ∀ X : World, Below V.heap.size V X → X.cell? ⟨x4.val.heap.size, 0, none⟩ = some (.int .i64 d.kind) := fun X hX => v0 ⟨X, hX⟩
    have t1 : ∀ X : World, Below V.heap.size V X → X.cell? ⟨x4.val.heap.size, 1, none⟩ = some (.int .i64 d.member) := fun X hX => v1 ⟨X, hX⟩
    have t2 : ∀ X : World, Below V.heap.size V X → X.cell? ⟨x4.val.heap.size, 2, none⟩ = some (.slice E1 d.trust.length f1) := fun X hX => v2 ⟨X, hX⟩
    have t3 : ∀ X : World, Below V.heap.size V X → X.cell? ⟨x4.val.heap.size, 3, none⟩ = some (.string d.title) := fun X hX => v3 ⟨X, hX⟩
    have t4 : ∀ X : World, Below V.heap.size V X → X.cell? ⟨x4.val.heap.size, 4, none⟩ = some (.int .i64 d.vote) := fun X hX => v4 ⟨X, hX⟩
    have t5 : ∀ X : World, Below V.heap.size V X → X.cell? ⟨x4.val.heap.size, 5, none⟩ = some (.slice E2 d.patch.length f2) := fun X hX => v5 ⟨X, hX⟩
    have t6 : ∀ X : World, Below V.heap.size V X → X.cell? ⟨x4.val.heap.size, 6, none⟩ = some (.int .i64 d.start) := fun X hX => v6 ⟨X, hX⟩
    have t7 : ∀ X : World, Below V.heap.size V X → X.cell? ⟨x4.val.heap.size, 7, none⟩ = some (.int .i64 d.until_) := fun X hX => v7 ⟨X, hX⟩
    have t8 : ∀ X : World, Below V.heap.size V X → X.cell? ⟨x4.val.heap.size, 8, none⟩ = some (.int .i64 d.closes) := fun X hX => v8 ⟨X, hX⟩
    have s0 : ∀ X : World, Below V.heap.size V X → X.cell? ⟨w.heap.size, 0, none⟩ = some (.int .i64 d.kind) := fun X hX => y0 ⟨X, hX⟩
    have s1 : ∀ X : World, Below V.heap.size V X → X.cell? ⟨w.heap.size, 1, none⟩ = some (.int .i64 d.member) := fun X hX => y1 ⟨X, hX⟩
    have s2 : ∀ X : World, Below V.heap.size V X → X.cell? ⟨w.heap.size, 2, none⟩ = some (.slice A1 n1 c1) := fun X hX => y2 ⟨X, hX⟩
    have s3 : ∀ X : World, Below V.heap.size V X → X.cell? ⟨w.heap.size, 3, none⟩ = some (.string d.title) := fun X hX => y3 ⟨X, hX⟩
    have s4 : ∀ X : World, Below V.heap.size V X → X.cell? ⟨w.heap.size, 4, none⟩ = some (.int .i64 d.vote) := fun X hX => y4 ⟨X, hX⟩
    have s5 : ∀ X : World, Below V.heap.size V X → X.cell? ⟨w.heap.size, 5, none⟩ = some (.slice A2 n2 c2) := fun X hX => y5 ⟨X, hX⟩
    have s6 : ∀ X : World, Below V.heap.size V X → X.cell? ⟨w.heap.size, 6, none⟩ = some (.int .i64 d.start) := fun X hX => y6 ⟨X, hX⟩
    have s7 : ∀ X : World, Below V.heap.size V X → X.cell? ⟨w.heap.size, 7, none⟩ = some (.int .i64 d.until_) := fun X hX => y7 ⟨X, hX⟩
    have s8 : ∀ X : World, Below V.heap.size V X → X.cell? ⟨w.heap.size, 8, none⟩ = some (.int .i64 d.closes) := fun X hX => y8 ⟨X, hX⟩
    have bu1 := u1.ok
    obtain ⟨U, hU⟩ : ∃ U, U = u1.val := ⟨_, rfl⟩
    rw [← hU] at bu1 ⊢
    have HMK : Hid (∀ X : World, Below V.heap.size V X → X.cell? ⟨x4.val.heap.size, 0, none⟩ = some (.int .i64 d.kind) ∧ X.cell? ⟨x4.val.heap.size, 1, none⟩ = some (.int .i64 d.member) ∧ X.cell? ⟨x4.val.heap.size, 2, none⟩ = some (.slice E1 d.trust.length f1) ∧ X.cell? ⟨x4.val.heap.size, 3, none⟩ = some (.string d.title) ∧ X.cell? ⟨x4.val.heap.size, 4, none⟩ = some (.int .i64 d.vote) ∧ X.cell? ⟨x4.val.heap.size, 5, none⟩ = some (.slice E2 d.patch.length f2) ∧ X.cell? ⟨x4.val.heap.size, 6, none⟩ = some (.int .i64 d.start) ∧ X.cell? ⟨x4.val.heap.size, 7, none⟩ = some (.int .i64 d.until_) ∧ X.cell? ⟨x4.val.heap.size, 8, none⟩ = some (.int .i64 d.closes) ∧ X.cell? ⟨w.heap.size, 0, none⟩ = some (.int .i64 d.kind) ∧ X.cell? ⟨w.heap.size, 1, none⟩ = some (.int .i64 d.member) ∧ X.cell? ⟨w.heap.size, 2, none⟩ = some (.slice A1 n1 c1) ∧ X.cell? ⟨w.heap.size, 3, none⟩ = some (.string d.title) ∧ X.cell? ⟨w.heap.size, 4, none⟩ = some (.int .i64 d.vote) ∧ X.cell? ⟨w.heap.size, 5, none⟩ = some (.slice A2 n2 c2) ∧ X.cell? ⟨w.heap.size, 6, none⟩ = some (.int .i64 d.start) ∧ X.cell? ⟨w.heap.size, 7, none⟩ = some (.int .i64 d.until_) ∧ X.cell? ⟨w.heap.size, 8, none⟩ = some (.int .i64 d.closes) ∧ Below V.heap.size V X) := Lib.hid (fun X hX => ⟨t0 X hX, t1 X hX, t2 X hX, t3 X hX, t4 X hX, t5 X hX, t6 X hX, t7 X hX, t8 X hX, s0 X hX, s1 X hX, s2 X hX, s3 X hX, s4 X hX, s5 X hX, s6 X hX, s7 X hX, s8 X hX, hX⟩)
    have HLS : Hid (∀ X : World, X.cell? ⟨x4.val.heap.size, 0, none⟩ = some (.int .i64 d.kind) ∧ X.cell? ⟨x4.val.heap.size, 1, none⟩ = some (.int .i64 d.member) ∧ X.cell? ⟨x4.val.heap.size, 2, none⟩ = some (.slice E1 d.trust.length f1) ∧ X.cell? ⟨x4.val.heap.size, 3, none⟩ = some (.string d.title) ∧ X.cell? ⟨x4.val.heap.size, 4, none⟩ = some (.int .i64 d.vote) ∧ X.cell? ⟨x4.val.heap.size, 5, none⟩ = some (.slice E2 d.patch.length f2) ∧ X.cell? ⟨x4.val.heap.size, 6, none⟩ = some (.int .i64 d.start) ∧ X.cell? ⟨x4.val.heap.size, 7, none⟩ = some (.int .i64 d.until_) ∧ X.cell? ⟨x4.val.heap.size, 8, none⟩ = some (.int .i64 d.closes) ∧ X.cell? ⟨w.heap.size, 0, none⟩ = some (.int .i64 d.kind) ∧ X.cell? ⟨w.heap.size, 1, none⟩ = some (.int .i64 d.member) ∧ X.cell? ⟨w.heap.size, 2, none⟩ = some (.slice A1 n1 c1) ∧ X.cell? ⟨w.heap.size, 3, none⟩ = some (.string d.title) ∧ X.cell? ⟨w.heap.size, 4, none⟩ = some (.int .i64 d.vote) ∧ X.cell? ⟨w.heap.size, 5, none⟩ = some (.slice A2 n2 c2) ∧ X.cell? ⟨w.heap.size, 6, none⟩ = some (.int .i64 d.start) ∧ X.cell? ⟨w.heap.size, 7, none⟩ = some (.int .i64 d.until_) ∧ X.cell? ⟨w.heap.size, 8, none⟩ = some (.int .i64 d.closes) ∧ Below V.heap.size V X → Below V.heap.size V X) := Lib.hid (fun X hX => hX.2.2.2.2.2.2.2.2.2.2.2.2.2.2.2.2.2.2)
    clear hU hg t0 s0 t1 s1 t2 s2 t3 s3 t4 s4 t5 s5 t6 s6 t7 s7 t8 s8 v0 v1 v2 v3 v4 v5 v6 v7 v8 y0 y1 y2 y3 y4 y5 y6 y7 y8
    go_region_held3 (fun w' => w'.cell? ⟨x4.val.heap.size, 0, none⟩ = some (.int .i64 d.kind) ∧ w'.cell? ⟨x4.val.heap.size, 1, none⟩ = some (.int .i64 d.member) ∧ w'.cell? ⟨x4.val.heap.size, 2, none⟩ = some (.slice E1 d.trust.length f1) ∧ w'.cell? ⟨x4.val.heap.size, 3, none⟩ = some (.string d.title) ∧ w'.cell? ⟨x4.val.heap.size, 4, none⟩ = some (.int .i64 d.vote) ∧ w'.cell? ⟨x4.val.heap.size, 5, none⟩ = some (.slice E2 d.patch.length f2) ∧ w'.cell? ⟨x4.val.heap.size, 6, none⟩ = some (.int .i64 d.start) ∧ w'.cell? ⟨x4.val.heap.size, 7, none⟩ = some (.int .i64 d.until_) ∧ w'.cell? ⟨x4.val.heap.size, 8, none⟩ = some (.int .i64 d.closes) ∧ w'.cell? ⟨w.heap.size, 0, none⟩ = some (.int .i64 d.kind) ∧ w'.cell? ⟨w.heap.size, 1, none⟩ = some (.int .i64 d.member) ∧ w'.cell? ⟨w.heap.size, 2, none⟩ = some (.slice A1 n1 c1) ∧ w'.cell? ⟨w.heap.size, 3, none⟩ = some (.string d.title) ∧ w'.cell? ⟨w.heap.size, 4, none⟩ = some (.int .i64 d.vote) ∧ w'.cell? ⟨w.heap.size, 5, none⟩ = some (.slice A2 n2 c2) ∧ w'.cell? ⟨w.heap.size, 6, none⟩ = some (.int .i64 d.start) ∧ w'.cell? ⟨w.heap.size, 7, none⟩ = some (.int .i64 d.until_) ∧ w'.cell? ⟨w.heap.size, 8, none⟩ = some (.int .i64 d.closes) ∧ Below V.heap.size V w')
      (first | exact HMK.out _ bu1 | exact HMK.out _ bu1.drew | exact HMK.out _ (below_keep (HLS.out _ (by assumption)) (by assumption)))
      (first | (go_at_call 8; refine (toDeed_any d A1 n1 c1 A2 n2 c2 _ (HTV.out _ (HLS.out _ (by assumption))) (HPV.out _ (HLS.out _ (by assumption))) q1 q3).mono ?_; rintro e6 w6 ⟨F1, k1, F2, k2, rfl, hI6, hE6, hb6⟩) | (go_at_call 10; refine (eqDeed_any d _ _ _ _ _ _ _ _ _ _ _ _ _ (HIV.out _ (HLS.out _ (by assumption))) (HEV.out _ (HLS.out _ (by assumption))) hI6 hE6).mono ?_; rintro e7 w7 ⟨rfl, hb7⟩))
    all_goals
      go_wp2
      go_ret
      exact ⟨rfl, bwV.trans (Below.mono (HLS.out _ (by assumption)) bwV.size)⟩
end Go.Proofs.YtedglaejieblhaaDoor

/- The verdict on a motion of an assembly, walked: the reference's. The verdict on a motion of an assembly, walked: the program's. FnExactVerdictOf: the law, walked. -/
import Derived.Test.YtnandbammmcncaaGreatYV
namespace Go.Proofs.YtnandbammmcncaaGreat
open Go.RowKit Go.Lib

noncomputable def verOf (a : Asm) (t : ByteArray) : Int := if knownB a t = true then (if (motOf a t).result = 0 then verM a (motOf a t) (motOf a t).votes else (motOf a t).result) else 0
theorem verOf_no {a : Asm} {t : ByteArray} (h : knownB a t = false) : verOf a t = 0 := by unfold verOf; rw [if_neg (by rw [h]; simp)]
theorem verOf_yes {a : Asm} {t : ByteArray} (h : knownB a t = true) : verOf a t = if (motOf a t).result = 0 then verM a (motOf a t) (motOf a t).votes else (motOf a t).result := by unfold verOf; rw [if_pos h]

set_option maxRecDepth 100000 in
set_option maxHeartbeats 4000000 in
theorem verdictOf1_any (a : Asm) (x : VAsm) (t : ByteArray) (w : World) (h : AsmR w w.heap.size x a) (hs : AsmSz a) : Calls Tryz.prog 20 #[asmV a x, .string t] w (RetB (.tuple #[.int .i64 (verOf a t), .bool (knownB a t)]) w) := by
  obtain ⟨At, ct, Ab, cb, Ac, cc, Am, cm, rfl⟩ := h.slices
  unfold asmV
  obtain ⟨W, hW⟩ : ∃ W : World, W = w.alloc (.cells #[.int .i64 a.day, .int .i64 a.rule, .slice At a.trust.length ct, .slice Ab a.base.length cb, .slice Ac a.acts.length cc, .slice Am a.mots.length cm] 36) := ⟨_, rfl⟩
  have bW : Below w.heap.size w W := by rw [hW]; exact (Below.refl _ _).alloc (Nat.le_refl _) _
  have a1 : Row W w.heap.size [.int .i64 a.day, .int .i64 a.rule, .slice At a.trust.length ct, .slice Ab a.base.length cb, .slice Ac a.acts.length cc, .slice Am a.mots.length cm] := by rw [hW]; exact Row.new w _ _
  have z0 := fun y : Aft W => y.cell (a1.cell 0 _ rfl)
  have z1 := fun y : Aft W => y.cell (a1.cell 1 _ rfl)
  have z2 := fun y : Aft W => y.cell (a1.cell 2 _ rfl)
  have z3 := fun y : Aft W => y.cell (a1.cell 3 _ rfl)
  have z4 := fun y : Aft W => y.cell (a1.cell 4 _ rfl)
  have z5 := fun y : Aft W => y.cell (a1.cell 5 _ rfl)
  have hRW := h.on bW bW.size
  have HR := Lib.hid (fun y : Aft W => h.on (aft_done bW y) (aft_done bW y).size)
  have HGM : Hid (0 < a.mots.length → ∃ b off, Am = some ⟨b, off, none⟩ ∧ b < W.heap.size ∧ ∀ (k : Nat) (m : Mot), a.mots[k]? = some m → ∃ A1 c1 A2 c2, MotP W W.heap.size b (off + k * 8) m A1 c1 A2 c2) := Lib.hid (by
    obtain ⟨A, c, hv, _, _, h⟩ := mots_at hRW.m
    have hv : Value.slice Am a.mots.length cm = .slice A a.mots.length c := hv
    injection hv with e1 e2 e3
    rw [e1]
    exact h)
  have HW := Lib.hid hW
  have HROW := Lib.hid a1
  have sW : w.heap.size < W.heap.size := by rw [hW]; simp
  obtain ⟨x0, hx0⟩ : ∃ y : Aft W, y.val = W := ⟨⟨W, Below.refl _ _⟩, rfl⟩
  have HX0 := Lib.hid hx0
  have HOK := Lib.hid (fun y : Aft W => ok1_any a ⟨.slice At a.trust.length ct, .slice Ab a.base.length cb, .slice Ac a.acts.length cc, .slice Am a.mots.length cm⟩ w.heap.size 0 y.val (z0 y) (z1 y) (z2 y) (z3 y) (z4 y) (z5 y) (HR.out y) hs)
  have HFI := Lib.hid (fun y : Aft W => find1_anyT a ⟨.slice At a.trust.length ct, .slice Ab a.base.length cb, .slice Ac a.acts.length cc, .slice Am a.mots.length cm⟩ t w.heap.size 0 y.val (by rw [Nat.zero_add]; exact z5 y) (HR.out y).m)
  clear h hW a1 hx0 hRW hs
  cases hv : okAsm a with
  | false =>
    have hkb := known_bad (t := t) hv
    have HN := verOf_no hkb
    rw [hv] at HOK
    rw [hkb, HN]
    clear hv hkb HN
    go_enter Tryz.func20, Tryz.ntmps20
    go_wp2_with (fail)
    rw [← HW.out, ← HX0.out]
    refine (aft_b (HOK.out x0)).mono ?_
    rintro e _ ⟨rfl, x1, rfl⟩
    go_wp2
    go_ret2
    exact ⟨rfl, aft_done bW x1⟩
  | true =>
    rw [hv] at HOK
    cases hk : knownB a t with
    | false =>
      have hn := known_not hk hv
      have HN := verOf_no hk
      rw [HN]
      generalize findT a.mots t = n at *
      clear hk hv HN
      go_enter Tryz.func20, Tryz.ntmps20
      go_wp2_with (fail)
      rw [← HW.out, ← HX0.out]
      refine (aft_b (HOK.out x0)).mono ?_
      rintro e _ ⟨rfl, x1, rfl⟩
      go_wp2_with (fail)
      refine (aft_b (HFI.out x1)).mono ?_
      rintro e _ ⟨rfl, x2, rfl⟩
      go_wp2
      go_ret2
      exact ⟨rfl, aft_done bW x2⟩
    | true =>
      obtain ⟨_, k, hfk, hkl, hkm⟩ := known_at hk
      have hok := okAsm_ok hv
      have hprt := okAsm_parts hv
      have HY := verOf_yes hk
      rw [HY]
      have hvl := hok.votes hkm
      have hact := actOf_ok (hok.mots _ _ hkm)
      have hn12 := hok.n12
      obtain ⟨b2, off, rfl, hb2, hcell⟩ := HGM.out (by omega)
      obtain ⟨A1, c1, A2, c2, hP⟩ := hcell k _ hkm
      rw [hfk] at HFI
      have hnk : ¬ (k : Int) < 0 := by omega
      have hk0 : (0 : Int) ≤ (k : Int) := by omega
      have hki : (k : Int) < (a.mots.length : Int) := by omega
      generalize motOf a t = m at *
      have HVI := Lib.hid (fun y : Aft W => (⟨(HR.out y).t, (HR.out y).b, (HR.out y).c, (hP.on y.ok y.ok.size hb2).edits, (hP.on y.ok y.ok.size hb2).ints, hvl, hok, hprt.1, hprt.2.1, hact⟩ : VerIn a m m.votes y.val At ct Ab cb Ac cc A1 c1 A2 c2))
      have t0 := fun y : Aft W => y.cell hP.k0
      have t1 := fun y : Aft W => y.cell hP.k1
      have t2 := fun y : Aft W => y.cell hP.k2
      have t3 := fun y : Aft W => y.cell hP.k3
      have t4 := fun y : Aft W => y.cell hP.k4
      have t5 := fun y : Aft W => y.cell hP.k5
      have t6 := fun y : Aft W => y.cell hP.k6
      have t7 := fun y : Aft W => y.cell hP.k7
      have HDE : Hid (∀ y : Aft W, Calls Tryz.prog 68 #[.pointer (some ⟨w.heap.size, 0, none⟩), .pointer (some ⟨y.val.heap.size, 0, none⟩), .slice A2 m.votes.length c2] (y.val.alloc (.cells #[.string m.title, .int .i64 m.author, .slice A1 m.pat.length c1, .int .i64 m.beg, .int .i64 m.fin, .int .i64 m.closes, .slice A2 m.votes.length c2, .int .i64 m.result] 78)) (RetB (.int .i64 (verM a m m.votes)) y.val)) := Lib.hid (fun y => by
        have hb : Below y.val.heap.size y.val (y.val.alloc (.cells #[.string m.title, .int .i64 m.author, .slice A1 m.pat.length c1, .int .i64 m.beg, .int .i64 m.fin, .int .i64 m.closes, .slice A2 m.votes.length c2, .int .i64 m.result] 78)) := (Below.refl _ _).alloc (Nat.le_refl _) _
        have hr := Row.new y.val [.string m.title, .int .i64 m.author, .slice A1 m.pat.length c1, .int .i64 m.beg, .int .i64 m.fin, .int .i64 m.closes, .slice A2 m.votes.length c2, .int .i64 m.result].toArray 78
        refine (decide1_any a m m.votes At ct Ab cb Ac cc A1 c1 A2 c2 w.heap.size 0 y.val.heap.size 0 _ ((HVI.out y).on hb) ?_ ?_ ?_ ?_ ?_ ?_ ?_).mono fun e w' h => ⟨h.1, hb.trans (h.2.mono hb.size)⟩
        · rw [Nat.zero_add]; exact (⟨_, y.ok.trans (hb.mono y.ok.size)⟩ : Aft W).cell (HROW.out.cell 1 _ rfl)
        · rw [Nat.zero_add]; exact (⟨_, y.ok.trans (hb.mono y.ok.size)⟩ : Aft W).cell (HROW.out.cell 2 _ rfl)
        · rw [Nat.zero_add]; exact (⟨_, y.ok.trans (hb.mono y.ok.size)⟩ : Aft W).cell (HROW.out.cell 3 _ rfl)
        · rw [Nat.zero_add]; exact (⟨_, y.ok.trans (hb.mono y.ok.size)⟩ : Aft W).cell (HROW.out.cell 4 _ rfl)
        · rw [Nat.zero_add]; exact hr.cell 2 _ rfl
        · rw [Nat.zero_add]; exact hr.cell 3 _ rfl
        · rw [Nat.zero_add]; exact hr.cell 4 _ rfl)
      clear hk hv hfk hkm hcell hP hvl hact hprt HY
      by_cases hr0 : m.result = 0
      · rw [if_pos hr0]
        have hq : (m.result == 0) = true := by simp [hr0]
        clear hr0
        go_enter Tryz.func20, Tryz.ntmps20
        go_wp2_with (fail)
        rw [← HW.out, ← HX0.out]
        refine (aft_b (HOK.out x0)).mono ?_
        rintro e _ ⟨rfl, x1, rfl⟩
        go_wp2_with (fail)
        refine (aft_b (HFI.out x1)).mono ?_
        rintro e _ ⟨rfl, x2, rfl⟩
        go_wp2_with (fail)
        refine (HDE.out x2).mono ?_
        rintro e w3 ⟨rfl, hb3⟩
        have hF : Below w.heap.size w w3 := (aft_done bW x2).trans (hb3.mono (aft_done bW x2).size)
        clear hb3
        go_wp2
        go_ret2
        exact ⟨rfl, hF⟩
      · rw [if_neg hr0]
        have hq : (m.result == 0) = false := by simp [hr0]
        clear hr0
        go_enter Tryz.func20, Tryz.ntmps20
        go_wp2_with (fail)
        rw [← HW.out, ← HX0.out]
        refine (aft_b (HOK.out x0)).mono ?_
        rintro e _ ⟨rfl, x1, rfl⟩
        go_wp2_with (fail)
        refine (aft_b (HFI.out x1)).mono ?_
        rintro e _ ⟨rfl, x2, rfl⟩
        go_wp2
        go_ret2
        exact ⟨rfl, (aft_done bW x2).alloc (aft_done bW x2).size _⟩
end Go.Proofs.YtnandbammmcncaaGreat

namespace Go.Proofs.YtnandbammmcncaaGreat
open Go.RowKit Go.Lib

set_option maxRecDepth 100000 in
set_option maxHeartbeats 4000000 in
theorem verdictOf2_any (a : Asm) (x : VAsm) (t : ByteArray) (w : World) (h : AsmR w w.heap.size x a) (hs : AsmSz a) : Calls Tryz.prog 21 #[asmV a x, .string t] w (RetB (.tuple #[.int .i64 (verOf a t), .bool (knownB a t)]) w) := by
  obtain ⟨At, ct, Ab, cb, Ac, cc, Am, cm, rfl⟩ := h.slices
  unfold asmV
  obtain ⟨W, hW⟩ : ∃ W : World, W = w.alloc (.cells #[.int .i64 a.day, .int .i64 a.rule, .slice At a.trust.length ct, .slice Ab a.base.length cb, .slice Ac a.acts.length cc, .slice Am a.mots.length cm] 36) := ⟨_, rfl⟩
  have bW : Below w.heap.size w W := by rw [hW]; exact (Below.refl _ _).alloc (Nat.le_refl _) _
  have a1 : Row W w.heap.size [.int .i64 a.day, .int .i64 a.rule, .slice At a.trust.length ct, .slice Ab a.base.length cb, .slice Ac a.acts.length cc, .slice Am a.mots.length cm] := by rw [hW]; exact Row.new w _ _
  have z0 := fun y : Aft W => y.cell (a1.cell 0 _ rfl)
  have z1 := fun y : Aft W => y.cell (a1.cell 1 _ rfl)
  have z2 := fun y : Aft W => y.cell (a1.cell 2 _ rfl)
  have z3 := fun y : Aft W => y.cell (a1.cell 3 _ rfl)
  have z4 := fun y : Aft W => y.cell (a1.cell 4 _ rfl)
  have z5 := fun y : Aft W => y.cell (a1.cell 5 _ rfl)
  have hRW := h.on bW bW.size
  have HR := Lib.hid (fun y : Aft W => h.on (aft_done bW y) (aft_done bW y).size)
  have HGM : Hid (0 < a.mots.length → ∃ b off, Am = some ⟨b, off, none⟩ ∧ b < W.heap.size ∧ ∀ (k : Nat) (m : Mot), a.mots[k]? = some m → ∃ A1 c1 A2 c2, MotP W W.heap.size b (off + k * 8) m A1 c1 A2 c2) := Lib.hid (by
    obtain ⟨A, c, hv, _, _, h⟩ := mots_at hRW.m
    have hv : Value.slice Am a.mots.length cm = .slice A a.mots.length c := hv
    injection hv with e1 e2 e3
    rw [e1]
    exact h)
  have HW := Lib.hid hW
  have HROW := Lib.hid a1
  have sW : w.heap.size < W.heap.size := by rw [hW]; simp
  obtain ⟨x0, hx0⟩ : ∃ y : Aft W, y.val = W := ⟨⟨W, Below.refl _ _⟩, rfl⟩
  have HX0 := Lib.hid hx0
  have HKN := Lib.hid (fun y : Aft W => known2_any a At ct Ab cb Ac cc Am cm t y.val (HR.out y) hs)
  clear h hW a1 hx0 hRW hs
  cases hk : knownB a t with
  | false =>
    have HN := verOf_no hk
    rw [HN]
    rw [hk] at HKN
    clear hk HN
    go_enter Tryz.func21, Tryz.ntmps21
    go_wp2_with (fail)
    rw [← HW.out, ← HX0.out]
    refine (aft_b (HKN.out x0)).mono ?_
    rintro e _ ⟨rfl, x1, rfl⟩
    go_wp2
    go_ret2
    exact ⟨rfl, aft_done bW x1⟩
  | true =>
    rw [hk] at HKN
    obtain ⟨hv, k, hfk, hkl, hkm⟩ := known_at hk
    have hok := okAsm_ok hv
    have hprt := okAsm_parts hv
    have HY := verOf_yes hk
    rw [HY]
    have hvl := hok.votes hkm
    have hact := actOf_ok (hok.mots _ _ hkm)
    have hn12 := hok.n12
    obtain ⟨b2, off, rfl, hb2, hcell⟩ := HGM.out (by omega)
    obtain ⟨A1, c1, A2, c2, hP⟩ := hcell k _ hkm
    rw [hfk] at HKN
    have hk0 : (0 : Int) ≤ (k : Int) := by omega
    have hki : (k : Int) < (a.mots.length : Int) := by omega
    generalize motOf a t = m at *
    have HVI := Lib.hid (fun y : Aft W => (⟨(HR.out y).t, (HR.out y).b, (HR.out y).c, (hP.on y.ok y.ok.size hb2).edits, (hP.on y.ok y.ok.size hb2).ints, hvl, hok, hprt.1, hprt.2.1, hact⟩ : VerIn a m m.votes y.val At ct Ab cb Ac cc A1 c1 A2 c2))
    have t0 := fun y : Aft W => y.cell hP.k0
    have t1 := fun y : Aft W => y.cell hP.k1
    have t2 := fun y : Aft W => y.cell hP.k2
    have t3 := fun y : Aft W => y.cell hP.k3
    have t4 := fun y : Aft W => y.cell hP.k4
    have t5 := fun y : Aft W => y.cell hP.k5
    have t6 := fun y : Aft W => y.cell hP.k6
    have t7 := fun y : Aft W => y.cell hP.k7
    have HVD : Hid (∀ y : Aft W, Calls Tryz.prog 69 #[.agg #[.int .i64 a.day, .int .i64 a.rule, .slice At a.trust.length ct, .slice Ab a.base.length cb, .slice Ac a.acts.length cc, .slice (some ⟨b2, off, none⟩) a.mots.length cm], .agg #[.string m.title, .int .i64 m.author, .slice A1 m.pat.length c1, .int .i64 m.beg, .int .i64 m.fin, .int .i64 m.closes, .slice A2 m.votes.length c2, .int .i64 m.result], .slice A2 m.votes.length c2] y.val (RetB (.int .i64 (verM a m m.votes)) y.val)) := Lib.hid (fun y => verdict2_any a m m.votes At ct Ab cb Ac cc (some ⟨b2, off, none⟩) cm A1 c1 A2 c2 A2 c2 y.val (HVI.out y))
    clear hk hv hfk hkm hcell hP hvl hact hprt HY
    by_cases hr0 : m.result = 0
    · rw [if_pos hr0]
      have hq : (m.result == 0) = true := by simp [hr0]
      clear hr0
      go_enter Tryz.func21, Tryz.ntmps21
      go_wp2_with (fail)
      rw [← HW.out, ← HX0.out]
      refine (aft_b (HKN.out x0)).mono ?_
      rintro e _ ⟨rfl, x1, rfl⟩
      go_upto_region 7 with (fail)
      obtain ⟨y1, hy1⟩ : ∃ y : Aft W, y.val = x1.val.alloc (.cells #[.string m.title, .int .i64 m.author, .slice A1 m.pat.length c1, .int .i64 m.beg, .int .i64 m.fin, .int .i64 m.closes, .slice A2 m.votes.length c2, .int .i64 m.result] 78) := ⟨⟨_, x1.ok.trans (((Below.refl _ _).alloc (Nat.le_refl _) _).mono x1.ok.size)⟩, rfl⟩
      rw [← hy1]
      clear hy1
      refine wp_region_at (by kernel_rfl) (by kernel_rfl) ?_
      repeat (go_big_quiet_step ((first | (go_at_call 69; exact aft_b (HVD.out _)))))
      refine wpQuiet_nil ?_
      rintro _ ⟨y2, rfl⟩
      go_wp2
      go_ret2
      exact ⟨rfl, aft_done bW y2⟩
    · rw [if_neg hr0]
      have hq : (m.result == 0) = false := by simp [hr0]
      clear hr0
      go_enter Tryz.func21, Tryz.ntmps21
      go_wp2_with (fail)
      rw [← HW.out, ← HX0.out]
      refine (aft_b (HKN.out x0)).mono ?_
      rintro e _ ⟨rfl, x1, rfl⟩
      go_wp2
      go_ret2
      exact ⟨rfl, (aft_done bW x1).alloc (aft_done bW x1).size _⟩
end Go.Proofs.YtnandbammmcncaaGreat

namespace Go.Proofs.YtnandbammmcncaaGreat
open Go.RowKit Go.Lib

set_option maxRecDepth 100000 in
set_option maxHeartbeats 8000000 in
theorem lawYei_any (a : Asm) (x : VAsm) (t : ByteArray) (w : World) (h : AsmR w w.heap.size x a) (hs : AsmSz a) (ht9 : t.size ≤ maxLen) : Calls Tryz.prog 4 #[asmV a x, .string t] w (RetB (.bool true) w) := by
  unfold maxLen at ht9
  obtain ⟨At, ct, Ab, cb, Ac, cc, Am, cm, rfl⟩ := h.slices
  obtain ⟨W, hW⟩ : ∃ W : World, W = w.alloc (.cells #[.int .i64 a.day, .int .i64 a.rule, .slice At a.trust.length ct, .slice Ab a.base.length cb, .slice Ac a.acts.length cc, .slice Am a.mots.length cm] 27) := ⟨_, rfl⟩
  have bW : Below w.heap.size w W := by rw [hW]; exact (Below.refl _ _).alloc (Nat.le_refl _) _
  have a1 : Row W w.heap.size [.int .i64 a.day, .int .i64 a.rule, .slice At a.trust.length ct, .slice Ab a.base.length cb, .slice Ac a.acts.length cc, .slice Am a.mots.length cm] := by rw [hW]; exact Row.new w _ _
  have HSP := Lib.hid (fun W x (hx : AsmR W W.heap.size x a) => verdictOf1_any a x t W hx hs)
  have HIM := Lib.hid (fun W x (hx : AsmR W W.heap.size x a) => verdictOf2_any a x t W hx hs)
  have z0 := fun y : Aft W => y.cell (a1.cell 0 _ rfl)
  have z1 := fun y : Aft W => y.cell (a1.cell 1 _ rfl)
  have z2 := fun y : Aft W => y.cell (a1.cell 2 _ rfl)
  have z3 := fun y : Aft W => y.cell (a1.cell 3 _ rfl)
  have z4 := fun y : Aft W => y.cell (a1.cell 4 _ rfl)
  have z5 := fun y : Aft W => y.cell (a1.cell 5 _ rfl)
  have HROW := Lib.hid a1
  have HR := Lib.hid (fun y : Aft W => h.on (aft_done bW y) (aft_done bW y).size)
  have HS := Lib.hid hs
  have HW := Lib.hid hW
  clear h hs hW a1
  generalize verOf a t = vv at *
  generalize knownB a t = ok at *
  have hne : (ok != ok) = false := by cases ok <;> rfl
  unfold asmV
  by_cases ht : t.size ≤ 1048576
  case neg =>
    have h2 : (1048576 : Int) < (t.size : Int) := by omega
    go_enter Tryz.func4, Tryz.ntmps4
    go_wp2
    go_ret
    exact ⟨rfl, by rw [← HW.out]; exact bW⟩
  have h2 : ¬ (1048576 : Int) < (t.size : Int) := by omega
  go_enter Tryz.func4, Tryz.ntmps4
  go_wp2_with (fail)
  rw [← HW.out]
  obtain ⟨x0, hx0⟩ : ∃ y : Aft W, y.val = W := ⟨⟨W, Below.refl _ _⟩, rfl⟩
  rw [← hx0]
  clear hx0
  refine (szAsm_any a _ 1048576 _ (HR.out x0) HS.out (by omega) (by omega)).mono ?_
  rintro e1 w1 ⟨r, rfl, hr, hb1⟩
  obtain ⟨x1, rfl⟩ : ∃ y : Aft W, w1 = y.val := ⟨⟨w1, x0.ok.trans (hb1.mono x0.ok.size)⟩, rfl⟩
  clear hb1
  rcases hr with hr | ⟨hf, hr0, hr1⟩
  · go_wp2
    go_ret
    exact ⟨rfl, aft_done bW x1⟩
  have hrn : ¬ r < 0 := by omega
  have HF := Lib.hid hf
  clear hf
  go_wp2_with (fail)
  refine (toAsm_any a _ _ (HR.out x1) HF.out).mono ?_
  rintro e2 w2 ⟨y2, T2, C2, M2, rfl, hO2, hb2⟩
  obtain ⟨x2, rfl⟩ : ∃ y : Aft W, w2 = y.val := ⟨⟨w2, x1.ok.trans (hb2.mono x1.ok.size)⟩, rfl⟩
  have HO2 := Lib.hid hO2.r
  obtain ⟨B1, d1, B2, d2, B3, d3, B4, d4, rfl⟩ := hO2.r.slices
  clear hb2 hO2
  unfold asmV
  go_wp2_with (fail)
  refine (HSP.out _ _ HO2.out).mono ?_
  rintro e3 w3 ⟨rfl, hb3⟩
  obtain ⟨x3, rfl⟩ : ∃ y : Aft W, w3 = y.val := ⟨⟨w3, x2.ok.trans (hb3.mono x2.ok.size)⟩, rfl⟩
  clear hb3
  go_wp2_with (fail)
  refine (toAsm_any a _ _ (HR.out x3) HF.out).mono ?_
  rintro e4 w4 ⟨y4, T4, C4, M4, rfl, hO4, hb4⟩
  obtain ⟨x4, rfl⟩ : ∃ y : Aft W, w4 = y.val := ⟨⟨w4, x3.ok.trans (hb4.mono x3.ok.size)⟩, rfl⟩
  obtain ⟨D1, f1, D2, f2, D3, f3, D4, f4, rfl⟩ := hO4.r.slices
  have HB34 := Lib.hid hb4
  have HO4 := Lib.hid hO4
  clear hb4 hO4
  unfold asmV
  have hsz4 : w.heap.size < x4.val.heap.size := World.block_lt_of_cell? x4.val ⟨w.heap.size, 0, none⟩ (z0 x4)
  go_wp2_with (fail)
  obtain ⟨V, hV⟩ : ∃ V : World, V = x4.val.alloc (.cells #[.int .i64 a.day, .int .i64 a.rule, .slice D1 a.trust.length f1, .slice D2 a.base.length f2, .slice D3 a.acts.length f3, .slice D4 a.mots.length f4] 36) := ⟨_, rfl⟩
  have bV : Below x4.val.heap.size x4.val V := by rw [hV]; exact (Below.refl _ _).alloc (Nat.le_refl _) _
  have sV : x4.val.heap.size < V.heap.size := by rw [hV]; simp
  have r4 : Row V x4.val.heap.size [.int .i64 a.day, .int .i64 a.rule, .slice D1 a.trust.length f1, .slice D2 a.base.length f2, .slice D3 a.acts.length f3, .slice D4 a.mots.length f4] := by rw [hV]; exact Row.new x4.val _ _
  have b3V : Below x3.val.heap.size x3.val V := HB34.out.trans (bV.mono HB34.out.size)
  have bWV : Below W.heap.size W V := x3.ok.trans (b3V.mono x3.ok.size)
  have HROWV := Lib.hid (HROW.out.below bWV (by have : w.heap.size < W.heap.size := World.block_lt_of_cell? W ⟨w.heap.size, 0, none⟩ (HROW.out.cell 0 _ rfl); exact this))
  have HR4 := Lib.hid r4
  have HO := Lib.hid (HO4.out.below bV)
  have HB3V := Lib.hid b3V
  have HFTL : Hid (∀ b, asmFoot ⟨.slice D1 a.trust.length f1, .slice D2 a.base.length f2, .slice D3 a.acts.length f3, .slice D4 a.mots.length f4⟩ a T4 C4 M4 b → x3.val.heap.size ≤ b ∧ b < x4.val.heap.size) := Lib.hid (fun b hb => HO4.out.lt hb)
  have HBW := Lib.hid bW
  have hw3 : w.heap.size < x3.val.heap.size := World.block_lt_of_cell? x3.val ⟨w.heap.size, 0, none⟩ (z0 x3)
  have h34 : x3.val.heap.size ≤ x4.val.heap.size := HB34.out.size
  have HRA := Lib.hid (fun X (hX : Below x3.val.heap.size x3.val X) => HR.out ⟨X, x3.ok.trans (hX.mono x3.ok.size)⟩)
  have HFINB := Lib.hid (fun X (hX : Below x3.val.heap.size x3.val X) => bW.trans ((x3.ok.trans (hX.mono x3.ok.size)).mono bW.size))
  rw [← hV]
  clear hV r4 z0 z1 z2 z3 z4 z5 bWV b3V bV HO4 HB34
  refine (HIM.out V _ HO.out.r).mono ?_
  rintro e5 U2 ⟨rfl, bU⟩
  have HBU2 := Lib.hid bU
  clear bU
  have HKEEP : Hid (∀ w', Below U2.heap.size U2 w' → (fun w' => w'.cell? ⟨x4.val.heap.size, 0, none⟩ = some (.int .i64 a.day) ∧ w'.cell? ⟨x4.val.heap.size, 1, none⟩ = some (.int .i64 a.rule) ∧ w'.cell? ⟨x4.val.heap.size, 2, none⟩ = some (.slice D1 a.trust.length f1) ∧ w'.cell? ⟨x4.val.heap.size, 3, none⟩ = some (.slice D2 a.base.length f2) ∧ w'.cell? ⟨x4.val.heap.size, 4, none⟩ = some (.slice D3 a.acts.length f3) ∧ w'.cell? ⟨x4.val.heap.size, 5, none⟩ = some (.slice D4 a.mots.length f4) ∧ w'.cell? ⟨w.heap.size, 0, none⟩ = some (.int .i64 a.day) ∧ w'.cell? ⟨w.heap.size, 1, none⟩ = some (.int .i64 a.rule) ∧ w'.cell? ⟨w.heap.size, 2, none⟩ = some (.slice At a.trust.length ct) ∧ w'.cell? ⟨w.heap.size, 3, none⟩ = some (.slice Ab a.base.length cb) ∧ w'.cell? ⟨w.heap.size, 4, none⟩ = some (.slice Ac a.acts.length cc) ∧ w'.cell? ⟨w.heap.size, 5, none⟩ = some (.slice Am a.mots.length cm) ∧ Below U2.heap.size U2 w') w') := Lib.hid (fun X hX => by
    have h1 := HR4.out.below (HBU2.out.trans (hX.mono HBU2.out.size)) sV
    have h2 := HROWV.out.below (HBU2.out.trans (hX.mono HBU2.out.size)) (by omega)
    exact ⟨h1.cell 0 _ rfl, h1.cell 1 _ rfl, h1.cell 2 _ rfl, h1.cell 3 _ rfl, h1.cell 4 _ rfl, h1.cell 5 _ rfl, h2.cell 0 _ rfl, h2.cell 1 _ rfl, h2.cell 2 _ rfl, h2.cell 3 _ rfl, h2.cell 4 _ rfl, h2.cell 5 _ rfl, hX⟩)
  have HBEL : Hid (∀ w', (fun w' => w'.cell? ⟨x4.val.heap.size, 0, none⟩ = some (.int .i64 a.day) ∧ w'.cell? ⟨x4.val.heap.size, 1, none⟩ = some (.int .i64 a.rule) ∧ w'.cell? ⟨x4.val.heap.size, 2, none⟩ = some (.slice D1 a.trust.length f1) ∧ w'.cell? ⟨x4.val.heap.size, 3, none⟩ = some (.slice D2 a.base.length f2) ∧ w'.cell? ⟨x4.val.heap.size, 4, none⟩ = some (.slice D3 a.acts.length f3) ∧ w'.cell? ⟨x4.val.heap.size, 5, none⟩ = some (.slice D4 a.mots.length f4) ∧ w'.cell? ⟨w.heap.size, 0, none⟩ = some (.int .i64 a.day) ∧ w'.cell? ⟨w.heap.size, 1, none⟩ = some (.int .i64 a.rule) ∧ w'.cell? ⟨w.heap.size, 2, none⟩ = some (.slice At a.trust.length ct) ∧ w'.cell? ⟨w.heap.size, 3, none⟩ = some (.slice Ab a.base.length cb) ∧ w'.cell? ⟨w.heap.size, 4, none⟩ = some (.slice Ac a.acts.length cc) ∧ w'.cell? ⟨w.heap.size, 5, none⟩ = some (.slice Am a.mots.length cm) ∧ Below U2.heap.size U2 w') w' → Below U2.heap.size U2 w') := Lib.hid (fun X hX => hX.2.2.2.2.2.2.2.2.2.2.2.2)
  have HB3U2 := Lib.hid (HB3V.out.trans (HBU2.out.mono HB3V.out.size))
  have HR2 := Lib.hid (fun X (hX : Below U2.heap.size U2 X) => HRA.out X (HB3U2.out.trans (hX.mono HB3U2.out.size)))
  have HX2 := Lib.hid (fun X (hX : Below U2.heap.size U2 X) => (HO.out.below (HBU2.out.trans (hX.mono HBU2.out.size))).r)
  have bU2 : Below U2.heap.size U2 U2 := Below.refl _ _
  go_wp2_with (fail)
  go_region_held3 (fun w' => w'.cell? ⟨x4.val.heap.size, 0, none⟩ = some (.int .i64 a.day) ∧ w'.cell? ⟨x4.val.heap.size, 1, none⟩ = some (.int .i64 a.rule) ∧ w'.cell? ⟨x4.val.heap.size, 2, none⟩ = some (.slice D1 a.trust.length f1) ∧ w'.cell? ⟨x4.val.heap.size, 3, none⟩ = some (.slice D2 a.base.length f2) ∧ w'.cell? ⟨x4.val.heap.size, 4, none⟩ = some (.slice D3 a.acts.length f3) ∧ w'.cell? ⟨x4.val.heap.size, 5, none⟩ = some (.slice D4 a.mots.length f4) ∧ w'.cell? ⟨w.heap.size, 0, none⟩ = some (.int .i64 a.day) ∧ w'.cell? ⟨w.heap.size, 1, none⟩ = some (.int .i64 a.rule) ∧ w'.cell? ⟨w.heap.size, 2, none⟩ = some (.slice At a.trust.length ct) ∧ w'.cell? ⟨w.heap.size, 3, none⟩ = some (.slice Ab a.base.length cb) ∧ w'.cell? ⟨w.heap.size, 4, none⟩ = some (.slice Ac a.acts.length cc) ∧ w'.cell? ⟨w.heap.size, 5, none⟩ = some (.slice Am a.mots.length cm) ∧ Below U2.heap.size U2 w')
    (first | exact HKEEP.out _ bU2 | exact HKEEP.out _ bU2.drew | exact HKEEP.out _ ((HBEL.out _ (by assumption)).trans (Below.mono (by assumption) (HBEL.out _ (by assumption)).size)))
    (first | (go_at_call 13; refine (toAsm_any a _ _ (HR2.out _ (HBEL.out _ (by assumption))) HF.out).mono ?_; rintro e6 w6 ⟨y6, T6, C6, M6, rfl, hO6, hb6⟩; have hR6 := hO6.r; obtain ⟨E1, l1, E2, l2, E3, l3, E4, l4, rfl⟩ := hO6.r.slices; clear hO6; unfold asmV) | (go_at_call 16; refine (eqAsm_any a _ _ _ (HX2.out _ (HBEL.out _ (by assumption))) hR6).mono ?_; rintro e7 w7 ⟨rfl, hb7⟩))
  all_goals
    have hB7 : Below U2.heap.size U2 w7 := HBEL.out _ (by assumption)
    have HFIN := Lib.hid (HFINB.out w7 (HB3U2.out.trans (hB7.mono HB3U2.out.size)))
    clear hB7 hb7 hb6 hR6
    go_wp2
    go_ret
    exact ⟨rfl, HFIN.out⟩
end Go.Proofs.YtnandbammmcncaaGreat

/- Two paths held against one another by a rule, walked. -/
import Derived.Test.YtihhbkijcebapaaPc
namespace Go.Proofs.Ytihhbkijcebapaa
open Go.RowKit Go.Lib

set_option maxHeartbeats 1000000 in
theorem isRule_any (rule : Int) (h0 : 0 ≤ rule) (h2 : rule ≤ 2) (w : World) : Calls Try.prog 18 #[.int .i64 rule] w (RetQ (.bool true) w) := by
  have HIN := Lib.hid (in2_val rule 0 2 w true (by unfold inB; rw [decide_eq_true h0, decide_eq_true h2]; rfl))
  go_enter Try.func18, Try.ntmps18
  go_wp2_with (fail)
  refine HIN.out.mono ?_
  rintro e _ ⟨rfl, n, rfl⟩
  go_wp2
  go_ret
  exact ⟨rfl, n, rfl⟩
set_option maxHeartbeats 1000000 in
theorem isPath_nil (V : List Voi) (hok : VoisOk V) (v : Value) (w : World) (hV : Vois w w.heap.size v V) : Calls Try.prog 11 #[v, .slice none 0 0] w (RetB (.bool false) w) := by
  have HVAL := Lib.hid (valid2v_any V v w hV hok)
  clear hV hok
  go_enter Try.func11, Try.ntmps11
  go_wp2_with (fail)
  refine HVAL.out.mono ?_
  rintro e w1 ⟨rfl, b1⟩
  go_wp2
  go_ret
  exact ⟨rfl, b1⟩
def RanksYes (zs : List Nat) (w : World) (e : Ending) (w' : World) : Prop := ∃ A c, e = .returned (.tuple #[.slice A zs.length c, .bool true]) ∧ Below w.heap.size w w'
set_option maxHeartbeats 1000000 in
theorem ranksOf_nil (V : List Voi) (hok : VoisOk V) (v : Value) (w : World) (hV : Vois w w.heap.size v V) : Calls Try.prog 12 #[v, .slice none 0 0] w (RetB (.tuple #[.slice none 0 0, .bool false]) w) := by
  have HN := Lib.hid (isPath_nil V hok v w hV)
  clear hV hok
  go_enter Try.func12, Try.ntmps12
  go_wp2_with (fail)
  refine HN.out.mono ?_
  rintro e w1 ⟨rfl, b1⟩
  go_wp2
  go_ret2
  exact ⟨rfl, b1⟩
set_option maxHeartbeats 1000000 in
theorem ranksOf_any (V : List Voi) (hok : VoisOk V) (m : Nat) (r : List Nat) (hP : PthOk V m r) (v vp : Value) (w : World) (hV : Vois w w.heap.size v V) (hI : Ints w w.heap.size vp (barL (m :: r))) :
    Calls Try.prog 12 #[v, vp] w (RanksYes (rks (grV V) m r) w) := by
  have HN := Lib.hid (isPath_any V hok m r hP v vp w hV hI)
  have HR := Lib.hid (fun (W : World) (hW : Below w.heap.size w W) => ranks_any V hok m r hP v vp W (hV.on hW hW.size) (SlR.on hI (Pl.stays _) hW hW.size))
  unfold RanksPost at HR
  clear hV hok hI hP
  go_enter Try.func12, Try.ntmps12
  go_wp2_with (fail)
  refine HN.out.mono ?_
  rintro e w1 ⟨rfl, b1⟩
  go_wp2_with (fail)
  refine (HR.out w1 b1).mono ?_
  rintro e w2 ⟨A, c, rfl, _, b2⟩
  have hbe := b1.trans (b2.mono b1.size)
  go_wp2
  go_ret2
  exact ⟨A, c, rfl, hbe⟩
theorem cost_two {g : Gr} {m : Nat} {r : List Nat} : costOf g 2 m r = 0 := by unfold costOf; rw [if_pos rfl]
theorem cost_zero {g : Gr} : ∀ (m : Nat) (r : List Nat), costOf g 0 m r = ((rks g m r).length : Int)
  | m, [] => by unfold costOf; rw [if_neg (by decide)]; rfl
  | m, t :: r => by
    have ih := cost_zero t r (g := g)
    unfold costOf at ih ⊢
    rw [if_neg (by decide)] at ih ⊢
    unfold costR rks
    rw [rank_no (by decide), ih, List.length_cons]
    omega
theorem cost_one {g : Gr} : ∀ (m : Nat) (r : List Nat), costOf g 1 m r = ((rks g m r).sum : Int)
  | m, [] => by unfold costOf; rw [if_neg (by decide)]; rfl
  | m, t :: r => by
    have ih := cost_one t r (g := g)
    unfold costOf at ih ⊢
    rw [if_neg (by decide)] at ih ⊢
    unfold costR rks
    rw [rank1, ih, List.sum_cons]
    omega
theorem rks_le {g : Gr} (hg : g.Ok) {m : Nat} {r : List Nat} (h : Stp g m r) : ∀ x ∈ rks g m r, x ≤ 4 := by
  induction h with
  | stop x _ => intro y hy; cases hy
  | step x t r _ ht _ ih =>
    intro y hy
    unfold rks at hy
    rcases List.mem_cons.1 hy with rfl | hy
    · have := (List.getElem?_eq_some_iff.1 (ix_get ht)).1
      have := hg.four x
      omega
    · exact ih y hy
theorem sum_le {l : List Nat} (h : ∀ x ∈ l, x ≤ 4) : l.sum ≤ 4 * l.length := by
  induction l with
  | nil => simp
  | cons a l ih =>
    have h1 := h a (by simp)
    have h2 := ih (fun x hx => h x (by simp [hx]))
    rw [List.sum_cons, List.length_cons]
    omega
theorem sum_snoc {l : List Nat} {k x : Nat} (h : l[k]? = some x) : (l.take (k + 1)).sum = (l.take k).sum + x := by
  obtain ⟨h1, h2⟩ := List.getElem?_eq_some_iff.1 h
  rw [List.take_succ_eq_append_getElem h1, h2, List.sum_append]
  simp

set_option maxRecDepth 100000 in
set_option maxHeartbeats 8000000 in
theorem compare_any (V : List Voi) (hok : VoisOk V) (rule : Int) (hr : rule = 0 ∨ rule = 1 ∨ rule = 2) (m : Nat) (r1 r2 : List Nat) (hP1 : PthOk V m r1) (hP2 : PthOk V m r2) (v v1 v2 : Value) (w : World) (hV : Vois w w.heap.size v V) (hI1 : Ints w w.heap.size v1 (barL (m :: r1))) (hI2 : Ints w w.heap.size v2 (barL (m :: r2))) :
    Calls Try.prog 9 #[v, .int .i64 rule, v1, v2] w (RetB (.tuple #[.int .i64 (cmpP (grV V) rule m r1 r2), .bool true]) w) := by
  obtain ⟨A1, c1, rfl, _, m1⟩ := hI1.sl
  obtain ⟨A2, c2, rfl, _, m2⟩ := hI2.sl
  rw [barL_len] at hI1 hI2
  rw [barL_len, barL_len]
  have HPP : Hid (∀ (y : Aft w) (vp : Value), (vp = .slice A1 (m :: r1).length c1 ∨ vp = .slice A2 (m :: r2).length c2) → Calls Try.prog 11 #[v, vp] y.val (RetB (.bool true) y.val)) := Lib.hid (fun y vp h => by
    rcases h with rfl | rfl
    · exact isPath_any V hok m r1 hP1 v _ y.val (hV.on y.ok y.ok.size) (SlR.on hI1 (Pl.stays _) y.ok y.ok.size)
    · exact isPath_any V hok m r2 hP2 v _ y.val (hV.on y.ok y.ok.size) (SlR.on hI2 (Pl.stays _) y.ok y.ok.size))
  have HR1 := Lib.hid (fun (W : World) (hW : Below w.heap.size w W) => ranks_any V hok m r1 hP1 v _ W (hV.on hW hW.size) (SlR.on hI1 (Pl.stays _) hW hW.size))
  have HR2 := Lib.hid (fun (W : World) (hW : Below w.heap.size w W) => ranks_any V hok m r2 hP2 v _ W (hV.on hW hW.size) (SlR.on hI2 (Pl.stays _) hW hW.size))
  have HRU := Lib.hid (fun y : Aft w => isRule_any rule (by omega) (by omega) y.val)
  obtain ⟨b1, o1, rfl, _, p0⟩ := ints_get hI1 (barL_get (B := m :: r1) (k := 0) rfl)
  obtain ⟨b2, o2, rfl, _, q0⟩ := ints_get hI2 (barL_get (B := m :: r2) (k := 0) rfl)
  have z1 := fun y : Aft w => y.cell p0
  have z2 := fun y : Aft w => y.cell q0
  rw [Nat.add_zero] at z1 z2
  have HC : Hid (cmpP (grV V) rule m r1 r2 = if costOf (grV V) rule m r1 < costOf (grV V) rule m r2 then -1 else if costOf (grV V) rule m r2 < costOf (grV V) rule m r1 then 1 else cmpN (rks (grV V) m r1) (rks (grV V) m r2)) := Lib.hid rfl
  have hmm : ((m : Int) != (m : Int)) = false := by simp
  unfold RanksPost at HR1 HR2
  have H0 : Hid (rule = 0 → costOf (grV V) rule m r1 = ((rks (grV V) m r1).length : Int) ∧ costOf (grV V) rule m r2 = ((rks (grV V) m r2).length : Int)) := Lib.hid (fun h => by rw [h]; exact ⟨cost_zero m r1, cost_zero m r2⟩)
  have H1 : Hid (rule = 1 → costOf (grV V) rule m r1 = ((rks (grV V) m r1).sum : Int) ∧ costOf (grV V) rule m r2 = ((rks (grV V) m r2).sum : Int)) := Lib.hid (fun h => by rw [h]; exact ⟨cost_one m r1, cost_one m r2⟩)
  have H2 : Hid (rule = 2 → costOf (grV V) rule m r1 = 0 ∧ costOf (grV V) rule m r2 = 0) := Lib.hid (fun h => by rw [h]; exact ⟨cost_two, cost_two⟩)
  have HL1 := Lib.hid (rks_le hok.gr hP1.stp)
  have HL2 := Lib.hid (rks_le hok.gr hP2.stp)
  have hn1 : (rks (grV V) m r1).length ≤ 12 := by
    have := nodup_le V.length _ hP1.nd hP1.lt
    have := hok.n12
    rw [rks_len]
    rw [List.length_cons] at *
    omega
  have hn2 : (rks (grV V) m r2).length ≤ 12 := by
    have := nodup_le V.length _ hP2.nd hP2.lt
    have := hok.n12
    rw [rks_len]
    rw [List.length_cons] at *
    omega
  have HN1 := Lib.hid hn1
  have HN2 := Lib.hid hn2
  have hp1 : (0 : Int) < (((m :: r1).length : Nat) : Int) := by rw [List.length_cons]; omega
  have hp2 : (0 : Int) < (((m :: r2).length : Nat) : Int) := by rw [List.length_cons]; omega
  clear hV hI1 hI2 p0 q0 hn1 hn2 hP1 hP2
  generalize cmpP (grV V) rule m r1 r2 = c at *
  generalize costOf (grV V) rule m r1 = X at *
  generalize costOf (grV V) rule m r2 = Y at *
  generalize rks (grV V) m r1 = R1 at *
  generalize rks (grV V) m r2 = R2 at *
  generalize (m :: r1).length = l1 at *
  generalize (m :: r2).length = l2 at *
  refine calls_aft fun x0 => ?_
  go_enter Try.func9, Try.ntmps9
  go_wp2_with (fail)
  refine wp_region_at (by kernel_rfl) (by kernel_rfl) ?_
  repeat (go_big_quiet_step ((first | (go_at_call 18; exact aft_q (HRU.out _)) | (go_at_call 11; exact aft_b (HPP.out _ _ (by first | exact .inl rfl | exact .inr rfl))))))
  refine wpQuiet_nil ?_
  rintro _ ⟨y, rfl⟩
  clear z1 z2 HRU HPP
  go_wp2_with (fail)
  refine (HR1.out y.val y.ok).mono ?_
  rintro e w2 ⟨A3, c3, rfl, o3, b3⟩
  have hb3 := y.ok.trans (b3.mono y.ok.size)
  go_wp2_with (fail)
  refine (HR2.out w2 hb3).mono ?_
  rintro e w4 ⟨A4, c4, rfl, o4, b4⟩
  have HBX := Lib.hid (hb3.trans (b4.mono hb3.size))
  have HA : Hid (∀ W, Below w4.heap.size w4 W → Ints W W.heap.size (.slice A3 R1.length c3) (barL R1)) := Lib.hid (fun W hW => (o3.on (b4.trans (hW.mono b4.size))).slR (size := 1) (fun _ => rfl))
  have HB : Hid (∀ W, Below w4.heap.size w4 W → Ints W W.heap.size (.slice A4 R2.length c4) (barL R2)) := Lib.hid (fun W hW => (o4.on hW).slR (size := 1) (fun _ => rfl))
  have HWX : Hid (Below w4.heap.size w4 w4) := Lib.hid (Below.refl _ _)
  clear o3 o4 b3 b4 hb3 HR1 HR2
  rcases hr with rfl | rfl | rfl
  · obtain ⟨rfl, rfl⟩ := H0.out rfl
    clear H0 H1 H2
    generalize hX : (R1.length : Int) = X at *
    generalize hY : (R2.length : Int) = Y at *
    by_cases h1 : X < Y
    · have h1d : decide (X < Y) = true := decide_eq_true h1
      have hc : c = -1 := by rw [HC.out, if_pos h1]
      subst hc
      clear HC
      go_wp2
      go_ret2
      exact ⟨rfl, HBX.out⟩
    · have h1d : decide (X < Y) = false := decide_eq_false h1
      by_cases h2 : Y < X
      · have h2d : decide (Y < X) = true := decide_eq_true h2
        have hc : c = 1 := by rw [HC.out, if_neg h1, if_pos h2]
        subst hc
        clear HC
        go_wp2
        go_ret2
        exact ⟨rfl, HBX.out⟩
      · have h2d : decide (Y < X) = false := decide_eq_false h2
        have hc : c = cmpN R1 R2 := by rw [HC.out, if_neg h1, if_neg h2]
        subst hc
        clear HC
        have HCM := Lib.hid (cmp64_any R1 R2 _ _ w4 (HA.out w4 HWX.out) (HB.out w4 HWX.out))
        go_wp2_with (fail)
        refine HCM.out.mono ?_
        rintro e w8 ⟨rfl, b8⟩
        have hbe := HBX.out.trans (b8.mono HBX.out.size)
        go_wp2
        go_ret2
        exact ⟨rfl, hbe⟩
  · obtain ⟨rfl, rfl⟩ := H1.out rfl
    clear H0 H1 H2
    go_wp2
    go_loopw [12, 15, 59] (fun x _ i wq => ∃ k : Nat, k ≤ R1.length ∧ i = .int .i64 (k : Int) ∧ x = .int .i64 (((R1.take k).sum : Nat) : Int) ∧ wq = w4) (fun _ _ i _ => R1.length - (RowKit.intOf i).toNat)
    case atStart => exact ⟨0, Nat.zero_le _, rfl, rfl, rfl⟩
    case round =>
      obtain ⟨k, hk, rfl, rfl, rfl⟩ := hrel
      by_cases hlt : k < R1.length
      · have hget : R1[k]? = some R1[k] := List.getElem?_eq_getElem hlt
        obtain ⟨b, o, rfl, hb, e0⟩ := ints_get (HA.out wr (Below.refl _ _)) (barL_get hget)
        have HS := Lib.hid (sum_snoc hget)
        have hl1 := sum_le (fun x hx => HL1.out x (List.mem_of_mem_take hx) : ∀ x ∈ R1.take (k + 1), x ≤ 4)
        rw [List.length_take, HS.out] at hl1
        have hl2 : (R1.take k).sum + R1[k] ≤ 1000 := by have := HN1.out; omega
        have hkb := HN1.out
        clear hget hl1
        generalize (R1.take k).sum = s at *
        generalize R1[k] = y at *
        have hw : IntKind.i64.wrap ((s : Int) + (y : Int)) = ((s + y : Nat) : Int) := by rw [IntKind.wrap_i64]; omega
        go_wp2
        go_roundw
        case rel => exact ⟨k + 1, by omega, by go_num, by rw [HS.out]; simp, by first | rfl | trivial⟩
        case measure => simp [RowKit.intOf]; omega
      · have hge : ¬ (k : Int) < (R1.length : Int) := by omega
        have hks : R1.take k = R1 := List.take_of_length_le (by omega)
        rw [hks]
        clear hks hlt
        go_wp2
        go_loopw [13, 17, 69] (fun x _ i wq => ∃ k : Nat, k ≤ R2.length ∧ i = .int .i64 (k : Int) ∧ x = .int .i64 (((R2.take k).sum : Nat) : Int) ∧ wq = wr) (fun _ _ i _ => R2.length - (RowKit.intOf i).toNat)
        case atStart => exact ⟨0, Nat.zero_le _, rfl, rfl, rfl⟩
        case round =>
          obtain ⟨k, hk, rfl, rfl, rfl⟩ := hrel
          by_cases hlt : k < R2.length
          · have hget : R2[k]? = some R2[k] := List.getElem?_eq_getElem hlt
            obtain ⟨b, o, rfl, hb, e0⟩ := ints_get (HB.out wr (Below.refl _ _)) (barL_get hget)
            have HS := Lib.hid (sum_snoc hget)
            have hl1 := sum_le (fun x hx => HL2.out x (List.mem_of_mem_take hx) : ∀ x ∈ R2.take (k + 1), x ≤ 4)
            rw [List.length_take, HS.out] at hl1
            have hl2 : (R2.take k).sum + R2[k] ≤ 1000 := by have := HN2.out; omega
            have hkb := HN2.out
            clear hget hl1
            generalize (R2.take k).sum = s at *
            generalize R2[k] = y at *
            have hw : IntKind.i64.wrap ((s : Int) + (y : Int)) = ((s + y : Nat) : Int) := by rw [IntKind.wrap_i64]; omega
            go_wp2
            go_roundw
            case rel => exact ⟨k + 1, by omega, by go_num, by rw [HS.out]; simp, by first | rfl | trivial⟩
            case measure => simp [RowKit.intOf]; omega
          · have hge : ¬ (k : Int) < (R2.length : Int) := by omega
            have hks : R2.take k = R2 := List.take_of_length_le (by omega)
            rw [hks]
            clear hks hlt
            generalize hX : (R1.sum : Int) = X at *
            generalize hY : (R2.sum : Int) = Y at *
            by_cases h1 : X < Y
            · have h1d : decide (X < Y) = true := decide_eq_true h1
              have hc : c = -1 := by rw [HC.out, if_pos h1]
              subst hc
              clear HC
              go_wp2
              go_ret2
              exact ⟨rfl, HBX.out⟩
            · have h1d : decide (X < Y) = false := decide_eq_false h1
              by_cases h2 : Y < X
              · have h2d : decide (Y < X) = true := decide_eq_true h2
                have hc : c = 1 := by rw [HC.out, if_neg h1, if_pos h2]
                subst hc
                clear HC
                go_wp2
                go_ret2
                exact ⟨rfl, HBX.out⟩
              · have h2d : decide (Y < X) = false := decide_eq_false h2
                have hc : c = cmpN R1 R2 := by rw [HC.out, if_neg h1, if_neg h2]
                subst hc
                clear HC
                have HCM := Lib.hid (cmp64_any R1 R2 _ _ wr (HA.out wr HWX.out) (HB.out wr HWX.out))
                go_wp2_with (fail)
                refine HCM.out.mono ?_
                rintro e w8 ⟨rfl, b8⟩
                have hbe := HBX.out.trans (b8.mono HBX.out.size)
                go_wp2
                go_ret2
                exact ⟨rfl, hbe⟩
  · obtain ⟨rfl, rfl⟩ := H2.out rfl
    clear H0 H1 H2
    have hc : c = cmpN R1 R2 := by rw [HC.out, if_neg (by decide), if_neg (by decide)]
    subst hc
    clear HC
    have HCM := Lib.hid (cmp64_any R1 R2 _ _ w4 (HA.out w4 HWX.out) (HB.out w4 HWX.out))
    go_wp2_with (fail)
    refine HCM.out.mono ?_
    rintro e w8 ⟨rfl, b8⟩
    have hbe := HBX.out.trans (b8.mono HBX.out.size)
    go_wp2
    go_ret2
    exact ⟨rfl, hbe⟩
end Go.Proofs.Ytihhbkijcebapaa

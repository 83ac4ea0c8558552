/- Paths tested, and their ranks, walked. -/
import Derived.Test.YtihhbkijcebapaaPb
namespace Go.Proofs.Ytihhbkijcebapaa
open Go.RowKit Go.Lib

/-- A path from a member to one who speaks. -/
structure PthOk (V : List Voi) (m : Nat) (r : List Nat) : Prop where
  stp : Stp (grV V) m r
  nd : (m :: r).Nodup
  lt : ∀ y ∈ m :: r, y < V.length
theorem stp_at {g : Gr} {m : Nat} {r : List Nat} (h : Stp g m r) : ∀ (k x : Nat), (m :: r)[k]? = some x → g.sp x = decide (k + 1 = (m :: r).length) ∧ ∀ y, (m :: r)[k + 1]? = some y → y ∈ g.tr x := by
  induction h with
  | stop x hs =>
    intro k y hk
    cases k with
    | zero =>
      injection hk with hk
      subst hk
      exact ⟨by rw [hs]; rfl, fun y hy => by simp at hy⟩
    | succ k => simp at hk
  | step x t r hs ht _ ih =>
    intro k y hk
    cases k with
    | zero =>
      injection hk with hk
      subst hk
      refine ⟨by rw [hs]; simp, fun z hz => ?_⟩
      injection hz with hz
      exact hz ▸ ht
    | succ k =>
      have := ih k y (by simpa using hk)
      refine ⟨?_, fun z hz => this.2 z (by simpa using hz)⟩
      rw [this.1, List.length_cons (a := x)]
      simp
theorem nd_take {q : List Nat} (hd : q.Nodup) {k x : Nat} (hx : q[k]? = some x) : ((barL q).take k).contains (x : Int) = false := by
  cases hc : ((barL q).take k).contains (x : Int) with
  | false => rfl
  | true =>
    rw [List.contains_iff_mem] at hc
    obtain ⟨j, hj, e⟩ := List.mem_take_iff_getElem.1 hc
    rw [barL_len] at hj
    obtain ⟨h1, h2⟩ := List.getElem?_eq_some_iff.1 hx
    have h3 : q[j]? = some x := by
      have h4 : (barL q)[j]? = some (x : Int) := by rw [List.getElem?_eq_getElem (by rw [barL_len]; omega), e]
      unfold barL at h4
      rw [List.getElem?_map] at h4
      cases hq : q[j]? with
      | none => rw [hq] at h4; cases h4
      | some z =>
        rw [hq] at h4
        injection h4 with h4
        have : z = x := Int.ofNat.inj h4
        rw [this]
    obtain ⟨h5, h6⟩ := List.getElem?_eq_some_iff.1 h3
    have := (List.getElem_inj hd).1 (h6.trans h2.symm)
    omega
theorem tr_has {V : List Voi} (hok : VoisOk V) {x y : Nat} {a : Voi} (hx : V[x]? = some a) (hy : y ∈ (grV V).tr x) : a.tr.contains (y : Int) = true := by
  rw [← tr_bar hok hx, bar_has]
  exact List.contains_iff_mem.2 hy
set_option maxRecDepth 100000 in
set_option maxHeartbeats 4000000 in
theorem isPath_any (V : List Voi) (hok : VoisOk V) (m : Nat) (r : List Nat) (hP : PthOk V m r) (v vp : Value) (w : World) (hV : Vois w w.heap.size v V) (hI : Ints w w.heap.size vp (barL (m :: r))) :
    Calls Try.prog 11 #[v, vp] w (RetB (.bool true) w) := by
  have HVAL := Lib.hid (valid2v_any V v w hV hok)
  obtain ⟨A, c0, rfl, hc0, hm0, hel⟩ := vois_at hV
  obtain ⟨Ap, cp, rfl, hcp, hmp⟩ := hI.sl
  rw [barL_len] at hI hcp ⊢
  obtain ⟨q, hq⟩ : ∃ q, q = m :: r := ⟨_, rfl⟩
  have hl0 : 0 < q.length := by rw [hq]; simp
  have hl12 : q.length ≤ 12 := by
    have := nodup_le V.length q (by rw [hq]; exact hP.nd) (by rw [hq]; exact hP.lt)
    have := hok.n12
    omega
  have HAT : Hid (∀ (k x : Nat), q[k]? = some x → (grV V).sp x = decide (k + 1 = q.length) ∧ ∀ y, q[k + 1]? = some y → y ∈ (grV V).tr x) := Lib.hid (by rw [hq]; exact stp_at hP.stp)
  have HLT : Hid (∀ y ∈ q, y < V.length) := Lib.hid (by rw [hq]; exact hP.lt)
  have HND : Hid (q.Nodup) := Lib.hid (by rw [hq]; exact hP.nd)
  have HI := Lib.hid (fun (W : World) (hW : Below w.heap.size w W) => (SlR.on hI (Pl.stays _) hW hW.size : Ints W W.heap.size _ _))
  have HEL := Lib.hid hel
  have HOK := Lib.hid hok
  rw [← hq] at HI hcp ⊢
  have hn12 := hok.n12
  have hq0 : ((q.length : Int) == 0) = false := by simpa using (by omega : ¬ q.length = 0)
  unfold maxLen at hmp
  clear hV hel hok hP hI hq
  go_enter Try.func11, Try.ntmps11
  go_wp2_with (fail)
  refine HVAL.out.mono ?_
  rintro e w1 ⟨rfl, b1⟩
  have HB1 := Lib.hid b1
  clear b1 HVAL
  go_wp2
  go_loopw [5, 6, 17] (fun _ _ i wr => ∃ k : Nat, k ≤ q.length ∧ i = .int .i64 (k : Int) ∧ Below w.heap.size w wr) (fun _ _ i _ => q.length - (RowKit.intOf i).toNat)
  case atStart => exact ⟨0, Nat.zero_le _, rfl, HB1.out⟩
  case round =>
    obtain ⟨k, hk, rfl, hb⟩ := hrel
    have HB := Lib.hid hb
    clear hb
    by_cases hlt : k < q.length
    · have hqk : q[k]? = some q[k] := List.getElem?_eq_getElem hlt
      obtain ⟨hsp, _⟩ := HAT.out k _ hqk
      have hxl := HLT.out _ (List.getElem_mem hlt)
      obtain ⟨bp, op, rfl, hbp, z0⟩ := ints_get (HI.out wr HB.out) (barL_get hqk)
      have HNT := Lib.hid (nd_take HND.out hqk)
      have HST : Hid (∀ y : Aft wr, Ints y.val y.val.heap.size (.slice (some ⟨bp, op, none⟩) k cp) ((barL q).take k)) := Lib.hid (fun y => SlR.take (HI.out y.val (HB.out.trans (y.ok.mono HB.out.size))) k (by rw [barL_len]; omega))
      have HPR : Hid (0 < k → ∃ z, q[k - 1]? = some z ∧ q[k] ∈ (grV V).tr z ∧ z < V.length) := Lib.hid (fun h0 => by
        have h1 : q[k - 1]? = some q[k - 1] := List.getElem?_eq_getElem (by omega)
        exact ⟨q[k - 1], h1, (HAT.out (k - 1) _ h1).2 _ (by rw [show k - 1 + 1 = k by omega]; exact hqk), HLT.out _ (List.getElem_mem (by omega))⟩)
      obtain ⟨bl, ol, rfl, hbl, hcell⟩ := HEL.out (by omega)
      have hvx : V[q[k]]? = some V[q[k]] := List.getElem?_eq_getElem hxl
      obtain ⟨B1, d1, k0, _, _, _⟩ := hcell _ _ hvx
      rw [(grV_at hvx).1] at hsp
      rw [hsp] at k0
      have HCELL := Lib.hid hcell
      have y0 := fun y : Aft wr => y.cell ((HB.out.cell (p := ⟨bl, ol + q[k] * 2, none⟩) hbl).trans k0)
      have z0' := fun y : Aft wr => y.cell z0
      have HIN := Lib.hid (fun y : Aft wr => in2_val (q[k] : Int) 0 ((V.length : Int) - 1) y.val true (by unfold inB; simp; omega))
      have hck : (k : Int) ≤ (cp : Int) := by omega
      have hk0 : (0 : Int) ≤ (k : Int) := by omega
      have hkq : ((k : Int) == (q.length : Int) - 1) = decide (k + 1 = q.length) := by
        by_cases e : k + 1 = q.length
        · rw [decide_eq_true e]
          simp
          omega
        · rw [decide_eq_false e]
          simp
          omega
      have hx0 : (0 : Int) ≤ ((q[k] : Nat) : Int) := by omega
      have hxi : ((q[k] : Nat) : Int) < (V.length : Int) := by omega
      clear hqk k0 hvx hsp hcell
      generalize q[k] = x at *
      generalize decide (k + 1 = q.length) = s at *
      have hss : (s != s) = false := by cases s <;> rfl
      generalize (barL q).take k = zs at *
      go_wp2_with (fail)
      refine (aft_q (HIN.out ⟨wr, Below.refl _ _⟩)).mono ?_
      rintro e _ ⟨rfl, y1, rfl⟩
      go_wp2_with (fail)
      refine (aft_q (contains2_val zs (x : Int) _ _ false (HST.out y1) HNT.out)).mono ?_
      rintro e _ ⟨rfl, y2, rfl⟩
      have HB2 := Lib.hid (HB.out.trans (y2.ok.mono HB.out.size))
      clear z0
      by_cases hk1 : 0 < k
      · obtain ⟨z, hz, hin, hzl⟩ := HPR.out hk1
        obtain ⟨_, _, e, _, z1⟩ := ints_get (HI.out _ HB2.out) (barL_get hz)
        injection e with e
        injection e with e1 e2 e3
        subst e1
        subst e2
        have hvz : V[z]? = some V[z] := List.getElem?_eq_getElem hzl
        obtain ⟨B2, d2, _, l1, _, i2⟩ := HCELL.out _ _ hvz
        have l1' := (HB2.out.cell (p := ⟨bl, ol + z * 2 + 1, none⟩) hbl).trans l1
        have HCN := Lib.hid (contains2_val V[z].tr (x : Int) y2.val _ true (SlR.on i2 (Pl.stays _) HB2.out HB2.out.size) (tr_has HOK.out hvz hin))
        have hk1d : decide ((0 : Int) < (k : Int)) = true := decide_eq_true (by omega)
        have hk1i : (0 : Int) < (k : Int) := by omega
        have hz0 : (0 : Int) ≤ (z : Int) := by omega
        have hzi : (z : Int) < (V.length : Int) := by omega
        have hki : (k : Int) - 1 = ((k - 1 : Nat) : Int) := by omega
        have hkl : ((k - 1 : Nat) : Int) < (q.length : Int) := by omega
        clear hz hvz l1 i2 hin
        generalize V[z].tr.length = tl at *
        generalize k - 1 = k1 at *
        clear z0'
        go_wp2_with (fail)
        refine (aft_q HCN.out).mono ?_
        rintro e _ ⟨rfl, y3, rfl⟩
        have HB3 := Lib.hid (HB.out.trans (y3.ok.mono HB.out.size))
        go_wp2
        go_roundw
        case rel => exact ⟨k + 1, by omega, by go_num, HB3.out⟩
        case measure => simp [RowKit.intOf]; omega
      · have hk1d : decide ((0 : Int) < (k : Int)) = false := decide_eq_false (by omega)
        have hk1i : ¬ (0 : Int) < (k : Int) := by omega
        go_wp2
        go_roundw
        case rel => exact ⟨k + 1, by omega, by go_num, HB2.out⟩
        case measure => simp [RowKit.intOf]; omega
    · have hge : ¬ (k : Int) < (q.length : Int) := by omega
      go_wp2
      go_ret
      exact ⟨rfl, HB.out⟩
theorem rks_get {g : Gr} : ∀ (m : Nat) (r : List Nat) (k x y : Nat), (m :: r)[k]? = some x → (m :: r)[k + 1]? = some y → (rks g m r)[k]? = some (ixT g x y + 1)
  | m, [], k, x, y, _, h => by simp at h
  | m, t :: r, 0, x, y, h1, h2 => by
    injection h1 with h1
    injection h2 with h2
    subst h1
    subst h2
    rfl
  | m, t :: r, k + 1, x, y, h1, h2 => by
    unfold rks
    rw [List.getElem?_cons_succ]
    exact rks_get t r k x y (by simpa using h1) (by simpa using h2)
theorem rks_len {g : Gr} : ∀ (m : Nat) (r : List Nat), (rks g m r).length = r.length
  | _, [] => rfl
  | m, t :: r => by unfold rks; rw [List.length_cons, List.length_cons, rks_len t r]
theorem index64_at {V : List Voi} (hok : VoisOk V) {x y : Nat} {a : Voi} (hx : V[x]? = some a) (hy : y ∈ (grV V).tr x) (v : Value) (w : World) (h : Ints w w.heap.size v a.tr) :
    Calls Try.prog 33 #[v, .int .i64 (y : Int)] w (fun e w' => e = .returned (.int .i64 (ixT (grV V) x y : Int)) ∧ w' = w) :=
  (index_any a.tr (y : Int) w v h).mono fun e w' ⟨n, he, hw, h1, _, _, h4⟩ => by
    have h0 : 0 ≤ n := h1.2 (List.contains_iff_mem.1 (tr_has hok hx hy))
    rw [he, ixT_of hok hx h0 (h4 h0).1]
    exact ⟨rfl, hw⟩
def RanksPost (zs : List Nat) (w : World) (e : Ending) (w' : World) : Prop := ∃ A c, e = .returned (.slice A zs.length c) ∧ OwnL intCells (barL zs) w.heap.size w' (.slice A zs.length c) ∧ Below w.heap.size w w'
set_option maxRecDepth 100000 in
set_option maxHeartbeats 8000000 in
theorem ranks_any (V : List Voi) (hok : VoisOk V) (m : Nat) (r : List Nat) (hP : PthOk V m r) (v vp : Value) (w : World) (hV : Vois w w.heap.size v V) (hI : Ints w w.heap.size vp (barL (m :: r))) :
    Calls Try.prog 20 #[v, vp] w (RanksPost (rks (grV V) m r) w) := by
  obtain ⟨A, c0, rfl, hc0, hm0, hel⟩ := vois_at hV
  obtain ⟨Ap, cp, rfl, hcp, hmp⟩ := hI.sl
  rw [barL_len] at hI hcp ⊢
  obtain ⟨q, hq⟩ : ∃ q, q = m :: r := ⟨_, rfl⟩
  obtain ⟨R, hR⟩ : ∃ R, R = rks (grV V) m r := ⟨_, rfl⟩
  have hRl : R.length + 1 = q.length := by rw [hR, hq, rks_len]; rfl
  have hl12 : q.length ≤ 12 := by
    have := nodup_le V.length q (by rw [hq]; exact hP.nd) (by rw [hq]; exact hP.lt)
    have := hok.n12
    omega
  have HAT : Hid (∀ (k x : Nat), q[k]? = some x → (grV V).sp x = decide (k + 1 = q.length) ∧ ∀ y, q[k + 1]? = some y → y ∈ (grV V).tr x) := Lib.hid (by rw [hq]; exact stp_at hP.stp)
  have HLT : Hid (∀ y ∈ q, y < V.length) := Lib.hid (by rw [hq]; exact hP.lt)
  have HRK : Hid (∀ (k x y : Nat), q[k]? = some x → q[k + 1]? = some y → R[k]? = some (ixT (grV V) x y + 1)) := Lib.hid (by rw [hq, hR]; exact rks_get m r)
  have HI := Lib.hid (fun (W : World) (hW : Below w.heap.size w W) => (SlR.on hI (Pl.stays _) hW hW.size : Ints W W.heap.size _ _))
  have HEL := Lib.hid hel
  have HOK := Lib.hid hok
  rw [← hq] at HI hcp ⊢
  rw [← hR]
  have hn12 := hok.n12
  unfold maxLen at hmp
  obtain ⟨i0, hi, hz0, hz1, hz2⟩ := info_parts Try.infoI
  have HO0 : Hid ((w.alloc (.cells #[] 2)).ownsRow w.heap.size 2 1 (.slice (some ⟨w.heap.size, 0, none⟩) 0 0) 0 []) := Lib.hid (by simpa using World.ownsRow_made w #[] 0 (Nat.le_refl _) (Nat.zero_le _) rfl)
  have HB0 : Hid (Below w.heap.size w (w.alloc (.cells #[] 2))) := Lib.hid ((Below.refl _ _).alloc (Nat.le_refl _) _)
  unfold RanksPost
  clear hV hel hok hP hI hq hR
  go_enter Try.func20, Try.ntmps20
  go_wp2
  go_loopw [5, 6] (fun o i wr => ∃ k g cap : Nat, k ≤ R.length ∧ i = .int .i64 ((k : Int) + 1) ∧ o = .slice (some ⟨g, 0, none⟩) k cap ∧ wr.ownsRow w.heap.size 2 1 (.slice (some ⟨g, 0, none⟩) k cap) k ((barL (R.take k)).flatMap intCells) ∧ Below w.heap.size w wr) (fun _ i _ => q.length - (RowKit.intOf i).toNat)
  case atStart => exact ⟨0, w.heap.size, 0, Nat.zero_le _, rfl, rfl, HO0.out, HB0.out⟩
  case round =>
    obtain ⟨k, g, cap, hk, rfl, rfl, hown, hb⟩ := hrel
    have HB := Lib.hid hb
    have HOWN := Lib.hid hown
    have hg := hown.lt g rfl
    have hsw := hb.size
    clear hown
    by_cases hlt : k < R.length
    · have hltq : k < q.length := by omega
      have hlt1 : k + 1 < q.length := by omega
      have hqk : q[k]? = some q[k] := List.getElem?_eq_getElem hltq
      have hq1 : q[k + 1]? = some q[k + 1] := List.getElem?_eq_getElem hlt1
      have hin := (HAT.out k _ hqk).2 _ hq1
      have hRk := HRK.out k _ _ hqk hq1
      have HRT : Hid (barL (R.take (k + 1)) = barL (R.take k) ++ [((ixT (grV V) q[k] q[k + 1] : Nat) : Int) + 1]) := Lib.hid (by
        obtain ⟨h1, h2⟩ := List.getElem?_eq_some_iff.1 hRk
        rw [List.take_succ_eq_append_getElem h1, h2, barL_snoc]
        rfl)
      have hxl := HLT.out _ (List.getElem_mem hltq)
      obtain ⟨bp, op, rfl, hbp, x0⟩ := ints_get (HI.out wr HB.out) (barL_get hqk)
      obtain ⟨_, _, e, _, x2⟩ := ints_get (HI.out wr HB.out) (barL_get hq1)
      injection e with e
      injection e with e1 e2 e3
      subst e1
      subst e2
      obtain ⟨bl, ol, rfl, hbl, hcell⟩ := HEL.out (by omega)
      have hvx : V[q[k]]? = some V[q[k]] := List.getElem?_eq_getElem hxl
      obtain ⟨B1, d1, _, l1, _, i1⟩ := hcell _ _ hvx
      have x1 := (HB.out.cell (p := ⟨bl, ol + q[k] * 2 + 1, none⟩) hbl).trans l1
      have hix : ixT (grV V) q[k] q[k + 1] < 4 := by
        have h4 := HOK.out.gr.four q[k]
        have := (List.getElem?_eq_some_iff.1 (ix_get hin)).1
        omega
      have hbd : Below wr.heap.size wr wr.drew := (Below.refl _ _).drew
      have hbdd := HB.out.trans (hbd.mono hsw)
      have HIX := Lib.hid (index64_at HOK.out hvx hin (.slice B1 V[q[k]].tr.length d1) wr.drew (SlR.on i1 (Pl.stays _) hbdd hbdd.size))
      have hbp2 : bp < w.heap.size := by
        have := ints_get (HI.out w (Below.refl _ _)) (barL_get hqk)
        obtain ⟨_, _, e, h, _⟩ := this
        injection e with e
        injection e with e1 e2 e3
        omega
      have hx0 : (0 : Int) ≤ ((q[k] : Nat) : Int) := by omega
      have hxi : ((q[k] : Nat) : Int) < (V.length : Int) := by omega
      have hki : ((k : Int) + 1) < (q.length : Int) := by omega
      have hki0 : (k : Int) < (q.length : Int) := by omega
      have hk0 : (0 : Int) ≤ (k : Int) := by omega
      have hk1 : (0 : Int) ≤ (k : Int) + 1 := by omega
      clear hqk hq1 hin hRk hvx hcell l1 i1 hbdd
      generalize ixT (grV V) q[k] q[k + 1] = n at *
      generalize V[q[k]].tr.length = tl at *
      generalize q[k + 1] = y at *
      generalize q[k] = x at *
      have hwk : IntKind.i64.wrap (k : Int) = (k : Int) := by rw [IntKind.wrap_i64]; omega
      have hwn : IntKind.i64.wrap ((n : Int) + 1) = (n : Int) + 1 := by rw [IntKind.wrap_i64]; omega
      have hba : Below wr.drew.heap.size wr.drew (wr.drew.alloc (.cells #[.int .i64 ((n : Int) + 1)] 2)) := (Below.refl _ _).alloc (Nat.le_refl _) _
      have HROW := Lib.hid (own_below HOWN.out (hbd.trans (hba.mono hbd.size)))
      have HBA := Lib.hid (HB.out.trans ((hbd.trans (hba.mono hbd.size)).mono hsw))
      go_wp2_with (fail)
      go_region_held3 (fun w' => w'.cell? ⟨bp, op + k, none⟩ = some (.int .i64 (x : Int)) ∧ w'.cell? ⟨bl, ol + x * 2 + 1, none⟩ = some (.slice B1 tl d1) ∧ w'.cell? ⟨bp, op + (k + 1), none⟩ = some (.int .i64 (y : Int)))
        (first | exact ⟨x0, x1, x2⟩ | exact keepA ⟨x0, x1, x2⟩ hbd | exact keepA (keepA ⟨x0, x1, x2⟩ hbd) hba | exact keepG (keepA (keepA ⟨x0, x1, x2⟩ hbd) hba) hgrow (by show bp ≠ g; omega) (by show bl ≠ g; omega) (by show bp ≠ g; omega) | go_keep)
        (first
          | (go_at_call 33
             refine HIX.out.mono ?_
             rintro e _ ⟨rfl, rfl⟩)
          | (refine step_append_own_at (by rfl) _ _ 30 (by rfl) w.heap.size 2 i0 (.int .i64 0) 1 8 Try.underlying30 hi hz0 hz1 hz2 rfl (by decide) _ _ _ (by rfl) HROW.out ⟨wr.drew.heap.size, 0, none⟩ 1 1 (intCells ((n : Int) + 1)) (by rfl) (by rfl) (fun j u hj => new_at hj) (fun u hu => int_one' _ hu) (by unfold maxLen; omega) (by omega) HBA.out.size ?_
             intro v' w9 hown' hgrow hiff hor
             obtain ⟨g', cap', rfl, hdc', hcm'⟩ := own_some hown' (by simpa using hiff)
             clear hiff))
      have HO9 : Hid (w9.ownsRow w.heap.size 2 1 (.slice (some ⟨g', 0, none⟩) (k + 1) cap') (k + 1) ((barL (R.take (k + 1))).flatMap intCells)) := Lib.hid (by rw [HRT.out, flat_snoc]; exact hown')
      have HB9 := Lib.hid (HBA.out.grown hgrow HBA.out.size (fun j hj => (HROW.out.lt j hj).1))
      clear hown' hgrow hor
      go_wp2
      go_roundw
      case rel => exact ⟨k + 1, g', cap', by omega, by go_num, rfl, HO9.out, HB9.out⟩
      case measure => simp [RowKit.intOf]; omega
    · have hge : ¬ (k : Int) + 1 < (q.length : Int) := by omega
      have HFIN : Hid (OwnL intCells (barL R) w.heap.size wr (.slice (some ⟨g, 0, none⟩) R.length cap)) := Lib.hid (by
        have e : R.take k = R := List.take_of_length_le (by omega)
        have hk2 : k = R.length := by omega
        have h := HOWN.out
        rw [e] at h
        rw [hk2] at h
        have := OwnL.of_own (xs := barL R) intCells (size := 1) (fun _ => rfl) (by rw [barL_len]; exact h)
        exact this)
      obtain rfl : k = R.length := by omega
      clear hlt
      go_wp2
      go_ret
      exact ⟨some ⟨g, 0, none⟩, cap, rfl, HFIN.out, HB.out⟩
end Go.Proofs.Ytihhbkijcebapaa

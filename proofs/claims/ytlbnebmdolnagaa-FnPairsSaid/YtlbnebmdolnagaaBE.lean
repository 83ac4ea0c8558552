/- The least dominating set, walked. Strengths of paths, walked. -/
import Derived.Test.YtlbnebmdolnagaaBC
import Derived.Test.YtlbnebmdolnagaaYC
namespace Go.Proofs.Ytlbnebmdolnagaa
open Go.RowKit Go.Lib

def okA (F : Pf) (q : List Nat) (a b : Nat) : Bool := q.contains b || decide (prs F b a < prs F a b)
def domA (F : Pf) (q : List Nat) (a : Nat) : Bool := (List.range F.n).all (okA F q a)
def domB (F : Pf) (q : List Nat) : Bool := q.all (domA F q)
theorem domB_iff {F : Pf} {q : List Nat} : domB F q = true ↔ Dom F q := by
  unfold domB Dom
  rw [List.all_eq_true]
  refine forall_congr' fun a => forall_congr' fun _ => ?_
  unfold domA
  rw [List.all_eq_true]
  constructor
  · intro h b hb
    have := h b (List.mem_range.2 hb)
    unfold okA at this
    rw [Bool.or_eq_true, List.contains_iff_mem, decide_eq_true_eq] at this
    exact this
  · intro h b hb
    unfold okA
    rw [Bool.or_eq_true, List.contains_iff_mem, decide_eq_true_eq]
    exact h b (List.mem_range.1 hb)
/-- The best of some sets. -/
def BestOf (F : Pf) (qs : List (List Nat)) (S : List Nat) : Prop :=
  (S = [] ∧ ∀ q ∈ qs, domB F q = false) ∨ (S ∈ qs ∧ S ≠ [] ∧ domB F S = true ∧ ∀ q ∈ qs, domB F q = true → S.length ≤ q.length)
theorem BestOf.keep {F : Pf} {qs : List (List Nat)} {S q : List Nat} (h : BestOf F qs S) (hq : domB F q = true → S ≠ [] ∧ S.length ≤ q.length) : BestOf F (qs ++ [q]) S := by
  rcases h with ⟨h1, h2⟩ | ⟨h1, h0, h2, h3⟩
  · refine .inl ⟨h1, fun x hx => ?_⟩
    rcases List.mem_append.1 hx with hx | hx
    · exact h2 x hx
    · rw [List.mem_singleton.1 hx]
      cases hd : domB F q
      · rfl
      · exact absurd h1 (hq hd).1
  · refine .inr ⟨List.mem_append.2 (.inl h1), h0, h2, fun x hx hd => ?_⟩
    rcases List.mem_append.1 hx with hx | hx
    · exact h3 x hx hd
    · rw [List.mem_singleton.1 hx] at hd ⊢
      exact (hq hd).2
theorem BestOf.turn {F : Pf} {qs : List (List Nat)} {S q : List Nat} (h : BestOf F qs S) (hd : domB F q = true) (hq : q ≠ []) (hl : S = [] ∨ q.length < S.length) : BestOf F (qs ++ [q]) q := by
  refine .inr ⟨by simp, hq, hd, fun x hx hdx => ?_⟩
  rcases List.mem_append.1 hx with hx | hx
  · rcases h with ⟨_, h2⟩ | ⟨_, h0, _, h3⟩
    · rw [h2 x hx] at hdx; cases hdx
    · have := h3 x hx hdx
      rcases hl with hl | hl
      · exact absurd hl h0
      · omega
  · rw [List.mem_singleton.1 hx]; exact Nat.le_refl _
theorem allDom {F : Pf} : Dom F (List.range F.n) := fun _ _ _b hb => .inl (List.mem_range.2 hb)
theorem mask_mem {n : Nat} (hn : n ≤ 7) {T : List Nat} : T ∈ (maskL n).map setL ↔ UpL n T ∧ T ≠ [] := by
  have h128 : 2 ^ n ≤ 128 := Nat.pow_le_pow_right (n := 2) (by omega) hn
  have h1p : 1 ≤ 2 ^ n := Nat.one_le_two_pow
  rw [List.mem_map]
  constructor
  · rintro ⟨m, hm, rfl⟩
    unfold maskL at hm
    obtain ⟨k, hk, rfl⟩ := List.mem_map.1 hm
    rw [List.mem_range] at hk
    refine ⟨setL_up (by omega) (by omega), fun e => ?_⟩
    have hz : k + 1 = 0 := Nat.eq_of_testBit_eq fun i => by
      rw [Nat.zero_testBit]
      cases hb : (k + 1).testBit i
      · rfl
      · have := (setL_mem (m := k + 1) (by omega)).2 hb
        rw [e] at this
        cases this
    omega
  · rintro ⟨h1, h2⟩
    refine ⟨setM T, ?_, setL_setM h1 (by omega)⟩
    have hlt := setM_lt h1.lt
    have hpos : 1 ≤ setM T := by
      obtain ⟨x, hx⟩ := List.exists_mem_of_ne_nil _ h2
      have hb := setM_bit.2 hx
      rcases Nat.eq_zero_or_pos (setM T) with h0 | h0
      · rw [h0, Nat.zero_testBit] at hb; cases hb
      · exact h0
    unfold maskL
    exact List.mem_map.2 ⟨setM T - 1, List.mem_range.2 (by omega), by omega⟩
theorem best_sm {F : Pf} (hF : F.Ok) {qs : List (List Nat)} (hq : qs.Perm ((maskL F.n).map setL)) {S : List Nat} (h : BestOf F qs S) : IsSm F S := by
  have hn := hF.n6
  have hm : ∀ T, T ∈ qs ↔ UpL F.n T ∧ T ≠ [] := fun T => by rw [hq.mem_iff, mask_mem (by omega)]
  have hall : List.range F.n ∈ qs := (hm _).2 ⟨⟨List.pairwise_lt_range, fun x hx => List.mem_range.1 hx⟩, fun e => by
    have := congrArg List.length e
    rw [List.length_range] at this
    have := hF.n1
    simp at *
    omega⟩
  rcases h with ⟨_, h2⟩ | ⟨h1, h0, h2, h3⟩
  · have := h2 _ hall
    rw [domB_iff.2 allDom] at this
    cases this
  · exact ⟨((hm S).1 h1).1, h0, domB_iff.1 h2, fun T hT hTn hTd => h3 T ((hm T).2 ⟨hT, hTn⟩) (domB_iff.2 hTd)⟩
def DomPost (F : Pf) (w : World) (e : Ending) (w' : World) : Prop :=
  ∃ S v, e = .returned v ∧ IsSm F S ∧ Ints w' w'.heap.size v (barL S) ∧ Below w.heap.size w w'
set_option maxRecDepth 100000 in
set_option maxHeartbeats 8000000 in
theorem dominating_any (F : Pf) (hF : F.Ok) (A1 : Option Addr) (c1 : Nat) (A2 : Option Addr) (c2 : Nat) (w : World) (h : PfR w w.heap.size F A1 c1 A2 c2) :
    Calls Try.prog 59 #[pfV F A1 c1 A2 c2] w (DomPost F w) := by
  obtain ⟨q1, q2, q3, q4, b1, o1, b2, o2, hc⟩ := h.cells hF
  obtain ⟨rfl, rfl, -, -⟩ := hc
  obtain ⟨w1, hw1, hs1, hbw1, z0, z1, fr, bw⟩ := pbox_at h
  have HOP := Lib.hid (fun y => options_any F hF _ _ _ _ _ (fr y))
  have HPA := Lib.hid (fun y => pairs_any F hF _ _ _ _ _ (fr y))
  have BW := Lib.hid bw
  have HF := Lib.hid hF
  have hn1 := hF.n1
  have hn6 := hF.n6
  unfold pfV
  unfold pfV at HOP HPA
  clear hF h fr bw hbw1
  go_enter Try.func59, Try.ntmps59
  go_upto_region 1 with (fail)
  rw [← hw1]
  have HZ1 := Lib.hid hs1
  clear hw1 hs1
  have c0 : ∀ W, Beh w1 W → W.cell? ⟨w.heap.size, 0, none⟩ = some (.slice (some ⟨b1, o1, none⟩) F.L.length c1) := fun W h => z0 ⟨W, h⟩
  have c1' : ∀ W, Beh w1 W → W.cell? ⟨w.heap.size, 1, none⟩ = some (.slice (some ⟨b2, o2, none⟩) F.L.length c2) := fun W h => z1 ⟨W, h⟩
  have HOPW : Hid (∀ W, Beh w1 W → Calls Try.prog 62 #[.agg #[.slice (some ⟨b1, o1, none⟩) F.L.length c1, .slice (some ⟨b2, o2, none⟩) F.L.length c2]] W (RetB (.int .i64 (F.n : Int)) W)) := Lib.hid (fun W h => HOP.out ⟨W, h⟩)
  have HPAW : Hid (∀ W, Beh w1 W → Calls Try.prog 68 #[.agg #[.slice (some ⟨b1, o1, none⟩) F.L.length c1, .slice (some ⟨b2, o2, none⟩) F.L.length c2]] W (MatPost F.n (prs F) W)) := Lib.hid (fun W h => HPA.out ⟨W, h⟩)
  have hS0 : Beh w1 w1 := Below.refl _ _
  refine wp_region_held_drew (S := fun w' => Beh w1 w') (by kernel_rfl) hS0.draw (fun hHeld => ?_)
  refine wpAnyH_take (i := 0) (v := ?_) rfl (by kernel_rfl) (by kernel_rfl) (by kernel_rfl) (fun _ _ _ h => h) (Or.inl ⟨by rfl, ?_⟩) (by assumption) ?_
  rotate_left
  · intro W9 hSw
    have hq0 := c0 W9 hSw
    have hq1 := c1' W9 hSw
    try simp only [List.getElem_toArray, List.getElem_cons_zero]
    first | (go_simp; done) | (go_simp; with_reducible rfl)
  try simp only [Act.put, List.getElem_toArray, List.getElem_cons_zero, List.setIfInBounds_toArray, List.set_cons_zero, List.set_cons_succ]
  refine wpAnyH_take (i := 2) (v := ?_) rfl (by kernel_rfl) (by kernel_rfl) (by kernel_rfl) (fun _ _ _ h => h) (Or.inl ⟨by rfl, ?_⟩) (by assumption) ?_
  rotate_left
  · intro W9 hSw
    have hq0 := c0 W9 hSw
    have hq1 := c1' W9 hSw
    try simp only [List.getElem_toArray, List.getElem_cons_zero, List.getElem_cons_succ]
    first | (go_simp; done) | (go_simp; with_reducible rfl)
  try simp only [Act.put, List.getElem_toArray, List.getElem_cons_zero, List.getElem_cons_succ, List.setIfInBounds_toArray, List.set_cons_zero, List.set_cons_succ]
  refine wpAnyH_ready (rs := [1]) (by kernel_rfl) (by simp) ?_
  refine AllReadyH.cons rfl (fun K hK => ?_) AllReadyH.nil
  simp only [List.getElem_toArray, List.getElem_cons_zero, List.getElem_cons_succ]
  go_simp
  go_at_call 62
  refine Calls.mono (HOPW.out _ hHeld) ?_
  rintro e w2 ⟨rfl, hb2⟩
  have hy12 := Below.size (Beh.go hb2 hHeld)
  refine hK.out _ _ (Beh.go hb2 hHeld) (fun hHeld2 => ?_)
  clear hK K hHeld
  have hHeld := hHeld2
  clear hHeld2
  try simp only [Act.put, List.setIfInBounds_toArray, List.set_cons_zero, List.set_cons_succ]
  refine wpAnyH_ready (rs := [3]) (by kernel_rfl) (by simp) ?_
  refine AllReadyH.cons rfl (fun K hK => ?_) AllReadyH.nil
  simp only [List.getElem_toArray, List.getElem_cons_zero, List.getElem_cons_succ]
  go_simp
  go_at_call 68
  refine Calls.mono (HPAW.out _ hHeld) ?_
  rintro e w3 ⟨g, cap, R, C, rfl, hmat, hb3⟩
  skip
  refine hK.out _ _ (Beh.go hb3 hHeld) (fun hHeld2 => ?_)
  clear hK K hHeld
  have hHeld := hHeld2
  clear hHeld2
  try simp only [Act.put, List.setIfInBounds_toArray, List.set_cons_zero, List.set_cons_succ]
  refine wpAnyH_take (i := 4) (v := ?_) rfl (by kernel_rfl) (by kernel_rfl) (by kernel_rfl) (fun _ _ _ h => h) (Or.inl ⟨by rfl, ?_⟩) (by assumption) ?_
  rotate_left
  · intro w hSw
    simp only [List.getElem_toArray, List.getElem_cons_zero, List.getElem_cons_succ]
    first | (go_simp; done) | (go_simp; with_reducible rfl)
  simp only [Act.put, List.getElem_toArray, List.getElem_cons_zero, List.getElem_cons_succ, List.setIfInBounds_toArray, List.set_cons_zero, List.set_cons_succ]
  refine wpAnyH_take (i := 5) (v := ?_) rfl (by kernel_rfl) (by kernel_rfl) (by kernel_rfl) (fun _ _ _ h => h) (Or.inl ⟨by rfl, ?_⟩) (by assumption) ?_
  rotate_left
  · intro w hSw
    simp only [List.getElem_toArray, List.getElem_cons_zero, List.getElem_cons_succ]
    first | (go_simp; done) | (go_simp; with_reducible rfl)
  simp only [Act.put, List.getElem_toArray, List.getElem_cons_zero, List.getElem_cons_succ, List.setIfInBounds_toArray, List.set_cons_zero, List.set_cons_succ]
  refine wpAnyH_done (by kernel_rfl) ?_ _
  obtain ⟨y3, rfl⟩ : ∃ y : Aft w1, y.val = w3 := ⟨⟨w3, hHeld⟩, rfl⟩
  clear hS0 hHeld c0 c1' HOPW HPAW
  have HMAT := Lib.hid (hmat.less hy12)
  have HAS := Lib.hid (fun W : World => allSets_any F.n (by omega) W)
  clear hmat hb2 hb3 hy12
  go_wp2_with (fail)
  refine (HAS.out _).mono ?_
  rintro e w4 ⟨qs, gq, cq, rfl, hperm, -, hrows, hb4⟩
  have hbx : Below y3.val.heap.size y3.val (y3.val.alloc (.cells #[] 2)) := (Below.refl _ _).alloc (Nat.le_refl _) _
  have hb34 : Below y3.val.heap.size y3.val w4 := below_then hbx hbx.size hb4
  have HM4 := Lib.hid (HMAT.out.below hb34)
  have HB4 : Hid (∀ y : Aft w4, Below w.heap.size w y.val) := Lib.hid (fun y => by
    have h14 := below_then y3.ok y3.ok.size hb34
    exact BW.out ⟨y.val, below_then h14 h14.size y.ok⟩)
  have HPM := Lib.hid hperm
  have HQM : Hid (∀ q ∈ qs, UpL F.n q ∧ q ≠ []) := Lib.hid (fun q hq => (mask_mem (by omega)).1 (hperm.mem_iff.1 hq))
  obtain ⟨Aq, cq', eq1, hql, hqc, hrk⟩ := rows_at hrows
  rw [List.length_map] at eq1 hql hrk
  have ROW : Hid (∀ (k : Nat) (q : List Nat), qs[k]? = some q → ∃ A7 c7, ∀ y : Aft w4, y.val.cell? ⟨gq, k, none⟩ = some (.slice A7 q.length c7) ∧ Ints y.val y.val.heap.size (.slice A7 q.length c7) (barL q)) := Lib.hid (fun k q hq => by
    obtain ⟨b5, o5, hA5, hb5, hcell⟩ := hrk (by have := (List.getElem?_eq_some_iff.1 hq).1; omega)
    injection eq1 with e1 _ _
    rw [← e1] at hA5
    injection hA5 with e4
    injection e4 with e4 e5 _
    subst e4
    subst e5
    obtain ⟨A7, c7, v0, _, i7⟩ := hcell k (barL q) (by rw [List.getElem?_map, hq]; rfl)
    rw [barL_len] at v0 i7
    rw [Nat.zero_add] at v0
    exact ⟨A7, c7, fun y => ⟨y.cell v0, SlR.on i7 (Pl.stays _) y.ok y.ok.size⟩⟩)
  have hq64 : qs.length ≤ 9223372036854775807 := by unfold maxLen at hqc; omega
  obtain ⟨x4, hx4⟩ : ∃ y : Aft w4, y.val = w4 := ⟨⟨w4, Below.refl _ _⟩, rfl⟩
  have HNIL : Hid (∀ y : Aft w4, Ints y.val y.val.heap.size (.slice (some ⟨y3.val.heap.size, 0, none⟩) 0 0) (barL [])) := Lib.hid (fun y => ⟨_, 0, rfl, Nat.le_refl _, Nat.zero_le _, fun h => absurd h (by show ¬ 0 < 0; omega)⟩)
  rw [← hx4]
  generalize y3.val.heap.size = gz at *
  clear hx4 eq1 hql hqc hrk hperm hrows hb4 hbx hb34 HMAT HAS HOP HPA z0 z1
  go_wp2
  go_loopw [5, 7, 8, 10, 11, 20] (fun bv _ _ _ _ i wr => ∃ (k : Nat) (S : List Nat) (Ab : Option Addr) (cb : Nat) (y : Aft w4), k ≤ qs.length ∧ bv = .slice Ab S.length cb ∧ (∀ y : Aft w4, Ints y.val y.val.heap.size (.slice Ab S.length cb) (barL S)) ∧ BestOf F (qs.take k) S ∧ i = .int .i64 (k : Int) ∧ wr = y.val) (fun _ _ _ _ _ i _ => qs.length - (RowKit.intOf i).toNat)
  case atStart => exact ⟨0, [], _, 0, x4, Nat.zero_le _, rfl, HNIL.out, .inl ⟨rfl, fun q hq => by cases hq⟩, rfl, rfl⟩
  case round =>
    obtain ⟨k, S, Ab, cb, y, hk, rfl, hbi, hbest, rfl, rfl⟩ := hrel
    have HBI := Lib.hid hbi
    have HBEST := Lib.hid hbest
    clear hbi hbest
    by_cases hlt : k < qs.length
    · have hget : qs[k]? = some qs[k] := List.getElem?_eq_getElem hlt
      obtain ⟨A7, c7, hrow⟩ := ROW.out k _ hget
      have HQ := Lib.hid (HQM.out _ (List.getElem_mem hlt))
      have HTK := Lib.hid (List.take_succ_eq_append_getElem hlt)
      have hki : (k : Int) < (qs.length : Int) := by omega
      have hk0 : (0 : Int) ≤ (k : Int) := by omega
      generalize qs[k] = q at *
      have v0 := fun y : Aft w4 => (hrow y).1
      have HQI := Lib.hid (fun y : Aft w4 => (hrow y).2)
      have hq6 : q.length ≤ 6 := by have := HQ.out.1.len; omega
      clear hget hrow
      go_wp2
      go_loopw [8, 10, 11, 26] (fun is _ _ ii wr => ∃ (i : Nat) (y : Aft w4), i ≤ q.length ∧ is = .bool ((q.take i).all (domA F q)) ∧ ii = .int .i64 (i : Int) ∧ wr = y.val) (fun _ _ _ ii _ => q.length - (RowKit.intOf ii).toNat)
      case atStart => exact ⟨0, y, Nat.zero_le _, rfl, rfl, rfl⟩
      case round =>
        obtain ⟨i, y, hi, rfl, rfl, rfl⟩ := hrel
        by_cases hlti : i < q.length
        · have hgi : q[i]? = some q[i] := List.getElem?_eq_getElem hlti
          have ha := HQ.out.1.lt _ (List.getElem_mem hlti)
          have HTI : Hid ((q.take (i + 1)).all (domA F q) = ((q.take i).all (domA F q) && (List.range F.n).all (okA F q q[i]))) := Lib.hid (by
            rw [List.take_succ_eq_append_getElem hlti, List.all_append]
            simp [domA])
          obtain ⟨b7, o7, rfl, hb7, _⟩ := ints_get (HQI.out ⟨w4, Below.refl _ _⟩) (barL_get hgi)
          have u0 : ∀ y : Aft w4, y.val.cell? ⟨b7, o7 + i, none⟩ = some (.int .i64 ((q[i] : Nat) : Int)) := fun y => by
            obtain ⟨b8, o8, e8, _, u8⟩ := ints_get (HQI.out y) (barL_get hgi)
            injection e8 with e8
            injection e8 with e9 e10 _
            subst e9
            subst e10
            exact u8
          have hii : (i : Int) < (q.length : Int) := by omega
          have hi0 : (0 : Int) ≤ (i : Int) := by omega
          generalize q[i] = a at *
          generalize (q.take i).all (domA F q) = r0 at *
          have m1 := fun y : Aft w4 => ((HM4.out.below y.ok).top a ha).1
          have hca := (HM4.out.top a ha).2.1
          clear hgi hb7
          go_wp2
          go_loopw [8, 11, 31] (fun is _ jj wr => ∃ (j : Nat) (y : Aft w4), j ≤ F.n ∧ is = .bool (r0 && (List.range j).all (okA F q a)) ∧ jj = .int .i64 (j : Int) ∧ wr = y.val) (fun _ _ jj _ => F.n - (RowKit.intOf jj).toNat)
          case atStart => exact ⟨0, y, Nat.zero_le _, by simp, rfl, rfl⟩
          case round =>
            obtain ⟨j, y, hj, rfl, rfl, rfl⟩ := hrel
            by_cases hltj : j < F.n
            · have HNX : Hid ((r0 && (List.range (j + 1)).all (okA F q a)) = ((r0 && (List.range j).all (okA F q a)) && okA F q a j)) := Lib.hid (by
                rw [List.range_succ, List.all_append]
                simp [Bool.and_assoc])
              have HOKA : Hid (okA F q a j = (q.contains j || decide (prs F j a < prs F a j))) := Lib.hid rfl
              have m2 := fun y : Aft w4 => ((HM4.out.below y.ok).top j hltj).1
              have m3 := fun y : Aft w4 => (HM4.out.below y.ok).get ha hltj
              have m4 := fun y : Aft w4 => (HM4.out.below y.ok).get hltj ha
              have hcj := (HM4.out.top j hltj).2.1
              have hji : (j : Int) < (F.n : Int) := by omega
              have hj0 : (0 : Int) ≤ (j : Int) := by omega
              have hai : (a : Int) < (F.n : Int) := by omega
              have ha0 : (0 : Int) ≤ (a : Int) := by omega
              generalize (r0 && (List.range j).all (okA F q a)) = r at *
              generalize okA F q a j = oo at *
              generalize prs F a j = p1 at *
              generalize prs F j a = p2 at *
              cases r with
              | false =>
                go_upto_region 13 with (fail)
                refine wp_region_at (by kernel_rfl) (by kernel_rfl) ?_
                repeat (go_big_quiet_step ((first | (go_at_call 65; exact aft_q (contains2_val _ _ _ _ _ (HQI.out _) rfl)))))
                refine wpQuiet_nil ?_
                rintro _ ⟨y2, rfl⟩
                go_wp2
                go_roundw
                case rel => exact ⟨j + 1, y2, by omega, by rw [HNX.out]; rfl, by go_num, rfl⟩
                case measure => simp [RowKit.intOf]; omega
              | true =>
                cases hcn : q.contains j with
                | true =>
                  rw [hcn] at HOKA
                  have HCN := Lib.hid (bar_has.trans hcn)
                  clear hcn
                  go_upto_region 13 with (fail)
                  refine wp_region_at (by kernel_rfl) (by kernel_rfl) ?_
                  repeat (go_big_quiet_step ((first | (go_at_call 65; exact aft_q (contains2_val _ _ _ _ _ (HQI.out _) HCN.out)))))
                  refine wpQuiet_nil ?_
                  rintro _ ⟨y2, rfl⟩
                  go_wp2
                  go_roundw
                  case rel => exact ⟨j + 1, y2, by omega, by rw [HNX.out, HOKA.out]; rfl, by go_num, rfl⟩
                  case measure => simp [RowKit.intOf]; omega
                | false =>
                  rw [hcn] at HOKA
                  have HCN := Lib.hid (bar_has.trans hcn)
                  clear hcn
                  by_cases hp : p2 < p1
                  · have hd1 : decide (p2 < p1) = true := decide_eq_true hp
                    have hd2 : decide ((p2 : Int) < (p1 : Int)) = true := decide_eq_true (by omega)
                    have hd3 : (p2 : Int) < (p1 : Int) := by omega
                    rw [hd1] at HOKA
                    go_upto_region 13 with (fail)
                    refine wp_region_at (by kernel_rfl) (by kernel_rfl) ?_
                    repeat (go_big_quiet_step ((first | (go_at_call 65; exact aft_q (contains2_val _ _ _ _ _ (HQI.out _) HCN.out)))))
                    refine wpQuiet_nil ?_
                    rintro _ ⟨y2, rfl⟩
                    go_wp2
                    go_roundw
                    case rel => exact ⟨j + 1, y2, by omega, by rw [HNX.out, HOKA.out]; rfl, by go_num, rfl⟩
                    case measure => simp [RowKit.intOf]; omega
                  · have hd1 : decide (p2 < p1) = false := decide_eq_false hp
                    have hd2 : decide ((p2 : Int) < (p1 : Int)) = false := decide_eq_false (by omega)
                    have hd3 : ¬ (p2 : Int) < (p1 : Int) := by omega
                    rw [hd1] at HOKA
                    go_upto_region 13 with (fail)
                    refine wp_region_at (by kernel_rfl) (by kernel_rfl) ?_
                    repeat (go_big_quiet_step ((first | (go_at_call 65; exact aft_q (contains2_val _ _ _ _ _ (HQI.out _) HCN.out)))))
                    refine wpQuiet_nil ?_
                    rintro _ ⟨y2, rfl⟩
                    go_wp2
                    go_roundw
                    case rel => exact ⟨j + 1, y2, by omega, by rw [HNX.out, HOKA.out]; rfl, by go_num, rfl⟩
                    case measure => simp [RowKit.intOf]; omega
            · have hge : ¬ (j : Int) < (F.n : Int) := by omega
              obtain rfl : j = F.n := by omega
              clear hltj
              go_wp2
              go_roundw
              case rel => exact ⟨i + 1, y, by omega, by rw [HTI.out], by go_num, rfl⟩
              case measure => simp [RowKit.intOf]; omega
        · have hge : ¬ (i : Int) < (q.length : Int) := by omega
          have HDB : Hid (domB F q = (q.take i).all (domA F q)) := Lib.hid (by unfold domB; rw [List.take_of_length_le (by omega)])
          generalize (q.take i).all (domA F q) = r at *
          have hqpos : 0 < q.length := List.length_pos_iff.2 HQ.out.2
          cases r with
          | false =>
            have HBN := Lib.hid (HBEST.out.keep (q := q) (fun h => by rw [HDB.out] at h; cases h))
            rw [← HTK.out] at HBN
            go_wp2
            go_roundw
            case rel => exact ⟨k + 1, S, Ab, cb, y, by omega, rfl, HBI.out, HBN.out, by go_num, rfl⟩
            case measure => simp [RowKit.intOf]; omega
          | true =>
            by_cases hS : S.length = 0
            · have HBN := Lib.hid (HBEST.out.turn (q := q) HDB.out HQ.out.2 (.inl (List.length_eq_zero_iff.1 hS)))
              rw [← HTK.out] at HBN
              have hSb : ((S.length : Int) == 0) = true := by rw [hS]; rfl
              clear hS
              go_wp2
              go_roundw
              case rel => exact ⟨k + 1, q, _, _, y, by omega, rfl, HQI.out, HBN.out, by go_num, rfl⟩
              case measure => simp [RowKit.intOf]; omega
            · have hSb : ((S.length : Int) == 0) = false := by rw [beq_eq_false_iff_ne]; omega
              by_cases hsm : q.length < S.length
              · have HBN := Lib.hid (HBEST.out.turn (q := q) HDB.out HQ.out.2 (.inr hsm))
                rw [← HTK.out] at HBN
                have hd1 : decide (q.length < S.length) = true := decide_eq_true hsm
                have hd3 : (q.length : Int) < (S.length : Int) := by omega
                go_wp2
                go_roundw
                case rel => exact ⟨k + 1, q, _, _, y, by omega, rfl, HQI.out, HBN.out, by go_num, rfl⟩
                case measure => simp [RowKit.intOf]; omega
              · have HBN := Lib.hid (HBEST.out.keep (q := q) (fun _ => ⟨fun e => hS (by rw [e]; rfl), by omega⟩))
                rw [← HTK.out] at HBN
                have hd1 : decide (q.length < S.length) = false := decide_eq_false hsm
                have hd3 : ¬ (q.length : Int) < (S.length : Int) := by omega
                go_wp2
                go_roundw
                case rel => exact ⟨k + 1, S, Ab, cb, y, by omega, rfl, HBI.out, HBN.out, by go_num, rfl⟩
                case measure => simp [RowKit.intOf]; omega
    · have hge : ¬ (k : Int) < (qs.length : Int) := by omega
      have HSM := Lib.hid (best_sm HF.out HPM.out (by have := HBEST.out; rwa [List.take_of_length_le (by omega)] at this))
      go_wp2
      go_ret
      exact ⟨S, _, rfl, HSM.out, HBI.out y, HB4.out y⟩
end Go.Proofs.Ytlbnebmdolnagaa

namespace Go.Proofs.Ytlbnebmdolnagaa
open Go.RowKit Go.Lib

/-- Rows of first strengths, and the row that is being filled. -/
structure FwS (F : Pf) (W0 W : World) (g cap i k g2 : Nat) (T : List VRow) : Prop where
  bel : Below W0.heap.size W0 W
  tree : TreeW kRow 25 W0.heap.size W g cap T
  len : T.length = i
  map : T.map (·.a) = (List.range i).map (fun i => barL (rowN (fw0 F) i F.n))
  row : Row W g2 (nCells (rowN (fun _ y => if y < k then fw0 F i y else 0) i F.n))
  lo : W0.heap.size ≤ g2 ∧ g2 < W.heap.size
  apart : g2 ≠ g ∧ ∀ z ∈ T, ∀ b, kRow.blk z b → b ≠ g2
theorem FwS.below {F : Pf} {W0 W W' : World} {g cap i k g2 : Nat} {T : List VRow} (h : FwS F W0 W g cap i k g2 T) (hb : Below W.heap.size W W') : FwS F W0 W' g cap i k g2 T :=
  ⟨below_then h.bel h.bel.size hb, h.tree.below hb, h.len, h.map, h.row.below hb h.lo.2, ⟨h.lo.1, Nat.lt_of_lt_of_le h.lo.2 hb.size⟩, h.apart⟩
theorem fill_len (F : Pf) (i k : Nat) : (nCells (rowN (fun _ y => if y < k then fw0 F i y else 0) i F.n)).length = F.n := by rw [nCells_len, rowN_len]
theorem fill_set (F : Pf) {i k : Nat} (hk : k < F.n) : (nCells (rowN (fun _ y => if y < k then fw0 F i y else 0) i F.n)).set k (.int .i64 (fw0 F i k : Int)) = nCells (rowN (fun _ y => if y < k + 1 then fw0 F i y else 0) i F.n) := by
  refine List.ext_getElem? fun j => ?_
  rw [List.getElem?_set, fill_len]
  by_cases hj : j < F.n
  · rw [nCells_get (rowN_get hj), nCells_get (rowN_get hj)]
    by_cases e : k = j
    · subst e
      rw [if_pos rfl, if_pos hj, if_pos (by omega)]
    · rw [if_neg e]
      by_cases e2 : j < k
      · rw [if_pos e2, if_pos (by omega)]
      · rw [if_neg e2, if_neg (by omega)]
  · rw [List.getElem?_eq_none (by rw [fill_len]; omega), if_neg (by omega), List.getElem?_eq_none (by rw [fill_len]; omega)]
theorem fill_skip (F : Pf) {i k : Nat} (h0 : fw0 F i k = 0) : rowN (fun _ y => if y < k then fw0 F i y else 0) i F.n = rowN (fun _ y => if y < k + 1 then fw0 F i y else 0) i F.n := by
  unfold rowN
  refine List.map_congr_left fun j _ => ?_
  show (if j < k then fw0 F i j else 0) = (if j < k + 1 then fw0 F i j else 0)
  by_cases e : j = k
  · subst e
    rw [if_neg (by omega), if_pos (by omega), h0]
  · by_cases e2 : j < k
    · rw [if_pos e2, if_pos (by omega)]
    · rw [if_neg e2, if_neg (by omega)]
theorem fill_end (F : Pf) (i : Nat) : rowN (fun _ y => if y < F.n then fw0 F i y else 0) i F.n = rowN (fw0 F) i F.n := by
  unfold rowN
  refine List.map_congr_left fun j hj => ?_
  show (if j < F.n then fw0 F i j else 0) = fw0 F i j
  rw [if_pos (List.mem_range.1 hj)]
theorem fill_zero (F : Pf) (i : Nat) : nCells (rowN (fun _ y => if y < 0 then fw0 F i y else 0) i F.n) = List.replicate F.n (.int .i64 0) := by
  have : rowN (fun _ y => if y < 0 then fw0 F i y else 0) i F.n = List.replicate F.n 0 := by
    rw [← rowN_zero i F.n]
    unfold rowN
    refine List.map_congr_left fun j _ => ?_
    show (if j < 0 then fw0 F i j else 0) = 0
    rw [if_neg (by omega)]
  rw [this]
  unfold nCells
  rw [List.map_replicate]
  rfl
theorem FwS.set {F : Pf} {W0 W : World} {g cap i k g2 : Nat} {T : List VRow} (h : FwS F W0 W g cap i k g2 T) (hk : k < F.n) : FwS F W0 (W.setCell ⟨g2, k, none⟩ (.int .i64 (fw0 F i k : Int))) g cap i (k + 1) g2 T := by
  have ht : Touch (fun c => c = g2) W (W.setCell ⟨g2, k, none⟩ (.int .i64 (fw0 F i k : Int))) := Touch.setCell (F := fun c => c = g2) (Touch.refl _ _) rfl _
  refine ⟨h.bel.setCell h.lo.1 _, ⟨own_touchC h.tree.row ht (fun b hb e => by injection hb with hb; exact h.apart.1 (by rw [← e]; exact hb.symm)), fun x hx => kRow.touch (h.tree.inn x hx) ht (fun c hc e => h.apart.2 x hx c hc e), h.tree.out, h.tree.two⟩, h.len, h.map, ?_, by simpa using h.lo, h.apart⟩
  rw [← fill_set F hk]
  exact h.row.set k _ (by rw [fill_len]; exact hk)
theorem FwS.skip {F : Pf} {W0 W : World} {g cap i k g2 : Nat} {T : List VRow} (h : FwS F W0 W g cap i k g2 T) (h0 : fw0 F i k = 0) : FwS F W0 W g cap i (k + 1) g2 T :=
  ⟨h.bel, h.tree, h.len, h.map, by rw [← fill_skip F h0]; exact h.row, h.lo, h.apart⟩
theorem fw_left (F : Pf) (b i : Nat) : fwK F (b + 1) i b = fwK F b i b := by
  rw [fwK]
  split
  · rfl
  · omega
theorem fw_right (F : Pf) (b k : Nat) : fwK F (b + 1) b k = fwK F b b k := by
  rw [fwK]
  split
  · rfl
  · omega
/-- The rows within round b, in row i, ahead of column k. -/
def FwM (F : Pf) (b i k : Nat) (M : Nat → Nat → Nat) : Prop := ∀ x y, x < F.n → y < F.n → M x y = if x < i ∨ x = i ∧ y < k then fwK F (b + 1) x y else fwK F b x y
theorem FwM.step {F : Pf} {b i k : Nat} {M : Nat → Nat → Nat} (h : FwM F b i k M) (hb : b < F.n) (hi : i < F.n) (hk : k < F.n) (hne : i ≠ k) : FwM F b i (k + 1) (updM M i k (max (M i k) (min (M i b) (M b k)))) := by
  have e1 : M i k = fwK F b i k := by rw [h i k hi hk, if_neg (by omega)]
  have e2 : M i b = fwK F b i b := by
    rw [h i b hi hb]
    split
    · exact fw_left F b i
    · rfl
  have e3 : M b k = fwK F b b k := by
    rw [h b k hb hk]
    split
    · exact fw_right F b k
    · rfl
  intro x y hx hy
  unfold updM
  by_cases e : x = i ∧ y = k
  · obtain ⟨rfl, rfl⟩ := e
    rw [if_pos ⟨rfl, rfl⟩, if_pos (by omega), e1, e2, e3]
    conv => rhs; rw [fwK]
    rw [if_neg hne]
  · rw [if_neg e, h x y hx hy]
    by_cases e4 : x < i ∨ x = i ∧ y < k
    · rw [if_pos e4, if_pos (by omega)]
    · rw [if_neg e4, if_neg (by omega)]
theorem FwM.same {F : Pf} {b i : Nat} {M : Nat → Nat → Nat} (h : FwM F b i i M) : FwM F b i (i + 1) M := by
  intro x y hx hy
  rw [h x y hx hy]
  by_cases e : x = i ∧ y = i
  · obtain ⟨rfl, rfl⟩ := e
    rw [if_neg (by omega), if_pos (by omega), fw_diag, fw_diag]
  · by_cases e4 : x < i ∨ x = i ∧ y < i
    · rw [if_pos e4, if_pos (by omega)]
    · rw [if_neg e4, if_neg (by omega)]
theorem FwM.row {F : Pf} {b i : Nat} {M : Nat → Nat → Nat} (h : FwM F b i F.n M) : FwM F b (i + 1) 0 M := by
  intro x y hx hy
  rw [h x y hx hy]
  by_cases e4 : x < i ∨ x = i ∧ y < F.n
  · rw [if_pos e4, if_pos (by omega)]
  · rw [if_neg e4, if_neg (by omega)]
theorem FwM.next {F : Pf} {b : Nat} {M : Nat → Nat → Nat} (h : FwM F b F.n 0 M) : FwM F (b + 1) 0 0 M := by
  intro x y hx hy
  rw [h x y hx hy, if_pos (.inl hx), if_neg (by omega)]
theorem MatR.same {base g n : Nat} {w : World} {R C : Nat → Nat} {M M' : Nat → Nat → Nat} (h : MatR base w g n R C M) (e : ∀ x y, x < n → y < n → M x y = M' x y) : MatR base w g n R C M' := by
  refine ⟨h.top, fun i hi => ?_, h.lt, h.inj, h.lg⟩
  have : rowN M' i n = rowN M i n := by
    unfold rowN
    exact List.map_congr_left fun k hk => (e i k hi (List.mem_range.1 hk)).symm
  rw [this]
  exact h.row i hi
theorem fw_int (p q r : Nat) : max (p : Int) (min (q : Int) (r : Int)) = ((max p (min q r) : Nat) : Int) := by omega
set_option maxRecDepth 100000 in
set_option maxHeartbeats 8000000 in
theorem strengths_any (F : Pf) (hF : F.Ok) (A1 : Option Addr) (c1 : Nat) (A2 : Option Addr) (c2 : Nat) (w : World) (h : PfR w w.heap.size F A1 c1 A2 c2) :
    Calls Try.prog 60 #[pfV F A1 c1 A2 c2] w (MatPost F.n (st F) w) := by
  obtain ⟨q1, q2, q3, q4, b1, o1, b2, o2, hc⟩ := h.cells hF
  obtain ⟨rfl, rfl, -, -⟩ := hc
  obtain ⟨w1, hw1, hs1, hbw1, z0, z1, fr, bw⟩ := pbox_at h
  have HOP := Lib.hid (fun y => options_any F hF _ _ _ _ _ (fr y))
  have HPA := Lib.hid (fun y => pairs_any F hF _ _ _ _ _ (fr y))
  have BW := Lib.hid bw
  have HF := Lib.hid hF
  have hn1 := hF.n1
  have hn6 := hF.n6
  obtain ⟨r0, hri, hr0, hr1, hr2⟩ := info_parts Try.infoFr
  obtain ⟨i0, hi, hz0, hz1, hz2⟩ := info_parts Try.infoI
  unfold pfV
  unfold pfV at HOP HPA
  clear hF h fr bw hbw1
  go_enter Try.func60, Try.ntmps60
  go_upto_region 1 with (fail)
  rw [← hw1]
  have HZ1 := Lib.hid hs1
  clear hw1 hs1
  have c0 : ∀ W, Beh w1 W → W.cell? ⟨w.heap.size, 0, none⟩ = some (.slice (some ⟨b1, o1, none⟩) F.L.length c1) := fun W h => z0 ⟨W, h⟩
  have c1' : ∀ W, Beh w1 W → W.cell? ⟨w.heap.size, 1, none⟩ = some (.slice (some ⟨b2, o2, none⟩) F.L.length c2) := fun W h => z1 ⟨W, h⟩
  have HOPW : Hid (∀ W, Beh w1 W → Calls Try.prog 62 #[.agg #[.slice (some ⟨b1, o1, none⟩) F.L.length c1, .slice (some ⟨b2, o2, none⟩) F.L.length c2]] W (RetB (.int .i64 (F.n : Int)) W)) := Lib.hid (fun W h => HOP.out ⟨W, h⟩)
  have HPAW : Hid (∀ W, Beh w1 W → Calls Try.prog 68 #[.agg #[.slice (some ⟨b1, o1, none⟩) F.L.length c1, .slice (some ⟨b2, o2, none⟩) F.L.length c2]] W (MatPost F.n (prs F) W)) := Lib.hid (fun W h => HPA.out ⟨W, h⟩)
  have hS0 : Beh w1 w1 := Below.refl _ _
  refine wp_region_held_drew (S := fun w' => Beh w1 w') (by kernel_rfl) hS0.draw (fun hHeld => ?_)
  refine wpAnyH_take (i := 0) (v := ?_) rfl (by kernel_rfl) (by kernel_rfl) (by kernel_rfl) (fun _ _ _ h => h) (Or.inl ⟨by rfl, ?_⟩) (by assumption) ?_
  rotate_left
  · intro W9 hSw
    have hq0 := c0 W9 hSw
    have hq1 := c1' W9 hSw
    try simp only [List.getElem_toArray, List.getElem_cons_zero]
    first | (go_simp; done) | (go_simp; with_reducible rfl)
  try simp only [Act.put, List.getElem_toArray, List.getElem_cons_zero, List.setIfInBounds_toArray, List.set_cons_zero, List.set_cons_succ]
  refine wpAnyH_take (i := 2) (v := ?_) rfl (by kernel_rfl) (by kernel_rfl) (by kernel_rfl) (fun _ _ _ h => h) (Or.inl ⟨by rfl, ?_⟩) (by assumption) ?_
  rotate_left
  · intro W9 hSw
    have hq0 := c0 W9 hSw
    have hq1 := c1' W9 hSw
    try simp only [List.getElem_toArray, List.getElem_cons_zero, List.getElem_cons_succ]
    first | (go_simp; done) | (go_simp; with_reducible rfl)
  try simp only [Act.put, List.getElem_toArray, List.getElem_cons_zero, List.getElem_cons_succ, List.setIfInBounds_toArray, List.set_cons_zero, List.set_cons_succ]
  refine wpAnyH_ready (rs := [1]) (by kernel_rfl) (by simp) ?_
  refine AllReadyH.cons rfl (fun K hK => ?_) AllReadyH.nil
  simp only [List.getElem_toArray, List.getElem_cons_zero, List.getElem_cons_succ]
  go_simp
  go_at_call 62
  refine Calls.mono (HOPW.out _ hHeld) ?_
  rintro e w2 ⟨rfl, hb2⟩
  have hy12 := Below.size (Beh.go hb2 hHeld)
  refine hK.out _ _ (Beh.go hb2 hHeld) (fun hHeld2 => ?_)
  clear hK K hHeld
  have hHeld := hHeld2
  clear hHeld2
  try simp only [Act.put, List.setIfInBounds_toArray, List.set_cons_zero, List.set_cons_succ]
  refine wpAnyH_ready (rs := [3]) (by kernel_rfl) (by simp) ?_
  refine AllReadyH.cons rfl (fun K hK => ?_) AllReadyH.nil
  simp only [List.getElem_toArray, List.getElem_cons_zero, List.getElem_cons_succ]
  go_simp
  go_at_call 68
  refine Calls.mono (HPAW.out _ hHeld) ?_
  rintro e w3 ⟨g, cap, R, C, rfl, hmat, hb3⟩
  skip
  refine hK.out _ _ (Beh.go hb3 hHeld) (fun hHeld2 => ?_)
  clear hK K hHeld
  have hHeld := hHeld2
  clear hHeld2
  try simp only [Act.put, List.setIfInBounds_toArray, List.set_cons_zero, List.set_cons_succ]
  refine wpAnyH_take (i := 4) (v := ?_) rfl (by kernel_rfl) (by kernel_rfl) (by kernel_rfl) (fun _ _ _ h => h) (Or.inl ⟨by rfl, ?_⟩) (by assumption) ?_
  rotate_left
  · intro w hSw
    simp only [List.getElem_toArray, List.getElem_cons_zero, List.getElem_cons_succ]
    first | (go_simp; done) | (go_simp; with_reducible rfl)
  simp only [Act.put, List.getElem_toArray, List.getElem_cons_zero, List.getElem_cons_succ, List.setIfInBounds_toArray, List.set_cons_zero, List.set_cons_succ]
  refine wpAnyH_take (i := 5) (v := ?_) rfl (by kernel_rfl) (by kernel_rfl) (by kernel_rfl) (fun _ _ _ h => h) (Or.inl ⟨by rfl, ?_⟩) (by assumption) ?_
  rotate_left
  · intro w hSw
    simp only [List.getElem_toArray, List.getElem_cons_zero, List.getElem_cons_succ]
    first | (go_simp; done) | (go_simp; with_reducible rfl)
  simp only [Act.put, List.getElem_toArray, List.getElem_cons_zero, List.getElem_cons_succ, List.setIfInBounds_toArray, List.set_cons_zero, List.set_cons_succ]
  refine wpAnyH_done (by kernel_rfl) ?_ _
  obtain ⟨y3, rfl⟩ : ∃ y : Aft w1, y.val = w3 := ⟨⟨w3, hHeld⟩, rfl⟩
  clear hS0 hHeld c0 c1' HOPW HPAW
  have HP3 := Lib.hid hmat
  have HB3 := Lib.hid (BW.out y3)
  have hz3 := y3.ok.size
  obtain ⟨w3, hw3⟩ : ∃ X, X = y3.val := ⟨_, rfl⟩
  rw [← hw3] at HP3 HB3 hz3 ⊢
  have hz13 : w.heap.size ≤ w3.heap.size := by have := HZ1.out; omega
  clear hmat hb2 hb3 hy12 HOP HPA z0 z1 hw3 y3
  have hown0 : (w3.alloc (.cells #[] 25)).ownsRow w3.heap.size 25 1 (.slice (some ⟨w3.heap.size, 0, none⟩) 0 0) 0 [] := by simpa using World.ownsRow_made w3 #[] 0 (Nat.le_refl _) (Nat.zero_le _) rfl
  have HT0 := Lib.hid (TreeW.start (base := w3.heap.size) kRow 25 hown0)
  have HB0 : Hid (Below w3.heap.size w3 (w3.alloc (.cells #[] 25))) := Lib.hid ((Below.refl _ _).alloc (Nat.le_refl _) _)
  clear hown0
  go_wp2
  go_loopw [5, 6, 7, 8, 18] (fun o _ _ _ ii wr => ∃ (i gt cap : Nat) (T : List VRow), i ≤ F.n ∧ T.length = i ∧ ii = .int .i64 (i : Int) ∧ o = .slice (some ⟨gt, 0, none⟩) i cap ∧ T.map (·.a) = (List.range i).map (fun i => barL (rowN (fw0 F) i F.n)) ∧ TreeW kRow 25 w3.heap.size wr gt cap T ∧ Below w3.heap.size w3 wr) (fun _ _ _ _ ii _ => F.n - (RowKit.intOf ii).toNat)
  case atStart => exact ⟨0, w3.heap.size, 0, [], Nat.zero_le _, rfl, rfl, rfl, rfl, HT0.out, HB0.out⟩
  case round =>
    obtain ⟨i, gt, ct, T, hi9, hTi, rfl, rfl, hmap, hT, hb⟩ := hrel
    have HMAP := Lib.hid hmap
    have HT := Lib.hid hT
    have HB := Lib.hid hb
    have HTI := Lib.hid hTi
    have hgw := hT.lt
    clear hmap hT hTi
    by_cases hlt : i < F.n
    · have hii : (i : Int) < (F.n : Int) := by omega
      have hi00 : (0 : Int) ≤ (i : Int) := by omega
      obtain ⟨w4, hmk, hrow4, hgs4, hb4⟩ := make_zeros (P := Try.prog) wr 25 2 i0 Try.underlying25 hi hz0 hz1 hz2 F.n (by omega)
      have HS0 : Hid (FwS F w3 w4 gt ct i 0 wr.heap.size T) := Lib.hid ⟨below_then hb hb.size hb4, HT.out.below hb4, HTI.out, HMAP.out, by rw [fill_zero]; exact hrow4, ⟨hb.size, hgs4⟩, ⟨by omega, fun z hz b hbz e => by have := (kRow.lt (HT.out.inn z hz) hbz).2; omega⟩⟩
      obtain ⟨g2, hg2⟩ : ∃ X, X = wr.heap.size := ⟨_, rfl⟩
      rw [← hg2] at hmk HS0
      clear hb hb4 hrow4 hgs4 HB HT hg2
      go_wp2
      go_loopw [8, 24] (fun _ kk wr => ∃ k : Nat, k ≤ F.n ∧ kk = .int .i64 (k : Int) ∧ FwS F w3 wr gt ct i k g2 T) (fun _ kk _ => F.n - (RowKit.intOf kk).toNat)
      case atStart => exact ⟨0, Nat.zero_le _, rfl, HS0.out⟩
      case round =>
        obtain ⟨k, hk, rfl, hs⟩ := hrel
        have HS := Lib.hid hs
        have HB := Lib.hid hs.bel
        clear hs HS0
        by_cases hltk : k < F.n
        · have m1 := fun y : Aft wr => ((HP3.out.below (below_then HB.out HB.out.size y.ok)).top i hlt).1
          have m2 := fun y : Aft wr => ((HP3.out.below (below_then HB.out HB.out.size y.ok)).top k hltk).1
          have m3 := fun y : Aft wr => (HP3.out.below (below_then HB.out HB.out.size y.ok)).get hlt hltk
          have m4 := fun y : Aft wr => (HP3.out.below (below_then HB.out HB.out.size y.ok)).get hltk hlt
          have hci := (HP3.out.top i hlt).2.1
          have hck := (HP3.out.top k hltk).2.1
          have hkk : (k : Int) < (F.n : Int) := by omega
          have hk0 : (0 : Int) ≤ (k : Int) := by omega
          have HFW : Hid (fw0 F i k = if prs F k i < prs F i k then prs F i k else 0) := Lib.hid rfl
          obtain ⟨x, hx⟩ : ∃ y : Aft wr, y.val = wr := ⟨⟨wr, Below.refl _ _⟩, rfl⟩
          rw [← hx]
          clear hx
          generalize prs F i k = p1 at *
          generalize prs F k i = p2 at *
          by_cases hp : p2 < p1
          · rw [if_pos hp] at HFW
            have hd1 : decide (p2 < p1) = true := decide_eq_true hp
            have hd2 : decide ((p2 : Int) < (p1 : Int)) = true := decide_eq_true (by omega)
            have hd3 : (p2 : Int) < (p1 : Int) := by omega
            go_wp2_with (fail)
            refine wp_region_at (by kernel_rfl) (by kernel_rfl) ?_
            repeat (go_big_quiet_step (fail))
            refine wpQuiet_nil ?_
            rintro _ ⟨y, rfl⟩
            have HSy := Lib.hid (HS.out.below y.ok)
            have f2 := HSy.out.row.free k (by rw [fill_len]; exact hltk)
            have x2 := HSy.out.row.cell k _ (List.getElem?_eq_getElem (by rw [fill_len]; exact hltk))
            have HSN := Lib.hid (HSy.out.set hltk)
            rw [HFW.out] at HSN
            generalize (nCells (rowN (fun _ y => if y < k then fw0 F i y else 0) i F.n))[k]'(by rw [fill_len]; exact hltk) = ov at *
            go_wp2
            go_roundw
            case rel => exact ⟨k + 1, by omega, by go_num, HSN.out⟩
            case measure => simp [RowKit.intOf]; omega
          · rw [if_neg hp] at HFW
            have hd1 : decide (p2 < p1) = false := decide_eq_false hp
            have hd2 : decide ((p2 : Int) < (p1 : Int)) = false := decide_eq_false (by omega)
            have hd3 : ¬ (p2 : Int) < (p1 : Int) := by omega
            go_wp2_with (fail)
            refine wp_region_at (by kernel_rfl) (by kernel_rfl) ?_
            repeat (go_big_quiet_step (fail))
            refine wpQuiet_nil ?_
            rintro _ ⟨y, rfl⟩
            have HSN := Lib.hid ((HS.out.below y.ok).skip HFW.out)
            go_wp2
            go_roundw
            case rel => exact ⟨k + 1, by omega, by go_num, HSN.out⟩
            case measure => simp [RowKit.intOf]; omega
        · have hge : ¬ (k : Int) < (F.n : Int) := by omega
          obtain rfl : k = F.n := by omega
          have hbA : Below wr.heap.size wr (wr.alloc (.cells #[.slice (some ⟨g2, 0, none⟩) F.n F.n] 25)) := (Below.refl _ _).alloc (Nat.le_refl _) _
          have HSA := Lib.hid (HS.out.below hbA)
          have HRL := Lib.hid HSA.out.tree.row
          rw [HTI.out] at HRL
          have HOX : Hid (OwnL intCells (barL (rowN (fw0 F) i F.n)) w3.heap.size (wr.alloc (.cells #[.slice (some ⟨g2, 0, none⟩) F.n F.n] 25)) (.slice (some ⟨g2, 0, none⟩) F.n F.n)) := Lib.hid ⟨_, F.n, by rw [barL_len, rowN_len], by rw [barL_len, rowN_len]; exact Nat.le_refl _, by unfold maxLen; omega, fun _ => ⟨g2, rfl, HSA.out.lo.1, HSA.out.lo.2, by
            have := HSA.out.row
            rw [fill_end] at this
            rw [cells_bar]
            exact this⟩⟩
          have hwwA : w3.heap.size ≤ (wr.alloc (.cells #[.slice (some ⟨g2, 0, none⟩) F.n F.n] 25)).heap.size := HSA.out.bel.size
          clear hbA hltk
          go_wp2_with (at_builtin; refine wpList_append_own_at _ rfl _ _ 24 rfl w3.heap.size 25 r0 (.slice none 0 0) 1 24 Try.underlying24 hri hr0 hr1 hr2 rfl (by decide) _ _ _ rfl HRL.out ⟨wr.heap.size, 0, none⟩ 1 1 (rCells ⟨barL (rowN (fw0 F) i F.n), .slice (some ⟨g2, 0, none⟩) F.n F.n⟩) rfl rfl (fun j u hj => new_at hj) (fun u hu => by simp [rCells] at hu; subst hu; rfl) ?c3 ?c4 hwwA ?_)
          case c3 => unfold maxLen; omega
          case c4 => omega
          intro v' w9 hown' hgrow hiff hor
          obtain ⟨g', cap', rfl, hdc', hcm'⟩ := own_some hown' (by simpa using hiff)
          have HP9 := Lib.hid (TreeW.push (x := ⟨barL (rowN (fw0 F) i F.n), .slice (some ⟨g2, 0, none⟩) F.n F.n⟩) HSA.out.tree hgrow (by rcases hor with h | h <;> injection h with h; exact .inl h; exact .inr (by simpa using h)) (by rw [HTI.out]; exact hown') (show kRow.inn w3.heap.size _ (⟨barL (rowN (fw0 F) i F.n), .slice (some ⟨g2, 0, none⟩) F.n F.n⟩ : VRow) from HOX.out) (fun b hb => by
            have e : g2 = b := by
              have := hb.2
              injection this
            subst e
            exact ⟨HSA.out.apart.1, fun z hz hzb => HSA.out.apart.2 z hz _ hzb rfl⟩))
          have HB9 := Lib.hid (HSA.out.bel.grown hgrow HSA.out.bel.size (fun j hj => (HRL.out.lt j hj).1))
          have HM9 : Hid ((T ++ [(⟨barL (rowN (fw0 F) i F.n), .slice (some ⟨g2, 0, none⟩) F.n F.n⟩ : VRow)]).map (·.a) = (List.range (i + 1)).map (fun i => barL (rowN (fw0 F) i F.n))) := Lib.hid (by
            rw [List.map_append, HMAP.out, List.range_succ, List.map_append]
            rfl)
          clear hown' hgrow hiff hor
          go_wp2
          go_roundw
          case rel => exact ⟨i + 1, g', cap', _, by omega, by rw [List.length_append, HTI.out]; rfl, by go_num, rfl, HM9.out, HP9.out, HB9.out⟩
          case measure => simp [RowKit.intOf]; omega
    · have hge : ¬ (i : Int) < (F.n : Int) := by omega
      obtain rfl : i = F.n := by omega
      obtain ⟨R2, C2, hmat⟩ := mat_tree HT.out HMAP.out hn1
      have HMAT := Lib.hid hmat
      obtain ⟨y0, hy0⟩ : ∃ y : Aft w3, y.val = wr := ⟨⟨wr, HB.out⟩, rfl⟩
      rw [← hy0] at HMAT ⊢
      clear hmat HT HMAP HTI hlt hb HB hgw hy0 HT0 HB0
      go_wp2
      go_loopw [9, 10, 11, 59] (fun _ _ _ bb W => ∃ (b : Nat) (M : Nat → Nat → Nat) (y : Aft w3), b ≤ F.n ∧ bb = .int .i64 (b : Int) ∧ MatR w3.heap.size y.val gt F.n R2 C2 M ∧ FwM F b 0 0 M ∧ W = y.val) (fun _ _ _ bb _ => F.n - (RowKit.intOf bb).toNat)
      case atStart => exact ⟨0, fw0 F, y0, Nat.zero_le _, rfl, HMAT.out, fun x y hx hy => by rw [if_neg (by omega)]; rfl, rfl⟩
      case round =>
        obtain ⟨b, M, y, hb9, rfl, hM, hfm, rfl⟩ := hrel
        have HM := Lib.hid hM
        have HFM := Lib.hid hfm
        clear hM hfm HMAT
        by_cases hltb : b < F.n
        · have hbi : (b : Int) < (F.n : Int) := by omega
          have hb0 : (0 : Int) ≤ (b : Int) := by omega
          go_wp2
          go_loopw [10, 11, 63] (fun _ _ ii W => ∃ (i : Nat) (M : Nat → Nat → Nat) (y : Aft w3), i ≤ F.n ∧ ii = .int .i64 (i : Int) ∧ MatR w3.heap.size y.val gt F.n R2 C2 M ∧ FwM F b i 0 M ∧ W = y.val) (fun _ _ ii _ => F.n - (RowKit.intOf ii).toNat)
          case atStart => exact ⟨0, M, y, Nat.zero_le _, rfl, HM.out, HFM.out, rfl⟩
          case round =>
            obtain ⟨i, M, y, hi9, rfl, hM, hfm, rfl⟩ := hrel
            clear HM HFM
            have HM := Lib.hid hM
            have HFM := Lib.hid hfm
            clear hM hfm
            by_cases hlti : i < F.n
            · have hii : (i : Int) < (F.n : Int) := by omega
              have hi00 : (0 : Int) ≤ (i : Int) := by omega
              go_wp2
              go_loopw [11, 67] (fun _ kk W => ∃ (k : Nat) (M : Nat → Nat → Nat) (y : Aft w3), k ≤ F.n ∧ kk = .int .i64 (k : Int) ∧ MatR w3.heap.size y.val gt F.n R2 C2 M ∧ FwM F b i k M ∧ W = y.val) (fun _ kk _ => F.n - (RowKit.intOf kk).toNat)
              case atStart => exact ⟨0, M, y, Nat.zero_le _, rfl, HM.out, HFM.out, rfl⟩
              case round =>
                obtain ⟨k, M, y, hk, rfl, hM, hfm, rfl⟩ := hrel
                clear HM HFM
                by_cases hltk : k < F.n
                · by_cases hik : i = k
                  · have hne : ((i : Int) != (k : Int)) = false := by simp [hik]
                    have HFN := Lib.hid (show FwM F b i (k + 1) M by subst hik; exact hfm.same)
                    have HMN := Lib.hid hM
                    clear hik hM hfm
                    go_wp2
                    go_roundw
                    case rel => exact ⟨k + 1, M, y, by omega, by go_num, HMN.out, HFN.out, rfl⟩
                    case measure => simp [RowKit.intOf]; omega
                  · have hne : ((i : Int) != (k : Int)) = true := by simp; omega
                    have HFN := Lib.hid (hfm.step hltb hlti hltk hik)
                    have bd : Below y.val.heap.size y.val y.val.drew := (Below.refl _ _).drew
                    have hMd := hM.below bd
                    have HMN := Lib.hid (hMd.set hlti hltk (max (M i k) (min (M i b) (M b k))))
                    have x1 := (hM.top i hlti).1
                    have x1d := (hMd.top i hlti).1
                    have x2 := (hM.top b hltb).1
                    have x2d := (hMd.top b hltb).1
                    have x3 := hM.get hlti hltk
                    have x3d := hMd.get hlti hltk
                    have x4 := hM.get hlti hltb
                    have x4d := hMd.get hlti hltb
                    have x5 := hM.get hltb hltk
                    have x5d := hMd.get hltb hltk
                    have f3d := hMd.free hlti hltk
                    have hci := (hM.top i hlti).2.1
                    have hcb := (hM.top b hltb).2.1
                    have hRa := (hMd.lt i hlti).1
                    have HOK : Hid (∀ v, Below w3.heap.size w3 (y.val.drew.setCell ⟨R2 i, k, none⟩ v)) := Lib.hid (fun v => (below_then y.ok y.ok.size bd).setCell hRa v)
                    have hkk : (k : Int) < (F.n : Int) := by omega
                    have hk0 : (0 : Int) ≤ (k : Int) := by omega
                    have hmx := fw_int (M i k) (M i b) (M b k)
                    generalize max (M i k) (min (M i b) (M b k)) = v at *
                    generalize M i k = m1 at *
                    generalize M i b = m2 at *
                    generalize M b k = m3 at *
                    clear hM hMd hfm bd hRa hik
                    go_upto_region 25 with (fail)
                    go_still_tail 29, (by kernel_rfl)
                    repeat still_step
                    change wpList _ _ _ _ _ y.val.drew
                    clear x1 x2 x3 x4 x5
                    generalize y.val.drew = W2 at *
                    go_wp2
                    go_roundw
                    case rel => exact ⟨k + 1, _, ⟨_, HOK.out _⟩, by omega, by go_num, HMN.out, HFN.out, rfl⟩
                    case measure => simp [RowKit.intOf]; omega
                · have hge : ¬ (k : Int) < (F.n : Int) := by omega
                  obtain rfl : k = F.n := by omega
                  have HFN := Lib.hid hfm.row
                  have HMN := Lib.hid hM
                  clear hM hfm hltk
                  go_wp2
                  go_roundw
                  case rel => exact ⟨i + 1, M, y, by omega, by go_num, HMN.out, HFN.out, rfl⟩
                  case measure => simp [RowKit.intOf]; omega
            · have hge : ¬ (i : Int) < (F.n : Int) := by omega
              obtain rfl : i = F.n := by omega
              have HFN := Lib.hid HFM.out.next
              clear hlti
              go_wp2
              go_roundw
              case rel => exact ⟨b + 1, M, y, by omega, by go_num, HM.out, HFN.out, rfl⟩
              case measure => simp [RowKit.intOf]; omega
        · have hge : ¬ (b : Int) < (F.n : Int) := by omega
          obtain rfl : b = F.n := by omega
          have HE := Lib.hid ((HM.out.same (M' := st F) (fun x y hx hy => by rw [HFM.out x y hx hy, if_neg (by omega)]; rfl)).less hz13)
          have HBE := Lib.hid (below_then HB3.out hz13 y.ok)
          clear HM HFM hltb
          go_wp2
          go_ret
          exact ⟨gt, ct, R2, C2, rfl, HE.out, HBE.out⟩
end Go.Proofs.Ytlbnebmdolnagaa

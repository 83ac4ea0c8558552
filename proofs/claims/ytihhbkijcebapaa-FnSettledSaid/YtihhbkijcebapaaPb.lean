/- Comparing lists of numbers, walked; where a number stands. -/
import Derived.Test.YtihhbkijcebapaaPa
import Derived.Test.YtihhbkijcebapaaYC
namespace Go.Proofs.Ytihhbkijcebapaa
open Go.RowKit Go.Lib

theorem VoisOk.nd {V : List Voi} (h : VoisOk V) (x : Nat) : ((grV V).tr x).Nodup := by
  cases hv : V[x]? with
  | none =>
    have : (grV V).tr x = [] := by unfold grV; simp only [hv]
    rw [this]
    exact List.nodup_nil
  | some v =>
    rw [(grV_at hv).2]
    have ht := h.tr x v hv
    unfold List.Nodup
    rw [List.pairwise_iff_getElem]
    intro i j hi hj hij e
    rw [List.length_map] at hi hj
    rw [List.getElem_map, List.getElem_map] at e
    have h1 := trust_mem ht (List.getElem_mem hi)
    have h2 := trust_mem ht (List.getElem_mem hj)
    have h3 := (trust_at ht (List.getElem?_eq_getElem hj)).2.2
    have e2 : v.tr[i] = v.tr[j] := by omega
    have h4 : v.tr[j] ∈ v.tr.take j := by
      rw [← e2]
      exact List.mem_take_iff_getElem.2 ⟨i, by omega, rfl⟩
    rw [List.contains_iff_mem.2 h4] at h3
    cases h3
theorem ixT_of {V : List Voi} (hok : VoisOk V) {x t : Nat} {v : Voi} {n : Int} (hx : V[x]? = some v) (h0 : 0 ≤ n) (h1 : v.tr[n.toNat]? = some (t : Int)) : n = (ixT (grV V) x t : Int) := by
  have h2 := (hok.at_tr hx h1).1
  rw [show ((t : Int)).toNat = t from rfl] at h2
  rw [ix_nd hok.nd h2]
  omega
set_option maxHeartbeats 1000000 in
theorem nan64_any (a : Int) (w : World) : Calls Try.prog 36 #[.int .i64 a] w (RetQ (.bool false) w) := by
  have e : (a != a) = false := by simp
  go_enter Try.func36, Try.ntmps36
  go_wp2
  go_ret
  exact ⟨rfl, 0, rfl⟩
set_option maxHeartbeats 1000000 in
theorem cmp1_any (a b : Int) (w : World) : Calls Try.prog 34 #[.int .i64 a, .int .i64 b] w (RetB (.int .i64 (if a < b then -1 else if b < a then 1 else 0)) w) := by
  generalize hr : (if a < b then (-1 : Int) else if b < a then 1 else 0) = r
  have HRR := Lib.hid hr
  clear hr
  go_enter Try.func34, Try.ntmps34
  go_wp2_with (fail)
  refine (nan64_any a w).mono ?_
  rintro e _ ⟨rfl, m, rfl⟩
  go_wp2_with (fail)
  refine (nan64_any b _).mono ?_
  rintro e _ ⟨rfl, m2, rfl⟩
  have hb : Below w.heap.size w ((w.drewN m).drewN m2) := below_drewN (below_drewN (Below.refl _ _) m) m2
  obtain ⟨W, hW⟩ : ∃ X, X = (w.drewN m).drewN m2 := ⟨_, rfl⟩
  rw [← hW] at hb ⊢
  clear hW
  by_cases h1 : a < b
  · have h1d : decide (a < b) = true := decide_eq_true h1
    have hr := HRR.out
    rw [if_pos h1] at hr
    subst hr
    clear HRR
    go_wp2
    go_ret
    exact ⟨rfl, hb⟩
  · have h1d : decide (a < b) = false := decide_eq_false h1
    by_cases h2 : b < a
    · have h2d : decide (b < a) = true := decide_eq_true h2
      have hr := HRR.out
      rw [if_neg h1, if_pos h2] at hr
      subst hr
      clear HRR
      go_wp2
      go_ret
      exact ⟨rfl, hb⟩
    · have h2d : decide (b < a) = false := decide_eq_false h2
      have hr := HRR.out
      rw [if_neg h1, if_neg h2] at hr
      subst hr
      clear HRR
      go_wp2
      go_ret
      exact ⟨rfl, hb⟩
theorem cmpN_drop {p q : List Nat} {k x y : Nat} (hp : p[k]? = some x) (hq : q[k]? = some y) : cmpN (p.drop k) (q.drop k) = if x < y then -1 else if y < x then 1 else cmpN (p.drop (k + 1)) (q.drop (k + 1)) := by
  obtain ⟨h1, e1⟩ := List.getElem?_eq_some_iff.1 hp
  obtain ⟨h2, e2⟩ := List.getElem?_eq_some_iff.1 hq
  rw [List.drop_eq_getElem_cons h1, List.drop_eq_getElem_cons h2, e1, e2, cmpN]
set_option maxRecDepth 100000 in
set_option maxHeartbeats 2000000 in
theorem cmp64_any (p q : List Nat) (v1 v2 : Value) (w : World) (h1 : Ints w w.heap.size v1 (barL p)) (h2 : Ints w w.heap.size v2 (barL q)) : Calls Try.prog 21 #[v1, v2] w (RetB (.int .i64 (cmpN p q)) w) := by
  obtain ⟨A1, c1, rfl, _, m1⟩ := h1.sl
  obtain ⟨A2, c2, rfl, _, m2⟩ := h2.sl
  unfold maxLen at m1 m2
  have hp : p.length ≤ 9223372036854775807 := by
    obtain ⟨_, _, e, g1, g2, _⟩ := h1
    unfold maxLen at g2
    rw [barL_len] at g1
    injection e with _ _ e3
    omega
  have hq : q.length ≤ 9223372036854775807 := by
    obtain ⟨_, _, e, g1, g2, _⟩ := h2
    unfold maxLen at g2
    rw [barL_len] at g1
    injection e with _ _ e3
    omega
  have H1 := Lib.hid (fun y : Aft w => SlR.on h1 (Pl.stays _) y.ok y.ok.size)
  have H2 := Lib.hid (fun y : Aft w => SlR.on h2 (Pl.stays _) y.ok y.ok.size)
  rw [barL_len] at H1 H2 ⊢
  rw [barL_len]
  clear h1 h2
  obtain ⟨r, hr⟩ : ∃ r, cmpN p q = r := ⟨_, rfl⟩
  rw [hr]
  refine calls_aft fun x0 => ?_
  go_enter Try.func21, Try.ntmps21
  go_wp2
  go_loopw [4, 5, 6, 7, 8, 11] (fun _ _ _ _ _ i wr => ∃ (k : Nat) (x : Aft w), k ≤ p.length ∧ k ≤ q.length ∧ i = .int .i64 (k : Int) ∧ r = cmpN (p.drop k) (q.drop k) ∧ wr = x.val) (fun _ _ _ _ _ i _ => p.length - (RowKit.intOf i).toNat)
  case atStart => exact ⟨0, x0, Nat.zero_le _, Nat.zero_le _, rfl, hr.symm, rfl⟩
  case round =>
    obtain ⟨k, x, hk, hk2, rfl, heq, rfl⟩ := hrel
    by_cases hlt : k < p.length
    · have hpk : p[k]? = some p[k] := List.getElem?_eq_getElem hlt
      obtain ⟨b, o, rfl, hb, e0⟩ := ints_get (H1.out x) (barL_get hpk)
      by_cases hl2 : k < q.length
      · have hqk : q[k]? = some q[k] := List.getElem?_eq_getElem hl2
        obtain ⟨b2, o2, rfl, hb2, e1⟩ := ints_get (H2.out x) (barL_get hqk)
        have hge : ¬ ((q.length : Int) ≤ (k : Int)) := by omega
        have hged : decide ((q.length : Int) ≤ (k : Int)) = false := decide_eq_false hge
        rw [cmpN_drop hpk hqk] at heq
        clear hpk hqk
        generalize p[k] = a at *
        generalize q[k] = b' at *
        have HC := Lib.hid (cmp1_any (a : Int) (b' : Int) x.val)
        by_cases h1 : a < b'
        · rw [if_pos h1] at heq
          rw [if_pos (by omega : (a : Int) < (b' : Int))] at HC
          subst heq
          go_wp2_with (fail)
          refine HC.out.mono ?_
          rintro e w2 ⟨rfl, hb⟩
          have hbe := x.ok.trans (hb.mono x.ok.size)
          go_wp2
          go_ret
          exact ⟨rfl, hbe⟩
        · rw [if_neg h1] at heq
          rw [if_neg (by omega : ¬ (a : Int) < (b' : Int))] at HC
          by_cases h3 : b' < a
          · rw [if_pos h3] at heq
            rw [if_pos (by omega : (b' : Int) < (a : Int))] at HC
            subst heq
            go_wp2_with (fail)
            refine HC.out.mono ?_
            rintro e w2 ⟨rfl, hb⟩
            have hbe := x.ok.trans (hb.mono x.ok.size)
            go_wp2
            go_ret
            exact ⟨rfl, hbe⟩
          · rw [if_neg h3] at heq
            rw [if_neg (by omega : ¬ (b' : Int) < (a : Int))] at HC
            have HEQ := Lib.hid heq
            clear heq
            go_wp2_with (fail)
            refine HC.out.mono ?_
            rintro e w2 ⟨rfl, hb⟩
            obtain ⟨y, rfl⟩ : ∃ y : Aft w, y.val = w2 := ⟨⟨w2, x.ok.trans (hb.mono x.ok.size)⟩, rfl⟩
            go_wp2
            go_roundw
            case rel => exact ⟨k + 1, y, by omega, by omega, by go_num, HEQ.out, rfl⟩
            case measure => simp [RowKit.intOf]; omega
      · have hge : (q.length : Int) ≤ (k : Int) := by omega
        have hged : decide ((q.length : Int) ≤ (k : Int)) = true := decide_eq_true hge
        have hR : r = 1 := by rw [heq, List.drop_eq_nil_of_le (by omega : q.length ≤ k), List.drop_eq_getElem_cons hlt, cmpN]
        clear heq
        subst hR
        clear hpk
        generalize p[k] = a at *
        go_wp2
        go_ret
        exact ⟨rfl, x.ok⟩
    · have hge : ¬ ((k : Int) < (p.length : Int)) := by omega
      by_cases hl2 : k < q.length
      · have hlt2 : (p.length : Int) < (q.length : Int) := by omega
        have hltd : decide ((p.length : Int) < (q.length : Int)) = true := decide_eq_true hlt2
        have hR : r = -1 := by rw [heq, List.drop_eq_nil_of_le (by omega : p.length ≤ k), List.drop_eq_getElem_cons hl2, cmpN]
        clear heq
        subst hR
        go_wp2
        go_ret
        exact ⟨rfl, x.ok⟩
      · have hlt2 : ¬ ((p.length : Int) < (q.length : Int)) := by omega
        have hltd : decide ((p.length : Int) < (q.length : Int)) = false := decide_eq_false hlt2
        have hR : r = 0 := by rw [heq, List.drop_eq_nil_of_le (by omega : p.length ≤ k), List.drop_eq_nil_of_le (by omega : q.length ≤ k), cmpN]
        clear heq
        subst hR
        go_wp2
        go_ret
        exact ⟨rfl, x.ok⟩
end Go.Proofs.Ytihhbkijcebapaa

/- FnSettled, walked. -/
import Derived.Test.YtihhbkijcebapaaPg
import Derived.Test.YtihhbkijcebapaaQD
namespace Go.Proofs.Ytihhbkijcebapaa
open Go.RowKit Go.Lib

set_option maxHeartbeats 1000000 in
/-- The number that is chosen is the same at every later world. -/
theorem at_aft (A : Option Addr) (n c i : Nat) (m : Int) (w : World) (h : BytesAt w w.heap.size A n) (hi : i ≤ 1000) (hm : 1 < m) (hm2 : m ≤ 65536) :
    ∃ x : Nat, (x : Int) < m ∧ ∀ y : Aft w, Calls Try.prog 6 #[.slice A n c, .int .i64 (i : Int), .int .i64 m] y.val (RetQ (.int .i64 (x : Int)) y.val) := by
  by_cases h2 : i < n
  · have h2' : (i : Int) < (n : Int) := by omega
    obtain ⟨b, off, rfl, hlt, hc⟩ := h.2 (by omega)
    obtain ⟨x, hx, x0⟩ := hc i h2
    have hn := h.1
    unfold maxLen at hn
    clear hc h
    obtain ⟨r, hr⟩ : ∃ r : Nat, (r : Int) = (x : Int) % m := ⟨((x : Int) % m).toNat, Int.toNat_of_nonneg (Int.emod_nonneg _ (by omega))⟩
    refine ⟨r, by rw [hr]; exact Int.emod_lt_of_pos _ (by omega), fun y => ?_⟩
    rw [hr]
    have x0 := y.cell x0
    generalize y.val = W at *
    go_enter Try.func6, Try.ntmps6
    go_wp2
    go_ret
    exact ⟨rfl, 0, rfl⟩
  · have h2' : ¬ (i : Int) < (n : Int) := by omega
    clear h
    obtain ⟨r, hr⟩ : ∃ r : Nat, (r : Int) = ((i : Int) * 37 + 11) % m := ⟨(((i : Int) * 37 + 11) % m).toNat, Int.toNat_of_nonneg (Int.emod_nonneg _ (by omega))⟩
    refine ⟨r, by rw [hr]; exact Int.emod_lt_of_pos _ (by omega), fun y => ?_⟩
    rw [hr]
    go_enter Try.func6, Try.ntmps6
    go_wp2
    go_ret
    exact ⟨rfl, 0, rfl⟩
theorem pth_of {V : List Voi} (hok : VoisOk V) {m : Nat} (hm : m < V.length) {q : List Nat} (h : q ∈ exts (grV V) V.length [] m) : ∃ r, q = m :: r ∧ PthOk V m r := by
  obtain ⟨r, e, h1, h2⟩ := (exts_iff hok.gr V.length [] m q (by simp [grV]) (by simp) (fun y hy => by
    have : y = m := by simpa using hy
    rw [this]; exact hm)).1 h
  refine ⟨r, e, h1, h2, fun y hy => ?_⟩
  have key : ∀ {x : Nat} {s : List Nat}, Stp (grV V) x s → x < V.length → ∀ y ∈ x :: s, y < V.length := by
    intro x s hs
    induction hs with
    | stop x _ => intro hx y hy; have : y = x := by simpa using hy
                  rw [this]; exact hx
    | step x t s _ ht _ ih =>
      intro hx y hy
      rcases List.mem_cons.1 hy with rfl | hy
      · exact hx
      · exact ih (hok.gr.lt x hx t ht) y hy
  exact key h1 hm y hy
theorem best_in {V : List Voi} (hok : VoisOk V) {m : Nat} (hm : m < V.length) {rule : Int} {r : List Nat} (h : Fst (grV V) (PN (grV V) rule) [] m r) : m :: r ∈ exts (grV V) V.length [] m :=
  (exts_iff hok.gr V.length [] m _ (by simp [grV]) (by simp) (fun y hy => by
    have : y = m := by simpa using hy
    rw [this]; exact hm)).2 ⟨r, rfl, h.stp, fst_nd hok.gr hok.nd h⟩
theorem none_in {V : List Voi} (hok : VoisOk V) {m : Nat} (hm : m < V.length) (h : ¬ Reach (grV V) [] m) : exts (grV V) V.length [] m = [] := by
  cases hq : exts (grV V) V.length [] m with
  | nil => rfl
  | cons q Q =>
    obtain ⟨r, _, h1⟩ := pth_of hok hm (q := q) (by rw [hq]; simp)
    exact absurd (stp_reach h1.stp (fun y _ => by simp)) h
theorem in_take {Q : List (List Nat)} {p q : List Nat} {k : Nat} (h : Q[k]? = some q) : p ∈ Q.take (k + 1) ↔ (p ∈ Q.take k ∨ p = q) := by
  obtain ⟨h1, h2⟩ := List.getElem?_eq_some_iff.1 h
  rw [List.take_succ_eq_append_getElem h1, h2]
  simp
theorem bar_inj {p q : List Nat} : barL p = barL q ↔ p = q := ⟨fun h => by
  unfold barL at h
  exact List.map_inj_right (fun a b e => Int.ofNat.inj e) |>.1 h, fun h => by rw [h]⟩
set_option maxRecDepth 100000 in
set_option maxHeartbeats 8000000 in
theorem lawSettled_any (A1 : Option Addr) (n1 c1 : Nat) (A2 : Option Addr) (n2 c2 : Nat) (w : World) (hA1 : BytesAt w w.heap.size A1 n1) (hA2 : BytesAt w w.heap.size A2 n2) :
    Calls Try.prog 3 #[.slice A1 n1 c1, .slice A2 n2 c2] w (RetB (.bool true) w) := by
  by_cases hl : n1 ≤ 1048576 ∧ n2 ≤ 1048576
  · have HL := Lib.hid (long_no A1 n1 c1 A2 n2 c2 w hl.1 hl.2)
    have HS := Lib.hid (fun m => few_draw A1 n1 c1 (w.drewN m) hA1)
    have HA2 := Lib.hid hA2
    obtain ⟨x1, hx1, at1⟩ := at_aft A2 n2 c2 1 3 w hA2 (by omega) (by omega) (by omega)
    have AT1 := Lib.hid at1
    clear hl hA1 hA2 at1
    go_enter Try.func3, Try.ntmps3
    go_wp2_with (fail)
    refine (HL.out).mono ?_
    rintro e w1 ⟨rfl, m1, rfl⟩
    go_wp2_with (fail)
    refine (HS.out m1).mono ?_
    rintro e w2 ⟨A, c, L, rfl, hT, hok, hl2, hl6, hb⟩
    have HB2 : Hid (Below w.heap.size w w2) := Lib.hid ((below_drewN (Below.refl w.heap.size w) m1).trans hb)
    have HV : Hid (∀ W, Below w2.heap.size w2 W → Vois W W.heap.size (.slice A L.length c) (L.map (·.a))) := Lib.hid (fun W hW => hT.vois.on hW hW.size)
    have hlen : L.length = (L.map (·.a)).length := by rw [List.length_map]
    rw [hlen] at HV hl2 hl6 ⊢
    generalize L.map (·.a) = V at *
    obtain ⟨m, hm', at0⟩ := at_aft A2 n2 c2 0 (V.length : Int) w HA2.out (by omega) (by omega) (by omega)
    have hm : m < V.length := by omega
    have AT0 := Lib.hid at0
    have HAF : Hid (∀ W, Below w2.heap.size w2 W → ∃ y : Aft w, y.val = W) := Lib.hid (fun W hW => ⟨⟨W, HB2.out.trans (hW.mono HB2.out.size)⟩, rfl⟩)
    have hrule : (x1 : Int) = 0 ∨ (x1 : Int) = 1 ∨ (x1 : Int) = 2 := by omega
    have HOK := Lib.hid hok
    have HPS : Hid (∀ W, Below w2.heap.size w2 W → Calls Try.prog 7 #[.slice A V.length c, .int .i64 (m : Int)] W (PathsPost (exts (grV V) V.length [] m) W)) := Lib.hid (fun W hW => paths_any V hok hl6 m hm _ W (HV.out W hW))
    have HPO : Hid (∀ W, Below w2.heap.size w2 W → Calls Try.prog 8 #[.slice A V.length c, .int .i64 (x1 : Int), .int .i64 (m : Int)] W (PathPost V (x1 : Int) m W)) := Lib.hid (fun W hW => path_any V hok (x1 : Int) (by omega) (by omega) m hm _ W (HV.out W hW))
    unfold PathsPost at HPS
    unfold PathPost at HPO
    clear hT hb hlen hok at0 HA2
    obtain ⟨y2, hy2⟩ := HAF.out w2 (Below.refl _ _)
    go_wp2_with (fail)
    rw [← hy2]
    refine (AT0.out y2).mono ?_
    rintro e _ ⟨rfl, q1, rfl⟩
    have b3 : Below w2.heap.size w2 (w2.drewN q1) := below_drewN (Below.refl _ _) q1
    rw [hy2]
    obtain ⟨w3, hw3⟩ : ∃ X, X = w2.drewN q1 := ⟨_, rfl⟩
    rw [← hw3] at b3 ⊢
    have HB3 := Lib.hid b3
    clear hw3 b3 hy2
    obtain ⟨y3, hy3⟩ := HAF.out w3 HB3.out
    go_wp2_with (fail)
    rw [← hy3]
    refine (AT1.out y3).mono ?_
    rintro e _ ⟨rfl, q2, rfl⟩
    have b4 : Below w3.heap.size w3 (w3.drewN q2) := below_drewN (Below.refl _ _) q2
    rw [hy3]
    obtain ⟨w4, hw4⟩ : ∃ X, X = w3.drewN q2 := ⟨_, rfl⟩
    rw [← hw4] at b4 ⊢
    have HB4 := Lib.hid (HB3.out.trans (b4.mono HB3.out.size))
    clear hw4 b4 hy3
    go_wp2_with (fail)
    refine (HPS.out w4 HB4.out).mono ?_
    rintro e w5 ⟨g, cap, L2, rfl, hmp, hT5, b5⟩
    have HB5 := Lib.hid (HB4.out.trans (b5.mono HB4.out.size))
    have hR5 : RowsR w5 w5.heap.size (.slice (some ⟨g, 0, none⟩) L2.length cap) (L2.map (·.a)) := hT5.tree.rows
    have hl25 : L2.length = (exts (grV V) V.length [] m).length := by
      have := congrArg List.length hmp
      rw [List.length_map, List.length_map] at this
      exact this
    have hcm : L2.length ≤ 9223372036854775807 := by
      obtain ⟨_, _, e, h1, h2⟩ := own_len hT5.row
      unfold maxLen at h2
      omega
    rw [hmp, hl25] at hR5
    rw [hl25] at hcm ⊢
    have HR5 := Lib.hid hR5
    obtain ⟨Q, hQ⟩ : ∃ Q, Q = exts (grV V) V.length [] m := ⟨_, rfl⟩
    have HQ := Lib.hid hQ
    rw [← hQ] at HR5 hcm ⊢
    clear hmp hT5 hR5 hl25 hQ b5
    go_wp2_with (fail)
    refine (HPO.out w5 HB5.out).mono ?_
    rintro e w6 (⟨rfl, hno, b6⟩ | ⟨r, gp, cp, rfl, hf, hI6, b6⟩)
    · have HB6 := Lib.hid (HB5.out.trans (b6.mono HB5.out.size))
      have hQ0 : Q = [] := by rw [HQ.out]; exact none_in HOK.out hm hno
      subst hQ0
      have HRN := Lib.hid (ranksOf_nil V HOK.out _ w6 (HV.out w6 HB6.out))
      clear hno b6 HQ
      go_wp2
      go_loopw [12, 13, 14, 15] (fun f i _ _ wr => f = .bool true ∧ i = .int .i64 0 ∧ wr = w6) (fun _ _ _ _ _ => 0)
      case atStart => exact ⟨rfl, rfl, rfl⟩
      case round =>
        obtain ⟨rfl, rfl, rfl⟩ := hrel
        go_wp2_with (fail)
        refine HRN.out.mono ?_
        rintro e w7 ⟨rfl, b7⟩
        have hbe := HB2.out.trans ((HB6.out.trans (b7.mono HB6.out.size)).mono HB2.out.size)
        go_wp2
        go_ret
        exact ⟨rfl, hbe⟩
    · have HB6 := Lib.hid (HB5.out.trans (b6.mono HB5.out.size))
      have HIN : Hid (m :: r ∈ Q) := Lib.hid (by rw [HQ.out]; exact best_in HOK.out hm hf)
      have HQ0 : 0 < Q.length := List.length_pos_iff.2 (fun e => by have := HIN.out; rw [e] at this; cases this)
      have hQi : (0 : Int) < (Q.length : Int) := by omega
      have hQd : decide ((0 : Int) < (Q.length : Int)) = true := decide_eq_true hQi
      have HF := Lib.hid hf
      obtain ⟨rp, hrp, HPP⟩ := pth_of HOK.out hm (q := m :: r) (by rw [← HQ.out]; exact HIN.out)
      injection hrp with _ hrp
      subst hrp
      have hr12 : r.length ≤ 12 := by
        have := nodup_le V.length _ HPP.nd HPP.lt
        have := HOK.out.n12
        rw [List.length_cons] at *
        omega
      have HP := Lib.hid HPP
      have HR6 := Lib.hid (fun (W : World) (hW : Below w6.heap.size w6 W) => HR5.out.on (b6.trans (hW.mono b6.size)) (b6.trans (hW.mono b6.size)).size)
      have HI6 := Lib.hid (fun (W : World) (hW : Below w6.heap.size w6 W) => (SlR.on hI6 (Pl.stays _) hW hW.size : Ints W W.heap.size _ _))
      have HV6 := Lib.hid (fun (W : World) (hW : Below w6.heap.size w6 W) => HV.out W (HB6.out.trans (hW.mono HB6.out.size)))
      clear hf hI6 b6 HPP
      go_wp2
      go_loopw [12, 13, 14, 15] (fun f i _ _ wr => ∃ (k : Nat) (b : Bool), k ≤ Q.length ∧ i = .int .i64 (k : Int) ∧ f = .bool b ∧ (b = true ↔ m :: r ∈ Q.take k) ∧ Below w6.heap.size w6 wr) (fun _ i _ _ _ => Q.length - (RowKit.intOf i).toNat)
      case atStart => exact ⟨0, false, Nat.zero_le _, rfl, rfl, by simp, Below.refl _ _⟩
      case round =>
        obtain ⟨k, b, hk, rfl, rfl, hbk, hbr⟩ := hrel
        have HBK := Lib.hid hbk
        have HBR := Lib.hid hbr
        clear hbk hbr
        by_cases hlt : k < Q.length
        · have hget : Q[k]? = some Q[k] := List.getElem?_eq_getElem hlt
          obtain ⟨r2, hq2, hp2⟩ := pth_of HOK.out hm (q := Q[k]) (by rw [← HQ.out]; exact List.getElem_mem hlt)
          have HTK := Lib.hid (fun p => in_take (p := p) hget)
          obtain ⟨A5, c5, e, hc5, hm5, hcell⟩ := rows_at (HR6.out wr HBR.out)
          obtain ⟨b5, o5, hA5, hb5, hcell⟩ := hcell (by rw [List.length_map]; omega)
          injection e with e1 e2 e3
          subst e1
          clear e2 e3 hc5 hm5
          injection hA5 with e4
          injection e4 with e4 e5 e6
          subst e4
          subst e5
          obtain ⟨A7, c7, x0, _, i7⟩ := hcell k (barL Q[k]) (by rw [List.getElem?_map, hget]; rfl)
          rw [barL_len] at x0 i7
          rw [Nat.zero_add] at x0
          rw [hq2] at x0 i7 HTK
          have HI7 := Lib.hid (fun (y : Aft wr) => (SlR.on i7 (Pl.stays _) y.ok y.ok.size : Ints y.val y.val.heap.size _ _))
          have HCMP := Lib.hid (compare_any V HOK.out (x1 : Int) hrule m r r2 HP.out hp2 _ _ _ wr (HV6.out wr HBR.out) (HI6.out wr HBR.out) i7)
          have hlaw := best_law HOK.out.gr HOK.out.nd hm HF.out hp2.stp hp2.nd
          have hx : ∃ (cc : Int) (e0 : Bool), cmpP (grV V) (x1 : Int) m r r2 = cc ∧ (cc == 0) = e0 ∧ ¬ (0 < cc) ∧ (m :: r = m :: r2 ↔ e0 = true) := by
            rcases hlaw with ⟨e, h⟩ | ⟨e, h⟩
            · exact ⟨0, true, h, rfl, by omega, by simp [e]⟩
            · exact ⟨-1, false, h, rfl, by omega, by simp [e]⟩
          obtain ⟨cc, e0, hcc, he0, hng, hee⟩ := hx
          have hngd : decide ((0 : Int) < cc) = false := decide_eq_false hng
          have HEE := Lib.hid hee
          have HNM := Lib.hid (fun (y : Aft wr) => sameNums_any _ _ y.val _ _ (HI6.out y.val (HBR.out.trans (y.ok.mono HBR.out.size))) (HI7.out y))
          have HNM2 : Hid (∀ y : Aft wr, Calls Try.prog 10 #[.slice (some ⟨gp, 0, none⟩) (m :: r).length cp, .slice A7 (m :: r2).length c7] y.val (RetB (.bool e0) y.val)) := Lib.hid (fun y => (HNM.out y).mono (fun e w' ⟨b, he, hb, hw⟩ => by
            have : b = e0 := Bool.eq_iff_iff.2 (by rw [hb, bar_inj, hee])
            subst this
            exact ⟨he, hw⟩))
          have HIS : Hid (∀ y : Aft wr, Calls Try.prog 11 #[.slice A V.length c, .slice A7 (m :: r2).length c7] y.val (RetB (.bool true) y.val)) := Lib.hid (fun y => isPath_any V HOK.out m r2 hp2 _ _ y.val (HV6.out y.val (HBR.out.trans (y.ok.mono HBR.out.size))) (HI7.out y))
          have z0 := fun y : Aft wr => y.cell x0
          rw [hcc] at HCMP
          have hkQ : (k : Int) < (Q.length : Int) := by omega
          have hk0 : (0 : Int) ≤ (k : Int) := by omega
          clear hget hq2 hp2 hcell i7 hlaw hcc hee HNM hng HI7
          go_wp2_with (fail)
          refine (HCMP.out).mono ?_
          rintro e w8 ⟨rfl, b8⟩
          obtain ⟨y8, rfl⟩ : ∃ y : Aft wr, y.val = w8 := ⟨⟨w8, b8⟩, rfl⟩
          clear b8
          go_wp2_with (fail)
          refine (aft_b (HNM2.out y8)).mono ?_
          rintro e _ ⟨rfl, y10, rfl⟩
          go_wp2_with (fail)
          refine (aft_b (HIS.out y10)).mono ?_
          rintro e _ ⟨rfl, y9, rfl⟩
          have b9 := HBR.out.trans (y9.ok.mono HBR.out.size)
          clear z0
          cases b
          · go_wp2
            go_roundw
            case rel => exact ⟨k + 1, e0, by omega, by go_num, rfl, by rw [HTK.out, ← HEE.out]; exact ⟨.inr, fun h => h.elim (fun h => absurd (HBK.out.2 h) (by simp)) id⟩, b9⟩
            case measure => simp [RowKit.intOf]; omega
          · go_wp2
            go_roundw
            case rel => exact ⟨k + 1, true, by omega, by go_num, rfl, by rw [HTK.out]; exact ⟨fun _ => .inl (HBK.out.1 trivial), fun _ => rfl⟩, b9⟩
            case measure => simp [RowKit.intOf]; omega
        · have hge : ¬ (k : Int) < (Q.length : Int) := by omega
          have hb : b = true := HBK.out.2 (by rw [List.take_of_length_le (by omega)]; exact HIN.out)
          subst hb
          have HRY := Lib.hid (ranksOf_any V HOK.out m r HP.out _ _ wr (HV6.out wr HBR.out) (HI6.out wr HBR.out))
          unfold RanksYes at HRY
          rw [rks_len] at HRY
          go_wp2_with (fail)
          refine HRY.out.mono ?_
          rintro e w7 ⟨A8, c8, rfl, b7⟩
          have hbe := HB2.out.trans ((HB6.out.trans ((HBR.out.trans (b7.mono HBR.out.size)).mono HB6.out.size)).mono HB2.out.size)
          go_wp2
          go_ret
          exact ⟨rfl, hbe⟩
  · have HL := Lib.hid (long_yes A1 n1 c1 A2 n2 c2 w hl)
    clear hl
    go_enter Try.func3, Try.ntmps3
    go_wp2_with (fail)
    refine (HL.out).mono ?_
    rintro e w1 ⟨rfl, m1, rfl⟩
    go_wp2
    go_ret
    exact ⟨rfl, below_drewN (Below.refl w.heap.size w) m1⟩
end Go.Proofs.Ytihhbkijcebapaa

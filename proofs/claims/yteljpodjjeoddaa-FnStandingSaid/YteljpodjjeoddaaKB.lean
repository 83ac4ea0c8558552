/- The grounded mask; the masks for which something holds, walked. All masks for which something holds, walked. Which masks are preferred: slices.Clone, IndexFunc and ContainsFunc at masks, walked. -/
import Derived.Test.YteljpodjjeoddaaCi
namespace Go.Proofs.Yteljpodjjeoddaa
open Go.RowKit Go.Lib

def GrdPost (F : Fr) (w : World) (e : Ending) (w' : World) : Prop :=
  ∃ m : Nat, e = .returned (.int .i64 (m : Int)) ∧ Below w.heap.size w w' ∧ ∃ j, Grd F m j ∧ Shut2 F m j
set_option maxRecDepth 100000 in
set_option maxHeartbeats 4000000 in
theorem grounded_any (F : Fr) (hF : F.Ok) (A : Option Addr) (c : Nat) (w : World) (h : FrR w w.heap.size F A c) :
    Calls Try.prog 19 #[frV F A c] w (GrdPost F w) := by
  obtain ⟨w1, hw1, hs1, b1, z0, z1, fr, bw⟩ := box_at F A c w h
  have HRD := Lib.hid (fun y => rounds_any F hF A c y.val (fr y))
  have BW := Lib.hid bw
  have hn := hF.n10
  clear hF h fr bw b1
  unfold frV GrdPost at *
  unfold RoundsPost at HRD
  go_enter Try.func19, Try.ntmps19
  go_upto_region 1 with (fail)
  rw [← hw1]
  obtain ⟨x0, hx0⟩ : ∃ y : Aft w1, y.val = w1 := ⟨⟨w1, Below.refl _ _⟩, rfl⟩
  rw [← hx0]
  clear hx0 hw1
  go_wp2_with (fail)
  refine (HRD.out x0).mono ?_
  rintro e w3 ⟨g, rfl, hgb, hgw, hb3, o, hrow, m, j, hinv, hshut⟩
  have HROW := Lib.hid hrow
  have HINV := Lib.hid hinv
  have HSH := Lib.hid hshut
  have HBE := Lib.hid (below_then (BW.out x0) (BW.out x0).size hb3)
  clear hrow hinv hshut hb3 z0 z1 HRD
  go_wp2
  go_loopw [3, 4, 5, 9] (fun ma _ _ i wr => ∃ k : Nat, k ≤ F.n ∧ ma = .int .i64 (upS (fun a => decide (0 < o a)) 0 k : Nat) ∧ i = .int .i64 (k : Int) ∧ wr = w3) (fun _ _ _ i _ => F.n - (RowKit.intOf i).toNat)
  case atStart => exact ⟨0, Nat.zero_le _, rfl, rfl, rfl⟩
  case round =>
    obtain ⟨k, hk, rfl, rfl, rfl⟩ := hrel
    by_cases hlt : k < F.n
    · have x1 := HROW.out.cell k _ (costL_get hlt)
      have hu := upS_lt (c := fun a => decide (0 < o a)) (g := 0) (k := k) (Nat.pow_pos (by omega)) hk
      have hp := Nat.pow_le_pow_right (n := 2) (by omega) hn
      have HS := Lib.hid (upS_succ (c := fun a => decide (0 < o a)) (g := 0) (k := k))
      have hsb := set_bit (upS (fun a => decide (0 < o a)) 0 k) k (by omega) (by omega)
      by_cases hpk : 0 < o k
      · have HN : Hid (upS (fun a => decide (0 < o a)) 0 (k + 1) = upS (fun a => decide (0 < o a)) 0 k ||| 2 ^ k) := Lib.hid (by rw [HS.out, if_pos (decide_eq_true hpk)])
        generalize upS (fun a => decide (0 < o a)) 0 k = D at *
        generalize D ||| 2 ^ k = D' at *
        clear hu hp
        go_wp2
        go_roundw
        case rel => exact ⟨k + 1, by omega, by rw [HN.out], by go_num, trivial⟩
        case measure => simp [RowKit.intOf]; omega
      · have HN : Hid (upS (fun a => decide (0 < o a)) 0 (k + 1) = upS (fun a => decide (0 < o a)) 0 k) := Lib.hid (by rw [HS.out, if_neg (by rw [decide_eq_true_eq]; exact hpk)])
        generalize upS (fun a => decide (0 < o a)) 0 k = D at *
        clear hu hp hsb
        go_wp2
        go_roundw
        case rel => exact ⟨k + 1, by omega, by rw [HN.out], by go_num, trivial⟩
        case measure => simp [RowKit.intOf]; omega
    · have hge : ¬ (k : Int) < (F.n : Int) := by omega
      have hkn : k = F.n := by omega
      subst hkn
      have HM : Hid (upS (fun a => decide (0 < o a)) 0 F.n = m) := Lib.hid (Nat.eq_of_testBit_eq fun i => by
        rw [Bool.eq_iff_iff, upS_bit, decide_eq_true_eq, Nat.zero_testBit]
        constructor
        · rintro (h | ⟨h1, h2⟩)
          · cases h
          · exact (HINV.out.pos i h1).1 h2
        · intro h
          have h1 := bit_lt HINV.out.grd.lt.1 h
          exact .inr ⟨h1, (HINV.out.pos i h1).2 h⟩)
      rw [HM.out]
      go_wp2
      go_ret
      exact ⟨m, rfl, HBE.out, j, HINV.out.grd, HSH.out⟩
def GSetPost (F : Fr) (w : World) (e : Ending) (w' : World) : Prop :=
  ∃ m g c : Nat, e = .returned (.tuple #[.slice (some ⟨g, 0, none⟩) (setL m).length c, .bool true]) ∧ NumO w' w.heap.size g c (barL (setL m)) ∧ Below w.heap.size w w' ∧ ∃ j, Grd F m j ∧ Shut2 F m j
set_option maxRecDepth 100000 in
set_option maxHeartbeats 4000000 in
theorem gset_any (F : Fr) (hF : F.Ok) (A : Option Addr) (c : Nat) (w : World) (h : FrR w w.heap.size F A c) :
    Calls Try.prog 6 #[frV F A c] w (GSetPost F w) := by
  obtain ⟨w1, hw1, hs1, b1, z0, z1, fr, bw⟩ := box_at F A c w h
  have HV := Lib.hid (fun y => validF_any F hF A c y.val (fr y))
  have HG := Lib.hid (fun y => grounded_any F hF A c y.val (fr y))
  have BW := Lib.hid bw
  have hn := hF.n10
  have z0w := z0
  have z1w := z1
  clear hF h fr bw b1
  unfold frV GSetPost at *
  unfold GrdPost at HG
  go_enter Try.func6, Try.ntmps6
  go_upto_region 1 with (fail)
  rw [← hw1]
  obtain ⟨x0, hx0⟩ : ∃ y : Aft w1, y.val = w1 := ⟨⟨w1, Below.refl _ _⟩, rfl⟩
  rw [← hx0]
  clear hx0 hw1
  go_wp2_with (fail)
  refine (aft_b (HV.out x0)).mono ?_
  rintro e _ ⟨rfl, x1, rfl⟩
  go_wp2_with (fail)
  refine (HG.out x1).mono ?_
  rintro e w3 ⟨m, rfl, hb3, j, hgr, hsh⟩
  have hm : m < 1024 := by
    have h1 := hgr.lt.1
    have h2 := Nat.pow_le_pow_right (n := 2) (by omega) hn
    omega
  have HGR := Lib.hid hgr
  have HSH := Lib.hid hsh
  have HB3 := Lib.hid (below_then (BW.out x1) (BW.out x1).size hb3)
  have HSO := Lib.hid (setOf_any m hm w3)
  unfold SetPost at HSO
  clear hb3 hgr hsh z0 z1 z0w z1w HG HV
  go_wp2_with (fail)
  refine HSO.out.mono ?_
  rintro e w4 ⟨g, c4, rfl, hnum, hb4⟩
  have hbe := below_then HB3.out HB3.out.size hb4
  have HNUM := Lib.hid (hnum.less HB3.out.size)
  go_wp2
  go_ret2
  exact ⟨m, g, c4, rfl, HNUM.out, hbe, j, HGR.out, HSH.out⟩
end Go.Proofs.Yteljpodjjeoddaa

namespace Go.Proofs.Yteljpodjjeoddaa
open Go.RowKit Go.Lib

theorem own_lessN {w : World} {b base size n : Nat} {e : TypeId} {v : Value} {xs : List Value} (h : w.ownsRow base e size v n xs) (hb : b ≤ base) : w.ownsRow b e size v n xs := by
  obtain ⟨h1, h2 | ⟨g', c, cur, e, h3, h4⟩⟩ := h
  · exact ⟨h1, .inl h2⟩
  · exact ⟨h1, .inr ⟨g', c, cur, e, Nat.le_trans hb h3, h4⟩⟩
/-- A row of masks of the call's own. -/
def NumN (w : World) (base g cap : Nat) (L : List Nat) : Prop := w.ownsRow base 3 1 (.slice (some ⟨g, 0, none⟩) L.length cap) L.length ((barL L).flatMap intCells)
theorem NumN.row {w : World} {base g cap : Nat} {L : List Nat} (h : NumN w base g cap L) : w.ownsRow base 3 1 (.slice (some ⟨g, 0, none⟩) L.length cap) L.length ((barL L).flatMap intCells) := h
theorem NumN.below {w w' : World} {base g cap : Nat} {L : List Nat} (h : NumN w base g cap L) (hb : Below w.heap.size w w') : NumN w' base g cap L := own_below h hb
theorem NumN.start (w : World) : NumN (w.alloc (.cells #[] 3)) w.heap.size w.heap.size 0 [] := by
  unfold NumN
  rw [show (barL []).flatMap intCells = ([] : List Value) from rfl]
  simpa using World.ownsRow_made w #[] 0 (Nat.le_refl _) (Nat.zero_le _) rfl
theorem NumN.own {w : World} {base g cap : Nat} {L : List Nat} (h : NumN w base g cap L) : OwnL intCells (barL L) base w (.slice (some ⟨g, 0, none⟩) L.length cap) := by
  have h' := h
  unfold NumN at h'
  rw [← barL_len L] at h' ⊢
  exact OwnL.of_own intCells (size := 1) (fun _ => rfl) h'
theorem NumN.ints {w : World} {base g cap : Nat} {L : List Nat} (h : NumN w base g cap L) : Ints w w.heap.size (.slice (some ⟨g, 0, none⟩) L.length cap) (barL L) := h.own.slR (size := 1) (fun _ => rfl)
theorem NumN.less {w : World} {b base g cap : Nat} {L : List Nat} (h : NumN w base g cap L) (hb : b ≤ base) : NumN w b g cap L := own_lessN h hb
def fltK (p : Nat → Bool) (k : Nat) : List Nat := (List.range k).filter p
theorem fltK_succ {p : Nat → Bool} {k : Nat} : fltK p (k + 1) = if p k then fltK p k ++ [k] else fltK p k := by
  unfold fltK
  rw [List.range_succ, List.filter_append]
  cases h : p k <;> simp [h]
theorem fltK_len (p : Nat → Bool) (k : Nat) : (fltK p k).length ≤ k := by
  have := List.length_filter_le p (List.range k)
  rw [List.length_range] at this
  exact this
def MaskPost (p : Nat → Bool) (n : Nat) (w : World) (e : Ending) (w' : World) : Prop :=
  ∃ g c, e = .returned (.slice (some ⟨g, 0, none⟩) (fltK p (2 ^ n)).length c) ∧ NumN w' w.heap.size g c (fltK p (2 ^ n)) ∧ Below w.heap.size w w'

set_option maxRecDepth 100000 in
set_option maxHeartbeats 8000000 in
theorem masks_any (F : Fr) (hF : F.Ok) (A : Option Addr) (c : Nat) (p : Nat → Bool) (v : Value) (w : World) (h : FrR w w.heap.size F A c)
    (hc : ∀ k : Nat, k < 1024 → ∀ W, Below w.heap.size w W → Calls Try.prog 23 #[v, .int .i64 (k : Int)] W (RetB (.bool (p k)) W)) :
    Calls Try.prog 22 #[frV F A c, .func (.func 23) #[v] #[]] w (MaskPost p F.n w) := by
  obtain ⟨w1, hw1, hs1, b1, z0, z1, fr, bw⟩ := box_at F A c w h
  have BW := Lib.hid bw
  have hn := hF.n10
  have HCW := Lib.hid hc
  have hp2 := Nat.pow_le_pow_right (n := 2) (by omega) hn
  have hwt := wrap_two F.n (by omega)
  obtain ⟨M, hM⟩ : ∃ M : Nat, M = 2 ^ F.n := ⟨_, rfl⟩
  unfold MaskPost
  rw [← hM] at hwt hp2 ⊢
  have HME := Lib.hid hM
  have hM4 : M ≤ 1024 := hp2
  obtain ⟨i0, hi, hz0, hz1, hz2⟩ := info_parts Try.infoCn
  clear hF h fr bw b1 hM hp2 hc
  unfold frV at *
  go_enter Try.func22, Try.ntmps22
  go_upto_region 1 with (fail)
  rw [← hw1]
  have HO0 : Hid (NumN (w1.alloc (.cells #[] 3)) w.heap.size w1.heap.size 0 []) := Lib.hid ((NumN.start w1).less (by omega))
  have hbA : Below w1.heap.size w1 (w1.alloc (.cells #[] 3)) := (Below.refl _ _).alloc (Nat.le_refl _) _
  have HB0 : Hid (Below w.heap.size w (w1.alloc (.cells #[] 3))) := Lib.hid (BW.out ⟨_, hbA⟩)
  have y0 : (w1.alloc (.cells #[] 3)).cell? ⟨w.heap.size, 0, none⟩ = some (.int .i64 (F.n : Int)) := z0 ⟨_, hbA⟩
  rw [hs1] at HO0
  clear hw1 z0 z1 hbA
  go_wp2
  rw [hwt]
  clear hwt
  go_loopw [5, 6, 11] (fun o _ i wr => ∃ (k g cap : Nat), k ≤ M ∧ i = .int .i64 (k : Int) ∧ o = .slice (some ⟨g, 0, none⟩) (fltK p k).length cap ∧ NumN wr w.heap.size g cap (fltK p k) ∧ Below w.heap.size w wr) (fun _ _ i _ => M - (RowKit.intOf i).toNat)
  case atStart => exact ⟨0, _, 0, Nat.zero_le _, rfl, rfl, HO0.out, HB0.out⟩
  case round =>
    obtain ⟨k, g, cap, hk, rfl, rfl, ho, hb⟩ := hrel
    have HO := Lib.hid ho
    have HB := Lib.hid hb
    have hlen := fltK_len p k
    clear ho
    by_cases hlt : k < M
    · have HSN := Lib.hid (fltK_succ (p := p) (k := k))
      have HCK := Lib.hid (HCW.out k (by omega) wr hb)
      cases hpk : p k with
      | true =>
        rw [hpk] at HCK HSN
        have HSS : Hid (fltK p (k + 1) = fltK p k ++ [k]) := Lib.hid HSN.out
        clear hpk HSN
        go_wp2_with (fail)
        refine HCK.out.mono ?_
        rintro e w2 ⟨rfl, b2⟩
        have HO2 := Lib.hid (HO.out.below b2)
        have HB2 := Lib.hid (below_then HB.out HB.out.size b2)
        have HROW := Lib.hid HO2.out.row
        clear b2 hb
        go_wp2_with (at_builtin; refine wpList_append_own_at _ rfl _ _ 47 rfl w.heap.size 3 i0 (.int .i64 0) 1 8 Try.underlying47 hi hz0 hz1 hz2 rfl (by decide) _ _ _ rfl (HROW.out.alloc _) ⟨w2.heap.size, 0, none⟩ 1 1 (intCells (k : Int)) rfl rfl (fun j u hj => new_at hj) (fun u hu => int_one' _ hu) ?c3 ?c4 (base_le HB2.out.size) ?_)
        case c3 => unfold maxLen; omega
        case c4 => omega
        intro v' w9 hown' hgrow hiff hat
        obtain ⟨g9, cap9, rfl, hdc9, hcm9⟩ := own_some hown' (by simpa using hiff)
        have HB9 := Lib.hid ((HB2.out.alloc HB2.out.size (.cells #[.int .i64 (k : Int)] 3)).grown hgrow (base_le HB2.out.size) (fun j hj => (HROW.out.lt j hj).1))
        have HO9 : Hid (NumN w9 w.heap.size g9 cap9 (fltK p (k + 1))) := Lib.hid (by
          unfold NumN
          rw [HSS.out, barL_snoc', flat_snoc, List.length_append]
          exact hown')
        have HL9 : Hid ((fltK p (k + 1)).length = (fltK p k).length + 1) := Lib.hid (by rw [HSS.out, List.length_append]; rfl)
        clear hown' hgrow hiff hat
        go_wp2
        go_roundw
        case rel => exact ⟨k + 1, g9, cap9, by omega, by go_num, by rw [HL9.out], HO9.out, HB9.out⟩
        case measure => simp [RowKit.intOf]; omega
      | false =>
        rw [hpk] at HCK HSN
        have HSS : Hid (fltK p (k + 1) = fltK p k) := Lib.hid HSN.out
        clear hpk HSN
        go_wp2_with (fail)
        refine HCK.out.mono ?_
        rintro e w2 ⟨rfl, b2⟩
        have HO2 := Lib.hid (HO.out.below b2)
        have HB2 := Lib.hid (below_then HB.out HB.out.size b2)
        clear b2 hb
        go_wp2
        go_roundw
        case rel => exact ⟨k + 1, g, cap, by omega, by go_num, by rw [HSS.out], by rw [HSS.out]; exact HO2.out, HB2.out⟩
        case measure => simp [RowKit.intOf]; omega
    · have hge : ¬ (k : Int) < (M : Int) := by omega
      have hkM : k = M := by omega
      subst hkM
      go_wp2
      go_ret
      exact ⟨g, cap, rfl, HO.out, HB.out⟩
set_option maxRecDepth 100000 in
set_option maxHeartbeats 8000000 in
theorem masksD_any (F : Fr) (hF : F.Ok) (A : Option Addr) (c : Nat) (p : Nat → Bool) (u v : Value) (w : World) (h : FrR w w.heap.size F A c)
    (hc : ∀ k : Nat, k < 1024 → ∀ W, Below w.heap.size w W → Calls Try.prog 29 #[.int .i64 (k : Int), u, v] W (RetB (.bool (p k)) W)) :
    Calls Try.prog 22 #[frV F A c, .func (.func 29) #[] #[u, v]] w (MaskPost p F.n w) := by
  obtain ⟨w1, hw1, hs1, b1, z0, z1, fr, bw⟩ := box_at F A c w h
  have BW := Lib.hid bw
  have hn := hF.n10
  have HCW := Lib.hid hc
  have hp2 := Nat.pow_le_pow_right (n := 2) (by omega) hn
  have hwt := wrap_two F.n (by omega)
  obtain ⟨M, hM⟩ : ∃ M : Nat, M = 2 ^ F.n := ⟨_, rfl⟩
  unfold MaskPost
  rw [← hM] at hwt hp2 ⊢
  have HME := Lib.hid hM
  have hM4 : M ≤ 1024 := hp2
  obtain ⟨i0, hi, hz0, hz1, hz2⟩ := info_parts Try.infoCn
  clear hF h fr bw b1 hM hp2 hc
  unfold frV at *
  go_enter Try.func22, Try.ntmps22
  go_upto_region 1 with (fail)
  rw [← hw1]
  have HO0 : Hid (NumN (w1.alloc (.cells #[] 3)) w.heap.size w1.heap.size 0 []) := Lib.hid ((NumN.start w1).less (by omega))
  have hbA : Below w1.heap.size w1 (w1.alloc (.cells #[] 3)) := (Below.refl _ _).alloc (Nat.le_refl _) _
  have HB0 : Hid (Below w.heap.size w (w1.alloc (.cells #[] 3))) := Lib.hid (BW.out ⟨_, hbA⟩)
  have y0 : (w1.alloc (.cells #[] 3)).cell? ⟨w.heap.size, 0, none⟩ = some (.int .i64 (F.n : Int)) := z0 ⟨_, hbA⟩
  rw [hs1] at HO0
  clear hw1 z0 z1 hbA
  go_wp2
  rw [hwt]
  clear hwt
  go_loopw [5, 6, 11] (fun o _ i wr => ∃ (k g cap : Nat), k ≤ M ∧ i = .int .i64 (k : Int) ∧ o = .slice (some ⟨g, 0, none⟩) (fltK p k).length cap ∧ NumN wr w.heap.size g cap (fltK p k) ∧ Below w.heap.size w wr) (fun _ _ i _ => M - (RowKit.intOf i).toNat)
  case atStart => exact ⟨0, _, 0, Nat.zero_le _, rfl, rfl, HO0.out, HB0.out⟩
  case round =>
    obtain ⟨k, g, cap, hk, rfl, rfl, ho, hb⟩ := hrel
    have HO := Lib.hid ho
    have HB := Lib.hid hb
    have hlen := fltK_len p k
    clear ho
    by_cases hlt : k < M
    · have HSN := Lib.hid (fltK_succ (p := p) (k := k))
      have HCK := Lib.hid (HCW.out k (by omega) wr hb)
      cases hpk : p k with
      | true =>
        rw [hpk] at HCK HSN
        have HSS : Hid (fltK p (k + 1) = fltK p k ++ [k]) := Lib.hid HSN.out
        clear hpk HSN
        go_wp2_with (fail)
        refine HCK.out.mono ?_
        rintro e w2 ⟨rfl, b2⟩
        have HO2 := Lib.hid (HO.out.below b2)
        have HB2 := Lib.hid (below_then HB.out HB.out.size b2)
        have HROW := Lib.hid HO2.out.row
        clear b2 hb
        go_wp2_with (at_builtin; refine wpList_append_own_at _ rfl _ _ 47 rfl w.heap.size 3 i0 (.int .i64 0) 1 8 Try.underlying47 hi hz0 hz1 hz2 rfl (by decide) _ _ _ rfl (HROW.out.alloc _) ⟨w2.heap.size, 0, none⟩ 1 1 (intCells (k : Int)) rfl rfl (fun j u hj => new_at hj) (fun u hu => int_one' _ hu) ?c3 ?c4 (base_le HB2.out.size) ?_)
        case c3 => unfold maxLen; omega
        case c4 => omega
        intro v' w9 hown' hgrow hiff hat
        obtain ⟨g9, cap9, rfl, hdc9, hcm9⟩ := own_some hown' (by simpa using hiff)
        have HB9 := Lib.hid ((HB2.out.alloc HB2.out.size (.cells #[.int .i64 (k : Int)] 3)).grown hgrow (base_le HB2.out.size) (fun j hj => (HROW.out.lt j hj).1))
        have HO9 : Hid (NumN w9 w.heap.size g9 cap9 (fltK p (k + 1))) := Lib.hid (by
          unfold NumN
          rw [HSS.out, barL_snoc', flat_snoc, List.length_append]
          exact hown')
        have HL9 : Hid ((fltK p (k + 1)).length = (fltK p k).length + 1) := Lib.hid (by rw [HSS.out, List.length_append]; rfl)
        clear hown' hgrow hiff hat
        go_wp2
        go_roundw
        case rel => exact ⟨k + 1, g9, cap9, by omega, by go_num, by rw [HL9.out], HO9.out, HB9.out⟩
        case measure => simp [RowKit.intOf]; omega
      | false =>
        rw [hpk] at HCK HSN
        have HSS : Hid (fltK p (k + 1) = fltK p k) := Lib.hid HSN.out
        clear hpk HSN
        go_wp2_with (fail)
        refine HCK.out.mono ?_
        rintro e w2 ⟨rfl, b2⟩
        have HO2 := Lib.hid (HO.out.below b2)
        have HB2 := Lib.hid (below_then HB.out HB.out.size b2)
        clear b2 hb
        go_wp2
        go_roundw
        case rel => exact ⟨k + 1, g, cap, by omega, by go_num, by rw [HSS.out], by rw [HSS.out]; exact HO2.out, HB2.out⟩
        case measure => simp [RowKit.intOf]; omega
    · have hge : ¬ (k : Int) < (M : Int) := by omega
      have hkM : k = M := by omega
      subst hkM
      go_wp2
      go_ret
      exact ⟨g, cap, rfl, HO.out, HB.out⟩
end Go.Proofs.Yteljpodjjeoddaa

namespace Go.Proofs.Yteljpodjjeoddaa
open Go.RowKit Go.Lib

theorem cells_bar (L : List Nat) : (barL L).flatMap intCells = nCells L := by
  induction L with
  | nil => rfl
  | cons a L ih =>
    show intCells (a : Int) ++ (barL L).flatMap intCells = _
    rw [ih]
    rfl
def CloneN (L : List Nat) (w : World) (e : Ending) (w' : World) : Prop :=
  ∃ g c, e = .returned (.slice (some ⟨g, 0, none⟩) L.length c) ∧ NumN w' w.heap.size g c L ∧ Below w.heap.size w w'
set_option maxRecDepth 100000 in
set_option maxHeartbeats 2000000 in
theorem cloneN_any (L : List Nat) (h0 : L ≠ []) (ad : Addr) (c : Nat) (w : World) (h : Ints w w.heap.size (.slice (some ad) L.length c) (barL L)) (hl : L.length ≤ 1048576) :
    Calls Try.prog 36 #[.slice (some ad) L.length c] w (CloneN L w) := by
  have bW := (Below.refl w.heap.size w).alloc (Nat.le_refl _) (.cells #[] 3)
  have HS0 := Lib.hid (SlR.on h (Pl.stays _) bW bW.size)
  have HB0 := Lib.hid bW
  have hown0 : (w.alloc (.cells #[] 3)).ownsRow w.heap.size 3 1 (.slice (some ⟨w.heap.size, 0, none⟩) 0 0) 0 [] := by simpa using World.ownsRow_made w #[] 0 (Nat.le_refl _) (Nat.zero_le _) rfl
  have HOWN0 := Lib.hid hown0
  have HL0 := Lib.hid (List.length_pos_iff.2 h0)
  obtain ⟨i0, hi, hz0, hz1, hz2⟩ := info_parts Try.infoCn
  have hbl := barL_len L
  clear bW hown0 h h0
  unfold CloneN
  have hnl : ∀ W, (binOp .eql 47 (.slice (some ad) L.length c) (.slice none 0 0)).run Try.prog W = .ok (.bool false) W := fun W => Go.Lib.run_eql_slice_nil (P := Try.prog) W 47 3 (some ad) L.length c 0 0 Try.underlying47
  go_enter Try.func36, Try.ntmps36
  go_wp2_with (at_builtin; refine wpList_append_slR intCells rfl _ _ 47 rfl w.heap.size 3 i0 (.int .i64 0) 1 8 Try.underlying47 hi hz0 hz1 hz2 rfl (by decide) _ _ _ rfl HOWN0.out _ (barL L) _ rfl HS0.out (fun _ => rfl) (fun y u hu => int_one' _ hu) ?c3 ?c4 HB0.out.size ?_)
  case c3 => unfold maxLen; omega
  case c4 => omega
  intro o1 w1 hown1 hgrow1 hnn1
  have hown2 : w1.ownsRow w.heap.size 3 1 o1 L.length ((barL L).flatMap intCells) := by
    have := hown1
    simpa using this
  obtain ⟨g1, c1, rfl, _, _⟩ := own_some hown2 (fun e => by
    rw [e] at hown2
    obtain ⟨_, h | ⟨_, _, _, h, _⟩⟩ := hown2
    · have := HL0.out; omega
    · cases h)
  have HO1 : Hid (NumN w1 w.heap.size g1 c1 L) := Lib.hid hown2
  have HB1 : Hid (Below w.heap.size w w1) := Lib.hid (HB0.out.grown hgrow1 HB0.out.size (fun j hj => (HOWN0.out.lt j hj).1))
  clear hown1 hown2 hgrow1 hnn1
  go_wp2
  go_ret
  exact ⟨g1, c1, rfl, HO1.out, HB1.out⟩

set_option maxHeartbeats 2000000 in
/-- The innermost closure: is another mask a greater one? -/
theorem in_any (m o : Nat) (hm : m < 1024) (ho : o < 1024) (bx : Nat) (w : World) (h : w.cell? ⟨bx, 0, none⟩ = some (.int .i64 (m : Int))) :
    Calls Try.prog 39 #[.int .i64 (o : Int), .pointer (some ⟨bx, 0, none⟩)] w (RetB (.bool (inMk m o)) w) := by
  have hv := bits_not m o (by omega) (by omega)
  have HI : Hid (inMk m o = (o != m && anN m o == 0)) := Lib.hid rfl
  generalize anN m o = z at *
  refine calls_aft fun x0 => ?_
  have y0 := fun y : Aft w => y.cell h
  clear h
  by_cases e : o = m
  · have hne : ((o : Int) != (m : Int)) = false := by simp [e]
    have HN : Hid (inMk m o = false) := Lib.hid (by rw [HI.out, e]; simp)
    clear e
    go_enter Try.func39, Try.ntmps39
    go_wp2
    go_ret
    exact ⟨by rw [HN.out]; rfl, x0.ok⟩
  · have hne : ((o : Int) != (m : Int)) = true := by simp; omega
    have HN : Hid (inMk m o = ((z : Int) == 0)) := Lib.hid (by
      rw [HI.out]
      cases z with
      | zero => simp [e]
      | succ z => simp; omega)
    clear e
    go_enter Try.func39, Try.ntmps39
    go_wp2
    go_ret
    exact ⟨by rw [HN.out]; rfl, x0.ok⟩

def IdxPost (p : Nat → Bool) (L : List Nat) (w : World) (e : Ending) (w' : World) : Prop :=
  ∃ z : Int, e = .returned (.int .i64 z) ∧ Below w.heap.size w w' ∧ ((z = -1 ∧ ∀ x ∈ L, p x = false) ∨ ∃ i : Nat, z = (i : Int) ∧ (∃ x, L[i]? = some x ∧ p x = true) ∧ ∀ x ∈ L.take i, p x = false)
set_option maxRecDepth 100000 in
set_option maxHeartbeats 4000000 in
theorem idx2_any (L : List Nat) (p : Nat → Bool) (u : Value) (A : Option Addr) (c : Nat) (w : World) (hI : Ints w w.heap.size (.slice A L.length c) (barL L))
    (hc : ∀ k ∈ L, ∀ W, Below w.heap.size w W → Calls Try.prog 39 #[.int .i64 ((k : Nat) : Int), u] W (RetB (.bool (p k)) W)) :
    Calls Try.prog 50 #[.slice A L.length c, .func (.func 39) #[] #[u]] w (IdxPost p L w) := by
  have hln : L.length ≤ 9223372036854775807 := by
    obtain ⟨_, _, _, h1, h2⟩ := hI.sl
    unfold maxLen at h2
    rw [barL_len] at h1
    omega
  have HI := Lib.hid (fun y : Aft w => (SlR.on hI (Pl.stays _) y.ok y.ok.size : Ints y.val y.val.heap.size _ _))
  have HC := Lib.hid hc
  unfold IdxPost
  clear hI hc
  refine calls_aft fun x0 => ?_
  go_enter Try.func50, Try.ntmps50
  go_wp2
  go_loopw [5, 8] (fun _ i wr => ∃ (k : Nat) (x : Aft w), k ≤ L.length ∧ i = .int .i64 (k : Int) ∧ (∀ a ∈ L.take k, p a = false) ∧ wr = x.val) (fun _ i _ => L.length - (RowKit.intOf i).toNat)
  case atStart => exact ⟨0, x0, Nat.zero_le _, rfl, (fun a h => by cases h), rfl⟩
  case round =>
    obtain ⟨k, x, hk, rfl, hno, rfl⟩ := hrel
    have HNO := Lib.hid hno
    clear hno
    by_cases hlt : k < L.length
    · have hget : L[k]? = some L[k] := List.getElem?_eq_getElem hlt
      obtain ⟨b, off, rfl, hb, u0⟩ := ints_get (HI.out ⟨w, Below.refl _ _⟩) (barL_get hget)
      have y0 := fun y : Aft w => y.cell u0
      have HCK := Lib.hid (HC.out _ (List.getElem_mem hlt) x.val x.ok)
      have HG := Lib.hid hget
      have HT := Lib.hid (List.take_succ_eq_append_getElem hlt)
      have hki : (k : Int) < (L.length : Int) := by omega
      have hk0 : (0 : Int) ≤ (k : Int) := by omega
      generalize L[k] = a at *
      clear u0 hget
      cases hp : p a with
      | true =>
        rw [hp] at HCK
        have HP := Lib.hid hp
        clear hp
        go_wp2_with (fail)
        refine (aft_b (HCK.out)).mono ?_
        rintro e _ ⟨rfl, y, rfl⟩
        go_wp2
        go_ret
        exact ⟨_, rfl, y.ok, .inr ⟨k, rfl, ⟨a, HG.out, HP.out⟩, HNO.out⟩⟩
      | false =>
        rw [hp] at HCK
        have HN : Hid (∀ x ∈ L.take (k + 1), p x = false) := Lib.hid (by
          rw [HT.out]
          intro x hx
          rcases List.mem_append.1 hx with h | h
          · exact HNO.out x h
          · rw [List.mem_singleton.1 h]; exact hp)
        clear hp
        go_wp2_with (fail)
        refine (aft_b (HCK.out)).mono ?_
        rintro e _ ⟨rfl, y, rfl⟩
        go_wp2
        go_roundw
        case rel => exact ⟨k + 1, y, by omega, by go_num, HN.out, rfl⟩
        case measure => simp [RowKit.intOf]; omega
    · have hge : ¬ (k : Int) < (L.length : Int) := by omega
      have HE : Hid (L.take k = L) := Lib.hid (List.take_of_length_le (by omega))
      go_wp2
      go_ret
      exact ⟨_, rfl, x.ok, .inl ⟨rfl, by have := HNO.out; rwa [HE.out] at this⟩⟩
set_option maxRecDepth 100000 in
set_option maxHeartbeats 4000000 in
theorem idx1_any (L : List Nat) (p : Nat → Bool) (u : Value) (A : Option Addr) (c : Nat) (w : World) (hI : Ints w w.heap.size (.slice A L.length c) (barL L))
    (hc : ∀ k ∈ L, ∀ W, Below w.heap.size w W → Calls Try.prog 37 #[.int .i64 ((k : Nat) : Int), u] W (RetB (.bool (p k)) W)) :
    Calls Try.prog 50 #[.slice A L.length c, .func (.func 37) #[] #[u]] w (IdxPost p L w) := by
  have hln : L.length ≤ 9223372036854775807 := by
    obtain ⟨_, _, _, h1, h2⟩ := hI.sl
    unfold maxLen at h2
    rw [barL_len] at h1
    omega
  have HI := Lib.hid (fun y : Aft w => (SlR.on hI (Pl.stays _) y.ok y.ok.size : Ints y.val y.val.heap.size _ _))
  have HC := Lib.hid hc
  unfold IdxPost
  clear hI hc
  refine calls_aft fun x0 => ?_
  go_enter Try.func50, Try.ntmps50
  go_wp2
  go_loopw [5, 8] (fun _ i wr => ∃ (k : Nat) (x : Aft w), k ≤ L.length ∧ i = .int .i64 (k : Int) ∧ (∀ a ∈ L.take k, p a = false) ∧ wr = x.val) (fun _ i _ => L.length - (RowKit.intOf i).toNat)
  case atStart => exact ⟨0, x0, Nat.zero_le _, rfl, (fun a h => by cases h), rfl⟩
  case round =>
    obtain ⟨k, x, hk, rfl, hno, rfl⟩ := hrel
    have HNO := Lib.hid hno
    clear hno
    by_cases hlt : k < L.length
    · have hget : L[k]? = some L[k] := List.getElem?_eq_getElem hlt
      obtain ⟨b, off, rfl, hb, u0⟩ := ints_get (HI.out ⟨w, Below.refl _ _⟩) (barL_get hget)
      have y0 := fun y : Aft w => y.cell u0
      have HCK := Lib.hid (HC.out _ (List.getElem_mem hlt) x.val x.ok)
      have HG := Lib.hid hget
      have HT := Lib.hid (List.take_succ_eq_append_getElem hlt)
      have hki : (k : Int) < (L.length : Int) := by omega
      have hk0 : (0 : Int) ≤ (k : Int) := by omega
      generalize L[k] = a at *
      clear u0 hget
      cases hp : p a with
      | true =>
        rw [hp] at HCK
        have HP := Lib.hid hp
        clear hp
        go_wp2_with (fail)
        refine (aft_b (HCK.out)).mono ?_
        rintro e _ ⟨rfl, y, rfl⟩
        go_wp2
        go_ret
        exact ⟨_, rfl, y.ok, .inr ⟨k, rfl, ⟨a, HG.out, HP.out⟩, HNO.out⟩⟩
      | false =>
        rw [hp] at HCK
        have HN : Hid (∀ x ∈ L.take (k + 1), p x = false) := Lib.hid (by
          rw [HT.out]
          intro x hx
          rcases List.mem_append.1 hx with h | h
          · exact HNO.out x h
          · rw [List.mem_singleton.1 h]; exact hp)
        clear hp
        go_wp2_with (fail)
        refine (aft_b (HCK.out)).mono ?_
        rintro e _ ⟨rfl, y, rfl⟩
        go_wp2
        go_roundw
        case rel => exact ⟨k + 1, y, by omega, by go_num, HN.out, rfl⟩
        case measure => simp [RowKit.intOf]; omega
    · have hge : ¬ (k : Int) < (L.length : Int) := by omega
      have HE : Hid (L.take k = L) := Lib.hid (List.take_of_length_le (by omega))
      go_wp2
      go_ret
      exact ⟨_, rfl, x.ok, .inl ⟨rfl, by have := HNO.out; rwa [HE.out] at this⟩⟩
set_option maxRecDepth 100000 in
set_option maxHeartbeats 4000000 in
theorem has2_any (L : List Nat) (p : Nat → Bool) (u : Value) (A : Option Addr) (c : Nat) (w : World) (hI : Ints w w.heap.size (.slice A L.length c) (barL L))
    (hc : ∀ k ∈ L, ∀ W, Below w.heap.size w W → Calls Try.prog 39 #[.int .i64 ((k : Nat) : Int), u] W (RetB (.bool (p k)) W)) :
    Calls Try.prog 38 #[.slice A L.length c, .func (.func 39) #[] #[u]] w (RetB (.bool (L.any p)) w) := by
  have HX := Lib.hid (idx2_any L p u A c w hI hc)
  unfold IdxPost at HX
  clear hI hc
  go_enter Try.func38, Try.ntmps38
  go_wp2_with (fail)
  refine HX.out.mono ?_
  rintro e w1 ⟨z, rfl, hb, h⟩
  have HB := Lib.hid hb
  rcases h with ⟨rfl, h⟩ | ⟨i, rfl, ⟨x, h1, h2⟩, _⟩
  · have HN : Hid (L.any p = false) := Lib.hid (List.any_eq_false.2 fun x hx => by rw [h x hx]; simp)
    clear h hb
    go_wp2
    go_ret
    exact ⟨by rw [HN.out]; rfl, HB.out⟩
  · have HN : Hid (L.any p = true) := Lib.hid (List.any_eq_true.2 ⟨x, List.mem_of_getElem? h1, h2⟩)
    have hi0 : (0 : Int) ≤ (i : Int) := by omega
    clear h1 h2 hb
    go_wp2
    go_ret
    exact ⟨by rw [HN.out]; rfl, HB.out⟩
set_option maxRecDepth 100000 in
set_option maxHeartbeats 4000000 in
/-- The closure: does a mask lie in another one of the list? -/
theorem lies_any (L : List Nat) (hL : ∀ k ∈ L, k < 1024) (m : Nat) (hm : m < 1024) (A : Option Addr) (c bg : Nat) (w : World) (hI : Ints w w.heap.size (.slice A L.length c) (barL L)) (hg : w.cell? ⟨bg, 0, none⟩ = some (.slice A L.length c)) :
    Calls Try.prog 37 #[.int .i64 (m : Int), .pointer (some ⟨bg, 0, none⟩)] w (RetB (.bool (L.any (inMk m))) w) := by
  have bA : Below w.heap.size w (w.alloc (.cells #[.int .i64 (m : Int)] 3)) := (Below.refl _ _).alloc (Nat.le_refl _) _
  have z0 : (w.alloc (.cells #[.int .i64 (m : Int)] 3)).cell? ⟨w.heap.size, 0, none⟩ = some (.int .i64 (m : Int)) := new_at (j := 0) rfl
  obtain ⟨w1, hw1⟩ : ∃ X, X = w.alloc (.cells #[.int .i64 (m : Int)] 3) := ⟨_, rfl⟩
  rw [← hw1] at bA z0
  have x0 : w1.cell? ⟨bg, 0, none⟩ = some (.slice A L.length c) := (bA.cell (p := ⟨bg, 0, none⟩) (World.block_lt_of_cell? w _ hg)).trans hg
  have HB := Lib.hid bA
  have HH := Lib.hid (has2_any L (inMk m) (.pointer (some ⟨w.heap.size, 0, none⟩)) A c w1 (SlR.on hI (Pl.stays _) bA bA.size) (fun k hk W hW => in_any m k hm (hL k hk) w.heap.size W ((hW.cell (p := ⟨w.heap.size, 0, none⟩) (World.block_lt_of_cell? w1 _ z0)).trans z0)))
  generalize L.any (inMk m) = r at *
  clear hI hg hL z0 bA
  go_enter Try.func37, Try.ntmps37
  go_upto_region 1 with (fail)
  rw [← hw1]
  clear hw1
  go_wp2_with (fail)
  refine HH.out.mono ?_
  rintro e w2 ⟨rfl, b2⟩
  have hbe := below_then HB.out HB.out.size b2
  clear b2
  go_wp2
  go_ret
  exact ⟨rfl, hbe⟩
end Go.Proofs.Yteljpodjjeoddaa

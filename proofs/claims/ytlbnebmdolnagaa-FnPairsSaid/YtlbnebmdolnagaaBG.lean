/- The least dominating set and the winners, as the program tells them; options, walked. A profile without an option, walked. -/
import Derived.Test.YtlbnebmdolnagaaBE
namespace Go.Proofs.Ytlbnebmdolnagaa
open Go.RowKit Go.Lib

theorem MatR.touch {base g n : Nat} {w w' : World} {R C : Nat → Nat} {M : Nat → Nat → Nat} {P : Nat → Prop} (h : MatR base w g n R C M) (ht : Touch P w w') (hR : ∀ i, i < n → ¬ P (R i)) (hg : ¬ P g) : MatR base w' g n R C M :=
  ⟨fun i hi => ⟨(World.cell?_of_block (a := ⟨g, i, none⟩) (ht.block g h.lg.2 hg)).trans (h.top i hi).1, (h.top i hi).2⟩, fun i hi => (h.row i hi).sameC (ht.block (R i) (h.lt i hi).2.1 (hR i hi)), fun i hi => ⟨(h.lt i hi).1, Nat.lt_of_lt_of_le (h.lt i hi).2.1 ht.size, (h.lt i hi).2.2⟩, h.inj, ⟨h.lg.1, Nat.lt_of_lt_of_le h.lg.2 ht.size⟩⟩
def LeastPost (F : Pf) (w : World) (e : Ending) (w' : World) : Prop :=
  ∃ S v, e = .returned (.tuple #[v, .bool true]) ∧ IsSm F S ∧ Ints w' w'.heap.size v (barL S) ∧ Below w.heap.size w w'
set_option maxRecDepth 100000 in
set_option maxHeartbeats 4000000 in
theorem least_any (F : Pf) (hF : F.Ok) (A1 : Option Addr) (c1 : Nat) (A2 : Option Addr) (c2 : Nat) (w : World) (h : PfR w w.heap.size F A1 c1 A2 c2) :
    Calls Try.prog 12 #[pfV F A1 c1 A2 c2] w (LeastPost F w) := by
  obtain ⟨w1, hw1, hs1, hbw1, z0, z1, fr, bw⟩ := pbox_at h
  have HV := Lib.hid (fun y => validP_any F hF _ _ _ _ _ (fr y))
  have BW := Lib.hid bw
  have HD := Lib.hid (fun y => dominating_any F hF _ _ _ _ _ (fr y))
  unfold pfV
  unfold pfV at HV HD
  clear hF h fr bw hbw1
  go_enter Try.func12, Try.ntmps12
  go_upto_region 1 with (fail)
  rw [← hw1]
  have HZ1 := Lib.hid hs1
  obtain ⟨x0, hx0⟩ : ∃ y : Aft w1, y.val = w1 := ⟨⟨w1, Below.refl _ _⟩, rfl⟩
  rw [← hx0]
  clear hx0 hw1 hs1
  go_wp2_with (fail)
  refine (aft_b (HV.out x0)).mono ?_
  rintro e _ ⟨rfl, x1, rfl⟩
  go_wp2_with (fail)
  refine (HD.out x1).mono ?_
  rintro e w2 ⟨S, v, rfl, hsm, hint, hb⟩
  have HSM := Lib.hid hsm
  have HIN := Lib.hid hint
  have HB := Lib.hid (below_then (BW.out x1) (BW.out x1).size hb)
  clear hsm hint hb
  go_wp2
  go_ret2
  exact ⟨S, v, rfl, HSM.out, HIN.out, HB.out⟩
set_option maxRecDepth 100000 in
set_option maxHeartbeats 4000000 in
theorem isOpt_any (F : Pf) (hF : F.Ok) (d : Nat) (hd : d < F.n) (A1 : Option Addr) (c1 : Nat) (A2 : Option Addr) (c2 : Nat) (w : World) (h : PfR w w.heap.size F A1 c1 A2 c2) :
    Calls Try.prog 61 #[pfV F A1 c1 A2 c2, .int .i64 (d : Int)] w (RetB (.bool true) w) := by
  obtain ⟨w1, hw1, hs1, hbw1, z0, z1, fr, bw⟩ := pbox_at h
  have HV := Lib.hid (fun y => validP_any F hF _ _ _ _ _ (fr y))
  have BW := Lib.hid bw
  have HOP := Lib.hid (fun y => options_any F hF _ _ _ _ _ (fr y))
  have hn6 := hF.n6
  unfold pfV
  unfold pfV at HV HOP
  clear hF h fr bw hbw1
  go_enter Try.func61, Try.ntmps61
  go_upto_region 1 with (fail)
  rw [← hw1]
  have HZ1 := Lib.hid hs1
  obtain ⟨x0, hx0⟩ : ∃ y : Aft w1, y.val = w1 := ⟨⟨w1, Below.refl _ _⟩, rfl⟩
  rw [← hx0]
  clear hx0 hw1 hs1
  go_wp2_with (fail)
  refine (aft_b (HV.out x0)).mono ?_
  rintro e _ ⟨rfl, x1, rfl⟩
  go_wp2_with (fail)
  refine (aft_b (HOP.out x1)).mono ?_
  rintro e _ ⟨rfl, x2, rfl⟩
  go_wp2_with (fail)
  refine (aft_q (in2_yes _ _ _ x2.val (by omega) (by omega))).mono ?_
  rintro e _ ⟨rfl, x3, rfl⟩
  go_wp2
  go_ret
  exact ⟨rfl, BW.out x3⟩
def winK (F : Pf) (k : Nat) : List Nat := (List.range k).filter (winB F)
theorem winK_snoc {F : Pf} {k : Nat} : winK F (k + 1) = if winB F k then winK F k ++ [k] else winK F k := by
  unfold winK
  rw [List.range_succ, List.filter_append]
  cases h : winB F k <;> simp [h]
theorem winK_len (F : Pf) (k : Nat) : (winK F k).length ≤ k := by
  have := List.length_filter_le (winB F) (List.range k)
  rw [List.length_range] at this
  exact this
def WinPost (F : Pf) (w : World) (e : Ending) (w' : World) : Prop :=
  ∃ g c, e = .returned (.tuple #[.slice (some ⟨g, 0, none⟩) (wins F).length c, .bool true]) ∧ NumO w' w.heap.size g c (barL (wins F)) ∧ Below w.heap.size w w'
set_option maxRecDepth 100000 in
set_option maxHeartbeats 8000000 in
theorem winners_any (F : Pf) (hF : F.Ok) (A1 : Option Addr) (c1 : Nat) (A2 : Option Addr) (c2 : Nat) (w : World) (h : PfR w w.heap.size F A1 c1 A2 c2) :
    Calls Try.prog 13 #[pfV F A1 c1 A2 c2] w (WinPost F w) := by
  obtain ⟨w1, hw1, hs1, hbw1, z0, z1, fr, bw⟩ := pbox_at h
  have HV := Lib.hid (fun y => validP_any F hF _ _ _ _ _ (fr y))
  have BW := Lib.hid bw
  have HST := Lib.hid (fun y => strengths_any F hF _ _ _ _ _ (fr y))
  have hn6 := hF.n6
  have HWE : Hid (wins F = winK F F.n) := Lib.hid rfl
  obtain ⟨i0, hi, hz0, hz1, hz2⟩ := info_parts Try.infoC64
  unfold pfV
  unfold pfV at HV HST
  clear hF h fr bw hbw1
  go_enter Try.func13, Try.ntmps13
  go_upto_region 1 with (fail)
  rw [← hw1]
  have HZ1 := Lib.hid hs1
  obtain ⟨x0, hx0⟩ : ∃ y : Aft w1, y.val = w1 := ⟨⟨w1, Below.refl _ _⟩, rfl⟩
  rw [← hx0]
  clear hx0 hw1 hs1
  go_wp2_with (fail)
  refine (aft_b (HV.out x0)).mono ?_
  rintro e _ ⟨rfl, x1, rfl⟩
  have hx11 := x1.ok.size
  have hbA : Below x1.val.heap.size x1.val (x1.val.alloc (.cells #[] 2)) := (Below.refl _ _).alloc (Nat.le_refl _) _
  have HXA := Lib.hid (below_then x1.ok hx11 hbA)
  have z0a := z0 ⟨_, HXA.out⟩
  have z1a := z1 ⟨_, HXA.out⟩
  have HSTA := Lib.hid (HST.out ⟨_, HXA.out⟩)
  have hsA : (x1.val.alloc (.cells #[] 2)).heap.size = x1.val.heap.size + 1 := by simp
  have HO0 := Lib.hid ((NumO.start x1.val).less (b := w1.heap.size) hx11)
  unfold MatPost at HSTA
  rw [hsA] at HSTA
  go_wp2_with (fail)
  refine HSTA.out.mono ?_
  rintro e w3 ⟨gm, cm, R, C, rfl, hmat, hb3⟩
  have HM3 := Lib.hid hmat
  have HO3 : Hid (NumO w3 w1.heap.size x1.val.heap.size 0 []) := Lib.hid (HO0.out.below (by rw [hsA]; exact hb3))
  have HB3 : Hid (Below w1.heap.size w1 w3) := Lib.hid (below_then HXA.out (by rw [hsA]; omega) (by rw [hsA]; exact hb3))
  generalize x1.val.heap.size = g0 at *
  have HNE : Hid ((∀ j, j < F.n → R j ≠ g0) ∧ gm ≠ g0) := Lib.hid ⟨fun j hj => by have := (HM3.out.lt j hj).1; omega, by have := HM3.out.lg.1; omega⟩
  clear hmat hb3 hbA HXA z0a z1a HSTA hsA HO0 HST HV hx11 x0
  go_wp2
  go_loopw [4, 6, 7, 8, 17] (fun o _ _ _ ii wr => ∃ (i g cap : Nat), i ≤ F.n ∧ ii = .int .i64 (i : Int) ∧ o = .slice (some ⟨g, 0, none⟩) (winK F i).length cap ∧ NumO wr w1.heap.size g cap (barL (winK F i)) ∧ MatR (g0 + 1) wr gm F.n R C (st F) ∧ ((∀ j, j < F.n → R j ≠ g) ∧ gm ≠ g) ∧ Below w1.heap.size w1 wr) (fun _ _ _ _ ii _ => F.n - (RowKit.intOf ii).toNat)
  case atStart => exact ⟨0, g0, 0, Nat.zero_le _, rfl, rfl, HO3.out, HM3.out, HNE.out, HB3.out⟩
  case round =>
    obtain ⟨i, g, cap, hi9, rfl, rfl, ho, hm, hne, hb⟩ := hrel
    have HO := Lib.hid ho
    have HM := Lib.hid hm
    have HNE2 := Lib.hid hne
    have HB := Lib.hid hb
    have hlen := winK_len F i
    have hbl : (barL (winK F i)).length = (winK F i).length := barL_len _
    clear ho hm hne hb HO3 HM3 HNE HB3
    by_cases hlti : i < F.n
    · have hii : (i : Int) < (F.n : Int) := by omega
      have hi00 : (0 : Int) ≤ (i : Int) := by omega
      have HWB : Hid (winB F i = (List.range F.n).all (fun k => decide (st F k i ≤ st F i k))) := Lib.hid rfl
      have HSN := Lib.hid (winK_snoc (F := F) (k := i))
      obtain ⟨x, hx⟩ : ∃ y : Aft wr, y.val = wr := ⟨⟨wr, Below.refl _ _⟩, rfl⟩
      have m1 := fun y : Aft wr => ((HM.out.below y.ok).top i hlti).1
      have hci := (HM.out.top i hlti).2.1
      generalize winB F i = wb at *
      rw [← hx]
      clear hx
      go_wp2
      go_loopw [7, 8, 22] (fun ws _ kk W => ∃ (k : Nat) (y : Aft wr), k ≤ F.n ∧ ws = .bool ((List.range k).all (fun k => decide (st F k i ≤ st F i k))) ∧ kk = .int .i64 (k : Int) ∧ W = y.val) (fun _ _ kk _ => F.n - (RowKit.intOf kk).toNat)
      case atStart => exact ⟨0, x, Nat.zero_le _, rfl, rfl, rfl⟩
      case round =>
        obtain ⟨k, y, hk, rfl, rfl, rfl⟩ := hrel
        by_cases hltk : k < F.n
        · have HNX : Hid ((List.range (k + 1)).all (fun k => decide (st F k i ≤ st F i k)) = ((List.range k).all (fun k => decide (st F k i ≤ st F i k)) && decide (st F k i ≤ st F i k))) := Lib.hid (by
            rw [List.range_succ, List.all_append]
            simp)
          have m2 := fun y : Aft wr => ((HM.out.below y.ok).top k hltk).1
          have m3 := fun y : Aft wr => (HM.out.below y.ok).get hlti hltk
          have m4 := fun y : Aft wr => (HM.out.below y.ok).get hltk hlti
          have hck := (HM.out.top k hltk).2.1
          have hkk : (k : Int) < (F.n : Int) := by omega
          have hk0 : (0 : Int) ≤ (k : Int) := by omega
          generalize (List.range k).all (fun k => decide (st F k i ≤ st F i k)) = r at *
          generalize st F i k = p1 at *
          generalize st F k i = p2 at *
          cases r with
          | false =>
            go_upto_region 11 with (fail)
            refine wp_region_at (by kernel_rfl) (by kernel_rfl) ?_
            repeat (go_big_quiet_step (fail))
            refine wpQuiet_nil ?_
            rintro _ ⟨y2, rfl⟩
            go_wp2
            go_roundw
            case rel => exact ⟨k + 1, y2, by omega, by rw [HNX.out]; rfl, by go_num, rfl⟩
            case measure => simp [RowKit.intOf]; omega
          | true =>
            by_cases hp : p2 ≤ p1
            · have hd1 : decide (p2 ≤ p1) = true := decide_eq_true hp
              have hd2 : decide ((p2 : Int) ≤ (p1 : Int)) = true := decide_eq_true (by omega)
              have hd3 : (p2 : Int) ≤ (p1 : Int) := by omega
              rw [hd1] at HNX
              go_upto_region 11 with (fail)
              refine wp_region_at (by kernel_rfl) (by kernel_rfl) ?_
              repeat (go_big_quiet_step (fail))
              refine wpQuiet_nil ?_
              rintro _ ⟨y2, rfl⟩
              go_wp2
              go_roundw
              case rel => exact ⟨k + 1, y2, by omega, by rw [HNX.out]; rfl, by go_num, rfl⟩
              case measure => simp [RowKit.intOf]; omega
            · have hd1 : decide (p2 ≤ p1) = false := decide_eq_false hp
              have hd2 : decide ((p2 : Int) ≤ (p1 : Int)) = false := decide_eq_false (by omega)
              have hd3 : ¬ (p2 : Int) ≤ (p1 : Int) := by omega
              rw [hd1] at HNX
              go_upto_region 11 with (fail)
              refine wp_region_at (by kernel_rfl) (by kernel_rfl) ?_
              repeat (go_big_quiet_step (fail))
              refine wpQuiet_nil ?_
              rintro _ ⟨y2, rfl⟩
              go_wp2
              go_roundw
              case rel => exact ⟨k + 1, y2, by omega, by rw [HNX.out]; rfl, by go_num, rfl⟩
              case measure => simp [RowKit.intOf]; omega
        · have hge : ¬ (k : Int) < (F.n : Int) := by omega
          obtain rfl : k = F.n := by omega
          rw [← HWB.out]
          have HO2 := Lib.hid (HO.out.below y.ok)
          have HM2 := Lib.hid (HM.out.below y.ok)
          have HB2 := Lib.hid (below_then HB.out HB.out.size y.ok)
          have hy2 := HB2.out.size
          generalize y.val = w5 at *
          clear hltk m1
          cases wb with
          | false =>
            have HSS : Hid (winK F (i + 1) = winK F i) := Lib.hid HSN.out
            go_wp2
            go_roundw
            case rel => exact ⟨i + 1, g, cap, by omega, by go_num, by rw [HSS.out], by rw [HSS.out]; exact HO2.out, HM2.out, HNE2.out, HB2.out⟩
            case measure => simp [RowKit.intOf]; omega
          | true =>
            have HSS : Hid (winK F (i + 1) = winK F i ++ [i]) := Lib.hid HSN.out
            have HROW := Lib.hid HO2.out.row
            rw [hbl] at HROW
            clear HSN
            go_wp2_with (at_builtin; refine wpList_append_own_at _ rfl _ _ 25 rfl w1.heap.size 2 i0 (.int .i64 0) 1 8 Try.underlying25 hi hz0 hz1 hz2 rfl (by decide) _ _ _ rfl (HROW.out.alloc _) ⟨w5.heap.size, 0, none⟩ 1 1 (intCells (i : Int)) rfl rfl (fun j u hj => new_at hj) (fun u hu => int_one' _ hu) ?c3 ?c4 (base_le hy2) ?_)
            case c3 => unfold maxLen; omega
            case c4 => omega
            intro v' w9 hown' hgrow hiff hor
            obtain ⟨g9, cap9, rfl, hdc9, hcm9⟩ := own_some hown' (by simpa using hiff)
            have hbA9 : Below w5.heap.size w5 (w5.alloc (.cells #[.int .i64 (i : Int)] 2)) := (Below.refl _ _).alloc (Nat.le_refl _) _
            have hMA := HM2.out.below hbA9
            have HB9 := Lib.hid ((HB2.out.alloc hy2 (.cells #[.int .i64 (i : Int)] 2)).grown hgrow (base_le hy2) (fun j hj => (HROW.out.lt j hj).1))
            have HO9 : Hid (NumO w9 w1.heap.size g9 cap9 (barL (winK F (i + 1)))) := Lib.hid (by
              unfold NumO
              rw [HSS.out, barL_snoc', flat_snoc, List.length_append, hbl]
              exact hown')
            have HL9 : Hid ((winK F (i + 1)).length = (winK F i).length + 1) := Lib.hid (by rw [HSS.out, List.length_append]; rfl)
            have hg9 : g9 = g ∨ g9 = w5.heap.size + 1 := by rcases hor with h | h <;> injection h with h; exact .inl h; exact .inr (by simpa using h)
            have HM9 := Lib.hid (hMA.touch (P := fun b => b = g) (Touch.of_grown hgrow (fun b hb => by injection hb with hb; exact hb.symm)) (fun j hj => HNE2.out.1 j hj) HNE2.out.2)
            have HNE9 : Hid ((∀ j, j < F.n → R j ≠ g9) ∧ gm ≠ g9) := Lib.hid (by
              rcases hg9 with e | e
              · rw [e]; exact HNE2.out
              · rw [e]
                exact ⟨fun j hj => by have := (HM2.out.lt j hj).2.1; omega, by have := HM2.out.lg.2; omega⟩)
            clear hown' hgrow hiff hor hg9 hMA hbA9
            go_wp2
            go_roundw
            case rel => exact ⟨i + 1, g9, cap9, by omega, by go_num, by rw [HL9.out], HO9.out, HM9.out, HNE9.out, HB9.out⟩
            case measure => simp [RowKit.intOf]; omega
    · have hge : ¬ (i : Int) < (F.n : Int) := by omega
      obtain rfl : i = F.n := by omega
      rw [← HWE.out] at *
      have HBE := Lib.hid (BW.out ⟨wr, HB.out⟩)
      have hz := HZ1.out
      go_wp2
      go_ret2
      exact ⟨g, cap, rfl, HO.out.less (by omega), HBE.out⟩
end Go.Proofs.Ytlbnebmdolnagaa

namespace Go.Proofs.Ytlbnebmdolnagaa
open Go.RowKit Go.Lib

theorem dropR_snoc (d x : Nat) (l : List Nat) : dropR d (l ++ [x]) = if x = d then dropR d l else dropR d l ++ [dn d x] := by
  unfold dropR
  rw [List.filter_append, List.map_append]
  by_cases h : x = d
  · rw [if_pos h, List.filter_cons, if_neg (by simp [h])]; simp
  · rw [if_neg h, List.filter_cons, if_pos (by simp [h])]; simp
theorem dropR_len (d : Nat) (l : List Nat) : (dropR d l).length ≤ l.length := by
  unfold dropR
  rw [List.length_map]
  exact List.length_filter_le _ _
/-- A tree that grows by append, nil at first. -/
def TreeV {β : Type} (K : Kind β) (te : TypeId) (base : Nat) (w : World) (v : Value) (L : List β) : Prop :=
  (v = .slice none 0 0 ∧ L = []) ∨ ∃ g cap, v = .slice (some ⟨g, 0, none⟩) L.length cap ∧ TreeW K te base w g cap L
theorem TreeV.below {β : Type} {K : Kind β} {te : TypeId} {base : Nat} {w w' : World} {v : Value} {L : List β} (h : TreeV K te base w v L) (hb : Below w.heap.size w w') : TreeV K te base w' v L := by
  rcases h with h | ⟨g, cap, e, h⟩
  · exact .inl h
  · exact .inr ⟨g, cap, e, h.below hb⟩
theorem TreeW.first {β : Type} {K : Kind β} {te : TypeId} {base : Nat} {w w' : World} {g' cap' : Nat} {x : β} (hg : w.grownBy w' none) (hor : g' = w.heap.size)
    (hrow : w'.ownsRow base te K.size (.slice (some ⟨g', 0, none⟩) 1 cap') 1 (K.cells x)) (hx : K.inn base w x) : TreeW K te base w' g' cap' [x] := by
  have ht : Touch (fun _ => False) w w' := Touch.of_grown hg (fun b hb => by cases hb)
  refine ⟨by simpa using hrow, fun y hy => ?_, fun y hy b hb => ?_, List.pairwise_singleton _ _⟩
  · rw [List.mem_singleton.1 hy]
    exact K.touch hx ht (fun b hb e => e)
  · rw [List.mem_singleton.1 hy] at hb
    have := (K.lt hx hb).2
    omega
theorem TreeW.far {β : Type} {K : Kind β} {te : TypeId} {base : Nat} {w w' : World} {g cap : Nat} {L : List β} {P : Nat → Prop} (h : TreeW K te base w g cap L) (ht : Touch P w w') (hP : ∀ b, P b → b < base) : TreeW K te base w' g cap L :=
  ⟨own_touchC h.row ht (fun b hb e => by
    injection hb with hb
    have := hP b e
    have := h.lt.1
    have hb : g = b := hb
    omega), fun x hx => K.touch (h.inn x hx) ht (fun c hc e => by have := hP c e; have := (K.lt (h.inn x hx) hc).1; omega), h.out, h.two⟩
def DropPost (F : Pf) (d : Nat) (w : World) (e : Ending) (w' : World) : Prop :=
  ∃ A1 c1 A2 c2, e = .returned (.tuple #[pfV (less F d) A1 c1 A2 c2, .bool true]) ∧ PfR w' w'.heap.size (less F d) A1 c1 A2 c2 ∧ Below w.heap.size w w'
set_option maxRecDepth 100000 in
set_option maxHeartbeats 8000000 in
theorem drop_any (F : Pf) (hF : F.Ok) (d : Nat) (hd : d < F.n) (hn2 : 2 ≤ F.n) (A1 : Option Addr) (c1 : Nat) (A2 : Option Addr) (c2 : Nat) (w : World) (h : PfR w w.heap.size F A1 c1 A2 c2) :
    Calls Try.prog 15 #[pfV F A1 c1 A2 c2, .int .i64 (d : Int)] w (DropPost F d w) := by
  obtain ⟨q1, q2, q3, q4, b1, o1, b2, o2, hc⟩ := h.cells hF
  obtain ⟨rfl, rfl, hrow, hwt⟩ := hc
  obtain ⟨w1, hw1, hs1, hbw1, z0, z1, fr, bw⟩ := pbox_at h
  have HIO := Lib.hid (fun y => isOpt_any F hF d hd _ _ _ _ _ (fr y))
  have HOP := Lib.hid (fun y => options_any F hF _ _ _ _ _ (fr y))
  have HFR := Lib.hid fr
  have BW := Lib.hid bw
  have HF := Lib.hid hF
  have HROWS := Lib.hid hrow
  have HWL := Lib.hid hF.wl
  have hl1 := hF.l1
  have hl12 := hF.l12
  have hn6 := hF.n6
  obtain ⟨i0, hi, hz0, hz1, hz2⟩ := info_parts Try.infoI
  obtain ⟨r0, hri, hr0, hr1, hr2⟩ := info_parts Try.infoFr
  have hb10 : Below w1.heap.size w1 (w1.alloc (.cells #[.slice none 0 0, .slice none 0 0] 27)) := (Below.refl _ _).alloc (Nat.le_refl _) _
  have hn1b : ((F.n : Int) == 1) = false := by rw [beq_eq_false_iff_ne]; omega
  have t0 : (w1.alloc (.cells #[.slice none 0 0, .slice none 0 0] 27)).cell? ⟨w1.heap.size, 0, none⟩ = some (.slice none 0 0) := new_at (j := 0) rfl
  have t1 : (w1.alloc (.cells #[.slice none 0 0, .slice none 0 0] 27)).cell? ⟨w1.heap.size, 1, none⟩ = some (.slice none 0 0) := new_at (j := 1) rfl
  unfold pfV
  unfold pfV at HIO HOP
  clear hF h fr bw hbw1 hrow hwt
  go_enter Try.func15, Try.ntmps15
  go_upto_region 1 with (fail)
  rw [← hw1]
  have HZ1 := Lib.hid hs1
  obtain ⟨w2, hw2⟩ : ∃ X, X = w1.alloc (.cells #[.slice none 0 0, .slice none 0 0] 27) := ⟨_, rfl⟩
  have hs2 : w2.heap.size = w1.heap.size + 1 := by rw [hw2]; simp
  have HS2 : Hid (w2.heap.size = w.heap.size + 2) := Lib.hid (by omega)
  rw [← hw2] at hb10 t0 t1
  have f0 : ∀ y : Aft w2, y.val.frozen? ⟨w1.heap.size, 0, none⟩ = false := fun y => by rw [y.frozen (by omega)]; rw [hw2]; simp [go_sem]
  have f1 : ∀ y : Aft w2, y.val.frozen? ⟨w1.heap.size, 1, none⟩ = false := fun y => by rw [y.frozen (by omega)]; rw [hw2]; simp [go_sem]
  have T0 := fun y : Aft w2 => y.cell t0
  have T1 := fun y : Aft w2 => y.cell t1
  have UP : Hid (∀ y : Aft w2, Below w1.heap.size w1 y.val) := Lib.hid (fun y => below_then hb10 hb10.size y.ok)
  have Z0 : ∀ y : Aft w2, y.val.cell? ⟨w.heap.size, 0, none⟩ = some (.slice (some ⟨b1, o1, none⟩) F.L.length c1) := fun y => z0 ⟨y.val, UP.out y⟩
  have Z1 : ∀ y : Aft w2, y.val.cell? ⟨w.heap.size, 1, none⟩ = some (.slice (some ⟨b2, o2, none⟩) F.L.length c2) := fun y => z1 ⟨y.val, UP.out y⟩
  have HIO2 := Lib.hid (fun y : Aft w2 => HIO.out ⟨y.val, UP.out y⟩)
  have HOP2 := Lib.hid (fun y : Aft w2 => HOP.out ⟨y.val, UP.out y⟩)
  have HFR2 := Lib.hid (fun y : Aft w2 => HFR.out ⟨y.val, UP.out y⟩)
  have BW2 := Lib.hid (fun y : Aft w2 => BW.out ⟨y.val, UP.out y⟩)
  obtain ⟨x0, hx0⟩ : ∃ y : Aft w2, y.val = w2 := ⟨⟨w2, Below.refl _ _⟩, rfl⟩
  rw [← hw2, ← hx0]
  simp only [hs1] at *
  clear hx0 hw2 hw1 hs1 z0 z1 t0 t1 hb10 HIO HOP HFR BW
  go_wp2_with (fail)
  refine (aft_b (HIO2.out x0)).mono ?_
  rintro e _ ⟨rfl, x1, rfl⟩
  go_wp2_with (fail)
  refine (aft_b (HOP2.out x1)).mono ?_
  rintro e _ ⟨rfl, x2, rfl⟩
  have hbx : Below x2.val.heap.size x2.val (x2.val.alloc (.cells #[] 2)) := (Below.refl _ _).alloc (Nat.le_refl _) _
  have HXA := Lib.hid (below_then x2.ok x2.ok.size hbx)
  have Z1a : (x2.val.alloc (.cells #[] 2)).cell? ⟨w.heap.size, 1, none⟩ = some (.slice (some ⟨b2, o2, none⟩) F.L.length c2) := Z1 ⟨_, HXA.out⟩
  have hown0 : (x2.val.alloc (.cells #[] 2)).ownsRow x2.val.heap.size 2 1 (.slice (some ⟨x2.val.heap.size, 0, none⟩) 0 0) 0 [] := by simpa using World.ownsRow_made x2.val #[] 0 (Nat.le_refl _) (Nat.zero_le _) rfl
  have HOWN0 := Lib.hid hown0
  have HS0 := Lib.hid (HFR2.out ⟨_, HXA.out⟩).wts
  have HWLB : Hid ((barL F.W).length = F.L.length) := Lib.hid (by rw [barL_len]; exact HWL.out)
  have HB0 := Lib.hid hbx
  clear hown0 hbx
  go_wp2_with (at_builtin; refine wpList_append_slR intCells rfl _ _ 25 rfl x2.val.heap.size 2 i0 (.int .i64 0) 1 8 Try.underlying25 hi hz0 hz1 hz2 rfl (by decide) _ _ _ rfl HOWN0.out _ (barL F.W) _ rfl HS0.out (fun _ => rfl) (fun y u hu => int_one' _ hu) ?c3 ?c4 HB0.out.size ?_)
  case c3 => have := HWLB.out; unfold maxLen; omega
  case c4 => have := HWLB.out; omega
  intro v5 w5 hown5 hgrow5 hnn5
  have hown5' : w5.ownsRow x2.val.heap.size 2 1 v5 (barL F.W).length ((barL F.W).flatMap intCells) := by simpa using hown5
  obtain ⟨A5, c5, rfl, hc5, hm5⟩ := own_len hown5'
  have HI5 := Lib.hid ((OwnL.of_own intCells (size := 1) (fun _ => rfl) hown5').slR (size := 1) (fun _ => rfl))
  have HOW5 := Lib.hid ((OwnL.of_own intCells (size := 1) (fun _ => rfl) hown5').less x2.ok.size)
  rw [HWLB.out] at hc5 HI5 HOW5
  have HB5 := Lib.hid (below_then x2.ok x2.ok.size (HB0.out.grown hgrow5 HB0.out.size (fun j hj => (HOWN0.out.lt j hj).1)))
  obtain ⟨x5, rfl⟩ : ∃ y : Aft w2, y.val = w5 := ⟨⟨w5, HB5.out⟩, rfl⟩
  rw [HWLB.out]
  clear hown5 hown5' hgrow5 hnn5 HOWN0 HS0 HB0 HB5 Z1a HXA HIO2 HOP2
  have hz5 := x5.ok.size
  obtain ⟨w5, hw5⟩ : ∃ X, X = x5.val := ⟨_, rfl⟩
  have up5 : Hid (∀ y : Aft w5, Below w2.heap.size w2 y.val) := Lib.hid (fun y => below_then x5.ok hz5 (by rw [← hw5]; exact y.ok))
  rw [← hw5] at HI5 hz5 HOW5
  have S0 : ∀ y : Aft w5, y.val.cell? ⟨w.heap.size + 1, 0, none⟩ = some (.slice none 0 0) := fun y => T0 ⟨y.val, up5.out y⟩
  have S1 : ∀ y : Aft w5, y.val.cell? ⟨w.heap.size + 1, 1, none⟩ = some (.slice none 0 0) := fun y => T1 ⟨y.val, up5.out y⟩
  have g0 : ∀ y : Aft w5, y.val.frozen? ⟨w.heap.size + 1, 0, none⟩ = false := fun y => f0 ⟨y.val, up5.out y⟩
  have g1 : ∀ y : Aft w5, y.val.frozen? ⟨w.heap.size + 1, 1, none⟩ = false := fun y => f1 ⟨y.val, up5.out y⟩
  have Y0 : ∀ y : Aft w5, y.val.cell? ⟨w.heap.size, 0, none⟩ = some (.slice (some ⟨b1, o1, none⟩) F.L.length c1) := fun y => Z0 ⟨y.val, up5.out y⟩
  have BW5 := Lib.hid (fun y : Aft w5 => BW2.out ⟨y.val, up5.out y⟩)
  have HR0 : Hid (Row (w5.alloc (.cells #[.slice none 0 0, .slice A5 F.L.length c5] 27)) w5.heap.size [.slice none 0 0, .slice A5 F.L.length c5]) := Lib.hid (Row.new w5 #[.slice none 0 0, .slice A5 F.L.length c5] 27)
  have HBA : Hid (Below w5.heap.size w5 (w5.alloc (.cells #[.slice none 0 0, .slice A5 F.L.length c5] 27))) := Lib.hid ((Below.refl _ _).alloc (Nat.le_refl _) _)
  have Y0a : (w5.alloc (.cells #[.slice none 0 0, .slice A5 F.L.length c5] 27)).cell? ⟨w.heap.size, 0, none⟩ = some (.slice (some ⟨b1, o1, none⟩) F.L.length c1) := Y0 ⟨_, HBA.out⟩
  rw [← hw5]
  clear hw5 x5 T0 T1 f0 f1 Z0 Z1 BW2 HFR2
  go_wp2
  go_loopw [8, 9, 11, 30] (fun _ _ _ kk wr => ∃ (k : Nat) (vr : Value) (T : List VRow), k ≤ F.L.length ∧ kk = .int .i64 (k : Int) ∧ T.length = k ∧ T.map (·.a) = ((F.L.take k).map (dropR d)).map barL ∧ Row wr w5.heap.size [vr, .slice A5 F.L.length c5] ∧ TreeV kRow 25 (w5.heap.size + 1) wr vr T ∧ Below w5.heap.size w5 wr ∧ w5.heap.size < wr.heap.size) (fun _ _ _ kk _ => F.L.length - (RowKit.intOf kk).toNat)
  case atStart => exact ⟨0, _, [], Nat.zero_le _, rfl, rfl, rfl, HR0.out, .inl ⟨rfl, rfl⟩, HBA.out, by simp⟩
  case round =>
    obtain ⟨k, vr, T, hk, rfl, hTk, hmap, hrw, htv, hb, hl5⟩ := hrel
    generalize wr = wo at *
    have HMAP := Lib.hid hmap
    have HRW := Lib.hid hrw
    have HTV := Lib.hid htv
    have HB := Lib.hid hb
    have HTL := Lib.hid hTk
    clear hmap hrw htv hb hTk HR0 HBA Y0a
    by_cases hlt : k < F.L.length
    · have hget : F.L[k]? = some F.L[k] := List.getElem?_eq_getElem hlt
      obtain ⟨b3, o3, c3, v0, hc3, hm3, _, hlc⟩ := HROWS.out k _ hget
      have v0 := fun y : Aft w5 => v0 y.val (BW5.out y)
      have hperm := HF.out.perm _ (List.getElem_mem hlt)
      have hln : F.L[k].length = F.n := by rw [hperm.length_eq, List.length_range]
      have HLN : Hid (∀ x ∈ F.L[k], x < F.n) := Lib.hid (fun x hx => List.mem_range.1 (hperm.mem_iff.1 hx))
      have HLC := Lib.hid hlc
      have HTKE := Lib.hid (List.take_succ_eq_append_getElem hlt)
      have hki : (k : Int) < (F.L.length : Int) := by omega
      have hk0 : (0 : Int) ≤ (k : Int) := by omega
      generalize F.L[k] = l at *
      obtain ⟨xr, hxr⟩ : ∃ y : Aft w5, y.val = wo := ⟨⟨wo, HB.out⟩, rfl⟩
      have v0r := v0 xr
      rw [hxr] at v0r
      have HO0 := Lib.hid (NumO.start wo)
      have HBN : Hid (Below wo.heap.size wo (wo.alloc (.cells #[] 2))) := Lib.hid ((Below.refl _ _).alloc (Nat.le_refl _) _)
      clear hget hlc hperm hxr xr
      go_wp2
      go_loopw [9, 11, 37] (fun o _ jj wr => ∃ (j g cap : Nat), j ≤ F.n ∧ jj = .int .i64 (j : Int) ∧ o = .slice (some ⟨g, 0, none⟩) (dropR d (l.take j)).length cap ∧ NumO wr wo.heap.size g cap (barL (dropR d (l.take j))) ∧ Below wo.heap.size wo wr) (fun _ _ jj _ => F.n - (RowKit.intOf jj).toNat)
      case atStart => exact ⟨0, wo.heap.size, 0, Nat.zero_le _, rfl, rfl, HO0.out, HBN.out⟩
      case round =>
        obtain ⟨j, g, cap, hj, rfl, rfl, ho, hbi⟩ := hrel
        have HOI := Lib.hid ho
        have HBI := Lib.hid hbi
        have hwi := hbi.size
        have hlen := dropR_len d (l.take j)
        rw [List.length_take] at hlen
        have hbl : (barL (dropR d (l.take j))).length = (dropR d (l.take j)).length := barL_len _
        clear ho hbi HO0 HBN
        by_cases hltj : j < F.n
        · have hgj : l[j]? = some (l[j]'(by omega)) := List.getElem?_eq_getElem (by omega)
          have u0 := HLC.out j _ hgj wr (BW5.out ⟨wr, below_then HB.out HB.out.size HBI.out⟩)
          have HTJ : Hid (l.take (j + 1) = l.take j ++ [l[j]'(by omega)]) := Lib.hid (List.take_succ_eq_append_getElem (by omega))
          have HDS : Hid (dropR d (l.take (j + 1)) = if l[j]'(by omega) = d then dropR d (l.take j) else dropR d (l.take j) ++ [dn d (l[j]'(by omega))]) := Lib.hid (by rw [HTJ.out, dropR_snoc])
          have hji : (j : Int) < (F.n : Int) := by omega
          have hj0 : (0 : Int) ≤ (j : Int) := by omega
          have HROW := Lib.hid HOI.out.row
          rw [hbl] at HROW
          have hx20 : (l[j]'(by omega)) < F.n := HLN.out _ (List.getElem_mem _)
          generalize l[j]'(by omega) = x at *
          clear hgj
          by_cases h1 : x < d
          · have hd1 : decide (x < d) = true := decide_eq_true h1
            have hd2 : (x : Int) < (d : Int) := by omega
            obtain ⟨z, hz⟩ : ∃ z, z = x := ⟨_, rfl⟩
            have HSS : Hid (dropR d (l.take (j + 1)) = dropR d (l.take j) ++ [z]) := Lib.hid (by rw [HDS.out, if_neg (by omega), hz]; unfold dn; rw [if_neg (by omega)])
            subst hz
            go_wp2_with (at_builtin; refine wpList_append_own_at _ rfl _ _ 25 rfl wo.heap.size 2 i0 (.int .i64 0) 1 8 Try.underlying25 hi hz0 hz1 hz2 rfl (by decide) _ _ _ rfl (HROW.out.alloc _) ⟨wr.heap.size, 0, none⟩ 1 1 (intCells (z : Int)) rfl rfl (fun j u hj => new_at hj) (fun u hu => int_one' _ hu) ?c3 ?c4 (base_le hwi) ?_)
            case c3 => unfold maxLen; omega
            case c4 => omega
            intro v' w9 hown' hgrow hiff hor
            obtain ⟨g9, cap9, rfl, hdc9, hcm9⟩ := own_some hown' (by simpa using hiff)
            have HB9 := Lib.hid ((HBI.out.alloc hwi (.cells #[.int .i64 (z : Int)] 2)).grown hgrow (base_le hwi) (fun j hj => (HROW.out.lt j hj).1))
            have HO9 : Hid (NumO w9 wo.heap.size g9 cap9 (barL (dropR d (l.take (j + 1))))) := Lib.hid (by
              unfold NumO
              rw [HSS.out, barL_snoc', flat_snoc, List.length_append, hbl]
              exact hown')
            have HL9 : Hid ((dropR d (l.take (j + 1))).length = (dropR d (l.take j)).length + 1) := Lib.hid (by rw [HSS.out, List.length_append]; rfl)
            clear hown' hgrow hiff hor
            go_wp2
            go_roundw
            case rel => exact ⟨j + 1, g9, cap9, by omega, by go_num, by rw [HL9.out], HO9.out, HB9.out⟩
            case measure => simp [RowKit.intOf]; omega
          · have hd1 : decide (x < d) = false := decide_eq_false h1
            have hd2 : ¬ (x : Int) < (d : Int) := by omega
            by_cases h2 : d < x
            · have hd3 : decide (d < x) = true := decide_eq_true h2
              have hd4 : (d : Int) < (x : Int) := by omega
              obtain ⟨z, hz⟩ : ∃ z, z = x - 1 := ⟨_, rfl⟩
              have HSS : Hid (dropR d (l.take (j + 1)) = dropR d (l.take j) ++ [z]) := Lib.hid (by rw [HDS.out, if_neg (by omega), hz]; unfold dn; rw [if_pos (by omega)])
              have hzw : IntKind.i64.wrap ((x : Int) - 1) = (z : Int) := by rw [IntKind.wrap_i64]; omega
              have hze : (x : Int) - 1 = (z : Int) := by omega
              clear hz
              go_wp2_with (at_builtin; refine wpList_append_own_at _ rfl _ _ 25 rfl wo.heap.size 2 i0 (.int .i64 0) 1 8 Try.underlying25 hi hz0 hz1 hz2 rfl (by decide) _ _ _ rfl (HROW.out.alloc _) ⟨wr.heap.size, 0, none⟩ 1 1 (intCells (z : Int)) rfl rfl (fun j u hj => new_at hj) (fun u hu => int_one' _ hu) ?c3 ?c4 (base_le hwi) ?_)
              case c3 => unfold maxLen; omega
              case c4 => omega
              intro v' w9 hown' hgrow hiff hor
              obtain ⟨g9, cap9, rfl, hdc9, hcm9⟩ := own_some hown' (by simpa using hiff)
              have HB9 := Lib.hid ((HBI.out.alloc hwi (.cells #[.int .i64 (z : Int)] 2)).grown hgrow (base_le hwi) (fun j hj => (HROW.out.lt j hj).1))
              have HO9 : Hid (NumO w9 wo.heap.size g9 cap9 (barL (dropR d (l.take (j + 1))))) := Lib.hid (by
                unfold NumO
                rw [HSS.out, barL_snoc', flat_snoc, List.length_append, hbl]
                exact hown')
              have HL9 : Hid ((dropR d (l.take (j + 1))).length = (dropR d (l.take j)).length + 1) := Lib.hid (by rw [HSS.out, List.length_append]; rfl)
              clear hown' hgrow hiff hor
              go_wp2
              go_roundw
              case rel => exact ⟨j + 1, g9, cap9, by omega, by go_num, by rw [HL9.out], HO9.out, HB9.out⟩
              case measure => simp [RowKit.intOf]; omega
            · have hd3 : decide (d < x) = false := decide_eq_false h2
              have hd4 : ¬ (d : Int) < (x : Int) := by omega
              have HSS : Hid (dropR d (l.take (j + 1)) = dropR d (l.take j)) := Lib.hid (by rw [HDS.out, if_pos (by omega)])
              go_wp2
              go_roundw
              case rel => exact ⟨j + 1, g, cap, by omega, by go_num, by rw [HSS.out], by rw [HSS.out]; exact HOI.out, HBI.out⟩
              case measure => simp [RowKit.intOf]; omega
        · have hge : ¬ (j : Int) < (F.n : Int) := by omega
          have HEND : Hid (l.take j = l) := Lib.hid (List.take_of_length_le (by omega))
          rw [HEND.out] at HOI hlen hbl ⊢
          have hbA : Below wr.heap.size wr (wr.alloc (.cells #[.slice (some ⟨g, 0, none⟩) (dropR d l).length cap] 25)) := (Below.refl _ _).alloc (Nat.le_refl _) _
          have hbiA : Below wo.heap.size wo (wr.alloc (.cells #[.slice (some ⟨g, 0, none⟩) (dropR d l).length cap] 25)) := below_then HBI.out hwi hbA
          have hwA := hbiA.size
          have HRWI := Lib.hid (HRW.out.below HBI.out hl5)
          have HRWA := Lib.hid (HRW.out.below hbiA hl5)
          have HBA5 := Lib.hid (below_then HB.out HB.out.size hbiA)
          have k0 := HRWI.out.cell 0 _ rfl
          have HOX : Hid (kRow.inn (w5.heap.size + 1) (wr.alloc (.cells #[.slice (some ⟨g, 0, none⟩) (dropR d l).length cap] 25)) (⟨barL (dropR d l), .slice (some ⟨g, 0, none⟩) (dropR d l).length cap⟩ : VRow)) := Lib.hid (by
            have h1 := (HOI.out.own.less (b := w5.heap.size + 1) (by omega)).on hbA
            rw [barL_len] at h1
            exact h1)
          have HBG : Hid (∀ b, kRow.blk (⟨barL (dropR d l), .slice (some ⟨g, 0, none⟩) (dropR d l).length cap⟩ : VRow) b → b = g) := Lib.hid (fun b hb => by
            have := hb.2
            injection this with this
            exact this.symm)
          have hgwr : wo.heap.size ≤ g := (HOI.out.row.lt g rfl).1
          have hw5A : w5.heap.size + 1 ≤ (wr.alloc (.cells #[.slice (some ⟨g, 0, none⟩) (dropR d l).length cap] 25)).heap.size := by omega
          rcases HTV.out with ⟨rfl, hnil⟩ | ⟨gt, ct, rfl, htw⟩
          · have HNIL := Lib.hid hnil
            clear HTV hnil
            go_wp2_with (at_builtin; refine wpList_append_own_at _ rfl _ _ 24 rfl (w5.heap.size + 1) 25 r0 (.slice none 0 0) 1 24 Try.underlying24 hri hr0 hr1 hr2 rfl (by decide) _ _ _ rfl (World.ownsRow_nil _ _ _ _) ⟨wr.heap.size, 0, none⟩ 1 1 (rCells ⟨barL (dropR d l), .slice (some ⟨g, 0, none⟩) (dropR d l).length cap⟩) rfl rfl (fun j u hj => new_at hj) (fun u hu => by simp [rCells] at hu; subst hu; rfl) ?c5 ?c6 hw5A ?_)
            case c5 => unfold maxLen; omega
            intro v' w9 hown' hgrow hiff hor
            obtain ⟨g', cap', rfl, hdc', hcm'⟩ := own_some hown' (by simpa using hiff)
            have HP9 : Hid (TreeW kRow 25 (w5.heap.size + 1) w9 g' cap' (T ++ [⟨barL (dropR d l), .slice (some ⟨g, 0, none⟩) (dropR d l).length cap⟩])) := Lib.hid (by
              rw [HNIL.out]
              refine TreeW.first hgrow ?_ (by exact hown') HOX.out
              rcases hor with h | h
              · cases h
              · injection h with h
                simpa using h)
            have HRW9 : Hid (Row w9 w5.heap.size [.slice none 0 0, .slice A5 F.L.length c5]) := Lib.hid (HRWA.out.sameC (hgrow.block _ (by omega) (fun e => by cases e)))
            have hlA := hgrow.size
            have HBT := Lib.hid (HBA5.out.grown hgrow (by omega) (fun j hj => by cases hj))
            clear hown' hgrow hiff hor hbA hbiA
            have HB10 := Lib.hid (HBT.out)
            have hrow10 := HRW9.out
            have e0 := hrow10.cell 0 _ rfl
            have g0 := hrow10.free 0 (by simp)
            have htb : Touch (fun c => c = w5.heap.size) w9 (w9.setCell ⟨w5.heap.size, 0, none⟩ (.slice (some ⟨g', 0, none⟩) (1) cap')) := Touch.setCell (F := fun c => c = w5.heap.size) (Touch.refl _ _) rfl _
            have HT10 := Lib.hid (HP9.out.far htb (fun b hb => by omega))
            have HRW10 := Lib.hid (hrow10.set 0 (.slice (some ⟨g', 0, none⟩) (1) cap') (by simp))
            have HM10 : Hid ((T ++ [(⟨barL (dropR d l), .slice (some ⟨g, 0, none⟩) (dropR d l).length cap⟩ : VRow)]).map (·.a) = ((F.L.take (k + 1)).map (dropR d)).map barL) := Lib.hid (by
              rw [List.map_append, HMAP.out, HTKE.out, List.map_append, List.map_append]
              rfl)
            have HB11 := Lib.hid (HB10.out.setCell (p := ⟨w5.heap.size, 0, none⟩) (Nat.le_refl _) (.slice (some ⟨g', 0, none⟩) (1) cap'))
            have hl9 : w5.heap.size < w9.heap.size := by omega
            clear hrow10 htb
            go_wp2
            go_roundw
            case rel => exact ⟨k + 1, .slice (some ⟨g', 0, none⟩) (1) cap', T ++ [⟨barL (dropR d l), .slice (some ⟨g, 0, none⟩) (dropR d l).length cap⟩], by omega, by go_num, by rw [List.length_append, HTL.out]; rfl, HM10.out, HRW10.out, .inr ⟨g', cap', by rw [HNIL.out]; rfl, HT10.out⟩, HB11.out, by simpa using hl9⟩
            case measure => simp [RowKit.intOf]; omega
          · clear HTV
            have HTA := Lib.hid ((htw.below HBI.out).below hbA)
            have hgt := htw.lt
            have HRL := Lib.hid HTA.out.row
            have HHLT := Lib.hid (fun z (hz : z ∈ T) c (hc : kRow.blk z c) => (kRow.lt (htw.inn z hz) hc).2)
            clear htw
            go_wp2_with (at_builtin; refine wpList_append_own_at _ rfl _ _ 24 rfl (w5.heap.size + 1) 25 r0 (.slice none 0 0) 1 24 Try.underlying24 hri hr0 hr1 hr2 rfl (by decide) _ _ _ rfl HRL.out ⟨wr.heap.size, 0, none⟩ 1 1 (rCells ⟨barL (dropR d l), .slice (some ⟨g, 0, none⟩) (dropR d l).length cap⟩) rfl rfl (fun j u hj => new_at hj) (fun u hu => by simp [rCells] at hu; subst hu; rfl) ?c7 ?c8 hw5A ?_)
            case c7 => unfold maxLen; have := HTL.out; omega
            case c8 => have := HTL.out; omega
            intro v' w9 hown' hgrow hiff hor
            obtain ⟨g', cap', rfl, hdc', hcm'⟩ := own_some hown' (by simpa using hiff)
            have HP9 := Lib.hid (TreeW.push (x := ⟨barL (dropR d l), .slice (some ⟨g, 0, none⟩) (dropR d l).length cap⟩) HTA.out hgrow (by rcases hor with h | h <;> injection h with h; exact .inl h; exact .inr (by simpa using h)) (by exact hown') HOX.out (fun b hb => by
              have e := HBG.out b hb
              exact ⟨by omega, fun z hz hzb => by have q2 := HHLT.out z hz b hzb; omega⟩))
            have HRW9 : Hid (Row w9 w5.heap.size [.slice (some ⟨gt, 0, none⟩) T.length ct, .slice A5 F.L.length c5]) := Lib.hid (HRWA.out.sameC (hgrow.block _ (by omega) (fun e => by injection e with e; have e : w5.heap.size = gt := e; omega)))
            have hlA := hgrow.size
            have HBT := Lib.hid (HBA5.out.grown hgrow (by omega) (fun j hj => by injection hj with hj; have hj : gt = j := hj; omega))
            clear hown' hgrow hiff hor hbA hbiA
            have HB10 := Lib.hid (HBT.out)
            have hrow10 := HRW9.out
            have e0 := hrow10.cell 0 _ rfl
            have g0 := hrow10.free 0 (by simp)
            have htb : Touch (fun c => c = w5.heap.size) w9 (w9.setCell ⟨w5.heap.size, 0, none⟩ (.slice (some ⟨g', 0, none⟩) (T.length + 1) cap')) := Touch.setCell (F := fun c => c = w5.heap.size) (Touch.refl _ _) rfl _
            have HT10 := Lib.hid (HP9.out.far htb (fun b hb => by omega))
            have HRW10 := Lib.hid (hrow10.set 0 (.slice (some ⟨g', 0, none⟩) (T.length + 1) cap') (by simp))
            have HM10 : Hid ((T ++ [(⟨barL (dropR d l), .slice (some ⟨g, 0, none⟩) (dropR d l).length cap⟩ : VRow)]).map (·.a) = ((F.L.take (k + 1)).map (dropR d)).map barL) := Lib.hid (by
              rw [List.map_append, HMAP.out, HTKE.out, List.map_append, List.map_append]
              rfl)
            have HB11 := Lib.hid (HB10.out.setCell (p := ⟨w5.heap.size, 0, none⟩) (Nat.le_refl _) (.slice (some ⟨g', 0, none⟩) (T.length + 1) cap'))
            have hl9 : w5.heap.size < w9.heap.size := by omega
            clear hrow10 htb
            go_wp2
            go_roundw
            case rel => exact ⟨k + 1, .slice (some ⟨g', 0, none⟩) (T.length + 1) cap', T ++ [⟨barL (dropR d l), .slice (some ⟨g, 0, none⟩) (dropR d l).length cap⟩], by omega, by go_num, by rw [List.length_append, HTL.out]; rfl, HM10.out, HRW10.out, .inr ⟨g', cap', by rw [List.length_append]; rfl, HT10.out⟩, HB11.out, by simpa using hl9⟩
            case measure => simp [RowKit.intOf]; omega
    · have hge : ¬ (k : Int) < (F.L.length : Int) := by omega
      obtain rfl : k = F.L.length := by omega
      have HWR : Hid (∀ y : Aft w5, y.val = wo → Below w.heap.size w wo) := Lib.hid (fun y hy => by rw [← hy]; exact BW5.out y)
      obtain ⟨xr, hxr⟩ : ∃ y : Aft w5, y.val = wo := ⟨⟨wo, HB.out⟩, rfl⟩
      have s0 := S0 xr
      have s1 := S1 xr
      have h0 := g0 xr
      have h1 := g1 xr
      rw [hxr] at s0 s1 h0 h1
      have HBW := Lib.hid (HWR.out xr hxr)
      rcases HTV.out with ⟨rfl, hnil⟩ | ⟨gt, ct, rfl, htw⟩
      · have := HTL.out
        rw [hnil] at this
        simp at this
        omega
      · have k0 := HRW.out.cell 0 _ rfl
        have k1 := HRW.out.cell 1 _ rfl
        have ht9 : Touch (fun c => c = w.heap.size + 1) wo ((wo.setCell ⟨w.heap.size + 1, 0, none⟩ (.slice (some ⟨gt, 0, none⟩) T.length ct)).setCell ⟨w.heap.size + 1, 1, none⟩ (.slice A5 F.L.length c5)) := Touch.setCell (F := fun c => c = w.heap.size + 1) (Touch.setCell (F := fun c => c = w.heap.size + 1) (Touch.refl _ _) rfl _) rfl _
        have hT9 := htw.far ht9 (fun b hb => by omega)
        have hW9 := (HOW5.out.on HB.out).touch ht9 (fun b hb e => by
          obtain ⟨A, c, e1, _, _, e4⟩ := HOW5.out
          obtain ⟨g, e5, e6, _⟩ := e4 hb.1
          have h7 := hb.2
          injection e1 with e8 _ _
          rw [e8, e5] at h7
          injection h7 with h7
          have e : b = w.heap.size + 1 := e
          have h7 : g = b := h7
          have := HS2.out
          omega)
        have HRWS : Hid (RowsR ((wo.setCell ⟨w.heap.size + 1, 0, none⟩ (.slice (some ⟨gt, 0, none⟩) T.length ct)).setCell ⟨w.heap.size + 1, 1, none⟩ (.slice A5 F.L.length c5)) wo.heap.size (.slice (some ⟨gt, 0, none⟩) T.length ct) ((F.L.map (dropR d)).map barL)) := Lib.hid (by
          have h2 := hT9.tree.rows
          rw [HMAP.out, List.take_of_length_le (Nat.le_refl _)] at h2
          simpa using h2)
        have HINT : Hid (Ints ((wo.setCell ⟨w.heap.size + 1, 0, none⟩ (.slice (some ⟨gt, 0, none⟩) T.length ct)).setCell ⟨w.heap.size + 1, 1, none⟩ (.slice A5 F.L.length c5)) wo.heap.size (.slice A5 F.L.length c5) (barL F.W)) := Lib.hid (by
          have h2 := hW9.slR (size := 1) (fun _ => rfl)
          unfold Ints
          simpa using h2)
        have HROW9 : Hid (((wo.setCell ⟨w.heap.size + 1, 0, none⟩ (.slice (some ⟨gt, 0, none⟩) T.length ct)).setCell ⟨w.heap.size + 1, 1, none⟩ (.slice A5 F.L.length c5)).cell? ⟨w.heap.size + 1, 0, none⟩ = some (.slice (some ⟨gt, 0, none⟩) T.length ct) ∧ ((wo.setCell ⟨w.heap.size + 1, 0, none⟩ (.slice (some ⟨gt, 0, none⟩) T.length ct)).setCell ⟨w.heap.size + 1, 1, none⟩ (.slice A5 F.L.length c5)).cell? ⟨w.heap.size + 1, 1, none⟩ = some (.slice A5 F.L.length c5)) := Lib.hid (by
          have hr : Row wo (w.heap.size + 1) [.slice none 0 0, .slice none 0 0] := ⟨fun j u hj => by
            rcases j with _ | _ | j
            · injection hj with hj; rw [← hj]; exact s0
            · injection hj with hj; rw [← hj]; exact s1
            · simp at hj, fun j hj => by
            rcases j with _ | _ | j
            · exact h0
            · exact h1
            · simp at hj; omega⟩
          have hr2 := (hr.set 0 (.slice (some ⟨gt, 0, none⟩) T.length ct) (by simp)).set 1 (.slice A5 F.L.length c5) (by simp)
          exact ⟨hr2.cell 0 _ rfl, hr2.cell 1 _ rfl⟩)
        have HBE := Lib.hid ((HBW.out.setCell (p := ⟨w.heap.size + 1, 0, none⟩) (by show w.heap.size ≤ w.heap.size + 1; omega) (.slice (some ⟨gt, 0, none⟩) T.length ct)).setCell (p := ⟨w.heap.size + 1, 1, none⟩) (by show w.heap.size ≤ w.heap.size + 1; omega) (.slice A5 F.L.length c5))
        have HSZ : Hid (((wo.setCell ⟨w.heap.size + 1, 0, none⟩ (.slice (some ⟨gt, 0, none⟩) T.length ct)).setCell ⟨w.heap.size + 1, 1, none⟩ (.slice A5 F.L.length c5)).heap.size = wo.heap.size) := Lib.hid (by simp)
        have HLL : Hid ((less F d).L.length = F.L.length) := Lib.hid (by show (F.L.map (dropR d)).length = _; rw [List.length_map])
        clear htw ht9 hT9 hW9 HTV hxr
        go_wp2
        obtain ⟨W9, hW9⟩ : ∃ X, X = (wo.setCell ⟨w.heap.size + 1, 0, none⟩ (.slice (some ⟨gt, 0, none⟩) T.length ct)).setCell ⟨w.heap.size + 1, 1, none⟩ (.slice A5 F.L.length c5) := ⟨_, rfl⟩
        rw [← hW9] at HRWS HINT HROW9 HBE HSZ ⊢
        obtain ⟨p0, p1⟩ := HROW9.out
        clear hW9
        refine bodyPost_ret (v := .tuple #[.agg #[.slice (some ⟨gt, 0, none⟩) T.length ct, .slice A5 F.L.length c5], .bool true]) (by simp [results, Try.results15, go_sem, p0, p1]) rfl ?_
        refine ⟨some ⟨gt, 0, none⟩, ct, A5, c5, ?_, ⟨?_, ?_⟩, HBE.out⟩
        · unfold pfV
          rw [HLL.out, HTL.out]
        · rw [HLL.out, HSZ.out]
          have := HRWS.out
          rw [HTL.out] at this
          exact this
        · rw [HLL.out, HSZ.out]
          exact HINT.out
end Go.Proofs.Ytlbnebmdolnagaa

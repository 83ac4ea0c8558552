/- FnDropped, walked. -/
import Derived.Test.YtlbnebmdolnagaaBI
namespace Go.Proofs.Ytlbnebmdolnagaa
open Go.RowKit Go.Lib

theorem two_of {n x y : Nat} (hx : x < n) (hy : y < n) (h : x ≠ y) : 2 ≤ n := by omega
set_option maxRecDepth 100000 in
set_option maxHeartbeats 16000000 in
theorem lawDropped_any (A1 : Option Addr) (n1 c1 : Nat) (A2 : Option Addr) (n2 c2 : Nat) (w : World) (hA1 : BytesAt w w.heap.size A1 n1) (_hA2 : BytesAt w w.heap.size A2 n2) :
    Calls Try.prog 3 #[.slice A1 n1 c1, .slice A2 n2 c2] w (RetB (.bool true) w) := by
  have hl0 := long8_any A1 n1 c1 A2 n2 c2 w
  cases hl : (decide (48 < n1) || decide (48 < n2)) with
  | true =>
    rw [hl] at hl0
    have HL := Lib.hid hl0
    clear hl hl0
    go_enter Try.func3, Try.ntmps3
    go_wp2_with (fail)
    refine HL.out.mono ?_
    rintro e _ ⟨rfl, d, rfl⟩
    go_wp2
    go_ret
    exact ⟨rfl, below_drewN (Below.refl _ _) d⟩
  | false =>
    rw [hl] at hl0
    have HL := Lib.hid hl0
    have HA1 := Lib.hid hA1
    clear hl hl0 hA1
    go_enter Try.func3, Try.ntmps3
    go_wp2_with (fail)
    refine HL.out.mono ?_
    rintro e _ ⟨rfl, d, rfl⟩
    obtain ⟨w1, hw1⟩ : ∃ X, X = w.drewN d := ⟨_, rfl⟩
    have b1 : Below w.heap.size w w1 := by rw [hw1]; exact below_drewN (Below.refl _ _) d
    rw [← hw1]
    clear hw1
    have HB1 := Lib.hid b1
    have HF8 := Lib.hid (prof8_any A1 n1 c1 w1 (bytesAt_up HA1.out b1 b1.size))
    unfold Pf8Post at HF8
    clear b1
    go_wp2_with (fail)
    refine HF8.out.mono ?_
    rintro e w2 ⟨F, B1, d1, B2, d2, rfl, hok, hfr, hb2⟩
    have HB2 := Lib.hid (below_then HB1.out HB1.out.size hb2)
    obtain ⟨q1, q2, q3, q4, b1, o1, b2, o2, hc⟩ := hfr.cells hok
    obtain ⟨rfl, rfl, hrow, -⟩ := hc
    obtain ⟨w3, hw3, hs3, b3, z0, z1, fr, bw⟩ := pbox_at hfr
    have HF := Lib.hid hok
    have hn1 := hok.n1
    have hn6 := hok.n6
    have hl1 := hok.l1
    have hl12 := hok.l12
    obtain ⟨bb, oo, cc, u0, _⟩ := hrow 0 _ (List.getElem?_eq_getElem hl1)
    have y0 : ∀ y : Aft w3, y.val.cell? ⟨b1, o1, none⟩ = some (.slice (some ⟨bb, oo, none⟩) F.n cc) := fun y => u0 y.val (bw y)
    have BW : Hid (∀ y : Aft w3, Below w.heap.size w y.val) := Lib.hid (fun y => HB2.out.trans ((bw y).mono HB2.out.size))
    have HLD := Lib.hid (fun y : Aft w3 => least_any F hok _ _ _ _ y.val (fr y))
    have HWN := Lib.hid (fun y : Aft w3 => winners_any F hok _ _ _ _ y.val (fr y))
    have HDR := Lib.hid (fun (k : Nat) (hk : k < F.n) (h2 : 2 ≤ F.n) (y : Aft w3) => drop_any F hok k hk h2 _ _ _ _ y.val (fr y))
    have hli : (0 : Int) < (F.L.length : Int) := by omega
    unfold LeastPost at HLD
    unfold WinPost at HWN
    unfold DropPost at HDR
    clear hok hfr hb2 b3 fr bw hrow u0 HF8 HL
    unfold pfV at *
    go_upto_region 4 with (fail)
    rw [← hw3]
    obtain ⟨x0, hx0⟩ : ∃ y : Aft w3, y.val = w3 := ⟨⟨w3, Below.refl _ _⟩, rfl⟩
    rw [← hx0]
    clear hx0 hw3
    go_wp2_with (fail)
    refine (HLD.out x0).mono ?_
    rintro e w4 ⟨S, v, rfl, hsm, hint, hb4⟩
    obtain ⟨Av, cv, rfl, hcv, hmv⟩ := hint.sl
    rw [barL_len] at hint hcv ⊢
    obtain ⟨y4, rfl⟩ : ∃ y : Aft w3, y.val = w4 := ⟨⟨w4, below_then x0.ok x0.ok.size hb4⟩, rfl⟩
    have HSM := Lib.hid hsm
    have HIS := Lib.hid (fun (W : World) (h : Below y4.val.heap.size y4.val W) => (SlR.on hint (Pl.stays _) h h.size : Ints W W.heap.size _ _))
    have hS6 : S.length ≤ 6 := by have := hsm.up.len; omega
    have hSn : ¬ S.length = 0 := fun e => hsm.ne (List.length_eq_zero_iff.1 e)
    have hSb : ((S.length : Int) == 0) = false := by rw [beq_eq_false_iff_ne]; omega
    clear hsm hint hb4
    go_wp2_with (fail)
    refine (HWN.out y4).mono ?_
    rintro e w5 ⟨g5, c5, rfl, hn5, hb5⟩
    obtain ⟨y5, rfl⟩ : ∃ y : Aft w3, y.val = w5 := ⟨⟨w5, below_then y4.ok y4.ok.size hb5⟩, rfl⟩
    have hi5 := hn5.ints
    rw [barL_len] at hi5
    have HIW := Lib.hid (fun (W : World) (h : Below y5.val.heap.size y5.val W) => (SlR.on hi5 (Pl.stays _) h h.size : Ints W W.heap.size _ _))
    have HIS5 := Lib.hid (fun (W : World) (h : Below y5.val.heap.size y5.val W) => HIS.out W (below_then hb5 hb5.size h))
    have hW6 : (wins F).length ≤ 6 := by have := (wins_up F).len; omega
    have hWn : ¬ (wins F).length = 0 := fun e => wins_ne HF.out (List.length_eq_zero_iff.1 e)
    have hWb : (((wins F).length : Int) == 0) = false := by rw [beq_eq_false_iff_ne]; omega
    have HWX : Hid (∀ x ∈ wins F, x ≤ 1000) := Lib.hid (fun x hx => by have := (wins_up F).lt x hx; omega)
    have HSX : Hid (∀ x ∈ S, x ≤ 1000) := Lib.hid (fun x hx => by have := HSM.out.up.lt x hx; omega)
    clear hn5 hi5 hb5 HIS
    obtain ⟨WS, hWS⟩ : ∃ WS, WS = wins F := ⟨_, rfl⟩
    rw [← hWS] at HIW hW6 hWn hWb HWX ⊢
    have HWS := Lib.hid hWS
    clear hWS
    go_wp2
    go_loopw [11, 12, 13, 14, 15, 16, 17] (fun kv _ _ _ _ _ _ wr => ∃ (k : Nat) (y : Aft y5.val), k ≤ F.n ∧ kv = .int .i64 (k : Int) ∧ wr = y.val) (fun kv _ _ _ _ _ _ _ => F.n - (RowKit.intOf kv).toNat)
    case atStart => exact ⟨0, ⟨y5.val, Below.refl _ _⟩, Nat.zero_le _, rfl, rfl⟩
    case round =>
      obtain ⟨k, y, hk, rfl, rfl⟩ := hrel
      have HUP : Hid (∀ z : Aft y5.val, Below w3.heap.size w3 z.val) := Lib.hid (fun z => below_then y5.ok y5.ok.size z.ok)
      by_cases hlt : k < F.n
      · have hki : (k : Int) < (F.n : Int) := by omega
        have HH := Lib.hid (fun z : Aft y5.val => has8_any S k _ z.val (HIS5.out z.val z.ok))
        cases hin : S.contains k with
        | true =>
          rw [hin] at HH
          clear hin
          go_wp2_with (fail)
          refine (aft_q (HH.out y)).mono ?_
          rintro e _ ⟨rfl, z1, rfl⟩
          go_wp2
          go_roundw
          case rel => exact ⟨k + 1, z1, by omega, by go_num, rfl⟩
          case measure => simp [RowKit.intOf]; omega
        | false =>
          rw [hin] at HH
          have hkS : k ∉ S := fun h => by rw [List.contains_iff_mem.2 h] at hin; cases hin
          obtain ⟨s0, hs0⟩ := List.exists_mem_of_ne_nil _ HSM.out.ne
          have h2n : 2 ≤ F.n := two_of hlt (HSM.out.up.lt s0 hs0) (fun e => hkS (e ▸ hs0))
          have HSL := Lib.hid (sm_less HSM.out hlt hkS)
          have HWLS := Lib.hid (wins_less HSM.out hlt hkS)
          rw [← HWS.out] at HWLS
          have HOKL := Lib.hid (less_ok HF.out hlt h2n)
          have HDRK := Lib.hid (fun z : Aft y5.val => HDR.out k hlt h2n ⟨z.val, HUP.out z⟩)
          clear hin hkS hs0
          have Z0 : ∀ z : Aft y5.val, z.val.cell? ⟨w2.heap.size, 0, none⟩ = some (.slice (some ⟨b1, o1, none⟩) F.L.length d1) := fun z => z0 ⟨z.val, HUP.out z⟩
          have Z1 : ∀ z : Aft y5.val, z.val.cell? ⟨w2.heap.size, 1, none⟩ = some (.slice (some ⟨b2, o2, none⟩) F.L.length d2) := fun z => z1 ⟨z.val, HUP.out z⟩
          go_wp2_with (fail)
          refine (aft_q (HH.out y)).mono ?_
          rintro e _ ⟨rfl, x1, rfl⟩
          go_wp2_with (fail)
          refine (HDRK.out x1).mono ?_
          rintro e w7 ⟨C1, e1, C2, e2, rfl, hpf, hb7⟩
          have h57 : Below y5.val.heap.size y5.val w7 := below_then x1.ok x1.ok.size hb7
          obtain ⟨w8, hw8, hs8, b8, k0, k1, fr8, bw8⟩ := pbox_at hpf
          have h58 : Below y5.val.heap.size y5.val w8 := below_then h57 h57.size b8
          have HL2 := Lib.hid (fun y : Aft w8 => least_any (less F k) HOKL.out _ _ _ _ y.val (fr8 y))
          have HW2 := Lib.hid (fun y : Aft w8 => winners_any (less F k) HOKL.out _ _ _ _ y.val (fr8 y))
          have H58 := Lib.hid h58
          unfold LeastPost at HL2
          unfold WinPost at HW2
          unfold pfV at HL2 HW2
          clear hpf hb7 h57 b8 fr8 bw8 h58 HDRK HH
          go_upto_region 14 with (fail)
          rw [← hw8]
          obtain ⟨x8, hx8⟩ : ∃ y : Aft w8, y.val = w8 := ⟨⟨w8, Below.refl _ _⟩, rfl⟩
          rw [← hx8]
          clear hx8 hw8 hs8
          go_wp2_with (fail)
          refine (HL2.out x8).mono ?_
          rintro e w9 ⟨S2, v2, rfl, hsm2, hint2, hb9⟩
          obtain ⟨y9, rfl⟩ : ∃ y : Aft w8, y.val = w9 := ⟨⟨w9, below_then x8.ok x8.ok.size hb9⟩, rfl⟩
          have hS2 := hsm2.one HSL.out
          subst hS2
          have HI9 := Lib.hid (fun (W : World) (h : Below y9.val.heap.size y9.val W) => (SlR.on hint2 (Pl.stays _) h h.size : Ints W W.heap.size _ _))
          clear hsm2 hint2 hb9
          go_wp2_with (fail)
          refine (HW2.out y9).mono ?_
          rintro e w10 ⟨g10, c10, rfl, hn10, hb10⟩
          have hi10 := hn10.ints
          rw [HWLS.out] at hi10 ⊢
          rw [barL_len, List.length_map] at hi10
          rw [List.length_map]
          have H510 : Hid (Below y5.val.heap.size y5.val w10) := Lib.hid (below_then H58.out H58.out.size (below_then y9.ok y9.ok.size hb10))
          have HI10 := Lib.hid (fun (W : World) (h : Below w10.heap.size w10 W) => (SlR.on hi10 (Pl.stays _) h h.size : Ints W W.heap.size _ _))
          have HI910 := Lib.hid (fun (W : World) (h : Below w10.heap.size w10 W) => HI9.out W (below_then hb10 hb10.size h))
          have HUP10 : Hid (∀ W, Below w10.heap.size w10 W → Below y5.val.heap.size y5.val W) := Lib.hid (fun W h => below_then H510.out H510.out.size h)
          have hkk : k ≤ 1000 := by omega
          clear hn10 hb10 hi10 HI9 HL2 HW2 k0 k1
          go_wp2_with (fail)
          refine (without_any S k hkk (by omega) HSX.out _ w10 (HIS5.out w10 H510.out)).mono ?_
          rintro e w11 ⟨v11, rfl, hint11, hb11⟩
          have hsame1 := same8_any _ _ v2 v11 w11 (HI910.out w11 hb11) hint11
          rw [decide_eq_true rfl] at hsame1
          have HSAME1 := Lib.hid hsame1
          have HB11 := Lib.hid hb11
          clear hsame1 hb11 hint11
          go_wp2_with (fail)
          refine HSAME1.out.mono ?_
          rintro e w12 ⟨rfl, hb12⟩
          have HB12 := Lib.hid (below_then HB11.out HB11.out.size hb12)
          clear hb12 HSAME1
          go_wp2_with (fail)
          refine (without_any WS k hkk (by omega) HWX.out _ w12 (HIW.out w12 (HUP10.out w12 HB12.out))).mono ?_
          rintro e w13 ⟨v13, rfl, hint13, hb13⟩
          have HB13 := Lib.hid (below_then HB12.out HB12.out.size hb13)
          have hsame2 := same8_any _ _ _ v13 w13 (HI10.out w13 HB13.out) hint13
          rw [decide_eq_true rfl] at hsame2
          have HSAME2 := Lib.hid hsame2
          clear hsame2 hb13 hint13
          go_wp2_with (fail)
          refine HSAME2.out.mono ?_
          rintro e w14 ⟨rfl, hb14⟩
          have HB14 := Lib.hid (HUP10.out w14 (below_then HB13.out HB13.out.size hb14))
          clear hb14 HSAME2
          go_wp2
          go_roundw
          case rel => exact ⟨k + 1, ⟨w14, HB14.out⟩, by omega, by go_num, rfl⟩
          case measure => simp [RowKit.intOf]; omega
      · have hge : ¬ (k : Int) < (F.n : Int) := by omega
        have HBE := Lib.hid (BW.out ⟨y.val, HUP.out y⟩)
        go_wp2
        go_ret
        exact ⟨rfl, HBE.out⟩
end Go.Proofs.Ytlbnebmdolnagaa

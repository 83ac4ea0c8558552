/- FnVoiceTexts, walked. -/
import Derived.Test.YtbamlilnbhhcmaaDoorKb
import Derived.Test.YtbamlilnbhhcmaaDoorKd
import Derived.Test.YtbamlilnbhhcmaaDoorKe
import Derived.Test.YtbamlilnbhhcmaaDoorKf
import Derived.Test.YtbamlilnbhhcmaaDoorKg
import Derived.Test.YtbamlilnbhhcmaaDoorQD
namespace Go.Proofs.YtbamlilnbhhcmaaDoor
open Go.RowKit Go.Lib

/-- A voice that trusts somebody first. -/
theorem firstV_get {V : List Voi} {a : Nat} {z : Int} (h : firstV V a = some z) : ∃ v, V[a]? = some v ∧ v.sp = false ∧ v.tr[0]? = some z := by
  unfold firstV at h
  cases hv : V[a]? with
  | none => rw [hv] at h; cases h
  | some v =>
    rw [hv] at h
    cases hs : v.sp with
    | true => simp [hs] at h
    | false => exact ⟨v, rfl, hs, by simpa [hs] using h⟩
set_option maxRecDepth 100000 in
set_option maxHeartbeats 8000000 in
theorem lawVoices_any (A1 : Option Addr) (n1 c1 : Nat) (A2 : Option Addr) (n2 c2 : Nat) (w : World) (hA1 : BytesAt w w.heap.size A1 n1) (hE : EnvR w.heap.size w) :
    Calls Tryd.prog 3 #[.slice A1 n1 c1, .slice A2 n2 c2] w (RetB (.bool true) w) := by
  by_cases hl : n1 ≤ 1048576 ∧ n2 ≤ 1048576
  · have HL := Lib.hid (long_no A1 n1 c1 A2 n2 c2 w hl.1 hl.2)
    have HS := Lib.hid (fun m => voices_draw A1 n1 c1 (w.drewN m) hA1)
    have E := Lib.hid hE
    clear hl hA1 hE
    go_enter Tryd.func3, Tryd.ntmps3
    go_wp2_with (fail)
    refine (HL.out).mono ?_
    rintro e w1 ⟨rfl, m1, rfl⟩
    go_wp2_with (fail)
    refine (HS.out m1).mono ?_
    rintro e w2 ⟨A, c, L, rfl, hT, hok, hb⟩
    have HB2 : Hid (Below w.heap.size w w2) := Lib.hid ((below_drewN (Below.refl w.heap.size w) m1).trans hb)
    have HV : Hid (∀ W, Below w2.heap.size w2 W → Vois W W.heap.size (.slice A L.length c) (L.map (·.a))) := Lib.hid (fun W hW => (vois_of hT).on hW hW.size)
    have HEN : Hid (∀ W, Below w2.heap.size w2 W → EnvR W.heap.size W) := Lib.hid (fun W hW => (E.out.on (HB2.out.trans (hW.mono HB2.out.size))).more (Nat.le_trans HB2.out.size hW.size))
    have hlen : L.length = (L.map (·.a)).length := by rw [List.length_map]
    rw [hlen] at HV ⊢
    generalize L.map (·.a) = V at *
    have hl12 := hok.n12
    have HTX : Hid (Calls Tryd.prog 6 #[.slice A V.length c] w2 (RetB (.tuple #[.string ⟨(voiText V).toArray⟩, .bool true]) w2)) := Lib.hid (voicesText2_any V _ w2 (HV.out w2 (Below.refl _ _)) hok (HEN.out w2 (Below.refl _ _)).env)
    have HRV : Hid (∀ W, Below w2.heap.size w2 W → Calls Tryd.prog 7 #[.string ⟨(voiText V).toArray⟩] W (VoisBack V W)) := Lib.hid (fun W hW => readVoices2_any V W hok (HEN.out W hW))
    have HCI : Hid (∀ W, Below w2.heap.size w2 W → Calls Tryd.prog 8 #[.slice A V.length c] W (CirPost V W)) := Lib.hid (fun W hW => circles2_any V _ W (HV.out W hW) hok)
    obtain ⟨A', c', e, hc, hm, hel⟩ := vois_at (HV.out w2 (Below.refl _ _))
    injection e with e1 e2 e3
    subst e1
    subst e3
    have HEL := Lib.hid hel
    have HAF : Hid (∀ W, Below w2.heap.size w2 W → ∃ y : Aft w2, y.val = W) := Lib.hid (fun W hW => ⟨⟨W, hW⟩, rfl⟩)
    unfold maxLen at hm
    clear hT hb hlen hok hel e2
    go_wp2_with (fail)
    refine HTX.out.mono ?_
    rintro e w3 ⟨rfl, b3⟩
    have HB3 := Lib.hid b3
    clear b3 HTX
    go_wp2_with (fail)
    refine (HRV.out w3 HB3.out).mono ?_
    rintro e w4 ⟨A4, c4, rfl, hV4, b4⟩
    have HB4 := Lib.hid (HB3.out.trans (b4.mono HB3.out.size))
    have HV4 := Lib.hid hV4
    clear hV4 b4 HRV
    go_wp2_with (fail)
    refine (HCI.out w4 HB4.out).mono ?_
    rintro e w5 ⟨A5, c5, C, rfl, hR, hC, hCl, b5⟩
    have HB5 := Lib.hid (HB4.out.trans (b5.mono HB4.out.size))
    have HAL : Hid (Calls Tryd.prog 9 #[.slice A4 V.length c4, .slice A V.length c] w5 (RetB (.bool true) w5)) := Lib.hid (voices_alike V _ _ w5 (HV4.out.on b5 b5.size) (HV.out w5 HB5.out))
    have HC := Lib.hid hC
    have HR := Lib.hid hR
    clear hC hR b5 HCI HV4
    go_wp2_with (fail)
    refine HAL.out.mono ?_
    rintro e w6 ⟨rfl, b6⟩
    have HB6 := Lib.hid (HB5.out.trans (b6.mono HB5.out.size))
    have HR6 := Lib.hid (HR.out.on b6 b6.size)
    obtain ⟨A6, c6, e, hc6, hm6, hel6⟩ := rows_at HR6.out
    injection e with e1 e2 e3
    subst e1
    subst e3
    unfold maxLen at hm6
    have HE6 := Lib.hid hel6
    clear e2 hel6 b6 HAL HR HR6
    go_wp2
    go_loopw [12] (fun i wr => ∃ k : Nat, k ≤ C.length ∧ i = .int .i64 (k : Int) ∧ Below w6.heap.size w6 wr) (fun i _ => C.length - (RowKit.intOf i).toNat)
    case atStart => exact ⟨0, Nat.zero_le _, rfl, Below.refl _ _⟩
    case round =>
      obtain ⟨k, hk, rfl, hbr⟩ := hrel
      have HBR := Lib.hid hbr
      clear hbr
      by_cases hlt : k < C.length
      · have hget : C[k]? = some C[k] := List.getElem?_eq_getElem hlt
        have HCK := Lib.hid (HC.out C[k] (List.getElem_mem hlt))
        obtain ⟨b6, off6, rfl, hb6, hcell⟩ := HE6.out (by omega)
        obtain ⟨A7, c7, x0, hm7, hI⟩ := hcell k _ hget
        have HI : Hid (∀ W, Below w6.heap.size w6 W → Ints W W.heap.size (.slice A7 C[k].length c7) C[k]) := Lib.hid (fun W hW => hI.on (Pl.stays _) hW hW.size)
        have x0 := (HBR.out.cell (p := ⟨b6, off6 + k, none⟩) hb6).trans x0
        clear hcell hI hget
        generalize C[k] = P at *
        unfold CirOk at HCK
        have hp2 := HCK.out.1
        have hpV := HCK.out.2.1
        have hp2d : decide ((P.length : Int) < 2) = false := decide_eq_false (by omega)
        have hpVd : decide ((V.length : Int) < (P.length : Int)) = false := decide_eq_false (by omega)
        have hp2n : ¬ ((P.length : Int) < 2) := by omega
        have hpVn : ¬ ((V.length : Int) < (P.length : Int)) := by omega
        go_wp2
        go_loopw [14] (fun i wr2 => ∃ j : Nat, j ≤ P.length ∧ i = .int .i64 (j : Int) ∧ Below w6.heap.size w6 wr2) (fun i _ => P.length - (RowKit.intOf i).toNat)
        case atStart => exact ⟨0, Nat.zero_le _, rfl, HBR.out⟩
        case round =>
          obtain ⟨j, hj, rfl, hbs⟩ := hrel
          have HBS := Lib.hid hbs
          clear hbs
          by_cases hlj : j < P.length
          · obtain ⟨a, b, z0, hz, ha, h0, h0le, hnx, hfv⟩ := HCK.out.2.2 j P[j] (List.getElem?_eq_getElem hlj)
            have hgj : P[j]? = some (a : Int) := by rw [← hz]; exact List.getElem?_eq_getElem hlj
            obtain ⟨N, hN⟩ : ∃ N, N = (j + 1) % P.length := ⟨_, rfl⟩
            have hNv : ((j : Int) + 1) % (P.length : Int) = (N : Int) := by rw [hN]; simp
            have hNl : N < P.length := by rw [hN]; exact Nat.mod_lt _ (by omega)
            rw [← hN] at hnx
            obtain ⟨q, hq, hsp, htr⟩ := firstV_get hfv
            obtain ⟨bl, ol, hAe, hbl, hcell⟩ := HEL.out (by omega)
            subst hAe
            obtain ⟨B1, d1, k0, k1, m1', i1⟩ := hcell a _ hq
            have b26 := HB6.out.trans (HBS.out.mono HB6.out.size)
            have y0 := (b26.cell (p := ⟨bl, ol + a * 2, none⟩) hbl).trans k0
            have y1 := (b26.cell (p := ⟨bl, ol + a * 2 + 1, none⟩) hbl).trans k1
            rw [hsp] at y0
            obtain ⟨bt, ot, rfl, hbt, y2⟩ := ints_get (SlR.on i1 (Pl.stays _) b26 b26.size) htr
            rw [Nat.add_zero] at y2
            have htl : 0 < q.tr.length := by
              rcases Nat.eq_zero_or_pos q.tr.length with h | h
              · rw [List.getElem?_eq_none (by omega)] at htr
                cases htr
              · exact h
            have hte : ((q.tr.length : Int) == 0) = false := by simpa using (by omega : ¬ q.tr.length = 0)
            obtain ⟨bp, op, rfl, hbp, u0⟩ := ints_get (HI.out wr HBS.out) h0
            obtain ⟨_, _, e, -, u1⟩ := ints_get (HI.out wr HBS.out) hgj
            injection e with e
            injection e with e1 e2 e3
            subst e1
            subst e2
            obtain ⟨_, _, e, -, u2⟩ := ints_get (HI.out wr HBS.out) hnx
            injection e with e
            injection e with e1 e2 e3
            subst e1
            subst e2
            rw [Nat.add_zero] at u0
            have g1 : ¬ ((a : Int) < z0) := by omega
            have g1d : decide ((a : Int) < z0) = false := decide_eq_false g1
            have g2 : ¬ ((V.length : Int) ≤ (a : Int)) := by omega
            have g2d : decide ((V.length : Int) ≤ (a : Int)) = false := decide_eq_false g2
            have g3 : ¬ ((a : Int) < 0) := by omega
            have g3d : decide ((a : Int) < 0) = false := decide_eq_false g3
            have g4 : ((b : Int) != (b : Int)) = false := by simp
            have ha0 : (0 : Int) ≤ (a : Int) := by omega
            have hai : (a : Int) < (V.length : Int) := by omega
            have hN0 : (0 : Int) ≤ (N : Int) := by omega
            have hNi : (N : Int) < (P.length : Int) := by omega
            clear hcell k0 k1 i1 hq hfv htr hgj h0 hnx hN hz
            generalize q.tr.length = tl at *
            replace y0 := fun x : Aft wr => x.cell y0
            replace y1 := fun x : Aft wr => x.cell y1
            replace y2 := fun x : Aft wr => x.cell y2
            replace u0 := fun x : Aft wr => x.cell u0
            replace u1 := fun x : Aft wr => x.cell u1
            replace u2 := fun x : Aft wr => x.cell u2
            go_upto_region 18 with (fail)
            refine wp_region_aft (by kernel_rfl) (by kernel_rfl) ?_
            repeat (go_big_quiet_step (fail))
            refine wpQuiet_nil ?_
            rintro _ ⟨y, rfl⟩
            have bY := HBS.out.trans (y.ok.mono HBS.out.size)
            go_wp2
            go_roundw
            case rel => exact ⟨j + 1, by omega, by go_num, bY⟩
            case measure => simp [RowKit.intOf]; omega
          · have hge : ¬ (j : Int) < (P.length : Int) := by omega
            go_wp2
            go_roundw
            case rel => exact ⟨k + 1, by omega, by go_num, HBS.out⟩
            case measure => simp [RowKit.intOf]; omega
      · have hge : ¬ (k : Int) < (C.length : Int) := by omega
        have hbe := HB2.out.trans ((HB6.out.trans (HBR.out.mono HB6.out.size)).mono HB2.out.size)
        go_wp2
        go_ret
        exact ⟨rfl, hbe⟩
  · have HL := Lib.hid (long_yes A1 n1 c1 A2 n2 c2 w hl)
    clear hl
    go_enter Tryd.func3, Tryd.ntmps3
    go_wp2_with (fail)
    refine (HL.out).mono ?_
    rintro e w1 ⟨rfl, m1, rfl⟩
    go_wp2
    go_ret
    exact ⟨rfl, below_drewN (Below.refl w.heap.size w) m1⟩
end Go.Proofs.YtbamlilnbhhcmaaDoor

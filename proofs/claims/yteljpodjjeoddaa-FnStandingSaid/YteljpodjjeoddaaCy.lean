/- FnStanding, walked. -/
import Derived.Test.YteljpodjjeoddaaKF
namespace Go.Proofs.Yteljpodjjeoddaa
open Go.RowKit Go.Lib

theorem meas_lt {n x : Nat} (h : x < n) : n - (RowKit.intOf (.int .i64 ((x : Int) + 1))).toNat < n - (RowKit.intOf (.int .i64 (x : Int))).toNat := by
  simp [RowKit.intOf]
  omega
theorem val_succ (x : Nat) : Value.int .i64 ((x : Int) + 1) = Value.int .i64 ((x + 1 : Nat) : Int) := rfl
set_option maxRecDepth 100000 in
set_option maxHeartbeats 16000000 in
theorem lawStanding_any (A1 : Option Addr) (n1 c1 : Nat) (A2 : Option Addr) (n2 c2 : Nat) (w : World) (hA1 : BytesAt w w.heap.size A1 n1) (hA2 : BytesAt w w.heap.size A2 n2) :
    Calls Try.prog 3 #[.slice A1 n1 c1, .slice A2 n2 c2] w (RetB (.bool true) w) := by
  have hl0 := long8_any A1 n1 c1 A2 n2 c2 w
  cases hl : (decide (48 < n1) || decide (48 < n2)) with
  | true =>
    rw [hl] at hl0
    have HL := Lib.hid hl0
    clear hl hl0
    go_enter Try.func3, Try.ntmps3
    go_wp2_with (fail)
    refine HL.out.mono ?_
    rintro e _ ⟨rfl, d, rfl⟩
    go_wp2
    go_ret
    exact ⟨rfl, below_drewN (Below.refl _ _) d⟩
  | false =>
    rw [hl] at hl0
    have HL := Lib.hid hl0
    have HA1 := Lib.hid hA1
    have HA2 := Lib.hid hA2
    clear hl hl0 hA1 hA2
    go_enter Try.func3, Try.ntmps3
    go_wp2_with (fail)
    refine HL.out.mono ?_
    rintro e _ ⟨rfl, d, rfl⟩
    obtain ⟨w1, hw1⟩ : ∃ X, X = w.drewN d := ⟨_, rfl⟩
    have b1 : Below w.heap.size w w1 := by rw [hw1]; exact below_drewN (Below.refl _ _) d
    rw [← hw1]
    clear hw1
    have HB1 := Lib.hid b1
    have HF8 := Lib.hid (frame8_any A1 n1 c1 w1 (bytesAt_up HA1.out b1 b1.size))
    unfold FramePost at HF8
    clear b1
    go_wp2_with (fail)
    refine HF8.out.mono ?_
    rintro e w2 ⟨F, A, c, rfl, hok, hfr, hb2⟩
    have HB2 := Lib.hid (below_then HB1.out HB1.out.size hb2)
    obtain ⟨w3, hw3, hs3, b3, z0, z1, fr, bw⟩ := box_at F A c w2 hfr
    have HF := Lib.hid hok
    have hn := hok.n10
    have BW : Hid (∀ y : Aft w3, Below w.heap.size w y.val) := Lib.hid (fun y => HB2.out.trans ((bw y).mono HB2.out.size))
    have HGS := Lib.hid (fun y : Aft w3 => gset_any F hok A c y.val (fr y))
    have HPS := Lib.hid (fun y : Aft w3 => pset_any F hok A c y.val (fr y))
    have HID := Lib.hid (fun y : Aft w3 => ideal_any F hok A c y.val (fr y))
    have HFRM := Lib.hid fr
    unfold GSetPost at HGS
    unfold PSetPost at HPS
    unfold IdealPost at HID
    clear hok hfr hb2 b3 fr bw HF8 HL
    unfold frV at *
    go_upto_region 4 with (fail)
    rw [← hw3]
    obtain ⟨x0, hx0⟩ : ∃ y : Aft w3, y.val = w3 := ⟨⟨w3, Below.refl _ _⟩, rfl⟩
    rw [← hx0]
    clear hx0 hw3
    go_wp2_with (fail)
    refine (HGS.out x0).mono ?_
    rintro e w4 ⟨m, g1, cg, rfl, hn4, hb4, j, hgr, hsh⟩
    obtain ⟨y4, rfl⟩ : ∃ y : Aft w3, y.val = w4 := ⟨⟨w4, below_then x0.ok x0.ok.size hb4⟩, rfl⟩
    have hi4 := hn4.ints
    rw [barL_len] at hi4
    have HI4 := Lib.hid (fun (W : World) (h : Below y4.val.heap.size y4.val W) => (SlR.on hi4 (Pl.stays _) h h.size : Ints W W.heap.size _ _))
    have HGR := Lib.hid hgr
    have HSH := Lib.hid hsh
    clear hn4 hb4 hi4 hgr hsh
    go_wp2_with (fail)
    refine (HPS.out y4).mono ?_
    rintro e w5 ⟨qs, gq, cq, rfl, hperm, hrows, hb5⟩
    obtain ⟨y5, rfl⟩ : ∃ y : Aft w3, y.val = w5 := ⟨⟨w5, below_then y4.ok y4.ok.size hb5⟩, rfl⟩
    have HB45 := Lib.hid hb5
    have HRW := Lib.hid (fun (W : World) (h : Below y5.val.heap.size y5.val W) => hrows.on h h.size)
    have HOK := Lib.hid (stand_ok HF.out HGR.out hperm)
    have hql : qs.length ≤ 9223372036854775807 := by
      obtain ⟨_, _, e, h1, h2, _⟩ := rows_at hrows
      unfold maxLen at h2
      rw [List.length_map] at h1
      omega
    have hq0 : 0 < qs.length := List.length_pos_iff.2 HOK.out.ne
    have hqne : ¬ qs = [] := HOK.out.ne
    have hqb : ((qs.length : Int) == 0) = false := by rw [beq_eq_false_iff_ne]; omega
    clear hperm hrows hb5
    go_wp2_with (fail)
    refine (HID.out y5).mono ?_
    rintro e w6 ⟨g6, c6, rfl, hn6, hb6⟩
    obtain ⟨y6, rfl⟩ : ∃ y : Aft w3, y.val = w6 := ⟨⟨w6, below_then y5.ok y5.ok.size hb6⟩, rfl⟩
    have HB56 := Lib.hid hb6
    have hi6 := hn6.ints
    rw [barL_len] at hi6
    have HI6 := Lib.hid (fun (W : World) (h : Below y6.val.heap.size y6.val W) => (SlR.on hi6 (Pl.stays _) h h.size : Ints W W.heap.size _ _))
    have hup6 : UpL F.n (setL (idealM F)) := setL_up (ideal_good F).lt hn
    have HAI := Lib.hid (fun (y : Aft w3) (h : Below y6.val.heap.size y6.val y.val) => adm_any F HF.out _ hup6 A c _ y.val (HFRM.out y) (HI6.out y.val h))
    rw [HOK.out.adm] at HAI
    have up46 : ∀ W, Below y6.val.heap.size y6.val W → Below y4.val.heap.size y4.val W := fun W h => below_then (below_then HB45.out HB45.out.size HB56.out) (Nat.le_trans HB45.out.size HB56.out.size) h
    have HIN := Lib.hid (fun (W : World) (h : Below y6.val.heap.size y6.val W) => inside8_any _ _ _ _ W (HI4.out W (up46 W h)) (HI6.out W h))
    rw [HOK.out.grd] at HIN
    have HU46 := Lib.hid up46
    clear hn6 hb6 hi6 hup6 up46 HGS HPS HID
    unfold frV at HAI
    go_wp2_with (fail)
    refine (HAI.out y6 (Below.refl _ _)).mono ?_
    rintro e w7 ⟨rfl, hb7⟩
    go_wp2_with (fail)
    refine (HIN.out w7 hb7).mono ?_
    rintro e _ ⟨rfl, d7, rfl⟩
    obtain ⟨w7', hw7⟩ : ∃ X, X = w7.drewN d7 := ⟨_, rfl⟩
    have b67 : Below y6.val.heap.size y6.val w7' := by rw [hw7]; exact below_drewN hb7 d7
    rw [← hw7]
    clear hw7 hb7
    obtain ⟨y7, rfl⟩ : ∃ y : Aft w3, y.val = w7' := ⟨⟨w7', below_then y6.ok y6.ok.size b67⟩, rfl⟩
    have HB67 := Lib.hid b67
    have HS8 := Lib.hid (set8_any A2 n2 c2 F.n hn y7.val (bytesAt_up HA2.out (BW.out y7) (BW.out y7).size))
    unfold Set8Post at HS8
    clear b67 HAI HIN
    go_wp2_with (fail)
    refine HS8.out.mono ?_
    rintro e w8 ⟨l, g8, c8, rfl, hupl, hn8, hb8⟩
    have hi8 := hn8.ints
    rw [barL_len] at hi8
    have h38 : Below w3.heap.size w3 w8 := below_then y7.ok y7.ok.size hb8
    have h68 : Below y6.val.heap.size y6.val w8 := below_then HB67.out HB67.out.size hb8
    have LIFT : Hid (∀ y : Aft w8, Below w3.heap.size w3 y.val) := Lib.hid (fun y => below_then h38 h38.size y.ok)
    have L6 : Hid (∀ y : Aft w8, Below y6.val.heap.size y6.val y.val) := Lib.hid (fun y => below_then h68 h68.size y.ok)
    have L5 : Hid (∀ y : Aft w8, Below y5.val.heap.size y5.val y.val) := Lib.hid (fun y => below_then HB56.out HB56.out.size (L6.out y))
    have k0 : ∀ y : Aft w8, y.val.cell? ⟨w2.heap.size, 0, none⟩ = some (.int .i64 (F.n : Int)) := fun y => z0 ⟨y.val, LIFT.out y⟩
    have k1 : ∀ y : Aft w8, y.val.cell? ⟨w2.heap.size, 1, none⟩ = some (.slice A F.R.length c) := fun y => z1 ⟨y.val, LIFT.out y⟩
    have FR8 : Hid (∀ y : Aft w8, FrR y.val y.val.heap.size F A c) := Lib.hid (fun y => HFRM.out ⟨y.val, LIFT.out y⟩)
    have IG : Hid (∀ y : Aft w8, Ints y.val y.val.heap.size (.slice (some ⟨g1, 0, none⟩) (setL m).length cg) (barL (setL m))) := Lib.hid (fun y => HI4.out y.val (HU46.out y.val (L6.out y)))
    have II : Hid (∀ y : Aft w8, Ints y.val y.val.heap.size (.slice (some ⟨g6, 0, none⟩) (setL (idealM F)).length c6) (barL (setL (idealM F)))) := Lib.hid (fun y => HI6.out y.val (L6.out y))
    have IL : Hid (∀ y : Aft w8, Ints y.val y.val.heap.size (.slice (some ⟨g8, 0, none⟩) l.length c8) (barL l)) := Lib.hid (fun y => SlR.on hi8 (Pl.stays _) y.ok y.ok.size)
    have RQ : Hid (∀ y : Aft w8, RowsR y.val y.val.heap.size (.slice (some ⟨gq, 0, none⟩) qs.length cq) (qs.map barL)) := Lib.hid (fun y => HRW.out y.val (L5.out y))
    have B8 : Hid (∀ y : Aft w8, Below w.heap.size w y.val) := Lib.hid (fun y => BW.out ⟨y.val, LIFT.out y⟩)
    have HUPL := Lib.hid hupl
    have HAS8 : Hid (∀ y : Aft w8, Calls Try.prog 9 #[.agg #[.int .i64 (F.n : Int), .slice A F.R.length c], .slice (some ⟨g8, 0, none⟩) l.length c8] y.val (RetB (.bool (goodB F (setM l))) y.val)) := Lib.hid (fun y => adm_any F HF.out l hupl A c _ y.val (FR8.out y) (IL.out y))
    obtain ⟨x8, hx8⟩ : ∃ y : Aft w8, y.val = w8 := ⟨⟨w8, Below.refl _ _⟩, rfl⟩
    rw [← hx8]
    have hcells : ∃ (bq : Nat), gq = bq := ⟨gq, rfl⟩
    clear hupl hn8 hb8 hi8 h38 h68 hx8 hcells LIFT HS8 HB1 HB2 HA1 HA2 HFRM BW HI4 HI6 HRW HB45 HB56 HB67 HU46 L5 L6 z0 z1
    -- a row of the preferred sets, at whatever later world
    have ROW : Hid (∀ (k : Nat) (q : List Nat), qs[k]? = some q → ∃ A7 c7, ∀ y : Aft w8, y.val.cell? ⟨gq, k, none⟩ = some (.slice A7 q.length c7) ∧ Ints y.val y.val.heap.size (.slice A7 q.length c7) (barL q)) := Lib.hid (fun k q hq => by
      obtain ⟨A5, c5, e, _, _, hcell⟩ := rows_at (RQ.out ⟨w8, Below.refl _ _⟩)
      obtain ⟨b5, o5, hA5, hb5, hcell⟩ := hcell (by rw [List.length_map]; exact hq0)
      injection e with e1 _ _
      rw [← e1] at hA5
      injection hA5 with e4
      injection e4 with e4 e5 _
      subst e4
      subst e5
      obtain ⟨A7, c7, v0, _, i7⟩ := hcell k (barL q) (by rw [List.getElem?_map, hq]; rfl)
      rw [barL_len] at v0 i7
      rw [Nat.zero_add] at v0
      exact ⟨A7, c7, fun y => ⟨y.cell v0, SlR.on i7 (Pl.stays _) y.ok y.ok.size⟩⟩)
    go_wp2_with (fail)
    refine (aft_b (HAS8.out x8)).mono ?_
    rintro e _ ⟨rfl, x9, rfl⟩
    go_wp2
    go_loopw [13, 14] (fun v i wr => ∃ (k : Nat) (y : Aft w8), k ≤ qs.length ∧ v = .bool (goodB F (setM l) && (qs.take k).all (fun q => insB l q)) ∧ i = .int .i64 (k : Int) ∧ wr = y.val) (fun _ i _ => qs.length - (RowKit.intOf i).toNat)
    case atStart => exact ⟨0, x9, Nat.zero_le _, by simp, rfl, rfl⟩
    case round =>
      obtain ⟨k, y, hk, rfl, rfl, rfl⟩ := hrel
      by_cases hlt : k < qs.length
      · have hget : qs[k]? = some qs[k] := List.getElem?_eq_getElem hlt
        obtain ⟨A7, c7, hrow⟩ := ROW.out k _ hget
        have v0 := fun y : Aft w8 => (hrow y).1
        have HLQ := Lib.hid (fun y : Aft w8 => inside8_any l qs[k] _ _ y.val (IL.out y) (hrow y).2)
        have HIQ := Lib.hid (fun y : Aft w8 => inside8_any (setL (idealM F)) qs[k] _ _ y.val (II.out y) (hrow y).2)
        rw [HOK.out.low _ (List.getElem_mem hlt)] at HIQ
        have HNX : Hid ((goodB F (setM l) && (qs.take (k + 1)).all (fun q => insB l q)) = ((goodB F (setM l) && (qs.take k).all (fun q => insB l q)) && insB l qs[k])) := Lib.hid (by
          rw [List.take_succ_eq_append_getElem hlt, List.all_append]
          simp [Bool.and_assoc])
        have hki : (k : Int) < (qs.length : Int) := by omega
        have hk0 : (0 : Int) ≤ (k : Int) := by omega
        generalize insB l qs[k] = r at *
        generalize qs[k] = q at *
        generalize (goodB F (setM l) && (qs.take k).all (fun q => insB l q)) = v at *
        clear hget hrow
        cases v with
        | true =>
          go_wp2_with (fail)
          refine (aft_q (HLQ.out y)).mono ?_
          rintro e _ ⟨rfl, y1, rfl⟩
          go_wp2_with (fail)
          refine (aft_q (HIQ.out y1)).mono ?_
          rintro e _ ⟨rfl, y2, rfl⟩
          go_wp2
          go_roundw
          case rel => exact ⟨k + 1, y2, by omega, by rw [HNX.out]; rfl, by go_num, rfl⟩
          case measure => simp [RowKit.intOf]; omega
        | false =>
          go_wp2_with (fail)
          refine (aft_q (HIQ.out y)).mono ?_
          rintro e _ ⟨rfl, y2, rfl⟩
          go_wp2
          go_roundw
          case rel => exact ⟨k + 1, y2, by omega, by rw [HNX.out]; rfl, by go_num, rfl⟩
          case measure => simp [RowKit.intOf]; omega
      · have hge : ¬ (k : Int) < (qs.length : Int) := by omega
        have HTO : Hid ((goodB F (setM l) && (qs.take k).all (fun q => insB l q)) = true → insB l (setL (idealM F)) = true) := Lib.hid (fun h => by
          rw [List.take_of_length_le (by omega), Bool.and_eq_true, List.all_eq_true] at h
          exact HOK.out.top l HUPL.out h.1 h.2)
        have HLI := Lib.hid (fun y : Aft w8 => inside8_any l (setL (idealM F)) _ _ y.val (IL.out y) (II.out y))
        generalize (goodB F (setM l) && (qs.take k).all (fun q => insB l q)) = v at *
        have HST := Lib.hid (fun (x : Nat) (hx : x < F.n) (y : Aft w8) => stand_any F HF.out m j HGR.out HSH.out x hx A c y.val (FR8.out y))
        have HDF := Lib.hid (fun (x : Nat) (hx : x < F.n) (y : Aft w8) => defence_any F HF.out x hx A c y.val (FR8.out y))
        unfold frV at HST HDF
        unfold DefPost at HDF
        go_upto_region 17 with (fail)
        go_cut [106] (fun c106 wx => c106 = .bool false ∧ ∃ y9 : Aft w8, wx = y9.val)
        case first =>
          cases v with
          | true =>
            rw [HTO.out rfl] at HLI
            go_wp2_with (fail)
            refine (aft_q (HLI.out y)).mono ?_
            rintro e _ ⟨rfl, y1, rfl⟩
            go_wp2
            go_meet
            case rel => exact ⟨rfl, y1, rfl⟩
          | false =>
            go_wp2
            go_meet
            case rel => exact ⟨rfl, y, rfl⟩
        case rest =>
          obtain ⟨rfl, y1, rfl⟩ := hcut
          clear HLI HTO
          go_wp2
          go_loopw [15, 16, 17, 18, 19, 20, 21, 22, 23] (fun xa _ _ _ _ _ _ _ _ wr => ∃ (x : Nat) (y : Aft w8), x ≤ F.n ∧ xa = .int .i64 (x : Int) ∧ wr = y.val) (fun xa _ _ _ _ _ _ _ _ _ => F.n - (RowKit.intOf xa).toNat)
          case atStart => exact ⟨0, y1, Nat.zero_le _, rfl, rfl⟩
          case round =>
            obtain ⟨x, y, hx, rfl, rfl⟩ := hrel
            by_cases hxn : x < F.n
            · have hxi : (x : Int) < (F.n : Int) := by omega
              have HSX := Lib.hid (HST.out x hxn)
              have HDX := Lib.hid (HDF.out x hxn)
              have HOW := Lib.hid (HOK.out.how x hxn)
              generalize standI F m x = st at *
              go_wp2_with (fail)
              refine (aft_b (HSX.out y)).mono ?_
              rintro e _ ⟨rfl, y2, rfl⟩
              go_wp2_with (fail)
              refine (HDX.out y2).mono ?_
              rintro e w10 ⟨hb10, ⟨rfl, hnon⟩ | ⟨a, Ad, cd, rfl, hga, hax, hmin, hid10⟩⟩
              · have HS := Lib.hid (HOK.out.non x hnon)
                clear hnon HSX HDX
                have HUP : Hid (∀ y : Aft w10, Below w8.heap.size w8 y.val) := Lib.hid (fun y => below_then (below_then y2.ok y2.ok.size hb10) (Nat.le_trans y2.ok.size hb10.size) y.ok)
                have j0 : ∀ y : Aft w10, y.val.cell? ⟨w2.heap.size, 0, none⟩ = some (.int .i64 (F.n : Int)) := fun y => k0 ⟨y.val, HUP.out y⟩
                have j1 : ∀ y : Aft w10, y.val.cell? ⟨w2.heap.size, 1, none⟩ = some (.slice A F.R.length c) := fun y => k1 ⟨y.val, HUP.out y⟩
                have HHG := Lib.hid (fun y : Aft w10 => has8_any (setL m) x _ y.val (IG.out ⟨y.val, HUP.out y⟩))
                obtain ⟨y10, hy10⟩ : ∃ y : Aft w10, y.val = w10 := ⟨⟨w10, Below.refl _ _⟩, rfl⟩
                rw [← hy10]
                clear hy10 hb10
                go_wp2
                go_loopw [20, 21, 22] (fun s ev i wr => ∃ (k : Nat) (y : Aft w10), k ≤ qs.length ∧ s = .bool ((qs.take k).any (fun q => q.contains x)) ∧ ev = .bool ((qs.take k).all (fun q => q.contains x)) ∧ i = .int .i64 (k : Int) ∧ wr = y.val) (fun _ _ i _ => qs.length - (RowKit.intOf i).toNat)
                case atStart => exact ⟨0, y10, Nat.zero_le _, rfl, rfl, rfl, rfl⟩
                case round =>
                  obtain ⟨k, y, hk, rfl, rfl, rfl, rfl⟩ := hrel
                  by_cases hlt : k < qs.length
                  · have hget : qs[k]? = some qs[k] := List.getElem?_eq_getElem hlt
                    obtain ⟨A7, c7, hrow⟩ := ROW.out k _ hget
                    have v0 : ∀ y : Aft w10, y.val.cell? ⟨gq, k, none⟩ = some (.slice A7 qs[k].length c7) := fun y => (hrow ⟨y.val, HUP.out y⟩).1
                    have HHQ := Lib.hid (fun y : Aft w10 => has8_any qs[k] x _ y.val (hrow ⟨y.val, HUP.out y⟩).2)
                    have HAN : Hid ((qs.take (k + 1)).any (fun q => q.contains x) = ((qs.take k).any (fun q => q.contains x) || qs[k].contains x)) := Lib.hid (by rw [List.take_succ_eq_append_getElem hlt, List.any_append]; simp)
                    have HAL : Hid ((qs.take (k + 1)).all (fun q => q.contains x) = ((qs.take k).all (fun q => q.contains x) && qs[k].contains x)) := Lib.hid (by rw [List.take_succ_eq_append_getElem hlt, List.all_append]; simp)
                    have hki : (k : Int) < (qs.length : Int) := by omega
                    have hk0 : (0 : Int) ≤ (k : Int) := by omega
                    generalize (qs.take k).any (fun q => q.contains x) = s at *
                    generalize (qs.take k).all (fun q => q.contains x) = ev at *
                    generalize qs[k].contains x = r at *
                    generalize qs[k] = q at *
                    clear hget hrow
                    cases s with
                    | true =>
                      cases ev with
                      | true =>
                        go_wp2_with (fail)
                        refine (aft_q (HHQ.out y)).mono ?_
                        rintro e _ ⟨rfl, y1, rfl⟩
                        go_wp2
                        go_roundw
                        case rel => exact ⟨k + 1, y1, by omega, by rw [HAN.out]; rfl, by rw [HAL.out]; rfl, by go_num, rfl⟩
                        case measure => simp [RowKit.intOf]; omega
                      | false =>
                        go_wp2
                        go_roundw
                        case rel => exact ⟨k + 1, y, by omega, by rw [HAN.out]; rfl, by rw [HAL.out]; rfl, by go_num, rfl⟩
                        case measure => simp [RowKit.intOf]; omega
                    | false =>
                      cases ev with
                      | true =>
                        go_wp2_with (fail)
                        refine (aft_q (HHQ.out y)).mono ?_
                        rintro e _ ⟨rfl, y1, rfl⟩
                        go_wp2_with (fail)
                        refine (aft_q (HHQ.out y1)).mono ?_
                        rintro e _ ⟨rfl, y15, rfl⟩
                        go_wp2
                        go_roundw
                        case rel => exact ⟨k + 1, y15, by omega, by rw [HAN.out]; rfl, by rw [HAL.out]; rfl, by go_num, rfl⟩
                        case measure => simp [RowKit.intOf]; omega
                      | false =>
                        go_wp2_with (fail)
                        refine (aft_q (HHQ.out y)).mono ?_
                        rintro e _ ⟨rfl, y1, rfl⟩
                        go_wp2
                        go_roundw
                        case rel => exact ⟨k + 1, y1, by omega, by rw [HAN.out]; rfl, by rw [HAL.out]; rfl, by go_num, rfl⟩
                        case measure => simp [RowKit.intOf]; omega
                  · have hge : ¬ (k : Int) < (qs.length : Int) := by omega
                    rw [List.take_of_length_le (by omega)]
                    rw [HS.out] at HOW ⊢
                    clear HS hlt
                    obtain ⟨E, hE⟩ : ∃ E, E = qs.all (fun q => q.contains x) := ⟨_, rfl⟩
                    obtain ⟨G, hG⟩ : ∃ G, G = (setL m).contains x := ⟨_, rfl⟩
                    rw [← hE] at HOW ⊢
                    rw [← hG] at HOW HHG
                    clear hE hG
                    have hstn : (st != st) = false := by simp
                    go_upto_if 150 with (fail)
                    go_cut [23] (fun v23 wx => v23 = .int .i64 (if E = true then 2 else 0) ∧ wx = y.val)
                    case first =>
                      cases E with
                      | true =>
                        go_wp2
                        go_meet
                        case rel => exact ⟨rfl, rfl⟩
                      | false =>
                        go_wp2
                        go_meet
                        case rel => exact ⟨rfl, rfl⟩
                    case rest =>
                      obtain ⟨rfl, rfl⟩ := hcut
                      generalize hM : (if E = true then (2 : Int) else 0) = M2
                      go_wp2_with (fail)
                      refine (aft_q (HHG.out y)).mono ?_
                      rintro e _ ⟨rfl, y9, rfl⟩
                      go_upto_if 153 with (fail)
                      go_cut [23] (fun v23 wx => v23 = .int .i64 st ∧ wx = y9.val)
                      case first =>
                        cases G with
                        | true =>
                          go_wp2
                          go_meet
                          case rel => exact ⟨by rw [HOW.out]; rfl, rfl⟩
                        | false =>
                          go_wp2
                          go_meet
                          case rel => exact ⟨by rw [HOW.out, ← hM]; cases E <;> rfl, rfl⟩
                      case rest =>
                        obtain ⟨rfl, rfl⟩ := hcut
                        clear hM HHG HOW
                        go_wp2
                        go_roundw
                        case rel => exact ⟨x + 1, ⟨y9.val, HUP.out y9⟩, Nat.succ_le_of_lt hxn, val_succ x, rfl⟩
                        case measure => exact meas_lt hxn
              · obtain ⟨hs1, hs2, hs3⟩ := HOK.out.som x a hga hax
                have HS := Lib.hid hs1
                have HMIN := Lib.hid hmin
                have hupa : UpL F.n (setL a) := setL_up hga.lt hn
                have ID := Lib.hid (fun y : Aft w10 => (SlR.on hid10 (Pl.stays _) y.ok y.ok.size : Ints y.val y.val.heap.size _ _))
                have HUQ : Hid (∀ y : Aft w10, Below w8.heap.size w8 y.val) := Lib.hid (fun y => below_then (below_then y2.ok y2.ok.size hb10) (Nat.le_trans y2.ok.size hb10.size) y.ok)
                have HAD := Lib.hid (fun y : Aft w10 => adm_any F HF.out (setL a) hupa A c _ y.val (FR8.out ⟨y.val, HUQ.out y⟩) (ID.out y))
                have HHD := Lib.hid (fun y : Aft w10 => has8_any (setL a) x _ y.val (ID.out y))
                have HHS := Lib.hid (fun y : Aft w10 => has8_any l x _ y.val (IL.out ⟨y.val, HUQ.out y⟩))
                have HAS : Hid (∀ y : Aft w10, Calls Try.prog 9 #[.agg #[.int .i64 (F.n : Int), .slice A F.R.length c], .slice (some ⟨g8, 0, none⟩) l.length c8] y.val (RetB (.bool (goodB F (setM l))) y.val)) := Lib.hid (fun y => HAS8.out ⟨y.val, HUQ.out y⟩)
                obtain ⟨gl, hgl⟩ : ∃ gl, gl = goodB F (setM l) := ⟨_, rfl⟩
                rw [← hgl] at HAS
                have HGE := Lib.hid hgl
                clear hgl
                rw [hs2] at HAD
                rw [hs3] at HHD
                unfold frV at HAD
                clear hs1 hs2 hs3 hga hax hmin hid10 hupa HSX HDX HUQ
                have HUP : Hid (∀ y : Aft w10, Below w8.heap.size w8 y.val) := Lib.hid (fun y => below_then (below_then y2.ok y2.ok.size hb10) (Nat.le_trans y2.ok.size hb10.size) y.ok)
                have j0 : ∀ y : Aft w10, y.val.cell? ⟨w2.heap.size, 0, none⟩ = some (.int .i64 (F.n : Int)) := fun y => k0 ⟨y.val, HUP.out y⟩
                have j1 : ∀ y : Aft w10, y.val.cell? ⟨w2.heap.size, 1, none⟩ = some (.slice A F.R.length c) := fun y => k1 ⟨y.val, HUP.out y⟩
                have HHG := Lib.hid (fun y : Aft w10 => has8_any (setL m) x _ y.val (IG.out ⟨y.val, HUP.out y⟩))
                obtain ⟨y10, hy10⟩ : ∃ y : Aft w10, y.val = w10 := ⟨⟨w10, Below.refl _ _⟩, rfl⟩
                rw [← hy10]
                clear hy10 hb10
                go_wp2
                go_loopw [20, 21, 22] (fun s ev i wr => ∃ (k : Nat) (y : Aft w10), k ≤ qs.length ∧ s = .bool ((qs.take k).any (fun q => q.contains x)) ∧ ev = .bool ((qs.take k).all (fun q => q.contains x)) ∧ i = .int .i64 (k : Int) ∧ wr = y.val) (fun _ _ i _ => qs.length - (RowKit.intOf i).toNat)
                case atStart => exact ⟨0, y10, Nat.zero_le _, rfl, rfl, rfl, rfl⟩
                case round =>
                  obtain ⟨k, y, hk, rfl, rfl, rfl, rfl⟩ := hrel
                  by_cases hlt : k < qs.length
                  · have hget : qs[k]? = some qs[k] := List.getElem?_eq_getElem hlt
                    obtain ⟨A7, c7, hrow⟩ := ROW.out k _ hget
                    have v0 : ∀ y : Aft w10, y.val.cell? ⟨gq, k, none⟩ = some (.slice A7 qs[k].length c7) := fun y => (hrow ⟨y.val, HUP.out y⟩).1
                    have HHQ := Lib.hid (fun y : Aft w10 => has8_any qs[k] x _ y.val (hrow ⟨y.val, HUP.out y⟩).2)
                    have HAN : Hid ((qs.take (k + 1)).any (fun q => q.contains x) = ((qs.take k).any (fun q => q.contains x) || qs[k].contains x)) := Lib.hid (by rw [List.take_succ_eq_append_getElem hlt, List.any_append]; simp)
                    have HAL : Hid ((qs.take (k + 1)).all (fun q => q.contains x) = ((qs.take k).all (fun q => q.contains x) && qs[k].contains x)) := Lib.hid (by rw [List.take_succ_eq_append_getElem hlt, List.all_append]; simp)
                    have hki : (k : Int) < (qs.length : Int) := by omega
                    have hk0 : (0 : Int) ≤ (k : Int) := by omega
                    generalize (qs.take k).any (fun q => q.contains x) = s at *
                    generalize (qs.take k).all (fun q => q.contains x) = ev at *
                    generalize qs[k].contains x = r at *
                    generalize qs[k] = q at *
                    clear hget hrow
                    cases s with
                    | true =>
                      cases ev with
                      | true =>
                        go_wp2_with (fail)
                        refine (aft_q (HHQ.out y)).mono ?_
                        rintro e _ ⟨rfl, y1, rfl⟩
                        go_wp2
                        go_roundw
                        case rel => exact ⟨k + 1, y1, by omega, by rw [HAN.out]; rfl, by rw [HAL.out]; rfl, by go_num, rfl⟩
                        case measure => simp [RowKit.intOf]; omega
                      | false =>
                        go_wp2
                        go_roundw
                        case rel => exact ⟨k + 1, y, by omega, by rw [HAN.out]; rfl, by rw [HAL.out]; rfl, by go_num, rfl⟩
                        case measure => simp [RowKit.intOf]; omega
                    | false =>
                      cases ev with
                      | true =>
                        go_wp2_with (fail)
                        refine (aft_q (HHQ.out y)).mono ?_
                        rintro e _ ⟨rfl, y1, rfl⟩
                        go_wp2_with (fail)
                        refine (aft_q (HHQ.out y1)).mono ?_
                        rintro e _ ⟨rfl, y15, rfl⟩
                        go_wp2
                        go_roundw
                        case rel => exact ⟨k + 1, y15, by omega, by rw [HAN.out]; rfl, by rw [HAL.out]; rfl, by go_num, rfl⟩
                        case measure => simp [RowKit.intOf]; omega
                      | false =>
                        go_wp2_with (fail)
                        refine (aft_q (HHQ.out y)).mono ?_
                        rintro e _ ⟨rfl, y1, rfl⟩
                        go_wp2
                        go_roundw
                        case rel => exact ⟨k + 1, y1, by omega, by rw [HAN.out]; rfl, by rw [HAL.out]; rfl, by go_num, rfl⟩
                        case measure => simp [RowKit.intOf]; omega
                  · have hge : ¬ (k : Int) < (qs.length : Int) := by omega
                    rw [List.take_of_length_le (by omega)]
                    rw [HS.out] at HOW ⊢
                    clear HS hlt
                    obtain ⟨E, hE⟩ : ∃ E, E = qs.all (fun q => q.contains x) := ⟨_, rfl⟩
                    obtain ⟨G, hG⟩ : ∃ G, G = (setL m).contains x := ⟨_, rfl⟩
                    rw [← hE] at HOW ⊢
                    rw [← hG] at HOW HHG
                    clear hE hG
                    have hstn : (st != st) = false := by simp
                    go_upto_if 150 with (fail)
                    go_cut [23] (fun v23 wx => v23 = .int .i64 (if E = true then 2 else 1) ∧ wx = y.val)
                    case first =>
                      cases E with
                      | true =>
                        go_wp2
                        go_meet
                        case rel => exact ⟨rfl, rfl⟩
                      | false =>
                        go_wp2
                        go_meet
                        case rel => exact ⟨rfl, rfl⟩
                    case rest =>
                      obtain ⟨rfl, rfl⟩ := hcut
                      generalize hM : (if E = true then (2 : Int) else 1) = M2
                      go_wp2_with (fail)
                      refine (aft_q (HHG.out y)).mono ?_
                      rintro e _ ⟨rfl, y9, rfl⟩
                      go_upto_if 153 with (fail)
                      go_cut [23] (fun v23 wx => v23 = .int .i64 st ∧ wx = y9.val)
                      case first =>
                        cases G with
                        | true =>
                          go_wp2
                          go_meet
                          case rel => exact ⟨by rw [HOW.out]; rfl, rfl⟩
                        | false =>
                          go_wp2
                          go_meet
                          case rel => exact ⟨by rw [HOW.out, ← hM]; cases E <;> rfl, rfl⟩
                      case rest =>
                        obtain ⟨rfl, rfl⟩ := hcut
                        clear hM HHG HOW
                        go_wp2_with (fail)
                        refine (aft_b (HAD.out y9)).mono ?_
                        rintro e _ ⟨rfl, y11, rfl⟩
                        go_wp2_with (fail)
                        refine (aft_q (HHD.out y11)).mono ?_
                        rintro e _ ⟨rfl, y12, rfl⟩
                        go_wp2_with (fail)
                        refine (aft_b (HAS.out y12)).mono ?_
                        rintro e _ ⟨rfl, y13, rfl⟩
                        cases gl with
                        | false =>
                          go_wp2
                          go_roundw
                          case rel => exact ⟨x + 1, ⟨y13.val, HUP.out y13⟩, Nat.succ_le_of_lt hxn, val_succ x, rfl⟩
                          case measure => exact meas_lt hxn
                        | true =>
                          have HGL : Hid (goodB F (setM l) = true) := Lib.hid HGE.out.symm
                          go_wp2_with (fail)
                          refine (aft_q (HHS.out y13)).mono ?_
                          rintro e _ ⟨rfl, y14, rfl⟩
                          cases hlx : l.contains x with
                          | false =>
                            clear hlx
                            go_wp2
                            go_roundw
                            case rel => exact ⟨x + 1, ⟨y14.val, HUP.out y14⟩, Nat.succ_le_of_lt hxn, val_succ x, rfl⟩
                            case measure => exact meas_lt hxn
                          | true =>
                            have hfew := HOK.out.few x a l HUPL.out HGL.out hlx HMIN.out
                            have hli : ¬ (l.length : Int) < ((setL a).length : Int) := by omega
                            clear hlx hfew
                            go_wp2
                            go_roundw
                            case rel => exact ⟨x + 1, ⟨y14.val, HUP.out y14⟩, Nat.succ_le_of_lt hxn, val_succ x, rfl⟩
                            case measure => exact meas_lt hxn
            · have hge : ¬ (x : Int) < (F.n : Int) := by omega
              go_wp2
              go_ret
              exact ⟨rfl, B8.out y⟩
end Go.Proofs.Yteljpodjjeoddaa

/- FnPairs, walked. -/
import Derived.Test.YtlbnebmdolnagaaEK
import Derived.Test.YtlbnebmdolnagaaBI
namespace Go.Proofs.Ytlbnebmdolnagaa
open Go.RowKit Go.Lib

def WtP (D : List (Nat × Nat)) (lk : List Bool) (x y m : Nat) (v : Bool) : Prop := v = true ∨ ∀ j, j < m → ¬ (D[j]? = some (x, y) ∧ lk[j]? = some true)
set_option maxRecDepth 100000 in
set_option maxHeartbeats 16000000 in
theorem lawPairs_any (A1 : Option Addr) (n1 c1 : Nat) (A2 : Option Addr) (n2 c2 : Nat) (w : World) (hA1 : BytesAt w w.heap.size A1 n1) (_hA2 : BytesAt w w.heap.size A2 n2) :
    Calls Try.prog 4 #[.slice A1 n1 c1, .slice A2 n2 c2] w (RetB (.bool true) w) := by
  have hl0 := long8_any A1 n1 c1 A2 n2 c2 w
  cases hl : (decide (48 < n1) || decide (48 < n2)) with
  | true =>
    rw [hl] at hl0
    have HL := Lib.hid hl0
    clear hl hl0
    go_enter Try.func4, Try.ntmps4
    go_wp2_with (fail)
    refine HL.out.mono ?_
    rintro e _ ⟨rfl, d, rfl⟩
    go_wp2
    go_ret
    exact ⟨rfl, below_drewN (Below.refl _ _) d⟩
  | false =>
    rw [hl] at hl0
    have HL := Lib.hid hl0
    have HA1 := Lib.hid hA1
    clear hl hl0 hA1
    go_enter Try.func4, Try.ntmps4
    go_wp2_with (fail)
    refine HL.out.mono ?_
    rintro e _ ⟨rfl, d, rfl⟩
    obtain ⟨w1, hw1⟩ : ∃ X, X = w.drewN d := ⟨_, rfl⟩
    have b1 : Below w.heap.size w w1 := by rw [hw1]; exact below_drewN (Below.refl _ _) d
    rw [← hw1]
    clear hw1
    have HB1 := Lib.hid b1
    have HF8 := Lib.hid (prof8_any A1 n1 c1 w1 (bytesAt_up HA1.out b1 b1.size))
    unfold Pf8Post at HF8
    clear b1
    go_wp2_with (fail)
    refine HF8.out.mono ?_
    rintro e w2 ⟨F, B1, d1, B2, d2, rfl, hok, hfr, hb2⟩
    have HB2 := Lib.hid (below_then HB1.out HB1.out.size hb2)
    obtain ⟨q1, q2, q3, q4, b1, o1, b2, o2, hc⟩ := hfr.cells hok
    obtain ⟨rfl, rfl, hrow, -⟩ := hc
    obtain ⟨w3, hw3, hs3, b3, z0, z1, fr, bw⟩ := pbox_at hfr
    have HF := Lib.hid hok
    have hn1 := hok.n1
    have hn6 := hok.n6
    have hl1 := hok.l1
    have hl12 := hok.l12
    obtain ⟨bb, oo, cc, u0, _⟩ := hrow 0 _ (List.getElem?_eq_getElem hl1)
    have y0 : ∀ y : Aft w3, y.val.cell? ⟨b1, o1, none⟩ = some (.slice (some ⟨bb, oo, none⟩) F.n cc) := fun y => u0 y.val (bw y)
    have BW : Hid (∀ y : Aft w3, Below w.heap.size w y.val) := Lib.hid (fun y => HB2.out.trans ((bw y).mono HB2.out.size))
    have HDO := Lib.hid (fun y : Aft w3 => duelsOf_any F hok _ _ _ _ y.val (fr y))
    have HLO := Lib.hid (fun y : Aft w3 => lockedDuels_any F hok _ _ _ _ y.val (fr y))
    have HRO := Lib.hid (fun y : Aft w3 => rankedOrder_any F hok _ _ _ _ y.val (fr y))
    have HCO := Lib.hid (fun (k a b : Nat) (h : (duels F)[k]? = some (a, b)) (y : Aft w3) => circleOf_any F hok k a b h _ _ _ _ y.val (fr y))
    have HDL := Lib.hid (duels_dul F)
    have HSRT := Lib.hid (duels_srt F)
    have hD15 : (duels F).length ≤ 15 := (duels_dul F).few hok.n6
    have hli : (0 : Int) < (F.L.length : Int) := by omega
    unfold DofPost at HDO
    unfold LofPost at HLO
    unfold RoPost at HRO
    unfold CofPost at HCO
    clear hok hfr hb2 b3 fr bw hrow u0 HF8 HL
    unfold pfV at *
    obtain ⟨D, hDe⟩ : ∃ D, D = duels F := ⟨_, rfl⟩
    rw [← hDe] at HDO HLO HRO HCO HDL HSRT hD15
    clear hDe
    go_upto_region 4 with (fail)
    rw [← hw3]
    obtain ⟨x0, hx0⟩ : ∃ y : Aft w3, y.val = w3 := ⟨⟨w3, Below.refl _ _⟩, rfl⟩
    rw [← hx0]
    clear hx0 hw3
    go_wp2_with (fail)
    refine (HDO.out x0).mono ?_
    rintro e w4 ⟨gd, cd, rfl, hrd, hgd, hcd, hcm, hb4⟩
    have HRD := Lib.hid (fun (W : World) (h : Below w4.heap.size w4 W) => hrd.below h hgd)
    obtain ⟨y4, hy4⟩ : ∃ y : Aft w3, y.val = w4 := ⟨⟨w4, below_then x0.ok x0.ok.size hb4⟩, rfl⟩
    have H4 := Lib.hid hgd
    rw [← hy4] at HRD H4 ⊢
    clear hrd hgd hb4 hy4
    go_wp2_with (fail)
    refine (HLO.out y4).mono ?_
    rintro e w5 ⟨gl, cl, lk, rfl, hlk, hll, hrl, hgl, hb5⟩
    have HLK := Lib.hid hlk
    have HLL := Lib.hid hll
    have HRL := Lib.hid (fun (W : World) (h : Below w5.heap.size w5 W) => hrl.below h hgl)
    have HRD5 := Lib.hid (fun (W : World) (h : Below w5.heap.size w5 W) => HRD.out W (below_then hb5 hb5.size h))
    obtain ⟨y5, hy5⟩ : ∃ y : Aft w3, y.val = w5 := ⟨⟨w5, below_then y4.ok y4.ok.size hb5⟩, rfl⟩
    rw [← hy5] at HRL HRD5 ⊢
    clear hlk hll hrl hgl hb5 hy5 HRD H4
    go_wp2_with (fail)
    refine (HRO.out y5).mono ?_
    rintro e w6 ⟨o, go, co, rfl, ⟨lk', hlk', hll', hord⟩, hol, hpo, hb6⟩
    have hlke := HLK.out.one hlk' HLL.out hll'
    subst hlke
    have HORD := Lib.hid hord
    have HOL := Lib.hid hol
    have HOI := Lib.hid (fun (W : World) (h : Below w6.heap.size w6 W) => (SlR.on hpo.ints (Pl.stays _) h h.size : Ints W W.heap.size _ _))
    have HRL6 := Lib.hid (fun (W : World) (h : Below w6.heap.size w6 W) => HRL.out W (below_then hb6 hb6.size h))
    have HRD6 := Lib.hid (fun (W : World) (h : Below w6.heap.size w6 W) => HRD5.out W (below_then hb6 hb6.size h))
    obtain ⟨y6, hy6⟩ : ∃ y : Aft w3, y.val = w6 := ⟨⟨w6, below_then y5.ok y5.ok.size hb6⟩, rfl⟩
    rw [← hy6] at HRL6 HRD6 HOI ⊢
    have hrk := ranks8_any o F.n hol hn6 (fun x hx => List.contains_iff_mem.2 (ord_all hord hol x hx)) _ y6.val (HOI.out y6.val (Below.refl _ _))
    have HRK := Lib.hid hrk
    have hd15 : ¬ ((15 : Int) < (D.length : Int)) := by omega
    clear hrk hlk' hll' hord hol hpo hb6 hy6 HRL HRD5 HRO HLO HDO
    go_wp2_with (fail)
    refine HRK.out.mono ?_
    rintro e w7 ⟨rfl, hb7⟩
    obtain ⟨y7, hy7⟩ : ∃ y : Aft y6.val, y.val = w7 := ⟨⟨w7, hb7⟩, rfl⟩
    rw [← hy7]
    clear hy7 hb7 HRK
    go_wp2
    go_loopw [13, 14, 15, 16, 17, 18, 19] (fun kv _ _ _ _ _ _ wr => ∃ (k : Nat) (y : Aft y6.val), k ≤ D.length ∧ kv = .int .i64 (k : Int) ∧ wr = y.val) (fun kv _ _ _ _ _ _ _ => D.length - (RowKit.intOf kv).toNat)
    case atStart => exact ⟨0, y7, Nat.zero_le _, rfl, rfl⟩
    case round =>
      obtain ⟨k, y, hk, rfl, rfl⟩ := hrel
      by_cases hlt : k < D.length
      · have hki : (k : Int) < (D.length : Int) := by omega
        have hk0 : (0 : Int) ≤ (k : Int) := by omega
        have hget : D[k]? = some D[k] := List.getElem?_eq_getElem hlt
        have hgl : lk[k]? = some (lk[k]'(by have := HLL.out; omega)) := List.getElem?_eq_getElem (by have := HLL.out; omega)
        generalize D[k] = p at *
        generalize lk[k]'(by have := HLL.out; omega) = l at *
        obtain ⟨a, b⟩ := p
        obtain ⟨ha, hb, hbt⟩ := (HDL.out.mem (a, b)).1 (List.mem_of_getElem? hget)
        have HX := Lib.hid (And.intro hget hgl)
        have HAB := Lib.hid (And.intro ha (And.intro hb hbt))
        obtain ⟨k0, k1, k2, k3⟩ := row_du (HRD6.out y.val y.ok) hget
        obtain ⟨f, hf⟩ : ∃ f, f = prs F a b := ⟨_, rfl⟩
        obtain ⟨g, hg⟩ : ∃ g, g = prs F b a := ⟨_, rfl⟩
        rw [← hf] at k2
        rw [← hg] at k3
        have HFG := Lib.hid (And.intro hf hg)
        have hgf : g < f := by rw [hf, hg]; exact hbt
        clear hf hg hget hgl ha hb hbt
        go_upto_region 14 with (fail)
        have hbA : Below y.val.heap.size y.val (y.val.alloc (.cells #[.int .i64 (a : Int), .int .i64 (b : Int), .int .i64 (f : Int), .int .i64 (g : Int)] 43)) := (Below.refl _ _).alloc (Nat.le_refl _) _
        have m0 : (y.val.alloc (.cells #[.int .i64 (a : Int), .int .i64 (b : Int), .int .i64 (f : Int), .int .i64 (g : Int)] 43)).cell? ⟨y.val.heap.size, 0, none⟩ = some (.int .i64 (a : Int)) := new_at (cs := [.int .i64 (a : Int), .int .i64 (b : Int), .int .i64 (f : Int), .int .i64 (g : Int)]) (j := 0) rfl
        have m1 : (y.val.alloc (.cells #[.int .i64 (a : Int), .int .i64 (b : Int), .int .i64 (f : Int), .int .i64 (g : Int)] 43)).cell? ⟨y.val.heap.size, 1, none⟩ = some (.int .i64 (b : Int)) := new_at (cs := [.int .i64 (a : Int), .int .i64 (b : Int), .int .i64 (f : Int), .int .i64 (g : Int)]) (j := 1) rfl
        have m2 : (y.val.alloc (.cells #[.int .i64 (a : Int), .int .i64 (b : Int), .int .i64 (f : Int), .int .i64 (g : Int)] 43)).cell? ⟨y.val.heap.size, 2, none⟩ = some (.int .i64 (f : Int)) := new_at (cs := [.int .i64 (a : Int), .int .i64 (b : Int), .int .i64 (f : Int), .int .i64 (g : Int)]) (j := 2) rfl
        have m3 : (y.val.alloc (.cells #[.int .i64 (a : Int), .int .i64 (b : Int), .int .i64 (f : Int), .int .i64 (g : Int)] 43)).cell? ⟨y.val.heap.size, 3, none⟩ = some (.int .i64 (g : Int)) := new_at (cs := [.int .i64 (a : Int), .int .i64 (b : Int), .int .i64 (f : Int), .int .i64 (g : Int)]) (j := 3) rfl
        generalize y.val.alloc (.cells #[.int .i64 (a : Int), .int .i64 (b : Int), .int .i64 (f : Int), .int .i64 (g : Int)] 43) = wa at *
        have HUP : Hid (∀ z : Aft wa, Below y6.val.heap.size y6.val z.val) := Lib.hid (fun z => below_then (below_then y.ok y.ok.size hbA) (below_then y.ok y.ok.size hbA).size z.ok)
        have HUP3 : Hid (∀ z : Aft wa, Below w3.heap.size w3 z.val) := Lib.hid (fun z => below_then y6.ok y6.ok.size (HUP.out z))
        obtain ⟨ya, hya⟩ : ∃ z : Aft wa, z.val = wa := ⟨⟨wa, Below.refl _ _⟩, rfl⟩
        have M0 := fun z : Aft wa => z.cell m0
        have M1 := fun z : Aft wa => z.cell m1
        have M2 := fun z : Aft wa => z.cell m2
        have M3 := fun z : Aft wa => z.cell m3
        generalize y.val.heap.size = gb at *
        clear hbA m0 m1 m2 m3 k0 k1 k2 k3
        rw [← hya]
        clear hya
        go_cut [124] (fun v wx => v = .bool false ∧ ∃ z : Aft wa, wx = z.val)
        case first =>
          have hl1 : decide (f ≤ g) = false := decide_eq_false (by omega)
          have hl2 : decide ((f : Int) ≤ (g : Int)) = false := decide_eq_false (by omega)
          have hl3 : ¬ (f : Int) ≤ (g : Int) := by omega
          by_cases hkp : 0 < k
          · obtain ⟨m, hm⟩ : ∃ m, k = m + 1 := ⟨k - 1, by omega⟩
            have hgm : D[m]? = some (D[m]'(by omega)) := List.getElem?_eq_getElem (by omega)
            generalize D[m]'(by omega) = q at *
            have hsr := HSRT.out m q (a, b) hgm (by rw [← hm]; exact HX.out.1)
            have r2 := fun z : Aft wa => (row_du (HRD6.out z.val (HUP.out z)) hgm).2.2.1
            have r3 := fun z : Aft wa => (row_du (HRD6.out z.val (HUP.out z)) hgm).2.2.2
            obtain ⟨a', b'⟩ := q
            have hns : ¬ (prs F a' b' < prs F a b ∨ prs F a b = prs F a' b' ∧ prs F b a < prs F b' a') := fun h => by
              rw [duLt_iff.2 h] at hsr
              cases hsr
            rw [← HFG.out.1, ← HFG.out.2] at hns
            have r2 : ∀ z : Aft wa, z.val.cell? ⟨gd, m * 4 + 2, none⟩ = some (.int .i64 (prs F a' b' : Int)) := r2
            have r3 : ∀ z : Aft wa, z.val.cell? ⟨gd, m * 4 + 3, none⟩ = some (.int .i64 (prs F b' a' : Int)) := r3
            generalize prs F a' b' = f1 at *
            generalize prs F b' a' = g1 at *
            have hkpi : (0 : Int) < (k : Int) := by omega
            have hkpd : decide (0 < k) = true := decide_eq_true hkp
            have hkw : IntKind.i64.wrap ((k : Int) - 1) = (m : Int) := by rw [IntKind.wrap_i64]; omega
            have hke : (k : Int) - 1 = (m : Int) := by omega
            have hmv : IntKind.i64.wrap (m : Int) = (m : Int) := by rw [IntKind.wrap_i64]; omega
            have hm0 : (0 : Int) ≤ (m : Int) := by omega
            have hmD : (m : Int) < (D.length : Int) := by omega
            have hc1 : decide (f1 < f) = false := decide_eq_false (by omega)
            have hc2 : decide ((f1 : Int) < (f : Int)) = false := decide_eq_false (by omega)
            have hc3 : ¬ (f1 : Int) < (f : Int) := by omega
            clear hm hgm hsr
            by_cases hff : f1 = f
            · have he1 : ((f1 : Int) == (f : Int)) = true := by rw [hff]; exact beq_self_eq_true _
              have he2 : (f1 : Int) = (f : Int) := by omega
              have hg1 : decide (g < g1) = false := decide_eq_false (by omega)
              have hg2 : decide ((g : Int) < (g1 : Int)) = false := decide_eq_false (by omega)
              have hg3 : ¬ (g : Int) < (g1 : Int) := by omega
              clear hff hns
              refine wp_region_at (by kernel_rfl) (by kernel_rfl) ?_
              repeat (go_big_quiet_step (fail))
              refine wpQuiet_nil ?_
              rintro _ ⟨z, rfl⟩
              go_wp2
              go_meet
              case rel => exact ⟨rfl, z, rfl⟩
            · have he1 : ((f1 : Int) == (f : Int)) = false := by rw [beq_eq_false_iff_ne]; omega
              have he2 : ¬ (f1 : Int) = (f : Int) := by omega
              clear hff hns
              refine wp_region_at (by kernel_rfl) (by kernel_rfl) ?_
              repeat (go_big_quiet_step (fail))
              refine wpQuiet_nil ?_
              rintro _ ⟨z, rfl⟩
              go_wp2
              go_meet
              case rel => exact ⟨rfl, z, rfl⟩
          · have hkpi : ¬ (0 : Int) < (k : Int) := by omega
            have hkpd : decide (0 < k) = false := decide_eq_false hkp
            have hkpe : decide ((0 : Int) < (k : Int)) = false := decide_eq_false hkpi
            refine wp_region_at (by kernel_rfl) (by kernel_rfl) ?_
            repeat (go_big_quiet_step (fail))
            refine wpQuiet_nil ?_
            rintro _ ⟨z, rfl⟩
            go_wp2
            go_meet
            case rel => exact ⟨rfl, z, rfl⟩
        case rest =>
          obtain ⟨rfl, z, rfl⟩ := hcut
          have Z0 : ∀ z : Aft wa, z.val.cell? ⟨w2.heap.size, 0, none⟩ = some (.slice (some ⟨b1, o1, none⟩) F.L.length d1) := fun z => z0 ⟨z.val, HUP3.out z⟩
          have Z1 : ∀ z : Aft wa, z.val.cell? ⟨w2.heap.size, 1, none⟩ = some (.slice (some ⟨b2, o2, none⟩) F.L.length d2) := fun z => z1 ⟨z.val, HUP3.out z⟩
          have HCK := Lib.hid (HCO.out k a b HX.out.1 ⟨z.val, HUP3.out z⟩)
          go_wp2_with (fail)
          refine HCK.out.mono ?_
          rintro e w8 ⟨lk2, hlk2, hll2, hb8, hor⟩
          replace hb8 : Below z.val.heap.size z.val w8 := hb8
          have hlke := HLK.out.one hlk2 HLL.out hll2
          subst hlke
          have HUB : Hid (∀ x : Aft w8, Below wa.heap.size wa x.val) := Lib.hid (fun x => below_then (below_then z.ok z.ok.size hb8) (below_then z.ok z.ok.size hb8).size x.ok)
          have HU6 : Hid (∀ x : Aft w8, Below y6.val.heap.size y6.val x.val) := Lib.hid (fun x => HUP.out ⟨x.val, HUB.out x⟩)
          have N0 := fun x : Aft w8 => M0 ⟨x.val, HUB.out x⟩
          have N1 := fun x : Aft w8 => M1 ⟨x.val, HUB.out x⟩
          have L0 : ∀ x : Aft w8, x.val.cell? ⟨gl, k, none⟩ = some (.bool l) := fun x => (HRL6.out x.val (HU6.out x)).cell k (.bool l) (by rw [List.getElem?_map, HX.out.2]; rfl)
          have hll8 : (k : Int) < (lk.length : Int) := by have := HLL.out; omega
          obtain ⟨x8, hx8⟩ : ∃ x : Aft w8, x.val = w8 := ⟨⟨w8, Below.refl _ _⟩, rfl⟩
          have HX8 := Lib.hid hx8
          clear hlk2 hll2 hb8 M0 M1 M2 M3 Z0 Z1 HCK hx8
          have N0 : ∀ x : Aft w8, x.val.cell? ⟨gb, 0, none⟩ = some (.int .i64 (a : Int)) := N0
          have N1 : ∀ x : Aft w8, x.val.cell? ⟨gb, 1, none⟩ = some (.int .i64 (b : Int)) := N1
          rcases hor with ⟨p, g9, c9, rfl, hp, hpo⟩ | ⟨rfl, hw⟩
          · have hlf : l = false := by
              cases l with
              | false => rfl
              | true =>
                obtain ⟨X, hX⟩ := HLK.out.yes k (a, b) HX.out.1 HX.out.2
                exact (hp.wall hX).elim
            subst hlf
            rw [← HX8.out]
            have hpl2 : 2 ≤ p.length := by
              have h1 := List.length_pos_iff.2 hp.ne
              have h2 : p.length ≠ 1 := fun e => by
                have := (hp.lone e).2
                have hbt := HAB.out.2.2
                unfold beats at hbt
                rw [this] at hbt
                omega
              omega
            have hpl6 : p.length ≤ 6 := Nat.le_trans hp.len hn6
            have HPI := Lib.hid (fun x : Aft w8 => (SlR.on hpo.ints (Pl.stays _) x.ok x.ok.size : Ints x.val x.val.heap.size _ _))
            have HCELL : Hid (∀ (j t : Nat), p[j]? = some t → ∀ x : Aft w8, x.val.cell? ⟨g9, j, none⟩ = some (.int .i64 (t : Int))) := Lib.hid (fun j t hj x => by
              obtain ⟨b5, o5, e5, _, h5⟩ := ints_get (HPI.out x) (barL_get hj)
              injection e5 with e5
              injection e5 with e5 e6
              subst e5
              subst e6
              rw [Nat.zero_add] at h5
              exact h5)
            obtain ⟨e, he⟩ : ∃ e, p.length = e + 1 := ⟨p.length - 1, by omega⟩
            have P0 := HCELL.out 0 b hp.fst
            have PE := HCELL.out e a (by have := hp.last; rw [List.getLast?_eq_getElem?, he] at this; exact this)
            have HP := Lib.hid hp
            have hlw : IntKind.i64.wrap ((p.length : Int) - 1) = (e : Int) := by rw [IntKind.wrap_i64]; omega
            have hle : (p.length : Int) - 1 = (e : Int) := by omega
            have hev : IntKind.i64.wrap (e : Int) = (e : Int) := by rw [IntKind.wrap_i64]; omega
            have he0 : (0 : Int) ≤ (e : Int) := by omega
            have hep : (e : Int) < (p.length : Int) := by omega
            have hp0 : (0 : Int) < (p.length : Int) := by omega
            have hq1 : decide (p.length < 2) = false := decide_eq_false (by omega)
            have hq2 : decide ((p.length : Int) < 2) = false := decide_eq_false (by omega)
            have hq3 : ¬ (p.length : Int) < 2 := by omega
            clear hp hpo he
            go_upto_region 22 with (fail)
            refine wp_region_at (by kernel_rfl) (by kernel_rfl) ?_
            repeat (go_big_quiet_step (fail))
            refine wpQuiet_nil ?_
            rintro _ ⟨u, rfl⟩
            clear hlw hle hev he0 hep P0 PE hq1 hq2 hq3
            go_wp2
            go_loopw [17, 18, 19] (fun iv _ _ wr => ∃ (i : Nat) (x : Aft w8), i + 1 ≤ p.length ∧ iv = .int .i64 ((i + 1 : Nat) : Int) ∧ wr = x.val) (fun iv _ _ _ => p.length - (RowKit.intOf iv).toNat)
            case atStart => exact ⟨0, u, by omega, rfl, rfl⟩
            case round =>
              obtain ⟨i, x, hi9, rfl, rfl⟩ := hrel
              obtain ⟨i1, hi1⟩ : ∃ i1, i1 = i + 1 := ⟨_, rfl⟩
              have HI1 := Lib.hid hi1
              rw [← hi1]
              by_cases hlti : i1 < p.length
              · have hii : (i1 : Int) < (p.length : Int) := by omega
                have hgs : p[i]? = some (p[i]'(by omega)) := List.getElem?_eq_getElem (by omega)
                have hgt : p[i1]? = some p[i1] := List.getElem?_eq_getElem hlti
                generalize p[i]'(by omega) = s at *
                generalize p[i1] = t at *
                have HST := Lib.hid (HP.out.steps i s t hgs (by rw [← hi1]; exact hgt))
                have PS := HCELL.out i s hgs
                have PT := HCELL.out i1 t hgt
                have hiw : IntKind.i64.wrap ((i1 : Int) - 1) = (i : Int) := by rw [IntKind.wrap_i64]; omega
                have hie : (i1 : Int) - 1 = (i : Int) := by omega
                have hiv : IntKind.i64.wrap (i : Int) = (i : Int) := by rw [IntKind.wrap_i64]; omega
                have hi0 : (0 : Int) ≤ (i : Int) := by omega
                have hi10 : (0 : Int) ≤ (i1 : Int) := by omega
                have hip : (i : Int) < (p.length : Int) := by omega
                clear hi1 hgs hgt
                go_wp2
                go_loopw [18, 19] (fun fv mv wr => ∃ (m : Nat) (fd : Bool) (x : Aft w8), m ≤ k ∧ fv = .bool fd ∧ mv = .int .i64 (m : Int) ∧ WtP D lk s t m fd ∧ wr = x.val) (fun _ mv _ => k - (RowKit.intOf mv).toNat)
                case atStart => exact ⟨0, false, x, Nat.zero_le _, rfl, rfl, .inr (fun j hj => by omega), rfl⟩
                case round =>
                  obtain ⟨m, fd, x, hm, rfl, rfl, hwt, rfl⟩ := hrel
                  have HWT := Lib.hid hwt
                  clear hwt
                  by_cases hltm : m < k
                  · have hmi : (m : Int) < (k : Int) := by omega
                    have hm0 : (0 : Int) ≤ (m : Int) := by omega
                    have hmD : (m : Int) < (D.length : Int) := by omega
                    have hgm : D[m]? = some (D[m]'(by omega)) := List.getElem?_eq_getElem (by omega)
                    have hglm : lk[m]? = some (lk[m]'(by have := HLL.out; omega)) := List.getElem?_eq_getElem (by have := HLL.out; omega)
                    generalize D[m]'(by omega) = q at *
                    generalize lk[m]'(by have := HLL.out; omega) = l2 at *
                    obtain ⟨s1, t1⟩ := q
                    have HXM := Lib.hid (And.intro hgm hglm)
                    have R0 : ∀ x : Aft w8, x.val.cell? ⟨gd, m * 4, none⟩ = some (.int .i64 (s1 : Int)) := fun x => (row_du (HRD6.out x.val (HU6.out x)) hgm).1
                    have R1 : ∀ x : Aft w8, x.val.cell? ⟨gd, m * 4 + 1, none⟩ = some (.int .i64 (t1 : Int)) := fun x => (row_du (HRD6.out x.val (HU6.out x)) hgm).2.1
                    have L2 : ∀ x : Aft w8, x.val.cell? ⟨gl, m, none⟩ = some (.bool l2) := fun x => (HRL6.out x.val (HU6.out x)).cell m (.bool l2) (by rw [List.getElem?_map, hglm]; rfl)
                    clear hgm hglm
                    cases fd with
                    | true =>
                      go_upto_region 31 with (fail)
                      refine wp_region_at (by kernel_rfl) (by kernel_rfl) ?_
                      repeat (go_big_quiet_step (fail))
                      refine wpQuiet_nil ?_
                      rintro _ ⟨x2, rfl⟩
                      go_wp2
                      go_roundw
                      case rel => exact ⟨m + 1, true, x2, by omega, rfl, by go_num, .inl rfl, rfl⟩
                      case measure => simp [RowKit.intOf]; omega
                    | false =>
                      have HNO : Hid ((l2 = true → s1 = s → t1 = t → False) → WtP D lk s t (m + 1) false) := Lib.hid (fun hh => .inr (fun j hj hjj => by
                        by_cases ee : j = m
                        · subst ee
                          have h1 := HXM.out.1
                          have h2 := HXM.out.2
                          rw [hjj.1] at h1
                          rw [hjj.2] at h2
                          injection h1 with h1
                          injection h1 with h1 h3
                          injection h2 with h2
                          exact hh h2.symm h1.symm h3.symm
                        · rcases HWT.out with h | h
                          · cases h
                          · exact h j (by omega) hjj))
                      cases l2 with
                      | false =>
                        have HW2 := Lib.hid (HNO.out (fun h => by cases h))
                        go_upto_region 31 with (fail)
                        refine wp_region_at (by kernel_rfl) (by kernel_rfl) ?_
                        repeat (go_big_quiet_step (fail))
                        refine wpQuiet_nil ?_
                        rintro _ ⟨x2, rfl⟩
                        go_wp2
                        go_roundw
                        case rel => exact ⟨m + 1, false, x2, by omega, rfl, by go_num, HW2.out, rfl⟩
                        case measure => simp [RowKit.intOf]; omega
                      | true =>
                        by_cases e1 : s1 = s
                        · have e1i : ((s1 : Int) = (s : Int)) := by omega
                          have e1b : ((s1 : Int) == (s : Int)) = true := by rw [e1i]; exact beq_self_eq_true _
                          by_cases e2 : t1 = t
                          · have e2i : ((t1 : Int) = (t : Int)) := by omega
                            have e2b : ((t1 : Int) == (t : Int)) = true := by rw [e2i]; exact beq_self_eq_true _
                            clear e1 e2
                            go_upto_region 31 with (fail)
                            refine wp_region_at (by kernel_rfl) (by kernel_rfl) ?_
                            repeat (go_big_quiet_step (fail))
                            refine wpQuiet_nil ?_
                            rintro _ ⟨x2, rfl⟩
                            go_wp2
                            go_roundw
                            case rel => exact ⟨m + 1, true, x2, by omega, rfl, by go_num, .inl rfl, rfl⟩
                            case measure => simp [RowKit.intOf]; omega
                          · have e2i : ¬ ((t1 : Int) = (t : Int)) := by omega
                            have e2b : ((t1 : Int) == (t : Int)) = false := by rw [beq_eq_false_iff_ne]; exact e2i
                            have HW2 := Lib.hid (HNO.out (fun _ _ h => e2 h))
                            clear e1 e2
                            go_upto_region 31 with (fail)
                            refine wp_region_at (by kernel_rfl) (by kernel_rfl) ?_
                            repeat (go_big_quiet_step (fail))
                            refine wpQuiet_nil ?_
                            rintro _ ⟨x2, rfl⟩
                            go_wp2
                            go_roundw
                            case rel => exact ⟨m + 1, false, x2, by omega, rfl, by go_num, HW2.out, rfl⟩
                            case measure => simp [RowKit.intOf]; omega
                        · have e1i : ¬ ((s1 : Int) = (s : Int)) := by omega
                          have e1b : ((s1 : Int) == (s : Int)) = false := by rw [beq_eq_false_iff_ne]; exact e1i
                          have HW2 := Lib.hid (HNO.out (fun _ h => absurd h e1))
                          clear e1
                          go_upto_region 31 with (fail)
                          refine wp_region_at (by kernel_rfl) (by kernel_rfl) ?_
                          repeat (go_big_quiet_step (fail))
                          refine wpQuiet_nil ?_
                          rintro _ ⟨x2, rfl⟩
                          go_wp2
                          go_roundw
                          case rel => exact ⟨m + 1, false, x2, by omega, rfl, by go_num, HW2.out, rfl⟩
                          case measure => simp [RowKit.intOf]; omega
                  · have hgem : ¬ (m : Int) < (k : Int) := by omega
                    have hmk : m = k := by omega
                    have hfd : fd = true := by
                      rcases HWT.out with h | h
                      · exact h
                      · obtain ⟨j, hj, h1, h2⟩ := stp_iff.1 HST.out
                        exact absurd ⟨h1, h2⟩ (h j (by omega))
                    subst hfd
                    have hi1p : i1 + 1 ≤ p.length := hlti
                    clear hmk hltm
                    go_wp2
                    go_roundw
                    case rel => exact ⟨i1, x, hi1p, by go_num, rfl⟩
                    case measure => simp [RowKit.intOf]; omega
              · have hgei : ¬ (i1 : Int) < (p.length : Int) := by omega
                have HUX := Lib.hid (HU6.out x)
                clear hi1
                go_wp2
                go_roundw
                case rel => exact ⟨k + 1, ⟨x.val, HUX.out⟩, by omega, by go_num, rfl⟩
                case measure => simp [RowKit.intOf]; omega
          · have hlf : l = true := by
              cases l with
              | true => rfl
              | false =>
                obtain ⟨q, hq⟩ := HLK.out.no k (a, b) HX.out.1 HX.out.2
                exact (hq.wall hw).elim
            subst hlf
            clear hw
            obtain ⟨i, j, hij, hjn, hai, hbj⟩ := ord_index HORD.out HOL.out (lkL_mem.2 ⟨k, hlt, HX.out.1, HX.out.2⟩) HAB.out.2.1
            have HIX := Lib.hid (fun (x j : Nat) (h : AtI o x j) (u : Aft w8) => index8_any o x j h.1 h.2 _ u.val (HOI.out u.val (HU6.out u)))
            have hd1 : decide (j ≤ i) = false := decide_eq_false (by omega)
            have hd2 : decide ((j : Int) ≤ (i : Int)) = false := decide_eq_false (by omega)
            have hd3 : ¬ (j : Int) ≤ (i : Int) := by omega
            rw [← HX8.out]
            go_upto_region 20 with (fail)
            refine wp_region_at (by kernel_rfl) (by kernel_rfl) ?_
            repeat (go_big_quiet_step ((first | (go_at_call 23; exact aft_q (HIX.out _ _ (by assumption) _)))))
            refine wpQuiet_nil ?_
            rintro _ ⟨u, rfl⟩
            go_wp2
            go_roundw
            case rel => exact ⟨k + 1, ⟨u.val, HU6.out u⟩, by omega, by go_num, rfl⟩
            case measure => simp [RowKit.intOf]; omega
      · have hge : ¬ (k : Int) < (D.length : Int) := by omega
        have HBE := Lib.hid (BW.out ⟨y.val, below_then y6.ok y6.ok.size y.ok⟩)
        go_wp2
        go_ret
        exact ⟨rfl, HBE.out⟩
end Go.Proofs.Ytlbnebmdolnagaa

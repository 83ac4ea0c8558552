/- The rounds, walked. -/
import Derived.Test.YteljpodjjeoddaaKA
namespace Go.Proofs.Yteljpodjjeoddaa
open Go.RowKit Go.Lib

/-- Zeros made, at whatever world. -/
theorem make_at {P : Program} (t e : TypeId) (i : TypeInfo) (ht : P.underlying t = some (.slice e)) (hi : P.info? e = some i) (hz : i.zero = some (.int .i64 0)) (hsize : i.size = 1) (hb8 : i.bytes = 8) (n : Nat) (hn : n ≤ 1048576) :
    ∃ cs : Array Value, cs.toList = List.replicate n (.int .i64 0) ∧ ∀ w : World, (Instr.makeSlice t (.int .i64 (n : Int)) (.int .i64 (n : Int))).run P w = .ok (.slice (some ⟨w.heap.size, 0, none⟩) n n) (w.alloc (.cells cs e)) := by
  refine ⟨madeCells (Value.cells (.int .i64 0)) (n * i.size), ?_, fun w => ?_⟩
  · rw [hsize, Nat.mul_one, show Value.cells (.int .i64 0) = #[.int .i64 0] from rfl, toList_madeCells_one]
  · have hr := run_make (P := P) w t e i _ ht hi hz .i64 .i64 n n (by omega) (Int.le_refl _) (by rw [hb8]; omega) (by omega)
    simpa only [Int.toNat_natCast] using hr
theorem below_then {B : Nat} {a b c : World} (h : Below B a b) (hB : B ≤ b.heap.size) (h' : Below b.heap.size b c) : Below B a c := h.trans (h'.mono hB)
def RoundsPost (F : Fr) (w : World) (e : Ending) (w' : World) : Prop :=
  ∃ g : Nat, e = .returned (.slice (some ⟨g, 0, none⟩) F.n F.n) ∧ w.heap.size ≤ g ∧ g < w'.heap.size ∧ Below w.heap.size w w' ∧ ∃ o : Nat → Int, Row w' g (costL o F.n) ∧ ∃ m j : Nat, RInv F o m j ∧ Shut2 F m j

set_option maxRecDepth 100000 in
set_option maxHeartbeats 8000000 in
theorem rounds_any (F : Fr) (hF : F.Ok) (A : Option Addr) (c : Nat) (w : World) (h : FrR w w.heap.size F A c) :
    Calls Try.prog 32 #[frV F A c] w (RoundsPost F w) := by
  obtain ⟨w1, hw1, hs1, b1, z0, z1, fr, bw⟩ := box_at F A c w h
  have ATK := Lib.hid (fun y => atk_any F hF A c y.val (fr y))
  have BW := Lib.hid bw
  have HF := Lib.hid hF
  have hn := hF.n10
  unfold RoundsPost
  clear hF h fr bw b1
  unfold frV at *
  go_enter Try.func32, Try.ntmps32
  go_upto_region 1 with (fail)
  rw [← hw1]
  clear hw1
  obtain ⟨i0, hi, hz0, hz1, hz2⟩ := info_parts Try.infoC64
  obtain ⟨cs, hcs, hmk⟩ := make_at (P := Try.prog) 28 2 i0 Try.underlying28 hi hz0 hz1 hz2 F.n (by omega)
  have K2 : ∀ W, Below w1.heap.size w1 W → W.cell? ⟨w.heap.size, 0, none⟩ = some (.int .i64 (F.n : Int)) ∧ W.cell? ⟨w.heap.size, 1, none⟩ = some (.slice A F.R.length c) := fun W h => ⟨z0 ⟨W, h⟩, z1 ⟨W, h⟩⟩
  have AT2 : ∀ W, Below w1.heap.size w1 W → Calls Try.prog 47 #[.agg #[.int .i64 (F.n : Int), .slice A F.R.length c]] W (AtkPost F W) := fun W h => ATK.out ⟨W, h⟩
  have BD : Below w1.heap.size w1 w1.drew := (Below.refl _ _).drew
  have BA : Below w1.heap.size w1 (w1.drew.alloc (.cells cs 2)) := BD.alloc BD.size _
  clear hi hz0 hz1 hz2 z0 z1
  go_region_held3 (fun w' => w'.cell? ⟨w.heap.size, 0, none⟩ = some (.int .i64 (F.n : Int)) ∧ w'.cell? ⟨w.heap.size, 1, none⟩ = some (.slice A F.R.length c))
    (first | exact K2 _ (Below.refl _ _) | exact K2 _ BD | exact K2 _ BA | exact K2 _ (below_then BD BD.size hb3) | exact K2 _ (below_then BA BA.size hb3) | exact K2 _ ((below_then BD BD.size hb3).alloc (below_then BD BD.size hb3).size _))
    (first
      | (go_at_call 47
         refine (AT2 _ (by first | exact BD | exact BA)).mono ?_
         rintro e w3 ⟨g, rfl, hrow, hgb, hgw, hb3⟩))
  · have hrn := Row.new w1.drew cs 2
    rw [hcs, ← costL_zero] at hrn
    have hro : Row w3 (w.heap.size + 1) (costL (fun _ => 0) F.n) := by
      have := hrn.below hb3 (by show w1.heap.size < (w1.alloc _).heap.size; simp)
      rwa [show w1.drew.heap.size = w.heap.size + 1 from hs1] at this
    have hszA : (w1.drew.alloc (.cells cs 2)).heap.size = w.heap.size + 2 := by
      rw [show (w1.drew.alloc (.cells cs 2)).heap.size = w1.heap.size + 1 by simp, hs1]
    have hgb' : w.heap.size + 2 ≤ g := by rw [← hszA]; exact hgb
    have hb9 : Below w.heap.size w w3 := (BW.out ⟨_, BA⟩).trans (hb3.mono (by show w.heap.size ≤ (w1.drew.alloc (.cells cs 2)).heap.size; omega))
    have HB9 := Lib.hid hb9
    have HO := Lib.hid hro
    have HA := Lib.hid hrow
    have hne : (w.heap.size + 1) ≠ g := by omega
    have hwO : w.heap.size ≤ w.heap.size + 1 := by omega
    have hO9 : w.heap.size + 1 < w3.heap.size := by omega
    have hA9 : g < w3.heap.size := hgw
    clear hrn hro hrow hb3 hszA hgb hgb' hb9 hgw
    generalize w.heap.size + 1 = gO at *
    generalize g = gA at *
    clear hmk K2 AT2 BD BA ATK hs1 hcs
    go_wp2
    go_loopw [4, 5, 7, 8, 9, 10, 11, 12, 13, 26, 49, 64, 91] (fun ga ja ra _ _ _ _ _ _ _ _ _ _ wr => ∃ (o : Nat → Int) (g j r : Nat), ga = .int .i64 (g : Int) ∧ ja = .int .i64 (j : Int) ∧ ra = .int .i64 (r : Int) ∧ Row wr gO (costL o F.n) ∧ Row wr gA (nCells (atkL F.n F.R)) ∧ RInv F o g j ∧ 1 ≤ r ∧ r ≤ (g ||| j) + 1 ∧ Below w.heap.size w wr ∧ gO < wr.heap.size ∧ gA < wr.heap.size) (fun ga ja _ _ _ _ _ _ _ _ _ _ _ _ => 1024 - ((RowKit.intOf ga).toNat ||| (RowKit.intOf ja).toNat))
    case atStart => exact ⟨fun _ => 0, 0, 0, 1, rfl, rfl, rfl, HO.out, HA.out, RInv.zero F, Nat.le_refl _, Nat.le_refl _, HB9.out, hO9, hA9⟩
    case round =>
      obtain ⟨o, g, j, r, rfl, rfl, rfl, ho, ha, hinv, hr1, hr2, hb, hgO, hgA⟩ := hrel
      obtain ⟨hg, hj⟩ := hinv.grd.lt
      have hp := Nat.pow_le_pow_right (n := 2) (by omega) hn
      have HG : Hid (accN F o g j r < 1024 ∧ rejN F o g j r < 1024) := Lib.hid (by
        have := (hinv.next (r := (r : Int)) (by omega)).grd.lt
        omega)
      have hgj : g ||| j < 1024 := Nat.or_lt_two_pow (n := 10) (by omega) (by omega)
      have hbo := bits_or g j (by omega) (by omega)
      have HINV := Lib.hid hinv
      have HO1 : Hid (Row wr gO (costL (o1 F (g ||| j) j r o 0) F.n)) := Lib.hid (by
        rw [costL_ext (D := o) (fun a _ => by unfold o1; rw [if_neg (fun h => absurd h.1 (by omega))])]
        exact ho)
      have HAW := Lib.hid ha
      have HBW := Lib.hid hb
      have HR2 := Lib.hid hr2
      have hgn := hg
      have hjn := hj
      have hr3 : r ≤ 1025 := by omega
      have hg4 : g < 1024 := by omega
      have hj4 : j < 1024 := by omega
      clear hinv ho ha hb hr2 hg hj hp
      obtain ⟨B, hB⟩ : ∃ B, B = g ||| j := ⟨_, rfl⟩
      rw [← hB] at hbo HO1 hgj
      have HBE := Lib.hid hB
      clear hB
      go_wp2
      go_loopw [9, 10, 26] (fun _ _ i wr => ∃ k : Nat, k ≤ F.n ∧ i = .int .i64 (k : Int) ∧ Row wr gO (costL (o1 F B j r o k) F.n) ∧ Row wr gA (nCells (atkL F.n F.R)) ∧ Below w.heap.size w wr ∧ gO < wr.heap.size ∧ gA < wr.heap.size) (fun _ _ i _ => F.n - (RowKit.intOf i).toNat)
      case atStart => exact ⟨0, Nat.zero_le _, rfl, HO1.out, HAW.out, HBW.out, hgO, hgA⟩
      case round =>
        obtain ⟨k, hk, rfl, ho, ha, hb, hgO, hgA⟩ := hrel
        have HOK := Lib.hid ho
        have HAK := Lib.hid ha
        have HBK := Lib.hid hb
        clear HO1 HAW HBW ho ha hb
        by_cases hlt : k < F.n
        · have x0 := HAK.out.cell k _ (nCells_get (atkL_get hlt))
          have hby := by_lt' HF.out k
          have hv := bits_not (byM F.R k) j (by omega) (by omega)
          have htz := tb_zero B k (by omega)
          have HS := Lib.hid (o1_succ (F := F) (b := B) (j := j) (r := (r : Int)) (o := o) (k := k))
          have HNA : Hid (newA F B j k = (!B.testBit k && anN (byM F.R k) j == 0)) := Lib.hid rfl
          have hfo := HOK.out.free k (by rw [costL_len]; exact hlt)
          have hco := HOK.out.cell k _ (costL_get hlt)
          have HSET := Lib.hid (HOK.out.set k (.int .i64 (r : Int)) (by rw [costL_len]; exact hlt))
          rw [costL_set] at HSET
          have HFAR := Lib.hid (HAK.out.far (p := ⟨gO, k, none⟩) (.int .i64 (r : Int)) (by exact hne))
          generalize byM F.R k = by' at *
          generalize o1 F B j r o k k = old at *
          obtain ⟨z, hz⟩ : ∃ z, z = anN by' j := ⟨_, rfl⟩
          rw [← hz] at hv HNA
          clear hz
          cases hbt : B.testBit k with
          | true =>
            rw [hbt] at htz HNA
            have HN : Hid (o1 F B j r o (k + 1) = o1 F B j r o k) := Lib.hid (by rw [HS.out, if_neg (by rw [HNA.out]; simp)])
            clear hbt
            go_wp2
            go_roundw
            case rel => exact ⟨k + 1, by omega, by go_num, by rw [HN.out]; exact HOK.out, HAK.out, HBK.out, hgO, hgA⟩
            case measure => simp [RowKit.intOf]; omega
          | false =>
            rw [hbt] at htz HNA
            cases z with
            | zero =>
              have hv0 : bits .andNot .i64 (by' : Int) (j : Int) = 0 := hv
              have HN : Hid (o1 F B j r o (k + 1) = fun i => if i = k then (r : Int) else o1 F B j r o k i) := Lib.hid (by rw [HS.out, if_pos (by rw [HNA.out]; rfl)])
              clear hv hbt
              go_wp2
              go_roundw
              case rel => exact ⟨k + 1, by omega, by go_num, by rw [HN.out]; exact HSET.out, HFAR.out, HBK.out.setCell hwO _, by simpa using hgO, by simpa using hgA⟩
              case measure => simp [RowKit.intOf]; omega
            | succ z =>
              have hz0 : (((z + 1 : Nat) : Int) == 0) = false := by simp; omega
              have HN : Hid (o1 F B j r o (k + 1) = o1 F B j r o k) := Lib.hid (by rw [HS.out, if_neg (by rw [HNA.out]; simp)])
              clear hbt
              go_wp2
              go_roundw
              case rel => exact ⟨k + 1, by omega, by go_num, by rw [HN.out]; exact HOK.out, HAK.out, HBK.out, hgO, hgA⟩
              case measure => simp [RowKit.intOf]; omega
        · have hge : ¬ (k : Int) < (F.n : Int) := by omega
          have hkn : k = F.n := by omega
          rw [hkn] at HOK
          obtain ⟨P, hP⟩ : ∃ P, P = o1 F B j r o F.n := ⟨_, rfl⟩
          have HP := Lib.hid hP
          rw [← hP] at HOK
          clear hP hkn hlt
          go_wp2
          go_loopw [4, 11, 49] (fun ga _ i wr' => ∃ k : Nat, k ≤ F.n ∧ i = .int .i64 (k : Int) ∧ ga = .int .i64 (upS (fun a => decide (0 < P a)) g k : Nat) ∧ wr' = wr) (fun _ _ i _ => F.n - (RowKit.intOf i).toNat)
          case atStart => exact ⟨0, Nat.zero_le _, rfl, rfl, rfl⟩
          case round =>
            obtain ⟨k, hk, rfl, rfl, rfl⟩ := hrel
            by_cases hlt : k < F.n
            · have x0 := HOK.out.cell k _ (costL_get hlt)
              have hu := upS_lt (c := fun a => decide (0 < P a)) (k := k) hgn hk
              have hp := Nat.pow_le_pow_right (n := 2) (by omega) hn
              have HS := Lib.hid (upS_succ (c := fun a => decide (0 < P a)) (g := g) (k := k))
              have hsb := set_bit (upS (fun a => decide (0 < P a)) g k) k (by omega) (by omega)
              by_cases hpk : 0 < P k
              · have HN : Hid (upS (fun a => decide (0 < P a)) g (k + 1) = upS (fun a => decide (0 < P a)) g k ||| 2 ^ k) := Lib.hid (by rw [HS.out, if_pos (decide_eq_true hpk)])
                generalize upS (fun a => decide (0 < P a)) g k = D at *
                generalize D ||| 2 ^ k = D' at *
                clear hu hp
                go_wp2
                go_roundw
                case rel => exact ⟨k + 1, by omega, by go_num, by rw [HN.out], trivial⟩
                case measure => simp [RowKit.intOf]; omega
              · have HN : Hid (upS (fun a => decide (0 < P a)) g (k + 1) = upS (fun a => decide (0 < P a)) g k) := Lib.hid (by rw [HS.out, if_neg (by rw [decide_eq_true_eq]; exact hpk)])
                generalize upS (fun a => decide (0 < P a)) g k = D at *
                clear hu hp hsb
                go_wp2
                go_roundw
                case rel => exact ⟨k + 1, by omega, by go_num, by rw [HN.out], trivial⟩
                case measure => simp [RowKit.intOf]; omega
            · have hge : ¬ (k : Int) < (F.n : Int) := by omega
              have hkn : k = F.n := by omega
              subst hkn
              have HACC : Hid (upS (fun a => decide (0 < P a)) g F.n = accN F o g j r) := Lib.hid (by unfold accN; rw [HP.out, HBE.out])
              rw [HACC.out]
              obtain ⟨G, hG⟩ : ∃ G, G = accN F o g j r := ⟨_, rfl⟩
              rw [← hG]
              have HGE := Lib.hid hG
              have hG1 : G < 1024 := by rw [hG]; exact HG.out.1
              have hGj := bits_or G j (by omega) (by omega)
              have hGl : G ||| j < 1024 := Nat.or_lt_two_pow (n := 10) (by omega) (by omega)
              have HO2 : Hid (Row _ gO (costL (o2 F (G ||| j) G r P 0) F.n)) := Lib.hid (by
                rw [costL_ext (D := P) (fun a _ => by unfold o2; rw [if_neg (fun h => absurd h.1 (by omega))])]
                exact HOK.out)
              clear hG HACC hge hlt
              obtain ⟨T, hT⟩ : ∃ T, T = G ||| j := ⟨_, rfl⟩
              rw [← hT] at hGj hGl HO2
              have HTE := Lib.hid hT
              clear hT
              go_wp2
              go_loopw [12, 64] (fun _ i wr => ∃ k : Nat, k ≤ F.n ∧ i = .int .i64 (k : Int) ∧ Row wr gO (costL (o2 F T G r P k) F.n) ∧ Row wr gA (nCells (atkL F.n F.R)) ∧ Below w.heap.size w wr ∧ gO < wr.heap.size ∧ gA < wr.heap.size) (fun _ i _ => F.n - (RowKit.intOf i).toNat)
              case atStart => exact ⟨0, Nat.zero_le _, rfl, HO2.out, HAK.out, HBK.out, hgO, hgA⟩
              case round =>
                obtain ⟨k, hk, rfl, ho, ha, hb, hgO, hgA⟩ := hrel
                have HOC := Lib.hid ho
                have HAC := Lib.hid ha
                have HBC := Lib.hid hb
                clear HO2 HAK HBK HOK ho ha hb
                by_cases hlt : k < F.n
                · have x0 := HAC.out.cell k _ (nCells_get (atkL_get hlt))
                  have hby := by_lt' HF.out k
                  have hv := bits_and (byM F.R k) G (by omega) (by omega)
                  have htz := tb_zero T k (by omega)
                  have HS := Lib.hid (o2_succ (F := F) (b := T) (g := G) (r := (r : Int)) (o := P) (k := k))
                  have HNR : Hid (newR F T G k = (!T.testBit k && byM F.R k &&& G != 0)) := Lib.hid rfl
                  have hfo := HOC.out.free k (by rw [costL_len]; exact hlt)
                  have hco := HOC.out.cell k _ (costL_get hlt)
                  have HSET := Lib.hid (HOC.out.set k (.int .i64 (-(r : Int))) (by rw [costL_len]; exact hlt))
                  rw [costL_set] at HSET
                  have HFAR := Lib.hid (HAC.out.far (p := ⟨gO, k, none⟩) (.int .i64 (-(r : Int))) (by exact hne))
                  have hwr : IntKind.i64.wrap (-(r : Int)) = -(r : Int) := by rw [IntKind.wrap_i64]; omega
                  generalize byM F.R k = by' at *
                  generalize o2 F T G r P k k = old at *
                  obtain ⟨z, hz⟩ : ∃ z, z = by' &&& G := ⟨_, rfl⟩
                  rw [← hz] at hv HNR
                  clear hz
                  cases hbt : T.testBit k with
                  | true =>
                    rw [hbt] at htz HNR
                    have HN : Hid (o2 F T G r P (k + 1) = o2 F T G r P k) := Lib.hid (by rw [HS.out, if_neg (by rw [HNR.out]; simp)])
                    clear hbt
                    go_wp2
                    go_roundw
                    case rel => exact ⟨k + 1, by omega, by go_num, by rw [HN.out]; exact HOC.out, HAC.out, HBC.out, hgO, hgA⟩
                    case measure => simp [RowKit.intOf]; omega
                  | false =>
                    rw [hbt] at htz HNR
                    cases z with
                    | zero =>
                      have hv0 : bits .and .i64 (by' : Int) (G : Int) = 0 := hv
                      have HN : Hid (o2 F T G r P (k + 1) = o2 F T G r P k) := Lib.hid (by rw [HS.out, if_neg (by rw [HNR.out]; simp)])
                      clear hv hbt
                      go_wp2
                      go_roundw
                      case rel => exact ⟨k + 1, by omega, by go_num, by rw [HN.out]; exact HOC.out, HAC.out, HBC.out, hgO, hgA⟩
                      case measure => simp [RowKit.intOf]; omega
                    | succ z =>
                      have hz0 : (((z + 1 : Nat) : Int) != 0) = true := by simp; omega
                      have HN : Hid (o2 F T G r P (k + 1) = fun i => if i = k then -(r : Int) else o2 F T G r P k i) := Lib.hid (by rw [HS.out, if_pos (by rw [HNR.out]; simp)])
                      clear hbt
                      go_wp2
                      go_roundw
                      case rel => exact ⟨k + 1, by omega, by go_num, by rw [HN.out]; exact HSET.out, HFAR.out, HBC.out.setCell hwO _, by simpa using hgO, by simpa using hgA⟩
                      case measure => simp [RowKit.intOf]; omega
                · have hge : ¬ (k : Int) < (F.n : Int) := by omega
                  have hkn : k = F.n := by omega
                  rw [hkn] at HOC
                  obtain ⟨Y, hY⟩ : ∃ Y, Y = o2 F T G r P F.n := ⟨_, rfl⟩
                  have HY : Hid (Y = outN F o g j r) := Lib.hid (by rw [hY, HP.out, HTE.out, HGE.out, HBE.out]; rfl)
                  rw [← hY] at HOC
                  clear hY hkn hlt
                  go_wp2
                  go_loopw [5, 13, 91] (fun ja _ i wr' => ∃ k : Nat, k ≤ F.n ∧ i = .int .i64 (k : Int) ∧ ja = .int .i64 (upS (fun a => decide (Y a < 0)) j k : Nat) ∧ wr' = wr) (fun _ _ i _ => F.n - (RowKit.intOf i).toNat)
                  case atStart => exact ⟨0, Nat.zero_le _, rfl, rfl, rfl⟩
                  case round =>
                    obtain ⟨k, hk, rfl, rfl, rfl⟩ := hrel
                    by_cases hlt : k < F.n
                    · have x0 := HOC.out.cell k _ (costL_get hlt)
                      have hu := upS_lt (c := fun a => decide (Y a < 0)) (k := k) hjn hk
                      have hp := Nat.pow_le_pow_right (n := 2) (by omega) hn
                      have HS := Lib.hid (upS_succ (c := fun a => decide (Y a < 0)) (g := j) (k := k))
                      have hsb := set_bit (upS (fun a => decide (Y a < 0)) j k) k (by omega) (by omega)
                      by_cases hpk : Y k < 0
                      · have HN : Hid (upS (fun a => decide (Y a < 0)) j (k + 1) = upS (fun a => decide (Y a < 0)) j k ||| 2 ^ k) := Lib.hid (by rw [HS.out, if_pos (decide_eq_true hpk)])
                        generalize upS (fun a => decide (Y a < 0)) j k = D at *
                        generalize D ||| 2 ^ k = D' at *
                        clear hu hp
                        go_wp2
                        go_roundw
                        case rel => exact ⟨k + 1, by omega, by go_num, by rw [HN.out], trivial⟩
                        case measure => simp [RowKit.intOf]; omega
                      · have HN : Hid (upS (fun a => decide (Y a < 0)) j (k + 1) = upS (fun a => decide (Y a < 0)) j k) := Lib.hid (by rw [HS.out, if_neg (by rw [decide_eq_true_eq]; exact hpk)])
                        generalize upS (fun a => decide (Y a < 0)) j k = D at *
                        clear hu hp hsb
                        go_wp2
                        go_roundw
                        case rel => exact ⟨k + 1, by omega, by go_num, by rw [HN.out], trivial⟩
                        case measure => simp [RowKit.intOf]; omega
                    · have hge : ¬ (k : Int) < (F.n : Int) := by omega
                      have hkn : k = F.n := by omega
                      subst hkn
                      have HREJ : Hid (upS (fun a => decide (Y a < 0)) j F.n = rejN F o g j r) := Lib.hid (by unfold rejN; rw [HY.out])
                      rw [HREJ.out]
                      obtain ⟨J, hJ⟩ : ∃ J, J = rejN F o g j r := ⟨_, rfl⟩
                      rw [← hJ]
                      have HJE := Lib.hid hJ
                      have hJ1 : J < 1024 := by rw [hJ]; exact HG.out.2
                      have hGJ := bits_or G J (by omega) (by omega)
                      have hEl : G ||| J < 1024 := Nat.or_lt_two_pow (n := 10) (by omega) (by omega)
                      have hinv := HINV.out.next (r := (r : Int)) (by omega)
                      have hmore := (HINV.out.more (r := (r : Int)) (by omega)).le
                      have hshut := HINV.out.shut (r := (r : Int)) HF.out (by omega)
                      rw [← HGE.out, ← HJE.out, ← HBE.out] at hmore hshut
                      rw [← HGE.out, ← HJE.out, ← HY.out] at hinv
                      have HIN := Lib.hid hinv
                      have HSH := Lib.hid hshut
                      clear hJ HREJ hge hlt hinv hshut
                      obtain ⟨E, hE⟩ : ∃ E, E = G ||| J := ⟨_, rfl⟩
                      rw [← hE] at hGJ hEl hmore HSH
                      have HEE := Lib.hid hE
                      clear hE
                      by_cases hEB : E = B
                      · have hSH := HSH.out hEB
                        have HS2 := Lib.hid hSH
                        subst hEB
                        clear hSH
                        go_wp2
                        go_ret
                        exact ⟨gO, rfl, hwO, hgO, HBC.out, Y, HOC.out, G, J, HIN.out, HS2.out⟩
                      · have hbeq : ((E : Int) == (B : Int)) = false := by simp; omega
                        have hEB2 : B < E := by omega
                        have hr5 : r + 1 ≤ E + 1 := by have := HR2.out; rw [← HBE.out] at this; omega
                        clear hEB
                        go_wp2
                        go_roundw
                        case rel => exact ⟨Y, G, J, r + 1, rfl, rfl, by go_num, HOC.out, HAC.out, HIN.out, by omega, by rw [← HEE.out]; exact hr5, HBC.out, hgO, hgA⟩
                        case measure =>
                          simp only [RowKit.intOf, Int.toNat_natCast]
                          rw [← HBE.out, ← HEE.out]
                          omega
  · have hrn := Row.new w3 cs 2
    rw [hcs, ← costL_zero] at hrn
    have hb4 : Below w3.heap.size w3 (w3.alloc (.cells cs 2)) := (Below.refl _ _).alloc (Nat.le_refl _) _
    have hra := hrow.below hb4 hgw
    have hbw3 : Below w.heap.size w w3 := below_then (BW.out ⟨_, BD⟩) (BW.out ⟨_, BD⟩).size hb3
    have HB9 := Lib.hid (below_then hbw3 hbw3.size hb4)
    have HO := Lib.hid hrn
    have HA := Lib.hid hra
    have hne : w3.heap.size ≠ g := by omega
    have hwO : w.heap.size ≤ w3.heap.size := hbw3.size
    have hO9 : w3.heap.size < (w3.alloc (.cells cs 2)).heap.size := by simp
    have hA9 : g < (w3.alloc (.cells cs 2)).heap.size := by simp; omega
    clear hrn hra hrow hb3 hgb hb4 hbw3 hgw
    generalize w3.alloc (.cells cs 2) = W9 at *
    generalize w3.heap.size = gO at *
    generalize g = gA at *
    clear hmk K2 AT2 BD BA ATK hs1 hcs
    go_wp2
    go_loopw [4, 5, 7, 8, 9, 10, 11, 12, 13, 26, 49, 64, 91] (fun ga ja ra _ _ _ _ _ _ _ _ _ _ wr => ∃ (o : Nat → Int) (g j r : Nat), ga = .int .i64 (g : Int) ∧ ja = .int .i64 (j : Int) ∧ ra = .int .i64 (r : Int) ∧ Row wr gO (costL o F.n) ∧ Row wr gA (nCells (atkL F.n F.R)) ∧ RInv F o g j ∧ 1 ≤ r ∧ r ≤ (g ||| j) + 1 ∧ Below w.heap.size w wr ∧ gO < wr.heap.size ∧ gA < wr.heap.size) (fun ga ja _ _ _ _ _ _ _ _ _ _ _ _ => 1024 - ((RowKit.intOf ga).toNat ||| (RowKit.intOf ja).toNat))
    case atStart => exact ⟨fun _ => 0, 0, 0, 1, rfl, rfl, rfl, HO.out, HA.out, RInv.zero F, Nat.le_refl _, Nat.le_refl _, HB9.out, hO9, hA9⟩
    case round =>
      obtain ⟨o, g, j, r, rfl, rfl, rfl, ho, ha, hinv, hr1, hr2, hb, hgO, hgA⟩ := hrel
      obtain ⟨hg, hj⟩ := hinv.grd.lt
      have hp := Nat.pow_le_pow_right (n := 2) (by omega) hn
      have HG : Hid (accN F o g j r < 1024 ∧ rejN F o g j r < 1024) := Lib.hid (by
        have := (hinv.next (r := (r : Int)) (by omega)).grd.lt
        omega)
      have hgj : g ||| j < 1024 := Nat.or_lt_two_pow (n := 10) (by omega) (by omega)
      have hbo := bits_or g j (by omega) (by omega)
      have HINV := Lib.hid hinv
      have HO1 : Hid (Row wr gO (costL (o1 F (g ||| j) j r o 0) F.n)) := Lib.hid (by
        rw [costL_ext (D := o) (fun a _ => by unfold o1; rw [if_neg (fun h => absurd h.1 (by omega))])]
        exact ho)
      have HAW := Lib.hid ha
      have HBW := Lib.hid hb
      have HR2 := Lib.hid hr2
      have hgn := hg
      have hjn := hj
      have hr3 : r ≤ 1025 := by omega
      have hg4 : g < 1024 := by omega
      have hj4 : j < 1024 := by omega
      clear hinv ho ha hb hr2 hg hj hp
      obtain ⟨B, hB⟩ : ∃ B, B = g ||| j := ⟨_, rfl⟩
      rw [← hB] at hbo HO1 hgj
      have HBE := Lib.hid hB
      clear hB
      go_wp2
      go_loopw [9, 10, 26] (fun _ _ i wr => ∃ k : Nat, k ≤ F.n ∧ i = .int .i64 (k : Int) ∧ Row wr gO (costL (o1 F B j r o k) F.n) ∧ Row wr gA (nCells (atkL F.n F.R)) ∧ Below w.heap.size w wr ∧ gO < wr.heap.size ∧ gA < wr.heap.size) (fun _ _ i _ => F.n - (RowKit.intOf i).toNat)
      case atStart => exact ⟨0, Nat.zero_le _, rfl, HO1.out, HAW.out, HBW.out, hgO, hgA⟩
      case round =>
        obtain ⟨k, hk, rfl, ho, ha, hb, hgO, hgA⟩ := hrel
        have HOK := Lib.hid ho
        have HAK := Lib.hid ha
        have HBK := Lib.hid hb
        clear HO1 HAW HBW ho ha hb
        by_cases hlt : k < F.n
        · have x0 := HAK.out.cell k _ (nCells_get (atkL_get hlt))
          have hby := by_lt' HF.out k
          have hv := bits_not (byM F.R k) j (by omega) (by omega)
          have htz := tb_zero B k (by omega)
          have HS := Lib.hid (o1_succ (F := F) (b := B) (j := j) (r := (r : Int)) (o := o) (k := k))
          have HNA : Hid (newA F B j k = (!B.testBit k && anN (byM F.R k) j == 0)) := Lib.hid rfl
          have hfo := HOK.out.free k (by rw [costL_len]; exact hlt)
          have hco := HOK.out.cell k _ (costL_get hlt)
          have HSET := Lib.hid (HOK.out.set k (.int .i64 (r : Int)) (by rw [costL_len]; exact hlt))
          rw [costL_set] at HSET
          have HFAR := Lib.hid (HAK.out.far (p := ⟨gO, k, none⟩) (.int .i64 (r : Int)) (by exact hne))
          generalize byM F.R k = by' at *
          generalize o1 F B j r o k k = old at *
          obtain ⟨z, hz⟩ : ∃ z, z = anN by' j := ⟨_, rfl⟩
          rw [← hz] at hv HNA
          clear hz
          cases hbt : B.testBit k with
          | true =>
            rw [hbt] at htz HNA
            have HN : Hid (o1 F B j r o (k + 1) = o1 F B j r o k) := Lib.hid (by rw [HS.out, if_neg (by rw [HNA.out]; simp)])
            clear hbt
            go_wp2
            go_roundw
            case rel => exact ⟨k + 1, by omega, by go_num, by rw [HN.out]; exact HOK.out, HAK.out, HBK.out, hgO, hgA⟩
            case measure => simp [RowKit.intOf]; omega
          | false =>
            rw [hbt] at htz HNA
            cases z with
            | zero =>
              have hv0 : bits .andNot .i64 (by' : Int) (j : Int) = 0 := hv
              have HN : Hid (o1 F B j r o (k + 1) = fun i => if i = k then (r : Int) else o1 F B j r o k i) := Lib.hid (by rw [HS.out, if_pos (by rw [HNA.out]; rfl)])
              clear hv hbt
              go_wp2
              go_roundw
              case rel => exact ⟨k + 1, by omega, by go_num, by rw [HN.out]; exact HSET.out, HFAR.out, HBK.out.setCell hwO _, by simpa using hgO, by simpa using hgA⟩
              case measure => simp [RowKit.intOf]; omega
            | succ z =>
              have hz0 : (((z + 1 : Nat) : Int) == 0) = false := by simp; omega
              have HN : Hid (o1 F B j r o (k + 1) = o1 F B j r o k) := Lib.hid (by rw [HS.out, if_neg (by rw [HNA.out]; simp)])
              clear hbt
              go_wp2
              go_roundw
              case rel => exact ⟨k + 1, by omega, by go_num, by rw [HN.out]; exact HOK.out, HAK.out, HBK.out, hgO, hgA⟩
              case measure => simp [RowKit.intOf]; omega
        · have hge : ¬ (k : Int) < (F.n : Int) := by omega
          have hkn : k = F.n := by omega
          rw [hkn] at HOK
          obtain ⟨P, hP⟩ : ∃ P, P = o1 F B j r o F.n := ⟨_, rfl⟩
          have HP := Lib.hid hP
          rw [← hP] at HOK
          clear hP hkn hlt
          go_wp2
          go_loopw [4, 11, 49] (fun ga _ i wr' => ∃ k : Nat, k ≤ F.n ∧ i = .int .i64 (k : Int) ∧ ga = .int .i64 (upS (fun a => decide (0 < P a)) g k : Nat) ∧ wr' = wr) (fun _ _ i _ => F.n - (RowKit.intOf i).toNat)
          case atStart => exact ⟨0, Nat.zero_le _, rfl, rfl, rfl⟩
          case round =>
            obtain ⟨k, hk, rfl, rfl, rfl⟩ := hrel
            by_cases hlt : k < F.n
            · have x0 := HOK.out.cell k _ (costL_get hlt)
              have hu := upS_lt (c := fun a => decide (0 < P a)) (k := k) hgn hk
              have hp := Nat.pow_le_pow_right (n := 2) (by omega) hn
              have HS := Lib.hid (upS_succ (c := fun a => decide (0 < P a)) (g := g) (k := k))
              have hsb := set_bit (upS (fun a => decide (0 < P a)) g k) k (by omega) (by omega)
              by_cases hpk : 0 < P k
              · have HN : Hid (upS (fun a => decide (0 < P a)) g (k + 1) = upS (fun a => decide (0 < P a)) g k ||| 2 ^ k) := Lib.hid (by rw [HS.out, if_pos (decide_eq_true hpk)])
                generalize upS (fun a => decide (0 < P a)) g k = D at *
                generalize D ||| 2 ^ k = D' at *
                clear hu hp
                go_wp2
                go_roundw
                case rel => exact ⟨k + 1, by omega, by go_num, by rw [HN.out], trivial⟩
                case measure => simp [RowKit.intOf]; omega
              · have HN : Hid (upS (fun a => decide (0 < P a)) g (k + 1) = upS (fun a => decide (0 < P a)) g k) := Lib.hid (by rw [HS.out, if_neg (by rw [decide_eq_true_eq]; exact hpk)])
                generalize upS (fun a => decide (0 < P a)) g k = D at *
                clear hu hp hsb
                go_wp2
                go_roundw
                case rel => exact ⟨k + 1, by omega, by go_num, by rw [HN.out], trivial⟩
                case measure => simp [RowKit.intOf]; omega
            · have hge : ¬ (k : Int) < (F.n : Int) := by omega
              have hkn : k = F.n := by omega
              subst hkn
              have HACC : Hid (upS (fun a => decide (0 < P a)) g F.n = accN F o g j r) := Lib.hid (by unfold accN; rw [HP.out, HBE.out])
              rw [HACC.out]
              obtain ⟨G, hG⟩ : ∃ G, G = accN F o g j r := ⟨_, rfl⟩
              rw [← hG]
              have HGE := Lib.hid hG
              have hG1 : G < 1024 := by rw [hG]; exact HG.out.1
              have hGj := bits_or G j (by omega) (by omega)
              have hGl : G ||| j < 1024 := Nat.or_lt_two_pow (n := 10) (by omega) (by omega)
              have HO2 : Hid (Row _ gO (costL (o2 F (G ||| j) G r P 0) F.n)) := Lib.hid (by
                rw [costL_ext (D := P) (fun a _ => by unfold o2; rw [if_neg (fun h => absurd h.1 (by omega))])]
                exact HOK.out)
              clear hG HACC hge hlt
              obtain ⟨T, hT⟩ : ∃ T, T = G ||| j := ⟨_, rfl⟩
              rw [← hT] at hGj hGl HO2
              have HTE := Lib.hid hT
              clear hT
              go_wp2
              go_loopw [12, 64] (fun _ i wr => ∃ k : Nat, k ≤ F.n ∧ i = .int .i64 (k : Int) ∧ Row wr gO (costL (o2 F T G r P k) F.n) ∧ Row wr gA (nCells (atkL F.n F.R)) ∧ Below w.heap.size w wr ∧ gO < wr.heap.size ∧ gA < wr.heap.size) (fun _ i _ => F.n - (RowKit.intOf i).toNat)
              case atStart => exact ⟨0, Nat.zero_le _, rfl, HO2.out, HAK.out, HBK.out, hgO, hgA⟩
              case round =>
                obtain ⟨k, hk, rfl, ho, ha, hb, hgO, hgA⟩ := hrel
                have HOC := Lib.hid ho
                have HAC := Lib.hid ha
                have HBC := Lib.hid hb
                clear HO2 HAK HBK HOK ho ha hb
                by_cases hlt : k < F.n
                · have x0 := HAC.out.cell k _ (nCells_get (atkL_get hlt))
                  have hby := by_lt' HF.out k
                  have hv := bits_and (byM F.R k) G (by omega) (by omega)
                  have htz := tb_zero T k (by omega)
                  have HS := Lib.hid (o2_succ (F := F) (b := T) (g := G) (r := (r : Int)) (o := P) (k := k))
                  have HNR : Hid (newR F T G k = (!T.testBit k && byM F.R k &&& G != 0)) := Lib.hid rfl
                  have hfo := HOC.out.free k (by rw [costL_len]; exact hlt)
                  have hco := HOC.out.cell k _ (costL_get hlt)
                  have HSET := Lib.hid (HOC.out.set k (.int .i64 (-(r : Int))) (by rw [costL_len]; exact hlt))
                  rw [costL_set] at HSET
                  have HFAR := Lib.hid (HAC.out.far (p := ⟨gO, k, none⟩) (.int .i64 (-(r : Int))) (by exact hne))
                  have hwr : IntKind.i64.wrap (-(r : Int)) = -(r : Int) := by rw [IntKind.wrap_i64]; omega
                  generalize byM F.R k = by' at *
                  generalize o2 F T G r P k k = old at *
                  obtain ⟨z, hz⟩ : ∃ z, z = by' &&& G := ⟨_, rfl⟩
                  rw [← hz] at hv HNR
                  clear hz
                  cases hbt : T.testBit k with
                  | true =>
                    rw [hbt] at htz HNR
                    have HN : Hid (o2 F T G r P (k + 1) = o2 F T G r P k) := Lib.hid (by rw [HS.out, if_neg (by rw [HNR.out]; simp)])
                    clear hbt
                    go_wp2
                    go_roundw
                    case rel => exact ⟨k + 1, by omega, by go_num, by rw [HN.out]; exact HOC.out, HAC.out, HBC.out, hgO, hgA⟩
                    case measure => simp [RowKit.intOf]; omega
                  | false =>
                    rw [hbt] at htz HNR
                    cases z with
                    | zero =>
                      have hv0 : bits .and .i64 (by' : Int) (G : Int) = 0 := hv
                      have HN : Hid (o2 F T G r P (k + 1) = o2 F T G r P k) := Lib.hid (by rw [HS.out, if_neg (by rw [HNR.out]; simp)])
                      clear hv hbt
                      go_wp2
                      go_roundw
                      case rel => exact ⟨k + 1, by omega, by go_num, by rw [HN.out]; exact HOC.out, HAC.out, HBC.out, hgO, hgA⟩
                      case measure => simp [RowKit.intOf]; omega
                    | succ z =>
                      have hz0 : (((z + 1 : Nat) : Int) != 0) = true := by simp; omega
                      have HN : Hid (o2 F T G r P (k + 1) = fun i => if i = k then -(r : Int) else o2 F T G r P k i) := Lib.hid (by rw [HS.out, if_pos (by rw [HNR.out]; simp)])
                      clear hbt
                      go_wp2
                      go_roundw
                      case rel => exact ⟨k + 1, by omega, by go_num, by rw [HN.out]; exact HSET.out, HFAR.out, HBC.out.setCell hwO _, by simpa using hgO, by simpa using hgA⟩
                      case measure => simp [RowKit.intOf]; omega
                · have hge : ¬ (k : Int) < (F.n : Int) := by omega
                  have hkn : k = F.n := by omega
                  rw [hkn] at HOC
                  obtain ⟨Y, hY⟩ : ∃ Y, Y = o2 F T G r P F.n := ⟨_, rfl⟩
                  have HY : Hid (Y = outN F o g j r) := Lib.hid (by rw [hY, HP.out, HTE.out, HGE.out, HBE.out]; rfl)
                  rw [← hY] at HOC
                  clear hY hkn hlt
                  go_wp2
                  go_loopw [5, 13, 91] (fun ja _ i wr' => ∃ k : Nat, k ≤ F.n ∧ i = .int .i64 (k : Int) ∧ ja = .int .i64 (upS (fun a => decide (Y a < 0)) j k : Nat) ∧ wr' = wr) (fun _ _ i _ => F.n - (RowKit.intOf i).toNat)
                  case atStart => exact ⟨0, Nat.zero_le _, rfl, rfl, rfl⟩
                  case round =>
                    obtain ⟨k, hk, rfl, rfl, rfl⟩ := hrel
                    by_cases hlt : k < F.n
                    · have x0 := HOC.out.cell k _ (costL_get hlt)
                      have hu := upS_lt (c := fun a => decide (Y a < 0)) (k := k) hjn hk
                      have hp := Nat.pow_le_pow_right (n := 2) (by omega) hn
                      have HS := Lib.hid (upS_succ (c := fun a => decide (Y a < 0)) (g := j) (k := k))
                      have hsb := set_bit (upS (fun a => decide (Y a < 0)) j k) k (by omega) (by omega)
                      by_cases hpk : Y k < 0
                      · have HN : Hid (upS (fun a => decide (Y a < 0)) j (k + 1) = upS (fun a => decide (Y a < 0)) j k ||| 2 ^ k) := Lib.hid (by rw [HS.out, if_pos (decide_eq_true hpk)])
                        generalize upS (fun a => decide (Y a < 0)) j k = D at *
                        generalize D ||| 2 ^ k = D' at *
                        clear hu hp
                        go_wp2
                        go_roundw
                        case rel => exact ⟨k + 1, by omega, by go_num, by rw [HN.out], trivial⟩
                        case measure => simp [RowKit.intOf]; omega
                      · have HN : Hid (upS (fun a => decide (Y a < 0)) j (k + 1) = upS (fun a => decide (Y a < 0)) j k) := Lib.hid (by rw [HS.out, if_neg (by rw [decide_eq_true_eq]; exact hpk)])
                        generalize upS (fun a => decide (Y a < 0)) j k = D at *
                        clear hu hp hsb
                        go_wp2
                        go_roundw
                        case rel => exact ⟨k + 1, by omega, by go_num, by rw [HN.out], trivial⟩
                        case measure => simp [RowKit.intOf]; omega
                    · have hge : ¬ (k : Int) < (F.n : Int) := by omega
                      have hkn : k = F.n := by omega
                      subst hkn
                      have HREJ : Hid (upS (fun a => decide (Y a < 0)) j F.n = rejN F o g j r) := Lib.hid (by unfold rejN; rw [HY.out])
                      rw [HREJ.out]
                      obtain ⟨J, hJ⟩ : ∃ J, J = rejN F o g j r := ⟨_, rfl⟩
                      rw [← hJ]
                      have HJE := Lib.hid hJ
                      have hJ1 : J < 1024 := by rw [hJ]; exact HG.out.2
                      have hGJ := bits_or G J (by omega) (by omega)
                      have hEl : G ||| J < 1024 := Nat.or_lt_two_pow (n := 10) (by omega) (by omega)
                      have hinv := HINV.out.next (r := (r : Int)) (by omega)
                      have hmore := (HINV.out.more (r := (r : Int)) (by omega)).le
                      have hshut := HINV.out.shut (r := (r : Int)) HF.out (by omega)
                      rw [← HGE.out, ← HJE.out, ← HBE.out] at hmore hshut
                      rw [← HGE.out, ← HJE.out, ← HY.out] at hinv
                      have HIN := Lib.hid hinv
                      have HSH := Lib.hid hshut
                      clear hJ HREJ hge hlt hinv hshut
                      obtain ⟨E, hE⟩ : ∃ E, E = G ||| J := ⟨_, rfl⟩
                      rw [← hE] at hGJ hEl hmore HSH
                      have HEE := Lib.hid hE
                      clear hE
                      by_cases hEB : E = B
                      · have hSH := HSH.out hEB
                        have HS2 := Lib.hid hSH
                        subst hEB
                        clear hSH
                        go_wp2
                        go_ret
                        exact ⟨gO, rfl, hwO, hgO, HBC.out, Y, HOC.out, G, J, HIN.out, HS2.out⟩
                      · have hbeq : ((E : Int) == (B : Int)) = false := by simp; omega
                        have hEB2 : B < E := by omega
                        have hr5 : r + 1 ≤ E + 1 := by have := HR2.out; rw [← HBE.out] at this; omega
                        clear hEB
                        go_wp2
                        go_roundw
                        case rel => exact ⟨Y, G, J, r + 1, rfl, rfl, by go_num, HOC.out, HAC.out, HIN.out, by omega, by rw [← HEE.out]; exact hr5, HBC.out, hgO, hgA⟩
                        case measure =>
                          simp only [RowKit.intOf, Int.toNat_natCast]
                          rw [← HBE.out, ← HEE.out]
                          omega
end Go.Proofs.Yteljpodjjeoddaa

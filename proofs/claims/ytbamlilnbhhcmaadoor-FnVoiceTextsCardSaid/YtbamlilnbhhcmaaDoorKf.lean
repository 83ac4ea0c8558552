/- The first circles of a list of voices, walked. -/
import Derived.Test.YtbamlilnbhhcmaaDoorKa
import Derived.Test.YtbamlilnbhhcmaaDoorKc
import Derived.Test.YtbamlilnbhhcmaaDoorKe
import Derived.Test.YtbamlilnbhhcmaaDoorQD
namespace Go.Proofs.YtbamlilnbhhcmaaDoor
open Go.RowKit Go.Lib

def intL (P : List Nat) : List Int := P.map fun n : Nat => (n : Int)
theorem intL_len (P : List Nat) : (intL P).length = P.length := by unfold intL; rw [List.length_map]
theorem intL_get {P : List Nat} {k : Nat} {z : Int} (h : (intL P)[k]? = some z) : ∃ a : Nat, P[k]? = some a ∧ z = (a : Int) := by
  unfold intL at h
  rw [List.getElem?_map] at h
  cases hp : P[k]? with
  | none => rw [hp] at h; cases h
  | some a =>
    rw [hp] at h
    injection h with h
    exact ⟨a, rfl, h.symm⟩
theorem intL_has {P : List Nat} {a : Nat} : (intL P).contains (a : Int) = true ↔ a ∈ P := by
  rw [List.contains_iff_mem]
  unfold intL
  rw [List.mem_map]
  constructor
  · rintro ⟨n, hn, e⟩
    have : n = a := by omega
    rw [← this]
    exact hn
  · exact fun h => ⟨a, h, rfl⟩
/-- What the law asks of a circle. -/
def CirOk (V : List Voi) (C : List Int) : Prop := 2 ≤ C.length ∧ C.length ≤ V.length ∧
  ∀ (k : Nat) (z : Int), C[k]? = some z → ∃ (a b : Nat) (z0 : Int), z = (a : Int) ∧ a < V.length ∧ C[0]? = some z0 ∧ z0 ≤ z ∧ C[(k + 1) % C.length]? = some (b : Int) ∧ firstV V a = some (b : Int)
theorem cir_of {V : List Voi} (hok : VoisOk V) {i : Nat} {P : List Nat} (h : Walk1 V i P (i : Int)) (hp : P ≠ []) (hm : ∀ z ∈ intL P, (i : Int) ≤ z) : CirOk V (intL P) := by
  obtain ⟨h1, h2, h3, h4⟩ := h.circle hok hp
  refine ⟨by rw [intL_len]; exact h1, by rw [intL_len]; exact h2, fun k z hz => ?_⟩
  obtain ⟨a, ha, rfl⟩ := intL_get hz
  obtain ⟨g1, b, g2, g3⟩ := h4 k a ha
  refine ⟨a, b, (i : Int), rfl, g1, ?_, hm _ (List.mem_of_getElem? hz), ?_, g3⟩
  · unfold intL
    rw [List.getElem?_map, h3]
    rfl
  · rw [intL_len]
    unfold intL
    rw [List.getElem?_map, g2]
    rfl
theorem Tryd.infoI2 : (Tryd.prog.info? 2).map (fun i => (i.zero, i.size, i.bytes)) = some (some (.int .i64 0), 1, 8) := by kernel_rfl
theorem Tryd.infoR2 : (Tryd.prog.info? 34).map (fun i => (i.zero, i.size, i.bytes)) = some (some (.slice none 0 0), 1, 24) := by kernel_rfl
/-- What asking for the first circles hands back. -/
def CirPost (V : List Voi) (w : World) (e : Ending) (w' : World) : Prop := ∃ A c C, e = .returned (.tuple #[.slice A C.length c, .bool true]) ∧ RowsR w' w'.heap.size (.slice A C.length c) C ∧ (∀ P ∈ C, CirOk V P) ∧ C.length ≤ V.length ∧ Below w.heap.size w w'
set_option maxRecDepth 100000 in
set_option maxHeartbeats 8000000 in
theorem circles2_any (V : List Voi) (v : Value) (w : World) (hV : Vois w w.heap.size v V) (hok : VoisOk V) : Calls Tryd.prog 8 #[v] w (CirPost V w) := by
  have HVAL := Lib.hid (valid2v_any V v w hV hok)
  obtain ⟨A, c, rfl, hc, hm, hel⟩ := vois_at hV
  unfold maxLen at hm
  have hl12 : V.length ≤ 12 := hok.n12
  have HEL := Lib.hid hel
  have HOK := Lib.hid hok
  obtain ⟨j0, hji, hj0, hj1, hj2⟩ := info_parts Tryd.infoI2
  obtain ⟨r0, hri, hr0, hr1, hr2⟩ := info_parts Tryd.infoR2
  clear hV hok hel
  go_enter Tryd.func8, Tryd.ntmps8
  go_wp2_with (fail)
  refine HVAL.out.mono ?_
  rintro e w1 ⟨rfl, b1⟩
  have HD0 : Hid (TreeW kRow 34 w.heap.size (w1.alloc (.cells #[] 34)) w1.heap.size 0 []) := Lib.hid (TreeW.start kRow _ (by simpa using World.ownsRow_made (base := w.heap.size) w1 #[] 0 b1.size (Nat.zero_le _) rfl))
  have HB0 : Hid (Below w.heap.size w (w1.alloc (.cells #[] 34))) := Lib.hid (b1.alloc b1.size _)
  clear b1 HVAL
  go_wp2
  go_loopw [4, 14] (fun o' i wr => ∃ (k g cap : Nat) (L : List VRow), i = .int .i64 (k : Int) ∧ k ≤ V.length ∧ L.length ≤ k ∧ o' = .slice (some ⟨g, 0, none⟩) L.length cap ∧ (∀ x ∈ L, CirOk V x.a) ∧ TreeW kRow 34 w.heap.size wr g cap L ∧ Below w.heap.size w wr) (fun _ i _ => V.length - (RowKit.intOf i).toNat)
  case atStart => exact ⟨0, w1.heap.size, 0, [], rfl, Nat.zero_le _, Nat.le_refl _, rfl, fun x hx => (by cases hx), HD0.out, HB0.out⟩
  case round =>
    obtain ⟨k, g, cap, L, rfl, hk, hLk, rfl, hco, hD, hb⟩ := hrel
    obtain ⟨W9, hW9⟩ : ∃ X, X = wr := ⟨_, rfl⟩
    rw [← hW9] at hD hb ⊢
    clear hW9
    have HD := Lib.hid hD
    have HB := Lib.hid hb
    have HCO := Lib.hid hco
    have hsw := hb.size
    clear hD hco
    by_cases hlt : k < V.length
    · have hown0 : (W9.alloc (.cells #[] 2)).ownsRow W9.heap.size 2 1 (.slice (some ⟨W9.heap.size, 0, none⟩) 0 0) 0 [] := by simpa using World.ownsRow_made W9 #[] 0 (Nat.le_refl _) (Nat.zero_le _) rfl
      have HO0 := Lib.hid hown0
      have HBI : Hid (Below W9.heap.size W9 (W9.alloc (.cells #[] 2))) := Lib.hid ((Below.refl _ _).alloc (Nat.le_refl _) _)
      clear hown0 hb
      go_wp2
      go_loopw [6, 7] (fun c' a' wr2 => ∃ (P : List Nat) (a g2 cap2 : Nat), a' = .int .i64 (a : Int) ∧ c' = .slice (some ⟨g2, 0, none⟩) P.length cap2 ∧ a < V.length ∧ Walk1 V k P (a : Int) ∧ wr2.ownsRow W9.heap.size 2 1 (.slice (some ⟨g2, 0, none⟩) P.length cap2) P.length ((intL P).flatMap intCells) ∧ Below W9.heap.size W9 wr2) (fun c' _ _ => V.length + 1 - lenV c')
      case atStart => exact ⟨[], k, W9.heap.size, 0, rfl, rfl, hlt, Walk1.init V k, HO0.out, HBI.out⟩
      case round =>
        obtain ⟨P, a, g2, cap2, rfl, rfl, ha, hW, hown, hb2⟩ := hrel
        have HW := Lib.hid hW
        have HOWN := Lib.hid hown
        have HB2 := Lib.hid hb2
        have hPl := hW.len
        obtain ⟨A9, c9, e9, hc9, hm9⟩ := own_len hown
        injection e9 with e91 e92 e93
        subst e93
        unfold maxLen at hm9
        have hI0 : Ints wr wr.heap.size (.slice (some ⟨g2, 0, none⟩) P.length cap2) (intL P) := by
          have hO := OwnL.of_own (xs := intL P) intCells (size := 1) (fun _ => rfl) (by rw [intL_len]; exact hown)
          exact hO.slR (size := 1) (fun _ => rfl)
        have HCON := Lib.hid (contains_any (intL P) (a : Int) wr _ hI0)
        obtain ⟨b, off, rfl, hblt, hcell⟩ := HEL.out (by omega)
        obtain ⟨B1, d1, k0, k1, m1, i1⟩ := hcell a _ (List.getElem?_eq_getElem ha)
        have Hx0 : Hid (∀ W, Below W9.heap.size W9 W → W.cell? ⟨b, off + a * 2, none⟩ = some (.bool V[a].sp)) := Lib.hid (fun W hW => ((HB.out.trans (hW.mono hsw)).cell (p := ⟨b, off + a * 2, none⟩) hblt).trans k0)
        have Hx1 : Hid (∀ W, Below W9.heap.size W9 W → W.cell? ⟨b, off + a * 2 + 1, none⟩ = some (.slice B1 V[a].tr.length d1)) := Lib.hid (fun W hW => ((HB.out.trans (hW.mono hsw)).cell (p := ⟨b, off + a * 2 + 1, none⟩) hblt).trans k1)
        have HI1 : Hid (∀ W, Below W9.heap.size W9 W → Ints W W.heap.size (.slice B1 V[a].tr.length d1) V[a].tr) := Lib.hid (fun W hW => SlR.on i1 (Pl.stays _) (HB.out.trans (hW.mono hsw)) (HB.out.trans (hW.mono hsw)).size)
        have hgv : V[a]? = some V[a] := List.getElem?_eq_getElem ha
        have HGV := Lib.hid hgv
        have hai : (a : Int) < (V.length : Int) := by omega
        have ha0 : (0 : Int) ≤ (a : Int) := by omega
        clear hW hown hb2 hI0 hcell k0 k1 i1 hgv e91 e92
        generalize V[a] = q at *
        obtain ⟨sp, tr⟩ := q
        cases hcn : (intL P).contains (a : Int) with
        | true =>
          rw [hcn] at HCON
          clear hcn
          go_wp2_with (fail)
          refine HCON.out.mono ?_
          rintro e _ ⟨rfl, m3, rfl⟩
          obtain ⟨w3, hw3⟩ : ∃ X, X = wr.drewN m3 := ⟨_, rfl⟩
          have b3 : Below wr.heap.size wr w3 := by rw [hw3]; exact below_drewN (Below.refl _ _) m3
          rw [← hw3]
          clear hw3
          replace HOWN := Lib.hid (own_below HOWN.out b3)
          replace HB2 := Lib.hid (HB2.out.trans (b3.mono HB2.out.size))
          clear b3 HCON
          -- behind the inner loop: world w3, the circle in HOWN (block g2), at a
          have HDE := Lib.hid (HD.out.below HB2.out)
          have HBE := Lib.hid (HB.out.trans (HB2.out.mono hsw))
          by_cases hp0 : P.length = 0
          · have hlz : ¬ (0 : Int) < (P.length : Int) := by omega
            have hlz2 : decide ((0 : Int) < (P.length : Int)) = false := decide_eq_false hlz
            clear hp0
            go_wp2
            go_roundw
            case rel => exact ⟨k + 1, g, cap, L, by go_num, by omega, by omega, rfl, HCO.out, HDE.out, HBE.out⟩
            case measure => simp [RowKit.intOf]; omega
          · have hlz : (0 : Int) < (P.length : Int) := by omega
            have hlz2 : decide ((0 : Int) < (P.length : Int)) = true := decide_eq_true hlz
            by_cases hak : a = k
            · subst hak
              have hI0 : Ints w3 w3.heap.size (.slice (some ⟨g2, 0, none⟩) P.length cap2) (intL P) := by
                have hO := OwnL.of_own (xs := intL P) intCells (size := 1) (fun _ => rfl) (by rw [intL_len]; exact HOWN.out)
                exact hO.slR (size := 1) (fun _ => rfl)
              have h0 : 0 < (intL P).length := by rw [intL_len]; omega
              have hmin := min2_any (intL P) _ w3 hI0 h0 (by rw [intL_len]; omega)
              obtain ⟨hf1, hf2⟩ := foldm_le (intL P) ((intL P)[0]'h0)
              generalize (intL P).foldl min ((intL P)[0]'h0) = m at *
              have HMIN := Lib.hid hmin
              have HMM := Lib.hid hf2
              clear hI0 hmin hf1 hf2
              go_wp2_with (fail)
              refine HMIN.out.mono ?_
              rintro e w5 ⟨rfl, b5⟩
              have HDE5 := Lib.hid (HDE.out.below b5)
              have HBE5 := Lib.hid (HBE.out.trans (b5.mono HBE.out.size))
              have HOWN5 := Lib.hid (own_below HOWN.out b5)
              have hs5 := b5.size
              clear b5 HDE HBE HMIN
              by_cases hmk : m = (a : Int)
              · have hme : (m == (a : Int)) = true := by rw [hmk]; simp
                have HCIR : Hid (CirOk V (intL P)) := Lib.hid (cir_of HOK.out HW.out (fun e => hp0 (by rw [e]; rfl)) (fun z hz => by rw [← hmk]; exact HMM.out z hz))
                have HOP : Hid (OwnL intCells (intL P) W9.heap.size w5 (.slice (some ⟨g2, 0, none⟩) P.length cap2)) := Lib.hid (by
                  have hO := OwnL.of_own (xs := intL P) intCells (size := 1) (fun _ => rfl) (by rw [intL_len]; exact HOWN5.out)
                  exact hO)
                have hba : ∀ o, Below w5.heap.size w5 (w5.alloc o) := fun o => (Below.refl _ _).alloc (Nat.le_refl _) o
                have HTA := Lib.hid (TreeW.below HDE5.out (hba (.cells #[.slice (some ⟨g2, 0, none⟩) P.length cap2] 34)))
                have HBA := Lib.hid (HBE5.out.trans ((hba (.cells #[.slice (some ⟨g2, 0, none⟩) P.length cap2] 34)).mono HBE5.out.size))
                have HROW := Lib.hid HTA.out.row
                have HOX := Lib.hid (HOP.out.on (hba (.cells #[.slice (some ⟨g2, 0, none⟩) P.length cap2] 34)))
                have hgw := HD.out.lt
                have hHLT := Lib.hid (fun q (hq : q ∈ L) c (hc : kRow.blk q c) => (kRow.lt (HD.out.inn q hq) hc).2)
                clear hmk
                go_wp2_with (at_builtin; refine wpList_append_own_at _ rfl _ _ 30 rfl w.heap.size 34 r0 (.slice none 0 0) 1 24 Tryd.underlying30 hri hr0 hr1 hr2 rfl (by decide) _ _ _ rfl HROW.out ⟨w5.heap.size, 0, none⟩ 1 1 (rCells ⟨intL P, .slice (some ⟨g2, 0, none⟩) P.length cap2⟩) rfl rfl (fun j u hj => new_at hj) (fun u hu => by simp [rCells] at hu; subst hu; rfl) ?c3 ?c4 HBA.out.size ?_)
                case c3 => unfold maxLen; omega
                case c4 => omega
                intro v' w9 hown' hgrow hiff hor
                obtain ⟨g', cap', rfl, hdc', hcm'⟩ := own_some hown' (by simpa using hiff)
                have HP9 := Lib.hid (TreeW.push (x := ⟨intL P, .slice (some ⟨g2, 0, none⟩) P.length cap2⟩) HTA.out hgrow (by rcases hor with h | h <;> injection h with h; exact .inl h; exact .inr (by simpa using h)) (by exact hown') (kRow.less (x := ⟨intL P, .slice (some ⟨g2, 0, none⟩) P.length cap2⟩) HOX.out hsw) (fun b hb => by
                  have q1 : W9.heap.size ≤ b := (OwnL.sblk HOX.out hb).1
                  exact ⟨by omega, fun q hq hqb => by have q2 := hHLT.out q hq b hqb; omega⟩))
                have HB9 := Lib.hid ((HBA.out).grown hgrow HBA.out.size (fun j hj => (HROW.out.lt j hj).1))
                have HC9 : Hid (∀ x ∈ L ++ [(⟨intL P, .slice (some ⟨g2, 0, none⟩) P.length cap2⟩ : VRow)], CirOk V x.a) := Lib.hid (fun x hx => by
                  rcases List.mem_append.1 hx with hx | hx
                  · exact HCO.out x hx
                  · rw [List.mem_singleton] at hx
                    subst hx
                    exact HCIR.out)
                clear hown' hgrow hor hiff hba
                go_wp2
                go_roundw
                case rel => exact ⟨a + 1, g', cap', L ++ [⟨intL P, .slice (some ⟨g2, 0, none⟩) P.length cap2⟩], by go_num, by omega, by rw [List.length_append, List.length_singleton]; omega, by rw [List.length_append, List.length_singleton], HC9.out, HP9.out, HB9.out⟩
                case measure => simp [RowKit.intOf]; omega
              · have hme : (m == (a : Int)) = false := by simpa using hmk
                clear hmk
                go_wp2
                go_roundw
                case rel => exact ⟨a + 1, g, cap, L, by go_num, by omega, by omega, rfl, HCO.out, HDE5.out, HBE5.out⟩
                case measure => simp [RowKit.intOf]; omega
            · have hai : ((a : Int) == (k : Int)) = false := by simpa using (fun e : (a : Int) = (k : Int) => hak (by omega))
              go_wp2
              go_roundw
              case rel => exact ⟨k + 1, g, cap, L, by go_num, by omega, by omega, rfl, HCO.out, HDE.out, HBE.out⟩
              case measure => simp [RowKit.intOf]; omega
        | false =>
          rw [hcn] at HCON
          have HNI : Hid (a ∉ P) := Lib.hid (fun h => by rw [intL_has.2 h] at hcn; cases hcn)
          clear hcn
          go_wp2_with (fail)
          refine HCON.out.mono ?_
          rintro e _ ⟨rfl, m3, rfl⟩
          obtain ⟨w3, hw3⟩ : ∃ X, X = wr.drewN m3 := ⟨_, rfl⟩
          have b3 : Below wr.heap.size wr w3 := by rw [hw3]; exact below_drewN (Below.refl _ _) m3
          rw [← hw3]
          clear hw3
          replace HOWN := Lib.hid (own_below HOWN.out b3)
          replace HB2 := Lib.hid (HB2.out.trans (b3.mono HB2.out.size))
          have x0 := Hx0.out w3 HB2.out
          have x1 := Hx1.out w3 HB2.out
          clear b3 HCON
          cases sp with
          | true =>
            -- behind the inner loop: world w3, the circle in HOWN (block g2), at a
            have HDE := Lib.hid (HD.out.below HB2.out)
            have HBE := Lib.hid (HB.out.trans (HB2.out.mono hsw))
            by_cases hp0 : P.length = 0
            · have hlz : ¬ (0 : Int) < (P.length : Int) := by omega
              have hlz2 : decide ((0 : Int) < (P.length : Int)) = false := decide_eq_false hlz
              clear hp0
              go_wp2
              go_roundw
              case rel => exact ⟨k + 1, g, cap, L, by go_num, by omega, by omega, rfl, HCO.out, HDE.out, HBE.out⟩
              case measure => simp [RowKit.intOf]; omega
            · have hlz : (0 : Int) < (P.length : Int) := by omega
              have hlz2 : decide ((0 : Int) < (P.length : Int)) = true := decide_eq_true hlz
              by_cases hak : a = k
              · subst hak
                have hI0 : Ints w3 w3.heap.size (.slice (some ⟨g2, 0, none⟩) P.length cap2) (intL P) := by
                  have hO := OwnL.of_own (xs := intL P) intCells (size := 1) (fun _ => rfl) (by rw [intL_len]; exact HOWN.out)
                  exact hO.slR (size := 1) (fun _ => rfl)
                have h0 : 0 < (intL P).length := by rw [intL_len]; omega
                have hmin := min2_any (intL P) _ w3 hI0 h0 (by rw [intL_len]; omega)
                obtain ⟨hf1, hf2⟩ := foldm_le (intL P) ((intL P)[0]'h0)
                generalize (intL P).foldl min ((intL P)[0]'h0) = m at *
                have HMIN := Lib.hid hmin
                have HMM := Lib.hid hf2
                clear hI0 hmin hf1 hf2
                go_wp2_with (fail)
                refine HMIN.out.mono ?_
                rintro e w5 ⟨rfl, b5⟩
                have HDE5 := Lib.hid (HDE.out.below b5)
                have HBE5 := Lib.hid (HBE.out.trans (b5.mono HBE.out.size))
                have HOWN5 := Lib.hid (own_below HOWN.out b5)
                have hs5 := b5.size
                clear b5 HDE HBE HMIN
                by_cases hmk : m = (a : Int)
                · have hme : (m == (a : Int)) = true := by rw [hmk]; simp
                  have HCIR : Hid (CirOk V (intL P)) := Lib.hid (cir_of HOK.out HW.out (fun e => hp0 (by rw [e]; rfl)) (fun z hz => by rw [← hmk]; exact HMM.out z hz))
                  have HOP : Hid (OwnL intCells (intL P) W9.heap.size w5 (.slice (some ⟨g2, 0, none⟩) P.length cap2)) := Lib.hid (by
                    have hO := OwnL.of_own (xs := intL P) intCells (size := 1) (fun _ => rfl) (by rw [intL_len]; exact HOWN5.out)
                    exact hO)
                  have hba : ∀ o, Below w5.heap.size w5 (w5.alloc o) := fun o => (Below.refl _ _).alloc (Nat.le_refl _) o
                  have HTA := Lib.hid (TreeW.below HDE5.out (hba (.cells #[.slice (some ⟨g2, 0, none⟩) P.length cap2] 34)))
                  have HBA := Lib.hid (HBE5.out.trans ((hba (.cells #[.slice (some ⟨g2, 0, none⟩) P.length cap2] 34)).mono HBE5.out.size))
                  have HROW := Lib.hid HTA.out.row
                  have HOX := Lib.hid (HOP.out.on (hba (.cells #[.slice (some ⟨g2, 0, none⟩) P.length cap2] 34)))
                  have hgw := HD.out.lt
                  have hHLT := Lib.hid (fun q (hq : q ∈ L) c (hc : kRow.blk q c) => (kRow.lt (HD.out.inn q hq) hc).2)
                  clear hmk
                  go_wp2_with (at_builtin; refine wpList_append_own_at _ rfl _ _ 30 rfl w.heap.size 34 r0 (.slice none 0 0) 1 24 Tryd.underlying30 hri hr0 hr1 hr2 rfl (by decide) _ _ _ rfl HROW.out ⟨w5.heap.size, 0, none⟩ 1 1 (rCells ⟨intL P, .slice (some ⟨g2, 0, none⟩) P.length cap2⟩) rfl rfl (fun j u hj => new_at hj) (fun u hu => by simp [rCells] at hu; subst hu; rfl) ?c3 ?c4 HBA.out.size ?_)
                  case c3 => unfold maxLen; omega
                  case c4 => omega
                  intro v' w9 hown' hgrow hiff hor
                  obtain ⟨g', cap', rfl, hdc', hcm'⟩ := own_some hown' (by simpa using hiff)
                  have HP9 := Lib.hid (TreeW.push (x := ⟨intL P, .slice (some ⟨g2, 0, none⟩) P.length cap2⟩) HTA.out hgrow (by rcases hor with h | h <;> injection h with h; exact .inl h; exact .inr (by simpa using h)) (by exact hown') (kRow.less (x := ⟨intL P, .slice (some ⟨g2, 0, none⟩) P.length cap2⟩) HOX.out hsw) (fun b hb => by
                    have q1 : W9.heap.size ≤ b := (OwnL.sblk HOX.out hb).1
                    exact ⟨by omega, fun q hq hqb => by have q2 := hHLT.out q hq b hqb; omega⟩))
                  have HB9 := Lib.hid ((HBA.out).grown hgrow HBA.out.size (fun j hj => (HROW.out.lt j hj).1))
                  have HC9 : Hid (∀ x ∈ L ++ [(⟨intL P, .slice (some ⟨g2, 0, none⟩) P.length cap2⟩ : VRow)], CirOk V x.a) := Lib.hid (fun x hx => by
                    rcases List.mem_append.1 hx with hx | hx
                    · exact HCO.out x hx
                    · rw [List.mem_singleton] at hx
                      subst hx
                      exact HCIR.out)
                  clear hown' hgrow hor hiff hba
                  go_wp2
                  go_roundw
                  case rel => exact ⟨a + 1, g', cap', L ++ [⟨intL P, .slice (some ⟨g2, 0, none⟩) P.length cap2⟩], by go_num, by omega, by rw [List.length_append, List.length_singleton]; omega, by rw [List.length_append, List.length_singleton], HC9.out, HP9.out, HB9.out⟩
                  case measure => simp [RowKit.intOf]; omega
                · have hme : (m == (a : Int)) = false := by simpa using hmk
                  clear hmk
                  go_wp2
                  go_roundw
                  case rel => exact ⟨a + 1, g, cap, L, by go_num, by omega, by omega, rfl, HCO.out, HDE5.out, HBE5.out⟩
                  case measure => simp [RowKit.intOf]; omega
              · have hai : ((a : Int) == (k : Int)) = false := by simpa using (fun e : (a : Int) = (k : Int) => hak (by omega))
                go_wp2
                go_roundw
                case rel => exact ⟨k + 1, g, cap, L, by go_num, by omega, by omega, rfl, HCO.out, HDE.out, HBE.out⟩
                case measure => simp [RowKit.intOf]; omega
          | false =>
            cases tr with
            | nil =>
              -- behind the inner loop: world w3, the circle in HOWN (block g2), at a
              have HDE := Lib.hid (HD.out.below HB2.out)
              have HBE := Lib.hid (HB.out.trans (HB2.out.mono hsw))
              by_cases hp0 : P.length = 0
              · have hlz : ¬ (0 : Int) < (P.length : Int) := by omega
                have hlz2 : decide ((0 : Int) < (P.length : Int)) = false := decide_eq_false hlz
                clear hp0
                go_wp2
                go_roundw
                case rel => exact ⟨k + 1, g, cap, L, by go_num, by omega, by omega, rfl, HCO.out, HDE.out, HBE.out⟩
                case measure => simp [RowKit.intOf]; omega
              · have hlz : (0 : Int) < (P.length : Int) := by omega
                have hlz2 : decide ((0 : Int) < (P.length : Int)) = true := decide_eq_true hlz
                by_cases hak : a = k
                · subst hak
                  have hI0 : Ints w3 w3.heap.size (.slice (some ⟨g2, 0, none⟩) P.length cap2) (intL P) := by
                    have hO := OwnL.of_own (xs := intL P) intCells (size := 1) (fun _ => rfl) (by rw [intL_len]; exact HOWN.out)
                    exact hO.slR (size := 1) (fun _ => rfl)
                  have h0 : 0 < (intL P).length := by rw [intL_len]; omega
                  have hmin := min2_any (intL P) _ w3 hI0 h0 (by rw [intL_len]; omega)
                  obtain ⟨hf1, hf2⟩ := foldm_le (intL P) ((intL P)[0]'h0)
                  generalize (intL P).foldl min ((intL P)[0]'h0) = m at *
                  have HMIN := Lib.hid hmin
                  have HMM := Lib.hid hf2
                  clear hI0 hmin hf1 hf2
                  go_wp2_with (fail)
                  refine HMIN.out.mono ?_
                  rintro e w5 ⟨rfl, b5⟩
                  have HDE5 := Lib.hid (HDE.out.below b5)
                  have HBE5 := Lib.hid (HBE.out.trans (b5.mono HBE.out.size))
                  have HOWN5 := Lib.hid (own_below HOWN.out b5)
                  have hs5 := b5.size
                  clear b5 HDE HBE HMIN
                  by_cases hmk : m = (a : Int)
                  · have hme : (m == (a : Int)) = true := by rw [hmk]; simp
                    have HCIR : Hid (CirOk V (intL P)) := Lib.hid (cir_of HOK.out HW.out (fun e => hp0 (by rw [e]; rfl)) (fun z hz => by rw [← hmk]; exact HMM.out z hz))
                    have HOP : Hid (OwnL intCells (intL P) W9.heap.size w5 (.slice (some ⟨g2, 0, none⟩) P.length cap2)) := Lib.hid (by
                      have hO := OwnL.of_own (xs := intL P) intCells (size := 1) (fun _ => rfl) (by rw [intL_len]; exact HOWN5.out)
                      exact hO)
                    have hba : ∀ o, Below w5.heap.size w5 (w5.alloc o) := fun o => (Below.refl _ _).alloc (Nat.le_refl _) o
                    have HTA := Lib.hid (TreeW.below HDE5.out (hba (.cells #[.slice (some ⟨g2, 0, none⟩) P.length cap2] 34)))
                    have HBA := Lib.hid (HBE5.out.trans ((hba (.cells #[.slice (some ⟨g2, 0, none⟩) P.length cap2] 34)).mono HBE5.out.size))
                    have HROW := Lib.hid HTA.out.row
                    have HOX := Lib.hid (HOP.out.on (hba (.cells #[.slice (some ⟨g2, 0, none⟩) P.length cap2] 34)))
                    have hgw := HD.out.lt
                    have hHLT := Lib.hid (fun q (hq : q ∈ L) c (hc : kRow.blk q c) => (kRow.lt (HD.out.inn q hq) hc).2)
                    clear hmk
                    go_wp2_with (at_builtin; refine wpList_append_own_at _ rfl _ _ 30 rfl w.heap.size 34 r0 (.slice none 0 0) 1 24 Tryd.underlying30 hri hr0 hr1 hr2 rfl (by decide) _ _ _ rfl HROW.out ⟨w5.heap.size, 0, none⟩ 1 1 (rCells ⟨intL P, .slice (some ⟨g2, 0, none⟩) P.length cap2⟩) rfl rfl (fun j u hj => new_at hj) (fun u hu => by simp [rCells] at hu; subst hu; rfl) ?c3 ?c4 HBA.out.size ?_)
                    case c3 => unfold maxLen; omega
                    case c4 => omega
                    intro v' w9 hown' hgrow hiff hor
                    obtain ⟨g', cap', rfl, hdc', hcm'⟩ := own_some hown' (by simpa using hiff)
                    have HP9 := Lib.hid (TreeW.push (x := ⟨intL P, .slice (some ⟨g2, 0, none⟩) P.length cap2⟩) HTA.out hgrow (by rcases hor with h | h <;> injection h with h; exact .inl h; exact .inr (by simpa using h)) (by exact hown') (kRow.less (x := ⟨intL P, .slice (some ⟨g2, 0, none⟩) P.length cap2⟩) HOX.out hsw) (fun b hb => by
                      have q1 : W9.heap.size ≤ b := (OwnL.sblk HOX.out hb).1
                      exact ⟨by omega, fun q hq hqb => by have q2 := hHLT.out q hq b hqb; omega⟩))
                    have HB9 := Lib.hid ((HBA.out).grown hgrow HBA.out.size (fun j hj => (HROW.out.lt j hj).1))
                    have HC9 : Hid (∀ x ∈ L ++ [(⟨intL P, .slice (some ⟨g2, 0, none⟩) P.length cap2⟩ : VRow)], CirOk V x.a) := Lib.hid (fun x hx => by
                      rcases List.mem_append.1 hx with hx | hx
                      · exact HCO.out x hx
                      · rw [List.mem_singleton] at hx
                        subst hx
                        exact HCIR.out)
                    clear hown' hgrow hor hiff hba
                    go_wp2
                    go_roundw
                    case rel => exact ⟨a + 1, g', cap', L ++ [⟨intL P, .slice (some ⟨g2, 0, none⟩) P.length cap2⟩], by go_num, by omega, by rw [List.length_append, List.length_singleton]; omega, by rw [List.length_append, List.length_singleton], HC9.out, HP9.out, HB9.out⟩
                    case measure => simp [RowKit.intOf]; omega
                  · have hme : (m == (a : Int)) = false := by simpa using hmk
                    clear hmk
                    go_wp2
                    go_roundw
                    case rel => exact ⟨a + 1, g, cap, L, by go_num, by omega, by omega, rfl, HCO.out, HDE5.out, HBE5.out⟩
                    case measure => simp [RowKit.intOf]; omega
                · have hai : ((a : Int) == (k : Int)) = false := by simpa using (fun e : (a : Int) = (k : Int) => hak (by omega))
                  go_wp2
                  go_roundw
                  case rel => exact ⟨k + 1, g, cap, L, by go_num, by omega, by omega, rfl, HCO.out, HDE.out, HBE.out⟩
                  case measure => simp [RowKit.intOf]; omega
            | cons z tr =>
              have htl : (0 : Int) < (((z :: tr).length : Nat) : Int) := by rw [List.length_cons]; omega
              have htd : decide ((0 : Int) < (((z :: tr).length : Nat) : Int)) = true := decide_eq_true htl
              have hfz : firstV V a = some z := firstV_at HGV.out rfl rfl
              have hzr := firstV_ok HOK.out hfz
              obtain ⟨a', rfl⟩ : ∃ a' : Nat, z = (a' : Int) := ⟨z.toNat, by omega⟩
              have HWN := Lib.hid (HW.out.more HNI.out ha hfz)
              have HT0 : Hid (∀ W, Below W9.heap.size W9 W → ∃ b' o', B1 = some ⟨b', o', none⟩ ∧ W.cell? ⟨b', o', none⟩ = some (.int .i64 (a' : Int))) := Lib.hid (fun W hW => by
                obtain ⟨b', o', e, _, h⟩ := ints_get (HI1.out W hW) (k := 0) (z := (a' : Int)) rfl
                rw [Nat.add_zero] at h
                exact ⟨b', o', e, h⟩)
              have hw3 := HB2.out.size
              have hltn : ((a' : Nat) : Int) = a' := rfl
              have ha' : a' < V.length := by omega
              generalize hTl : (((a' : Int) :: tr).length) = tl at *
              clear hTl hfz hzr hltn
              go_wp2_with (at_builtin; refine wpList_append_own_at _ rfl _ _ 34 rfl W9.heap.size 2 j0 (.int .i64 0) 1 8 Tryd.underlying34 hji hj0 hj1 hj2 rfl (by decide) _ _ _ rfl (HOWN.out.alloc _) ⟨w3.heap.size, 0, none⟩ 1 1 (intCells (a : Int)) rfl rfl (fun j u hj => new_at hj) (fun u hu => int_one' _ hu) ?c3 ?c4 (base_le hw3) ?_)
              case c3 => unfold maxLen; omega
              case c4 => omega
              intro v' w6 hown' hgrow hiff hat
              obtain ⟨g6, cap6, rfl, hdc6, hcm6⟩ := own_some hown' (by simpa using hiff)
              have HO6 : Hid (w6.ownsRow W9.heap.size 2 1 (.slice (some ⟨g6, 0, none⟩) (P ++ [a]).length cap6) (P ++ [a]).length ((intL (P ++ [a])).flatMap intCells)) := Lib.hid (by
                have e : (intL (P ++ [a])).flatMap intCells = (intL P).flatMap intCells ++ intCells (a : Int) := by unfold intL; rw [List.map_append, List.flatMap_append]; simp
                rw [e, List.length_append]
                exact hown')
              have HB6 : Hid (Below W9.heap.size W9 w6) := Lib.hid ((HB2.out.alloc HB2.out.size _).grown hgrow (by simp; omega) (fun j hj => (HOWN.out.lt j hj).1))
              have y1 := Hx1.out w6 HB6.out
              obtain ⟨b', o', rfl, y2⟩ := HT0.out w6 HB6.out
              clear hown' hgrow hiff hat x0 x1
              go_wp2
              go_roundw
              case rel => exact ⟨P ++ [a], a', g6, cap6, rfl, by rw [List.length_append, List.length_singleton], ha', HWN.out, HO6.out, HB6.out⟩
              case measure => simp [lenV]; omega
    · have hge : ¬ (k : Int) < (V.length : Int) := by omega
      have hR : RowsR W9 W9.heap.size (.slice (some ⟨g, 0, none⟩) L.length cap) (L.map (·.a)) := by
        have h := HD.out.tree
        exact ⟨L, rfl, h.slR, fun x hx => (show OwnL _ _ _ _ _ from h.inn x hx).slR (size := 1) (fun _ => rfl)⟩
      have HR := Lib.hid hR
      have HC : Hid (∀ P ∈ L.map (·.a), CirOk V P) := Lib.hid (fun P hP => by
        obtain ⟨x, hx, rfl⟩ := List.mem_map.1 hP
        exact HCO.out x hx)
      clear hR
      go_wp2
      go_ret2
      exact ⟨some ⟨g, 0, none⟩, cap, L.map (·.a), by rw [List.length_map]; rfl, by rw [List.length_map]; exact HR.out, HC.out, by rw [List.length_map]; omega, HB.out⟩
end Go.Proofs.YtbamlilnbhhcmaaDoor

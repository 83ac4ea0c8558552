/- A list of few voices drawn, walked. (Mostly Kg's.) -/
import Derived.Test.YtihhbkijcebapaaPf
import Derived.Test.YtihhbkijcebapaaGd
import Derived.Test.YtihhbkijcebapaaGe
import Derived.Test.YtihhbkijcebapaaQC
import Derived.Test.YtihhbkijcebapaaZc
import Derived.Test.YtihhbkijcebapaaQI
namespace Go.Proofs.Ytihhbkijcebapaa
open Go.RowKit Go.Lib

theorem TreeW.only {β : Type} {K : Kind β} {te : TypeId} {base b : Nat} {w w' : World} {g cap : Nat} {L : List β} (h : TreeW K te base w g cap L) (hb : b < base) (ho : Only b w w') : TreeW K te base w' g cap L :=
  ⟨own_only h.row hb ho, fun x hx => K.touch (h.inn x hx) (only_touch ho) (fun c hc e => by have := (K.lt (h.inn x hx) hc).1; omega), h.out, h.two⟩
theorem Row.sameK {W W' : World} {g : Nat} {L : List Value} (h : Row W g L) (e : W'.heap[g]? = W.heap[g]?) : Row W' g L :=
  ⟨fun j u hj => (World.cell?_of_block (a := ⟨g, j, none⟩) e).trans (h.cell j u hj), fun j hj => (World.frozen?_of_block (a := ⟨g, j, none⟩) e).trans (h.free j hj)⟩
/-- What drawing a count hands back. -/
def CountDraw (B : Nat) (w : World) (b k : Nat) (e : Ending) (w' : World) : Prop := ∃ n : Nat, e = .returned (.int .i64 (n : Int)) ∧ 1 ≤ n ∧ n ≤ 12 ∧ Src B w' b k ∧ Only b w w'
/-- What drawing a list of voices hands back. -/
def VoisDraw (n B : Nat) (w : World) (b k : Nat) (e : Ending) (w' : World) : Prop := ∃ A c L, e = .returned (.slice A L.length c) ∧ L.length = n ∧ TreeO kVoi w.heap.size w' (.slice A L.length c) L ∧ VoisOk (L.map (·.a)) ∧ Src B w' b k ∧ Only b w w'
theorem Try.infoV3 : (Try.prog.info? 52).map (fun i => (i.zero, i.size, i.bytes)) = some (some (.agg #[.bool false, .slice none 0 0]), 2, 32) := by kernel_rfl
set_option maxRecDepth 100000 in
set_option maxHeartbeats 8000000 in
theorem drawVois_any (B b k n : Nat) (w : World) (h : Src B w b k) (hk : k ≤ 30000) (hn1 : 1 ≤ n) (hn : n ≤ 12) : Calls Try.prog 14 #[.pointer (some ⟨b, 0, none⟩), .int .i64 (n : Int)] w (VoisDraw n B w b (k + 2 + 10 * n)) := by
  have HBw := Lib.hid h.lt.1
  have hBb := h.lt.2
  have HS := Lib.hid h
  obtain ⟨i0, hi, hz0, hz1, hz2⟩ := info_parts Try.infoV3
  obtain ⟨j0, hij, hj0, hj1, hj2⟩ := info_parts Try.infoI
  have hown0 : (w.alloc (.cells #[] 52)).ownsRow w.heap.size 52 2 (.slice (some ⟨w.heap.size, 0, none⟩) 0 0) 0 [] := by simpa using World.ownsRow_made w #[] 0 (Nat.le_refl _) (Nat.zero_le _) rfl
  have HD0 := Lib.hid (TreeW.start (base := w.heap.size) kVoi 52 hown0)
  have HO0 := Lib.hid (only_alloc (only_refl b w) (.cells #[] 52))
  have HS0 := Lib.hid (h.alloc (.cells #[] 52))
  clear h hown0 HS
  have hbw := HBw.out
  go_enter Try.func14, Try.ntmps14
  go_wp2_with (fail)
  refine (pick_pos B b _ 4 _ HS0.out (by omega) (by omega) (by omega)).mono ?_
  rintro e w1 ⟨x4, hx4, rfl, hs1, ho1⟩
  have HS1 := Lib.hid hs1
  have HO1 := Lib.hid (only_trans HO0.out ho1)
  have HD1 := Lib.hid (HD0.out.only hbw ho1)
  have e1 : IntKind.i64.wrap (2 + (x4 : Int)) = ((2 + x4 : Nat) : Int) := by rw [IntKind.wrap_i64]; omega
  clear hs1 ho1 HS0 HO0 HD0
  go_wp2
  go_loopw [5, 7] (fun o' i wr => ∃ (j g cap : Nat) (L : List VVoi), i = .int .i64 (j : Int) ∧ j ≤ n ∧ L.length = j ∧ o' = .slice (some ⟨g, 0, none⟩) j cap ∧ (∀ (q : Nat) (x : VVoi), L[q]? = some x → okTrust x.a.tr (q : Int) n = true) ∧ TreeW kVoi 52 w.heap.size wr g cap L ∧ Src B wr b (k + 2 + 10 * j) ∧ Only b w wr) (fun _ i _ => n - (RowKit.intOf i).toNat)
  case atStart => exact ⟨0, w.heap.size, 0, [], rfl, Nat.zero_le _, rfl, rfl, fun q x hx => by simp at hx, HD1.out, HS1.out.more (by omega), HO1.out⟩
  case round =>
    obtain ⟨j, g, cap, L, rfl, hj, hgl, rfl, hok, hD, hs, ho⟩ := hrel
    obtain ⟨W, hW⟩ : ∃ X, X = wr := ⟨_, rfl⟩
    rw [← hW] at hD hs ho ⊢
    clear hW
    have HD := Lib.hid hD
    have HSW := Lib.hid hs
    have HOW := Lib.hid ho
    have HOK := Lib.hid hok
    have hww := ho.size
    have hbW : b < W.heap.size := by omega
    clear hD hs ho hok HS1 HO1 HD1
    by_cases hlt : j < n
    · have hlti : (j : Int) < (n : Int) := by omega
      go_wp2_with (fail)
      refine (one_any B b _ _ W HSW.out (by omega) (by omega) (by omega)).mono ?_
      rintro e w3 ⟨y, rfl, hs3, ho3⟩
      have HS3 := Lib.hid hs3
      have HO3 := Lib.hid ho3
      have hs3z := ho3.size
      clear hs3 ho3
      go_upto_region 7 with (fail)
      obtain ⟨w4, hw4⟩ : ∃ X, X = (w3.alloc (.cells #[] 2)).alloc (.cells #[.bool y, .slice (some ⟨w3.heap.size, 0, none⟩) 0 0] 52) := ⟨_, rfl⟩
      have hr4 : Row w4 (w3.heap.size + 1) [.bool y, .slice (some ⟨w3.heap.size, 0, none⟩) 0 0] := by
        rw [hw4]
        have := Row.new (w3.alloc (.cells #[] 2)) #[.bool y, .slice (some ⟨w3.heap.size, 0, none⟩) 0 0] 52
        rw [show (w3.alloc (.cells #[] 2)).heap.size = w3.heap.size + 1 by simp] at this
        exact this
      have hs4z : w4.heap.size = w3.heap.size + 2 := by rw [hw4]; simp
      have b4 : Below w3.heap.size w3 w4 := by rw [hw4]; exact ((Below.refl _ _).alloc (Nat.le_refl _) _).alloc (by simp) _
      have hown4 : w4.ownsRow W.heap.size 2 1 (.slice (some ⟨w3.heap.size, 0, none⟩) 0 0) 0 [] := by
        rw [hw4]
        exact (by simpa using World.ownsRow_made (base := W.heap.size) w3 #[] 0 hs3z (Nat.zero_le _) rfl : (w3.alloc (.cells #[] 2)).ownsRow W.heap.size 2 1 (.slice (some ⟨w3.heap.size, 0, none⟩) 0 0) 0 []).alloc _
      rw [← hw4]
      clear hw4
      have HR4 := Lib.hid hr4
      have HW4 := Lib.hid hown4
      have HS4 := Lib.hid (HS3.out.below b4 HS3.out.lt.1)
      have HO4 := Lib.hid (only_below' HO3.out b4 hs3z)
      clear hr4 hown4 b4 HS3 HO3
      go_wp2_with (fail)
      refine (pick_pos B b _ 4 w4 HS4.out (by omega) (by omega) (by omega)).mono ?_
      rintro e w5 ⟨x5, hx5, rfl, hs5, ho5⟩
      have HS5 := Lib.hid hs5
      have HO5 := Lib.hid (only_trans HO4.out ho5)
      have HR5 := Lib.hid (HR4.out.only (by omega) (by omega) ho5)
      have HW5 := Lib.hid (own_only HW4.out (by omega) ho5)
      have hs5z := ho5.size
      obtain ⟨bx, hbx⟩ : ∃ bx, bx = w3.heap.size + 1 := ⟨_, rfl⟩
      rw [← hbx] at HR5 ⊢
      have hbx1 : w3.heap.size + 1 ≤ bx := by omega
      have hbx2 : bx ≤ w3.heap.size + 1 := by omega
      have hw5z : w3.heap.size + 2 ≤ w5.heap.size := by omega
      clear hs5 ho5 HS4 HO4 HR4 HW4 hbx hs4z
      go_wp2
      go_loopw [9] (fun c wr2 => ∃ (zs : List Int) (m g2 cap2 : Nat), c = .int .i64 (m : Int) ∧ zs.length + m ≤ 3 ∧ Row wr2 bx [.bool y, .slice (some ⟨g2, 0, none⟩) zs.length cap2] ∧ wr2.ownsRow W.heap.size 2 1 (.slice (some ⟨g2, 0, none⟩) zs.length cap2) zs.length (zs.flatMap intCells) ∧ g2 ≠ bx ∧ okTrust zs (j : Int) n = true ∧ Src B wr2 b (k + 2 + 10 * j + 4 + 2 * (3 - m)) ∧ Only b W wr2 ∧ bx < wr2.heap.size) (fun c _ => (RowKit.intOf c).toNat)
      case atStart => exact ⟨[], x5, w3.heap.size, 0, rfl, by show 0 + _ ≤ 3; omega, HR5.out, HW5.out, by omega, trust_nil _ _, HS5.out.more (by omega), HO5.out, by omega⟩
      case round =>
        obtain ⟨zs, m, g2, cap2, rfl, hzm, hrow, hown, hgx, hokz, hs, ho, hbxl⟩ := hrel
        obtain ⟨A9, c9, e9, hc9, hm9⟩ := own_len hown
        injection e9 with e91 e92 e93
        subst e93
        unfold maxLen at hm9
        have HROW := Lib.hid hrow
        have HOWN := Lib.hid hown
        have HOKZ := Lib.hid hokz
        have HS6 := Lib.hid hs
        have HO6 := Lib.hid ho
        have hwr := ho.size
        clear hrow hown hokz hs ho e91 e92
        by_cases hm : 0 < m
        · obtain ⟨m, rfl⟩ : ∃ q, m = q + 1 := ⟨m - 1, by omega⟩
          have hm1 : (0 : Int) < ((m + 1 : Nat) : Int) := by omega
          go_wp2_with (fail)
          refine (pick_pos B b _ (n : Int) wr HS6.out (by omega) (by omega) (by omega)).mono ?_
          rintro e w7 ⟨t, ht, rfl, hs7, ho7⟩
          have HS7 := Lib.hid hs7
          have HO7 := Lib.hid (only_trans HO6.out ho7)
          have HROW7 := Lib.hid (HROW.out.only hbxl (by omega) ho7)
          have HOWN7 := Lib.hid (own_only HOWN.out (by omega) ho7)
          have hs7z := ho7.size
          clear hs7 ho7 HS6 HO6 HROW HOWN
          by_cases htj : (t : Int) = (j : Int)
          · have e0 : ((t : Int) != (j : Int)) = false := by simp [htj]
            clear htj
            go_wp2
            go_roundw
            case rel => exact ⟨zs, m, g2, cap2, by go_num, by omega, HROW7.out, HOWN7.out, hgx, HOKZ.out, HS7.out.more (by omega), HO7.out, by omega⟩
            case measure => simp [RowKit.intOf] <;> omega
          · have e0 : ((t : Int) != (j : Int)) = true := by simpa using htj
            have HTJ := Lib.hid htj
            clear htj
            obtain ⟨r, hr⟩ : ∃ r, zs.contains (t : Int) = r := ⟨_, rfl⟩
            have HH := Lib.hid (has1_val zs t w7 (.slice (some ⟨g2, 0, none⟩) zs.length cap2) r ((OwnL.of_own intCells (size := 1) (fun _ => rfl) HOWN7.out).slR (size := 1) (fun _ => rfl)) hr)
            have HR := Lib.hid hr
            have q1 := HROW7.out.cell 1 _ rfl
            clear hr
            go_wp2_with (fail)
            refine HH.out.mono ?_
            rintro e w8 ⟨rfl, b8⟩
            have HS8 := Lib.hid (HS7.out.below b8 HS7.out.lt.1)
            have HO8 := Lib.hid (only_below' HO7.out b8 HO7.out.size)
            have HROW8 := Lib.hid (HROW7.out.below b8 (by omega))
            have HOWN8 := Lib.hid (own_below HOWN7.out b8)
            have hs8z := b8.size
            have hw8 := HO8.out.size
            clear q1 b8 HS7 HO7 HROW7 HOWN7 HH
            cases r with
            | true =>
              go_wp2
              go_roundw
              case rel => exact ⟨zs, m, g2, cap2, by go_num, by omega, HROW8.out, HOWN8.out, hgx, HOKZ.out, HS8.out.more (by omega), HO8.out, by omega⟩
              case measure => simp [RowKit.intOf] <;> omega
            | false =>
              have q1 := HROW8.out.cell 1 _ rfl
              go_wp2_with (at_builtin; refine wpList_append_own_at _ rfl _ _ 30 rfl W.heap.size 2 j0 (.int .i64 0) 1 8 Try.underlying30 hij hj0 hj1 hj2 rfl (by decide) _ _ _ rfl (HOWN8.out.alloc _) ⟨w8.heap.size, 0, none⟩ 1 1 (intCells (t : Int)) rfl rfl (fun j u hj => new_at hj) (fun u hu => int_one' _ hu) ?c3 ?c4 (base_le hw8) ?_)
              case c3 => unfold maxLen; omega
              case c4 => omega
              intro v' w9 hown' hgrow hiff hat
              obtain ⟨g9, cap9, rfl, hdc9, hcm9⟩ := own_some hown' (by simpa using hiff)
              have hgw8 := HOWN8.out.lt g2 rfl
              have hg9 : g9 ≠ bx := by
                rcases hat with h | h
                · injection h with h
                  have h : g9 = g2 := h
                  omega
                · injection h with h
                  have h : g9 = w8.heap.size + 1 := by simpa using h
                  omega
              have hrow9 : Row w9 bx [.bool y, .slice (some ⟨g2, 0, none⟩) zs.length cap2] := (HROW8.out.below ((Below.refl _ _).alloc (Nat.le_refl _) (.cells #[.int .i64 (t : Int)] 2)) (by omega)).sameK (hgrow.block bx (by simp; omega) (fun e => by injection e with e; exact hgx (e.symm ▸ rfl)))
              have HOWN9 : Hid (w9.ownsRow W.heap.size 2 1 (.slice (some ⟨g9, 0, none⟩) (zs ++ [(t : Int)]).length cap9) (zs ++ [(t : Int)]).length ((zs ++ [(t : Int)]).flatMap intCells)) := Lib.hid (by rw [flat_snoc, List.length_append]; exact hown')
              have HO9 := Lib.hid (only_grown (only_alloc HO8.out (.cells #[.int .i64 (t : Int)] 2)) hgrow (fun j hj => (HOWN8.out.lt j hj).1))
              have HS9 := Lib.hid ((HS8.out.alloc (.cells #[.int .i64 (t : Int)] 2)).grown hgrow (fun j hj => by have := (HOWN8.out.lt j hj).1; omega))
              have HOKN := Lib.hid (trust_snoc HOKZ.out (by omega) (by omega) (by omega) HTJ.out HR.out)
              have hs9z : w8.heap.size + 1 ≤ w9.heap.size := by have := hgrow.size; simpa using this
              have r1 := hrow9.cell 1 _ rfl
              have f1 := hrow9.free 1 (by simp)
              have HROW9 := Lib.hid hrow9
              clear hown' hgrow hiff hat hrow9 q1
              go_wp2
              have ht9 : Touch (fun c => c = bx) w9 (w9.setCell ⟨bx, 1, none⟩ (.slice (some ⟨g9, 0, none⟩) (zs.length + 1) cap9)) := Touch.setCell (F := fun c => c = bx) (Touch.refl _ _) rfl _
              have hrN : Row (w9.setCell ⟨bx, 1, none⟩ (.slice (some ⟨g9, 0, none⟩) (zs.length + 1) cap9)) bx [.bool y, .slice (some ⟨g9, 0, none⟩) (zs.length + 1) cap9] := HROW9.out.set 1 _ (by simp)
              go_roundw
              case rel => exact ⟨zs ++ [(t : Int)], m, g9, cap9, by go_num, by rw [List.length_append, List.length_singleton]; omega, by rw [List.length_append, List.length_singleton]; exact hrN, own_touch HOWN9.out ht9 (fun b hb e => by injection hb with hb; have hb : g9 = b := hb; omega), hg9, HOKN.out, (HS9.out.keep (ht9.block b HS9.out.lt.1 (by omega)) (fun i hi => ht9.block i (by have := HS9.out.lt; omega) (by have := HS9.out.lt; omega))).more (by omega), only_trans' HO9.out ht9 (by omega), by simpa using (by omega : bx < w9.heap.size)⟩
              case measure => simp [RowKit.intOf] <;> omega
        · obtain rfl : m = 0 := by omega
          have hm1 : ¬ (0 : Int) < ((0 : Nat) : Int) := by omega
          have q0 := HROW.out.cell 0 _ rfl
          have q1 := HROW.out.cell 1 _ rfl
          have HOT := Lib.hid (only_trans HOW.out HO6.out)
          have HDR := Lib.hid (HD.out.only hbw HO6.out)
          have hba : ∀ o, Below wr.heap.size wr (wr.alloc o) := fun o => (Below.refl _ _).alloc (Nat.le_refl _) o
          have HTA := Lib.hid (TreeW.below HDR.out (hba (.cells #[.bool y, .slice (some ⟨g2, 0, none⟩) zs.length cap2] 52)))
          have HRL := Lib.hid HTA.out.row
          have HOX : Hid (OwnL intCells zs W.heap.size (wr.alloc (.cells #[.bool y, .slice (some ⟨g2, 0, none⟩) zs.length cap2] 52)) (.slice (some ⟨g2, 0, none⟩) zs.length cap2)) := Lib.hid ((OwnL.of_own intCells (size := 1) (fun _ => rfl) HOWN.out).on (hba _))
          have hHLT := Lib.hid (fun q (hq : q ∈ L) c (hc : kVoi.blk q c) => (kVoi.lt (HD.out.inn q hq) hc).2)
          have hgw := HD.out.lt
          have hww2 : w.heap.size ≤ (wr.alloc (.cells #[.bool y, .slice (some ⟨g2, 0, none⟩) zs.length cap2] 52)).heap.size := by simp; omega
          rw [hgl] at HRL
          clear HROW HOWN
          go_wp2_with (at_builtin; refine wpList_append_own_at _ rfl _ _ 24 rfl w.heap.size 52 i0 (.agg #[.bool false, .slice none 0 0]) 2 32 Try.underlying24 hi hz0 hz1 hz2 rfl (by decide) _ _ _ rfl HRL.out ⟨wr.heap.size, 0, none⟩ 1 1 (oCells ⟨⟨y, zs⟩, .slice (some ⟨g2, 0, none⟩) zs.length cap2⟩) rfl rfl (fun j u hj => by have := (Row.new wr (oCells ⟨⟨y, zs⟩, .slice (some ⟨g2, 0, none⟩) zs.length cap2⟩).toArray 52).cell j u (by simpa using hj); rw [Addr.add_lit, Nat.zero_add]; exact this) (fun u hu => voi_one rfl hu) ?c3 ?c4 hww2 ?_)
          case c3 => unfold maxLen; omega
          case c4 => omega
          intro v' w9 hown' hgrow hiff hor
          obtain ⟨g', cap', rfl, hdc', hcm'⟩ := own_some hown' (by simpa using hiff)
          have HP9 := Lib.hid (TreeW.push (x := ⟨⟨y, zs⟩, .slice (some ⟨g2, 0, none⟩) zs.length cap2⟩) HTA.out hgrow (by rcases hor with h | h <;> injection h with h; exact .inl h; exact .inr (by simpa using h)) (by rw [hgl]; exact hown') (kVoi.less (x := ⟨⟨y, zs⟩, .slice (some ⟨g2, 0, none⟩) zs.length cap2⟩) HOX.out hww) (fun b hb => by
            have q1 : W.heap.size ≤ b := (OwnL.sblk HOX.out hb).1
            exact ⟨by omega, fun q hq hqb => by have q2 := hHLT.out q hq b hqb; omega⟩))
          have HO9 := Lib.hid (only_grown (only_alloc HOT.out (.cells #[.bool y, .slice (some ⟨g2, 0, none⟩) zs.length cap2] 52)) hgrow (fun j hj => (HRL.out.lt j hj).1))
          have HS9 := Lib.hid ((HS6.out.alloc (.cells #[.bool y, .slice (some ⟨g2, 0, none⟩) zs.length cap2] 52)).grown hgrow (fun j hj => by have := (HRL.out.lt j hj).1; omega))
          have HK9 : Hid (∀ (q : Nat) (x : VVoi), (L ++ [(⟨⟨y, zs⟩, .slice (some ⟨g2, 0, none⟩) zs.length cap2⟩ : VVoi)])[q]? = some x → okTrust x.a.tr (q : Int) n = true) := Lib.hid (fun q x hx => by
            by_cases hq : q < L.length
            · rw [List.getElem?_append_left hq] at hx
              exact HOK.out q x hx
            · rw [List.getElem?_append_right (by omega)] at hx
              have h0 : q - L.length = 0 := by
                rcases Nat.eq_zero_or_pos (q - L.length) with h0 | h0
                · exact h0
                · rw [List.getElem?_eq_none (by simp; omega)] at hx
                  cases hx
              rw [h0] at hx
              injection hx with hx
              subst hx
              obtain rfl : q = j := by omega
              exact HOKZ.out)
          clear hown' hgrow hor hiff hba q0 q1
          go_wp2
          go_roundw
          case rel => exact ⟨j + 1, g', cap', L ++ [⟨⟨y, zs⟩, .slice (some ⟨g2, 0, none⟩) zs.length cap2⟩], by go_num, by omega, by rw [List.length_append, List.length_singleton, hgl], rfl, HK9.out, HP9.out, HS9.out.more (by omega), HO9.out⟩
          case measure => simp [RowKit.intOf] <;> omega
    · have hge : ¬ (j : Int) < (n : Int) := by omega
      obtain rfl : j = n := by omega
      have HT : Hid (TreeO kVoi w.heap.size W (.slice (some ⟨g, 0, none⟩) L.length cap) L) := Lib.hid HD.out.tree
      have HV : Hid (VoisOk (L.map (·.a))) := Lib.hid ⟨by rw [List.length_map]; omega, by rw [List.length_map]; omega, fun q v hv => by
        rw [List.getElem?_map] at hv
        cases hx : L[q]? with
        | none => rw [hx] at hv; cases hv
        | some x =>
          rw [hx] at hv
          injection hv with hv
          subst hv
          rw [List.length_map, hgl]
          exact HOK.out q x hx⟩
      clear hlt
      go_wp2
      go_ret
      exact ⟨some ⟨g, 0, none⟩, cap, L, by rw [hgl]; rfl, hgl, HT.out, HV.out, HSW.out, HOW.out⟩
/-- The statements' list of few voices. -/
def FewB10 (w : World) (e : Ending) (w' : World) : Prop := ∃ A c L, e = .returned (.slice A L.length c) ∧ TreeO kVoi w.heap.size w' (.slice A L.length c) L ∧ VoisOk (L.map (·.a)) ∧ 2 ≤ L.length ∧ L.length ≤ 6 ∧ Below w.heap.size w w'
set_option maxRecDepth 100000 in
set_option maxHeartbeats 2000000 in
theorem few_draw (A : Option Addr) (n c : Nat) (w : World) (h : BytesAt w w.heap.size A n) : Calls Try.prog 5 #[.slice A n c] w (FewB10 w) := by
  have HF := Lib.hid (from_any A n c w h)
  clear h
  go_enter Try.func5, Try.ntmps5
  go_wp2_with (fail)
  refine HF.out.mono ?_
  rintro e w1 ⟨rfl, hs1, hb1⟩
  have HS1 := Lib.hid hs1
  have HB1 := Lib.hid hb1
  have hz1 := hb1.size
  have hl1 := hs1.lt.1
  clear hs1 hb1 HF
  go_wp2_with (fail)
  refine (pick_pos w.heap.size w.heap.size 0 5 w1 HS1.out (by omega) (by omega) (by omega)).mono ?_
  rintro e w2 ⟨x, hx, rfl, hs2, ho2⟩
  have HS2 := Lib.hid hs2
  have HO2 := Lib.hid ho2
  have hz2 := ho2.size
  have hNe : ((2 : Int) + (x : Int)) = ((2 + x : Nat) : Int) := by omega
  obtain ⟨N, hN⟩ : ∃ N, N = 2 + x := ⟨_, rfl⟩
  have hN6 : N ≤ 6 := by omega
  have hN2 : 2 ≤ N := by omega
  have HV := Lib.hid (drawVois_any w.heap.size w.heap.size (0 + 2) N w2 HS2.out (by omega) (by omega) (by omega))
  rw [← hN] at hNe
  have HNE := Lib.hid hNe
  clear hs2 ho2 hNe hN
  go_wp2_with (fail)
  rw [HNE.out]
  refine HV.out.mono ?_
  rintro e w3 ⟨A3, c3, L, rfl, hLn, hT, hV, hs3, ho3⟩
  have hL6 : L.length ≤ 6 := by omega
  have hL2 : 2 ≤ L.length := by omega
  have hO := only_trans HO2.out ho3
  have hb3 : Below w.heap.size w w3 := ⟨hO.os.trans HB1.out.os, hO.tape.trans HB1.out.tape, hO.output.trans HB1.out.output, Nat.le_trans HB1.out.size hO.size, fun i hi => (hO.block i (by omega) (fun e => by injection e; omega)).trans (HB1.out.block i hi)⟩
  have HT := Lib.hid (hT.less (Nat.le_trans hz1 hz2))
  have HV3 := Lib.hid hV
  have HB3 := Lib.hid hb3
  clear hT hV hs3 ho3 hO hb3 hLn
  go_wp2
  go_ret
  exact ⟨A3, c3, L, rfl, HT.out, HV3.out, hL2, hL6, HB3.out⟩
end Go.Proofs.Ytihhbkijcebapaa

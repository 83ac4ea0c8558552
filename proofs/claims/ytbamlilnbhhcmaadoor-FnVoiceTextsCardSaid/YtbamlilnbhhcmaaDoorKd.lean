/- The text of a list of voices, walked. -/
import Derived.Test.YtbamlilnbhhcmaaDoorKa
import Derived.Test.YtbamlilnbhhcmaaDoorQI
import Derived.Test.YtbamlilnbhhcmaaDoorYB
import Derived.Test.YtbamlilnbhhcmaaDoorQA
import Derived.Test.YtbamlilnbhhcmaaDoorQB
namespace Go.Proofs.YtbamlilnbhhcmaaDoor
open Go.RowKit Go.Lib

set_option maxRecDepth 100000 in
set_option maxHeartbeats 2000000 in
theorem voicesText2_any (V : List Voi) (v : Value) (w : World) (hV : Vois w w.heap.size v V) (hok : VoisOk V) (hE : Env w.heap.size w) :
    Calls Tryd.prog 6 #[v] w (RetB (.tuple #[.string ⟨(voiText V).toArray⟩, .bool true]) w) := by
  have HVAL := Lib.hid (valid2v_any V v w hV hok)
  obtain ⟨A, c, rfl, hc, hm, hel⟩ := vois_at hV
  unfold maxLen at hm
  have hl12 : V.length ≤ 12 := hok.n12
  have HEL := Lib.hid hel
  have HF := Lib.hid (fun (v : Voi) (h : v ∈ V) => voi_facts hok h)
  have HTL := Lib.hid (voiText_len hok)
  have E := Lib.hid hE
  obtain ⟨i0, hi, hz0, hz1, hz2⟩ := info_parts Tryd.infoS
  clear hV hok hE hel
  go_enter Tryd.func6, Tryd.ntmps6
  go_wp2_with (fail)
  refine HVAL.out.mono ?_
  rintro e w1 ⟨rfl, b1⟩
  have HO0 : Hid ((w1.alloc (.cells #[] 9)).ownsRow w.heap.size 9 1 (.slice (some ⟨w1.heap.size, 0, none⟩) 0 0) 0 []) := Lib.hid (by simpa using World.ownsRow_made (base := w.heap.size) w1 #[] 0 b1.size (Nat.zero_le _) rfl)
  have HB0 : Hid (Below w.heap.size w (w1.alloc (.cells #[] 9))) := Lib.hid (b1.alloc b1.size _)
  clear b1 HVAL
  go_wp2
  go_loopw [4, 14] (fun o i wr => ∃ k : Nat, k ≤ V.length ∧ i = .int .i64 (k : Int) ∧ wr.ownsRow w.heap.size 9 1 o k (((V.take k).map vword).flatMap strCell) ∧ Below w.heap.size w wr) (fun _ i _ => V.length - (RowKit.intOf i).toNat)
  case atStart => exact ⟨0, Nat.zero_le _, rfl, by simpa using HO0.out, HB0.out⟩
  case round =>
    obtain ⟨k, hk, rfl, hown, hb⟩ := hrel
    have HOWN := Lib.hid hown
    obtain ⟨A9, c9, rfl, hc9, hm9⟩ := own_len hown
    unfold maxLen at hm9
    clear hown
    by_cases hlt : k < V.length
    · obtain ⟨b, off, rfl, hblt, hcell⟩ := HEL.out (by omega)
      have hget : V[k]? = some V[k] := List.getElem?_eq_getElem hlt
      obtain ⟨B1, d1, k0, k1, m1, i1⟩ := hcell k _ hget
      have x0 := (hb.cell (p := ⟨b, off + k * 2, none⟩) hblt).trans k0
      have x1 := (hb.cell (p := ⟨b, off + k * 2 + 1, none⟩) hblt).trans k1
      have HTK : Hid (((V.take (k + 1)).map vword).flatMap strCell = ((V.take k).map vword).flatMap strCell ++ [.string ⟨(vword V[k]).toArray⟩]) := Lib.hid (by rw [List.take_succ_eq_append_getElem hlt, List.map_append, List.flatMap_append]; rfl)
      obtain ⟨hv4, hvz⟩ := HF.out V[k] (List.getElem_mem hlt)
      have hi1 := i1
      clear hcell hget k0 k1 m1 i1
      generalize V[k] = q at *
      obtain ⟨sp, tr⟩ := q
      have HI : Hid (∀ W, Below w.heap.size w W → Ints W W.heap.size (.slice B1 tr.length d1) tr) := Lib.hid (fun W hW => SlR.on hi1 (Pl.stays _) hW hW.size)
      have HVZ := Lib.hid hvz
      have hv4 : tr.length ≤ 4 := hv4
      clear hi1 hvz
      have hnl := vword_len (v := ⟨sp, tr⟩) hv4 HVZ.out
      have hnl : (nums tr [44]).length ≤ 60 := by
        unfold vword at hnl
        rw [List.length_cons] at hnl
        show (nums tr [44]).length ≤ 60
        have hnl : (nums tr [44]).length + 1 ≤ 60 := hnl
        omega
      have hbs := hb.size
      go_upto_region 7 with (fail)
      obtain ⟨w2, hw2⟩ : ∃ X, X = wr.alloc (.cells #[.bool sp, .slice B1 tr.length d1] 36) := ⟨_, rfl⟩
      have r2 : Row w2 wr.heap.size [.bool sp, .slice B1 tr.length d1] := by rw [hw2]; exact Row.new _ _ _
      have b2 : Below wr.heap.size wr w2 := by rw [hw2]; exact (Below.refl _ _).alloc (Nat.le_refl _) _
      rw [← hw2]
      clear hw2 x0 x1
      have y0 := r2.cell 0 _ rfl
      have y1 := r2.cell 1 _ rfl
      have HOWN2 := Lib.hid (own_below HOWN.out b2)
      have HB2 := Lib.hid (hb.trans (b2.mono hbs))
      have HD := Lib.hid (decimals_any tr ⟨#[44]⟩ w2 _ (HI.out w2 HB2.out) (by omega) (by decide) (fun z hz => by have := HVZ.out z hz; omega) (env_more (E.out.on HB2.out) HB2.out.size))
      rw [show (⟨#[44]⟩ : ByteArray).data.toList = [44] from rfl] at HD
      clear r2 b2 HOWN hb
      cases sp with
      | true =>
        obtain ⟨T1, e1, n1, q1⟩ := cat_op (P := Tryd.prog) [43] (nums tr [44]) (by simp) (by omega)
        have HTK2 : Hid (((V.take (k + 1)).map vword).flatMap strCell = ((V.take k).map vword).flatMap strCell ++ [.string ⟨T1.toArray⟩]) := Lib.hid (by rw [HTK.out, e1]; rfl)
        clear e1
        generalize ((V.take k).map vword).flatMap strCell = L at *
        generalize nums tr [44] = nt at *
        go_wp2_with (fail)
        refine HD.out.mono ?_
        rintro e w3 ⟨rfl, b3⟩
        have hown := own_below HOWN2.out b3
        have hbb := HB2.out.trans (b3.mono HB2.out.size)
        have hsz := hbb.size
        go_wp2_with (at_builtin; refine wpList_append_own _ rfl _ _ 42 rfl w.heap.size 9 i0 (.string ⟨#[]⟩) 1 16 Tryd.underlying42 hi hz0 hz1 hz2 rfl (by decide) _ _ _ rfl (hown.alloc _) ⟨w3.heap.size, 0, none⟩ 1 1 [.string ⟨T1.toArray⟩] rfl rfl ?c1 ?c2 ?c3 ?c4 ?c5 ?_)
        case c1 =>
          intro j u hj
          match j, hj with
          | 0, hj => simp at hj; subst hj; simp [Addr.add]
        case c2 => intro u hu; simp at hu; subst hu; rfl
        case c3 => unfold maxLen; omega
        case c4 => omega
        case c5 => simp; omega
        intro v' w4 hown' hgrow _
        have hb4 := (hbb.alloc hbb.size _).grown hgrow (by simp; omega) (fun j hj => (hown.lt j hj).1)
        clear hown hgrow b3 hbb hsz y0 y1
        go_wp2
        go_roundw
        case rel => exact ⟨k + 1, by omega, by go_num, by rw [HTK2.out]; exact hown', hb4⟩
        case measure => simp [RowKit.intOf]; omega
      | false =>
        obtain ⟨T1, e1, n1, q1⟩ := cat_op (P := Tryd.prog) [45] (nums tr [44]) (by simp) (by omega)
        have HTK2 : Hid (((V.take (k + 1)).map vword).flatMap strCell = ((V.take k).map vword).flatMap strCell ++ [.string ⟨T1.toArray⟩]) := Lib.hid (by rw [HTK.out, e1]; rfl)
        clear e1
        generalize ((V.take k).map vword).flatMap strCell = L at *
        generalize nums tr [44] = nt at *
        go_wp2_with (fail)
        refine HD.out.mono ?_
        rintro e w3 ⟨rfl, b3⟩
        have hown := own_below HOWN2.out b3
        have hbb := HB2.out.trans (b3.mono HB2.out.size)
        have hsz := hbb.size
        go_wp2_with (at_builtin; refine wpList_append_own _ rfl _ _ 42 rfl w.heap.size 9 i0 (.string ⟨#[]⟩) 1 16 Tryd.underlying42 hi hz0 hz1 hz2 rfl (by decide) _ _ _ rfl (hown.alloc _) ⟨w3.heap.size, 0, none⟩ 1 1 [.string ⟨T1.toArray⟩] rfl rfl ?c1 ?c2 ?c3 ?c4 ?c5 ?_)
        case c1 =>
          intro j u hj
          match j, hj with
          | 0, hj => simp at hj; subst hj; simp [Addr.add]
        case c2 => intro u hu; simp at hu; subst hu; rfl
        case c3 => unfold maxLen; omega
        case c4 => omega
        case c5 => simp; omega
        intro v' w4 hown' hgrow _
        have hb4 := (hbb.alloc hbb.size _).grown hgrow (by simp; omega) (fun j hj => (hown.lt j hj).1)
        clear hown hgrow b3 hbb hsz y0 y1
        go_wp2
        go_roundw
        case rel => exact ⟨k + 1, by omega, by go_num, by rw [HTK2.out]; exact hown', hb4⟩
        case measure => simp [RowKit.intOf]; omega
    · have hge : ¬ (k : Int) < (V.length : Int) := by omega
      obtain rfl : k = V.length := by omega
      have ht : (V.take V.length) = V := List.take_length
      rw [ht] at HOWN
      have hO : (OwnL strCell (V.map vword) w.heap.size wr (.slice A9 V.length c9)) := OwnL.of_own strCell (size := 1) (fun _ => rfl) (by rw [List.length_map]; exact HOWN.out)
      have hS : SlR (Pl strCell) 1 wr wr.heap.size (.slice A9 V.length c9) (V.map vword) := hO.slR (size := 1) (fun _ => rfl)
      have hj := join2_any (V.map vword) ⟨#[32]⟩ wr _ hS (by rw [List.length_map]; omega) (by have := HTL.out; unfold voiText at this; show (Lib.join (V.map vword) [32]).length ≤ _; omega)
      rw [show (⟨#[32]⟩ : ByteArray).data.toList = [32] from rfl] at hj
      have HJ : Hid (Calls Tryd.prog 15 #[.slice A9 V.length c9, .string ⟨#[32]⟩] wr (RetB (.string ⟨(voiText V).toArray⟩) wr)) := Lib.hid hj
      clear hO hS hj ht hlt
      go_wp2_with (fail)
      refine HJ.out.mono ?_
      rintro e w5 ⟨rfl, b5⟩
      have hbe := hb.trans (b5.mono hb.size)
      go_wp2
      go_ret2
      exact ⟨rfl, hbe⟩
end Go.Proofs.YtbamlilnbhhcmaaDoor

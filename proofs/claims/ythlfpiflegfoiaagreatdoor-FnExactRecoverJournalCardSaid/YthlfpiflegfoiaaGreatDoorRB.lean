/- The reference's readers of lines and of lists of numbers. -/
import Derived.Test.YthlfpiflegfoiaaGreatDoorRow
namespace Go.Proofs.YthlfpiflegfoiaaGreatDoor
open Go.RowKit Go.Lib


def LinesPost (s : ByteArray) (most : Nat) (w : World) (e : Ending) (w' : World) : Prop :=
  ∃ ls v ok, e = .returned (.tuple #[v, .bool ok]) ∧ Strs w' v ls ∧ (ok = true → splitC 10 s.data.toList = ls ++ [[]] ∧ ls.length ≤ most) ∧ (ok = false → ∀ qs, splitC 10 s.data.toList = qs ++ [[]] → most < qs.length) ∧ Below w.heap.size w w'

set_option maxHeartbeats 2000000 in
theorem lines1_any (s : ByteArray) (most : Nat) (w : World) (hs : s.size ≤ 1048576) (hm : most ≤ 64) :
    Calls Tryz.prog 76 #[.string s, .int .i64 (most : Int)] w (LinesPost s most w) := by
  have hsz : s.data.toList.length = s.size := by simp
  have HSTEP : Hid (∀ (done : List (List UInt8)) (fr i : Nat), splitC 10 s.data.toList = done ++ splitC 10 (s.data.toList.drop fr) → fr ≤ i → (h : i < s.size) → s[i] = 10 → (10 : UInt8) ∉ (s.data.toList.take i).drop fr → splitC 10 s.data.toList = (done ++ [(s.data.toList.take i).drop fr]) ++ splitC 10 (s.data.toList.drop (i + 1))) :=
    Lib.hid (fun done fr i h1 h2 h3 h4 h5 => splitC_step _ done fr i h1 h2 (by omega) h4 h5)
  have HEND : Hid (∀ (done : List (List UInt8)) (fr : Nat), splitC 10 s.data.toList = done ++ splitC 10 (s.data.toList.drop fr) → (10 : UInt8) ∉ (s.data.toList.take s.size).drop fr → splitC 10 s.data.toList = done ++ [s.data.toList.drop fr]) :=
    Lib.hid (fun done fr h1 h2 => splitC_end _ done fr h1 (by rwa [List.take_of_length_le (by omega)] at h2))
  have HMOST := Lib.hid hm
  obtain ⟨i0, hi, hz0, hz1, hz2⟩ := info_parts Tryz.infoS
  go_enter Tryz.func76, Tryz.ntmps76
  go_wp2
  go_loopw [6, 7, 8] (fun o f i wr => ∃ (k fr : Nat) (done : List (List UInt8)), k ≤ s.size ∧ fr ≤ k ∧ i = .int .i64 (k : Int) ∧ f = .int .i64 (fr : Int) ∧ wr.ownsRow w.heap.size 9 1 o done.length (done.flatMap strCell) ∧ done.length ≤ most ∧ splitC 10 s.data.toList = done ++ splitC 10 (s.data.toList.drop fr) ∧ (10 : UInt8) ∉ (s.data.toList.take k).drop fr ∧ Below w.heap.size w wr) (fun _ _ i _ => s.size - (RowKit.intOf i).toNat)
  case atStart => exact ⟨0, 0, [], Nat.zero_le _, Nat.le_refl _, rfl, rfl, by simpa using World.ownsRow_made w #[] 0 (Nat.le_refl _) (Nat.zero_le _) rfl, Nat.zero_le _, rfl, by simp, (Below.refl _ _).alloc (Nat.le_refl _) _⟩
  case round =>
    obtain ⟨k, fr, done, hk, hfr, rfl, rfl, hown, hdm, hsp, hno, hb⟩ := hrel
    obtain ⟨A, cap, rfl, hdc, hcm⟩ := own_len hown
    unfold maxLen at hcm
    have HSP := Lib.hid hsp
    have HNO := Lib.hid hno
    have HOWN := Lib.hid hown
    have HB := Lib.hid hb
    clear hsp hno hown hb
    by_cases hlt : k < s.size
    · have HT := Lib.hid (take_snoc' s k hlt)
      by_cases he : s[k] = 10
      · have h1 : ((s[k].toNat : Int) == 10) = true := by rw [he]; rfl
        have HS2 := Lib.hid (HSTEP.out done fr k HSP.out hfr hlt he HNO.out)
        clear he
        by_cases hfull : done.length = most
        · have h2 : ((done.length : Int) == (most : Int)) = true := by rw [hfull]; simp
          have HX : Hid (∀ qs, splitC 10 s.data.toList = qs ++ [[]] → most < qs.length) := Lib.hid (fun qs hq => by
            have e := HS2.out
            rw [hq] at e
            have e2 := congrArg List.length e
            have := List.length_pos_iff.2 (splitC_ne 10 (s.data.toList.drop (k + 1)))
            simp at e2
            omega)
          clear hfull
          go_wp2
          go_ret2
          exact ⟨[], .slice none 0 0, false, rfl, SlR.nil _ _ _ _ _ _ (Nat.zero_le _), fun h => (by cases h), fun _ => HX.out, HB.out⟩
        · have h2 : ((done.length : Int) == (most : Int)) = false := by simp; omega
          have hdl : done.length < 64 := by have := HMOST.out; omega
          have HF : Hid ((done ++ [(s.data.toList.take k).drop fr]).flatMap strCell = done.flatMap strCell ++ [.string (s.extract fr k)]) := Lib.hid (by rw [flat_snoc, ext_mid]; rfl)
          have HLEN : Hid ((done ++ [(s.data.toList.take k).drop fr]).length = done.length + 1) := Lib.hid (by simp)
          have HNE : Hid ((10 : UInt8) ∉ (s.data.toList.take (k + 1)).drop (k + 1)) := Lib.hid (by
            rw [List.drop_eq_nil_of_le (by rw [List.length_take]; omega)]
            simp)
          have hown := HOWN.out
          have hsz2 := HB.out.size
          generalize done.flatMap strCell = L at *
          have HDM : Hid (done.length + 1 ≤ most) := Lib.hid (by omega)
          clear hfull
          go_wp2_with (at_builtin; refine wpList_append_own _ rfl _ _ 59 rfl w.heap.size 9 i0 (.string ⟨#[]⟩) 1 16 Tryz.underlying59 hi hz0 hz1 hz2 rfl (by decide) _ _ _ rfl (hown.alloc _) ⟨wr.heap.size, 0, none⟩ 1 1 [.string (s.extract fr k)] rfl rfl ?c1 ?c2 ?c3 ?c4 ?c5 ?_)
          case c1 =>
            intro j u hj
            match j, hj with
            | 0, hj => simp at hj; subst hj; simp [Addr.add]
          case c2 => intro u hu; simp at hu; subst hu; rfl
          case c3 => unfold maxLen; omega
          case c4 => omega
          case c5 => simp; omega
          · intro v' w2 hown' hgrow _
            have hb2 := (HB.out.alloc hsz2 _).grown hgrow (by simp; omega) (fun j hj => (hown.lt j hj).1)
            clear hown hgrow
            go_wp2
            go_roundw
            case rel => exact ⟨k + 1, k + 1, done ++ [(s.data.toList.take k).drop fr], by omega, Nat.le_refl _, by go_num, by go_num, by rw [HLEN.out, HF.out]; exact hown', by rw [HLEN.out]; exact HDM.out, HS2.out, HNE.out, hb2⟩
            case measure => simp [RowKit.intOf]; omega
      · have h1 : ((s[k].toNat : Int) == 10) = false := by
          simp only [beq_eq_false_iff_ne, ne_eq]
          intro e
          exact he (UInt8.toNat_inj.1 (by have : (10 : UInt8).toNat = 10 := rfl; omega))
        have HNX : Hid ((10 : UInt8) ∉ (s.data.toList.take (k + 1)).drop fr) := Lib.hid (by
          rw [HT.out, List.drop_append_of_le_length (by rw [List.length_take]; omega), List.mem_append, List.mem_singleton]
          rintro (h | h)
          · exact HNO.out h
          · exact he h.symm)
        clear he
        go_wp2
        go_roundw
        case rel => exact ⟨k + 1, fr, done, by omega, by omega, by go_num, rfl, HOWN.out, hdm, HSP.out, HNX.out, HB.out⟩
        case measure => simp [RowKit.intOf]; omega
    · have hge : ¬ (k : Int) < (s.size : Int) := by omega
      have hk' : k = s.size := by omega
      have HE : Hid (splitC 10 s.data.toList = done ++ [s.data.toList.drop fr]) := Lib.hid (HEND.out done fr HSP.out (by rw [← hk']; exact HNO.out))
      have hS : SlR (Pl strCell) 1 wr wr.heap.size (.slice A done.length cap) done := SlR.of_own strCell (fun _ => rfl) HOWN.out
      have HSS := Lib.hid hS
      clear hS
      by_cases hf : fr = s.size
      · have h2 : ((fr : Int) == (s.size : Int)) = true := by rw [hf]; simp
        have HE2 : Hid (splitC 10 s.data.toList = done ++ [[]]) := Lib.hid (by rw [HE.out, List.drop_eq_nil_of_le (by omega)])
        clear hf hk' hlt
        go_wp2
        go_ret2
        refine ⟨done, .slice A done.length cap, true, ?_, HSS.out, fun _ => ⟨HE2.out, hdm⟩, fun h => (by cases h), HB.out⟩
        rfl
      · have h2 : ((fr : Int) == (s.size : Int)) = false := by simp; omega
        have HE2 : Hid (∀ qs, splitC 10 s.data.toList = qs ++ [[]] → most < qs.length) := Lib.hid (fun qs hq => by
          have e := HE.out
          rw [hq] at e
          have := (List.append_inj' e rfl).2
          have h3 := congrArg List.length (List.cons.inj this).1
          simp at h3
          omega)
        clear hf hk' hlt
        go_wp2
        go_ret2
        refine ⟨done, .slice A done.length cap, false, ?_, HSS.out, fun h => (by cases h), fun _ => HE2.out, HB.out⟩
        rfl

theorem mid_size (l : List UInt8) (a b : Nat) {n : Nat} (h : l.length ≤ n) : (⟨((l.take b).drop a).toArray⟩ : ByteArray).size ≤ n := by
  show (((l.take b).drop a).toArray).size ≤ n
  rw [List.size_toArray, List.length_drop, List.length_take]
  omega
def RetOwn {α : Type} (f : α → List Value) (xs : List α) (w : World) (e : Ending) (w' : World) : Prop := ∃ v, e = .returned v ∧ OwnL f xs w.heap.size w' v ∧ Below w.heap.size w w'
theorem Tryz.infoI : (Tryz.prog.info? 2).map (fun i => (i.zero, i.size, i.bytes)) = some (some (.int .i64 0), 1, 8) := by kernel_rfl

set_option maxHeartbeats 2000000 in
theorem list1_any (s : ByteArray) (w : World) (hs : s.size ≤ 1048576) :
    Calls Tryz.prog 50 #[.string s] w (RetOwn intCells ((numL (-999999999) 999999999 (splitC 44 s.data.toList)).getD []) w) := by
  have hsz : s.data.toList.length = s.size := by simp
  have HSTEP : Hid (∀ (done : List (List UInt8)) (fr i : Nat), splitC 44 s.data.toList = done ++ splitC 44 (s.data.toList.drop fr) → fr ≤ i → (h : i < s.size) → s[i] = 44 → (44 : UInt8) ∉ (s.data.toList.take i).drop fr → splitC 44 s.data.toList = (done ++ [(s.data.toList.take i).drop fr]) ++ splitC 44 (s.data.toList.drop (i + 1))) :=
    Lib.hid (fun done fr i h1 h2 h3 h4 h5 => splitC_step _ done fr i h1 h2 (by omega) h4 h5)
  have HEND : Hid (∀ (done : List (List UInt8)) (fr : Nat), splitC 44 s.data.toList = done ++ splitC 44 (s.data.toList.drop fr) → (44 : UInt8) ∉ (s.data.toList.take s.size).drop fr → splitC 44 s.data.toList = done ++ [(s.data.toList.take s.size).drop fr]) :=
    Lib.hid (fun done fr h1 h2 => by rw [List.take_of_length_le (by omega)] at h2 ⊢; exact splitC_end _ done fr h1 h2)
  obtain ⟨R, hR⟩ : ∃ R, (numL (-999999999) 999999999 (splitC 44 s.data.toList)).getD [] = R := ⟨_, rfl⟩
  rw [hR]
  have HR := Lib.hid hR
  clear hR
  obtain ⟨i0, hi, hz0, hz1, hz2⟩ := info_parts Tryz.infoI
  go_enter Tryz.func50, Tryz.ntmps50
  go_wp2
  go_loopw [3, 4, 5] (fun o f i wr => ∃ (k fr : Nat) (done : List (List UInt8)) (zs : List Int), i = .int .i64 (k : Int) ∧ f = .int .i64 (fr : Int) ∧ wr.ownsRow w.heap.size 2 1 o zs.length (zs.flatMap intCells) ∧ numL (-999999999) 999999999 done = some zs ∧ zs.length ≤ k ∧ ((k ≤ s.size ∧ fr ≤ k ∧ splitC 44 s.data.toList = done ++ splitC 44 (s.data.toList.drop fr) ∧ (44 : UInt8) ∉ (s.data.toList.take k).drop fr) ∨ (k = s.size + 1 ∧ fr ≤ k ∧ splitC 44 s.data.toList = done)) ∧ Below w.heap.size w wr) (fun _ _ i _ => s.size + 1 - (RowKit.intOf i).toNat)
  case atStart => exact ⟨0, 0, [], [], rfl, rfl, by simpa using World.ownsRow_made w #[] 0 (Nat.le_refl _) (Nat.zero_le _) rfl, rfl, Nat.le_refl _, .inl ⟨Nat.zero_le _, Nat.le_refl _, rfl, by simp⟩, (Below.refl _ _).alloc (Nat.le_refl _) _⟩
  case round =>
    obtain ⟨k, fr, done, zs, rfl, rfl, hown, hnl, hzk, hor, hb⟩ := hrel
    obtain ⟨A, cap, rfl, hdc, hcm⟩ := own_len hown
    unfold maxLen at hcm
    have HOWN := Lib.hid hown
    have HNL := Lib.hid hnl
    have HB := Lib.hid hb
    clear hown hnl hb
    rcases hor with ⟨hk, hfr, hsp, hno⟩ | ⟨hk, hfr, hsp⟩
    · have HSP := Lib.hid hsp
      have HNO := Lib.hid hno
      clear hsp hno
      have hks : k ≤ 1048576 := by omega
      by_cases hend : k = s.size
      · have HS2 : Hid (splitC 44 s.data.toList = done ++ [(s.data.toList.take k).drop fr]) := Lib.hid (by rw [hend]; exact HEND.out done fr HSP.out (by rw [← hend]; exact HNO.out))
        have h1 : ((k : Int) == (s.size : Int)) = true := by rw [hend]; simp
        have hmid : Hid (s.extract fr k = ⟨((s.data.toList.take k).drop fr).toArray⟩) := Lib.hid (ext_mid s fr k)
        have hps : (s.extract fr k).size ≤ 1048576 := by rw [hmid.out]; exact mid_size _ _ _ (by omega)
        have HREAD := Lib.hid (fun W => read1_any (s.extract fr k) W hps)
        have hlist : (s.extract fr k).data.toList = (s.data.toList.take k).drop fr := by rw [hmid.out]
        rw [hlist] at HREAD
        have HKE := Lib.hid hend
        clear hend hps hlist
        cases hn : numOf (-999999999) 999999999 ((s.data.toList.take k).drop fr) with
        | none =>
          rw [hn] at HREAD
          have HRN : Hid (R = []) := Lib.hid (by rw [← HR.out, HS2.out, numL_snoc, HNL.out, hn]; rfl)
          clear hn
          go_wp2_with (fail)
          refine (HREAD.out _).mono ?_
          rintro e w1 ⟨rfl, hb1⟩
          have hbb := HB.out.trans (hb1.mono HB.out.size)
          clear hb1
          go_wp2
          go_ret
          exact ⟨_, rfl, by rw [HRN.out]; exact ⟨_, 0, rfl, Nat.le_refl _, Nat.zero_le _, fun h => absurd rfl h⟩, hbb.alloc hbb.size _⟩
        | some z =>
          rw [hn] at HREAD
          obtain ⟨b1, b2⟩ := numOf_bd hn
          have HN2 : Hid (numL (-999999999) 999999999 (done ++ [(s.data.toList.take k).drop fr]) = some (zs ++ [z])) := Lib.hid (by rw [numL_snoc, HNL.out, hn])
          clear hn
          go_wp2_with (fail)
          refine (HREAD.out _).mono ?_
          rintro e w1 ⟨rfl, hb1⟩
          have hbb := HB.out.trans (hb1.mono HB.out.size)
          have hown := own_below HOWN.out hb1
          have hsz2 := hbb.size
          clear hb1
          have HF : Hid ((zs ++ [z]).flatMap intCells = zs.flatMap intCells ++ [.int .i64 z]) := Lib.hid (by rw [flat_snoc]; rfl)
          generalize zs.flatMap intCells = L at *
          go_wp2_with (at_builtin; refine wpList_append_own _ rfl _ _ 36 rfl w.heap.size 2 i0 (.int .i64 0) 1 8 Tryz.underlying36 hi hz0 hz1 hz2 rfl (by decide) _ _ _ rfl (hown.alloc _) ⟨w1.heap.size, 0, none⟩ 1 1 [.int .i64 z] rfl rfl ?c1 ?c2 ?c3 ?c4 ?c5 ?_)
          case c1 =>
            intro j u hj
            match j, hj with
            | 0, hj => simp at hj; subst hj; simp [Addr.add]
          case c2 => intro u hu; simp at hu; subst hu; rfl
          case c3 => unfold maxLen; omega
          case c4 => omega
          case c5 => simp; omega
          · intro v' w2 hown' hgrow _
            have hb2 := (hbb.alloc hsz2 _).grown hgrow (by simp; omega) (fun j hj => (hown.lt j hj).1)
            clear hown hgrow
            go_wp2
            go_roundw
            case rel => exact ⟨k + 1, k + 1, done ++ [(s.data.toList.take k).drop fr], zs ++ [z], by go_num, by go_num, by rw [List.length_append, HF.out]; exact hown', HN2.out, by simp; omega, .inr ⟨by rw [HKE.out], Nat.le_refl _, HS2.out⟩, hb2⟩
            case measure => simp [RowKit.intOf]; omega
      · have hlt : k < s.size := by omega
        have h0 : ((k : Int) == (s.size : Int)) = false := by simp; omega
        have HT := Lib.hid (take_snoc' s k hlt)
        by_cases he : s[k] = 44
        · have h1 : ((s[k].toNat : Int) == 44) = true := by rw [he]; rfl
          have HS2 := Lib.hid (HSTEP.out done fr k HSP.out hfr hlt he HNO.out)
          clear he
          have hmid : Hid (s.extract fr k = ⟨((s.data.toList.take k).drop fr).toArray⟩) := Lib.hid (ext_mid s fr k)
          have hps : (s.extract fr k).size ≤ 1048576 := by rw [hmid.out]; exact mid_size _ _ _ (by omega)
          have HREAD := Lib.hid (fun W => read1_any (s.extract fr k) W hps)
          have hlist : (s.extract fr k).data.toList = (s.data.toList.take k).drop fr := by rw [hmid.out]
          rw [hlist] at HREAD
          clear hend hps hlist
          cases hn : numOf (-999999999) 999999999 ((s.data.toList.take k).drop fr) with
          | none =>
            rw [hn] at HREAD
            have HRN : Hid (R = []) := Lib.hid (by rw [← HR.out, HS2.out, numL_none_app _ _ (by rw [numL_snoc, HNL.out, hn])]; rfl)
            clear hn
            go_wp2_with (fail)
            refine (HREAD.out _).mono ?_
            rintro e w1 ⟨rfl, hb1⟩
            have hbb := HB.out.trans (hb1.mono HB.out.size)
            clear hb1
            go_wp2
            go_ret
            exact ⟨_, rfl, by rw [HRN.out]; exact ⟨_, 0, rfl, Nat.le_refl _, Nat.zero_le _, fun h => absurd rfl h⟩, hbb.alloc hbb.size _⟩
          | some z =>
            rw [hn] at HREAD
            obtain ⟨b1, b2⟩ := numOf_bd hn
            have HN2 : Hid (numL (-999999999) 999999999 (done ++ [(s.data.toList.take k).drop fr]) = some (zs ++ [z])) := Lib.hid (by rw [numL_snoc, HNL.out, hn])
            have HNE : Hid ((44 : UInt8) ∉ (s.data.toList.take (k + 1)).drop (k + 1)) := Lib.hid (by
              rw [List.drop_eq_nil_of_le (by rw [List.length_take]; omega)]
              simp)
            clear hn
            go_wp2_with (fail)
            refine (HREAD.out _).mono ?_
            rintro e w1 ⟨rfl, hb1⟩
            have hbb := HB.out.trans (hb1.mono HB.out.size)
            have hown := own_below HOWN.out hb1
            have hsz2 := hbb.size
            clear hb1
            have HF : Hid ((zs ++ [z]).flatMap intCells = zs.flatMap intCells ++ [.int .i64 z]) := Lib.hid (by rw [flat_snoc]; rfl)
            generalize zs.flatMap intCells = L at *
            go_wp2_with (at_builtin; refine wpList_append_own _ rfl _ _ 36 rfl w.heap.size 2 i0 (.int .i64 0) 1 8 Tryz.underlying36 hi hz0 hz1 hz2 rfl (by decide) _ _ _ rfl (hown.alloc _) ⟨w1.heap.size, 0, none⟩ 1 1 [.int .i64 z] rfl rfl ?c1 ?c2 ?c3 ?c4 ?c5 ?_)
            case c1 =>
              intro j u hj
              match j, hj with
              | 0, hj => simp at hj; subst hj; simp [Addr.add]
            case c2 => intro u hu; simp at hu; subst hu; rfl
            case c3 => unfold maxLen; omega
            case c4 => omega
            case c5 => simp; omega
            · intro v' w2 hown' hgrow _
              have hb2 := (hbb.alloc hsz2 _).grown hgrow (by simp; omega) (fun j hj => (hown.lt j hj).1)
              clear hown hgrow
              go_wp2
              go_roundw
              case rel => exact ⟨k + 1, k + 1, done ++ [(s.data.toList.take k).drop fr], zs ++ [z], by go_num, by go_num, by rw [List.length_append, HF.out]; exact hown', HN2.out, by simp; omega, .inl ⟨by omega, Nat.le_refl _, HS2.out, HNE.out⟩, hb2⟩
              case measure => simp [RowKit.intOf]; omega
        · have h1 : ((s[k].toNat : Int) == 44) = false := by
            simp only [beq_eq_false_iff_ne, ne_eq]
            intro e
            exact he (UInt8.toNat_inj.1 (by have : (44 : UInt8).toNat = 44 := rfl; omega))
          have HNX : Hid ((44 : UInt8) ∉ (s.data.toList.take (k + 1)).drop fr) := Lib.hid (by
            rw [HT.out, List.drop_append_of_le_length (by rw [List.length_take]; omega), List.mem_append, List.mem_singleton]
            rintro (h | h)
            · exact HNO.out h
            · exact he h.symm)
          clear he hend
          go_wp2
          go_roundw
          case rel => exact ⟨k + 1, fr, done, zs, by go_num, rfl, HOWN.out, HNL.out, by omega, .inl ⟨by omega, by omega, HSP.out, HNX.out⟩, HB.out⟩
          case measure => simp [RowKit.intOf]; omega
    · have hks : k ≤ 1048577 := by omega
      have hgt : ¬ (k : Int) ≤ (s.size : Int) := by omega
      have HRR : Hid (R = zs) := Lib.hid (by rw [← HR.out, hsp, HNL.out]; rfl)
      have HO2 : Hid (OwnL intCells zs w.heap.size wr (.slice A zs.length cap)) := Lib.hid (OwnL.of_own intCells (size := 1) (fun _ => rfl) HOWN.out)
      clear hsp hk
      go_wp2
      go_ret
      exact ⟨_, rfl, by rw [HRR.out]; exact HO2.out, HB.out⟩
end Go.Proofs.YthlfpiflegfoiaaGreatDoor

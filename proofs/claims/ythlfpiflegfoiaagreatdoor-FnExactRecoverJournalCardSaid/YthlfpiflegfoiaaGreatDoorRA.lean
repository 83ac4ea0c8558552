/- The reference's readers of parts: a text cut, a number. -/
import Derived.Test.YthlfpiflegfoiaaGreatDoorRp
import Derived.Test.YthlfpiflegfoiaaGreatDoorLawQ
import Derived.BigQuiet
namespace Go.Proofs.YthlfpiflegfoiaaGreatDoor
open Go.RowKit Go.Lib

theorem mk_data (b : ByteArray) : (⟨b.data.toList.toArray⟩ : ByteArray) = b := by
  apply ByteArray.ext
  simp
theorem ext_take (s : ByteArray) (k : Nat) : s.extract 0 k = ⟨(s.data.toList.take k).toArray⟩ := by rw [← extract_from_zero, mk_data]
theorem ext_drop (s : ByteArray) (k : Nat) : s.extract k s.size = ⟨(s.data.toList.drop k).toArray⟩ := by rw [← extract_to_end, mk_data]
theorem ext_mid (s : ByteArray) (a b : Nat) : s.extract a b = ⟨((s.data.toList.take b).drop a).toArray⟩ := by
  rw [← mk_data (s.extract a b)]
  congr 2
  rw [extract_data]
  simp [List.drop_take]
theorem take_snoc' (s : ByteArray) (k : Nat) (h : k < s.size) : s.data.toList.take (k + 1) = s.data.toList.take k ++ [s[k]] := by
  rw [List.take_succ_eq_append_getElem (by simpa using h)]; rfl

set_option maxHeartbeats 1000000 in
theorem cut1_any (c : UInt8) (C : Int) (hC : C = (c.toNat : Int)) (s : ByteArray) (w : World) (hs : s.size ≤ 1048576) :
    Calls Tryz.prog 32 #[.string s, .int .u8 C] w (RetQ (.tuple #[.string ⟨(cutL c s.data.toList).1.toArray⟩, .string ⟨(cutL c s.data.toList).2.toArray⟩]) w) := by
  subst hC
  have hsz : s.data.toList.length = s.size := by simp
  have HN := Lib.hid (fun h => cutL_none (c := c) (a := s.data.toList) h)
  have HH : Hid (∀ (k : Nat) (h : k < s.size), s[k] = c → c ∉ s.data.toList.take k → cutL c s.data.toList = (s.data.toList.take k, s.data.toList.drop (k + 1))) := Lib.hid (fun k h h2 h3 => cutL_hit (by omega) h2 h3)
  have HFULL : Hid (s.data.toList.take s.size = s.data.toList) := Lib.hid (List.take_of_length_le (by omega))
  obtain ⟨R, hR⟩ : ∃ R, cutL c s.data.toList = R := ⟨_, rfl⟩
  rw [hR] at HN HH ⊢
  clear hR
  go_enter Tryz.func32, Tryz.ntmps32
  go_wp2
  go_loop [6] (fun i => ∃ k : Nat, k ≤ s.size ∧ i = .int .i64 (k : Int) ∧ c ∉ s.data.toList.take k) (fun i => s.size - (RowKit.intOf i).toNat)
  case atStart => exact ⟨0, Nat.zero_le _, rfl, by simp⟩
  case round =>
    obtain ⟨k, hk, rfl, hno⟩ := hrel
    have HNO := Lib.hid hno
    clear hno
    by_cases hlt : k < s.size
    · have HT := Lib.hid (take_snoc' s k hlt)
      by_cases he : s[k] = c
      · have HF := Lib.hid (HH.out k hlt he HNO.out)
        have h1 : ((s[k].toNat : Int) == (c.toNat : Int)) = true := by simp [he]
        clear he
        go_wp2_with (fail)
        go_quiet (fail)
        go_wp2
        go_ret2
        refine ⟨?_, _, rfl⟩
        rw [HF.out, ext_take, ext_drop]
        rfl
      · have h1 : ((s[k].toNat : Int) == (c.toNat : Int)) = false := by
          simp only [beq_eq_false_iff_ne, ne_eq]
          intro e
          exact he (UInt8.toNat_inj.1 (by omega))
        have HNX : Hid (c ∉ s.data.toList.take (k + 1)) := Lib.hid (by
          rw [HT.out, List.mem_append, List.mem_singleton]
          rintro (h | h)
          · exact HNO.out h
          · exact he h.symm)
        clear he
        go_wp2
        go_round
        case rel => exact ⟨k + 1, by omega, by go_num, HNX.out⟩
        case measure => simp [RowKit.intOf]; omega
    · have hge : ¬ (k : Int) < (s.size : Int) := by omega
      have hk' : k = s.size := by omega
      have HR : Hid (R = (s.data.toList, [])) := Lib.hid (HN.out (by have := HNO.out; rw [hk', HFULL.out] at this; exact this))
      clear hlt hk'
      go_wp2
      go_ret2
      refine ⟨?_, 0, rfl⟩
      rw [HR.out, mk_data]
      rfl

/-- The number that the digits of a text make, whatever stands between them. -/
def dval (l : List UInt8) : Nat := l.foldl (fun n c => if 48 ≤ c.toNat ∧ c.toNat ≤ 57 then 10 * n + (c.toNat - 48) else n) 0
theorem dval_snoc (l : List UInt8) (c : UInt8) : dval (l ++ [c]) = if 48 ≤ c.toNat ∧ c.toNat ≤ 57 then 10 * dval l + (c.toNat - 48) else dval l := by
  unfold dval
  rw [List.foldl_append]
  rfl
theorem dval_lt (l : List UInt8) : ∀ k, dval (l.take k) < 10 ^ (min k l.length)
  | 0 => by simp [dval]
  | k + 1 => by
    have ih := dval_lt l k
    by_cases h : k < l.length
    · rw [List.take_succ_eq_append_getElem h, dval_snoc, Nat.min_eq_left (by omega), Nat.pow_succ]
      rw [Nat.min_eq_left (by omega)] at ih
      split <;> omega
    · rw [Nat.min_eq_right (by omega)] at ih ⊢
      rw [List.take_of_length_le (by omega)] at ih ⊢
      exact ih
theorem dval_digits (u : Nat) : ∀ p : List UInt8, dval p = 0 → dval (p ++ decDigits u) = u := by
  induction u using Nat.strongRecOn with
  | _ u ih =>
    intro p hp
    rw [decDigits]
    split
    · rename_i h
      rw [dval_snoc, digit_of u h, if_pos (by omega), hp]
      omega
    · rename_i h
      rw [← List.append_assoc, dval_snoc, digit_of (u % 10) (by omega), if_pos (by omega), ih (u / 10) (by omega) p hp]
      omega
/-- What the reference takes a text for, before it looks whether it is that number's text. -/
def rdval (l : List UInt8) : Int := if l.head?.map (·.toNat) = some 45 then -(dval l : Int) else (dval l : Int)
theorem rdval_itoa (n : Int) : rdval (itoa n) = n := by
  unfold rdval itoa
  split
  · rename_i h
    have := dval_digits n.natAbs [45] (by decide)
    rw [List.singleton_append] at this
    rw [if_pos (show (45 :: decDigits n.natAbs).head?.map (·.toNat) = some 45 from rfl), this]
    omega
  · rename_i h
    obtain ⟨c, r, hd, hc⟩ := digits_head n.toNat
    have := dval_digits n.toNat [] rfl
    rw [List.nil_append, hd] at this
    unfold isDigit at hc
    rw [hd, if_neg (by simp; omega), this]
    omega
theorem itoa_len10 {n : Int} (h1 : -999999999 ≤ n) (h2 : n ≤ 999999999) : (itoa n).length ≤ 10 := by
  have hd : ∀ (k u : Nat), u < 10 ^ (k + 1) → (decDigits u).length ≤ k + 1 := by
    intro k
    induction k with
    | zero =>
      intro u hu
      rw [decDigits, dif_pos (by simpa using hu)]
      simp
    | succ k ih =>
      intro u hu
      rw [decDigits]
      split
      · simp
      · have := ih (u / 10) (by rw [Nat.pow_succ] at hu; omega)
        rw [List.length_append]
        simp
        omega
  unfold itoa
  split
  · have := hd 8 n.natAbs (by omega)
    rw [List.length_cons]
    omega
  · have := hd 8 n.toNat (by omega)
    omega

theorem numOf_no {lo hi z : Int} {t : List UInt8} (hu : ∀ q, inB q lo hi = true → itoa q = t → z = q) (h : ¬ (inB z lo hi = true ∧ itoa z = t)) : numOf lo hi t = none := inv_no hu h
theorem numOf_yes {lo hi z : Int} {t : List UInt8} (hu : ∀ q, inB q lo hi = true → itoa q = t → z = q) (h1 : inB z lo hi = true) (h2 : itoa z = t) : numOf lo hi t = some z := inv_of hu h1 h2
set_option maxHeartbeats 2000000 in
theorem read1_any (s : ByteArray) (w : World) (hs : s.size ≤ 1048576) :
    Calls Tryz.prog 49 #[.string s] w (RetB (.tuple #[.int .i64 ((numOf (-999999999) 999999999 s.data.toList).getD 0), .bool (numOf (-999999999) 999999999 s.data.toList).isSome]) w) := by
  have hsz : s.data.toList.length = s.size := by simp
  have HU : Hid (∀ q, inB q (-999999999) 999999999 = true → itoa q = s.data.toList → rdval s.data.toList = q) := Lib.hid (fun q _ e => by rw [← e, rdval_itoa])
  by_cases h10 : s.size ≤ 10
  · have HB : Hid (∀ k, k ≤ s.size → dval (s.data.toList.take k) < 10000000000) := Lib.hid (fun k hk => by
      have h := dval_lt s.data.toList k
      have h2 : (10 : Nat) ^ (min k s.data.toList.length) ≤ 10 ^ 10 := Nat.pow_le_pow_right (by omega) (by omega)
      omega)
    have HFULL : Hid (s.data.toList.take s.size = s.data.toList) := Lib.hid (List.take_of_length_le (by omega))
    go_enter Tryz.func49, Tryz.ntmps49
    go_wp2
    go_loop [4, 5] (fun n i => ∃ k : Nat, k ≤ s.size ∧ i = .int .i64 (k : Int) ∧ n = .int .i64 (dval (s.data.toList.take k) : Int)) (fun _ i => s.size - (RowKit.intOf i).toNat)
    case atStart => exact ⟨0, Nat.zero_le _, rfl, rfl⟩
    case round =>
      obtain ⟨k, hk, rfl, rfl⟩ := hrel
      have hb := HB.out k hk
      by_cases hlt : k < s.size
      · have ht := dval_snoc (s.data.toList.take k) s[k]
        rw [← take_snoc' s k hlt] at ht
        have HT := Lib.hid ht
        clear ht
        generalize dval (s.data.toList.take k) = N at *
        have hc := s[k].toNat_lt
        by_cases hd : 48 ≤ s[k].toNat ∧ s[k].toNat ≤ 57
        · obtain ⟨d1, d2⟩ := hd
          have HE : Hid (dval (s.data.toList.take (k + 1)) = 10 * N + (s[k].toNat - 48)) := Lib.hid (by rw [HT.out, if_pos ⟨d1, d2⟩])
          have hge : decide ((48 : Int) ≤ (s[k].toNat : Int)) = true := by simp; omega
          have hle : decide ((s[k].toNat : Int) ≤ 57) = true := by simp; omega
          go_wp2
          go_round
          case rel => exact ⟨k + 1, by omega, by go_num, by rw [HE.out]; congr 1; omega⟩
          case measure => simp [RowKit.intOf]; omega
        · have HE : Hid (dval (s.data.toList.take (k + 1)) = N) := Lib.hid (by rw [HT.out, if_neg hd])
          by_cases d1 : 48 ≤ s[k].toNat
          · have d2 : ¬ s[k].toNat ≤ 57 := fun h => hd ⟨d1, h⟩
            have hge : decide ((48 : Int) ≤ (s[k].toNat : Int)) = true := by simp; omega
            have hle : decide ((s[k].toNat : Int) ≤ 57) = false := by simp; omega
            clear hd
            go_wp2
            go_round
            case rel => exact ⟨k + 1, by omega, by go_num, by rw [HE.out]⟩
            case measure => simp [RowKit.intOf]; omega
          · have hge : decide ((48 : Int) ≤ (s[k].toNat : Int)) = false := by simp; omega
            clear hd
            go_wp2
            go_round
            case rel => exact ⟨k + 1, by omega, by go_num, by rw [HE.out]⟩
            case measure => simp [RowKit.intOf]; omega
      · have hge : ¬ (k : Int) < (s.size : Int) := by omega
        have hk' : k = s.size := by omega
        rw [hk', HFULL.out] at hb ⊢
        have HV : Hid (rdval s.data.toList = if s.data.toList.head?.map (·.toNat) = some 45 then -(dval s.data.toList : Int) else (dval s.data.toList : Int)) := Lib.hid rfl
        have HH : Hid (∀ h : 0 < s.size, s.data.toList.head?.map (·.toNat) = some s[0].toNat) := Lib.hid (fun h => by
          rw [List.head?_eq_getElem?, List.getElem?_eq_getElem (by omega)]
          rfl)
        have HH0 : Hid (s.size = 0 → s.data.toList.head?.map (·.toNat) = none) := Lib.hid (fun h => by
          rw [List.eq_nil_of_length_eq_zero (hsz.trans h)]
          rfl)
        generalize dval s.data.toList = N at *
        clear hlt hk' hk
        by_cases p0 : 0 < s.size
        · by_cases h45 : s[0].toNat = 45
          · have hv : rdval s.data.toList = -(N : Int) := by rw [HV.out, HH.out p0, if_pos (by rw [h45])]
            have h1 : ((s[0].toNat : Int) == 45) = true := by rw [h45]; rfl
            clear HH HH0 h45
            have HV2 := Lib.hid hv
            clear hv
            obtain ⟨V, hV⟩ : ∃ V, V = (-(N : Int)) := ⟨_, rfl⟩
            rw [← hV] at HV2
            have v1 : -10000000000 < V := by omega
            have v2 : V < 10000000000 := by omega
            have HU2 : Hid (∀ q, inB q (-999999999) 999999999 = true → itoa q = s.data.toList → V = q) := Lib.hid (by have := HU.out; rw [HV2.out] at this; exact this)
            clear HV HU HV2
            go_wp2_with (fail)
            rw [← hV]
            clear hV
            cases hin : inB V (-999999999) 999999999 with
            | false =>
              refine (in1_val V (-999999999) 999999999 _ false hin).mono ?_
              rintro e w1 ⟨rfl, m1, rfl⟩
              have HNO := Lib.hid (numOf_no HU2.out (by rw [hin]; simp))
              clear hin
              go_wp2
              go_ret2
              refine ⟨?_, below_drewN (Below.refl _ _) _⟩
              rw [HNO.out]
              rfl
            | true =>
              refine (in1_val V (-999999999) 999999999 _ true hin).mono ?_
              rintro e w1 ⟨rfl, m1, rfl⟩
              have HIN := Lib.hid hin
              clear hin
              go_wp2_with (fail)
              refine (dec1_any V _ (by omega) (by omega)).mono ?_
              rintro e w1 ⟨rfl, hb1⟩
              have hbw := (below_drewN (Below.refl w.heap.size w) m1).trans (hb1.mono (below_drewN (Below.refl w.heap.size w) m1).size)
              by_cases heq : itoa V = s.data.toList
              · have hs1 : (itoa V == s.toList) = true := by rw [ByteArray.toList_eq, heq]; simp
                have HY := Lib.hid (numOf_yes HU2.out HIN.out heq)
                clear heq
                go_wp2
                go_ret2
                refine ⟨?_, hbw⟩
                rw [HY.out]
                rfl
              · have hs1 : (itoa V == s.toList) = false := by rw [ByteArray.toList_eq]; simpa using heq
                have HY := Lib.hid (numOf_no HU2.out (fun h => heq h.2))
                clear heq
                go_wp2
                go_ret2
                refine ⟨?_, hbw⟩
                rw [HY.out]
                rfl
          · have hv : rdval s.data.toList = (N : Int) := by rw [HV.out, HH.out p0, if_neg (by simpa using h45)]
            have h1 : ((s[0].toNat : Int) == 45) = false := by simp; omega
            clear HH HH0 h45
            have HV2 := Lib.hid hv
            clear hv
            obtain ⟨V, hV⟩ : ∃ V, V = (N : Int) := ⟨_, rfl⟩
            rw [← hV] at HV2
            have v1 : -10000000000 < V := by omega
            have v2 : V < 10000000000 := by omega
            have HU2 : Hid (∀ q, inB q (-999999999) 999999999 = true → itoa q = s.data.toList → V = q) := Lib.hid (by have := HU.out; rw [HV2.out] at this; exact this)
            clear HV HU HV2
            go_wp2_with (fail)
            rw [← hV]
            clear hV
            cases hin : inB V (-999999999) 999999999 with
            | false =>
              refine (in1_val V (-999999999) 999999999 _ false hin).mono ?_
              rintro e w1 ⟨rfl, m1, rfl⟩
              have HNO := Lib.hid (numOf_no HU2.out (by rw [hin]; simp))
              clear hin
              go_wp2
              go_ret2
              refine ⟨?_, below_drewN (Below.refl _ _) _⟩
              rw [HNO.out]
              rfl
            | true =>
              refine (in1_val V (-999999999) 999999999 _ true hin).mono ?_
              rintro e w1 ⟨rfl, m1, rfl⟩
              have HIN := Lib.hid hin
              clear hin
              go_wp2_with (fail)
              refine (dec1_any V _ (by omega) (by omega)).mono ?_
              rintro e w1 ⟨rfl, hb1⟩
              have hbw := (below_drewN (Below.refl w.heap.size w) m1).trans (hb1.mono (below_drewN (Below.refl w.heap.size w) m1).size)
              by_cases heq : itoa V = s.data.toList
              · have hs1 : (itoa V == s.toList) = true := by rw [ByteArray.toList_eq, heq]; simp
                have HY := Lib.hid (numOf_yes HU2.out HIN.out heq)
                clear heq
                go_wp2
                go_ret2
                refine ⟨?_, hbw⟩
                rw [HY.out]
                rfl
              · have hs1 : (itoa V == s.toList) = false := by rw [ByteArray.toList_eq]; simpa using heq
                have HY := Lib.hid (numOf_no HU2.out (fun h => heq h.2))
                clear heq
                go_wp2
                go_ret2
                refine ⟨?_, hbw⟩
                rw [HY.out]
                rfl
        · have hv : rdval s.data.toList = (N : Int) := by rw [HV.out, HH0.out (by omega), if_neg (by simp)]
          have hp1 : ¬ (0 : Int) < (s.size : Int) := by omega
          clear HH HH0
          have HV2 := Lib.hid hv
          clear hv
          obtain ⟨V, hV⟩ : ∃ V, V = (N : Int) := ⟨_, rfl⟩
          rw [← hV] at HV2
          have v1 : -10000000000 < V := by omega
          have v2 : V < 10000000000 := by omega
          have HU2 : Hid (∀ q, inB q (-999999999) 999999999 = true → itoa q = s.data.toList → V = q) := Lib.hid (by have := HU.out; rw [HV2.out] at this; exact this)
          clear HV HU HV2
          go_wp2_with (fail)
          rw [← hV]
          clear hV
          cases hin : inB V (-999999999) 999999999 with
          | false =>
            refine (in1_val V (-999999999) 999999999 _ false hin).mono ?_
            rintro e w1 ⟨rfl, m1, rfl⟩
            have HNO := Lib.hid (numOf_no HU2.out (by rw [hin]; simp))
            clear hin
            go_wp2
            go_ret2
            refine ⟨?_, below_drewN (Below.refl _ _) _⟩
            rw [HNO.out]
            rfl
          | true =>
            refine (in1_val V (-999999999) 999999999 _ true hin).mono ?_
            rintro e w1 ⟨rfl, m1, rfl⟩
            have HIN := Lib.hid hin
            clear hin
            go_wp2_with (fail)
            refine (dec1_any V _ (by omega) (by omega)).mono ?_
            rintro e w1 ⟨rfl, hb1⟩
            have hbw := (below_drewN (Below.refl w.heap.size w) m1).trans (hb1.mono (below_drewN (Below.refl w.heap.size w) m1).size)
            by_cases heq : itoa V = s.data.toList
            · have hs1 : (itoa V == s.toList) = true := by rw [ByteArray.toList_eq, heq]; simp
              have HY := Lib.hid (numOf_yes HU2.out HIN.out heq)
              clear heq
              go_wp2
              go_ret2
              refine ⟨?_, hbw⟩
              rw [HY.out]
              rfl
            · have hs1 : (itoa V == s.toList) = false := by rw [ByteArray.toList_eq]; simpa using heq
              have HY := Lib.hid (numOf_no HU2.out (fun h => heq h.2))
              clear heq
              go_wp2
              go_ret2
              refine ⟨?_, hbw⟩
              rw [HY.out]
              rfl
  · have HNO : Hid (numOf (-999999999) 999999999 s.data.toList = none) := Lib.hid (by
      cases hn : numOf (-999999999) 999999999 s.data.toList with
      | none => rfl
      | some z =>
        obtain ⟨b1, b2⟩ := numOf_bd hn
        have e := (inv_some hn).2
        have := itoa_len10 b1 b2
        rw [e, hsz] at this
        exact absurd this h10)
    go_enter Tryz.func49, Tryz.ntmps49
    go_wp2
    go_ret2
    refine ⟨?_, Below.refl _ _⟩
    rw [HNO.out]
    rfl
end Go.Proofs.YthlfpiflegfoiaaGreatDoor

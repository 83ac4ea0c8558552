/- Are these deeds; the journals, walked. -/
import Derived.Test.YtedglaejieblhaaDoorLawV
import Derived.Test.YtedglaejieblhaaDoorShelfB
namespace Go.Proofs.YtedglaejieblhaaDoor
open Go.RowKit Go.Lib

set_option maxRecDepth 100000 in
set_option maxHeartbeats 1000000 in
theorem clos_any (d : Deed) (A1 : Option Addr) (c1 : Nat) (A2 : Option Addr) (c2 : Nat) (w : World) (hT : Ints w w.heap.size (.slice A1 d.trust.length c1) d.trust) (hP : Edits w w.heap.size (.slice A2 d.patch.length c2) d.patch) (hs : SizesOk d.patch) (ht : d.title.size ≤ maxLen) :
    Calls Tryd.prog 76 #[.agg #[.int .i64 d.kind, .int .i64 d.member, .slice A1 d.trust.length c1, .string d.title, .int .i64 d.vote, .slice A2 d.patch.length c2, .int .i64 d.start, .int .i64 d.until_, .int .i64 d.closes]] w (RetB (.bool (!okDeed d)) w) := by
  have bW : ∀ o, Below w.heap.size w (w.alloc o) := fun o => (Below.refl _ _).alloc (Nat.le_refl _) _
  have HT := Lib.hid (fun o => hT.on (Pl.stays _) (bW o) (bW o).size)
  have HP := Lib.hid (fun o => hP.on (Pl.stays _) (bW o) (bW o).size)
  have HS := Lib.hid hs
  have HTI := Lib.hid ht
  have HB := Lib.hid bW
  clear hT hP hs ht bW
  go_enter Tryd.func76, Tryd.ntmps76
  go_wp2_with (fail)
  refine (deed2_any d A1 c1 A2 c2 _ (HT.out _) (HP.out _) HS.out HTI.out).mono ?_
  rintro e w1 ⟨rfl, hb1⟩
  have hb2 := (HB.out _).trans (hb1.mono (HB.out _).size)
  go_wp2
  go_ret
  exact ⟨rfl, hb2⟩

def IdxPost (ds : List Deed) (w : World) (e : Ending) (w' : World) : Prop :=
  ∃ n : Int, e = .returned (.int .i64 n) ∧ (0 ≤ n ↔ ds.all okDeed = false) ∧ -1 ≤ n ∧ n ≤ 9223372036854775807 ∧ Below w.heap.size w w'

set_option maxRecDepth 100000 in
set_option maxHeartbeats 2000000 in
theorem idxf_any (ds : List Deed) (A : Option Addr) (n c : Nat) (w : World) (h : Deeds w w.heap.size (.slice A n c) ds) :
    Calls Tryd.prog 98 #[.slice A n c, .func (.func 76) #[] #[]] w (IdxPost ds w) := by
  obtain ⟨hn, hc, hm⟩ := slR_len h
  have HD := Lib.hid (SlR.aft h DeedR.stays (Nat.le_refl _))
  have HN := Lib.hid hn
  have hnm : n ≤ 9223372036854775807 := by omega
  have hnl : n ≤ ds.length := by omega
  have hln : ds.length ≤ n := by omega
  clear h hn
  refine calls_aft fun x0 => ?_
  go_enter Tryd.func98, Tryd.ntmps98
  go_wp2
  go_loopw [5, 8] (fun _ i wr => ∃ (k : Nat) (x : Aft w), k ≤ n ∧ i = .int .i64 (k : Int) ∧ (∀ d ∈ ds.take k, okDeed d = true) ∧ wr = x.val) (fun _ i _ => n - (RowKit.intOf i).toNat)
  case atStart => exact ⟨0, x0, Nat.zero_le _, rfl, by simp, rfl⟩
  case round =>
    obtain ⟨k, x, hk, rfl, hall, rfl⟩ := hrel
    have HA := Lib.hid hall
    clear hall
    by_cases hlt : k < n
    · have hget : ds[k]? = some ds[k] := List.getElem?_eq_getElem (by omega)
      obtain ⟨b, off, A1, c1, A2, c2, rfl, hb, hP⟩ := deeds_get (HD.out x) hget
      have hts : ds.take (k + 1) = ds.take k ++ [ds[k]] := by rw [List.take_succ_eq_append_getElem]
      have HTS := Lib.hid hts
      have HG := Lib.hid hget
      clear hget hts
      generalize ds[k] = d at *
      have z0 := hP.k0
      have z1 := hP.k1
      have z2 := hP.k2
      have z3 := hP.k3
      have z4 := hP.k4
      have z5 := hP.k5
      have z6 := hP.k6
      have z7 := hP.k7
      have z8 := hP.k8
      have HP := Lib.hid hP
      clear hP
      go_wp2_with (fail)
      refine (aft_b (clos_any d A1 c1 A2 c2 _ HP.out.ints HP.out.edits HP.out.sizes HP.out.title)).mono ?_
      rintro e _ ⟨rfl, y, rfl⟩
      clear z0 z1 z2 z3 z4 z5 z6 z7 z8
      cases ho : okDeed d with
      | true =>
        have HO := Lib.hid ho
        clear ho
        go_wp2
        go_roundw
        case rel => exact ⟨k + 1, y, by omega, by go_num, by rw [HTS.out]; intro e he; rcases List.mem_append.1 he with he | he; exact HA.out e he; rw [List.mem_singleton.1 he]; exact HO.out, rfl⟩
        case measure => simp [RowKit.intOf]; omega
      | false =>
        have HO := Lib.hid ho
        clear ho
        go_wp2
        go_ret
        refine ⟨(k : Int), rfl, ⟨fun _ => ?_, fun _ => by omega⟩, by omega, by omega, y.ok⟩
        rw [List.all_eq_false]
        exact ⟨d, List.mem_of_getElem? HG.out, by rw [HO.out]; simp⟩
    · have hge : ¬ (k : Int) < (n : Int) := by omega
      go_wp2
      go_ret
      refine ⟨-1, rfl, ⟨fun h => by omega, fun h => ?_⟩, by omega, by omega, x.ok⟩
      have h1 := HA.out
      rw [List.take_of_length_le (by omega)] at h1
      rw [List.all_eq_false] at h
      obtain ⟨d, hd, hd2⟩ := h
      exact absurd (h1 d hd) hd2

set_option maxHeartbeats 1000000 in
theorem containsf_any (ds : List Deed) (A : Option Addr) (n c : Nat) (w : World) (h : Deeds w w.heap.size (.slice A n c) ds) :
    Calls Tryd.prog 75 #[.slice A n c, .func (.func 76) #[] #[]] w (RetB (.bool (!ds.all okDeed)) w) := by
  have H := Lib.hid (idxf_any ds A n c w h)
  obtain ⟨r, hr⟩ : ∃ r, ds.all okDeed = r := ⟨_, rfl⟩
  rw [hr]
  have HR := Lib.hid hr
  clear h hr
  go_enter Tryd.func75, Tryd.ntmps75
  go_wp2_with (fail)
  refine H.out.mono ?_
  rintro e w1 ⟨m, rfl, hiff, h1, h2, hb⟩
  rw [HR.out] at hiff
  cases r with
  | false =>
    have hm : 0 ≤ m := hiff.2 rfl
    have hd : decide (0 ≤ m) = true := by simp; omega
    clear hiff
    go_wp2
    go_ret
    exact ⟨rfl, hb⟩
  | true =>
    have hm : m < 0 := by
      rcases Int.lt_or_le m 0 with h | h
      · exact h
      · exact absurd (hiff.1 h) (by simp)
    have hd : decide (0 ≤ m) = false := by simp; omega
    clear hiff
    go_wp2
    go_ret
    exact ⟨rfl, hb⟩

set_option maxHeartbeats 1000000 in
theorem areDeeds2_any (ds : List Deed) (A : Option Addr) (n c : Nat) (w : World) (h : Deeds w w.heap.size (.slice A n c) ds) :
    Calls Tryd.prog 39 #[.slice A n c] w (RetB (.bool (okDeeds ds)) w) := by
  obtain ⟨hn, hc, hm⟩ := slR_len h
  have H := Lib.hid (containsf_any ds A n c w h)
  have HO : Hid (okDeeds ds = (decide (n ≤ 40) && ds.all okDeed)) := Lib.hid (by rw [hn]; rfl)
  obtain ⟨r, hr⟩ : ∃ r, ds.all okDeed = r := ⟨_, rfl⟩
  rw [hr] at HO
  rw [hr] at H
  have hnm : n ≤ 9223372036854775807 := by omega
  clear h hn hr
  by_cases h40 : n ≤ 40
  · have h1 : decide ((n : Int) ≤ 40) = true := by simp; omega
    have H40 := Lib.hid h40
    clear h40
    go_enter Tryd.func39, Tryd.ntmps39
    go_wp2_with (fail)
    refine H.out.mono ?_
    rintro e w1 ⟨rfl, hb⟩
    go_wp2
    go_ret
    exact ⟨by rw [HO.out]; cases r <;> simp [H40.out], hb⟩
  · have h1 : decide ((n : Int) ≤ 40) = false := by simp; omega
    have H40 := Lib.hid h40
    clear h40
    go_enter Tryd.func39, Tryd.ntmps39
    go_wp2
    go_ret
    exact ⟨by rw [HO.out]; simp [H40.out], Below.refl _ _⟩

set_option maxRecDepth 100000 in
set_option maxHeartbeats 2000000 in
theorem areDeeds1_any (ds : List Deed) (A : Option Addr) (n c : Nat) (w : World) (h : Deeds w w.heap.size (.slice A n c) ds) :
    Calls Tryd.prog 37 #[.slice A n c] w (RetB (.bool (okDeeds ds)) w) := by
  obtain ⟨hn, hc, hm⟩ := slR_len h
  have HD := Lib.hid (SlR.aft h DeedR.stays (Nat.le_refl _))
  have HO : Hid (okDeeds ds = (decide (n ≤ 40) && ds.all okDeed)) := Lib.hid (by rw [hn]; rfl)
  have hnm : n ≤ 9223372036854775807 := by omega
  have hnl : n ≤ ds.length := by omega
  have hln : ds.length ≤ n := by omega
  clear h hn
  refine calls_aft fun x0 => ?_
  by_cases h40 : n ≤ 40
  · have h1 : decide ((40 : Int) < (n : Int)) = false := by simp; omega
    go_enter Tryd.func37, Tryd.ntmps37
    go_wp2
    go_loopw [3] (fun i wr => ∃ (k : Nat) (x : Aft w), k ≤ n ∧ i = .int .i64 (k : Int) ∧ (∀ d ∈ ds.take k, okDeed d = true) ∧ wr = x.val) (fun i _ => n - (RowKit.intOf i).toNat)
    case atStart => exact ⟨0, x0, Nat.zero_le _, rfl, by simp, rfl⟩
    case round =>
      obtain ⟨k, x, hk, rfl, hall, rfl⟩ := hrel
      have HA := Lib.hid hall
      clear hall
      by_cases hlt : k < n
      · have hget : ds[k]? = some ds[k] := List.getElem?_eq_getElem (by omega)
        obtain ⟨b, off, A1, c1, A2, c2, rfl, hb, hP⟩ := deeds_get (HD.out x) hget
        have hts : ds.take (k + 1) = ds.take k ++ [ds[k]] := by rw [List.take_succ_eq_append_getElem]
        have HTS := Lib.hid hts
        have HG := Lib.hid hget
        clear hget hts
        generalize ds[k] = d at *
        have HP := Lib.hid hP
        clear hP
        go_wp2_with (fail)
        refine (aft_b (deed1_any d b (off + k * 9) A1 c1 A2 c2 _ HP.out)).mono ?_
        rintro e _ ⟨rfl, y, rfl⟩
        cases ho : okDeed d with
        | true =>
          have HOK := Lib.hid ho
          clear ho
          go_wp2
          go_roundw
          case rel => exact ⟨k + 1, y, by omega, by go_num, by rw [HTS.out]; intro e he; rcases List.mem_append.1 he with he | he; exact HA.out e he; rw [List.mem_singleton.1 he]; exact HOK.out, rfl⟩
          case measure => simp [RowKit.intOf]; omega
        | false =>
          have HF : Hid (ds.all okDeed = false) := Lib.hid (by rw [List.all_eq_false]; exact ⟨d, List.mem_of_getElem? HG.out, by rw [ho]; simp⟩)
          clear ho
          go_wp2
          go_ret
          exact ⟨by rw [HO.out, HF.out]; simp, y.ok⟩
      · have hge : ¬ (k : Int) < (n : Int) := by omega
        have HF : Hid (ds.all okDeed = true) := Lib.hid (by
          have h1 := HA.out
          rw [List.take_of_length_le (by omega)] at h1
          rwa [List.all_eq_true])
        go_wp2
        go_ret
        exact ⟨by rw [HO.out, HF.out]; simp [h40], x.ok⟩
  · have h1 : decide ((40 : Int) < (n : Int)) = true := by simp; omega
    have H40 := Lib.hid h40
    clear h40
    go_enter Tryd.func37, Tryd.ntmps37
    go_wp2
    go_ret
    exact ⟨by rw [HO.out]; simp [H40.out], x0.ok⟩

set_option maxRecDepth 100000 in
set_option maxHeartbeats 2000000 in
theorem journal1_any (ds : List Deed) (A : Option Addr) (n c : Nat) (w : World) (h : Deeds w w.heap.size (.slice A n c) ds) (hok : okDeeds ds = true) :
    Calls Tryd.prog 38 #[.slice A n c] w (RetB (.string ⟨(jrn 7 ds).toArray⟩) w) := by
  obtain ⟨hn, hc, hm⟩ := slR_len h
  rw [okDeeds_iff] at hok
  obtain ⟨h40, hall⟩ := hok
  have HD := Lib.hid (SlR.aft h DeedR.stays (Nat.le_refl _))
  have HALL := Lib.hid hall
  have hnl : n ≤ ds.length := by omega
  have hln : ds.length ≤ n := by omega
  have hn40 : n ≤ 40 := by omega
  clear h hn hall h40
  refine calls_aft fun x0 => ?_
  go_enter Tryd.func38, Tryd.ntmps38
  go_wp2
  go_loopw [3, 4, 5] (fun o l i wr => ∃ (k : Nat) (x : Aft w), k ≤ n ∧ i = .int .i64 (k : Int) ∧ o = .string ⟨(jrn 7 (ds.take k)).toArray⟩ ∧ l = .int .i64 ((jlast 7 (ds.take k) : Nat) : Int) ∧ wr = x.val) (fun _ _ i _ => n - (RowKit.intOf i).toNat)
  case atStart => exact ⟨0, x0, Nat.zero_le _, rfl, rfl, rfl, rfl⟩
  case round =>
    obtain ⟨k, x, hk, rfl, rfl, rfl, rfl⟩ := hrel
    by_cases hlt : k < n
    · have hget : ds[k]? = some ds[k] := List.getElem?_eq_getElem (by omega)
      obtain ⟨b, off, A1, c1, A2, c2, rfl, hb, hP⟩ := deeds_get (HD.out x) hget
      have hts : ds.take (k + 1) = ds.take k ++ [ds[k]] := by rw [List.take_succ_eq_append_getElem]
      have hok := HALL.out ds[k] (List.getElem_mem (by omega))
      have hjl := jrn_len (ds.take k) 7 (fun d hd => HALL.out d (List.mem_of_mem_take hd))
      rw [List.length_take] at hjl
      have hll := jlast_lt (ds.take k) 7 (by omega)
      generalize ds[k] = d at *
      have HS1 : Hid (jlast 7 (ds.take (k + 1)) = chk (jlast 7 (ds.take k)) (deedText d)) := Lib.hid (by rw [hts, jlast_snoc])
      have HS2 : Hid (jrn 7 (ds.take (k + 1)) = jrn 7 (ds.take k) ++ (itoa (chk (jlast 7 (ds.take k)) (deedText d) : Nat) ++ 32 :: (deedText d ++ [10]))) := Lib.hid (by rw [hts, jrn_snoc])
      generalize jrn 7 (ds.take k) = out at *
      generalize jlast 7 (ds.take k) = last at *
      have htl := deedText_len hok
      have hcl := chk_lt last (deedText d)
      have HCK := Lib.hid (fun (y : Aft w) => check1_any last ⟨(deedText d).toArray⟩ y.val hll (by simp [ByteArray.size]; omega))
      have il := itoa_length_le (chk last (deedText d) : Nat) (by omega) (by omega)
      have HP := Lib.hid hP
      have HOK := Lib.hid hok
      have htx : ∃ T, T = deedText d := ⟨_, rfl⟩
      obtain ⟨T, hT⟩ := htx
      have HTX := Lib.hid (fun y : Aft w => text1_any d b (off + k * 9) A1 c1 A2 c2 x.val hP hok)
      rw [← hT] at htl HS1 HS2 HCK il hcl
      have htx2 : Hid (Calls Tryd.prog 27 #[.pointer (some ⟨b, off + k * 9, none⟩)] x.val (RetB (.string ⟨T.toArray⟩) x.val)) := Lib.hid (by rw [hT]; exact text1_any d b (off + k * 9) A1 c1 A2 c2 x.val hP hok)
      clear HTX hT hP hok hts hget
      have hdt : (⟨T.toArray⟩ : ByteArray).data.toList = T := rfl
      rw [hdt] at HCK
      generalize chk last T = C at *
      obtain ⟨T1, e1, n1, q1⟩ := cat_op (P := Tryd.prog) (itoa (C : Nat)) [32] (by omega) (by simp)
      simp only [List.length_cons, List.length_nil] at n1
      obtain ⟨T2, e2, n2, q2⟩ := cat_op (P := Tryd.prog) T1 T (by omega) (by omega)
      obtain ⟨T3, e3, n3, q3⟩ := cat_op (P := Tryd.prog) T2 [10] (by omega) (by simp)
      simp only [List.length_cons, List.length_nil] at n3
      obtain ⟨T4, e4, n4, q4⟩ := cat_op (P := Tryd.prog) out T3 (by omega) (by omega)
      have HE : Hid (T4 = jrn 7 (ds.take (k + 1))) := Lib.hid (by rw [HS2.out, e4, e3, e2, e1]; simp)
      clear e1 e2 e3 e4 hdt
      go_wp2_with (fail)
      refine (aft_b htx2.out).mono ?_
      rintro e _ ⟨rfl, y, rfl⟩
      go_wp2_with (fail)
      refine (aft_q (HCK.out y)).mono ?_
      rintro e _ ⟨rfl, z, rfl⟩
      go_wp2_with (fail)
      refine (aft_b (dec1_any (C : Nat) z.val (by omega) (by omega))).mono ?_
      rintro e _ ⟨rfl, t, rfl⟩
      go_wp2
      go_roundw
      case rel => exact ⟨k + 1, t, by omega, by go_num, by rw [HE.out], by rw [HS1.out], rfl⟩
      case measure => simp [RowKit.intOf]; omega
    · have hge : ¬ (k : Int) < (n : Int) := by omega
      have hfin : ds.take k = ds := List.take_of_length_le (by omega)
      rw [hfin]
      clear hlt hfin
      go_wp2
      go_ret
      exact ⟨rfl, x.ok⟩
end Go.Proofs.YtedglaejieblhaaDoor

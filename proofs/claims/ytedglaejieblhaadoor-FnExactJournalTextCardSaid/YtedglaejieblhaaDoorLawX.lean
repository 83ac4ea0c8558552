/- The journal of the program, walked. -/
import Derived.Test.YtedglaejieblhaaDoorLawW
namespace Go.Proofs.YtedglaejieblhaaDoor
open Go.RowKit Go.Lib

theorem IsBuilder.below {T e : TypeId} {B b : Nat} {bs : List Value} {w w' : World} (h : Lib.IsBuilder T e B b bs w) (hb : Below w.heap.size w w') : Lib.IsBuilder T e B b bs w' := by
  have H : ∀ p, Lib.BuilderAt T e B b p bs w → Lib.BuilderAt T e B b p bs w' := by
    rintro p ⟨h1, v, h2, h3, h4⟩
    have hlt : b < w.heap.size := by
      rcases Nat.lt_or_ge b w.heap.size with hlt | hge
      · exact hlt
      · rw [Array.getElem?_eq_none hge] at h2; cases h2
    exact ⟨h1, v, by rw [hb.block b hlt]; exact h2, own_below h3 hb, h4⟩
  rcases h with h | h
  · exact .inl (H _ h)
  · exact .inr (H _ h)

theorem write_any (B b : Nat) (l : List UInt8) (t : List UInt8) (w : World) (h : Lib.IsBuilder 106 5 B b (Lib.byteCells l) w) (hl : l.length ≤ 1000000) (ht : t.length ≤ 1000000) (hB : B ≤ w.heap.size) :
    Calls Tryd.prog 78 #[.pointer (some ⟨b, 0, none⟩), .string ⟨t.toArray⟩] w fun e w' => e = .returned (.tuple #[.int .i64 t.length, .nilIface]) ∧ Lib.IsBuilder 106 5 B b (Lib.byteCells (l ++ t)) w' ∧ Below B w w' := by
  have hsz : (⟨t.toArray⟩ : ByteArray).size = t.length := by simp [ByteArray.size]
  have hbl : (Lib.byteCells l).length = l.length := by simp [Lib.byteCells]
  refine (Any.Builder_WriteString Tryd.lays166h Tryd.Builder_Extra_M154 B b (Lib.byteCells l) ⟨t.toArray⟩ w h (by rw [hbl, hsz]; omega) hB).mono ?_
  rintro e w' ⟨rfl, h1, h2⟩
  refine ⟨by rw [hsz], .inr ?_, h2⟩
  have : Lib.byteCells l ++ Lib.strCells ⟨t.toArray⟩ = Lib.byteCells (l ++ t) := by simp [Lib.byteCells, Lib.strCells]
  rw [← this]
  exact h1

set_option maxRecDepth 100000 in
set_option maxHeartbeats 4000000 in
theorem journal2_any (ds : List Deed) (A : Option Addr) (n c : Nat) (w : World) (h : Deeds w w.heap.size (.slice A n c) ds) (hok : okDeeds ds = true) (hE : Env w.heap.size w) :
    Calls Tryd.prog 40 #[.slice A n c] w (RetB (.string ⟨(jrn 7 ds).toArray⟩) w) := by
  obtain ⟨hn, hc, hm⟩ := slR_len h
  rw [okDeeds_iff] at hok
  obtain ⟨h40, hall⟩ := hok
  have HD := Lib.hid (SlR.aft h DeedR.stays (Nat.le_refl _))
  have HALL := Lib.hid hall
  have E := Lib.hid hE
  have hnl : n ≤ ds.length := by omega
  have hln : ds.length ≤ n := by omega
  have hn40 : n ≤ 40 := by omega
  clear h hn hall h40 hE
  go_enter Tryd.func40, Tryd.ntmps40
  go_wp2
  go_loopw [4, 12] (fun l i wr => ∃ k : Nat, k ≤ n ∧ i = .int .i64 (k : Int) ∧ l = .int .i64 ((jlast 7 (ds.take k) : Nat) : Int) ∧ Lib.IsBuilder 106 5 w.heap.size w.heap.size (Lib.byteCells (jrn 7 (ds.take k))) wr ∧ Below w.heap.size w wr) (fun _ i _ => n - (RowKit.intOf i).toNat)
  case atStart => exact ⟨0, Nat.zero_le _, rfl, rfl, .inl ⟨Nat.le_refl _, .slice none 0 0, heap_alloc_new w _, World.ownsRow_nil _ _ _ _, by simp [Value.ownBlock]⟩, (Below.refl _ _).alloc (Nat.le_refl _) _⟩
  case round =>
    obtain ⟨k, hk, rfl, rfl, hB, hb⟩ := hrel
    obtain ⟨x, rfl⟩ : ∃ x : Aft w, wr = x.val := ⟨⟨wr, hb⟩, rfl⟩
    have HB := Lib.hid hB
    clear hB
    by_cases hlt : k < n
    · have hget : ds[k]? = some ds[k] := List.getElem?_eq_getElem (by omega)
      obtain ⟨b, off, A1, c1, A2, c2, rfl, hb, hP⟩ := deeds_get (HD.out x) hget
      have hts : ds.take (k + 1) = ds.take k ++ [ds[k]] := by rw [List.take_succ_eq_append_getElem]
      have hok := HALL.out ds[k] (List.getElem_mem (by omega))
      have hjl := jrn_len (ds.take k) 7 (fun d hd => HALL.out d (List.mem_of_mem_take hd))
      rw [List.length_take] at hjl
      have hll := jlast_lt (ds.take k) 7 (by omega)
      generalize ds[k] = d at *
      have HS1 : Hid (jlast 7 (ds.take (k + 1)) = chk (jlast 7 (ds.take k)) (deedText d)) := Lib.hid (by rw [hts, jlast_snoc])
      have HS2 : Hid (jrn 7 (ds.take (k + 1)) = jrn 7 (ds.take k) ++ (itoa (chk (jlast 7 (ds.take k)) (deedText d) : Nat) ++ 32 :: (deedText d ++ [10]))) := Lib.hid (by rw [hts, jrn_snoc])
      generalize jrn 7 (ds.take k) = out at *
      generalize jlast 7 (ds.take k) = last at *
      have htl := deedText_len hok
      have hcl := chk_lt last (deedText d)
      have HCK := Lib.hid (fun (W : World) => check2_any last ⟨(deedText d).toArray⟩ W hll (by simp [ByteArray.size]; omega))
      have il := itoa_length_le (chk last (deedText d) : Nat) (by omega) (by omega)
      obtain ⟨T, hT⟩ : ∃ T, T = deedText d := ⟨_, rfl⟩
      have bx : ∀ o, Below x.val.heap.size x.val (x.val.alloc o) := fun o => (Below.refl _ _).alloc (Nat.le_refl _) _
      have HTX : Hid (∀ o, Calls Tryd.prog 9 #[.agg #[.int .i64 d.kind, .int .i64 d.member, .slice A1 d.trust.length c1, .string d.title, .int .i64 d.vote, .slice A2 d.patch.length c2, .int .i64 d.start, .int .i64 d.until_, .int .i64 d.closes]] (x.val.alloc o) (RetB (.tuple #[.string ⟨T.toArray⟩, .bool true]) (x.val.alloc o))) := Lib.hid (fun o => by
        have hh := deedText2_any d A1 c1 A2 c2 (x.val.alloc o) (hP.ints.on (Pl.stays _) (bx o) (bx o).size) (hP.edits.on (Pl.stays _) (bx o) (bx o).size) hP.sizes hP.title (env_more (E.out.on (x.ok.trans ((bx o).mono x.ok.size))) (Nat.le_trans x.ok.size (bx o).size))
        rw [deedOut_ok hok, hok, ← hT] at hh
        exact hh)
      rw [← hT] at htl HS1 HS2 HCK il hcl
      have z0 := hP.k0
      have z1 := hP.k1
      have z2 := hP.k2
      have z3 := hP.k3
      have z4 := hP.k4
      have z5 := hP.k5
      have z6 := hP.k6
      have z7 := hP.k7
      have z8 := hP.k8
      have HX := Lib.hid (fun o => x.ok.trans ((bx o).mono x.ok.size))
      have HBX := Lib.hid bx
      clear hT hP hok hts hget bx
      rw [show (⟨T.toArray⟩ : ByteArray).data.toList = T from rfl] at HCK
      generalize chk last T = C at *
      obtain ⟨T1, e1, n1, q1⟩ := cat_op (P := Tryd.prog) (itoa (C : Nat)) [32] (by omega) (by simp)
      simp only [List.length_cons, List.length_nil] at n1
      obtain ⟨T2, e2, n2, q2⟩ := cat_op (P := Tryd.prog) T1 T (by omega) (by omega)
      obtain ⟨T3, e3, n3, q3⟩ := cat_op (P := Tryd.prog) T2 [10] (by omega) (by simp)
      simp only [List.length_cons, List.length_nil] at n3
      have HEQ : Hid (out ++ T3 = jrn 7 (ds.take (k + 1))) := Lib.hid (by rw [HS2.out, e3, e2, e1]; simp)
      have ol : out.length ≤ 1000000 := by omega
      have tl : T3.length ≤ 1000000 := by omega
      clear e1 e2 e3
      go_wp2_with (fail)
      refine (HTX.out _).mono ?_
      rintro e w1 ⟨rfl, hb1⟩
      have hbw1 := (HX.out _).trans (hb1.mono (HX.out _).size)
      have HB1 := Lib.hid (IsBuilder.below HB.out ((HBX.out _).trans (hb1.mono (HBX.out _).size)))
      clear z0 z1 z2 z3 z4 z5 z6 z7 z8 hb1
      go_wp2_with (fail)
      refine (HCK.out _).mono ?_
      rintro e w2 ⟨rfl, m, rfl⟩
      go_wp2_with (fail)
      refine (decimal_any w.heap.size (C : Nat) _ (E.out.on (below_drewN hbw1 m)) (by omega) (by omega)).mono ?_
      rintro e w3 ⟨rfl, hb3⟩
      have hbw3 := (below_drewN hbw1 m).trans (hb3.mono hbw1.size)
      have HB3 := Lib.hid (IsBuilder.below (IsBuilder.below HB1.out (below_drewN (Below.refl _ _) m)) hb3)
      clear hb3 hbw1
      go_wp2_with (fail)
      refine (write_any w.heap.size w.heap.size out T3 _ HB3.out ol tl hbw3.size).mono ?_
      rintro e w4 ⟨rfl, h1, h2⟩
      have HB4 := Lib.hid h1
      have hbw4 := hbw3.trans h2
      clear h1 h2
      go_wp2
      go_roundw
      case rel => exact ⟨k + 1, by omega, by go_num, by rw [HS1.out], by rw [← HEQ.out]; exact HB4.out, hbw4⟩
      case measure => simp [RowKit.intOf]; omega
    · have hge : ¬ (k : Int) < (n : Int) := by omega
      have hfin : ds.take k = ds := List.take_of_length_le (by omega)
      rw [hfin] at HB
      clear hlt hfin
      go_wp2_with (fail)
      refine (Tryd.Builder_String_any w.heap.size w.heap.size (jrn 7 ds) _ HB.out x.ok.size).mono ?_
      rintro e w4 ⟨rfl, h2⟩
      have hbw4 := x.ok.trans h2
      go_wp2
      go_ret
      exact ⟨rfl, hbw4⟩

def jrnOut (ds : List Deed) : List UInt8 := if okDeeds ds = true then jrn 7 ds else []
theorem jrnOut_no {ds : List Deed} (h : okDeeds ds = false) : jrnOut ds = [] := by unfold jrnOut; rw [if_neg (by rw [h]; simp)]
theorem jrnOut_ok {ds : List Deed} (h : okDeeds ds = true) : jrnOut ds = jrn 7 ds := by unfold jrnOut; rw [if_pos h]

set_option maxHeartbeats 1000000 in
theorem journalText2_any (ds : List Deed) (A : Option Addr) (n c : Nat) (w : World) (h : Deeds w w.heap.size (.slice A n c) ds) (hE : Env w.heap.size w) :
    Calls Tryd.prog 14 #[.slice A n c] w (RetB (.tuple #[.string ⟨(jrnOut ds).toArray⟩, .bool (okDeeds ds)]) w) := by
  have HD := Lib.hid (SlR.aft h DeedR.stays (Nat.le_refl _))
  have E := Lib.hid hE
  clear h hE
  refine calls_aft fun x0 => ?_
  go_enter Tryd.func14, Tryd.ntmps14
  go_wp2_with (fail)
  refine (aft_b (areDeeds2_any ds A n c _ (HD.out _))).mono ?_
  rintro e _ ⟨rfl, x, rfl⟩
  cases hok : okDeeds ds with
  | false =>
    have HO := Lib.hid hok
    clear hok
    go_wp2
    go_ret2
    exact ⟨by rw [jrnOut_no HO.out, HO.out]; rfl, x.ok⟩
  | true =>
    have HO := Lib.hid hok
    clear hok
    go_wp2_with (fail)
    refine (aft_b (journal2_any ds A n c _ (HD.out _) HO.out (env_more (E.out.on x.ok) x.ok.size))).mono ?_
    rintro e _ ⟨rfl, y, rfl⟩
    go_wp2
    go_ret2
    exact ⟨by rw [jrnOut_ok HO.out, HO.out]; rfl, y.ok⟩

set_option maxHeartbeats 1000000 in
theorem journalText1_any (ds : List Deed) (A : Option Addr) (n c : Nat) (w : World) (h : Deeds w w.heap.size (.slice A n c) ds) :
    Calls Tryd.prog 12 #[.slice A n c] w (RetB (.tuple #[.string ⟨(jrnOut ds).toArray⟩, .bool (okDeeds ds)]) w) := by
  have HD := Lib.hid (SlR.aft h DeedR.stays (Nat.le_refl _))
  clear h
  refine calls_aft fun x0 => ?_
  go_enter Tryd.func12, Tryd.ntmps12
  go_wp2_with (fail)
  refine (aft_b (areDeeds1_any ds A n c _ (HD.out _))).mono ?_
  rintro e _ ⟨rfl, x, rfl⟩
  cases hok : okDeeds ds with
  | false =>
    have HO := Lib.hid hok
    clear hok
    go_wp2
    go_ret2
    exact ⟨by rw [jrnOut_no HO.out, HO.out]; rfl, x.ok⟩
  | true =>
    have HO := Lib.hid hok
    clear hok
    go_wp2_with (fail)
    refine (aft_b (journal1_any ds A n c _ (HD.out _) HO.out)).mono ?_
    rintro e _ ⟨rfl, y, rfl⟩
    go_wp2
    go_ret2
    exact ⟨by rw [jrnOut_ok HO.out, HO.out]; rfl, y.ok⟩
end Go.Proofs.YtedglaejieblhaaDoor

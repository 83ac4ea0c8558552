/- The journals of both sides, walked. (The rows are LawW's and LawX's.) Journals read, as a plain function; deeds of the call's own in memory. The reference's reader of a journal, walked. The program's reader of a journal, walked. Journals read and undone, walked: both sides; FnExactUndoLast's law. -/
import Derived.Test.YthlfpiflegfoiaaGreatDoorLawV
import Derived.Test.YthlfpiflegfoiaaGreatDoorShelfB
import Derived.Test.YthlfpiflegfoiaaGreatDoorRI
import Derived.Maps.AppendAt
import Derived.Test.YthlfpiflegfoiaaGreatDoorRHv
import Derived.Test.YthlfpiflegfoiaaGreatDoorRHn
import Derived.Test.YthlfpiflegfoiaaGreatDoorRHp
import Derived.Test.YthlfpiflegfoiaaGreatDoorRK
namespace Go.Proofs.YthlfpiflegfoiaaGreatDoor
open Go.RowKit Go.Lib

set_option maxRecDepth 100000 in
set_option maxHeartbeats 2000000 in
theorem journal1_any (ds : List Deed) (A : Option Addr) (n c : Nat) (w : World) (h : Deeds w w.heap.size (.slice A n c) ds) (hok : okDeeds ds = true) :
    Calls Tryz.prog 26 #[.slice A n c] w (RetB (.string ⟨(jrn 7 ds).toArray⟩) w) := by
  obtain ⟨hn, hc, hm⟩ := slR_len h
  rw [okDeeds_iff] at hok
  obtain ⟨h40, hall⟩ := hok
  have HD := Lib.hid (SlR.aft h DeedR.stays (Nat.le_refl _))
  have HALL := Lib.hid hall
  have hnl : n ≤ ds.length := by omega
  have hln : ds.length ≤ n := by omega
  have hn40 : n ≤ 40 := by omega
  clear h hn hall h40
  refine calls_aft fun x0 => ?_
  go_enter Tryz.func26, Tryz.ntmps26
  go_wp2
  go_loopw [3, 4, 5] (fun o l i wr => ∃ (k : Nat) (x : Aft w), k ≤ n ∧ i = .int .i64 (k : Int) ∧ o = .string ⟨(jrn 7 (ds.take k)).toArray⟩ ∧ l = .int .i64 ((jlast 7 (ds.take k) : Nat) : Int) ∧ wr = x.val) (fun _ _ i _ => n - (RowKit.intOf i).toNat)
  case atStart => exact ⟨0, x0, Nat.zero_le _, rfl, rfl, rfl, rfl⟩
  case round =>
    obtain ⟨k, x, hk, rfl, rfl, rfl, rfl⟩ := hrel
    by_cases hlt : k < n
    · have hget : ds[k]? = some ds[k] := List.getElem?_eq_getElem (by omega)
      obtain ⟨b, off, A1, c1, A2, c2, rfl, hb, hP⟩ := deeds_get (HD.out x) hget
      have hts : ds.take (k + 1) = ds.take k ++ [ds[k]] := by rw [List.take_succ_eq_append_getElem]
      have hok := HALL.out ds[k] (List.getElem_mem (by omega))
      have hjl := jrn_len (ds.take k) 7 (fun d hd => HALL.out d (List.mem_of_mem_take hd))
      rw [List.length_take] at hjl
      have hll := jlast_lt (ds.take k) 7 (by omega)
      generalize ds[k] = d at *
      have HS1 : Hid (jlast 7 (ds.take (k + 1)) = chk (jlast 7 (ds.take k)) (deedText d)) := Lib.hid (by rw [hts, jlast_snoc])
      have HS2 : Hid (jrn 7 (ds.take (k + 1)) = jrn 7 (ds.take k) ++ (itoa (chk (jlast 7 (ds.take k)) (deedText d) : Nat) ++ 32 :: (deedText d ++ [10]))) := Lib.hid (by rw [hts, jrn_snoc])
      generalize jrn 7 (ds.take k) = out at *
      generalize jlast 7 (ds.take k) = last at *
      have htl := deedText_len hok
      have hcl := chk_lt last (deedText d)
      have HCK := Lib.hid (fun (y : Aft w) => check1_any last ⟨(deedText d).toArray⟩ y.val hll (by simp [ByteArray.size]; omega))
      have il := itoa_length_le (chk last (deedText d) : Nat) (by omega) (by omega)
      have HP := Lib.hid hP
      have HOK := Lib.hid hok
      have htx : ∃ T, T = deedText d := ⟨_, rfl⟩
      obtain ⟨T, hT⟩ := htx
      have HTX := Lib.hid (fun y : Aft w => text1_any d b (off + k * 9) A1 c1 A2 c2 x.val hP hok)
      rw [← hT] at htl HS1 HS2 HCK il hcl
      have htx2 : Hid (Calls Tryz.prog 41 #[.pointer (some ⟨b, off + k * 9, none⟩)] x.val (RetB (.string ⟨T.toArray⟩) x.val)) := Lib.hid (by rw [hT]; exact text1_any d b (off + k * 9) A1 c1 A2 c2 x.val hP hok)
      clear HTX hT hP hok hts hget
      have hdt : (⟨T.toArray⟩ : ByteArray).data.toList = T := rfl
      rw [hdt] at HCK
      generalize chk last T = C at *
      obtain ⟨T1, e1, n1, q1⟩ := cat_op (P := Tryz.prog) (itoa (C : Nat)) [32] (by omega) (by simp)
      simp only [List.length_cons, List.length_nil] at n1
      obtain ⟨T2, e2, n2, q2⟩ := cat_op (P := Tryz.prog) T1 T (by omega) (by omega)
      obtain ⟨T3, e3, n3, q3⟩ := cat_op (P := Tryz.prog) T2 [10] (by omega) (by simp)
      simp only [List.length_cons, List.length_nil] at n3
      obtain ⟨T4, e4, n4, q4⟩ := cat_op (P := Tryz.prog) out T3 (by omega) (by omega)
      have HE : Hid (T4 = jrn 7 (ds.take (k + 1))) := Lib.hid (by rw [HS2.out, e4, e3, e2, e1]; simp)
      clear e1 e2 e3 e4 hdt
      go_wp2_with (fail)
      refine (aft_b htx2.out).mono ?_
      rintro e _ ⟨rfl, y, rfl⟩
      go_wp2_with (fail)
      refine (aft_q (HCK.out y)).mono ?_
      rintro e _ ⟨rfl, z, rfl⟩
      go_wp2_with (fail)
      refine (aft_b (dec1_any (C : Nat) z.val (by omega) (by omega))).mono ?_
      rintro e _ ⟨rfl, t, rfl⟩
      go_wp2
      go_roundw
      case rel => exact ⟨k + 1, t, by omega, by go_num, by rw [HE.out], by rw [HS1.out], rfl⟩
      case measure => simp [RowKit.intOf]; omega
    · have hge : ¬ (k : Int) < (n : Int) := by omega
      have hfin : ds.take k = ds := List.take_of_length_le (by omega)
      rw [hfin]
      clear hlt hfin
      go_wp2
      go_ret
      exact ⟨rfl, x.ok⟩
theorem IsBuilder.below {T e : TypeId} {B b : Nat} {bs : List Value} {w w' : World} (h : Lib.IsBuilder T e B b bs w) (hb : Below w.heap.size w w') : Lib.IsBuilder T e B b bs w' := by
  have H : ∀ p, Lib.BuilderAt T e B b p bs w → Lib.BuilderAt T e B b p bs w' := by
    rintro p ⟨h1, v, h2, h3, h4⟩
    have hlt : b < w.heap.size := by
      rcases Nat.lt_or_ge b w.heap.size with hlt | hge
      · exact hlt
      · rw [Array.getElem?_eq_none hge] at h2; cases h2
    exact ⟨h1, v, by rw [hb.block b hlt]; exact h2, own_below h3 hb, h4⟩
  rcases h with h | h
  · exact .inl (H _ h)
  · exact .inr (H _ h)

theorem write_any (B b : Nat) (l : List UInt8) (t : List UInt8) (w : World) (h : Lib.IsBuilder 46 5 B b (Lib.byteCells l) w) (hl : l.length ≤ 1000000) (ht : t.length ≤ 1000000) (hB : B ≤ w.heap.size) :
    Calls Tryz.prog 29 #[.pointer (some ⟨b, 0, none⟩), .string ⟨t.toArray⟩] w fun e w' => e = .returned (.tuple #[.int .i64 t.length, .nilIface]) ∧ Lib.IsBuilder 46 5 B b (Lib.byteCells (l ++ t)) w' ∧ Below B w w' := by
  have hsz : (⟨t.toArray⟩ : ByteArray).size = t.length := by simp [ByteArray.size]
  have hbl : (Lib.byteCells l).length = l.length := by simp [Lib.byteCells]
  refine (Any.Builder_WriteString Tryz.lays166h Tryz.Builder_Extra_M154 B b (Lib.byteCells l) ⟨t.toArray⟩ w h (by rw [hbl, hsz]; omega) hB).mono ?_
  rintro e w' ⟨rfl, h1, h2⟩
  refine ⟨by rw [hsz], .inr ?_, h2⟩
  have : Lib.byteCells l ++ Lib.strCells ⟨t.toArray⟩ = Lib.byteCells (l ++ t) := by simp [Lib.byteCells, Lib.strCells]
  rw [← this]
  exact h1

set_option maxRecDepth 100000 in
set_option maxHeartbeats 4000000 in
theorem journal2_any (ds : List Deed) (A : Option Addr) (n c : Nat) (w : World) (h : Deeds w w.heap.size (.slice A n c) ds) (hok : okDeeds ds = true) (hE : Env w.heap.size w) :
    Calls Tryz.prog 16 #[.slice A n c] w (RetB (.string ⟨(jrn 7 ds).toArray⟩) w) := by
  obtain ⟨hn, hc, hm⟩ := slR_len h
  rw [okDeeds_iff] at hok
  obtain ⟨h40, hall⟩ := hok
  have HD := Lib.hid (SlR.aft h DeedR.stays (Nat.le_refl _))
  have HALL := Lib.hid hall
  have E := Lib.hid hE
  have hnl : n ≤ ds.length := by omega
  have hln : ds.length ≤ n := by omega
  have hn40 : n ≤ 40 := by omega
  clear h hn hall h40 hE
  go_enter Tryz.func16, Tryz.ntmps16
  go_wp2
  go_loopw [4, 12] (fun l i wr => ∃ k : Nat, k ≤ n ∧ i = .int .i64 (k : Int) ∧ l = .int .i64 ((jlast 7 (ds.take k) : Nat) : Int) ∧ Lib.IsBuilder 46 5 w.heap.size w.heap.size (Lib.byteCells (jrn 7 (ds.take k))) wr ∧ Below w.heap.size w wr) (fun _ i _ => n - (RowKit.intOf i).toNat)
  case atStart => exact ⟨0, Nat.zero_le _, rfl, rfl, .inl ⟨Nat.le_refl _, .slice none 0 0, heap_alloc_new w _, World.ownsRow_nil _ _ _ _, by simp [Value.ownBlock]⟩, (Below.refl _ _).alloc (Nat.le_refl _) _⟩
  case round =>
    obtain ⟨k, hk, rfl, rfl, hB, hb⟩ := hrel
    obtain ⟨x, rfl⟩ : ∃ x : Aft w, wr = x.val := ⟨⟨wr, hb⟩, rfl⟩
    have HB := Lib.hid hB
    clear hB
    by_cases hlt : k < n
    · have hget : ds[k]? = some ds[k] := List.getElem?_eq_getElem (by omega)
      obtain ⟨b, off, A1, c1, A2, c2, rfl, hb, hP⟩ := deeds_get (HD.out x) hget
      have hts : ds.take (k + 1) = ds.take k ++ [ds[k]] := by rw [List.take_succ_eq_append_getElem]
      have hok := HALL.out ds[k] (List.getElem_mem (by omega))
      have hjl := jrn_len (ds.take k) 7 (fun d hd => HALL.out d (List.mem_of_mem_take hd))
      rw [List.length_take] at hjl
      have hll := jlast_lt (ds.take k) 7 (by omega)
      generalize ds[k] = d at *
      have HS1 : Hid (jlast 7 (ds.take (k + 1)) = chk (jlast 7 (ds.take k)) (deedText d)) := Lib.hid (by rw [hts, jlast_snoc])
      have HS2 : Hid (jrn 7 (ds.take (k + 1)) = jrn 7 (ds.take k) ++ (itoa (chk (jlast 7 (ds.take k)) (deedText d) : Nat) ++ 32 :: (deedText d ++ [10]))) := Lib.hid (by rw [hts, jrn_snoc])
      generalize jrn 7 (ds.take k) = out at *
      generalize jlast 7 (ds.take k) = last at *
      have htl := deedText_len hok
      have hcl := chk_lt last (deedText d)
      have HCK := Lib.hid (fun (W : World) => check2_any last ⟨(deedText d).toArray⟩ W hll (by simp [ByteArray.size]; omega))
      have il := itoa_length_le (chk last (deedText d) : Nat) (by omega) (by omega)
      obtain ⟨T, hT⟩ : ∃ T, T = deedText d := ⟨_, rfl⟩
      have bx : ∀ o, Below x.val.heap.size x.val (x.val.alloc o) := fun o => (Below.refl _ _).alloc (Nat.le_refl _) _
      have HTX : Hid (∀ o, Calls Tryz.prog 27 #[.agg #[.int .i64 d.kind, .int .i64 d.member, .slice A1 d.trust.length c1, .string d.title, .int .i64 d.vote, .slice A2 d.patch.length c2, .int .i64 d.start, .int .i64 d.until_, .int .i64 d.closes]] (x.val.alloc o) (RetB (.tuple #[.string ⟨T.toArray⟩, .bool true]) (x.val.alloc o))) := Lib.hid (fun o => by
        have hh := deedText2_any d A1 c1 A2 c2 (x.val.alloc o) (hP.ints.on (Pl.stays _) (bx o) (bx o).size) (hP.edits.on (Pl.stays _) (bx o) (bx o).size) hP.sizes hP.title (env_more (E.out.on (x.ok.trans ((bx o).mono x.ok.size))) (Nat.le_trans x.ok.size (bx o).size))
        rw [deedOut_ok hok, hok, ← hT] at hh
        exact hh)
      rw [← hT] at htl HS1 HS2 HCK il hcl
      have z0 := hP.k0
      have z1 := hP.k1
      have z2 := hP.k2
      have z3 := hP.k3
      have z4 := hP.k4
      have z5 := hP.k5
      have z6 := hP.k6
      have z7 := hP.k7
      have z8 := hP.k8
      have HX := Lib.hid (fun o => x.ok.trans ((bx o).mono x.ok.size))
      have HBX := Lib.hid bx
      clear hT hP hok hts hget bx
      rw [show (⟨T.toArray⟩ : ByteArray).data.toList = T from rfl] at HCK
      generalize chk last T = C at *
      obtain ⟨T1, e1, n1, q1⟩ := cat_op (P := Tryz.prog) (itoa (C : Nat)) [32] (by omega) (by simp)
      simp only [List.length_cons, List.length_nil] at n1
      obtain ⟨T2, e2, n2, q2⟩ := cat_op (P := Tryz.prog) T1 T (by omega) (by omega)
      obtain ⟨T3, e3, n3, q3⟩ := cat_op (P := Tryz.prog) T2 [10] (by omega) (by simp)
      simp only [List.length_cons, List.length_nil] at n3
      have HEQ : Hid (out ++ T3 = jrn 7 (ds.take (k + 1))) := Lib.hid (by rw [HS2.out, e3, e2, e1]; simp)
      have ol : out.length ≤ 1000000 := by omega
      have tl : T3.length ≤ 1000000 := by omega
      clear e1 e2 e3
      go_wp2_with (fail)
      refine (HTX.out _).mono ?_
      rintro e w1 ⟨rfl, hb1⟩
      have hbw1 := (HX.out _).trans (hb1.mono (HX.out _).size)
      have HB1 := Lib.hid (IsBuilder.below HB.out ((HBX.out _).trans (hb1.mono (HBX.out _).size)))
      clear z0 z1 z2 z3 z4 z5 z6 z7 z8 hb1
      go_wp2_with (fail)
      refine (HCK.out _).mono ?_
      rintro e w2 ⟨rfl, m, rfl⟩
      go_wp2_with (fail)
      refine (decimal_any w.heap.size (C : Nat) _ (E.out.on (below_drewN hbw1 m)) (by omega) (by omega)).mono ?_
      rintro e w3 ⟨rfl, hb3⟩
      have hbw3 := (below_drewN hbw1 m).trans (hb3.mono hbw1.size)
      have HB3 := Lib.hid (IsBuilder.below (IsBuilder.below HB1.out (below_drewN (Below.refl _ _) m)) hb3)
      clear hb3 hbw1
      go_wp2_with (fail)
      refine (write_any w.heap.size w.heap.size out T3 _ HB3.out ol tl hbw3.size).mono ?_
      rintro e w4 ⟨rfl, h1, h2⟩
      have HB4 := Lib.hid h1
      have hbw4 := hbw3.trans h2
      clear h1 h2
      go_wp2
      go_roundw
      case rel => exact ⟨k + 1, by omega, by go_num, by rw [HS1.out], by rw [← HEQ.out]; exact HB4.out, hbw4⟩
      case measure => simp [RowKit.intOf]; omega
    · have hge : ¬ (k : Int) < (n : Int) := by omega
      have hfin : ds.take k = ds := List.take_of_length_le (by omega)
      rw [hfin] at HB
      clear hlt hfin
      go_wp2_with (fail)
      refine (Tryz.Builder_String_any w.heap.size w.heap.size (jrn 7 ds) _ HB.out x.ok.size).mono ?_
      rintro e w4 ⟨rfl, h2⟩
      have hbw4 := x.ok.trans h2
      go_wp2
      go_ret
      exact ⟨rfl, hbw4⟩

end Go.Proofs.YthlfpiflegfoiaaGreatDoor

namespace Go.Proofs.YthlfpiflegfoiaaGreatDoor
open Go.RowKit Go.Lib

/-- The deeds at the beginning of a journal's lines, and the length of what they take. -/
noncomputable def recs : Nat → Nat → List (List UInt8) → List Deed × Nat
  | _, _, [] => ([], 0)
  | last, k, l :: ls =>
    open Classical in
    if (deedOf (cutL 32 l).2).isSome = true ∧ (cutL 32 l).1 = itoa (chk last (cutL 32 l).2 : Nat) ∧ k < 40 then
      ((deedOf (cutL 32 l).2).getD zeroDeed :: (recs (chk last (cutL 32 l).2) (k + 1) ls).1, l.length + 1 + (recs (chk last (cutL 32 l).2) (k + 1) ls).2)
    else ([], 0)
theorem recs_go {last k : Nat} {l : List UInt8} {ls : List (List UInt8)} (h1 : (deedOf (cutL 32 l).2).isSome = true) (h2 : (cutL 32 l).1 = itoa (chk last (cutL 32 l).2 : Nat)) (h3 : k < 40) :
    recs last k (l :: ls) = ((deedOf (cutL 32 l).2).getD zeroDeed :: (recs (chk last (cutL 32 l).2) (k + 1) ls).1, l.length + 1 + (recs (chk last (cutL 32 l).2) (k + 1) ls).2) := by
  rw [recs, if_pos ⟨h1, h2, h3⟩]
theorem recs_stop {last k : Nat} {l : List UInt8} {ls : List (List UInt8)} (h : ¬ ((deedOf (cutL 32 l).2).isSome = true ∧ (cutL 32 l).1 = itoa (chk last (cutL 32 l).2 : Nat) ∧ k < 40)) : recs last k (l :: ls) = ([], 0) := by
  rw [recs, if_neg h]
theorem recs_full {last k : Nat} {ls : List (List UInt8)} (h : 40 ≤ k) : recs last k ls = ([], 0) := by
  cases ls with
  | nil => rfl
  | cons l ls => exact recs_stop (fun ⟨_, _, h3⟩ => by omega)
theorem recs_ok : ∀ (ls : List (List UInt8)) (last k : Nat), ∀ d ∈ (recs last k ls).1, okDeed d = true
  | [], _, _, d, h => by cases h
  | l :: ls, last, k, d, h => by
    by_cases hc : (deedOf (cutL 32 l).2).isSome = true ∧ (cutL 32 l).1 = itoa (chk last (cutL 32 l).2 : Nat) ∧ k < 40
    · rw [recs_go hc.1 hc.2.1 hc.2.2] at h
      rcases List.mem_cons.1 h with rfl | h
      · cases hd : deedOf (cutL 32 l).2 with
        | none => rw [hd] at hc; cases hc.1
        | some x => exact (inv_some hd).1
      · exact recs_ok ls _ _ d h
    · rw [recs_stop hc] at h
      cases h
theorem recs_len : ∀ (ls : List (List UInt8)) (last k : Nat), (recs last k ls).1.length + k ≤ max 40 k
  | [], _, _ => by simp [recs]; omega
  | l :: ls, last, k => by
    by_cases hc : (deedOf (cutL 32 l).2).isSome = true ∧ (cutL 32 l).1 = itoa (chk last (cutL 32 l).2 : Nat) ∧ k < 40
    · have := recs_len ls (chk last (cutL 32 l).2) (k + 1)
      rw [recs_go hc.1 hc.2.1 hc.2.2, List.length_cons]
      have := hc.2.2
      omega
    · rw [recs_stop hc]
      simp
      omega
noncomputable def recT (t : List UInt8) : List Deed × Nat := recs 7 0 (splitC 10 t).dropLast

theorem Row.same' {W W' : World} {g : Nat} {L : List Value} (h : Row W g L) (e : W'.heap[g]? = W.heap[g]?) : Row W' g L :=
  ⟨fun j u hj => (World.cell?_of_block (a := ⟨g, j, none⟩) e).trans (h.cell j u hj), fun j hj => (World.frozen?_of_block (a := ⟨g, j, none⟩) e).trans (h.free j hj)⟩
/-- A deed and where its rows lie. -/
structure Dq where
  d : Deed
  A1 : Option Addr
  c1 : Nat
  A2 : Option Addr
  c2 : Nat
def Dq.cells (q : Dq) : List Value := deedCs q.d q.A1 q.c1 q.A2 q.c2
def Dq.blocks (q : Dq) (g : Nat) : Prop := (q.d.trust ≠ [] ∧ ∃ o, q.A1 = some ⟨g, o, none⟩) ∨ (q.d.patch ≠ [] ∧ ∃ o, q.A2 = some ⟨g, o, none⟩)
structure Inn (base : Nat) (w : World) (q : Dq) : Prop where
  o1 : OwnL intCells q.d.trust base w (.slice q.A1 q.d.trust.length q.c1)
  o2 : OwnL editCells q.d.patch base w (.slice q.A2 q.d.patch.length q.c2)
  one : q.d.trust = [] ∨ q.d.patch = []
  t4 : q.d.trust.length ≤ 4
  p16 : q.d.patch.length ≤ 16
  sz : SizesOk q.d.patch
  ti : q.d.title.size ≤ maxLen
theorem Inn.below {base : Nat} {w w' : World} {q : Dq} (h : Inn base w q) (hb : Below w.heap.size w w') : Inn base w' q := ⟨h.o1.on hb, h.o2.on hb, h.one, h.t4, h.p16, h.sz, h.ti⟩
theorem OwnL.grown {α : Type} {f : α → List Value} {xs : List α} {base : Nat} {w w' : World} {v : Value} {r : Option Nat} (h : OwnL f xs base w v) (hg : w.grownBy w' r) (hr : xs ≠ [] → ∀ g, v.ownBlock = some g → r ≠ some g) : OwnL f xs base w' v := by
  obtain ⟨A, c, rfl, h1, h2, h3⟩ := h
  refine ⟨A, c, rfl, h1, h2, fun h0 => ?_⟩
  obtain ⟨g, rfl, hgb, hlt, hR⟩ := h3 h0
  exact ⟨g, rfl, hgb, Nat.lt_of_lt_of_le hlt hg.size, hR.same' (hg.block g hlt (fun e => hr h0 g rfl e.symm))⟩
theorem Inn.grown {base : Nat} {w w' : World} {q : Dq} {r : Option Nat} (h : Inn base w q) (hg : w.grownBy w' r) (hr : ∀ g, q.blocks g → r ≠ some g) : Inn base w' q := by
  refine ⟨h.o1.grown hg (fun h0 g hb => hr g (.inl ⟨h0, ?_⟩)), h.o2.grown hg (fun h0 g hb => hr g (.inr ⟨h0, ?_⟩)), h.one, h.t4, h.p16, h.sz, h.ti⟩
  · obtain ⟨A, c, hv, _, _, h3⟩ := h.o1
    injection hv with e1 e2 e3
    obtain ⟨g', hA, _⟩ := h3 h0
    rw [e1, hA] at hb ⊢
    injection hb with hb
    have : g' = g := hb
    rw [this]
    exact ⟨0, rfl⟩
  · obtain ⟨A, c, hv, _, _, h3⟩ := h.o2
    injection hv with e1 e2 e3
    obtain ⟨g', hA, _⟩ := h3 h0
    rw [e1, hA] at hb ⊢
    injection hb with hb
    have : g' = g := hb
    rw [this]
    exact ⟨0, rfl⟩
theorem Inn.lt {base : Nat} {w : World} {q : Dq} (h : Inn base w q) {g : Nat} (hb : q.blocks g) : base ≤ g ∧ g < w.heap.size := by
  rcases hb with ⟨h0, o, hA⟩ | ⟨h0, o, hA⟩
  · obtain ⟨A, c, hv, _, _, h3⟩ := h.o1
    injection hv with e1 e2 e3
    obtain ⟨g', hA', h5, h6, _⟩ := h3 h0
    rw [e1, hA'] at hA
    injection hA with hA
    injection hA with e4 _
    omega
  · obtain ⟨A, c, hv, _, _, h3⟩ := h.o2
    injection hv with e1 e2 e3
    obtain ⟨g', hA', h5, h6, _⟩ := h3 h0
    rw [e1, hA'] at hA
    injection hA with hA
    injection hA with e4 _
    omega

/-- A slice of deeds of the call's own: its row, the deeds' rows, all in blocks of their own. -/
structure DsOwn (base : Nat) (w : World) (v : Value) (qs : List Dq) : Prop where
  row : w.ownsRow base 39 9 v qs.length (qs.flatMap Dq.cells)
  inn : ∀ q ∈ qs, Inn base w q
  out : ∀ q ∈ qs, ∀ g, q.blocks g → v.ownBlock ≠ some g
  prs : qs.Pairwise fun p q => ∀ g h, p.blocks g → q.blocks h → g < h
theorem DsOwn.below {base : Nat} {w w' : World} {v : Value} {qs : List Dq} (h : DsOwn base w v qs) (hb : Below w.heap.size w w') : DsOwn base w' v qs :=
  ⟨own_below h.row hb, fun q hq => (h.inn q hq).below hb, h.out, h.prs⟩
/-- One deed more. -/
theorem DsOwn.push {base : Nat} {w0 w w' : World} {v v' : Value} {qs : List Dq} {q : Dq} (h : DsOwn base w v qs) (hb0 : base ≤ w0.heap.size) (hq : Inn w0.heap.size w q) (hlow : ∀ p ∈ qs, ∀ g, p.blocks g → g < w0.heap.size) (hov : ∀ g, v.ownBlock = some g → g < w0.heap.size)
    (hrow : w'.ownsRow base 39 9 v' (qs.length + 1) (qs.flatMap Dq.cells ++ q.cells)) (hg : w.grownBy w' v.ownBlock) (hat : v'.ownBlock = v.ownBlock ∨ v'.ownBlock = some w.heap.size) : DsOwn base w' v' (qs ++ [q]) := by
  have hqv : ∀ g, q.blocks g → v.ownBlock ≠ some g := fun g hbq e => by have := hov g e; have := (hq.lt hbq).1; omega
  refine ⟨by rw [List.length_append, flat_snoc]; exact hrow, fun p hp => ?_, fun p hp g hbp => ?_, ?_⟩
  · rcases List.mem_append.1 hp with hp | hp
    · exact (h.inn p hp).grown hg (fun g hbp => h.out p hp g hbp)
    · rw [List.mem_singleton] at hp
      subst hp
      have := hq.grown hg hqv
      exact ⟨this.o1.less hb0, this.o2.less hb0, this.one, this.t4, this.p16, this.sz, this.ti⟩
  · rcases hat with e | e
    · rw [e]
      rcases List.mem_append.1 hp with hp | hp
      · exact h.out p hp g hbp
      · rw [List.mem_singleton] at hp; subst hp; exact hqv g hbp
    · rw [e]
      intro e2
      injection e2 with e2
      rcases List.mem_append.1 hp with hp | hp
      · have := ((h.inn p hp).lt hbp).2; omega
      · rw [List.mem_singleton] at hp; subst hp; have := (hq.lt hbp).2; omega
  · rw [List.pairwise_append]
    refine ⟨h.prs, List.pairwise_singleton _ _, fun p hp x hx g k hbp hbx => ?_⟩
    rw [List.mem_singleton] at hx
    subst hx
    have := hlow p hp g hbp
    have := (hq.lt hbx).1
    omega
end Go.Proofs.YthlfpiflegfoiaaGreatDoor

namespace Go.Proofs.YthlfpiflegfoiaaGreatDoor
open Go.RowKit Go.Lib

theorem readDeed1_all (s : ByteArray) (w : World) (hs : s.size ≤ 1048576) : Calls Tryz.prog 33 #[.string s] w (DeedPost s.data.toList w) := by
  by_cases h1 : (cutL 32 s.data.toList).1 = [116, 114, 117, 115, 116]
  · exact readDeed1_trust s w hs h1
  · by_cases h2 : (cutL 32 s.data.toList).1 = [118, 111, 116, 101]
    · exact readDeed1_vote s w hs h2
    · by_cases h3 : (cutL 32 s.data.toList).1 = [112, 114, 111, 112, 111, 115, 101]
      · exact readDeed1_propose s w hs h3
      · by_cases h4 : (cutL 32 s.data.toList).1 = [110, 101, 120, 116]
        · exact readDeed1_next s w hs h4
        · exact readDeed1_none s w hs h1 h2 h3 h4

theorem jl_step {t : List UInt8} {fr k : Nat} (hf : fr ≤ k) (hk : k < t.length) (hc : t[k] = 10) (hno : (10 : UInt8) ∉ (t.take k).drop fr) : (splitC 10 (t.drop fr)).dropLast = (t.take k).drop fr :: (splitC 10 (t.drop (k + 1))).dropLast := by
  have e : t.drop fr = (t.take k).drop fr ++ 10 :: t.drop (k + 1) := by
    have h1 : t = t.take k ++ (t[k] :: t.drop (k + 1)) := by rw [← List.drop_eq_getElem_cons hk, List.take_append_drop]
    conv => lhs; rw [h1]
    rw [List.drop_append_of_le_length (by rw [List.length_take]; omega), hc]
  rw [e, splitC_at _ hno]
  cases hs : splitC 10 (t.drop (k + 1)) with
  | nil => exact absurd hs (splitC_ne _ _)
  | cons a r => rfl
theorem jl_end {t : List UInt8} {fr : Nat} (hno : (10 : UInt8) ∉ t.drop fr) : (splitC 10 (t.drop fr)).dropLast = [] := by
  rw [splitC_none hno]
  rfl
def RecP (RT : List Deed × Nat) (w : World) (e : Ending) (w' : World) : Prop :=
  ∃ v qs, e = .returned (.tuple #[v, .int .i64 (RT.2 : Int)]) ∧ qs.map Dq.d = RT.1 ∧ DsOwn w.heap.size w' v qs ∧ Below w.heap.size w w'
def RecPost (t : List UInt8) : World → Ending → World → Prop := RecP (recT t)
theorem Tryz.infoD9 : (Tryz.prog.info? 39).map (fun i => (i.zero, i.size, i.bytes)) = some (some (.agg #[.int .i64 0, .int .i64 0, .slice none 0 0, .string ⟨#[]⟩, .int .i64 0, .slice none 0 0, .int .i64 0, .int .i64 0, .int .i64 0]), 9, 112) := by kernel_rfl
theorem deed_one {q : Dq} {u : Value} (h : u ∈ q.cells) : u.oneCell' = true := by
  simp only [Dq.cells, deedCs, List.mem_cons, List.not_mem_nil, or_false] at h
  rcases h with rfl | rfl | rfl | rfl | rfl | rfl | rfl | rfl | rfl <;> rfl
theorem title_size {l : List UInt8} : ((deedOf l).getD zeroDeed).title.size ≤ maxLen := by
  cases h : deedOf l with
  | none => exact Nat.zero_le _
  | some d =>
    have ho := (inv_some h).1
    show d.title.size ≤ maxLen
    have hz : d.title = ⟨#[]⟩ → d.title.size ≤ maxLen := fun e => by rw [e]; exact Nat.zero_le _
    have hn : okName d.title.toList = true → d.title.size ≤ maxLen := fun h => by
      unfold okName at h
      simp only [Bool.and_eq_true, decide_eq_true_eq] at h
      have e1 : d.title.size = d.title.toList.length := by simp [ByteArray.toList_eq]
      unfold maxLen
      omega
    rcases okDeed_full ho with ⟨_, _, _, _, _, ht, _⟩ | ⟨_, _, _, ht, _⟩ | ⟨_, _, _, ht, _⟩ | ⟨_, _, _, ht, _⟩
    · exact hz ht
    · exact hn ht
    · exact hn ht
    · exact hz ht
theorem inn_of {l : List UInt8} {base : Nat} {w : World} {A1 : Option Addr} {c1 : Nat} {A2 : Option Addr} {c2 : Nat} (h1 : OwnL intCells ((deedOf l).getD zeroDeed).trust base w (.slice A1 ((deedOf l).getD zeroDeed).trust.length c1)) (h2 : OwnL editCells ((deedOf l).getD zeroDeed).patch base w (.slice A2 ((deedOf l).getD zeroDeed).patch.length c2)) : Inn base w ⟨(deedOf l).getD zeroDeed, A1, c1, A2, c2⟩ := by
  have hf : (((deedOf l).getD zeroDeed).trust = [] ∨ ((deedOf l).getD zeroDeed).patch = []) ∧ ((deedOf l).getD zeroDeed).trust.length ≤ 4 ∧ ((deedOf l).getD zeroDeed).patch.length ≤ 16 ∧ SizesOk ((deedOf l).getD zeroDeed).patch := by
    cases h : deedOf l with
    | none => exact ⟨.inl rfl, Nat.zero_le _, Nat.zero_le _, fun e he => by cases he⟩
    | some d =>
      have ho := (inv_some h).1
      show (d.trust = [] ∨ d.patch = []) ∧ d.trust.length ≤ 4 ∧ d.patch.length ≤ 16 ∧ SizesOk d.patch
      rcases okDeed_full ho with ⟨_, _, _, _, hl, _, _, hp, _⟩ | ⟨_, _, _, _, _, _, ht, hp, _⟩ | ⟨_, _, _, _, hp, _, _, _, _, _, ht, _⟩ | ⟨_, _, ht, _, _, hp, _⟩
      · exact ⟨.inr hp, hl, by rw [hp]; exact Nat.zero_le _, by rw [hp]; exact fun e he => by cases he⟩
      · exact ⟨.inl ht, by rw [ht]; exact Nat.zero_le _, by rw [hp]; exact Nat.zero_le _, by rw [hp]; exact fun e he => by cases he⟩
      · exact ⟨.inl ht, by rw [ht]; exact Nat.zero_le _, okPatch_len hp, fun e he => by
          obtain ⟨k, hk⟩ := List.getElem?_of_mem he
          have := okEdit_facts (okPatch_at hp hk)
          have e1 : e.old.size = e.old.toList.length := by simp [ByteArray.toList_eq]
          have e2 : e.new.size = e.new.toList.length := by simp [ByteArray.toList_eq]
          unfold SizeOk maxLen
          omega⟩
      · exact ⟨.inl ht, by rw [ht]; exact Nat.zero_le _, by rw [hp]; exact Nat.zero_le _, by rw [hp]; exact fun e he => by cases he⟩
  exact ⟨h1, h2, hf.1, hf.2.1, hf.2.2.1, hf.2.2.2, title_size⟩

set_option maxRecDepth 100000 in
set_option maxHeartbeats 4000000 in
theorem recover1_any (s : ByteArray) (w : World) (hs : s.size ≤ 65536) : Calls Tryz.prog 17 #[.string s] w (RecPost s.data.toList w) := by
  have hsz : s.data.toList.length = s.size := by simp
  have HSTEP : Hid (∀ (fr k : Nat) (h : k < s.size), fr ≤ k → s[k] = 10 → (10 : UInt8) ∉ (s.data.toList.take k).drop fr → (splitC 10 (s.data.toList.drop fr)).dropLast = (s.data.toList.take k).drop fr :: (splitC 10 (s.data.toList.drop (k + 1))).dropLast) := Lib.hid (fun fr k h hf hc hno => jl_step hf (by omega) hc hno)
  have HEND : Hid (∀ fr, (10 : UInt8) ∉ (s.data.toList.take s.size).drop fr → (splitC 10 (s.data.toList.drop fr)).dropLast = []) := Lib.hid (fun fr h => jl_end (by rwa [List.take_of_length_le (by omega)] at h))
  have HRT : Hid (recT s.data.toList = recs 7 0 (splitC 10 (s.data.toList.drop 0)).dropLast) := Lib.hid (by rw [List.drop_zero]; rfl)
  obtain ⟨i0, hi, hz0, hz1, hz2⟩ := info_parts Tryz.infoD9
  unfold RecPost
  generalize recT s.data.toList = RT at *
  go_enter Tryz.func17, Tryz.ntmps17
  go_wp2
  go_loopw [4, 5, 6, 7] (fun o cq f i wr => ∃ (k fr lst : Nat) (qs : List Dq), k ≤ s.size ∧ fr ≤ k ∧ lst < 9973 ∧ i = .int .i64 (k : Int) ∧ f = .int .i64 (fr : Int) ∧ cq = .int .i64 (lst : Int) ∧ DsOwn w.heap.size wr o qs ∧ o ≠ .slice none 0 0 ∧ qs.length ≤ 40 ∧ RT = (qs.map Dq.d ++ (recs lst qs.length (splitC 10 (s.data.toList.drop fr)).dropLast).1, fr + (recs lst qs.length (splitC 10 (s.data.toList.drop fr)).dropLast).2) ∧ (10 : UInt8) ∉ (s.data.toList.take k).drop fr ∧ Below w.heap.size w wr) (fun _ _ _ i _ => s.size - (RowKit.intOf i).toNat)
  case atStart =>
    refine ⟨0, 0, 7, [], Nat.zero_le _, Nat.le_refl _, by omega, rfl, rfl, rfl, ⟨by simpa using World.ownsRow_made w #[] 0 (Nat.le_refl _) (Nat.zero_le _) rfl, fun q hq => (by cases hq), fun q hq => (by cases hq), List.Pairwise.nil⟩, by simp, Nat.zero_le _, ?_, by simp, (Below.refl _ _).alloc (Nat.le_refl _) _⟩
    rw [HRT.out]
    simp
  case round =>
    obtain ⟨k, fr, lst, qs, hk, hfr, hl9, rfl, rfl, rfl, hds, hnn, hq40, hrt, hno, hb⟩ := hrel
    obtain ⟨g, cap, rfl, hdc, hcm⟩ := own_some hds.row hnn
    unfold maxLen at hcm
    have HDS := Lib.hid hds
    have HRTK := Lib.hid hrt
    have HNO := Lib.hid hno
    have HB := Lib.hid hb
    clear hds hrt hno hb hnn
    have hk6 : k ≤ 65536 := by omega
    by_cases hlt : k < s.size
    · by_cases h40 : qs.length < 40
      · have hq4i : (qs.length : Int) < 40 := by omega
        have hkl : (k : Int) < (s.size : Int) := by omega
        by_cases he : s[k] = 10
        · have h1 : ((s[k].toNat : Int) == 10) = true := by rw [he]; rfl
          have HJ := Lib.hid (HSTEP.out fr k hlt hfr he HNO.out)
          have hmid : Hid (s.extract fr k = ⟨((s.data.toList.take k).drop fr).toArray⟩) := Lib.hid (ext_mid s fr k)
          have hpl : ((s.data.toList.take k).drop fr).length = k - fr := by rw [List.length_drop, List.length_take]; omega
          have HPL := Lib.hid hpl
          have HCUT : Hid (∀ W, Calls Tryz.prog 32 #[.string (s.extract fr k), .int .u8 32] W (RetQ (.tuple #[.string ⟨(cutL 32 ((s.data.toList.take k).drop fr)).1.toArray⟩, .string ⟨(cutL 32 ((s.data.toList.take k).drop fr)).2.toArray⟩]) W)) := Lib.hid (fun W => by
            have := cut1_any 32 32 rfl (s.extract fr k) W (by rw [hmid.out, mk_size]; omega)
            rw [show (s.extract fr k).data.toList = (s.data.toList.take k).drop fr by rw [hmid.out]] at this
            exact this)
          obtain ⟨ca, cb⟩ := cutL_len 32 ((s.data.toList.take k).drop fr)
          have HGO := Lib.hid (fun (h1 : (deedOf (cutL 32 ((s.data.toList.take k).drop fr)).2).isSome = true) h2 => recs_go (ls := (splitC 10 (s.data.toList.drop (k + 1))).dropLast) (last := lst) (k := qs.length) h1 h2 h40)
          have HST := Lib.hid (fun (h : ¬ ((deedOf (cutL 32 ((s.data.toList.take k).drop fr)).2).isSome = true ∧ (cutL 32 ((s.data.toList.take k).drop fr)).1 = itoa (chk lst (cutL 32 ((s.data.toList.take k).drop fr)).2 : Nat) ∧ qs.length < 40)) => recs_stop (ls := (splitC 10 (s.data.toList.drop (k + 1))).dropLast) h)
          rw [← HJ.out] at HGO HST
          rw [hpl] at ca cb
          generalize cutL 32 ((s.data.toList.take k).drop fr) = ab at *
          obtain ⟨na, tx⟩ := ab
          simp only at ca cb HCUT HGO HST
          have HRD : Hid (∀ W, Calls Tryz.prog 33 #[.string ⟨tx.toArray⟩] W (DeedPost tx W)) := Lib.hid (fun W => readDeed1_all ⟨tx.toArray⟩ W (by rw [mk_size]; omega))
          have HINN := Lib.hid (fun (base : Nat) (W : World) A1 c1 A2 c2 h1 h2 => inn_of (l := tx) (base := base) (w := W) (A1 := A1) (c1 := c1) (A2 := A2) (c2 := c2) h1 h2)
          have HCK : Hid (∀ W, Calls Tryz.prog 34 #[.int .i64 (lst : Int), .string ⟨tx.toArray⟩] W (RetQ (.int .i64 ((chk lst tx : Nat) : Int)) W)) := Lib.hid (fun W => check1_any lst ⟨tx.toArray⟩ W hl9 (by rw [mk_size]; omega))
          have hck9 := chk_lt lst tx
          unfold DeedPost deedV at HRD
          generalize (deedOf tx).getD zeroDeed = D at *
          generalize chk lst tx = nx at *
          obtain ⟨nb, hnb⟩ : ∃ nb : ByteArray, nb = ⟨na.toArray⟩ := ⟨_, rfl⟩
          have hnl : nb.toList = na := by rw [hnb, ByteArray.toList_eq]
          have HNL := Lib.hid hnl
          rw [← hnb] at HCUT
          clear he hpl hnb hnl
          cases hsm : (deedOf tx).isSome with
          | false =>
            rw [hsm] at HRD
            have HRX : Hid (RT = (qs.map Dq.d, fr)) := Lib.hid (by
              have h := HRTK.out
              rw [HST.out (fun h => by rw [hsm] at h; cases h.1)] at h
              rw [h]
              simp)
            clear hsm
            go_wp2_with (fail)
            refine (HCUT.out _).mono ?_
            rintro e V1 ⟨rfl, m1, hw1⟩
            have hb1 : Below wr.heap.size wr V1 := by rw [hw1]; exact below_drewN (Below.refl _ _) m1
            clear hw1
            go_wp2_with (fail)
            refine (HRD.out V1).mono ?_
            rintro e V2 ⟨A1, c1, A2, c2, rfl, o1, o2, hb2⟩
            have hb3 : ∀ o, Below wr.heap.size wr (V2.alloc o) := fun o => (hb1.trans (hb2.mono hb1.size)).alloc (hb1.trans (hb2.mono hb1.size)).size o
            have HB3 := Lib.hid hb3
            clear hb1 hb2 o1 o2 hb3
            go_wp2
            go_ret2
            exact ⟨.slice (some ⟨g, 0, none⟩) qs.length cap, qs, by rw [HRX.out]; rfl, by rw [HRX.out], HDS.out.below (HB3.out _), HB.out.trans ((HB3.out _).mono HB.out.size)⟩
          | true =>
            rw [hsm] at HRD
            have HSM := Lib.hid hsm
            clear hsm
            go_wp2_with (fail)
            refine (HCUT.out _).mono ?_
            rintro e V1 ⟨rfl, m1, hw1⟩
            have hb1 : Below wr.heap.size wr V1 := by rw [hw1]; exact below_drewN (Below.refl _ _) m1
            have HB1 := Lib.hid hb1
            clear hw1 hb1
            go_wp2_with (fail)
            refine (HRD.out V1).mono ?_
            rintro e V2 ⟨A1, c1, A2, c2, rfl, o1, o2, hb2⟩
            obtain ⟨V3, hV3⟩ : ∃ V : World, V = V2.alloc (.cells #[.int .i64 D.kind, .int .i64 D.member, .slice A1 D.trust.length c1, .string D.title, .int .i64 D.vote, .slice A2 D.patch.length c2, .int .i64 D.start, .int .i64 D.until_, .int .i64 D.closes] 39) := ⟨_, rfl⟩
            have bV3 : Below V2.heap.size V2 V3 := by rw [hV3]; exact (Below.refl _ _).alloc (Nat.le_refl _) _
            have sV3 : V2.heap.size < V3.heap.size := by rw [hV3]; simp
            have RV3 : Row V3 V2.heap.size (deedCs D A1 c1 A2 c2) := by rw [hV3]; exact Row.new _ _ _
            have HQ2 := Lib.hid (HINN.out V1.heap.size V2 A1 c1 A2 c2 o1 o2)
            have HB12 : Hid (Below V1.heap.size V1 V2) := Lib.hid hb2
            have HB23 := Lib.hid bV3
            have HR3 := Lib.hid RV3
            have HV3 := Lib.hid hV3
            clear o1 o2 hb2 bV3 RV3 hV3
            go_wp2_with (fail)
            rw [← HV3.out]
            refine (HCK.out V3).mono ?_
            rintro e V4 ⟨rfl, m4, hw4⟩
            have HB34 : Hid (Below V3.heap.size V3 V4) := Lib.hid (by rw [hw4]; exact below_drewN (Below.refl _ _) m4)
            clear hw4
            go_wp2_with (fail)
            refine (dec1_any (nx : Int) V4 (by omega) (by omega)).mono ?_
            rintro e V5 ⟨rfl, hb5⟩
            have HB35 : Hid (Below V3.heap.size V3 V5) := Lib.hid (HB34.out.trans (hb5.mono HB34.out.size))
            have HB25 : Hid (Below V2.heap.size V2 V5) := Lib.hid (HB23.out.trans (HB35.out.mono HB23.out.size))
            have HB15 : Hid (Below V1.heap.size V1 V5) := Lib.hid (HB12.out.trans (HB25.out.mono HB12.out.size))
            have HBr5 : Hid (Below wr.heap.size wr V5) := Lib.hid (HB1.out.trans (HB15.out.mono HB1.out.size))
            clear hb5
            by_cases heq : na = itoa (nx : Int)
            · have hs1 : (nb.toList == itoa (nx : Int)) = true := by rw [HNL.out, heq]; simp
              have HRX : Hid (RT = ((qs ++ [(⟨D, A1, c1, A2, c2⟩ : Dq)]).map Dq.d ++ (recs nx (qs.length + 1) (splitC 10 (s.data.toList.drop (k + 1))).dropLast).1, (k + 1) + (recs nx (qs.length + 1) (splitC 10 (s.data.toList.drop (k + 1))).dropLast).2)) := Lib.hid (by
                have h := HRTK.out
                rw [HGO.out HSM.out heq] at h
                rw [h, HPL.out]
                simp
                omega)
              have hR5 := HR3.out.below HB35.out sV3
              have y0 : V5.cell? ⟨V2.heap.size, 0, none⟩ = some (.int .i64 D.kind) := hR5.cell 0 _ rfl
              have y1 : V5.cell? ⟨V2.heap.size, 1, none⟩ = some (.int .i64 D.member) := hR5.cell 1 _ rfl
              have y2 : V5.cell? ⟨V2.heap.size, 2, none⟩ = some (.slice A1 D.trust.length c1) := hR5.cell 2 _ rfl
              have y3 : V5.cell? ⟨V2.heap.size, 3, none⟩ = some (.string D.title) := hR5.cell 3 _ rfl
              have y4 : V5.cell? ⟨V2.heap.size, 4, none⟩ = some (.int .i64 D.vote) := hR5.cell 4 _ rfl
              have y5 : V5.cell? ⟨V2.heap.size, 5, none⟩ = some (.slice A2 D.patch.length c2) := hR5.cell 5 _ rfl
              have y6 : V5.cell? ⟨V2.heap.size, 6, none⟩ = some (.int .i64 D.start) := hR5.cell 6 _ rfl
              have y7 : V5.cell? ⟨V2.heap.size, 7, none⟩ = some (.int .i64 D.until_) := hR5.cell 7 _ rfl
              have y8 : V5.cell? ⟨V2.heap.size, 8, none⟩ = some (.int .i64 D.closes) := hR5.cell 8 _ rfl
              have HDS5 := Lib.hid (HDS.out.below HBr5.out)
              have hown := HDS5.out.row
              have hsz5 : w.heap.size ≤ V5.heap.size := Nat.le_trans HB.out.size HBr5.out.size
              have HNE : Hid ((10 : UInt8) ∉ (s.data.toList.take (k + 1)).drop (k + 1)) := Lib.hid (by
                rw [List.drop_eq_nil_of_le (by rw [List.length_take]; omega)]
                simp)
              clear hR5 heq
              go_wp2_with (at_builtin; refine wpList_append_own_at _ rfl _ _ 25 rfl w.heap.size 39 i0 (.agg #[.int .i64 0, .int .i64 0, .slice none 0 0, .string ⟨#[]⟩, .int .i64 0, .slice none 0 0, .int .i64 0, .int .i64 0, .int .i64 0]) 9 112 Tryz.underlying25 hi hz0 hz1 hz2 rfl (by decide) _ _ _ rfl (hown.alloc _) ⟨V5.heap.size, 0, none⟩ 1 1 (Dq.cells ⟨D, A1, c1, A2, c2⟩) rfl rfl (fun j u hj => new_at hj) (fun u hu => deed_one hu) ?c3 ?c4 (base_le hsz5) ?_)
              case c3 => unfold maxLen; omega
              case c4 => omega
              · intro v' w6 hown' hgrow hiff hat
                have hnn' : v' ≠ .slice none 0 0 := by simpa using hiff
                have hb6 := ((HB.out.trans (HBr5.out.mono HB.out.size)).alloc hsz5 _).grown hgrow (base_le hsz5) (fun j hj => (hown.lt j hj).1)
                have hal : ∀ o, Below V5.heap.size V5 (V5.alloc o) := fun o => (Below.refl _ _).alloc (Nat.le_refl _) o
                have hpush : DsOwn w.heap.size w6 v' (qs ++ [⟨D, A1, c1, A2, c2⟩]) := DsOwn.push (w0 := V1) (HDS5.out.below (hal _)) (Nat.le_trans HB.out.size HB1.out.size) ((HQ2.out.below HB25.out).below (hal _)) (fun p hp gg hbp => (((HDS.out.below HB1.out).inn p hp).lt hbp).2) (fun gg hgg => (((HDS.out.below HB1.out).row).lt gg hgg).2) hown' hgrow (by rcases hat with e | e; exact .inl e; exact .inr (by rw [e]; simp))
                have HP := Lib.hid hpush
                clear hown hown' hgrow hiff hat hpush hal
                go_wp2
                go_roundw
                case rel => exact ⟨k + 1, k + 1, nx, qs ++ [⟨D, A1, c1, A2, c2⟩], by omega, Nat.le_refl _, hck9, by go_num, by go_num, rfl, HP.out, hnn', by rw [List.length_append]; simp; omega, by rw [List.length_append]; exact HRX.out, HNE.out, hb6⟩
                case measure => simp [RowKit.intOf]; omega
            · have hs1 : (nb.toList == itoa (nx : Int)) = false := by rw [HNL.out]; simpa using heq
              have HRX : Hid (RT = (qs.map Dq.d, fr)) := Lib.hid (by
                have h := HRTK.out
                rw [HST.out (fun h => heq h.2.1)] at h
                rw [h]
                simp)
              clear heq
              go_wp2
              go_ret2
              exact ⟨.slice (some ⟨g, 0, none⟩) qs.length cap, qs, by rw [HRX.out]; rfl, by rw [HRX.out], HDS.out.below HBr5.out, HB.out.trans (HBr5.out.mono HB.out.size)⟩
        · have h1 : ((s[k].toNat : Int) == 10) = false := by
            simp only [beq_eq_false_iff_ne, ne_eq]
            intro e
            exact he (UInt8.toNat_inj.1 (by have : (10 : UInt8).toNat = 10 := rfl; omega))
          have HT := Lib.hid (take_snoc' s k hlt)
          have HNX : Hid ((10 : UInt8) ∉ (s.data.toList.take (k + 1)).drop fr) := Lib.hid (by
            rw [HT.out, List.drop_append_of_le_length (by rw [List.length_take]; omega), List.mem_append, List.mem_singleton]
            rintro (h | h)
            · exact HNO.out h
            · exact he h.symm)
          clear he
          go_wp2
          go_roundw
          case rel => exact ⟨k + 1, fr, lst, qs, by omega, by omega, hl9, by go_num, rfl, rfl, HDS.out, by simp, by omega, HRTK.out, HNX.out, HB.out⟩
          case measure => simp [RowKit.intOf]; omega
      · have hq4i : ¬ (qs.length : Int) < 40 := by omega
        have hkl : (k : Int) < (s.size : Int) := by omega
        have HRX : Hid (RT = (qs.map Dq.d, fr)) := Lib.hid (by
          have h := HRTK.out
          rw [recs_full (by omega)] at h
          rw [h]
          simp)
        go_wp2
        go_ret2
        exact ⟨.slice (some ⟨g, 0, none⟩) qs.length cap, qs, by rw [HRX.out]; rfl, by rw [HRX.out], HDS.out, HB.out⟩
    · have hkl : ¬ (k : Int) < (s.size : Int) := by omega
      have HRX : Hid (RT = (qs.map Dq.d, fr)) := Lib.hid (by
        have h := HRTK.out
        have hk' : k = s.size := by omega
        rw [HEND.out fr (by rw [← hk']; exact HNO.out)] at h
        rw [h]
        simp [recs])
      go_wp2
      go_ret2
      exact ⟨.slice (some ⟨g, 0, none⟩) qs.length cap, qs, by rw [HRX.out]; rfl, by rw [HRX.out], HDS.out, HB.out⟩
end Go.Proofs.YthlfpiflegfoiaaGreatDoor

namespace Go.Proofs.YthlfpiflegfoiaaGreatDoor
open Go.RowKit Go.Lib

set_option maxRecDepth 100000 in
set_option maxHeartbeats 4000000 in
theorem recover2_any (s : ByteArray) (w : World) (hs : s.size ≤ 65536) (hE : EnvR w.heap.size w) : Calls Tryz.prog 18 #[.string s] w (RecPost s.data.toList w) := by
  have E := Lib.hid hE
  clear hE
  have hsz : s.data.toList.length = s.size := by simp
  have bW : Below w.heap.size w (w.alloc (.cells #[] 39)) := (Below.refl _ _).alloc (Nat.le_refl _) _
  have hgw : (w.alloc (.cells #[] 39)).heap.size = w.heap.size + 1 := by simp
  have HLIN := Lib.hid (linesOf2_any s (w.alloc (.cells #[] 39)) hs ((E.out.on bW).more bW.size))
  have HLQ : Hid (∀ l ∈ (splitC 10 s.data.toList).dropLast, l.length ≤ 65536) := Lib.hid (fun l hl => by
    have := splitC_len 10 s.data.toList l (List.dropLast_subset _ hl)
    omega)
  have hcnt : (splitC 10 s.data.toList).dropLast.length ≤ 65536 := by have := splitC_cnt 10 s.data.toList; rw [List.length_dropLast]; omega
  have HRT : Hid (recT s.data.toList = recs 7 0 (splitC 10 s.data.toList).dropLast) := Lib.hid rfl
  obtain ⟨i0, hi, hz0, hz1, hz2⟩ := info_parts Tryz.infoD9
  unfold RecPost
  unfold LinesOf at HLIN
  generalize recT s.data.toList = RT at *
  generalize (splitC 10 s.data.toList).dropLast = ls at *
  go_enter Tryz.func18, Tryz.ntmps18
  go_wp2_with (fail)
  refine (HLIN.out).mono ?_
  rintro e w1 ⟨c, cs, rfl, hblk, hcs, hlc, hc, hb1⟩
  have HB1 : Hid (Below w.heap.size w w1) := Lib.hid (bW.trans (hb1.mono bW.size))
  have hown0 : w1.ownsRow w.heap.size 39 9 (.slice (some ⟨w.heap.size, 0, none⟩) 0 0) 0 [] := own_below (by simpa using World.ownsRow_made w #[] 0 (Nat.le_refl _) (Nat.zero_le _) rfl) hb1
  rw [hgw] at hblk
  have HBLK := Lib.hid hblk
  have HCS := Lib.hid hcs
  have HOWN0 := Lib.hid hown0
  clear hblk hcs hb1 hown0 HLIN
  go_wp2
  go_loopw [4, 5, 6, 19] (fun o cq f i wr => ∃ (j lst sz : Nat) (qs : List Dq), j ≤ ls.length ∧ qs.length = j ∧ j ≤ 40 ∧ lst < 9973 ∧ sz ≤ j * 65537 ∧ i = .int .i64 (j : Int) ∧ f = .int .i64 (sz : Int) ∧ cq = .int .i64 (lst : Int) ∧ DsOwn w.heap.size wr o qs ∧ o ≠ .slice none 0 0 ∧ RT = (qs.map Dq.d ++ (recs lst j (ls.drop j)).1, sz + (recs lst j (ls.drop j)).2) ∧ wr.heap[w.heap.size + 1]? = some (.cells cs 9 (0, 0)) ∧ Below w.heap.size w wr) (fun _ _ _ i _ => ls.length - (RowKit.intOf i).toNat)
  case atStart =>
    refine ⟨0, 7, 0, [], Nat.zero_le _, rfl, by omega, by omega, by omega, rfl, rfl, rfl, ⟨HOWN0.out, fun q hq => (by cases hq), fun q hq => (by cases hq), List.Pairwise.nil⟩, by simp, ?_, HBLK.out, HB1.out⟩
    rw [HRT.out]
    simp
  case round =>
    obtain ⟨j, lst, sz, qs, hj, hql, hj40, hl9, hszb, rfl, rfl, rfl, hds, hnn, hrt, hblk, hb⟩ := hrel
    obtain ⟨g, cap, rfl, hdc, hcm⟩ := own_some hds.row hnn
    rw [hql] at hdc
    unfold maxLen at hcm
    have HDS := Lib.hid hds
    have HRTK := Lib.hid hrt
    have HB := Lib.hid hb
    have HBK := Lib.hid hblk
    have HQL := Lib.hid hql
    have hsz3 : sz ≤ 3000000 := by omega
    clear hds hrt hb hnn
    by_cases hlt : j < ls.length
    · have x0 := block_cell hblk (HCS.out j _ (List.getElem?_eq_getElem hlt))
      have hll := HLQ.out ls[j] (List.getElem_mem hlt)
      have HDR : Hid (ls.drop j = ls[j] :: ls.drop (j + 1)) := Lib.hid (List.drop_eq_getElem_cons hlt)
      obtain ⟨ca, cb⟩ := cutL_len 32 ls[j]
      have HGO := Lib.hid (fun (h1 : (deedOf (cutL 32 ls[j]).2).isSome = true) h2 (h3 : j < 40) => recs_go (ls := ls.drop (j + 1)) (last := lst) (k := j) h1 h2 h3)
      have HST := Lib.hid (fun (h : ¬ ((deedOf (cutL 32 ls[j]).2).isSome = true ∧ (cutL 32 ls[j]).1 = itoa (chk lst (cutL 32 ls[j]).2 : Nat) ∧ j < 40)) => recs_stop (ls := ls.drop (j + 1)) h)
      rw [← HDR.out] at HGO HST
      have HCUT : Hid (∀ W, Below w.heap.size w W → Calls Tryz.prog 37 #[.string ⟨ls[j].toArray⟩, .string ⟨#[32]⟩] W fun e w'' => ∃ ok, e = .returned (.tuple #[.string ⟨(cutL 32 ls[j]).1.toArray⟩, .string ⟨(cutL 32 ls[j]).2.toArray⟩, .bool ok]) ∧ ∃ k, w'' = W.drewN k) := Lib.hid (fun W bw => E.out.cut W bw ⟨ls[j].toArray⟩ 32 (by rw [mk_size]; omega))
      generalize cutL 32 ls[j] = ab at *
      generalize ls[j] = line at *
      obtain ⟨na, tx⟩ := ab
      simp only at ca cb HCUT HGO HST
      have HRD : Hid (∀ W, Below w.heap.size w W → Calls Tryz.prog 38 #[.string ⟨tx.toArray⟩] W (DeedPost tx W)) := Lib.hid (fun W bw => reads2 ⟨tx.toArray⟩ W (by rw [mk_size]; omega) ((E.out.on bw).more bw.size))
      have HINN := Lib.hid (fun (base : Nat) (W : World) A1 c1 A2 c2 h1 h2 => inn_of (l := tx) (base := base) (w := W) (A1 := A1) (c1 := c1) (A2 := A2) (c2 := c2) h1 h2)
      have HCK : Hid (∀ W, Calls Tryz.prog 28 #[.int .i64 (lst : Int), .string ⟨tx.toArray⟩] W (RetQ (.int .i64 ((chk lst tx : Nat) : Int)) W)) := Lib.hid (fun W => check2_any lst ⟨tx.toArray⟩ W hl9 (by rw [mk_size]; omega))
      have hck9 := chk_lt lst tx
      unfold DeedPost deedV at HRD
      generalize (deedOf tx).getD zeroDeed = D at *
      generalize chk lst tx = nx at *
      obtain ⟨nb, hnb⟩ : ∃ nb : ByteArray, nb = ⟨na.toArray⟩ := ⟨_, rfl⟩
      have hnl : nb.toList = na := by rw [hnb, ByteArray.toList_eq]
      have HNL := Lib.hid hnl
      rw [← hnb] at HCUT
      obtain ⟨lb, hlb⟩ : ∃ lb : ByteArray, lb = ⟨line.toArray⟩ := ⟨_, rfl⟩
      have hlbs : lb.size = line.length := by rw [hlb, mk_size]
      have HLBS := Lib.hid hlbs
      have hlb6 : lb.size ≤ 65536 := by omega
      rw [← hlb] at HCUT x0
      clear hnb hnl hlb hlbs hblk hql
      cases hsm : (deedOf tx).isSome with
      | false =>
        rw [hsm] at HRD
        have HRX : Hid (RT = (qs.map Dq.d, sz)) := Lib.hid (by
          have h := HRTK.out
          rw [HST.out (fun h => by rw [hsm] at h; cases h.1)] at h
          rw [h]
          simp)
        clear hsm
        go_wp2_with (fail)
        refine (HCUT.out _ HB.out).mono ?_
        rintro e V1 ⟨ok1, rfl, m1, hw1⟩
        have hb1 : Below wr.heap.size wr V1 := by rw [hw1]; exact below_drewN (Below.refl _ _) m1
        have hbw1 := HB.out.trans (hb1.mono HB.out.size)
        clear hw1
        go_wp2_with (fail)
        refine (HRD.out V1 hbw1).mono ?_
        rintro e V2 ⟨A1, c1, A2, c2, rfl, o1, o2, hb2⟩
        have HB3 : Hid (∀ o, Below wr.heap.size wr (V2.alloc o)) := Lib.hid (fun o => (hb1.trans (hb2.mono hb1.size)).alloc (hb1.trans (hb2.mono hb1.size)).size o)
        clear hb1 hb2 o1 o2 hbw1
        go_wp2_with (fail)
        refine (HCK.out _).mono ?_
        rintro e V4 ⟨rfl, m4, hw4⟩
        have HB4 : Hid (Below wr.heap.size wr V4) := Lib.hid (by rw [hw4]; exact below_drewN (HB3.out _) m4)
        clear hw4 HB3
        go_wp2
        go_ret2
        exact ⟨.slice (some ⟨g, 0, none⟩) qs.length cap, qs, by rw [HRX.out]; rfl, by rw [HRX.out], HDS.out.below HB4.out, HB.out.trans (HB4.out.mono HB.out.size)⟩
      | true =>
        rw [hsm] at HRD
        have HSM := Lib.hid hsm
        clear hsm
        go_wp2_with (fail)
        refine (HCUT.out _ HB.out).mono ?_
        rintro e V1 ⟨ok1, rfl, m1, hw1⟩
        have hb1 : Below wr.heap.size wr V1 := by rw [hw1]; exact below_drewN (Below.refl _ _) m1
        have HB1r := Lib.hid hb1
        have hbw1 := HB.out.trans (hb1.mono HB.out.size)
        clear hw1 hb1
        go_wp2_with (fail)
        refine (HRD.out V1 hbw1).mono ?_
        rintro e V2 ⟨A1, c1, A2, c2, rfl, o1, o2, hb2⟩
        obtain ⟨V3, hV3⟩ : ∃ V : World, V = V2.alloc (.cells #[.int .i64 D.kind, .int .i64 D.member, .slice A1 D.trust.length c1, .string D.title, .int .i64 D.vote, .slice A2 D.patch.length c2, .int .i64 D.start, .int .i64 D.until_, .int .i64 D.closes] 39) := ⟨_, rfl⟩
        have bV3 : Below V2.heap.size V2 V3 := by rw [hV3]; exact (Below.refl _ _).alloc (Nat.le_refl _) _
        have sV3 : V2.heap.size < V3.heap.size := by rw [hV3]; simp
        have RV3 : Row V3 V2.heap.size (deedCs D A1 c1 A2 c2) := by rw [hV3]; exact Row.new _ _ _
        have HQ2 := Lib.hid (HINN.out V1.heap.size V2 A1 c1 A2 c2 o1 o2)
        have HB12 : Hid (Below V1.heap.size V1 V2) := Lib.hid hb2
        have HB23 := Lib.hid bV3
        have HR3 := Lib.hid RV3
        have HV3 := Lib.hid hV3
        clear o1 o2 hb2 bV3 RV3 hV3 hbw1
        go_wp2_with (fail)
        rw [← HV3.out]
        refine (HCK.out V3).mono ?_
        rintro e V4 ⟨rfl, m4, hw4⟩
        have HB34 : Hid (Below V3.heap.size V3 V4) := Lib.hid (by rw [hw4]; exact below_drewN (Below.refl _ _) m4)
        have HBr3 : Hid (Below wr.heap.size wr V3) := Lib.hid (HB1r.out.trans ((HB12.out.trans (HB23.out.mono HB12.out.size)).mono HB1r.out.size))
        have HBw4 : Hid (Below w.heap.size w V4) := Lib.hid (HB.out.trans ((HBr3.out.trans (HB34.out.mono HBr3.out.size)).mono HB.out.size))
        clear hw4
        go_wp2_with (fail)
        refine (decimal_any w.heap.size (nx : Int) V4 (E.out.env.on HBw4.out) (by omega) (by omega)).mono ?_
        rintro e V5 ⟨rfl, hb5⟩
        have HB35 : Hid (Below V3.heap.size V3 V5) := Lib.hid (HB34.out.trans (hb5.mono HB34.out.size))
        have HB25 : Hid (Below V2.heap.size V2 V5) := Lib.hid (HB23.out.trans (HB35.out.mono HB23.out.size))
        have HB15 : Hid (Below V1.heap.size V1 V5) := Lib.hid (HB12.out.trans (HB25.out.mono HB12.out.size))
        have HBr5 : Hid (Below wr.heap.size wr V5) := Lib.hid (HB1r.out.trans (HB15.out.mono HB1r.out.size))
        clear hb5
        by_cases heq : na = itoa (nx : Int)
        · have hs1 : (nb.toList == itoa (nx : Int)) = true := by rw [HNL.out, heq]; simp
          by_cases h40 : j < 40
          · have hq4 : ((qs.length : Int) == 40) = false := by have := HQL.out; simp; omega
            have HRX : Hid (RT = ((qs ++ [(⟨D, A1, c1, A2, c2⟩ : Dq)]).map Dq.d ++ (recs nx (j + 1) (ls.drop (j + 1))).1, (sz + lb.size + 1) + (recs nx (j + 1) (ls.drop (j + 1))).2)) := Lib.hid (by
              have h := HRTK.out
              rw [HGO.out HSM.out heq h40] at h
              rw [h, HLBS.out]
              simp
              omega)
            have hR5 := HR3.out.below HB35.out sV3
            have y0 : V5.cell? ⟨V2.heap.size, 0, none⟩ = some (.int .i64 D.kind) := hR5.cell 0 _ rfl
            have y1 : V5.cell? ⟨V2.heap.size, 1, none⟩ = some (.int .i64 D.member) := hR5.cell 1 _ rfl
            have y2 : V5.cell? ⟨V2.heap.size, 2, none⟩ = some (.slice A1 D.trust.length c1) := hR5.cell 2 _ rfl
            have y3 : V5.cell? ⟨V2.heap.size, 3, none⟩ = some (.string D.title) := hR5.cell 3 _ rfl
            have y4 : V5.cell? ⟨V2.heap.size, 4, none⟩ = some (.int .i64 D.vote) := hR5.cell 4 _ rfl
            have y5 : V5.cell? ⟨V2.heap.size, 5, none⟩ = some (.slice A2 D.patch.length c2) := hR5.cell 5 _ rfl
            have y6 : V5.cell? ⟨V2.heap.size, 6, none⟩ = some (.int .i64 D.start) := hR5.cell 6 _ rfl
            have y7 : V5.cell? ⟨V2.heap.size, 7, none⟩ = some (.int .i64 D.until_) := hR5.cell 7 _ rfl
            have y8 : V5.cell? ⟨V2.heap.size, 8, none⟩ = some (.int .i64 D.closes) := hR5.cell 8 _ rfl
            have HDS5 := Lib.hid (HDS.out.below HBr5.out)
            have hown := HDS5.out.row
            have hsz5 : w.heap.size ≤ V5.heap.size := Nat.le_trans HB.out.size HBr5.out.size
            have HS5 := Lib.hid (block_below HBr5.out HBK.out)
            have hqj : qs.length ≤ 40 := by have := HQL.out; omega
            clear hR5 heq
            go_wp2_with (at_builtin; refine wpList_append_own_at _ rfl _ _ 25 rfl w.heap.size 39 i0 (.agg #[.int .i64 0, .int .i64 0, .slice none 0 0, .string ⟨#[]⟩, .int .i64 0, .slice none 0 0, .int .i64 0, .int .i64 0, .int .i64 0]) 9 112 Tryz.underlying25 hi hz0 hz1 hz2 rfl (by decide) _ _ _ rfl (hown.alloc _) ⟨V5.heap.size, 0, none⟩ 1 1 (Dq.cells ⟨D, A1, c1, A2, c2⟩) rfl rfl (fun j u hj => new_at hj) (fun u hu => deed_one hu) ?c3 ?c4 (base_le hsz5) ?_)
            case c3 => unfold maxLen; omega
            case c4 => omega
            · intro v' w6 hown' hgrow hiff hat
              have hnn' : v' ≠ .slice none 0 0 := by simpa using hiff
              have hb6 := ((HB.out.trans (HBr5.out.mono HB.out.size)).alloc hsz5 _).grown hgrow (base_le hsz5) (fun j hj => (hown.lt j hj).1)
              have hS6 := block_keep hgrow HS5.out (own_ne hown HS5.out (by decide))
              have hal : ∀ o, Below V5.heap.size V5 (V5.alloc o) := fun o => (Below.refl _ _).alloc (Nat.le_refl _) o
              have hpush : DsOwn w.heap.size w6 v' (qs ++ [⟨D, A1, c1, A2, c2⟩]) := DsOwn.push (w0 := V1) (HDS5.out.below (hal _)) (Nat.le_trans HB.out.size HB1r.out.size) ((HQ2.out.below HB25.out).below (hal _)) (fun p hp gg hbp => (((HDS.out.below HB1r.out).inn p hp).lt hbp).2) (fun gg hgg => (((HDS.out.below HB1r.out).row).lt gg hgg).2) hown' hgrow (by rcases hat with e | e; exact .inl e; exact .inr (by rw [e]; simp))
              have HP := Lib.hid hpush
              have HB6 := Lib.hid hb6
              have HS6 := Lib.hid hS6
              clear hown hown' hgrow hiff hat hpush hal hb6 hS6 y0 y1 y2 y3 y4 y5 y6 y7 y8
              go_wp2_with (fail)
              refine (HCK.out w6).mono ?_
              rintro e V7 ⟨rfl, m7, hw7⟩
              have HB67 : Hid (Below w6.heap.size w6 V7) := Lib.hid (by rw [hw7]; exact below_drewN (Below.refl _ _) m7)
              clear hw7
              go_wp2
              go_roundw
              case rel => exact ⟨j + 1, nx, sz + lb.size + 1, qs ++ [⟨D, A1, c1, A2, c2⟩], by omega, by rw [List.length_append, HQL.out]; rfl, by omega, hck9, by omega, by go_num, by go_num, rfl, HP.out.below HB67.out, hnn', HRX.out, block_below HB67.out HS6.out, HB6.out.trans (HB67.out.mono HB6.out.size)⟩
              case measure => simp [RowKit.intOf]; omega
          · have hq4 : ((qs.length : Int) == 40) = true := by have := HQL.out; simp; omega
            have HRX : Hid (RT = (qs.map Dq.d, sz)) := Lib.hid (by
              have h := HRTK.out
              rw [HST.out (fun h => h40 h.2.2)] at h
              rw [h]
              simp)
            clear heq
            go_wp2
            go_ret2
            exact ⟨.slice (some ⟨g, 0, none⟩) qs.length cap, qs, by rw [HRX.out]; rfl, by rw [HRX.out], HDS.out.below HBr5.out, HB.out.trans (HBr5.out.mono HB.out.size)⟩
        · have hs1 : (nb.toList == itoa (nx : Int)) = false := by rw [HNL.out]; simpa using heq
          have HRX : Hid (RT = (qs.map Dq.d, sz)) := Lib.hid (by
            have h := HRTK.out
            rw [HST.out (fun h => heq h.2.1)] at h
            rw [h]
            simp)
          clear heq
          go_wp2
          go_ret2
          exact ⟨.slice (some ⟨g, 0, none⟩) qs.length cap, qs, by rw [HRX.out]; rfl, by rw [HRX.out], HDS.out.below HBr5.out, HB.out.trans (HBr5.out.mono HB.out.size)⟩
    · have hge : ¬ (j : Int) < (ls.length : Int) := by omega
      have HRX : Hid (RT = (qs.map Dq.d, sz)) := Lib.hid (by
        have h := HRTK.out
        rw [List.drop_eq_nil_of_le (by omega)] at h
        rw [h]
        simp [recs])
      clear hblk hql
      go_wp2
      go_ret2
      exact ⟨.slice (some ⟨g, 0, none⟩) qs.length cap, qs, by rw [HRX.out]; rfl, by rw [HRX.out], HDS.out, HB.out⟩
end Go.Proofs.YthlfpiflegfoiaaGreatDoor

namespace Go.Proofs.YthlfpiflegfoiaaGreatDoor
open Go.RowKit Go.Lib

theorem splitC_sum (c : UInt8) : ∀ l : List UInt8, ((splitC c l).map fun p => p.length + 1).sum = l.length + 1
  | [] => rfl
  | x :: l => by
    have ih := splitC_sum c l
    unfold splitC
    split
    · rw [List.map_cons, List.sum_cons, ih, List.length_cons, List.length_nil]; omega
    · split
      · rename_i a r h
        rw [h, List.map_cons, List.sum_cons] at ih
        rw [List.map_cons, List.sum_cons, List.length_cons, List.length_cons]
        omega
      · rename_i h
        exact absurd h (splitC_ne c l)
theorem sum_dropLast (L : List (List UInt8)) : ((L.dropLast).map fun p => p.length + 1).sum + (if L = [] then 0 else 1) ≤ (L.map fun p => p.length + 1).sum := by
  rcases List.eq_nil_or_concat L with rfl | ⟨xs, x, rfl⟩
  · simp
  · simp
theorem recs_le : ∀ (ls : List (List UInt8)) (last k : Nat), (recs last k ls).2 ≤ (ls.map fun p => p.length + 1).sum
  | [], _, _ => by simp [recs]
  | l :: ls, last, k => by
    by_cases hc : (deedOf (cutL 32 l).2).isSome = true ∧ (cutL 32 l).1 = itoa (chk last (cutL 32 l).2 : Nat) ∧ k < 40
    · have := recs_le ls (chk last (cutL 32 l).2) (k + 1)
      rw [recs_go hc.1 hc.2.1 hc.2.2, List.map_cons, List.sum_cons]
      show l.length + 1 + _ ≤ _
      omega
    · rw [recs_stop hc]
      exact Nat.zero_le _
theorem recT_le (t : List UInt8) : (recT t).2 ≤ t.length := by
  have h1 := recs_le (splitC 10 t).dropLast 7 0
  have h2 := sum_dropLast (splitC 10 t)
  rw [splitC_sum, if_neg (splitC_ne 10 t)] at h2
  unfold recT
  omega
theorem recT_ok (t : List UInt8) : ∀ d ∈ (recT t).1, okDeed d = true := recs_ok _ _ _
theorem recT_len (t : List UInt8) : (recT t).1.length ≤ 40 := by
  have := recs_len (splitC 10 t).dropLast 7 0
  unfold recT
  omega

theorem DsOwn.deeds {base : Nat} {w : World} {v : Value} {qs : List Dq} (h : DsOwn base w v qs) : Deeds w w.heap.size v (qs.map Dq.d) := by
  obtain ⟨A, c, hv, h1, h2, h3⟩ := SlR.of_own Dq.cells (size := 9) (fun _ => rfl) h.row
  refine ⟨A, c, by rw [hv, List.length_map], by rw [List.length_map]; exact h1, h2, fun h0 => ?_⟩
  rw [List.length_map] at h0
  obtain ⟨b, off, hA, hb, hc⟩ := h3 h0
  refine ⟨b, off, hA, hb, fun k x hx => ?_⟩
  rw [List.getElem?_map] at hx
  cases hq : qs[k]? with
  | none => rw [hq] at hx; cases hx
  | some q =>
    rw [hq] at hx
    injection hx with hx
    subst hx
    obtain ⟨us, hl, hus, hcell⟩ := hc k q hq
    have hus' : us = Dq.cells q := hus
    have hi := h.inn q (List.mem_of_getElem? hq)
    exact ⟨us, hl, ⟨q.A1, q.c1, q.A2, q.c2, hus', hi.o1.slR (size := 1) fun _ => rfl, hi.o2.slR (size := 4) fun _ => rfl, hi.sz, hi.ti⟩, hcell⟩
theorem DsOwn.nil (base : Nat) (w : World) : DsOwn base w (.slice none 0 0) [] := ⟨⟨rfl, .inl ⟨rfl, rfl⟩⟩, fun q hq => (by cases hq), fun q hq => (by cases hq), List.Pairwise.nil⟩
theorem DsOwn.len {base : Nat} {w : World} {v : Value} {qs : List Dq} (h : DsOwn base w v qs) : ∃ A c, v = .slice A qs.length c ∧ qs.length ≤ c ∧ c ≤ maxLen := own_len h.row

noncomputable def readJ (t : List UInt8) : Option (List Deed) := if t.length ≤ 40000 ∧ (recT t).2 = t.length then some (recT t).1 else none
def JP (o : Option (List Deed)) (w : World) (e : Ending) (w' : World) : Prop :=
  ∃ v qs, e = .returned (.tuple #[v, .bool o.isSome]) ∧ qs.map Dq.d = o.getD [] ∧ DsOwn w.heap.size w' v qs ∧ Below w.heap.size w w'
theorem readJ_ok (t : List UInt8) : (∀ d ∈ (readJ t).getD [], okDeed d = true) ∧ ((readJ t).getD []).length ≤ 40 := by
  unfold readJ
  split
  · exact ⟨recT_ok t, recT_len t⟩
  · exact ⟨fun d hd => (by cases hd), Nat.zero_le _⟩

set_option maxHeartbeats 1000000 in
theorem readJ1_any (s : ByteArray) (w : World) (hs9 : s.size ≤ 9223372036854775807) : Calls Tryz.prog 25 #[.string s] w (JP (readJ s.data.toList) w) := by
  have hsz : s.data.toList.length = s.size := by simp
  have hle := recT_le s.data.toList
  by_cases h4 : s.size ≤ 40000
  · have HR := Lib.hid (fun (W : World) (bw : Below w.heap.size w W) => recover1_any s W (by omega))
    unfold RecPost at HR
    have HD : Hid (readJ s.data.toList = if (recT s.data.toList).2 = s.size then some (recT s.data.toList).1 else none) := Lib.hid (by
      unfold readJ
      by_cases h : (recT s.data.toList).2 = s.size
      · rw [if_pos ⟨by omega, by omega⟩, if_pos h]
      · rw [if_neg (fun hh => h (by omega)), if_neg h])
    generalize readJ s.data.toList = O at *
    generalize recT s.data.toList = RT at *
    obtain ⟨RD, RN⟩ := RT
    simp only at hle HD
    go_enter Tryz.func25, Tryz.ntmps25
    go_wp2_with (fail)
    refine (HR.out w (Below.refl _ _)).mono ?_
    rintro e w1 ⟨v, qs, rfl, hqs, hds, hb⟩
    by_cases hn : RN = s.size
    · have t1 : ¬ (RN : Int) < (s.size : Int) := by omega
      have t2 : ((RN : Int) == (s.size : Int)) = true := by rw [hn]; simp
      have HO : Hid (O = some RD) := Lib.hid (by rw [HD.out, if_pos hn])
      have HDS := Lib.hid hds
      clear hn hds HR
      go_wp2
      go_ret2
      exact ⟨v, qs, by rw [HO.out]; rfl, by rw [HO.out]; exact hqs, HDS.out, hb⟩
    · have t1 : (RN : Int) < (s.size : Int) := by omega
      have t2 : ((RN : Int) == (s.size : Int)) = false := by simp; omega
      have HO : Hid (O = none) := Lib.hid (by rw [HD.out, if_neg hn])
      clear hn hds HR
      go_wp2
      go_ret2
      exact ⟨.slice none 0 0, [], by rw [HO.out]; rfl, by rw [HO.out]; rfl, DsOwn.nil _ _, hb⟩
  · have HO : Hid (readJ s.data.toList = none) := Lib.hid (by unfold readJ; rw [if_neg (fun hh => h4 (by omega))])
    generalize readJ s.data.toList = O at *
    have h4i : (40000 : Int) < (s.size : Int) := by omega
    go_enter Tryz.func25, Tryz.ntmps25
    go_wp2
    go_ret2
    exact ⟨.slice none 0 0, [], by rw [HO.out]; rfl, by rw [HO.out]; rfl, DsOwn.nil _ _, Below.refl _ _⟩
set_option maxHeartbeats 1000000 in
theorem readJ2_any (s : ByteArray) (w : World) (hs9 : s.size ≤ 9223372036854775807) (hE : EnvR w.heap.size w) : Calls Tryz.prog 14 #[.string s] w (JP (readJ s.data.toList) w) := by
  have E := Lib.hid hE
  clear hE
  have hsz : s.data.toList.length = s.size := by simp
  have hle := recT_le s.data.toList
  by_cases h4 : s.size ≤ 40000
  · have HR := Lib.hid (fun (W : World) (bw : Below w.heap.size w W) => recover2_any s W (by omega) ((E.out.on bw).more bw.size))
    unfold RecPost at HR
    have HD : Hid (readJ s.data.toList = if (recT s.data.toList).2 = s.size then some (recT s.data.toList).1 else none) := Lib.hid (by
      unfold readJ
      by_cases h : (recT s.data.toList).2 = s.size
      · rw [if_pos ⟨by omega, by omega⟩, if_pos h]
      · rw [if_neg (fun hh => h (by omega)), if_neg h])
    generalize readJ s.data.toList = O at *
    generalize recT s.data.toList = RT at *
    obtain ⟨RD, RN⟩ := RT
    simp only at hle HD
    go_enter Tryz.func14, Tryz.ntmps14
    go_wp2_with (fail)
    refine (HR.out w (Below.refl _ _)).mono ?_
    rintro e w1 ⟨v, qs, rfl, hqs, hds, hb⟩
    by_cases hn : RN = s.size
    · have t1 : ¬ (RN : Int) < (s.size : Int) := by omega
      have t2 : ((RN : Int) == (s.size : Int)) = true := by rw [hn]; simp
      have HO : Hid (O = some RD) := Lib.hid (by rw [HD.out, if_pos hn])
      have HDS := Lib.hid hds
      clear hn hds HR
      go_wp2
      go_ret2
      exact ⟨v, qs, by rw [HO.out]; rfl, by rw [HO.out]; exact hqs, HDS.out, hb⟩
    · have t1 : (RN : Int) < (s.size : Int) := by omega
      have t2 : ((RN : Int) == (s.size : Int)) = false := by simp; omega
      have HO : Hid (O = none) := Lib.hid (by rw [HD.out, if_neg hn])
      clear hn hds HR
      go_wp2
      go_ret2
      exact ⟨.slice none 0 0, [], by rw [HO.out]; rfl, by rw [HO.out]; rfl, DsOwn.nil _ _, hb⟩
  · have HO : Hid (readJ s.data.toList = none) := Lib.hid (by unfold readJ; rw [if_neg (fun hh => h4 (by omega))])
    generalize readJ s.data.toList = O at *
    have h4i : (40000 : Int) < (s.size : Int) := by omega
    go_enter Tryz.func14, Tryz.ntmps14
    go_wp2
    go_ret2
    exact ⟨.slice none 0 0, [], by rw [HO.out]; rfl, by rw [HO.out]; rfl, DsOwn.nil _ _, Below.refl _ _⟩

noncomputable def undoS (t : List UInt8) : Option (List UInt8) := match readJ t with | some ds => if ds = [] then none else some (jrn 7 (ds.take (ds.length - 1))) | none => none
set_option maxHeartbeats 1000000 in
theorem undo1_any (s : ByteArray) (w : World) (hs9 : s.size ≤ 9223372036854775807) : Calls Tryz.prog 15 #[.string s] w (RetB (.tuple #[.string ⟨((undoS s.data.toList).getD []).toArray⟩, .bool (undoS s.data.toList).isSome]) w) := by
  obtain ⟨hok, h40⟩ := readJ_ok s.data.toList
  have HOK := Lib.hid hok
  have HUD : Hid (undoS s.data.toList = match readJ s.data.toList with | some ds => if ds = [] then none else some (jrn 7 (ds.take (ds.length - 1))) | none => none) := Lib.hid rfl
  have HJ := Lib.hid (readJ1_any s w hs9)
  generalize undoS s.data.toList = U at *
  cases hr : readJ s.data.toList with
  | none =>
    rw [hr] at HJ HUD
    have HU : Hid (U = none) := Lib.hid HUD.out
    clear hr HOK hok
    go_enter Tryz.func15, Tryz.ntmps15
    go_wp2_with (fail)
    refine HJ.out.mono ?_
    rintro e w1 ⟨v, qs, rfl, hqs, hds, hb⟩
    clear hds
    go_wp2
    go_ret2
    exact ⟨by rw [HU.out]; rfl, hb⟩
  | some ds =>
    rw [hr] at HJ HUD HOK h40
    have HU0 : Hid (U = if ds = [] then none else some (jrn 7 (ds.take (ds.length - 1)))) := Lib.hid HUD.out
    clear hr HUD hok
    go_enter Tryz.func15, Tryz.ntmps15
    go_wp2_with (fail)
    refine HJ.out.mono ?_
    rintro e w1 ⟨v, qs, rfl, hqs, hds, hb⟩
    obtain ⟨A, c, rfl, hlc, hcm⟩ := hds.len
    unfold maxLen at hcm
    have hqs' : qs.map Dq.d = ds := hqs
    have hql : qs.length = ds.length := by rw [← hqs', List.length_map]
    have hdd := hds.deeds
    rw [hqs', hql] at hdd
    have HDD := Lib.hid hdd
    have h40' : ds.length ≤ 40 := h40
    rw [hql] at hlc ⊢
    clear hqs hqs' hds hdd hql h40 HJ
    by_cases h0 : ds = []
    · have HU : Hid (U = none) := Lib.hid (by rw [HU0.out, if_pos h0])
      have t1 : ((ds.length : Int) == 0) = true := by rw [h0]; rfl
      clear h0
      go_wp2
      go_ret2
      exact ⟨by rw [HU.out]; rfl, hb⟩
    · have HU : Hid (U = some (jrn 7 (ds.take (ds.length - 1)))) := Lib.hid (by rw [HU0.out, if_neg h0])
      have hpos : 0 < ds.length := List.length_pos_iff.2 h0
      obtain ⟨n, hn⟩ : ∃ n, ds.length = n + 1 := ⟨ds.length - 1, by omega⟩
      have HTK : Hid (Deeds w1 w1.heap.size (.slice A n c) (ds.take n)) := Lib.hid (SlR.take HDD.out n (by omega))
      have HOD : Hid (okDeeds (ds.take n) = true) := Lib.hid (by
        rw [okDeeds_iff]
        refine ⟨by rw [List.length_take]; omega, fun d hd => HOK.out d (List.mem_of_mem_take hd)⟩)
      have HB := Lib.hid hb
      have HUN : Hid (U = some (jrn 7 (ds.take n))) := Lib.hid (by rw [HU.out, hn]; rfl)
      have t1 : ((ds.length : Int) == 0) = false := by simp; omega
      rw [hn] at t1 hlc ⊢
      clear h0 hpos HU0 HU hn h40' HDD hb
      go_wp2_with (fail)
      refine (journal1_any (ds.take n) A n c w1 HTK.out HOD.out).mono ?_
      rintro e w2 ⟨rfl, hb2⟩
      have hbb := HB.out.trans (hb2.mono HB.out.size)
      clear hb2
      go_wp2
      go_ret2
      exact ⟨by rw [HUN.out]; rfl, hbb⟩
set_option maxHeartbeats 1000000 in
theorem undo2_any (s : ByteArray) (w : World) (hs9 : s.size ≤ 9223372036854775807) (hE : EnvR w.heap.size w) : Calls Tryz.prog 7 #[.string s] w (RetB (.tuple #[.string ⟨((undoS s.data.toList).getD []).toArray⟩, .bool (undoS s.data.toList).isSome]) w) := by
  have E := Lib.hid hE
  clear hE
  obtain ⟨hok, h40⟩ := readJ_ok s.data.toList
  have HOK := Lib.hid hok
  have HUD : Hid (undoS s.data.toList = match readJ s.data.toList with | some ds => if ds = [] then none else some (jrn 7 (ds.take (ds.length - 1))) | none => none) := Lib.hid rfl
  have HJ := Lib.hid (readJ2_any s w hs9 E.out)
  generalize undoS s.data.toList = U at *
  cases hr : readJ s.data.toList with
  | none =>
    rw [hr] at HJ HUD
    have HU : Hid (U = none) := Lib.hid HUD.out
    clear hr HOK hok
    go_enter Tryz.func7, Tryz.ntmps7
    go_wp2_with (fail)
    refine HJ.out.mono ?_
    rintro e w1 ⟨v, qs, rfl, hqs, hds, hb⟩
    clear hds
    go_wp2
    go_ret2
    exact ⟨by rw [HU.out]; rfl, hb⟩
  | some ds =>
    rw [hr] at HJ HUD HOK h40
    have HU0 : Hid (U = if ds = [] then none else some (jrn 7 (ds.take (ds.length - 1)))) := Lib.hid HUD.out
    clear hr HUD hok
    go_enter Tryz.func7, Tryz.ntmps7
    go_wp2_with (fail)
    refine HJ.out.mono ?_
    rintro e w1 ⟨v, qs, rfl, hqs, hds, hb⟩
    obtain ⟨A, c, rfl, hlc, hcm⟩ := hds.len
    unfold maxLen at hcm
    have hqs' : qs.map Dq.d = ds := hqs
    have hql : qs.length = ds.length := by rw [← hqs', List.length_map]
    have hdd := hds.deeds
    rw [hqs', hql] at hdd
    have HDD := Lib.hid hdd
    have h40' : ds.length ≤ 40 := h40
    rw [hql] at hlc ⊢
    clear hqs hqs' hds hdd hql h40 HJ
    by_cases h0 : ds = []
    · have HU : Hid (U = none) := Lib.hid (by rw [HU0.out, if_pos h0])
      have t1 : ((ds.length : Int) == 0) = true := by rw [h0]; rfl
      clear h0
      go_wp2
      go_ret2
      exact ⟨by rw [HU.out]; rfl, hb⟩
    · have HU : Hid (U = some (jrn 7 (ds.take (ds.length - 1)))) := Lib.hid (by rw [HU0.out, if_neg h0])
      have hpos : 0 < ds.length := List.length_pos_iff.2 h0
      obtain ⟨n, hn⟩ : ∃ n, ds.length = n + 1 := ⟨ds.length - 1, by omega⟩
      have HTK : Hid (Deeds w1 w1.heap.size (.slice A n c) (ds.take n)) := Lib.hid (SlR.take HDD.out n (by omega))
      have HOD : Hid (okDeeds (ds.take n) = true) := Lib.hid (by
        rw [okDeeds_iff]
        refine ⟨by rw [List.length_take]; omega, fun d hd => HOK.out d (List.mem_of_mem_take hd)⟩)
      have HB := Lib.hid hb
      have HUN : Hid (U = some (jrn 7 (ds.take n))) := Lib.hid (by rw [HU.out, hn]; rfl)
      have t1 : ((ds.length : Int) == 0) = false := by simp; omega
      rw [hn] at t1 hlc ⊢
      clear h0 hpos HU0 HU hn h40' HDD hb
      go_wp2_with (fail)
      refine (journal2_any (ds.take n) A n c w1 HTK.out HOD.out (env_more (E.out.env.on HB.out) HB.out.size)).mono ?_
      rintro e w2 ⟨rfl, hb2⟩
      have hbb := HB.out.trans (hb2.mono HB.out.size)
      clear hb2
      go_wp2
      go_ret2
      exact ⟨by rw [HUN.out]; rfl, hbb⟩
set_option maxHeartbeats 400000 in
theorem undoS_any (s : ByteArray) (w : World) (hs9 : s.size ≤ 9223372036854775807) : Calls Tryz.prog 6 #[.string s] w (RetB (.tuple #[.string ⟨((undoS s.data.toList).getD []).toArray⟩, .bool (undoS s.data.toList).isSome]) w) := by
  have H := Lib.hid (undo1_any s w hs9)
  generalize (undoS s.data.toList).getD [] = T at *
  generalize (undoS s.data.toList).isSome = r at *
  go_enter Tryz.func6, Tryz.ntmps6
  go_wp2_with (fail)
  refine H.out.mono ?_
  rintro e w1 ⟨rfl, hb⟩
  go_wp2
  go_ret2
  exact ⟨rfl, hb⟩

set_option maxHeartbeats 1000000 in
theorem lawUndo_any (s : ByteArray) (w : World) (hE : EnvR w.heap.size w) (hs9 : s.size ≤ maxLen) : Calls Tryz.prog 3 #[.string s] w (RetB (.bool true) w) := by
  unfold maxLen at hs9
  have hs9' : s.size ≤ 9223372036854775807 := by omega
  have E := Lib.hid hE
  have H1 := Lib.hid (undoS_any s w hs9')
  have H2 := Lib.hid (fun (W : World) (bw : Below w.heap.size w W) => undo2_any s W hs9' ((E.out.on bw).more bw.size))
  generalize (undoS s.data.toList).getD [] = T at *
  generalize (undoS s.data.toList).isSome = r at *
  clear hE
  by_cases hs : s.size ≤ 1048576
  · go_enter Tryz.func3, Tryz.ntmps3
    go_wp2_with (fail)
    refine H1.out.mono ?_
    rintro e w1 ⟨rfl, hb1⟩
    go_wp2_with (fail)
    refine (H2.out w1 hb1).mono ?_
    rintro e w2 ⟨rfl, hb2⟩
    have hbb := hb1.trans (hb2.mono hb1.size)
    clear hb1 hb2
    go_wp2
    go_ret
    exact ⟨rfl, hbb⟩
  · have h2i : (1048576 : Int) < (s.size : Int) := by omega
    go_enter Tryz.func3, Tryz.ntmps3
    go_wp2
    go_ret
    exact ⟨rfl, Below.refl _ _⟩
end Go.Proofs.YthlfpiflegfoiaaGreatDoor

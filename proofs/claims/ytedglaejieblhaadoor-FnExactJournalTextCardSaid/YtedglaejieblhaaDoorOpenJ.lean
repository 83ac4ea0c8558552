/- A slice of deeds that came in, opened. -/
import Derived.Test.YtedglaejieblhaaDoorOpen
import Derived.Test.YtedglaejieblhaaDoorLawY
namespace Go.Proofs.YtedglaejieblhaaDoor
open Go.Joins Go.ChangeShapes Go.WideShapes Go.RowKit Go.Deep

section
variable {H : Type} {enc : TypeId × Value → H} {P : Program} {w : World} {base fuel : Nat} {held : Bool} {x : DataW H × List MemPlace}
theorem deeds_of {t e ti te ie ee : TypeId} {v : Value} {fs es : Array Field} {f0 f1 f2 f3 f4 f5 f6 f7 f8 g0 g1 g2 g3 : Field} (ht : P.underlying t = some (.slice e)) (he : P.underlying e = some (.struct fs)) (hfs : fs = #[f0, f1, f2, f3, f4, f5, f6, f7, f8]) (hone : oneCellFields P fs = true) (hC : P.cellsOf e = fs.size)
    (t0 : P.underlying f0.type = some (.int .i64)) (t1 : P.underlying f1.type = some (.int .i64)) (h2 : f2.type = ti) (t2 : P.underlying ti = some (.slice ie)) (t2e : P.underlying ie = some (.int .i64)) (t2c : P.cellsOf ie = 1) (t3 : P.underlying f3.type = some .string) (t4 : P.underlying f4.type = some (.int .i64))
    (h5 : f5.type = te) (t5 : P.underlying te = some (.slice ee)) (t5e : P.underlying ee = some (.struct es)) (hes : es = #[g0, g1, g2, g3]) (hone5 : oneCellFields P es = true) (hC5 : P.cellsOf ee = es.size)
    (u0 : P.underlying g0.type = some (.int .i64)) (u1 : P.underlying g1.type = some (.int .i64)) (u2 : P.underlying g2.type = some .string) (u3 : P.underlying g3.type = some .string)
    (t6 : P.underlying f6.type = some (.int .i64)) (t7 : P.underlying f7.type = some (.int .i64)) (t8 : P.underlying f8.type = some (.int .i64))
    (h : DataW.trod enc P w base (fun _ => true) held fuel t [v] = some x) :
    ∃ A n c ds, v = .slice A n c ∧ Deeds w w.heap.size (.slice A n c) ds := by
  rcases open_slice_fields ht he hone hC h with ⟨hcs, _⟩ | ⟨a, len, cap, m, D, Pl', hcs, _, hl, hm, hmm, _, hi⟩
  · simp only [List.cons.injEq, and_true] at hcs
    exact ⟨none, 0, 0, [], hcs, SlR.nil _ _ _ _ _ _ (Nat.zero_le _)⟩
  · simp only [List.cons.injEq, and_true] at hcs
    have hmc : m = cap := by simpa using hmm
    have H : ∀ i, i < m → ∃ q : Deed × List Value, q.2.length = 9 ∧ DeedR w w.heap.size q.2 q.1 ∧ ∀ (j : Nat) (u : Value), q.2[j]? = some u → w.cell? (a.add (i * 9 + j)) = some u := by
      intro i him
      obtain ⟨ys, n, _, _, _, hf⟩ := hi i him
      subst hfs
      obtain ⟨v0, y0, c0, _, r0⟩ := hf 0 f0 rfl
      obtain ⟨v1, y1, c1, _, r1⟩ := hf 1 f1 rfl
      obtain ⟨v2, y2, c2, _, r2⟩ := hf 2 f2 rfl
      obtain ⟨v3, y3, c3, _, r3⟩ := hf 3 f3 rfl
      obtain ⟨v4, y4, c4, _, r4⟩ := hf 4 f4 rfl
      obtain ⟨v5, y5, c5, _, r5⟩ := hf 5 f5 rfl
      obtain ⟨v6, y6, c6, _, r6⟩ := hf 6 f6 rfl
      obtain ⟨v7, y7, c7, _, r7⟩ := hf 7 f7 rfl
      obtain ⟨v8, y8, c8, _, r8⟩ := hf 8 f8 rfl
      obtain ⟨k0, e0, _, _⟩ := DataW.trod_int t0 r0
      obtain ⟨k1, e1, _, _⟩ := DataW.trod_int t1 r1
      rw [h2] at r2
      obtain ⟨A2, n2, d2, zs, rfl, hI⟩ := ints_of t2 t2e t2c r2
      obtain ⟨s3, e3, _, l3⟩ := DataW.trod_string t3 r3
      obtain ⟨k4, e4, _, _⟩ := DataW.trod_int t4 r4
      rw [h5] at r5
      obtain ⟨A5, n5, d5, ed, rfl, hE, hS⟩ := edits_of t5 t5e hes hone5 hC5 u0 u1 u2 u3 r5
      obtain ⟨k6, e6, _, _⟩ := DataW.trod_int t6 r6
      obtain ⟨k7, e7, _, _⟩ := DataW.trod_int t7 r7
      obtain ⟨k8, e8, _, _⟩ := DataW.trod_int t8 r8
      simp only [List.cons.injEq, and_true] at e0 e1 e3 e4 e6 e7 e8
      subst e0 e1 e3 e4 e6 e7 e8
      obtain ⟨l2, _, _⟩ := slR_len hI
      obtain ⟨l5, _, _⟩ := slR_len hE
      subst l2 l5
      refine ⟨(⟨k0, k1, zs, s3, k4, ed, k6, k7, k8⟩, deedCells ⟨k0, k1, zs, s3, k4, ed, k6, k7, k8⟩ A2 d2 A5 d5), rfl, ⟨A2, d2, A5, d5, rfl, hI, hE, hS, l3⟩, fun j u hu => ?_⟩
      match j, hu with
      | 0, hu => injection hu with hu; subst hu; exact c0
      | 1, hu => injection hu with hu; subst hu; exact c1
      | 2, hu => injection hu with hu; subst hu; exact c2
      | 3, hu => injection hu with hu; subst hu; exact c3
      | 4, hu => injection hu with hu; subst hu; exact c4
      | 5, hu => injection hu with hu; subst hu; exact c5
      | 6, hu => injection hu with hu; subst hu; exact c6
      | 7, hu => injection hu with hu; subst hu; exact c7
      | 8, hu => injection hu with hu; subst hu; exact c8
    obtain ⟨F, hF⟩ : ∃ F : Nat → Deed × List Value, ∀ i, i < m → (F i).2.length = 9 ∧ DeedR w w.heap.size (F i).2 (F i).1 ∧ ∀ (j : Nat) (u : Value), (F i).2[j]? = some u → w.cell? (a.add (i * 9 + j)) = some u :=
      ⟨fun i => if h : i < m then Classical.choose (H i h) else (⟨0, 0, [], ⟨#[]⟩, 0, [], 0, 0, 0⟩, []), fun i hi => by simp only [dif_pos hi]; exact Classical.choose_spec (H i hi)⟩
    clear H
    have hlen : ((List.range len).map fun i => (F i).1).length = len := by simp
    have hget : ∀ (i : Nat) (d : Deed), ((List.range len).map fun i => (F i).1)[i]? = some d → i < m ∧ d = (F i).1 := by
      intro i d hd
      have hi : i < len := by have := (List.getElem?_eq_some_iff.1 hd).1; omega
      refine ⟨by omega, ?_⟩
      simp only [List.getElem?_map, List.getElem?_range hi, Option.map_some, Option.some.injEq] at hd
      exact hd.symm
    refine ⟨some a, len, cap, (List.range len).map fun i => (F i).1, hcs, ⟨some a, cap, by rw [hlen], by omega, hm, fun h0 => ?_⟩⟩
    obtain ⟨hl0, _, c0⟩ := hF 0 (by omega)
    have c00 := c0 0 ((F 0).2[0]'(by omega)) (List.getElem?_eq_getElem (by omega))
    obtain ⟨b, off, spot⟩ := a
    have hs : spot = none := by simpa [Addr.add] using spot_none c00
    subst hs
    rw [add_off] at c00
    refine ⟨b, off, rfl, block_lt c00, fun k z hk => ?_⟩
    obtain ⟨hkm, rfl⟩ := hget k z hk
    obtain ⟨hl9, hR, hc⟩ := hF k hkm
    refine ⟨(F k).2, hl9, hR, fun j u hu => ?_⟩
    have := hc j u hu
    rw [add_off] at this
    rw [Nat.add_assoc]
    exact this
end
end Go.Proofs.YtedglaejieblhaaDoor

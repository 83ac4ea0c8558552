/- Arguments opened: a struct of nine fields, a slice of numbers, a slice of edits. The law on slices of structs is turned from the kit's page on structs. -/
import Derived.Test.YtedglaejieblhaaDoorLawE
import Derived.Deep.Slices
import Derived.Deep.Fields
import Derived.ChangeSame
import Derived.ChangeSlices
import Derived.ProofKit
import Derived.OpenShut
import Derived.Lib.SmallJoins
namespace Go.Proofs.YtedglaejieblhaaDoor
open Go.Joins Go.ChangeShapes Go.WideShapes Go.RowKit Go.Deep

section
variable {H : Type} {enc : TypeId × Value → H} {P : Program} {w : World} {base : Nat} {spare : Nat → Bool} {held : Bool}
theorem open_slice_fields {t e : TypeId} {fs : Array Field} {fuel : Nat} {cs : List Value} {x : DataW H × List MemPlace} (ht : P.underlying t = some (.slice e)) (he : P.underlying e = some (.struct fs))
    (hone : oneCellFields P fs = true) (hC : P.cellsOf e = fs.size) (h : DataW.trod enc P w base spare held fuel t cs = some x) :
    (cs = [.slice none 0 0] ∧ x = (.nil, [])) ∨
    ∃ (a : Addr) (len cap m : Nat) (D : Nat → DataW H) (Pl : Nat → List MemPlace), cs = [.slice (some a) len cap] ∧ base ≤ a.block ∧ len ≤ cap ∧ cap ≤ maxLen ∧ m = (if spare a.block then cap else len) ∧
      x = (.slice ((List.range len).map D) ((List.range (m - len)).map fun j => D (len + j)), MemPlace.row a (m * fs.size) ++ (List.range m).flatMap Pl) ∧
      ∀ i, i < m → ∃ (ys : List (DataW H × List MemPlace)) (n : Nat), D i = .agg (ys.map (·.1)) ∧ Pl i = ys.flatMap (·.2) ∧ ys.length = fs.size ∧
        ∀ (j : Nat) (f : Field), fs[j]? = some f → ∃ (v : Value) (y : DataW H × List MemPlace), w.cell? (a.add (i * fs.size + j)) = some v ∧ ys[j]? = some y ∧ DataW.trod enc P w base spare held n f.type [v] = some y := by
  rcases open_slice ht h with h0 | ⟨a, len, cap, m, n, D, Pl, hcs, hb, hl, hm, hmm, hx, hi⟩
  · exact .inl h0
  · refine .inr ⟨a, len, cap, m, D, Pl, hcs, hb, hl, hm, hmm, by rw [hC] at hx; exact hx, fun i him => ?_⟩
    obtain ⟨cs', hc, ht'⟩ := hi i him
    rw [hC] at hc
    obtain ⟨ys, n', hn', hy, hlen, hyl, hf⟩ := DataW.trod_struct he ht'
    obtain ⟨_, hcl, hat⟩ := World.cells?_some hc
    simp only [Prod.mk.injEq] at hy
    refine ⟨ys, n', hy.1, hy.2, hyl, fun j f hj => ?_⟩
    obtain ⟨ho, hk⟩ := hone_of hone j f hj
    have hjl : j < fs.size := (Array.getElem?_eq_some_iff.1 hj).1
    have hcell := hat j hjl
    have hv : cs'[j]? = some (cs'[j]'(by omega)) := List.getElem?_eq_getElem (by omega)
    have h1 := hf j f hj
    rw [ho, hk] at h1
    have hone' : (cs'.drop j).take 1 = [cs'[j]'(by omega)] := by
      rw [List.drop_eq_getElem_cons (by omega)]
      rfl
    rw [hone'] at h1
    have hys : ys[j]? = some (ys[j]'(by omega)) := List.getElem?_eq_getElem (by omega)
    refine ⟨_, _, ?_, hys, h1.trans hys⟩
    rw [← Go.Deep.add_add, hcell, hv]
theorem open_agg9 {r : Reach} {b0 : Nat} {t : TypeId} {f0 f1 f2 f3 f4 f5 f6 f7 f8 : Field} {v : Value} {d : DataW H} {p : List MemPlace} (hs : P.underlying t = some (.struct #[f0, f1, f2, f3, f4, f5, f6, f7, f8])) (hone : oneCellFields P #[f0, f1, f2, f3, f4, f5, f6, f7, f8] = true) (hC : P.cellsOf t = 9)
    (hv : Value.okWide P w r b0 t v) (h : DataW.Trod enc P w base spare held t v d p) :
    ∃ (v0 v1 v2 v3 v4 v5 v6 v7 v8 : Value) (y0 y1 y2 y3 y4 y5 y6 y7 y8 : DataW H × List MemPlace) (n : Nat), v = .agg #[v0, v1, v2, v3, v4, v5, v6, v7, v8] ∧ d = .agg [y0.1, y1.1, y2.1, y3.1, y4.1, y5.1, y6.1, y7.1, y8.1] ∧ p = y0.2 ++ (y1.2 ++ (y2.2 ++ (y3.2 ++ (y4.2 ++ (y5.2 ++ (y6.2 ++ (y7.2 ++ y8.2))))))) ∧
      DataW.trod enc P w base spare held n f0.type [v0] = some y0 ∧ DataW.trod enc P w base spare held n f1.type [v1] = some y1 ∧ DataW.trod enc P w base spare held n f2.type [v2] = some y2 ∧ DataW.trod enc P w base spare held n f3.type [v3] = some y3 ∧ DataW.trod enc P w base spare held n f4.type [v4] = some y4 ∧ DataW.trod enc P w base spare held n f5.type [v5] = some y5 ∧ DataW.trod enc P w base spare held n f6.type [v6] = some y6 ∧ DataW.trod enc P w base spare held n f7.type [v7] = some y7 ∧ DataW.trod enc P w base spare held n f8.type [v8] = some y8 := by
  obtain ⟨cs, rfl, hsz⟩ := okWide_struct hs hv
  obtain ⟨l⟩ := cs
  match l, hsz.trans hC with
  | [c0, c1, c2, c3, c4, c5, c6, c7, c8], _ =>
    obtain ⟨fuel, hf⟩ := h
    obtain ⟨xs, n, _, hx, _, hlen, hg⟩ := DataW.trod_struct hs hf
    obtain ⟨o0, k0⟩ := hone_of hone 0 f0 rfl
    obtain ⟨o1, k1⟩ := hone_of hone 1 f1 rfl
    obtain ⟨o2, k2⟩ := hone_of hone 2 f2 rfl
    obtain ⟨o3, k3⟩ := hone_of hone 3 f3 rfl
    obtain ⟨o4, k4⟩ := hone_of hone 4 f4 rfl
    obtain ⟨o5, k5⟩ := hone_of hone 5 f5 rfl
    obtain ⟨o6, k6⟩ := hone_of hone 6 f6 rfl
    obtain ⟨o7, k7⟩ := hone_of hone 7 f7 rfl
    obtain ⟨o8, k8⟩ := hone_of hone 8 f8 rfl
    match xs, hlen with
    | [y0, y1, y2, y3, y4, y5, y6, y7, y8], _ =>
      simp only [Prod.mk.injEq] at hx
      exact ⟨c0, c1, c2, c3, c4, c5, c6, c7, c8, y0, y1, y2, y3, y4, y5, y6, y7, y8, n, rfl, by simpa using hx.1, by simpa using hx.2, by simpa [Value.cells, o0, k0] using hg 0 f0 rfl, by simpa [Value.cells, o1, k1] using hg 1 f1 rfl, by simpa [Value.cells, o2, k2] using hg 2 f2 rfl, by simpa [Value.cells, o3, k3] using hg 3 f3 rfl, by simpa [Value.cells, o4, k4] using hg 4 f4 rfl, by simpa [Value.cells, o5, k5] using hg 5 f5 rfl, by simpa [Value.cells, o6, k6] using hg 6 f6 rfl, by simpa [Value.cells, o7, k7] using hg 7 f7 rfl, by simpa [Value.cells, o8, k8] using hg 8 f8 rfl⟩
end

theorem spot_none {w : World} {a : Addr} {v : Value} (h : w.cell? a = some v) : a.spot = none := by simpa using World.cell?_spot h
theorem add_off (b off i : Nat) : (⟨b, off, none⟩ : Addr).add i = ⟨b, off + i, none⟩ := by
  unfold Addr.add
  by_cases h : i = 0 <;> simp [h]
theorem block_lt {w : World} {b o : Nat} {v : Value} (h : w.cell? ⟨b, o, none⟩ = some v) : b < w.heap.size := World.block_lt_of_cell? w ⟨b, o, none⟩ h

section
variable {H : Type} {enc : TypeId × Value → H} {P : Program} {w : World} {base fuel : Nat} {held : Bool} {x : DataW H × List MemPlace}
/-- A slice of numbers that came in. -/
theorem ints_of {t e : TypeId} {v : Value} (ht : P.underlying t = some (.slice e)) (he : P.underlying e = some (.int .i64)) (hc : P.cellsOf e = 1) (h : DataW.trod enc P w base (fun _ => true) held fuel t [v] = some x) :
    ∃ A n c zs, v = .slice A n c ∧ Ints w w.heap.size (.slice A n c) zs := by
  rcases open_ints ht he hc h with ⟨hcs, _⟩ | ⟨a, len, cap, zs, hcs, _, hl, hm, hz, _, hcell, _⟩
  · simp only [List.cons.injEq, and_true] at hcs
    exact ⟨none, 0, 0, [], hcs, SlR.nil _ _ _ _ _ _ (Nat.zero_le _)⟩
  · simp only [List.cons.injEq, and_true] at hcs
    have hz' : zs.length = cap := by simpa using hz
    have hlen : (zs.take len).length = len := by rw [List.length_take]; omega
    refine ⟨some a, len, cap, zs.take len, hcs, ⟨some a, cap, by rw [hlen], by omega, hm, fun h0 => ?_⟩⟩
    have h0c := hcell 0 (by omega)
    obtain ⟨b, off, spot⟩ := a
    have hs : spot = none := by simpa [Addr.add] using spot_none h0c
    subst hs
    refine ⟨b, off, rfl, ?_, fun k z hk => ⟨intCells z, rfl, rfl, fun j u hu => ?_⟩⟩
    · rw [add_off] at h0c; exact block_lt h0c
    · match j, hu with
      | 0, hu =>
        injection hu with hu
        subst hu
        have hk2 : k < len := by have := (List.getElem?_eq_some_iff.1 hk).1; omega
        have := hcell k (by omega)
        rw [add_off] at this
        rw [Nat.mul_one, Nat.add_zero, this]
        rw [List.getElem?_take, if_pos hk2] at hk
        rw [List.getD_eq_getElem?_getD, hk]
        rfl

/-- A slice of edits that came in. -/
theorem edits_of {t e : TypeId} {v : Value} {fs : Array Field} {f0 f1 f2 f3 : Field} (ht : P.underlying t = some (.slice e)) (he : P.underlying e = some (.struct fs)) (hfs : fs = #[f0, f1, f2, f3]) (hone : oneCellFields P fs = true) (hC : P.cellsOf e = fs.size)
    (t0 : P.underlying f0.type = some (.int .i64)) (t1 : P.underlying f1.type = some (.int .i64)) (t2 : P.underlying f2.type = some .string) (t3 : P.underlying f3.type = some .string)
    (h : DataW.trod enc P w base (fun _ => true) held fuel t [v] = some x) :
    ∃ A n c es, v = .slice A n c ∧ Edits w w.heap.size (.slice A n c) es ∧ SizesOk es := by
  rcases open_slice_fields ht he hone hC h with ⟨hcs, _⟩ | ⟨a, len, cap, m, D, Pl', hcs, _, hl, hm, hmm, _, hi⟩
  · simp only [List.cons.injEq, and_true] at hcs
    exact ⟨none, 0, 0, [], hcs, SlR.nil _ _ _ _ _ _ (Nat.zero_le _), fun e he => by cases he⟩
  · simp only [List.cons.injEq, and_true] at hcs
    have hmc : m = cap := by simpa using hmm
    have H : ∀ i, i < m → ∃ e : Edit, SizeOk e ∧ w.cell? (a.add (i * 4)) = some (.int .i64 e.kind) ∧ w.cell? (a.add (i * 4 + 1)) = some (.int .i64 e.id) ∧ w.cell? (a.add (i * 4 + 2)) = some (.string e.old) ∧ w.cell? (a.add (i * 4 + 3)) = some (.string e.new) := by
      intro i him
      obtain ⟨ys, n, _, _, _, hf⟩ := hi i him
      subst hfs
      obtain ⟨u0, y0, c0, _, r0⟩ := hf 0 f0 rfl
      obtain ⟨u1, y1, c1, _, r1⟩ := hf 1 f1 rfl
      obtain ⟨u2, y2, c2, _, r2⟩ := hf 2 f2 rfl
      obtain ⟨u3, y3, c3, _, r3⟩ := hf 3 f3 rfl
      obtain ⟨k0, e0, _, _⟩ := DataW.trod_int t0 r0
      obtain ⟨k1, e1, _, _⟩ := DataW.trod_int t1 r1
      obtain ⟨s2, e2, _, l2⟩ := DataW.trod_string t2 r2
      obtain ⟨s3, e3, _, l3⟩ := DataW.trod_string t3 r3
      simp only [List.cons.injEq, and_true] at e0 e1 e2 e3
      subst e0 e1 e2 e3
      exact ⟨⟨k0, k1, s2, s3⟩, ⟨l2, l3⟩, c0, c1, c2, c3⟩
    obtain ⟨F, hF⟩ : ∃ F : Nat → Edit, ∀ i, i < m → SizeOk (F i) ∧ w.cell? (a.add (i * 4)) = some (.int .i64 (F i).kind) ∧ w.cell? (a.add (i * 4 + 1)) = some (.int .i64 (F i).id) ∧ w.cell? (a.add (i * 4 + 2)) = some (.string (F i).old) ∧ w.cell? (a.add (i * 4 + 3)) = some (.string (F i).new) :=
      ⟨fun i => if h : i < m then Classical.choose (H i h) else ⟨0, 0, ⟨#[]⟩, ⟨#[]⟩⟩, fun i hi => by simp only [dif_pos hi]; exact Classical.choose_spec (H i hi)⟩
    clear H
    have hlen : ((List.range len).map F).length = len := by simp
    have hget : ∀ (i : Nat) (e : Edit), ((List.range len).map F)[i]? = some e → i < m ∧ e = F i := by
      intro i e he
      have hi : i < len := by have := (List.getElem?_eq_some_iff.1 he).1; omega
      refine ⟨by omega, ?_⟩
      simp only [List.getElem?_map, List.getElem?_range hi, Option.map_some, Option.some.injEq] at he
      exact he.symm
    refine ⟨some a, len, cap, (List.range len).map F, hcs, ⟨some a, cap, by rw [hlen], by omega, hm, fun h0 => ?_⟩, fun e he => ?_⟩
    · obtain ⟨_, c0, _⟩ := hF 0 (by omega)
      obtain ⟨b, off, spot⟩ := a
      have hs : spot = none := by simpa [Addr.add] using spot_none c0
      subst hs
      rw [add_off] at c0
      refine ⟨b, off, rfl, block_lt c0, fun k z hk => ⟨editCells z, rfl, rfl, fun j u hu => ?_⟩⟩
      obtain ⟨hkm, rfl⟩ := hget k z hk
      obtain ⟨_, d0, d1, d2, d3⟩ := hF k hkm
      simp only [add_off] at d0 d1 d2 d3
      match j, hu with
      | 0, hu => injection hu with hu; subst hu; exact d0
      | 1, hu => injection hu with hu; subst hu; rw [Nat.add_assoc]; exact d1
      | 2, hu => injection hu with hu; subst hu; rw [Nat.add_assoc]; exact d2
      | 3, hu => injection hu with hu; subst hu; rw [Nat.add_assoc]; exact d3
    · obtain ⟨i, hi⟩ := List.getElem?_of_mem he
      obtain ⟨him, rfl⟩ := hget i e hi
      exact (hF i him).1
end
end Go.Proofs.YtedglaejieblhaaDoor

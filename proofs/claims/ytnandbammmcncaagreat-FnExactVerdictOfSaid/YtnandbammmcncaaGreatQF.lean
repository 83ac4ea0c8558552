/- Arguments opened: an assembly (a struct of six fields; slices of slices, of articles, of acts, of motions). A statute, the reference's test of any; acts, the program's test of any; a base and acts, the reference's test of any. A motion, the reference's test, walked. slices.IndexFunc and ContainsFunc at int64 and at motions, walked; the votes of a motion, the program's test of a motion. An assembly, the reference's test, walked. An assembly, the program's test, walked. An assembly, the program's test, walked whole. Equality of assemblies, walked: the statements' own functions. -/
import Derived.Test.YtnandbammmcncaaGreatQE
import Derived.Test.YtnandbammmcncaaGreatQC
import Derived.Test.YtnandbammmcncaaGreatQB
import Derived.Deep.RegionHeld3
namespace Go.Proofs.YtnandbammmcncaaGreat
open Go.Joins Go.ChangeShapes Go.WideShapes Go.RowKit Go.Deep

section
variable {H : Type} {enc : TypeId × Value → H} {P : Program} {w : World} {base : Nat} {spare : Nat → Bool} {held : Bool}
theorem open_agg6 {r : Reach} {b0 : Nat} {t : TypeId} {f0 f1 f2 f3 f4 f5 : Field} {v : Value} {d : DataW H} {p : List MemPlace} (hs : P.underlying t = some (.struct #[f0, f1, f2, f3, f4, f5])) (hone : oneCellFields P #[f0, f1, f2, f3, f4, f5] = true) (hC : P.cellsOf t = 6)
    (hv : Value.okWide P w r b0 t v) (h : DataW.Trod enc P w base spare held t v d p) :
    ∃ (v0 v1 v2 v3 v4 v5 : Value) (y0 y1 y2 y3 y4 y5 : DataW H × List MemPlace) (n : Nat), v = .agg #[v0, v1, v2, v3, v4, v5] ∧ d = .agg [y0.1, y1.1, y2.1, y3.1, y4.1, y5.1] ∧ p = y0.2 ++ (y1.2 ++ (y2.2 ++ (y3.2 ++ (y4.2 ++ y5.2)))) ∧
      DataW.trod enc P w base spare held n f0.type [v0] = some y0 ∧ DataW.trod enc P w base spare held n f1.type [v1] = some y1 ∧ DataW.trod enc P w base spare held n f2.type [v2] = some y2 ∧ DataW.trod enc P w base spare held n f3.type [v3] = some y3 ∧ DataW.trod enc P w base spare held n f4.type [v4] = some y4 ∧ DataW.trod enc P w base spare held n f5.type [v5] = some y5 := by
  obtain ⟨cs, rfl, hsz⟩ := okWide_struct hs hv
  obtain ⟨l⟩ := cs
  match l, hsz.trans hC with
  | [c0, c1, c2, c3, c4, c5], _ =>
    obtain ⟨fuel, hf⟩ := h
    obtain ⟨xs, n, _, hx, _, hlen, hg⟩ := DataW.trod_struct hs hf
    obtain ⟨o0, k0⟩ := hone_of hone 0 f0 rfl
    obtain ⟨o1, k1⟩ := hone_of hone 1 f1 rfl
    obtain ⟨o2, k2⟩ := hone_of hone 2 f2 rfl
    obtain ⟨o3, k3⟩ := hone_of hone 3 f3 rfl
    obtain ⟨o4, k4⟩ := hone_of hone 4 f4 rfl
    obtain ⟨o5, k5⟩ := hone_of hone 5 f5 rfl
    match xs, hlen with
    | [y0, y1, y2, y3, y4, y5], _ =>
      simp only [Prod.mk.injEq] at hx
      exact ⟨c0, c1, c2, c3, c4, c5, y0, y1, y2, y3, y4, y5, n, rfl, by simpa using hx.1, by simpa using hx.2, by simpa [Value.cells, o0, k0] using hg 0 f0 rfl, by simpa [Value.cells, o1, k1] using hg 1 f1 rfl, by simpa [Value.cells, o2, k2] using hg 2 f2 rfl, by simpa [Value.cells, o3, k3] using hg 3 f3 rfl, by simpa [Value.cells, o4, k4] using hg 4 f4 rfl, by simpa [Value.cells, o5, k5] using hg 5 f5 rfl⟩
end
theorem gather {β : Type} {f : β → List Value} {size : Nat} (hf : ∀ x, (f x).length = size) (hs : 0 < size) {Q : β → Prop} {w : World} {a : Addr} {len cap m : Nat} (hl : len ≤ cap) (hm : cap ≤ maxLen) (hmc : m = cap)
    (H : ∀ i, i < m → ∃ q : β, Q q ∧ ∀ (j : Nat) (u : Value), (f q)[j]? = some u → w.cell? (a.add (i * size + j)) = some u) :
    ∃ L : List β, SlR (Pl f) size w w.heap.size (.slice (some a) len cap) L ∧ (∀ x ∈ L, Q x) ∧ L.length = len := by
  by_cases h0 : len = 0
  · subst h0
    exact ⟨[], SlR.nil _ _ _ _ _ _ hm, (fun x hx => by cases hx), rfl⟩
  · obtain ⟨q0, hq0, hc0⟩ := H 0 (by omega)
    obtain ⟨F, hF⟩ : ∃ F : Nat → β, ∀ i, i < m → Q (F i) ∧ ∀ (j : Nat) (u : Value), (f (F i))[j]? = some u → w.cell? (a.add (i * size + j)) = some u :=
      ⟨fun i => if h : i < m then Classical.choose (H i h) else q0, fun i hi => by simp only [dif_pos hi]; exact Classical.choose_spec (H i hi)⟩
    clear H
    have hlen : ((List.range len).map F).length = len := by simp
    have hget : ∀ (i : Nat) (d : β), ((List.range len).map F)[i]? = some d → i < m ∧ d = F i := by
      intro i d hd
      have hi : i < len := by have := (List.getElem?_eq_some_iff.1 hd).1; omega
      refine ⟨by omega, ?_⟩
      simp only [List.getElem?_map, List.getElem?_range hi, Option.map_some, Option.some.injEq] at hd
      exact hd.symm
    have c00 := hc0 0 ((f q0)[0]'(by rw [hf]; exact hs)) (List.getElem?_eq_getElem (by rw [hf]; exact hs))
    obtain ⟨b, off, spot⟩ := a
    have hsp : spot = none := by simpa [Addr.add] using spot_none c00
    subst hsp
    rw [add_off] at c00
    refine ⟨(List.range len).map F, ⟨some ⟨b, off, none⟩, cap, by rw [hlen], by omega, hm, fun _ => ⟨b, off, rfl, block_lt c00, fun k z hk => ?_⟩⟩, fun x hx => ?_, hlen⟩
    · obtain ⟨hkm, rfl⟩ := hget k z hk
      refine ⟨f (F k), hf _, rfl, fun j u hu => ?_⟩
      have := (hF k hkm).2 j u hu
      rw [add_off] at this
      rw [Nat.add_assoc]
      exact this
    · obtain ⟨i, hi⟩ := List.getElem?_of_mem hx
      obtain ⟨him, rfl⟩ := hget i x hi
      exact (hF i him).1

section
variable {H : Type} {enc : TypeId × Value → H} {P : Program} {w : World} {base fuel : Nat} {held : Bool} {x : DataW H × List MemPlace}
theorem rows_of {t e ee : TypeId} {v : Value} (ht : P.underlying t = some (.slice e)) (he : P.underlying e = some (.slice ee)) (hee : P.underlying ee = some (.int .i64)) (hC : P.cellsOf e = 1) (hCe : P.cellsOf ee = 1)
    (h : DataW.trod enc P w base (fun _ => true) held fuel t [v] = some x) : ∃ ls, RowsR w w.heap.size v ls := by
  rcases open_slice ht h with ⟨hcs, _⟩ | ⟨a, len, cap, m, n, D, Pl', hcs, _, hl, hm, hmm, _, hi⟩
  · simp only [List.cons.injEq, and_true] at hcs
    rw [hcs]
    exact ⟨[], [], rfl, SlR.nil _ _ _ _ _ _ (Nat.zero_le _), fun x hx => by cases hx⟩
  · simp only [List.cons.injEq, and_true] at hcs
    have hmc : m = cap := by simpa using hmm
    rw [hcs]
    obtain ⟨L, h1, h2, h3⟩ := gather (f := rCells) (size := 1) (fun _ => rfl) (by omega) (Q := fun q : VRow => Ints w w.heap.size q.v q.a) (a := a) hl hm hmc (fun i him => by
      obtain ⟨cs', hc, ht'⟩ := hi i him
      rw [hC] at hc
      obtain ⟨_, hcl, hat⟩ := World.cells?_some hc
      match cs', hcl with
      | [c0], _ =>
        obtain ⟨A, n', c', zs, rfl, hI⟩ := ints_of he hee hCe ht'
        refine ⟨⟨zs, .slice A n' c'⟩, hI, fun j u hu => ?_⟩
        match j, hu with
        | 0, hu =>
          injection hu with hu
          subst hu
          have := hat 0 (by simp)
          rw [← Go.Deep.add_add]
          exact this)
    exact ⟨L.map (·.a), L, rfl, h1, h2⟩
theorem arts_of {t e : TypeId} {v : Value} {fs : Array Field} {f0 f1 : Field} (ht : P.underlying t = some (.slice e)) (he : P.underlying e = some (.struct fs)) (hfs : fs = #[f0, f1]) (hone : oneCellFields P fs = true) (hC : P.cellsOf e = fs.size)
    (t0 : P.underlying f0.type = some (.int .i64)) (t1 : P.underlying f1.type = some .string) (h : DataW.trod enc P w base (fun _ => true) held fuel t [v] = some x) :
    ∃ ls, Arts w w.heap.size v ls ∧ ∀ a ∈ ls, a.text.size ≤ maxLen := by
  rcases open_slice_fields ht he hone hC h with ⟨hcs, _⟩ | ⟨a, len, cap, m, D, Pl', hcs, _, hl, hm, hmm, _, hi⟩
  · simp only [List.cons.injEq, and_true] at hcs
    rw [hcs]
    exact ⟨[], SlR.nil _ _ _ _ _ _ (Nat.zero_le _), fun x hx => by cases hx⟩
  · simp only [List.cons.injEq, and_true] at hcs
    have hmc : m = cap := by simpa using hmm
    rw [hcs]
    obtain ⟨L, h1, h2, h3⟩ := gather (f := artCells) (size := 2) (fun _ => rfl) (by omega) (Q := fun q : Art => q.text.size ≤ maxLen) (a := a) hl hm hmc (fun i him => by
      obtain ⟨ys, n, _, _, _, hf⟩ := hi i him
      subst hfs
      obtain ⟨u0, y0, c0, _, r0⟩ := hf 0 f0 rfl
      obtain ⟨u1, y1, c1, _, r1⟩ := hf 1 f1 rfl
      obtain ⟨k0, e0, _, _⟩ := DataW.trod_int t0 r0
      obtain ⟨s1, e1, _, l1⟩ := DataW.trod_string t1 r1
      simp only [List.cons.injEq, and_true] at e0 e1
      subst e0 e1
      refine ⟨⟨k0, s1⟩, l1, fun j u hu => ?_⟩
      match j, hu with
      | 0, hu => injection hu with hu; subst hu; exact c0
      | 1, hu => injection hu with hu; subst hu; exact c1)
    exact ⟨L, h1, h2⟩
theorem acts_of {t e te ee : TypeId} {v : Value} {fs es : Array Field} {f0 f1 f2 g0 g1 g2 g3 : Field} (ht : P.underlying t = some (.slice e)) (he : P.underlying e = some (.struct fs)) (hfs : fs = #[f0, f1, f2]) (hone : oneCellFields P fs = true) (hC : P.cellsOf e = fs.size)
    (t0 : P.underlying f0.type = some (.int .i64)) (t1 : P.underlying f1.type = some (.int .i64)) (h2 : f2.type = te) (t2 : P.underlying te = some (.slice ee)) (t2e : P.underlying ee = some (.struct es)) (hes : es = #[g0, g1, g2, g3]) (hone2 : oneCellFields P es = true) (hC2 : P.cellsOf ee = es.size)
    (u0 : P.underlying g0.type = some (.int .i64)) (u1 : P.underlying g1.type = some (.int .i64)) (u2 : P.underlying g2.type = some .string) (u3 : P.underlying g3.type = some .string)
    (h : DataW.trod enc P w base (fun _ => true) held fuel t [v] = some x) : ∃ ls, Acts w w.heap.size v ls ∧ ActsSz ls := by
  rcases open_slice_fields ht he hone hC h with ⟨hcs, _⟩ | ⟨a, len, cap, m, D, Pl', hcs, _, hl, hm, hmm, _, hi⟩
  · simp only [List.cons.injEq, and_true] at hcs
    rw [hcs]
    exact ⟨[], ⟨[], rfl, SlR.nil _ _ _ _ _ _ (Nat.zero_le _), fun x hx => by cases hx⟩, fun x hx => by cases hx⟩
  · simp only [List.cons.injEq, and_true] at hcs
    have hmc : m = cap := by simpa using hmm
    rw [hcs]
    obtain ⟨L, h1, h2', h3⟩ := gather (f := vCells) (size := 3) (fun _ => rfl) (by omega) (Q := fun q : VAct => Edits w w.heap.size q.v q.a.pat ∧ SizesOk q.a.pat) (a := a) hl hm hmc (fun i him => by
      obtain ⟨ys, n, _, _, _, hf⟩ := hi i him
      subst hfs
      obtain ⟨w0, y0, c0, _, r0⟩ := hf 0 f0 rfl
      obtain ⟨w1, y1, c1, _, r1⟩ := hf 1 f1 rfl
      obtain ⟨w2, y2, c2, _, r2⟩ := hf 2 f2 rfl
      obtain ⟨k0, e0, _, _⟩ := DataW.trod_int t0 r0
      obtain ⟨k1, e1, _, _⟩ := DataW.trod_int t1 r1
      rw [h2] at r2
      obtain ⟨A5, n5, d5, ed, rfl, hE, hS⟩ := edits_of t2 t2e hes hone2 hC2 u0 u1 u2 u3 r2
      simp only [List.cons.injEq, and_true] at e0 e1
      subst e0 e1
      refine ⟨⟨⟨k0, k1, ed⟩, .slice A5 n5 d5⟩, ⟨hE, hS⟩, fun j u hu => ?_⟩
      match j, hu with
      | 0, hu => injection hu with hu; subst hu; exact c0
      | 1, hu => injection hu with hu; subst hu; exact c1
      | 2, hu => injection hu with hu; subst hu; exact c2)
    exact ⟨L.map (·.a), ⟨L, rfl, h1, fun x hx => (h2' x hx).1⟩, fun y hy => by
      obtain ⟨x, hx, rfl⟩ := List.mem_map.1 hy
      exact (h2' x hx).2⟩
theorem mots_of {t e te ti ie ee : TypeId} {v : Value} {fs es : Array Field} {f0 f1 f2 f3 f4 f5 f6 f7 g0 g1 g2 g3 : Field} (ht : P.underlying t = some (.slice e)) (he : P.underlying e = some (.struct fs)) (hfs : fs = #[f0, f1, f2, f3, f4, f5, f6, f7]) (hone : oneCellFields P fs = true) (hC : P.cellsOf e = fs.size)
    (t0 : P.underlying f0.type = some .string) (t1 : P.underlying f1.type = some (.int .i64)) (h2 : f2.type = te) (t2 : P.underlying te = some (.slice ee)) (t2e : P.underlying ee = some (.struct es)) (hes : es = #[g0, g1, g2, g3]) (hone2 : oneCellFields P es = true) (hC2 : P.cellsOf ee = es.size)
    (u0 : P.underlying g0.type = some (.int .i64)) (u1 : P.underlying g1.type = some (.int .i64)) (u2 : P.underlying g2.type = some .string) (u3 : P.underlying g3.type = some .string)
    (t3 : P.underlying f3.type = some (.int .i64)) (t4 : P.underlying f4.type = some (.int .i64)) (t5 : P.underlying f5.type = some (.int .i64)) (h6 : f6.type = ti) (t6 : P.underlying ti = some (.slice ie)) (t6e : P.underlying ie = some (.int .i64)) (t6c : P.cellsOf ie = 1) (t7 : P.underlying f7.type = some (.int .i64))
    (h : DataW.trod enc P w base (fun _ => true) held fuel t [v] = some x) : ∃ ls, Mots w w.heap.size v ls ∧ ∀ a ∈ ls, a.title.size ≤ maxLen ∧ SizesOk a.pat := by
  rcases open_slice_fields ht he hone hC h with ⟨hcs, _⟩ | ⟨a, len, cap, m, D, Pl', hcs, _, hl, hm, hmm, _, hi⟩
  · simp only [List.cons.injEq, and_true] at hcs
    rw [hcs]
    exact ⟨[], ⟨[], rfl, SlR.nil _ _ _ _ _ _ (Nat.zero_le _), fun x hx => by cases hx⟩, fun x hx => by cases hx⟩
  · simp only [List.cons.injEq, and_true] at hcs
    have hmc : m = cap := by simpa using hmm
    rw [hcs]
    obtain ⟨L, h1, h2', h3⟩ := gather (f := mCells) (size := 8) (fun _ => rfl) (by omega) (Q := fun q : VMot => (Edits w w.heap.size q.p q.a.pat ∧ Ints w w.heap.size q.t q.a.votes) ∧ q.a.title.size ≤ maxLen ∧ SizesOk q.a.pat) (a := a) hl hm hmc (fun i him => by
      obtain ⟨ys, n, _, _, _, hf⟩ := hi i him
      subst hfs
      obtain ⟨w0, y0, c0, _, r0⟩ := hf 0 f0 rfl
      obtain ⟨w1, y1, c1, _, r1⟩ := hf 1 f1 rfl
      obtain ⟨w2, y2, c2, _, r2⟩ := hf 2 f2 rfl
      obtain ⟨w3, y3, c3, _, r3⟩ := hf 3 f3 rfl
      obtain ⟨w4, y4, c4, _, r4⟩ := hf 4 f4 rfl
      obtain ⟨w5, y5, c5, _, r5⟩ := hf 5 f5 rfl
      obtain ⟨w6, y6, c6, _, r6⟩ := hf 6 f6 rfl
      obtain ⟨w7, y7, c7, _, r7⟩ := hf 7 f7 rfl
      obtain ⟨s0, e0, _, l0⟩ := DataW.trod_string t0 r0
      obtain ⟨k1, e1, _, _⟩ := DataW.trod_int t1 r1
      rw [h2] at r2
      obtain ⟨A5, n5, d5, ed, rfl, hE, hS⟩ := edits_of t2 t2e hes hone2 hC2 u0 u1 u2 u3 r2
      obtain ⟨k3, e3, _, _⟩ := DataW.trod_int t3 r3
      obtain ⟨k4, e4, _, _⟩ := DataW.trod_int t4 r4
      obtain ⟨k5, e5, _, _⟩ := DataW.trod_int t5 r5
      rw [h6] at r6
      obtain ⟨A6, n6, d6, zs, rfl, hI⟩ := ints_of t6 t6e t6c r6
      obtain ⟨k7, e7, _, _⟩ := DataW.trod_int t7 r7
      simp only [List.cons.injEq, and_true] at e0 e1 e3 e4 e5 e7
      subst e0 e1 e3 e4 e5 e7
      refine ⟨⟨⟨s0, k1, ed, k3, k4, k5, zs, k7⟩, .slice A5 n5 d5, .slice A6 n6 d6⟩, ⟨⟨hE, hI⟩, l0, hS⟩, fun j u hu => ?_⟩
      match j, hu with
      | 0, hu => injection hu with hu; subst hu; exact c0
      | 1, hu => injection hu with hu; subst hu; exact c1
      | 2, hu => injection hu with hu; subst hu; exact c2
      | 3, hu => injection hu with hu; subst hu; exact c3
      | 4, hu => injection hu with hu; subst hu; exact c4
      | 5, hu => injection hu with hu; subst hu; exact c5
      | 6, hu => injection hu with hu; subst hu; exact c6
      | 7, hu => injection hu with hu; subst hu; exact c7)
    exact ⟨L.map (·.a), ⟨L, rfl, h1, fun x hx => (h2' x hx).1⟩, fun y hy => by
      obtain ⟨x, hx, rfl⟩ := List.mem_map.1 hy
      exact (h2' x hx).2⟩
end
section
variable {H : Type} {enc : TypeId × Value → H} {w : World} {held : Bool}
set_option maxRecDepth 100000 in
theorem asm_of {r : Reach} {b0 : Nat} {v : Value} {d : DataW H} {p : List MemPlace} (hv : Value.okWide Tryz.prog w r b0 27 v) (h : DataW.Trod enc Tryz.prog w 0 (fun _ => true) held 27 v d p) :
    ∃ x a, v = asmV a x ∧ AsmR w w.heap.size x a ∧ AsmSz a := by
  obtain ⟨v0, v1, v2, v3, v4, v5, y0, y1, y2, y3, y4, y5, n, rfl, rfl, rfl, r0, r1, r2, r3, r4, r5⟩ := open_agg6 Tryz.underlying27 (by kernel_rfl) (by kernel_rfl) hv h
  obtain ⟨k0, e0, _, _⟩ := DataW.trod_int (show Tryz.prog.underlying 2 = _ from Tryz.underlying2) r0
  obtain ⟨k1, e1, _, _⟩ := DataW.trod_int (show Tryz.prog.underlying 2 = _ from Tryz.underlying2) r1
  obtain ⟨lt, ht⟩ := rows_of (t := 22) Tryz.underlying22 Tryz.underlying29 Tryz.underlying2 (by kernel_rfl) (by kernel_rfl) r2
  obtain ⟨lb, hb, sb⟩ := arts_of (t := 23) Tryz.underlying23 Tryz.underlying126 rfl (by kernel_rfl) (by kernel_rfl) Tryz.underlying2 Tryz.underlying9 r3
  obtain ⟨lc, hc, sc⟩ := acts_of (t := 24) Tryz.underlying24 Tryz.underlying129 rfl (by kernel_rfl) (by kernel_rfl) Tryz.underlying2 Tryz.underlying2 rfl Tryz.underlying47 Tryz.underlying157 rfl (by kernel_rfl) (by kernel_rfl) Tryz.underlying2 Tryz.underlying2 Tryz.underlying9 Tryz.underlying9 r4
  obtain ⟨lm, hm, sm⟩ := mots_of (t := 25) Tryz.underlying25 Tryz.underlying132 rfl (by kernel_rfl) (by kernel_rfl) Tryz.underlying9 Tryz.underlying2 rfl Tryz.underlying47 Tryz.underlying157 rfl (by kernel_rfl) (by kernel_rfl) Tryz.underlying2 Tryz.underlying2 Tryz.underlying9 Tryz.underlying9 Tryz.underlying2 Tryz.underlying2 Tryz.underlying2 rfl Tryz.underlying29 Tryz.underlying2 (by kernel_rfl) Tryz.underlying2 r5
  simp only [List.cons.injEq, and_true] at e0 e1
  subst e0 e1
  exact ⟨⟨v2, v3, v4, v5⟩, ⟨k0, k1, lt, lb, lc, lm⟩, rfl, ⟨ht, hb, hc, hm⟩, ⟨sb, sc, sm⟩⟩
end
end Go.Proofs.YtnandbammmcncaaGreat

namespace Go.Proofs.YtnandbammmcncaaGreat
open Go.RowKit Go.Lib

set_option maxHeartbeats 4000000 in
theorem stat1_any (es : List Art) (w : World) (v : Value) (h : Arts w w.heap.size v es) (hs : ∀ a ∈ es, a.text.size ≤ maxLen) :
    Calls Tryz.prog 151 #[v] w (RetB (.bool (okStat es)) w) := by
  obtain ⟨A, c, rfl, hc, hm, hel⟩ := h
  unfold maxLen at hm
  have hlm : es.length ≤ 9223372036854775807 := by omega
  have HEL := Lib.hid hel
  have HS := Lib.hid hs
  clear hel hs
  refine calls_aft fun x0 => ?_
  go_enter Tryz.func151, Tryz.ntmps151
  go_wp2
  go_loopw [3] (fun i wr => ∃ (k : Nat) (x : Aft w), k ≤ es.length ∧ i = .int .i64 (k : Int) ∧ allLt k (statAt es) = true ∧ wr = x.val) (fun i _ => es.length - (RowKit.intOf i).toNat)
  case atStart => exact ⟨0, x0, Nat.zero_le _, rfl, rfl, rfl⟩
  case round =>
    obtain ⟨k, x, hk, rfl, hall, rfl⟩ := hrel
    have HA := Lib.hid hall
    clear hall
    by_cases hlt : k < es.length
    · obtain ⟨b, off, rfl, hblt, hcell⟩ := HEL.out (by omega)
      have hget : es[k]? = some es[k] := List.getElem?_eq_getElem hlt
      obtain ⟨c0, c1⟩ := arts_at hcell hget
      have hsz := HS.out es[k] (List.getElem_mem hlt)
      have z0 := fun y : Aft w => y.cell c0
      have z1 := fun y : Aft w => y.cell c1
      have HG := Lib.hid hget
      have HC := Lib.hid hcell
      clear hget hcell c0 c1
      generalize es[k] = e at *
      cases ho1 : inB e.id 1 99 with
      | false =>
        have HBAD := Lib.hid (okStat_bad hlt (statAt_bad HG.out (okArt_1 ho1)))
        go_wp2_with (fail)
        refine wp_region_at (by kernel_rfl) (by kernel_rfl) ?_
        repeat (go_big_quiet_step ((first | (go_at_call 48; exact aft_q (in1_val _ _ _ _ _ (by assumption))) | (go_at_call 173; exact aft_q (sent1_val _ _ _ hsz (by assumption))))))
        refine wpQuiet_nil ?_
        rintro _ ⟨y, rfl⟩
        go_wp2
        go_ret
        exact ⟨by rw [HBAD.out]; rfl, y.ok⟩
      | true =>
        cases ho2 : okSent e.text.toList with
        | false =>
          have HBAD := Lib.hid (okStat_bad hlt (statAt_bad HG.out (okArt_2 ho2)))
          go_wp2_with (fail)
          refine wp_region_at (by kernel_rfl) (by kernel_rfl) ?_
          repeat (go_big_quiet_step ((first | (go_at_call 48; exact aft_q (in1_val _ _ _ _ _ (by assumption))) | (go_at_call 173; exact aft_q (sent1_val _ _ _ hsz (by assumption))))))
          refine wpQuiet_nil ?_
          rintro _ ⟨y, rfl⟩
          go_wp2
          go_ret
          exact ⟨by rw [HBAD.out]; rfl, y.ok⟩
        | true =>
          have HO := Lib.hid (okArt_3 ho1 ho2)
          have HSU := allLt_succ k (statAt es)
          rw [HA.out, Bool.true_and] at HSU
          have HSU := Lib.hid HSU
          by_cases hk0 : k = 0
          · have HN : Hid (allLt (k + 1) (statAt es) = true) := Lib.hid (HSU.out.trans (statAt_zero hk0 HG.out HO.out))
            have hk1 : decide ((0 : Int) < (k : Int)) = false := by simp; omega
            have hk2 : decide (0 < k) = false := by simp; omega
            clear hk0
            go_wp2_with (fail)
            refine wp_region_at (by kernel_rfl) (by kernel_rfl) ?_
            repeat (go_big_quiet_step ((first | (go_at_call 48; exact aft_q (in1_val _ _ _ _ _ (by assumption))) | (go_at_call 173; exact aft_q (sent1_val _ _ _ hsz (by assumption))))))
            refine wpQuiet_nil ?_
            rintro _ ⟨y, rfl⟩
            go_wp2
            go_roundw
            case rel => exact ⟨k + 1, y, by omega, by go_num, HN.out, rfl⟩
            case measure => simp [RowKit.intOf]; omega
          · obtain ⟨m, rfl⟩ : ∃ m, k = m + 1 := ⟨k - 1, by omega⟩
            have hd : es[m]? = some (es[m]'(by omega)) := List.getElem?_eq_getElem (by omega)
            obtain ⟨d1, _⟩ := arts_at HC.out hd
            generalize (es[m]'(by omega)) = d at *
            have HP := Lib.hid (statAt_succ hd HG.out HO.out)
            have z4 := fun y : Aft w => y.cell d1
            clear hd hk0 d1
            by_cases hid : d.id < e.id
            · have HN : Hid (allLt (m + 1 + 1) (statAt es) = true) := Lib.hid (HSU.out.trans (HP.out.trans (decide_eq_true hid)))
              have hid2 : ¬ (e.id ≤ d.id) := by omega
              go_wp2_with (fail)
              refine wp_region_at (by kernel_rfl) (by kernel_rfl) ?_
              repeat (go_big_quiet_step ((first | (go_at_call 48; exact aft_q (in1_val _ _ _ _ _ (by assumption))) | (go_at_call 173; exact aft_q (sent1_val _ _ _ hsz (by assumption))))))
              refine wpQuiet_nil ?_
              rintro _ ⟨y, rfl⟩
              go_wp2
              go_roundw
              case rel => exact ⟨(m + 1) + 1, y, by omega, by go_num, HN.out, rfl⟩
              case measure => simp [RowKit.intOf]; omega
            · have HBAD := Lib.hid (okStat_bad hlt (HP.out.trans (decide_eq_false hid)))
              have hid2 : e.id ≤ d.id := by omega
              go_wp2_with (fail)
              refine wp_region_at (by kernel_rfl) (by kernel_rfl) ?_
              repeat (go_big_quiet_step ((first | (go_at_call 48; exact aft_q (in1_val _ _ _ _ _ (by assumption))) | (go_at_call 173; exact aft_q (sent1_val _ _ _ hsz (by assumption))))))
              refine wpQuiet_nil ?_
              rintro _ ⟨y, rfl⟩
              go_wp2
              go_ret
              exact ⟨by rw [HBAD.out]; rfl, y.ok⟩
    · have hk' : k = es.length := by omega
      have hP : okStat es = decide (es.length ≤ 8) := by
        unfold okStat
        rw [← hk', HA.out, Bool.true_and]
      have HP := Lib.hid hP
      have hge : ¬ (k : Int) < (es.length : Int) := by omega
      clear hP hk' hlt
      by_cases h16 : es.length ≤ 8
      · have e16 : decide ((es.length : Int) ≤ 8) = true := by simp; omega
        have H16 := Lib.hid h16
        clear h16
        go_wp2
        go_ret
        exact ⟨by rw [HP.out]; simp [H16.out], x.ok⟩
      · have e16 : decide ((es.length : Int) ≤ 8) = false := by simp; omega
        have H16 := Lib.hid h16
        clear h16
        go_wp2
        go_ret
        exact ⟨by rw [HP.out]; simp [H16.out], x.ok⟩

theorem actAt_ord {L : List Acta} {m : Nat} {d a : Acta} (hd : L[m]? = some d) (h : L[m + 1]? = some a) (hn : ¬ d.beg ≤ a.beg) : actAt L (m + 1) = false := by
  unfold actAt begAt
  rw [h]
  simp [hd, hn]
set_option maxHeartbeats 4000000 in
theorem acts2_all (ls : List Acta) (w : World) (v : Value) (h : Acts w w.heap.size v ls) (hs : ActsSz ls) :
    Calls Tryz.prog 139 #[v] w (RetB (.bool (okActs ls)) w) := by
  obtain ⟨A, c, rfl, hc, hm, hel⟩ := acts_at h
  unfold maxLen at hm
  have hlm : ls.length ≤ 9223372036854775807 := by omega
  have HEL := Lib.hid hel
  have HS := Lib.hid hs
  clear hel hs h
  go_enter Tryz.func139, Tryz.ntmps139
  go_wp2
  go_loopw [3, 4, 7] (fun _ _ i wr => ∃ k : Nat, k ≤ ls.length ∧ i = .int .i64 (k : Int) ∧ allLt k (actAt ls) = true ∧ Below w.heap.size w wr) (fun _ _ i _ => ls.length - (RowKit.intOf i).toNat)
  case atStart => exact ⟨0, Nat.zero_le _, rfl, rfl, Below.refl _ _⟩
  case round =>
    obtain ⟨k, hk, rfl, hall, hb⟩ := hrel
    have HA := Lib.hid hall
    have HB := Lib.hid hb
    clear hall
    by_cases hlt : k < ls.length
    · obtain ⟨b, off, rfl, hblt, hcell⟩ := HEL.out (by omega)
      have hget : ls[k]? = some ls[k] := List.getElem?_eq_getElem hlt
      obtain ⟨pv, c0, c1, c2, hE⟩ := hcell k _ hget
      have HE := Lib.hid hE
      obtain ⟨pA, pc, rfl, _⟩ := hE
      have x0 := (hb.cell (p := ⟨b, off + k * 3, none⟩) hblt).trans c0
      have x1 := (hb.cell (p := ⟨b, off + k * 3 + 1, none⟩) hblt).trans c1
      have x2 := (hb.cell (p := ⟨b, off + k * 3 + 2, none⟩) hblt).trans c2
      have HG := Lib.hid hget
      have HC := Lib.hid hcell
      have hso := HS.out ls[k] (List.getElem_mem hlt)
      clear hget hcell c0 c1 c2 hb
      generalize ls[k] = a at *
      cases ho1 : inB a.beg 0 1000 with
      | false =>
        have HBAD := Lib.hid (okActs_bad hlt (actAt_bad HG.out (okActa_1 ho1)))
        go_upto_region 4 with (fail)
        obtain ⟨W, hW⟩ : ∃ W : World, W = wr.alloc (.cells #[.int .i64 a.beg, .int .i64 a.fin, .slice pA a.pat.length pc] 144) := ⟨_, rfl⟩
        change Code.wp _ _ _ _ (wr.alloc (.cells #[.int .i64 a.beg, .int .i64 a.fin, .slice pA a.pat.length pc] 144))
        have bW : Below w.heap.size w W := by rw [hW]; exact HB.out.alloc HB.out.size _
        have y0 : W.cell? ⟨wr.heap.size, 0, none⟩ = some (.int .i64 a.beg) := by rw [hW]; simp [go_sem]
        have y1 : W.cell? ⟨wr.heap.size, 1, none⟩ = some (.int .i64 a.fin) := by rw [hW]; simp [go_sem]
        have y2 : W.cell? ⟨wr.heap.size, 2, none⟩ = some (.slice pA a.pat.length pc) := by rw [hW]; simp [go_sem]
        have hEW : ∀ y : Aft W, Edits y.val y.val.heap.size (.slice pA a.pat.length pc) a.pat := Edits.aft (SlR.on HE.out (Pl.stays _) bW bW.size) (Nat.le_refl _)
        have HEW := Lib.hid hEW
        rw [← hW]
        clear hW x0 x1 x2 hEW
        have z0 := fun x : Aft W => x.cell y0
        have z1 := fun x : Aft W => x.cell y1
        have z2 := fun x : Aft W => x.cell y2
        clear y0 y1 y2
        refine wp_region_aft (by kernel_rfl) (by kernel_rfl) ?_
        repeat (go_big_quiet_step ((first | (go_at_call 57; exact aft_q (in2_val _ _ _ _ _ (by assumption))) | (go_at_call 169; exact aft_b (patch2_val _ _ _ _ (HEW.out _) hso (by assumption))))))
        refine wpQuiet_nil ?_
        rintro _ ⟨y, rfl⟩
        have bY := bW.trans (y.ok.mono bW.size)
        go_wp2
        go_ret
        exact ⟨by rw [HBAD.out]; rfl, bY⟩
      | true =>
        cases ho2 : inB a.fin 0 1000 with
        | false =>
          have HBAD := Lib.hid (okActs_bad hlt (actAt_bad HG.out (okActa_2 ho2)))
          go_upto_region 4 with (fail)
          obtain ⟨W, hW⟩ : ∃ W : World, W = wr.alloc (.cells #[.int .i64 a.beg, .int .i64 a.fin, .slice pA a.pat.length pc] 144) := ⟨_, rfl⟩
          change Code.wp _ _ _ _ (wr.alloc (.cells #[.int .i64 a.beg, .int .i64 a.fin, .slice pA a.pat.length pc] 144))
          have bW : Below w.heap.size w W := by rw [hW]; exact HB.out.alloc HB.out.size _
          have y0 : W.cell? ⟨wr.heap.size, 0, none⟩ = some (.int .i64 a.beg) := by rw [hW]; simp [go_sem]
          have y1 : W.cell? ⟨wr.heap.size, 1, none⟩ = some (.int .i64 a.fin) := by rw [hW]; simp [go_sem]
          have y2 : W.cell? ⟨wr.heap.size, 2, none⟩ = some (.slice pA a.pat.length pc) := by rw [hW]; simp [go_sem]
          have hEW : ∀ y : Aft W, Edits y.val y.val.heap.size (.slice pA a.pat.length pc) a.pat := Edits.aft (SlR.on HE.out (Pl.stays _) bW bW.size) (Nat.le_refl _)
          have HEW := Lib.hid hEW
          rw [← hW]
          clear hW x0 x1 x2 hEW
          have z0 := fun x : Aft W => x.cell y0
          have z1 := fun x : Aft W => x.cell y1
          have z2 := fun x : Aft W => x.cell y2
          clear y0 y1 y2
          refine wp_region_aft (by kernel_rfl) (by kernel_rfl) ?_
          repeat (go_big_quiet_step ((first | (go_at_call 57; exact aft_q (in2_val _ _ _ _ _ (by assumption))) | (go_at_call 169; exact aft_b (patch2_val _ _ _ _ (HEW.out _) hso (by assumption))))))
          refine wpQuiet_nil ?_
          rintro _ ⟨y, rfl⟩
          have bY := bW.trans (y.ok.mono bW.size)
          go_wp2
          go_ret
          exact ⟨by rw [HBAD.out]; rfl, bY⟩
        | true =>
          by_cases ho3 : a.beg < a.fin
          · have ho3' : ¬ a.fin ≤ a.beg := by omega
            by_cases hk0 : k = 0
            · have hk1 : decide ((0 : Int) < (k : Int)) = false := by simp; omega
              have hk2 : decide (0 < k) = false := by simp; omega
              cases ho4 : okPatch a.pat with
              | false =>
                have HBAD := Lib.hid (okActs_bad hlt (actAt_bad HG.out (okActa_4 ho4)))
                clear hk0
                go_upto_region 4 with (fail)
                obtain ⟨W, hW⟩ : ∃ W : World, W = wr.alloc (.cells #[.int .i64 a.beg, .int .i64 a.fin, .slice pA a.pat.length pc] 144) := ⟨_, rfl⟩
                change Code.wp _ _ _ _ (wr.alloc (.cells #[.int .i64 a.beg, .int .i64 a.fin, .slice pA a.pat.length pc] 144))
                have bW : Below w.heap.size w W := by rw [hW]; exact HB.out.alloc HB.out.size _
                have y0 : W.cell? ⟨wr.heap.size, 0, none⟩ = some (.int .i64 a.beg) := by rw [hW]; simp [go_sem]
                have y1 : W.cell? ⟨wr.heap.size, 1, none⟩ = some (.int .i64 a.fin) := by rw [hW]; simp [go_sem]
                have y2 : W.cell? ⟨wr.heap.size, 2, none⟩ = some (.slice pA a.pat.length pc) := by rw [hW]; simp [go_sem]
                have hEW : ∀ y : Aft W, Edits y.val y.val.heap.size (.slice pA a.pat.length pc) a.pat := Edits.aft (SlR.on HE.out (Pl.stays _) bW bW.size) (Nat.le_refl _)
                have HEW := Lib.hid hEW
                rw [← hW]
                clear hW x0 x1 x2 hEW
                have z0 := fun x : Aft W => x.cell y0
                have z1 := fun x : Aft W => x.cell y1
                have z2 := fun x : Aft W => x.cell y2
                clear y0 y1 y2
                refine wp_region_aft (by kernel_rfl) (by kernel_rfl) ?_
                repeat (go_big_quiet_step ((first | (go_at_call 57; exact aft_q (in2_val _ _ _ _ _ (by assumption))) | (go_at_call 169; exact aft_b (patch2_val _ _ _ _ (HEW.out _) hso (by assumption))))))
                refine wpQuiet_nil ?_
                rintro _ ⟨y, rfl⟩
                have bY := bW.trans (y.ok.mono bW.size)
                go_wp2
                go_ret
                exact ⟨by rw [HBAD.out]; rfl, bY⟩
              | true =>
                have HSU := allLt_succ k (actAt ls)
                rw [HA.out, Bool.true_and] at HSU
                have HN : Hid (allLt (k + 1) (actAt ls) = true) := Lib.hid (HSU.trans (actAt_zero hk0 HG.out (okActa_5 ho1 ho2 ho3 ho4)))
                clear hk0 HSU
                go_upto_region 4 with (fail)
                obtain ⟨W, hW⟩ : ∃ W : World, W = wr.alloc (.cells #[.int .i64 a.beg, .int .i64 a.fin, .slice pA a.pat.length pc] 144) := ⟨_, rfl⟩
                change Code.wp _ _ _ _ (wr.alloc (.cells #[.int .i64 a.beg, .int .i64 a.fin, .slice pA a.pat.length pc] 144))
                have bW : Below w.heap.size w W := by rw [hW]; exact HB.out.alloc HB.out.size _
                have y0 : W.cell? ⟨wr.heap.size, 0, none⟩ = some (.int .i64 a.beg) := by rw [hW]; simp [go_sem]
                have y1 : W.cell? ⟨wr.heap.size, 1, none⟩ = some (.int .i64 a.fin) := by rw [hW]; simp [go_sem]
                have y2 : W.cell? ⟨wr.heap.size, 2, none⟩ = some (.slice pA a.pat.length pc) := by rw [hW]; simp [go_sem]
                have hEW : ∀ y : Aft W, Edits y.val y.val.heap.size (.slice pA a.pat.length pc) a.pat := Edits.aft (SlR.on HE.out (Pl.stays _) bW bW.size) (Nat.le_refl _)
                have HEW := Lib.hid hEW
                rw [← hW]
                clear hW x0 x1 x2 hEW
                have z0 := fun x : Aft W => x.cell y0
                have z1 := fun x : Aft W => x.cell y1
                have z2 := fun x : Aft W => x.cell y2
                clear y0 y1 y2
                refine wp_region_aft (by kernel_rfl) (by kernel_rfl) ?_
                repeat (go_big_quiet_step ((first | (go_at_call 57; exact aft_q (in2_val _ _ _ _ _ (by assumption))) | (go_at_call 169; exact aft_b (patch2_val _ _ _ _ (HEW.out _) hso (by assumption))))))
                refine wpQuiet_nil ?_
                rintro _ ⟨y, rfl⟩
                have bY := bW.trans (y.ok.mono bW.size)
                go_wp2
                go_roundw
                case rel => exact ⟨k + 1, by omega, by go_num, HN.out, bY⟩
                case measure => simp [RowKit.intOf]; omega
            · obtain ⟨m, rfl⟩ : ∃ m, k = m + 1 := ⟨k - 1, by omega⟩
              have hd : ls[m]? = some (ls[m]'(by omega)) := List.getElem?_eq_getElem (by omega)
              obtain ⟨_, d0, _⟩ := HC.out _ _ hd
              generalize (ls[m]'(by omega)) = d at *
              have HD := Lib.hid hd
              clear hd hk0
              by_cases hid : d.beg ≤ a.beg
              · have hid2 : ¬ (a.beg < d.beg) := by omega
                cases ho4 : okPatch a.pat with
                | false =>
                  have HBAD := Lib.hid (okActs_bad hlt (actAt_bad HG.out (okActa_4 ho4)))
                  go_upto_region 4 with (fail)
                  obtain ⟨W, hW⟩ : ∃ W : World, W = wr.alloc (.cells #[.int .i64 a.beg, .int .i64 a.fin, .slice pA a.pat.length pc] 144) := ⟨_, rfl⟩
                  change Code.wp _ _ _ _ (wr.alloc (.cells #[.int .i64 a.beg, .int .i64 a.fin, .slice pA a.pat.length pc] 144))
                  have bW : Below w.heap.size w W := by rw [hW]; exact HB.out.alloc HB.out.size _
                  have y0 : W.cell? ⟨wr.heap.size, 0, none⟩ = some (.int .i64 a.beg) := by rw [hW]; simp [go_sem]
                  have y1 : W.cell? ⟨wr.heap.size, 1, none⟩ = some (.int .i64 a.fin) := by rw [hW]; simp [go_sem]
                  have y2 : W.cell? ⟨wr.heap.size, 2, none⟩ = some (.slice pA a.pat.length pc) := by rw [hW]; simp [go_sem]
                  have hEW : ∀ y : Aft W, Edits y.val y.val.heap.size (.slice pA a.pat.length pc) a.pat := Edits.aft (SlR.on HE.out (Pl.stays _) bW bW.size) (Nat.le_refl _)
                  have HEW := Lib.hid hEW
                  rw [← hW]
                  clear hW x0 x1 x2 hEW
                  have z0 := fun x : Aft W => x.cell y0
                  have z1 := fun x : Aft W => x.cell y1
                  have z2 := fun x : Aft W => x.cell y2
                  clear y0 y1 y2
                  have y4 : W.cell? ⟨b, off + m * 3, none⟩ = some (.int .i64 d.beg) := (bW.cell (p := ⟨b, off + m * 3, none⟩) hblt).trans d0
                  have z4 := fun x : Aft W => x.cell y4
                  clear d0 y4
                  refine wp_region_aft (by kernel_rfl) (by kernel_rfl) ?_
                  repeat (go_big_quiet_step ((first | (go_at_call 57; exact aft_q (in2_val _ _ _ _ _ (by assumption))) | (go_at_call 169; exact aft_b (patch2_val _ _ _ _ (HEW.out _) hso (by assumption))))))
                  refine wpQuiet_nil ?_
                  rintro _ ⟨y, rfl⟩
                  have bY := bW.trans (y.ok.mono bW.size)
                  go_wp2
                  go_ret
                  exact ⟨by rw [HBAD.out]; rfl, bY⟩
                | true =>
                  have HSU := allLt_succ (m + 1) (actAt ls)
                  rw [HA.out, Bool.true_and] at HSU
                  have HN : Hid (allLt (m + 1 + 1) (actAt ls) = true) := Lib.hid (HSU.trans ((actAt_succ HD.out HG.out (okActa_5 ho1 ho2 ho3 ho4)).trans (decide_eq_true hid)))
                  clear HSU
                  go_upto_region 4 with (fail)
                  obtain ⟨W, hW⟩ : ∃ W : World, W = wr.alloc (.cells #[.int .i64 a.beg, .int .i64 a.fin, .slice pA a.pat.length pc] 144) := ⟨_, rfl⟩
                  change Code.wp _ _ _ _ (wr.alloc (.cells #[.int .i64 a.beg, .int .i64 a.fin, .slice pA a.pat.length pc] 144))
                  have bW : Below w.heap.size w W := by rw [hW]; exact HB.out.alloc HB.out.size _
                  have y0 : W.cell? ⟨wr.heap.size, 0, none⟩ = some (.int .i64 a.beg) := by rw [hW]; simp [go_sem]
                  have y1 : W.cell? ⟨wr.heap.size, 1, none⟩ = some (.int .i64 a.fin) := by rw [hW]; simp [go_sem]
                  have y2 : W.cell? ⟨wr.heap.size, 2, none⟩ = some (.slice pA a.pat.length pc) := by rw [hW]; simp [go_sem]
                  have hEW : ∀ y : Aft W, Edits y.val y.val.heap.size (.slice pA a.pat.length pc) a.pat := Edits.aft (SlR.on HE.out (Pl.stays _) bW bW.size) (Nat.le_refl _)
                  have HEW := Lib.hid hEW
                  rw [← hW]
                  clear hW x0 x1 x2 hEW
                  have z0 := fun x : Aft W => x.cell y0
                  have z1 := fun x : Aft W => x.cell y1
                  have z2 := fun x : Aft W => x.cell y2
                  clear y0 y1 y2
                  have y4 : W.cell? ⟨b, off + m * 3, none⟩ = some (.int .i64 d.beg) := (bW.cell (p := ⟨b, off + m * 3, none⟩) hblt).trans d0
                  have z4 := fun x : Aft W => x.cell y4
                  clear d0 y4
                  refine wp_region_aft (by kernel_rfl) (by kernel_rfl) ?_
                  repeat (go_big_quiet_step ((first | (go_at_call 57; exact aft_q (in2_val _ _ _ _ _ (by assumption))) | (go_at_call 169; exact aft_b (patch2_val _ _ _ _ (HEW.out _) hso (by assumption))))))
                  refine wpQuiet_nil ?_
                  rintro _ ⟨y, rfl⟩
                  have bY := bW.trans (y.ok.mono bW.size)
                  go_wp2
                  go_roundw
                  case rel => exact ⟨(m + 1) + 1, by omega, by go_num, HN.out, bY⟩
                  case measure => simp [RowKit.intOf]; omega
              · have hid2 : a.beg < d.beg := by omega
                have HBAD := Lib.hid (okActs_bad hlt (actAt_ord HD.out HG.out hid))
                go_upto_region 4 with (fail)
                obtain ⟨W, hW⟩ : ∃ W : World, W = wr.alloc (.cells #[.int .i64 a.beg, .int .i64 a.fin, .slice pA a.pat.length pc] 144) := ⟨_, rfl⟩
                change Code.wp _ _ _ _ (wr.alloc (.cells #[.int .i64 a.beg, .int .i64 a.fin, .slice pA a.pat.length pc] 144))
                have bW : Below w.heap.size w W := by rw [hW]; exact HB.out.alloc HB.out.size _
                have y0 : W.cell? ⟨wr.heap.size, 0, none⟩ = some (.int .i64 a.beg) := by rw [hW]; simp [go_sem]
                have y1 : W.cell? ⟨wr.heap.size, 1, none⟩ = some (.int .i64 a.fin) := by rw [hW]; simp [go_sem]
                have y2 : W.cell? ⟨wr.heap.size, 2, none⟩ = some (.slice pA a.pat.length pc) := by rw [hW]; simp [go_sem]
                have hEW : ∀ y : Aft W, Edits y.val y.val.heap.size (.slice pA a.pat.length pc) a.pat := Edits.aft (SlR.on HE.out (Pl.stays _) bW bW.size) (Nat.le_refl _)
                have HEW := Lib.hid hEW
                rw [← hW]
                clear hW x0 x1 x2 hEW
                have z0 := fun x : Aft W => x.cell y0
                have z1 := fun x : Aft W => x.cell y1
                have z2 := fun x : Aft W => x.cell y2
                clear y0 y1 y2
                have y4 : W.cell? ⟨b, off + m * 3, none⟩ = some (.int .i64 d.beg) := (bW.cell (p := ⟨b, off + m * 3, none⟩) hblt).trans d0
                have z4 := fun x : Aft W => x.cell y4
                clear d0 y4
                refine wp_region_aft (by kernel_rfl) (by kernel_rfl) ?_
                repeat (go_big_quiet_step ((first | (go_at_call 57; exact aft_q (in2_val _ _ _ _ _ (by assumption))) | (go_at_call 169; exact aft_b (patch2_val _ _ _ _ (HEW.out _) hso (by assumption))))))
                refine wpQuiet_nil ?_
                rintro _ ⟨y, rfl⟩
                have bY := bW.trans (y.ok.mono bW.size)
                go_wp2
                go_ret
                exact ⟨by rw [HBAD.out]; rfl, bY⟩
          · have ho3' : a.fin ≤ a.beg := by omega
            have HBAD := Lib.hid (okActs_bad hlt (actAt_bad HG.out (okActa_3 ho3)))
            go_upto_region 4 with (fail)
            obtain ⟨W, hW⟩ : ∃ W : World, W = wr.alloc (.cells #[.int .i64 a.beg, .int .i64 a.fin, .slice pA a.pat.length pc] 144) := ⟨_, rfl⟩
            change Code.wp _ _ _ _ (wr.alloc (.cells #[.int .i64 a.beg, .int .i64 a.fin, .slice pA a.pat.length pc] 144))
            have bW : Below w.heap.size w W := by rw [hW]; exact HB.out.alloc HB.out.size _
            have y0 : W.cell? ⟨wr.heap.size, 0, none⟩ = some (.int .i64 a.beg) := by rw [hW]; simp [go_sem]
            have y1 : W.cell? ⟨wr.heap.size, 1, none⟩ = some (.int .i64 a.fin) := by rw [hW]; simp [go_sem]
            have y2 : W.cell? ⟨wr.heap.size, 2, none⟩ = some (.slice pA a.pat.length pc) := by rw [hW]; simp [go_sem]
            have hEW : ∀ y : Aft W, Edits y.val y.val.heap.size (.slice pA a.pat.length pc) a.pat := Edits.aft (SlR.on HE.out (Pl.stays _) bW bW.size) (Nat.le_refl _)
            have HEW := Lib.hid hEW
            rw [← hW]
            clear hW x0 x1 x2 hEW
            have z0 := fun x : Aft W => x.cell y0
            have z1 := fun x : Aft W => x.cell y1
            have z2 := fun x : Aft W => x.cell y2
            clear y0 y1 y2
            refine wp_region_aft (by kernel_rfl) (by kernel_rfl) ?_
            repeat (go_big_quiet_step ((first | (go_at_call 57; exact aft_q (in2_val _ _ _ _ _ (by assumption))) | (go_at_call 169; exact aft_b (patch2_val _ _ _ _ (HEW.out _) hso (by assumption))))))
            refine wpQuiet_nil ?_
            rintro _ ⟨y, rfl⟩
            have bY := bW.trans (y.ok.mono bW.size)
            go_wp2
            go_ret
            exact ⟨by rw [HBAD.out]; rfl, bY⟩
    · have hk' : k = ls.length := by omega
      have hP : okActs ls = decide (ls.length ≤ 8) := by
        unfold okActs
        rw [← hk', HA.out, Bool.true_and]
      have HP := Lib.hid hP
      have hge : ¬ (k : Int) < (ls.length : Int) := by omega
      clear hP hk' hlt
      by_cases h16 : ls.length ≤ 8
      · have e16 : decide ((ls.length : Int) ≤ 8) = true := by simp; omega
        have H16 := Lib.hid h16
        clear h16
        go_wp2
        go_ret
        exact ⟨by rw [HP.out]; simp [H16.out], hb⟩
      · have e16 : decide ((ls.length : Int) ≤ 8) = false := by simp; omega
        have H16 := Lib.hid h16
        clear h16
        go_wp2
        go_ret
        exact ⟨by rw [HP.out]; simp [H16.out], hb⟩

theorem both1_all (S : List Art) (ls : List Acta) (w : World) (vs va : Value) (hS : Arts w w.heap.size vs S) (hA : Acts w w.heap.size va ls) (ht : ∀ a ∈ S, a.text.size ≤ maxLen) (hs : ActsSz ls) :
    Calls Tryz.prog 106 #[vs, va] w (RetB (.bool (okStat S && okActs ls)) w) := by
  have H1 := Lib.hid (stat1_any S w vs hS ht)
  have H2 := Lib.hid (fun w' (hb : Below w.heap.size w w') => acts1_any ls w' va (hA.on hb hb.size) hs)
  obtain ⟨A, c, rfl, _⟩ := hS
  obtain ⟨A2, c2, rfl, _⟩ := acts_at hA
  clear hA
  generalize okActs ls = r2 at H2 ⊢
  cases hr : okStat S with
  | false =>
    rw [hr] at H1
    go_enter Tryz.func106, Tryz.ntmps106
    go_wp2_with (fail)
    refine (H1.out).mono ?_
    rintro e w1 ⟨rfl, hb1⟩
    go_wp2
    go_ret
    exact ⟨by simp, hb1⟩
  | true =>
    rw [hr] at H1
    go_enter Tryz.func106, Tryz.ntmps106
    go_wp2_with (fail)
    refine (H1.out).mono ?_
    rintro e w1 ⟨rfl, hb1⟩
    replace H2 := Lib.hid (H2.out w1 hb1)
    have HB := Lib.hid hb1
    clear hb1
    go_wp2_with (fail)
    refine (H2.out).mono ?_
    rintro e w2 ⟨rfl, hb2⟩
    go_wp2
    go_ret
    exact ⟨by simp, HB.out.trans (hb2.mono HB.out.size)⟩
end Go.Proofs.YtnandbammmcncaaGreat

namespace Go.Proofs.YtnandbammmcncaaGreat
open Go.RowKit Go.Lib

theorem getD_at {vs : List Int} {k : Nat} (hk : k < vs.length) : vs.getD k 0 = vs[k] := by simp [List.getD_eq_getElem?_getD, hk]
theorem votesOk_bad {vs : List Int} {k : Nat} (hk : k < vs.length) (h : inB vs[k] 0 3 = false) : votesOk vs = false := by
  unfold votesOk
  exact allLt_false hk (by rw [getD_at hk]; exact h)
theorem mot_eq {m : Mot} {day n : Int} (h1 : okName m.title.toList = true) (h2 : inB m.author 0 (n - 1) = true) (h3 : ((m.pat.length : Int) == 0) = false) (h4 : okPatch m.pat = true) (h5 : spanB m.beg m.fin m.closes = true) (h6 : ((m.votes.length : Int) == n) = true) :
    okMot m day n = (votesOk m.votes && inB m.result 0 4 && ((m.result == 0) == decide (day < m.closes))) := by
  unfold okMot
  simp only [h1, h2, h3, h4, h5, h6, Bool.true_and, Bool.not_false]
set_option maxRecDepth 100000 in
set_option maxHeartbeats 8000000 in
theorem mot1_any (m : Mot) (b o : Nat) (A1 : Option Addr) (c1 : Nat) (A2 : Option Addr) (c2 : Nat) (day n : Int) (w : World) (h : MotP w w.heap.size b o m A1 c1 A2 c2) (hb : b < w.heap.size) (hs : m.title.size ≤ maxLen ∧ SizesOk m.pat) (n1 : 1 ≤ n) (n2 : n ≤ 1000) :
    Calls Tryz.prog 108 #[.pointer (some ⟨b, o, none⟩), .int .i64 day, .int .i64 n] w (RetB (.bool (okMot m day n)) w) := by
  have z0 := fun y : Aft w => y.cell h.k0
  have z1 := fun y : Aft w => y.cell h.k1
  have z2 := fun y : Aft w => y.cell h.k2
  have z3 := fun y : Aft w => y.cell h.k3
  have z4 := fun y : Aft w => y.cell h.k4
  have z5 := fun y : Aft w => y.cell h.k5
  have z6 := fun y : Aft w => y.cell h.k6
  have z7 := fun y : Aft w => y.cell h.k7
  have HE := Lib.hid (fun y : Aft w => (h.on y.ok y.ok.size hb).edits)
  have HI := Lib.hid (fun y : Aft w => (h.on y.ok y.ok.size hb).ints)
  have HTI := Lib.hid hs.1
  have hso := hs.2
  obtain ⟨_, _, hvl⟩ := slR_len h.ints
  have hvm : m.votes.length ≤ 9223372036854775807 := by
    obtain ⟨_, q, _⟩ := slR_len h.ints
    omega
  clear h hs hvl
  cases h1 : okName m.title.toList with
  | false =>
    have HBAD : Hid (okMot m day n = false) := Lib.hid (by unfold okMot; rw [h1]; rfl)
    refine calls_aft fun x0 => ?_
    go_enter Tryz.func108, Tryz.ntmps108
    go_wp2_with (fail)
    refine wp_region_at (by kernel_rfl) (by kernel_rfl) ?_
    repeat (go_big_quiet_step ((first | (go_at_call 127; exact aft_q (name1_val _ _ _ HTI.out (by assumption))) | (go_at_call 48; exact aft_q (in1_val _ _ _ _ _ (by assumption))) | (go_at_call 128; exact aft_b (patch1_val _ _ _ _ (HE.out _) hso (by assumption))) | (go_at_call 129; exact aft_b (span1_val _ _ _ _ _ (by assumption))))))
    refine wpQuiet_nil ?_
    rintro _ ⟨y, rfl⟩
    go_wp2
    go_ret
    exact ⟨by rw [HBAD.out]; rfl, y.ok⟩
  | true =>
    cases h2 : inB m.author 0 (n - 1) with
    | false =>
      have HBAD : Hid (okMot m day n = false) := Lib.hid (by unfold okMot; rw [h1, h2]; rfl)
      refine calls_aft fun x0 => ?_
      go_enter Tryz.func108, Tryz.ntmps108
      go_wp2_with (fail)
      refine wp_region_at (by kernel_rfl) (by kernel_rfl) ?_
      repeat (go_big_quiet_step ((first | (go_at_call 127; exact aft_q (name1_val _ _ _ HTI.out (by assumption))) | (go_at_call 48; exact aft_q (in1_val _ _ _ _ _ (by assumption))) | (go_at_call 128; exact aft_b (patch1_val _ _ _ _ (HE.out _) hso (by assumption))) | (go_at_call 129; exact aft_b (span1_val _ _ _ _ _ (by assumption))))))
      refine wpQuiet_nil ?_
      rintro _ ⟨y, rfl⟩
      go_wp2
      go_ret
      exact ⟨by rw [HBAD.out]; rfl, y.ok⟩
    | true =>
      cases h3 : ((m.pat.length : Int) == 0) with
      | true =>
        have HBAD : Hid (okMot m day n = false) := Lib.hid (by unfold okMot; rw [h1, h2, h3]; rfl)
        refine calls_aft fun x0 => ?_
        go_enter Tryz.func108, Tryz.ntmps108
        go_wp2_with (fail)
        refine wp_region_at (by kernel_rfl) (by kernel_rfl) ?_
        repeat (go_big_quiet_step ((first | (go_at_call 127; exact aft_q (name1_val _ _ _ HTI.out (by assumption))) | (go_at_call 48; exact aft_q (in1_val _ _ _ _ _ (by assumption))) | (go_at_call 128; exact aft_b (patch1_val _ _ _ _ (HE.out _) hso (by assumption))) | (go_at_call 129; exact aft_b (span1_val _ _ _ _ _ (by assumption))))))
        refine wpQuiet_nil ?_
        rintro _ ⟨y, rfl⟩
        go_wp2
        go_ret
        exact ⟨by rw [HBAD.out]; rfl, y.ok⟩
      | false =>
        cases h4 : okPatch m.pat with
        | false =>
          have HBAD : Hid (okMot m day n = false) := Lib.hid (by unfold okMot; rw [h1, h2, h3, h4]; rfl)
          refine calls_aft fun x0 => ?_
          go_enter Tryz.func108, Tryz.ntmps108
          go_wp2_with (fail)
          refine wp_region_at (by kernel_rfl) (by kernel_rfl) ?_
          repeat (go_big_quiet_step ((first | (go_at_call 127; exact aft_q (name1_val _ _ _ HTI.out (by assumption))) | (go_at_call 48; exact aft_q (in1_val _ _ _ _ _ (by assumption))) | (go_at_call 128; exact aft_b (patch1_val _ _ _ _ (HE.out _) hso (by assumption))) | (go_at_call 129; exact aft_b (span1_val _ _ _ _ _ (by assumption))))))
          refine wpQuiet_nil ?_
          rintro _ ⟨y, rfl⟩
          go_wp2
          go_ret
          exact ⟨by rw [HBAD.out]; rfl, y.ok⟩
        | true =>
          cases h5 : spanB m.beg m.fin m.closes with
          | false =>
            have HBAD : Hid (okMot m day n = false) := Lib.hid (by unfold okMot; rw [h1, h2, h3, h4, h5]; rfl)
            refine calls_aft fun x0 => ?_
            go_enter Tryz.func108, Tryz.ntmps108
            go_wp2_with (fail)
            refine wp_region_at (by kernel_rfl) (by kernel_rfl) ?_
            repeat (go_big_quiet_step ((first | (go_at_call 127; exact aft_q (name1_val _ _ _ HTI.out (by assumption))) | (go_at_call 48; exact aft_q (in1_val _ _ _ _ _ (by assumption))) | (go_at_call 128; exact aft_b (patch1_val _ _ _ _ (HE.out _) hso (by assumption))) | (go_at_call 129; exact aft_b (span1_val _ _ _ _ _ (by assumption))))))
            refine wpQuiet_nil ?_
            rintro _ ⟨y, rfl⟩
            go_wp2
            go_ret
            exact ⟨by rw [HBAD.out]; rfl, y.ok⟩
          | true =>
            cases h6 : ((m.votes.length : Int) == n) with
            | false =>
              have h6n : ((m.votes.length : Int) != n) = true := by rw [bne, h6]; rfl
              have HBAD : Hid (okMot m day n = false) := Lib.hid (by unfold okMot; rw [h1, h2, h3, h4, h5, h6]; rfl)
              refine calls_aft fun x0 => ?_
              go_enter Tryz.func108, Tryz.ntmps108
              go_wp2_with (fail)
              refine wp_region_at (by kernel_rfl) (by kernel_rfl) ?_
              repeat (go_big_quiet_step ((first | (go_at_call 127; exact aft_q (name1_val _ _ _ HTI.out (by assumption))) | (go_at_call 48; exact aft_q (in1_val _ _ _ _ _ (by assumption))) | (go_at_call 128; exact aft_b (patch1_val _ _ _ _ (HE.out _) hso (by assumption))) | (go_at_call 129; exact aft_b (span1_val _ _ _ _ _ (by assumption))))))
              refine wpQuiet_nil ?_
              rintro _ ⟨y, rfl⟩
              go_wp2
              go_ret
              exact ⟨by rw [HBAD.out]; rfl, y.ok⟩
            | true =>
              have h6n : ((m.votes.length : Int) != n) = false := by rw [bne, h6]; rfl
              have HOKM := Lib.hid (mot_eq (day := day) h1 h2 h3 h4 h5 h6)
              refine calls_aft fun x0 => ?_
              go_enter Tryz.func108, Tryz.ntmps108
              go_wp2_with (fail)
              refine wp_region_at (by kernel_rfl) (by kernel_rfl) ?_
              repeat (go_big_quiet_step ((first | (go_at_call 127; exact aft_q (name1_val _ _ _ HTI.out (by assumption))) | (go_at_call 48; exact aft_q (in1_val _ _ _ _ _ (by assumption))) | (go_at_call 128; exact aft_b (patch1_val _ _ _ _ (HE.out _) hso (by assumption))) | (go_at_call 129; exact aft_b (span1_val _ _ _ _ _ (by assumption))))))
              refine wpQuiet_nil ?_
              rintro _ ⟨y, rfl⟩
              clear h1 h2 h3 h4 h5 h6 hso
              go_wp2
              go_loopw [7] (fun i wr => ∃ (k : Nat) (x : Aft w), k ≤ m.votes.length ∧ i = .int .i64 (k : Int) ∧ allLt k (fun k => inB (m.votes.getD k 0) 0 3) = true ∧ wr = x.val) (fun i _ => m.votes.length - (RowKit.intOf i).toNat)
              case atStart => exact ⟨0, y, Nat.zero_le _, rfl, rfl, rfl⟩
              case round =>
                obtain ⟨k, x, hk, rfl, hall, rfl⟩ := hrel
                have HA := Lib.hid hall
                clear hall
                by_cases hlt : k < m.votes.length
                · obtain ⟨b', off, rfl, hb', c0⟩ := ints_get (HI.out x) (List.getElem?_eq_getElem hlt)
                  have HSU := allLt_succ k (fun k => inB (m.votes.getD k 0) 0 3)
                  rw [HA.out, Bool.true_and] at HSU
                  have HSU : Hid (allLt (k + 1) (fun k => inB (m.votes.getD k 0) 0 3) = inB m.votes[k] 0 3) := Lib.hid (by rw [HSU, getD_at hlt])
                  have HBAD := Lib.hid (fun h => votesOk_bad hlt h)
                  generalize m.votes[k] = z at *
                  cases hz : inB z 0 3 with
                  | false =>
                    have HB := Lib.hid (HBAD.out hz)
                    go_wp2_with (fail)
                    refine (aft_q (in1_val _ _ _ _ _ hz)).mono ?_
                    rintro e _ ⟨rfl, u, rfl⟩
                    go_wp2
                    go_ret
                    exact ⟨by rw [HOKM.out, HB.out]; rfl, u.ok⟩
                  | true =>
                    have HN := Lib.hid (HSU.out.trans hz)
                    go_wp2_with (fail)
                    refine (aft_q (in1_val _ _ _ _ _ hz)).mono ?_
                    rintro e _ ⟨rfl, u, rfl⟩
                    go_wp2
                    go_roundw
                    case rel => exact ⟨k + 1, u, by omega, by go_num, HN.out, rfl⟩
                    case measure => simp [RowKit.intOf]; omega
                · have hge : ¬ (k : Int) < (m.votes.length : Int) := by omega
                  have hk' : k = m.votes.length := by omega
                  have HV : Hid (votesOk m.votes = true) := Lib.hid (by unfold votesOk; rw [← hk']; exact HA.out)
                  clear hk' hlt
                  rw [HV.out, Bool.true_and] at HOKM
                  cases h7 : inB m.result 0 4 with
                  | false =>
                    rw [h7, Bool.false_and] at HOKM
                    go_wp2_with (fail)
                    refine wp_region_at (by kernel_rfl) (by kernel_rfl) ?_
                    repeat (go_big_quiet_step ((first | (go_at_call 48; exact aft_q (in1_val _ _ _ _ _ (by assumption))))))
                    refine wpQuiet_nil ?_
                    rintro _ ⟨z, rfl⟩
                    go_wp2
                    go_ret
                    exact ⟨by rw [HOKM.out]; rfl, z.ok⟩
                  | true =>
                    rw [h7, Bool.true_and] at HOKM
                    cases h8 : (m.result == 0) with
                    | false =>
                      rw [h8] at HOKM
                      by_cases h9 : day < m.closes
                      · have h10 : decide (day < m.closes) = true := decide_eq_true h9
                        rw [h10] at HOKM
                        go_wp2_with (fail)
                        refine wp_region_at (by kernel_rfl) (by kernel_rfl) ?_
                        repeat (go_big_quiet_step ((first | (go_at_call 48; exact aft_q (in1_val _ _ _ _ _ (by assumption))))))
                        refine wpQuiet_nil ?_
                        rintro _ ⟨z, rfl⟩
                        go_wp2
                        go_ret
                        exact ⟨by rw [HOKM.out]; rfl, z.ok⟩
                      · have h10 : decide (day < m.closes) = false := decide_eq_false h9
                        rw [h10] at HOKM
                        go_wp2_with (fail)
                        refine wp_region_at (by kernel_rfl) (by kernel_rfl) ?_
                        repeat (go_big_quiet_step ((first | (go_at_call 48; exact aft_q (in1_val _ _ _ _ _ (by assumption))))))
                        refine wpQuiet_nil ?_
                        rintro _ ⟨z, rfl⟩
                        go_wp2
                        go_ret
                        exact ⟨by rw [HOKM.out]; rfl, z.ok⟩
                    | true =>
                      rw [h8] at HOKM
                      by_cases h9 : day < m.closes
                      · have h10 : decide (day < m.closes) = true := decide_eq_true h9
                        rw [h10] at HOKM
                        go_wp2_with (fail)
                        refine wp_region_at (by kernel_rfl) (by kernel_rfl) ?_
                        repeat (go_big_quiet_step ((first | (go_at_call 48; exact aft_q (in1_val _ _ _ _ _ (by assumption))))))
                        refine wpQuiet_nil ?_
                        rintro _ ⟨z, rfl⟩
                        go_wp2
                        go_ret
                        exact ⟨by rw [HOKM.out]; rfl, z.ok⟩
                      · have h10 : decide (day < m.closes) = false := decide_eq_false h9
                        rw [h10] at HOKM
                        go_wp2_with (fail)
                        refine wp_region_at (by kernel_rfl) (by kernel_rfl) ?_
                        repeat (go_big_quiet_step ((first | (go_at_call 48; exact aft_q (in1_val _ _ _ _ _ (by assumption))))))
                        refine wpQuiet_nil ?_
                        rintro _ ⟨z, rfl⟩
                        go_wp2
                        go_ret
                        exact ⟨by rw [HOKM.out]; rfl, z.ok⟩
end Go.Proofs.YtnandbammmcncaaGreat

namespace Go.Proofs.YtnandbammmcncaaGreat
open Go.RowKit Go.Lib

def idxG {α : Type} (p : α → Bool) (L : List α) : Int := match L.findIdx? p with | some k => (k : Int) | none => -1
theorem idxG_hit {α : Type} {p : α → Bool} {L : List α} {k : Nat} (hk : k < L.length) (h : p L[k] = true) (hn : ∀ j (hj : j < k), p (L[j]'(by omega)) = false) : idxG p L = k := by
  have : L.findIdx? p = some k := List.findIdx?_eq_some_iff_getElem.2 ⟨hk, h, fun j hj => by rw [hn j hj]; simp⟩
  unfold idxG
  rw [this]
theorem idxG_none {α : Type} {p : α → Bool} {L : List α} (hn : ∀ j (hj : j < L.length), p L[j] = false) : idxG p L = -1 := by
  have : L.findIdx? p = none := List.findIdx?_eq_none_iff.2 (fun x hx => by
    obtain ⟨j, hj, rfl⟩ := List.mem_iff_getElem.1 hx
    exact hn j hj)
  unfold idxG
  rw [this]
theorem idxG_any {α : Type} (p : α → Bool) (L : List α) : (0 ≤ idxG p L ↔ L.any p = true) ∧ -1 ≤ idxG p L ∧ idxG p L ≤ (L.length : Int) := by
  rcases hf : L.findIdx? p with _ | k
  · have h1 := List.findIdx?_eq_none_iff.1 hf
    have e : idxG p L = -1 := by unfold idxG; rw [hf]
    rw [e]
    refine ⟨⟨fun h => by omega, fun h => ?_⟩, by omega, by omega⟩
    obtain ⟨x, hx, hp⟩ := List.any_eq_true.1 h
    have := h1 x hx
    rw [hp] at this
    cases this
  · obtain ⟨h1, h2, h3⟩ := List.findIdx?_eq_some_iff_getElem.1 hf
    have e : idxG p L = k := by unfold idxG; rw [hf]
    rw [e]
    exact ⟨⟨fun _ => List.any_eq_true.2 ⟨L[k], List.getElem_mem h1, h2⟩, fun _ => by omega⟩, by omega, by omega⟩
/-- Tests that turn nothing. -/
def PredI (g : Nat) (lb : Array Value) (p : Int → Bool) (w : World) : Prop :=
  ∀ (W : World) (x : Int), Below w.heap.size w W → Calls Tryz.prog g (#[.int .i64 x] ++ lb) W (RetB (.bool (p x)) W)
def PredM (g : Nat) (lb : Array Value) (p : Mot → Bool) (w : World) : Prop :=
  ∀ (W : World) (m : Mot) (v1 v2 : Value), Below w.heap.size w W → Calls Tryz.prog g (#[.agg #[.string m.title, .int .i64 m.author, v1, .int .i64 m.beg, .int .i64 m.fin, .int .i64 m.closes, v2, .int .i64 m.result]] ++ lb) W (RetB (.bool (p m)) W)

set_option maxHeartbeats 2000000 in
theorem indexI_any (L : List Int) (w : World) (A : Option Addr) (c : Nat) (h : Ints w w.heap.size (.slice A L.length c) L) (g : Nat) (lb : Array Value) (p : Int → Bool) (hp : PredI g lb p w) (eg : ∀ args w, (callFunc g args).run Tryz.prog w = .ok (.enter g args) w) :
    Calls Tryz.prog 193 #[.slice A L.length c, .func (.func g) #[] lb] w (RetB (.int .i64 (idxG p L)) w) := by
  obtain ⟨_, hc, hm⟩ := slR_len h
  have hlm : L.length ≤ 9223372036854775807 := by omega
  have HP := Lib.hid hp
  clear hp
  go_enter Tryz.func193, Tryz.ntmps193
  go_wp2
  go_loopw [5, 8] (fun _ i wr => ∃ (k : Nat) (x : Aft w), k ≤ L.length ∧ i = .int .i64 (k : Int) ∧ (∀ j (hj : j < L.length), j < k → p L[j] = false) ∧ wr = x.val) (fun _ i _ => L.length - (RowKit.intOf i).toNat)
  case atStart => exact ⟨0, ⟨w, Below.refl _ _⟩, Nat.zero_le _, rfl, fun j _ hj => absurd hj (Nat.not_lt_zero _), rfl⟩
  case round =>
    obtain ⟨k, x, hk, rfl, hn, rfl⟩ := hrel
    have HN := Lib.hid hn
    clear hn
    by_cases hlt : k < L.length
    · obtain ⟨b, off, rfl, hblt, c0⟩ := ints_get h (List.getElem?_eq_getElem hlt)
      have x0 := x.cell c0
      have hcall := HP.out x.val L[k] x.ok
      clear c0
      cases hq : p L[k] with
      | true =>
        have HQ := Lib.hid (idxG_hit hlt hq (fun j hj => HN.out j (by omega) hj))
        rw [hq] at hcall
        have HC := Lib.hid hcall
        generalize L[k] = e at *
        clear hcall hq
        go_wp2_with (go_at_fn g; refine (aft_b (HC.out)).mono ?_; rintro e' _ ⟨rfl, y, rfl⟩)
        go_ret
        exact ⟨by rw [HQ.out]; rfl, y.ok⟩
      | false =>
        have HNN : Hid (∀ j (hj : j < L.length), j < k + 1 → p L[j] = false) := Lib.hid (fun j hj hjk => by
          by_cases e : j = k
          · subst e; exact hq
          · exact HN.out j hj (by omega))
        rw [hq] at hcall
        have HC := Lib.hid hcall
        generalize L[k] = e at hcall x0 hq HC
        clear hcall hq
        go_wp2_with (go_at_fn g; refine (aft_b (HC.out)).mono ?_; rintro e' _ ⟨rfl, y, rfl⟩)
        go_roundw
        case rel => exact ⟨k + 1, y, by omega, by go_num, HNN.out, rfl⟩
        case measure => simp [RowKit.intOf]; omega
    · have hge : ¬ (k : Int) < (L.length : Int) := by omega
      have HQ := Lib.hid (idxG_none (p := p) (L := L) (fun j hj => HN.out j hj (by omega)))
      go_wp2
      go_ret
      exact ⟨by rw [HQ.out]; rfl, x.ok⟩
set_option maxRecDepth 100000 in
set_option maxHeartbeats 4000000 in
theorem indexM_any (L : List Mot) (w : World) (A : Option Addr) (c : Nat) (h : Mots w w.heap.size (.slice A L.length c) L) (g : Nat) (lb : Array Value) (p : Mot → Bool) (hp : PredM g lb p w) (eg : ∀ args w, (callFunc g args).run Tryz.prog w = .ok (.enter g args) w) :
    Calls Tryz.prog 158 #[.slice A L.length c, .func (.func g) #[] lb] w (RetB (.int .i64 (idxG p L)) w) := by
  obtain ⟨A', c', hv, hc, hm, hel⟩ := mots_at h
  injection hv with e1 e2 e3
  subst e1 e3
  unfold maxLen at hm
  have hlm : L.length ≤ 9223372036854775807 := by omega
  have HEL := Lib.hid hel
  clear h hel e2
  have HP := Lib.hid hp
  clear hp
  go_enter Tryz.func158, Tryz.ntmps158
  go_wp2
  go_loopw [5, 8] (fun _ i wr => ∃ (k : Nat) (x : Aft w), k ≤ L.length ∧ i = .int .i64 (k : Int) ∧ (∀ j (hj : j < L.length), j < k → p L[j] = false) ∧ wr = x.val) (fun _ i _ => L.length - (RowKit.intOf i).toNat)
  case atStart => exact ⟨0, ⟨w, Below.refl _ _⟩, Nat.zero_le _, rfl, fun j _ hj => absurd hj (Nat.not_lt_zero _), rfl⟩
  case round =>
    obtain ⟨k, x, hk, rfl, hn, rfl⟩ := hrel
    have HN := Lib.hid hn
    clear hn
    by_cases hlt : k < L.length
    · obtain ⟨b, off, rfl, hblt, hcell⟩ := HEL.out (by omega)
      obtain ⟨A1, c1, A2, c2, hP⟩ := hcell k _ (List.getElem?_eq_getElem hlt)
      have x0 := x.cell hP.k0
      have x1 := x.cell hP.k1
      have x2 := x.cell hP.k2
      have x3 := x.cell hP.k3
      have x4 := x.cell hP.k4
      have x5 := x.cell hP.k5
      have x6 := x.cell hP.k6
      have x7 := x.cell hP.k7
      have hcall := HP.out x.val L[k] (.slice A1 L[k].pat.length c1) (.slice A2 L[k].votes.length c2) x.ok
      clear hcell hP
      cases hq : p L[k] with
      | true =>
        have HQ := Lib.hid (idxG_hit hlt hq (fun j hj => HN.out j (by omega) hj))
        rw [hq] at hcall
        have HC := Lib.hid hcall
        generalize L[k] = e at *
        clear hcall hq
        go_wp2_with (go_at_fn g; refine (aft_b (HC.out)).mono ?_; rintro e' _ ⟨rfl, y, rfl⟩)
        go_ret
        exact ⟨by rw [HQ.out]; rfl, y.ok⟩
      | false =>
        have HNN : Hid (∀ j (hj : j < L.length), j < k + 1 → p L[j] = false) := Lib.hid (fun j hj hjk => by
          by_cases e : j = k
          · subst e; exact hq
          · exact HN.out j hj (by omega))
        rw [hq] at hcall
        have HC := Lib.hid hcall
        generalize L[k] = e at hcall x0 x1 x2 x3 x4 x5 x6 x7 hq HC
        clear hcall hq
        go_wp2_with (go_at_fn g; refine (aft_b (HC.out)).mono ?_; rintro e' _ ⟨rfl, y, rfl⟩)
        go_roundw
        case rel => exact ⟨k + 1, y, by omega, by go_num, HNN.out, rfl⟩
        case measure => simp [RowKit.intOf]; omega
    · have hge : ¬ (k : Int) < (L.length : Int) := by omega
      have HQ := Lib.hid (idxG_none (p := p) (L := L) (fun j hj => HN.out j hj (by omega)))
      go_wp2
      go_ret
      exact ⟨by rw [HQ.out]; rfl, x.ok⟩

set_option maxHeartbeats 1000000 in
theorem containsI_any (L : List Int) (w : World) (A : Option Addr) (c : Nat) (h : Ints w w.heap.size (.slice A L.length c) L) (g : Nat) (lb : Array Value) (p : Int → Bool) (hp : PredI g lb p w) (eg : ∀ args w, (callFunc g args).run Tryz.prog w = .ok (.enter g args) w) :
    Calls Tryz.prog 182 #[.slice A L.length c, .func (.func g) #[] lb] w (RetB (.bool (L.any p)) w) := by
  have H := Lib.hid (indexI_any L w A c h g lb p hp eg)
  obtain ⟨_, hc, hm⟩ := slR_len h
  have hlm : L.length ≤ 9223372036854775807 := by omega
  clear h hp eg
  obtain ⟨hiff, h1, h2⟩ := idxG_any p L
  generalize idxG p L = n at *
  go_enter Tryz.func182, Tryz.ntmps182
  by_cases hn : 0 ≤ n
  · have hd : decide (0 ≤ n) = true := by simp; omega
    have HC := Lib.hid (hiff.1 hn)
    clear hiff
    go_wp2_with (fail)
    refine H.out.mono ?_
    rintro e w1 ⟨rfl, hb⟩
    go_wp2
    go_ret
    exact ⟨by rw [HC.out]; rfl, hb⟩
  · have hd : decide (0 ≤ n) = false := by simp; omega
    have hc : L.any p = false := by
      cases hz : L.any p with
      | false => rfl
      | true => exact absurd (hiff.2 hz) hn
    have HC := Lib.hid hc
    clear hiff hc
    go_wp2_with (fail)
    refine H.out.mono ?_
    rintro e w1 ⟨rfl, hb⟩
    go_wp2
    go_ret
    exact ⟨by rw [HC.out]; rfl, hb⟩
set_option maxHeartbeats 1000000 in
theorem containsM_any (L : List Mot) (w : World) (A : Option Addr) (c : Nat) (h : Mots w w.heap.size (.slice A L.length c) L) (g : Nat) (lb : Array Value) (p : Mot → Bool) (hp : PredM g lb p w) (eg : ∀ args w, (callFunc g args).run Tryz.prog w = .ok (.enter g args) w) :
    Calls Tryz.prog 136 #[.slice A L.length c, .func (.func g) #[] lb] w (RetB (.bool (L.any p)) w) := by
  have H := Lib.hid (indexM_any L w A c h g lb p hp eg)
  obtain ⟨A', c', hv, hc, hm, _⟩ := mots_at h
  injection hv with e1 e2 e3
  subst e1 e3
  unfold maxLen at hm
  have hlm : L.length ≤ 9223372036854775807 := by omega
  clear h hp eg e2
  obtain ⟨hiff, h1, h2⟩ := idxG_any p L
  generalize idxG p L = n at *
  go_enter Tryz.func136, Tryz.ntmps136
  by_cases hn : 0 ≤ n
  · have hd : decide (0 ≤ n) = true := by simp; omega
    have HC := Lib.hid (hiff.1 hn)
    clear hiff
    go_wp2_with (fail)
    refine H.out.mono ?_
    rintro e w1 ⟨rfl, hb⟩
    go_wp2
    go_ret
    exact ⟨by rw [HC.out]; rfl, hb⟩
  · have hd : decide (0 ≤ n) = false := by simp; omega
    have hc : L.any p = false := by
      cases hz : L.any p with
      | false => rfl
      | true => exact absurd (hiff.2 hz) hn
    have HC := Lib.hid hc
    clear hiff hc
    go_wp2_with (fail)
    refine H.out.mono ?_
    rintro e w1 ⟨rfl, hb⟩
    go_wp2
    go_ret
    exact ⟨by rw [HC.out]; rfl, hb⟩

theorem enters_all : ∀ args w, (callFunc 183 args).run Tryz.prog w = .ok (.enter 183 args) w := enters_of Tryz.func183 (by kernel_rfl) rfl
theorem enters_vote : ∀ args w, (callFunc 143 args).run Tryz.prog w = .ok (.enter 143 args) w := enters_of Tryz.func143 (by kernel_rfl) rfl
theorem enters_title : ∀ args w, (callFunc 137 args).run Tryz.prog w = .ok (.enter 137 args) w := enters_of Tryz.func137 (by kernel_rfl) rfl
set_option maxHeartbeats 1000000 in
theorem all_pred (B : Nat) (w : World) (hB : B < w.heap.size) (hc : w.cell? ⟨B, 0, none⟩ = some (.func (.func 143) #[] #[])) : PredI 183 #[.pointer (some ⟨B, 0, none⟩)] (fun z => !inB z 0 3) w := by
  intro W x hb
  have x0 := (hb.cell (p := ⟨B, 0, none⟩) hB).trans hc
  have H := Lib.hid (vote2_any x W)
  have ev := enters_vote
  show Calls Tryz.prog 183 #[.int .i64 x, .pointer (some ⟨B, 0, none⟩)] W (RetB (.bool (!inB x 0 3)) W)
  generalize inB x 0 3 = r at *
  clear hb
  go_enter Tryz.func183, Tryz.ntmps183
  go_wp2_with (go_at_fn 143; refine (H.out).mono ?_; rintro e' _ ⟨rfl, k, rfl⟩)
  go_ret
  exact ⟨rfl, below_drewN (Below.refl _ _) _⟩
set_option maxHeartbeats 1000000 in
theorem title_pred (m : Mot) (B : Nat) (w : World) (hB : B < w.heap.size) (hc : w.cell? ⟨B, 0, none⟩ = some (.string m.title)) : PredM 137 #[.pointer (some ⟨B, 0, none⟩)] (fun o => o.title.toList == m.title.toList) w := by
  intro W x v1 v2 hb
  have x0 := (hb.cell (p := ⟨B, 0, none⟩) hB).trans hc
  have hlt := World.block_lt_of_cell? W ⟨B, 0, none⟩ x0
  have y0 := (((Below.refl W.heap.size W).alloc (Nat.le_refl _) (.cells #[.string x.title, .int .i64 x.author, v1, .int .i64 x.beg, .int .i64 x.fin, .int .i64 x.closes, v2, .int .i64 x.result] 78)).cell (p := ⟨B, 0, none⟩) hlt).trans x0
  show Calls Tryz.prog 137 #[.agg #[.string x.title, .int .i64 x.author, v1, .int .i64 x.beg, .int .i64 x.fin, .int .i64 x.closes, v2, .int .i64 x.result], .pointer (some ⟨B, 0, none⟩)] W (RetB (.bool (x.title.toList == m.title.toList)) W)
  clear x0 hb
  go_enter Tryz.func137, Tryz.ntmps137
  go_wp2
  go_ret
  exact ⟨rfl, (Below.refl W.heap.size W).alloc (Nat.le_refl _) _⟩
theorem votesOk_any (vs : List Int) : (vs.any fun z => !inB z 0 3) = !votesOk vs := by
  have : votesOk vs = vs.all (fun z => inB z 0 3) := by
    unfold votesOk
    rw [Bool.eq_iff_iff, allLt_true, List.all_eq_true]
    constructor
    · intro h x hx
      obtain ⟨k, hk, rfl⟩ := List.mem_iff_getElem.1 hx
      have := h k hk
      rwa [getD_at hk] at this
    · intro h k hk
      rw [getD_at hk]
      exact h _ (List.getElem_mem hk)
  rw [this, List.not_all_eq_any_not]
set_option maxHeartbeats 1000000 in
theorem areAll_any (vs : List Int) (n : Int) (A : Option Addr) (c : Nat) (w : World) (h : Ints w w.heap.size (.slice A vs.length c) vs) :
    Calls Tryz.prog 167 #[.slice A vs.length c, .int .i64 n, .func (.func 143) #[] #[]] w (RetB (.bool (((vs.length : Int) == n) && votesOk vs)) w) := by
  have hmf : ∀ (fn : Fn) (first cap : Array Value) (w : World), (Instr.makeFunc fn first cap).run Tryz.prog w = .ok (.func fn first cap) w := fun _ _ _ _ => rfl
  have bW : ∀ t, Below w.heap.size w (w.alloc (.cells #[.func (.func 143) #[] #[]] t)) := fun t => (Below.refl w.heap.size w).alloc (Nat.le_refl _) _
  have HI := Lib.hid (fun t => containsI_any vs (w.alloc (.cells #[.func (.func 143) #[] #[]] t)) A c (SlR.on h (Pl.stays _) (bW t) (bW t).size) 183 #[.pointer (some ⟨w.heap.size, 0, none⟩)] (fun z => !inB z 0 3) (all_pred w.heap.size _ (by simp) (by simp [go_sem])) enters_all)
  rw [votesOk_any] at HI
  have HB := Lib.hid bW
  obtain ⟨_, hc, hm⟩ := slR_len h
  have hlm : vs.length ≤ 9223372036854775807 := by omega
  generalize votesOk vs = r at *
  clear h bW
  cases hq : ((vs.length : Int) == n) with
  | false =>
    go_enter Tryz.func167, Tryz.ntmps167
    go_wp2
    go_ret
    exact ⟨rfl, HB.out _⟩
  | true =>
    go_enter Tryz.func167, Tryz.ntmps167
    go_wp2_with (fail)
    refine (HI.out _).mono ?_
    rintro e w1 ⟨rfl, hb1⟩
    have HB1 := Lib.hid ((HB.out _).trans (hb1.mono (HB.out _).size))
    clear hb1
    go_wp2
    go_ret
    exact ⟨by simp, HB1.out⟩
end Go.Proofs.YtnandbammmcncaaGreat

namespace Go.Proofs.YtnandbammmcncaaGreat
open Go.RowKit Go.Lib

theorem rule1_any (n : Int) (w : World) : Calls Tryz.prog 105 #[.int .i64 n] w (RetQ (.bool (inB n 0 2)) w) := by
  have H := Lib.hid (in1_any n 0 2 w)
  generalize inB n 0 2 = r at H ⊢
  go_enter Tryz.func105, Tryz.ntmps105
  go_wp2_with (fail)
  refine (H.out).mono ?_
  rintro e w1 ⟨rfl, m, rfl⟩
  go_wp2
  go_ret
  exact ⟨rfl, m, rfl⟩
theorem rule1_val (n : Int) (w : World) (r : Bool) (h : inB n 0 2 = r) : Calls Tryz.prog 105 #[.int .i64 n] w (RetQ (.bool r) w) := h ▸ rule1_any n w
theorem day1_val' (n : Int) (w : World) (r : Bool) (h : inB n 0 999 = r) : Calls Tryz.prog 104 #[.int .i64 n] w (RetQ (.bool r) w) := h ▸ day1_any n w
theorem both1_val (S : List Art) (ls : List Acta) (w : World) (vs va : Value) (r : Bool) (hS : Arts w w.heap.size vs S) (hA : Acts w w.heap.size va ls) (ht : ∀ a ∈ S, a.text.size ≤ maxLen) (hs : ActsSz ls) (hr : (okStat S && okActs ls) = r) :
    Calls Tryz.prog 106 #[vs, va] w (RetB (.bool r) w) := hr ▸ both1_all S ls w vs va hS hA ht hs
theorem mot1_val (m : Mot) (b o : Nat) (A1 : Option Addr) (c1 : Nat) (A2 : Option Addr) (c2 : Nat) (day n : Int) (w : World) (r : Bool) (h : MotP w w.heap.size b o m A1 c1 A2 c2) (hb : b < w.heap.size) (hs : m.title.size ≤ maxLen ∧ SizesOk m.pat) (n1 : 1 ≤ n) (n2 : n ≤ 1000) (hr : okMot m day n = r) :
    Calls Tryz.prog 108 #[.pointer (some ⟨b, o, none⟩), .int .i64 day, .int .i64 n] w (RetB (.bool r) w) := hr ▸ mot1_any m b o A1 c1 A2 c2 day n w h hb hs n1 n2
theorem memAt_at {L : List (List Int)} {n : Int} {k : Nat} (hk : k < L.length) : memAt L n k = okTrust L[k] (k : Int) n := by unfold memAt; rw [List.getElem?_eq_getElem hk]; rfl
theorem okTrusts_bad {L : List (List Int)} {k : Nat} (hk : k < L.length) (h : okTrust L[k] (k : Int) L.length = false) : okTrusts L = false := by
  unfold okTrusts
  exact allLt_false hk (by rw [memAt_at hk]; exact h)
theorem motAt_at {L : List Mot} {day n : Int} {k : Nat} (hk : k < L.length) : motAt L day n k = (okMot L[k] day n && !((L.take k).any (fun o => o.title.toList == L[k].title.toList))) := by unfold motAt; rw [List.getElem?_eq_getElem hk]; rfl
theorem okMots_bad {L : List Mot} {day n : Int} {k : Nat} (hk : k < L.length) (h : motAt L day n k = false) : okMots L day n = false := by
  unfold okMots
  exact allLt_false hk h
theorem okAsm_head {a : Asm} (h : okHead a = false) : okAsm a = false := by unfold okAsm; rw [h]; rfl
theorem okAsm_both {a : Asm} (h : (okStat a.base && okActs a.acts) = false) : okAsm a = false := by
  unfold okAsm
  rw [Bool.and_assoc (okHead a && okTrusts a.trust && okMots a.mots a.day ↑a.trust.length), h, Bool.and_false, Bool.false_and]
theorem okAsm_trusts {a : Asm} (h : okTrusts a.trust = false) : okAsm a = false := by unfold okAsm; rw [h]; simp
theorem okAsm_mots {a : Asm} (h : okMots a.mots a.day a.trust.length = false) : okAsm a = false := by unfold okAsm; rw [h]; simp
theorem okAsm_all {a : Asm} (h1 : okHead a = true) (h2 : okTrusts a.trust = true) (h3 : okMots a.mots a.day a.trust.length = true) (h4 : okStat a.base = true) (h5 : okActs a.acts = true) {n : Nat} (hn : n = 0 ↔ AllDays a.base a.acts) : okAsm a = ((n : Int) == 0) := by
  unfold okAsm
  rw [h1, h2, h3, h4, h5, Bool.eq_iff_iff]
  simp only [Bool.true_and, decide_eq_true_eq, beq_iff_eq]
  rw [← hn]
  omega
theorem keepJ {b o : Nat} {v3 v4 : Value} {w X X' : World} (h : X.cell? ⟨b, o + 3, none⟩ = some v3 ∧ X.cell? ⟨b, o + 4, none⟩ = some v4 ∧ Below w.heap.size w X) (hb : Below X.heap.size X X') : X'.cell? ⟨b, o + 3, none⟩ = some v3 ∧ X'.cell? ⟨b, o + 4, none⟩ = some v4 ∧ Below w.heap.size w X' :=
  ⟨(hb.cell (World.block_lt_of_cell? X _ h.1)).trans h.1, (hb.cell (World.block_lt_of_cell? X _ h.2.1)).trans h.2.1, h.2.2.trans (hb.mono h.2.2.size)⟩

set_option maxRecDepth 100000 in
set_option maxHeartbeats 8000000 in
theorem ok1_go (a : Asm) (At : Option Addr) (ct : Nat) (Ab : Option Addr) (cb : Nat) (Ac : Option Addr) (cc : Nat) (Am : Option Addr) (cm : Nat) (b o : Nat) (w : World)
    (k0 : w.cell? ⟨b, o, none⟩ = some (.int .i64 a.day)) (k1 : w.cell? ⟨b, o + 1, none⟩ = some (.int .i64 a.rule)) (k2 : w.cell? ⟨b, o + 2, none⟩ = some (.slice At a.trust.length ct)) (k3 : w.cell? ⟨b, o + 3, none⟩ = some (.slice Ab a.base.length cb)) (k4 : w.cell? ⟨b, o + 4, none⟩ = some (.slice Ac a.acts.length cc)) (k5 : w.cell? ⟨b, o + 5, none⟩ = some (.slice Am a.mots.length cm))
    (hR : AsmR w w.heap.size ⟨.slice At a.trust.length ct, .slice Ab a.base.length cb, .slice Ac a.acts.length cc, .slice Am a.mots.length cm⟩ a) (hs : AsmSz a) :
    Calls Tryz.prog 47 #[.pointer (some ⟨b, o, none⟩)] w (RetB (.bool (okAsm a)) w) := by
  have z0 := fun y : Aft w => y.cell k0
  have z1 := fun y : Aft w => y.cell k1
  have z2 := fun y : Aft w => y.cell k2
  have z3 := fun y : Aft w => y.cell k3
  have z4 := fun y : Aft w => y.cell k4
  have z5 := fun y : Aft w => y.cell k5
  have HR := Lib.hid (hR.aft (Nat.le_refl _))
  have HS := Lib.hid hs
  have HGM : Hid (0 < a.mots.length → ∃ b off, Am = some ⟨b, off, none⟩ ∧ b < w.heap.size ∧ ∀ (k : Nat) (m : Mot), a.mots[k]? = some m → ∃ A1 c1 A2 c2, MotP w w.heap.size b (off + k * 8) m A1 c1 A2 c2) := Lib.hid (by
    obtain ⟨A, c, hv, _, _, h⟩ := mots_at hR.m
    have hv : Value.slice Am a.mots.length cm = .slice A a.mots.length c := hv
    injection hv with e1 e2 e3
    rw [e1]
    exact h)
  have htm : a.trust.length ≤ 9223372036854775807 := by obtain ⟨A, c, _, q1, q2, _⟩ := rows_at hR.t; unfold maxLen at q2; omega
  have hmm : a.mots.length ≤ 9223372036854775807 := by obtain ⟨A, c, _, q1, q2, _⟩ := mots_at hR.m; unfold maxLen at q2; omega
  clear hR hs k0 k1 k2 k3 k4 k5
  cases h1 : inB a.day 0 999 with
  | false =>
    have HBAD := Lib.hid (okAsm_head (a := a) (by unfold okHead; rw [h1]; rfl))
    refine calls_aft fun x0 => ?_
    go_enter Tryz.func47, Tryz.ntmps47
    go_wp2_with (fail)
    refine wp_region_at (by kernel_rfl) (by kernel_rfl) ?_
    repeat (go_big_quiet_step ((first | (go_at_call 104; exact aft_q (day1_val' _ _ _ (by assumption))) | (go_at_call 105; exact aft_q (rule1_val _ _ _ (by assumption))) | (go_at_call 48; exact aft_q (in1_val _ _ _ _ _ (by assumption))) | (go_at_call 106; exact aft_b (both1_val _ _ _ _ _ _ (HR.out _).b (HR.out _).c HS.out.b HS.out.c (by assumption))))))
    refine wpQuiet_nil ?_
    rintro _ ⟨y, rfl⟩
    go_wp2
    go_ret
    exact ⟨by rw [HBAD.out]; rfl, y.ok⟩
  | true =>
  cases h2 : inB a.rule 0 2 with
  | false =>
    have HBAD := Lib.hid (okAsm_head (a := a) (by unfold okHead; rw [h2]; simp))
    refine calls_aft fun x0 => ?_
    go_enter Tryz.func47, Tryz.ntmps47
    go_wp2_with (fail)
    refine wp_region_at (by kernel_rfl) (by kernel_rfl) ?_
    repeat (go_big_quiet_step ((first | (go_at_call 104; exact aft_q (day1_val' _ _ _ (by assumption))) | (go_at_call 105; exact aft_q (rule1_val _ _ _ (by assumption))) | (go_at_call 48; exact aft_q (in1_val _ _ _ _ _ (by assumption))) | (go_at_call 106; exact aft_b (both1_val _ _ _ _ _ _ (HR.out _).b (HR.out _).c HS.out.b HS.out.c (by assumption))))))
    refine wpQuiet_nil ?_
    rintro _ ⟨y, rfl⟩
    go_wp2
    go_ret
    exact ⟨by rw [HBAD.out]; rfl, y.ok⟩
  | true =>
  cases h3 : inB (a.trust.length : Int) 1 12 with
  | false =>
    have HBAD := Lib.hid (okAsm_head (a := a) (by unfold okHead; rw [h3]; simp))
    refine calls_aft fun x0 => ?_
    go_enter Tryz.func47, Tryz.ntmps47
    go_wp2_with (fail)
    refine wp_region_at (by kernel_rfl) (by kernel_rfl) ?_
    repeat (go_big_quiet_step ((first | (go_at_call 104; exact aft_q (day1_val' _ _ _ (by assumption))) | (go_at_call 105; exact aft_q (rule1_val _ _ _ (by assumption))) | (go_at_call 48; exact aft_q (in1_val _ _ _ _ _ (by assumption))) | (go_at_call 106; exact aft_b (both1_val _ _ _ _ _ _ (HR.out _).b (HR.out _).c HS.out.b HS.out.c (by assumption))))))
    refine wpQuiet_nil ?_
    rintro _ ⟨y, rfl⟩
    go_wp2
    go_ret
    exact ⟨by rw [HBAD.out]; rfl, y.ok⟩
  | true =>
  cases h4 : (okStat a.base && okActs a.acts) with
  | false =>
    have HBAD := Lib.hid (okAsm_both h4)
    refine calls_aft fun x0 => ?_
    go_enter Tryz.func47, Tryz.ntmps47
    go_wp2_with (fail)
    refine wp_region_at (by kernel_rfl) (by kernel_rfl) ?_
    repeat (go_big_quiet_step ((first | (go_at_call 104; exact aft_q (day1_val' _ _ _ (by assumption))) | (go_at_call 105; exact aft_q (rule1_val _ _ _ (by assumption))) | (go_at_call 48; exact aft_q (in1_val _ _ _ _ _ (by assumption))) | (go_at_call 106; exact aft_b (both1_val _ _ _ _ _ _ (HR.out _).b (HR.out _).c HS.out.b HS.out.c (by assumption))))))
    refine wpQuiet_nil ?_
    rintro _ ⟨y, rfl⟩
    go_wp2
    go_ret
    exact ⟨by rw [HBAD.out]; rfl, y.ok⟩
  | true =>
  by_cases h5 : a.mots.length ≤ 6
  case neg =>
    have h6 : decide ((6 : Int) < (a.mots.length : Int)) = true := by simp; omega
    have h7 : decide (6 < a.mots.length) = true := by simp; omega
    have HBAD := Lib.hid (okAsm_head (a := a) (by unfold okHead; simp [h5]))
    clear h5
    refine calls_aft fun x0 => ?_
    go_enter Tryz.func47, Tryz.ntmps47
    go_wp2_with (fail)
    refine wp_region_at (by kernel_rfl) (by kernel_rfl) ?_
    repeat (go_big_quiet_step ((first | (go_at_call 104; exact aft_q (day1_val' _ _ _ (by assumption))) | (go_at_call 105; exact aft_q (rule1_val _ _ _ (by assumption))) | (go_at_call 48; exact aft_q (in1_val _ _ _ _ _ (by assumption))) | (go_at_call 106; exact aft_b (both1_val _ _ _ _ _ _ (HR.out _).b (HR.out _).c HS.out.b HS.out.c (by assumption))))))
    refine wpQuiet_nil ?_
    rintro _ ⟨y, rfl⟩
    go_wp2
    go_ret
    exact ⟨by rw [HBAD.out]; rfl, y.ok⟩
  have h6 : decide ((6 : Int) < (a.mots.length : Int)) = false := by simp; omega
  have h7 : decide (6 < a.mots.length) = false := by simp; omega
  have HHEAD : Hid (okHead a = true) := Lib.hid (by unfold okHead; simp [h1, h2, h3, h5])
  obtain ⟨hn1, hn12⟩ := inB_iff.1 h3
  obtain ⟨h8, h9⟩ := Bool.and_eq_true_iff.1 h4
  have HST := Lib.hid h8
  have HAC := Lib.hid h9
  have HBR := Lib.hid (fun y : Aft w => broken1_any a.base a.acts y.val _ _ (HR.out y).b (HR.out y).c h8 h9)
  refine calls_aft fun x0 => ?_
  go_enter Tryz.func47, Tryz.ntmps47
  go_wp2_with (fail)
  refine wp_region_at (by kernel_rfl) (by kernel_rfl) ?_
  repeat (go_big_quiet_step ((first | (go_at_call 104; exact aft_q (day1_val' _ _ _ (by assumption))) | (go_at_call 105; exact aft_q (rule1_val _ _ _ (by assumption))) | (go_at_call 48; exact aft_q (in1_val _ _ _ _ _ (by assumption))) | (go_at_call 106; exact aft_b (both1_val _ _ _ _ _ _ (HR.out _).b (HR.out _).c HS.out.b HS.out.c (by assumption))))))
  refine wpQuiet_nil ?_
  rintro _ ⟨y, rfl⟩
  clear h1 h2 h3 h4 h6 h7 h8 h9
  go_wp2
  go_loopw [4] (fun i wr => ∃ (k : Nat) (x : Aft w), k ≤ a.trust.length ∧ i = .int .i64 (k : Int) ∧ allLt k (memAt a.trust a.trust.length) = true ∧ wr = x.val) (fun i _ => a.trust.length - (RowKit.intOf i).toNat)
  case atStart => exact ⟨0, y, Nat.zero_le _, rfl, rfl, rfl⟩
  case round =>
    obtain ⟨k, x, hk, rfl, hall, rfl⟩ := hrel
    have HA := Lib.hid hall
    clear hall
    by_cases hlt : k < a.trust.length
    · obtain ⟨A', c', hv, _, _, hel⟩ := rows_at (HR.out x).t
      injection hv with e1 e2 e3
      subst e1
      obtain ⟨b2, off, rfl, hb2, hcell⟩ := hel (by omega)
      obtain ⟨A1, c1, k9, _, hI⟩ := hcell k _ (List.getElem?_eq_getElem hlt)
      have HI := Lib.hid hI
      have HSU := allLt_succ k (memAt a.trust a.trust.length)
      rw [HA.out, Bool.true_and, memAt_at hlt] at HSU
      have HSU := Lib.hid HSU
      have HBD := Lib.hid (fun h => okAsm_trusts (a := a) (okTrusts_bad hlt h))
      clear hcell hel hI e2 e3
      generalize a.trust[k] = l at *
      go_wp2_with (fail)
      refine (aft_b (trust1_any l (k : Int) (a.trust.length : Int) _ _ HI.out (by omega) (by omega))).mono ?_
      rintro e _ ⟨rfl, u, rfl⟩
      cases hz : okTrust l (k : Int) a.trust.length with
      | false =>
        have HBAD := Lib.hid (HBD.out hz)
        clear hz k9
        go_wp2
        go_ret
        exact ⟨by rw [HBAD.out]; rfl, u.ok⟩
      | true =>
        have HN := Lib.hid (HSU.out.trans hz)
        clear hz k9
        go_wp2
        go_roundw
        case rel => exact ⟨k + 1, u, by omega, by go_num, HN.out, rfl⟩
        case measure => simp [RowKit.intOf]; omega
    · have hge : ¬ (k : Int) < (a.trust.length : Int) := by omega
      have hk' : k = a.trust.length := by omega
      have HTR : Hid (okTrusts a.trust = true) := Lib.hid (by unfold okTrusts; rw [← hk']; rw [← hk'] at HA; exact HA.out)
      clear hk' hlt
      go_wp2
      go_loopw [5, 6] (fun i _ wr => ∃ (k : Nat) (x : Aft w), k ≤ a.mots.length ∧ i = .int .i64 (k : Int) ∧ allLt k (motAt a.mots a.day a.trust.length) = true ∧ wr = x.val) (fun i _ _ => a.mots.length - (RowKit.intOf i).toNat)
      case atStart => exact ⟨0, x, Nat.zero_le _, rfl, rfl, rfl⟩
      case round =>
        obtain ⟨k, x, hk, rfl, hall, rfl⟩ := hrel
        have HA := Lib.hid hall
        clear hall
        by_cases hlt : k < a.mots.length
        · obtain ⟨b2, off, rfl, hb2, hcell⟩ := HGM.out (by omega)
          have HCELL := Lib.hid hcell
          obtain ⟨A1, c1, A2, c2, hP⟩ := hcell k _ (List.getElem?_eq_getElem hlt)
          have HP := Lib.hid (fun y : Aft w => hP.on y.ok y.ok.size hb2)
          have HLT := Lib.hid (fun y : Aft w => Nat.lt_of_lt_of_le hb2 y.ok.size)
          have HAT := Lib.hid (motAt_at (L := a.mots) (day := a.day) (n := a.trust.length) hlt)
          have HSU := allLt_succ k (motAt a.mots a.day a.trust.length)
          rw [HA.out, Bool.true_and] at HSU
          have HSU := Lib.hid HSU
          have HBD := Lib.hid (fun h => okAsm_mots (a := a) (okMots_bad hlt h))
          have hso := HS.out.m _ (List.getElem_mem hlt)
          have t1 := fun y : Aft w => y.cell hP.k0
          clear hcell hP
          generalize a.mots[k] = m at *
          cases hz : okMot m a.day a.trust.length with
          | false =>
            have HBAD := Lib.hid (HBD.out (HAT.out.trans (by rw [hz]; rfl)))
            go_wp2_with (fail)
            refine wp_region_at (by kernel_rfl) (by kernel_rfl) ?_
            repeat (go_big_quiet_step ((first | (go_at_call 108; exact aft_b (mot1_val m _ _ _ _ _ _ _ _ _ _ (HP.out _) (HLT.out _) hso (by omega) (by omega) (by assumption))))))
            refine wpQuiet_nil ?_
            rintro _ ⟨u, rfl⟩
            go_wp2
            go_ret
            exact ⟨by rw [HBAD.out]; rfl, u.ok⟩
          | true =>
            go_wp2_with (fail)
            refine wp_region_at (by kernel_rfl) (by kernel_rfl) ?_
            repeat (go_big_quiet_step ((first | (go_at_call 108; exact aft_b (mot1_val m _ _ _ _ _ _ _ _ _ _ (HP.out _) (HLT.out _) hso (by omega) (by omega) (by assumption))))))
            refine wpQuiet_nil ?_
            rintro _ ⟨u, rfl⟩
            rw [hz, Bool.true_and] at HAT
            clear hz
            go_wp2
            go_loopw [6] (fun i wr => ∃ (j : Nat) (x : Aft w), j ≤ k ∧ i = .int .i64 (j : Int) ∧ (a.mots.take j).any (fun o => o.title.toList == m.title.toList) = false ∧ wr = x.val) (fun i _ => k - (RowKit.intOf i).toNat)
            case atStart => exact ⟨0, u, Nat.zero_le _, rfl, rfl, rfl⟩
            case round =>
              obtain ⟨j, x, hj, rfl, hany, rfl⟩ := hrel
              have HANY := Lib.hid hany
              clear hany
              by_cases hjk : j < k
              · obtain ⟨B1, d1, B2, d2, hQ⟩ := HCELL.out j _ (List.getElem?_eq_getElem (by omega))
                have t2 := fun y : Aft w => y.cell hQ.k0
                have HTK : Hid ((a.mots.take (j + 1)).any (fun o => o.title.toList == m.title.toList) = (a.mots[j].title.toList == m.title.toList)) := Lib.hid (by
                  rw [List.take_succ_eq_append_getElem (by omega), List.any_append, HANY.out]
                  simp)
                have HKY : Hid ((a.mots[j].title.toList == m.title.toList) = true → (a.mots.take k).any (fun o => o.title.toList == m.title.toList) = true) := Lib.hid (fun h => List.any_eq_true.2 ⟨a.mots[j], List.mem_take_iff_getElem.2 ⟨j, by omega, rfl⟩, h⟩)
                clear hQ
                generalize a.mots[j].title = tj at *
                cases he : (tj.toList == m.title.toList) with
                | true =>
                  have HBAD := Lib.hid (HBD.out (HAT.out.trans (by rw [HKY.out he]; rfl)))
                  go_wp2_with (fail)
                  refine wp_region_at (by kernel_rfl) (by kernel_rfl) ?_
                  repeat (go_big_quiet_step (fail))
                  refine wpQuiet_nil ?_
                  rintro _ ⟨v, rfl⟩
                  go_wp2
                  go_ret
                  exact ⟨by rw [HBAD.out]; rfl, v.ok⟩
                | false =>
                  have HN := Lib.hid (HTK.out.trans he)
                  go_wp2_with (fail)
                  refine wp_region_at (by kernel_rfl) (by kernel_rfl) ?_
                  repeat (go_big_quiet_step (fail))
                  refine wpQuiet_nil ?_
                  rintro _ ⟨v, rfl⟩
                  go_wp2
                  go_roundw
                  case rel => exact ⟨j + 1, v, by omega, by go_num, HN.out, rfl⟩
                  case measure => simp [RowKit.intOf]; omega
              · have hje : j = k := by omega
                have hge : ¬ (j : Int) < (k : Int) := by omega
                have HN : Hid (allLt (k + 1) (motAt a.mots a.day a.trust.length) = true) := Lib.hid (by rw [HSU.out, HAT.out, ← hje, HANY.out]; rfl)
                clear hje
                go_wp2
                go_roundw
                case rel => exact ⟨k + 1, x, by omega, by go_num, HN.out, rfl⟩
                case measure => simp [RowKit.intOf]; omega
        · have hge : ¬ (k : Int) < (a.mots.length : Int) := by omega
          have hk' : k = a.mots.length := by omega
          have HMO : Hid (okMots a.mots a.day a.trust.length = true) := Lib.hid (by unfold okMots; rw [← hk']; exact HA.out)
          have HALL : Hid (∀ n : Nat, (n = 0 ↔ AllDays a.base a.acts) → okAsm a = ((n : Int) == 0)) := Lib.hid (fun n hn => okAsm_all HHEAD.out HTR.out HMO.out HST.out HAC.out hn)
          have u3 := z3 x
          have u4 := z4 x
          have u5 := z5 x
          have bx := x.ok
          have HBW : Hid (∀ W, Below w.heap.size w W → Calls Tryz.prog 109 #[.slice Ab a.base.length cb, .slice Ac a.acts.length cc] W (Broken1Post a.base a.acts W)) := Lib.hid (fun W hb => HBR.out ⟨W, hb⟩)
          obtain ⟨W, hW⟩ : ∃ W, W = x.val := ⟨_, rfl⟩
          rw [← hW] at u3 u4 u5 bx ⊢
          clear hk' hlt z0 z1 z2 z3 z4 z5 hW
          go_wp2_with (fail)
          go_region_held3 (fun w' => w'.cell? ⟨b, o + 3, none⟩ = some (.slice Ab a.base.length cb) ∧ w'.cell? ⟨b, o + 4, none⟩ = some (.slice Ac a.acts.length cc) ∧ Below w.heap.size w w')
            (first | exact ⟨u3, u4, bx.drew⟩ | exact ⟨u3, u4, bx⟩ | exact keepJ (by assumption) (by assumption) | exact keepJ ⟨u3, u4, bx⟩ ((Below.refl _ _).drew) | exact keepJ (by assumption) ((Below.refl _ _).drew))
            (first | (go_at_call 109; refine (HBW.out _ (And.right (And.right (by assumption)))).mono ?_; rintro e w' ⟨g, cap, n, rfl, hn1, hn2, hb⟩))
          all_goals
            have HF := Lib.hid (HALL.out n hn2)
            go_wp2
            go_ret
            exact ⟨by rw [HF.out]; rfl, by first | exact bx.drew.trans (hb.mono bx.drew.size) | exact Below.trans (And.right (And.right (by assumption))) (hb.mono (Below.size (And.right (And.right (by assumption)))))⟩
theorem ok1_any (a : Asm) (x : VAsm) (b o : Nat) (w : World)
    (k0 : w.cell? ⟨b, o, none⟩ = some (.int .i64 a.day)) (k1 : w.cell? ⟨b, o + 1, none⟩ = some (.int .i64 a.rule)) (k2 : w.cell? ⟨b, o + 2, none⟩ = some x.t) (k3 : w.cell? ⟨b, o + 3, none⟩ = some x.b) (k4 : w.cell? ⟨b, o + 4, none⟩ = some x.c) (k5 : w.cell? ⟨b, o + 5, none⟩ = some x.m)
    (hR : AsmR w w.heap.size x a) (hs : AsmSz a) : Calls Tryz.prog 47 #[.pointer (some ⟨b, o, none⟩)] w (RetB (.bool (okAsm a)) w) := by
  obtain ⟨At, ct, Ab, cb, Ac, cc, Am, cm, rfl⟩ := hR.slices
  exact ok1_go a At ct Ab cb Ac cc Am cm b o w k0 k1 k2 k3 k4 k5 hR hs
end Go.Proofs.YtnandbammmcncaaGreat

namespace Go.Proofs.YtnandbammmcncaaGreat
open Go.RowKit Go.Lib

theorem rule2_any (n : Int) (w : World) : Calls Tryz.prog 117 #[.int .i64 n] w (RetQ (.bool (inB n 0 2)) w) := by
  have H := Lib.hid (in2_any n 0 2 w)
  generalize inB n 0 2 = r at H ⊢
  go_enter Tryz.func117, Tryz.ntmps117
  go_wp2_with (fail)
  refine (H.out).mono ?_
  rintro e w1 ⟨rfl, m, rfl⟩
  go_wp2
  go_ret
  exact ⟨rfl, m, rfl⟩
theorem rule2_val (n : Int) (w : World) (r : Bool) (h : inB n 0 2 = r) : Calls Tryz.prog 117 #[.int .i64 n] w (RetQ (.bool r) w) := h ▸ rule2_any n w
theorem date2_val (n : Int) (w : World) (r : Bool) (h : inB n 0 999 = r) : Calls Tryz.prog 133 #[.int .i64 n] w (RetQ (.bool r) w) := h ▸ day2_any n w
theorem name2_val (s : ByteArray) (w : World) (r : Bool) (hs : s.size ≤ maxLen) (h : okName s.toList = r) : Calls Tryz.prog 142 #[.string s] w (RetQ (.bool r) w) := h ▸ name2_any s w hs
theorem prop2_val (es : List Edit) (w : World) (v : Value) (closes start until_ : Int) (r : Bool) (h : Edits w w.heap.size v es) (hs : SizesOk es) (hr : okSpan es closes start until_ = r) :
    Calls Tryz.prog 144 #[v, .int .i64 closes, .int .i64 start, .int .i64 until_] w (RetB (.bool r) w) := hr ▸ prop2_any es w v closes start until_ h hs
theorem areAll_val (vs : List Int) (n : Int) (A : Option Addr) (c : Nat) (w : World) (r : Bool) (h : Ints w w.heap.size (.slice A vs.length c) vs) (hr : (((vs.length : Int) == n) && votesOk vs) = r) :
    Calls Tryz.prog 167 #[.slice A vs.length c, .int .i64 n, .func (.func 143) #[] #[]] w (RetB (.bool r) w) := hr ▸ areAll_any vs n A c w h
theorem okMot2 (m : Mot) (day n : Int) : okMot m day n = (okName m.title.toList && inB m.author 0 (n - 1) && okSpan m.pat m.closes m.beg m.fin && (((m.votes.length : Int) == n) && votesOk m.votes) && inB m.result 0 4 && ((m.result == 0) == decide (day < m.closes))) := by
  unfold okMot
  rw [okSpan_span, len_zero]
  simp only [Bool.and_assoc]
set_option maxRecDepth 100000 in
set_option maxHeartbeats 8000000 in
theorem mot2_any (a : Asm) (At : Option Addr) (ct : Nat) (Ab : Option Addr) (cb : Nat) (Ac : Option Addr) (cc : Nat) (Am : Option Addr) (cm : Nat) (m : Mot) (A1 : Option Addr) (c1 : Nat) (A2 : Option Addr) (c2 : Nat) (w : World) (hE : Edits w w.heap.size (.slice A1 m.pat.length c1) m.pat) (hI : Ints w w.heap.size (.slice A2 m.votes.length c2) m.votes) (hs : m.title.size ≤ maxLen ∧ SizesOk m.pat) (n1 : 1 ≤ a.trust.length) (n2 : a.trust.length ≤ 1000) :
    Calls Tryz.prog 135 #[.agg #[.int .i64 a.day, .int .i64 a.rule, .slice At a.trust.length ct, .slice Ab a.base.length cb, .slice Ac a.acts.length cc, .slice Am a.mots.length cm], .agg #[.string m.title, .int .i64 m.author, .slice A1 m.pat.length c1, .int .i64 m.beg, .int .i64 m.fin, .int .i64 m.closes, .slice A2 m.votes.length c2, .int .i64 m.result]] w (RetB (.bool (okMot m a.day a.trust.length)) w) := by
  obtain ⟨W, hW⟩ : ∃ W : World, W = (w.alloc (.cells #[.int .i64 a.day, .int .i64 a.rule, .slice At a.trust.length ct, .slice Ab a.base.length cb, .slice Ac a.acts.length cc, .slice Am a.mots.length cm] 36)).alloc (.cells #[.string m.title, .int .i64 m.author, .slice A1 m.pat.length c1, .int .i64 m.beg, .int .i64 m.fin, .int .i64 m.closes, .slice A2 m.votes.length c2, .int .i64 m.result] 78) := ⟨_, rfl⟩
  have bW : Below w.heap.size w W := by rw [hW]; exact ((Below.refl _ _).alloc (Nat.le_refl _) _).alloc (by simp) _
  have a1 : Row W w.heap.size [.int .i64 a.day, .int .i64 a.rule, .slice At a.trust.length ct, .slice Ab a.base.length cb, .slice Ac a.acts.length cc, .slice Am a.mots.length cm] := by rw [hW]; exact (Row.new w _ _).below ((Below.refl _ _).alloc (Nat.le_refl _) _) (by simp)
  have a2 : Row W (w.heap.size + 1) [.string m.title, .int .i64 m.author, .slice A1 m.pat.length c1, .int .i64 m.beg, .int .i64 m.fin, .int .i64 m.closes, .slice A2 m.votes.length c2, .int .i64 m.result] := by rw [hW]; simpa using Row.new (w.alloc (.cells #[.int .i64 a.day, .int .i64 a.rule, .slice At a.trust.length ct, .slice Ab a.base.length cb, .slice Ac a.acts.length cc, .slice Am a.mots.length cm] 36)) #[.string m.title, .int .i64 m.author, .slice A1 m.pat.length c1, .int .i64 m.beg, .int .i64 m.fin, .int .i64 m.closes, .slice A2 m.votes.length c2, .int .i64 m.result] 78
  have z0 := fun y : Aft W => y.cell (a1.cell 0 _ rfl)
  have z2 := fun y : Aft W => y.cell (a1.cell 2 _ rfl)
  have t0 := fun y : Aft W => y.cell (a2.cell 0 _ rfl)
  have t1 := fun y : Aft W => y.cell (a2.cell 1 _ rfl)
  have t2 := fun y : Aft W => y.cell (a2.cell 2 _ rfl)
  have t3 := fun y : Aft W => y.cell (a2.cell 3 _ rfl)
  have t4 := fun y : Aft W => y.cell (a2.cell 4 _ rfl)
  have t5 := fun y : Aft W => y.cell (a2.cell 5 _ rfl)
  have t6 := fun y : Aft W => y.cell (a2.cell 6 _ rfl)
  have t7 := fun y : Aft W => y.cell (a2.cell 7 _ rfl)
  have HE := Lib.hid (fun y : Aft W => hE.on (Pl.stays _) (aft_done bW y) (aft_done bW y).size)
  have HI := Lib.hid (fun y : Aft W => hI.on (Pl.stays _) (aft_done bW y) (aft_done bW y).size)
  have HTI := Lib.hid hs.1
  have hso := hs.2
  have HW := Lib.hid hW
  clear hE hI hs hW a1 a2
  cases h1 : okName m.title.toList with
  | false =>
    have HB : Hid (okMot m a.day a.trust.length = false) := Lib.hid (by rw [okMot2, h1]; rfl)
    go_enter Tryz.func135, Tryz.ntmps135
    go_wp2_with (fail)
    rw [← HW.out]
    obtain ⟨x0, hx0⟩ : ∃ y : Aft W, y.val = W := ⟨⟨W, Below.refl _ _⟩, rfl⟩
    rw [← hx0]
    clear hx0
    refine (aft_q (name2_val _ _ _ HTI.out (by assumption))).mono ?_
    rintro e _ ⟨rfl, y, rfl⟩
    go_wp2_with (first | (go_at_call 142; refine (aft_q (name2_val _ _ _ HTI.out (by assumption))).mono ?_; rintro e _ ⟨rfl, y, rfl⟩) | (go_at_call 57; refine (aft_q (in2_val _ _ _ _ _ (by assumption))).mono ?_; rintro e _ ⟨rfl, y, rfl⟩) | (go_at_call 144; refine (aft_b (prop2_val _ _ _ _ _ _ _ (HE.out _) hso (by assumption))).mono ?_; rintro e _ ⟨rfl, y, rfl⟩) | (go_at_call 167; refine (aft_b (areAll_val _ _ _ _ _ _ (HI.out _) (by assumption))).mono ?_; rintro e _ ⟨rfl, y, rfl⟩))
    go_ret
    exact ⟨by rw [HB.out]; rfl, aft_done bW (by assumption)⟩
  | true =>
  cases h2 : inB m.author 0 ((a.trust.length : Int) - 1) with
  | false =>
    have HB : Hid (okMot m a.day a.trust.length = false) := Lib.hid (by rw [okMot2, h1, h2]; rfl)
    go_enter Tryz.func135, Tryz.ntmps135
    go_wp2_with (fail)
    rw [← HW.out]
    obtain ⟨x0, hx0⟩ : ∃ y : Aft W, y.val = W := ⟨⟨W, Below.refl _ _⟩, rfl⟩
    rw [← hx0]
    clear hx0
    refine (aft_q (name2_val _ _ _ HTI.out (by assumption))).mono ?_
    rintro e _ ⟨rfl, y, rfl⟩
    go_wp2_with (first | (go_at_call 142; refine (aft_q (name2_val _ _ _ HTI.out (by assumption))).mono ?_; rintro e _ ⟨rfl, y, rfl⟩) | (go_at_call 57; refine (aft_q (in2_val _ _ _ _ _ (by assumption))).mono ?_; rintro e _ ⟨rfl, y, rfl⟩) | (go_at_call 144; refine (aft_b (prop2_val _ _ _ _ _ _ _ (HE.out _) hso (by assumption))).mono ?_; rintro e _ ⟨rfl, y, rfl⟩) | (go_at_call 167; refine (aft_b (areAll_val _ _ _ _ _ _ (HI.out _) (by assumption))).mono ?_; rintro e _ ⟨rfl, y, rfl⟩))
    go_ret
    exact ⟨by rw [HB.out]; rfl, aft_done bW (by assumption)⟩
  | true =>
  cases h3 : okSpan m.pat m.closes m.beg m.fin with
  | false =>
    have HB : Hid (okMot m a.day a.trust.length = false) := Lib.hid (by rw [okMot2, h1, h2, h3]; rfl)
    go_enter Tryz.func135, Tryz.ntmps135
    go_wp2_with (fail)
    rw [← HW.out]
    obtain ⟨x0, hx0⟩ : ∃ y : Aft W, y.val = W := ⟨⟨W, Below.refl _ _⟩, rfl⟩
    rw [← hx0]
    clear hx0
    refine (aft_q (name2_val _ _ _ HTI.out (by assumption))).mono ?_
    rintro e _ ⟨rfl, y, rfl⟩
    go_wp2_with (first | (go_at_call 142; refine (aft_q (name2_val _ _ _ HTI.out (by assumption))).mono ?_; rintro e _ ⟨rfl, y, rfl⟩) | (go_at_call 57; refine (aft_q (in2_val _ _ _ _ _ (by assumption))).mono ?_; rintro e _ ⟨rfl, y, rfl⟩) | (go_at_call 144; refine (aft_b (prop2_val _ _ _ _ _ _ _ (HE.out _) hso (by assumption))).mono ?_; rintro e _ ⟨rfl, y, rfl⟩) | (go_at_call 167; refine (aft_b (areAll_val _ _ _ _ _ _ (HI.out _) (by assumption))).mono ?_; rintro e _ ⟨rfl, y, rfl⟩))
    go_ret
    exact ⟨by rw [HB.out]; rfl, aft_done bW (by assumption)⟩
  | true =>
  cases h4 : (((m.votes.length : Int) == (a.trust.length : Int)) && votesOk m.votes) with
  | false =>
    have HB : Hid (okMot m a.day a.trust.length = false) := Lib.hid (by rw [okMot2, h1, h2, h3, h4]; rfl)
    go_enter Tryz.func135, Tryz.ntmps135
    go_wp2_with (fail)
    rw [← HW.out]
    obtain ⟨x0, hx0⟩ : ∃ y : Aft W, y.val = W := ⟨⟨W, Below.refl _ _⟩, rfl⟩
    rw [← hx0]
    clear hx0
    refine (aft_q (name2_val _ _ _ HTI.out (by assumption))).mono ?_
    rintro e _ ⟨rfl, y, rfl⟩
    go_wp2_with (first | (go_at_call 142; refine (aft_q (name2_val _ _ _ HTI.out (by assumption))).mono ?_; rintro e _ ⟨rfl, y, rfl⟩) | (go_at_call 57; refine (aft_q (in2_val _ _ _ _ _ (by assumption))).mono ?_; rintro e _ ⟨rfl, y, rfl⟩) | (go_at_call 144; refine (aft_b (prop2_val _ _ _ _ _ _ _ (HE.out _) hso (by assumption))).mono ?_; rintro e _ ⟨rfl, y, rfl⟩) | (go_at_call 167; refine (aft_b (areAll_val _ _ _ _ _ _ (HI.out _) (by assumption))).mono ?_; rintro e _ ⟨rfl, y, rfl⟩))
    go_ret
    exact ⟨by rw [HB.out]; rfl, aft_done bW (by assumption)⟩
  | true =>
  cases h5 : inB m.result 0 4 with
  | false =>
    have HB : Hid (okMot m a.day a.trust.length = false) := Lib.hid (by rw [okMot2, h1, h2, h3, h4, h5]; rfl)
    go_enter Tryz.func135, Tryz.ntmps135
    go_wp2_with (fail)
    rw [← HW.out]
    obtain ⟨x0, hx0⟩ : ∃ y : Aft W, y.val = W := ⟨⟨W, Below.refl _ _⟩, rfl⟩
    rw [← hx0]
    clear hx0
    refine (aft_q (name2_val _ _ _ HTI.out (by assumption))).mono ?_
    rintro e _ ⟨rfl, y, rfl⟩
    go_wp2_with (first | (go_at_call 142; refine (aft_q (name2_val _ _ _ HTI.out (by assumption))).mono ?_; rintro e _ ⟨rfl, y, rfl⟩) | (go_at_call 57; refine (aft_q (in2_val _ _ _ _ _ (by assumption))).mono ?_; rintro e _ ⟨rfl, y, rfl⟩) | (go_at_call 144; refine (aft_b (prop2_val _ _ _ _ _ _ _ (HE.out _) hso (by assumption))).mono ?_; rintro e _ ⟨rfl, y, rfl⟩) | (go_at_call 167; refine (aft_b (areAll_val _ _ _ _ _ _ (HI.out _) (by assumption))).mono ?_; rintro e _ ⟨rfl, y, rfl⟩))
    go_ret
    exact ⟨by rw [HB.out]; rfl, aft_done bW (by assumption)⟩
  | true =>
  cases h6 : (m.result == 0) with
  | false =>
    by_cases h7 : a.day < m.closes
    · have h8 : decide (a.day < m.closes) = true := decide_eq_true h7
      have HB : Hid (okMot m a.day a.trust.length = false) := Lib.hid (by rw [okMot2, h1, h2, h3, h4, h5, h6, h8]; rfl)
      go_enter Tryz.func135, Tryz.ntmps135
      go_wp2_with (fail)
      rw [← HW.out]
      obtain ⟨x0, hx0⟩ : ∃ y : Aft W, y.val = W := ⟨⟨W, Below.refl _ _⟩, rfl⟩
      rw [← hx0]
      clear hx0
      refine (aft_q (name2_val _ _ _ HTI.out (by assumption))).mono ?_
      rintro e _ ⟨rfl, y, rfl⟩
      go_wp2_with (first | (go_at_call 142; refine (aft_q (name2_val _ _ _ HTI.out (by assumption))).mono ?_; rintro e _ ⟨rfl, y, rfl⟩) | (go_at_call 57; refine (aft_q (in2_val _ _ _ _ _ (by assumption))).mono ?_; rintro e _ ⟨rfl, y, rfl⟩) | (go_at_call 144; refine (aft_b (prop2_val _ _ _ _ _ _ _ (HE.out _) hso (by assumption))).mono ?_; rintro e _ ⟨rfl, y, rfl⟩) | (go_at_call 167; refine (aft_b (areAll_val _ _ _ _ _ _ (HI.out _) (by assumption))).mono ?_; rintro e _ ⟨rfl, y, rfl⟩))
      go_ret
      exact ⟨by rw [HB.out]; rfl, aft_done bW (by assumption)⟩
    · have h8 : decide (a.day < m.closes) = false := decide_eq_false h7
      have HB : Hid (okMot m a.day a.trust.length = true) := Lib.hid (by rw [okMot2, h1, h2, h3, h4, h5, h6, h8]; rfl)
      go_enter Tryz.func135, Tryz.ntmps135
      go_wp2_with (fail)
      rw [← HW.out]
      obtain ⟨x0, hx0⟩ : ∃ y : Aft W, y.val = W := ⟨⟨W, Below.refl _ _⟩, rfl⟩
      rw [← hx0]
      clear hx0
      refine (aft_q (name2_val _ _ _ HTI.out (by assumption))).mono ?_
      rintro e _ ⟨rfl, y, rfl⟩
      go_wp2_with (first | (go_at_call 142; refine (aft_q (name2_val _ _ _ HTI.out (by assumption))).mono ?_; rintro e _ ⟨rfl, y, rfl⟩) | (go_at_call 57; refine (aft_q (in2_val _ _ _ _ _ (by assumption))).mono ?_; rintro e _ ⟨rfl, y, rfl⟩) | (go_at_call 144; refine (aft_b (prop2_val _ _ _ _ _ _ _ (HE.out _) hso (by assumption))).mono ?_; rintro e _ ⟨rfl, y, rfl⟩) | (go_at_call 167; refine (aft_b (areAll_val _ _ _ _ _ _ (HI.out _) (by assumption))).mono ?_; rintro e _ ⟨rfl, y, rfl⟩))
      go_ret
      exact ⟨by rw [HB.out]; rfl, aft_done bW (by assumption)⟩
  | true =>
    by_cases h7 : a.day < m.closes
    · have h8 : decide (a.day < m.closes) = true := decide_eq_true h7
      have HB : Hid (okMot m a.day a.trust.length = true) := Lib.hid (by rw [okMot2, h1, h2, h3, h4, h5, h6, h8]; rfl)
      go_enter Tryz.func135, Tryz.ntmps135
      go_wp2_with (fail)
      rw [← HW.out]
      obtain ⟨x0, hx0⟩ : ∃ y : Aft W, y.val = W := ⟨⟨W, Below.refl _ _⟩, rfl⟩
      rw [← hx0]
      clear hx0
      refine (aft_q (name2_val _ _ _ HTI.out (by assumption))).mono ?_
      rintro e _ ⟨rfl, y, rfl⟩
      go_wp2_with (first | (go_at_call 142; refine (aft_q (name2_val _ _ _ HTI.out (by assumption))).mono ?_; rintro e _ ⟨rfl, y, rfl⟩) | (go_at_call 57; refine (aft_q (in2_val _ _ _ _ _ (by assumption))).mono ?_; rintro e _ ⟨rfl, y, rfl⟩) | (go_at_call 144; refine (aft_b (prop2_val _ _ _ _ _ _ _ (HE.out _) hso (by assumption))).mono ?_; rintro e _ ⟨rfl, y, rfl⟩) | (go_at_call 167; refine (aft_b (areAll_val _ _ _ _ _ _ (HI.out _) (by assumption))).mono ?_; rintro e _ ⟨rfl, y, rfl⟩))
      go_ret
      exact ⟨by rw [HB.out]; rfl, aft_done bW (by assumption)⟩
    · have h8 : decide (a.day < m.closes) = false := decide_eq_false h7
      have HB : Hid (okMot m a.day a.trust.length = false) := Lib.hid (by rw [okMot2, h1, h2, h3, h4, h5, h6, h8]; rfl)
      go_enter Tryz.func135, Tryz.ntmps135
      go_wp2_with (fail)
      rw [← HW.out]
      obtain ⟨x0, hx0⟩ : ∃ y : Aft W, y.val = W := ⟨⟨W, Below.refl _ _⟩, rfl⟩
      rw [← hx0]
      clear hx0
      refine (aft_q (name2_val _ _ _ HTI.out (by assumption))).mono ?_
      rintro e _ ⟨rfl, y, rfl⟩
      go_wp2_with (first | (go_at_call 142; refine (aft_q (name2_val _ _ _ HTI.out (by assumption))).mono ?_; rintro e _ ⟨rfl, y, rfl⟩) | (go_at_call 57; refine (aft_q (in2_val _ _ _ _ _ (by assumption))).mono ?_; rintro e _ ⟨rfl, y, rfl⟩) | (go_at_call 144; refine (aft_b (prop2_val _ _ _ _ _ _ _ (HE.out _) hso (by assumption))).mono ?_; rintro e _ ⟨rfl, y, rfl⟩) | (go_at_call 167; refine (aft_b (areAll_val _ _ _ _ _ _ (HI.out _) (by assumption))).mono ?_; rintro e _ ⟨rfl, y, rfl⟩))
      go_ret
      exact ⟨by rw [HB.out]; rfl, aft_done bW (by assumption)⟩
end Go.Proofs.YtnandbammmcncaaGreat

namespace Go.Proofs.YtnandbammmcncaaGreat
open Go.RowKit Go.Lib

theorem Mots.take {w : World} {B : Nat} {A : Option Addr} {n c : Nat} {ls : List Mot} (h : Mots w B (.slice A n c) ls) (k : Nat) (hk : k ≤ ls.length) : Mots w B (.slice A k c) (ls.take k) := by
  obtain ⟨L, rfl, h2, h3⟩ := h
  rw [List.length_map] at hk
  exact ⟨L.take k, by rw [List.map_take], SlR.take h2 k hk, fun x hx => h3 x (List.mem_of_mem_take hx)⟩
theorem trust2_val (zs : List Int) (member n : Int) (w : World) (v : Value) (r : Bool) (h : Ints w w.heap.size v zs) (hn1 : -1000 ≤ n) (hn2 : n ≤ 1000) (hr : okTrust zs member n = r) :
    Calls Tryz.prog 134 #[v, .int .i64 member, .int .i64 n] w (RetQ (.bool r) w) := hr ▸ trust2_any zs member n w v h hn1 hn2
theorem mot2_val (a : Asm) (At : Option Addr) (ct : Nat) (Ab : Option Addr) (cb : Nat) (Ac : Option Addr) (cc : Nat) (Am : Option Addr) (cm : Nat) (m : Mot) (A1 : Option Addr) (c1 : Nat) (A2 : Option Addr) (c2 : Nat) (w : World) (r : Bool) (hE : Edits w w.heap.size (.slice A1 m.pat.length c1) m.pat) (hI : Ints w w.heap.size (.slice A2 m.votes.length c2) m.votes) (hs : m.title.size ≤ maxLen ∧ SizesOk m.pat) (n1 : 1 ≤ a.trust.length) (n2 : a.trust.length ≤ 1000) (hr : okMot m a.day a.trust.length = r) :
    Calls Tryz.prog 135 #[.agg #[.int .i64 a.day, .int .i64 a.rule, .slice At a.trust.length ct, .slice Ab a.base.length cb, .slice Ac a.acts.length cc, .slice Am a.mots.length cm], .agg #[.string m.title, .int .i64 m.author, .slice A1 m.pat.length c1, .int .i64 m.beg, .int .i64 m.fin, .int .i64 m.closes, .slice A2 m.votes.length c2, .int .i64 m.result]] w (RetB (.bool r) w) :=
  hr ▸ mot2_any a At ct Ab cb Ac cc Am cm m A1 c1 A2 c2 w hE hI hs n1 n2
theorem okAsm_stat {a : Asm} (h : okStat a.base = false) : okAsm a = false := by unfold okAsm; rw [h]; simp
theorem okAsm_acts {a : Asm} (h : okActs a.acts = false) : okAsm a = false := by unfold okAsm; rw [h]; simp

set_option maxRecDepth 100000 in
set_option maxHeartbeats 8000000 in
theorem valid2_go (a : Asm) (At : Option Addr) (ct : Nat) (Ab : Option Addr) (cb : Nat) (Ac : Option Addr) (cc : Nat) (Am : Option Addr) (cm : Nat) (w : World)
    (hR : AsmR w w.heap.size ⟨.slice At a.trust.length ct, .slice Ab a.base.length cb, .slice Ac a.acts.length cc, .slice Am a.mots.length cm⟩ a) (hs : AsmSz a) :
    Calls Tryz.prog 86 #[.agg #[.int .i64 a.day, .int .i64 a.rule, .slice At a.trust.length ct, .slice Ab a.base.length cb, .slice Ac a.acts.length cc, .slice Am a.mots.length cm]] w (RetB (.bool (okAsm a)) w) := by
  obtain ⟨W, hW⟩ : ∃ W : World, W = w.alloc (.cells #[.int .i64 a.day, .int .i64 a.rule, .slice At a.trust.length ct, .slice Ab a.base.length cb, .slice Ac a.acts.length cc, .slice Am a.mots.length cm] 36) := ⟨_, rfl⟩
  have bW : Below w.heap.size w W := by rw [hW]; exact (Below.refl _ _).alloc (Nat.le_refl _) _
  have a1 : Row W w.heap.size [.int .i64 a.day, .int .i64 a.rule, .slice At a.trust.length ct, .slice Ab a.base.length cb, .slice Ac a.acts.length cc, .slice Am a.mots.length cm] := by rw [hW]; exact Row.new w _ _
  have z0 := fun y : Aft W => y.cell (a1.cell 0 _ rfl)
  have z1 := fun y : Aft W => y.cell (a1.cell 1 _ rfl)
  have z2 := fun y : Aft W => y.cell (a1.cell 2 _ rfl)
  have z3 := fun y : Aft W => y.cell (a1.cell 3 _ rfl)
  have z4 := fun y : Aft W => y.cell (a1.cell 4 _ rfl)
  have z5 := fun y : Aft W => y.cell (a1.cell 5 _ rfl)
  have hRW := hR.on bW bW.size
  have HR := Lib.hid (hRW.aft (Nat.le_refl _))
  have HS := Lib.hid hs
  have HGM : Hid (0 < a.mots.length → ∃ b off, Am = some ⟨b, off, none⟩ ∧ b < W.heap.size ∧ ∀ (k : Nat) (m : Mot), a.mots[k]? = some m → ∃ A1 c1 A2 c2, MotP W W.heap.size b (off + k * 8) m A1 c1 A2 c2) := Lib.hid (by
    obtain ⟨A, c, hv, _, _, h⟩ := mots_at hRW.m
    have hv : Value.slice Am a.mots.length cm = .slice A a.mots.length c := hv
    injection hv with e1 e2 e3
    rw [e1]
    exact h)
  have htm : a.trust.length ≤ 9223372036854775807 := by obtain ⟨A, c, _, q1, q2, _⟩ := rows_at hR.t; unfold maxLen at q2; omega
  obtain ⟨hmc, hcm⟩ : a.mots.length ≤ cm ∧ cm ≤ 9223372036854775807 := by
    obtain ⟨A, c, hv, q1, q2, _⟩ := mots_at hR.m
    have hv : Value.slice Am a.mots.length cm = .slice A a.mots.length c := hv
    injection hv with e1 e2 e3
    unfold maxLen at q2
    omega
  have HW := Lib.hid hW
  clear hR hs a1 hRW hW
  cases h1 : inB a.day 0 999 with
  | false =>
    have HBAD := Lib.hid (okAsm_head (a := a) (by unfold okHead; rw [h1]; rfl))
    go_enter Tryz.func86, Tryz.ntmps86
    go_wp2_with (fail)
    rw [← HW.out]
    obtain ⟨x0, hx0⟩ : ∃ y : Aft W, y.val = W := ⟨⟨W, Below.refl _ _⟩, rfl⟩
    rw [← hx0]
    clear hx0
    refine (aft_q (date2_val _ _ _ (by assumption))).mono ?_
    rintro e _ ⟨rfl, y, rfl⟩
    go_wp2_with (first | (go_at_call 117; refine (aft_q (rule2_val _ _ _ (by assumption))).mono ?_; rintro e _ ⟨rfl, y, rfl⟩) | (go_at_call 57; refine (aft_q (in2_val _ _ _ _ _ (by assumption))).mono ?_; rintro e _ ⟨rfl, y, rfl⟩))
    go_ret
    exact ⟨by rw [HBAD.out]; rfl, aft_done bW (by assumption)⟩
  | true =>
  cases h2 : inB a.rule 0 2 with
  | false =>
    have HBAD := Lib.hid (okAsm_head (a := a) (by unfold okHead; rw [h2]; simp))
    go_enter Tryz.func86, Tryz.ntmps86
    go_wp2_with (fail)
    rw [← HW.out]
    obtain ⟨x0, hx0⟩ : ∃ y : Aft W, y.val = W := ⟨⟨W, Below.refl _ _⟩, rfl⟩
    rw [← hx0]
    clear hx0
    refine (aft_q (date2_val _ _ _ (by assumption))).mono ?_
    rintro e _ ⟨rfl, y, rfl⟩
    go_wp2_with (first | (go_at_call 117; refine (aft_q (rule2_val _ _ _ (by assumption))).mono ?_; rintro e _ ⟨rfl, y, rfl⟩) | (go_at_call 57; refine (aft_q (in2_val _ _ _ _ _ (by assumption))).mono ?_; rintro e _ ⟨rfl, y, rfl⟩))
    go_ret
    exact ⟨by rw [HBAD.out]; rfl, aft_done bW (by assumption)⟩
  | true =>
  cases h3 : inB (a.trust.length : Int) 1 12 with
  | false =>
    have HBAD := Lib.hid (okAsm_head (a := a) (by unfold okHead; rw [h3]; simp))
    go_enter Tryz.func86, Tryz.ntmps86
    go_wp2_with (fail)
    rw [← HW.out]
    obtain ⟨x0, hx0⟩ : ∃ y : Aft W, y.val = W := ⟨⟨W, Below.refl _ _⟩, rfl⟩
    rw [← hx0]
    clear hx0
    refine (aft_q (date2_val _ _ _ (by assumption))).mono ?_
    rintro e _ ⟨rfl, y, rfl⟩
    go_wp2_with (first | (go_at_call 117; refine (aft_q (rule2_val _ _ _ (by assumption))).mono ?_; rintro e _ ⟨rfl, y, rfl⟩) | (go_at_call 57; refine (aft_q (in2_val _ _ _ _ _ (by assumption))).mono ?_; rintro e _ ⟨rfl, y, rfl⟩))
    go_ret
    exact ⟨by rw [HBAD.out]; rfl, aft_done bW (by assumption)⟩
  | true =>
  by_cases h5 : a.mots.length ≤ 6
  case neg =>
    have h6 : decide ((6 : Int) < (a.mots.length : Int)) = true := by simp; omega
    have h7 : decide (6 < a.mots.length) = true := by simp; omega
    have HBAD := Lib.hid (okAsm_head (a := a) (by unfold okHead; simp [h5]))
    clear h5
    go_enter Tryz.func86, Tryz.ntmps86
    go_wp2_with (fail)
    rw [← HW.out]
    obtain ⟨x0, hx0⟩ : ∃ y : Aft W, y.val = W := ⟨⟨W, Below.refl _ _⟩, rfl⟩
    rw [← hx0]
    clear hx0
    refine (aft_q (date2_val _ _ _ (by assumption))).mono ?_
    rintro e _ ⟨rfl, y, rfl⟩
    go_wp2_with (first | (go_at_call 117; refine (aft_q (rule2_val _ _ _ (by assumption))).mono ?_; rintro e _ ⟨rfl, y, rfl⟩) | (go_at_call 57; refine (aft_q (in2_val _ _ _ _ _ (by assumption))).mono ?_; rintro e _ ⟨rfl, y, rfl⟩))
    go_ret
    exact ⟨by rw [HBAD.out]; rfl, aft_done bW (by assumption)⟩
  have h6 : decide ((6 : Int) < (a.mots.length : Int)) = false := by simp; omega
  have h7 : decide (6 < a.mots.length) = false := by simp; omega
  have HHEAD : Hid (okHead a = true) := Lib.hid (by unfold okHead; simp [h1, h2, h3, h5])
  obtain ⟨hn1, hn12⟩ := inB_iff.1 h3
  go_enter Tryz.func86, Tryz.ntmps86
  go_wp2_with (fail)
  rw [← HW.out]
  obtain ⟨x0, hx0⟩ : ∃ y : Aft W, y.val = W := ⟨⟨W, Below.refl _ _⟩, rfl⟩
  rw [← hx0]
  clear hx0
  refine (aft_q (date2_val _ _ _ (by assumption))).mono ?_
  rintro e _ ⟨rfl, y1, rfl⟩
  go_wp2_with (fail)
  refine (aft_q (rule2_val _ _ _ (by assumption))).mono ?_
  rintro e _ ⟨rfl, y2, rfl⟩
  go_wp2_with (fail)
  refine (aft_q (in2_val _ _ _ _ _ (by assumption))).mono ?_
  rintro e _ ⟨rfl, y3, rfl⟩
  clear h1 h2 h3
  go_wp2
  go_loopw [3, 4, 33] (fun _ _ i wr => ∃ (k : Nat) (x : Aft W), k ≤ a.trust.length ∧ i = .int .i64 (k : Int) ∧ allLt k (memAt a.trust a.trust.length) = true ∧ wr = x.val) (fun _ _ i _ => a.trust.length - (RowKit.intOf i).toNat)
  case atStart => exact ⟨0, y3, Nat.zero_le _, rfl, rfl, rfl⟩
  case round =>
    obtain ⟨k, x, hk, rfl, hall, rfl⟩ := hrel
    have HA := Lib.hid hall
    clear hall
    by_cases hlt : k < a.trust.length
    · obtain ⟨A', c', hv, _, _, hel⟩ := rows_at (HR.out x).t
      injection hv with e1 e2 e3
      subst e1
      obtain ⟨b2, off, rfl, hb2, hcell⟩ := hel (by omega)
      obtain ⟨A1, c1, k9, _, hI⟩ := hcell k _ (List.getElem?_eq_getElem hlt)
      have HI := Lib.hid hI
      have HSU := allLt_succ k (memAt a.trust a.trust.length)
      rw [HA.out, Bool.true_and, memAt_at hlt] at HSU
      have HSU := Lib.hid HSU
      have HBD := Lib.hid (fun h => okAsm_trusts (a := a) (okTrusts_bad hlt h))
      clear hcell hel hI e2 e3
      generalize a.trust[k] = l at *
      cases hz : okTrust l (k : Int) a.trust.length with
      | false =>
        have HBAD := Lib.hid (HBD.out hz)
        go_wp2_with (fail)
        refine (aft_q (trust2_val l (k : Int) (a.trust.length : Int) _ _ _ HI.out (by omega) (by omega) hz)).mono ?_
        rintro e _ ⟨rfl, u, rfl⟩
        clear hz k9
        go_wp2
        go_ret
        exact ⟨by rw [HBAD.out]; rfl, aft_done bW u⟩
      | true =>
        have HN := Lib.hid (HSU.out.trans hz)
        go_wp2_with (fail)
        refine (aft_q (trust2_val l (k : Int) (a.trust.length : Int) _ _ _ HI.out (by omega) (by omega) hz)).mono ?_
        rintro e _ ⟨rfl, u, rfl⟩
        clear hz k9
        go_wp2
        go_roundw
        case rel => exact ⟨k + 1, u, by omega, by go_num, HN.out, rfl⟩
        case measure => simp [RowKit.intOf]; omega
    · have hge : ¬ (k : Int) < (a.trust.length : Int) := by omega
      have hk' : k = a.trust.length := by omega
      have HTR : Hid (okTrusts a.trust = true) := Lib.hid (by unfold okTrusts; rw [← hk']; rw [← hk'] at HA; exact HA.out)
      clear hk' hlt
      go_wp2
      go_loopw [5, 6, 49] (fun _ _ i wr => ∃ (k : Nat) (x : Aft W), k ≤ a.mots.length ∧ i = .int .i64 (k : Int) ∧ allLt k (motAt a.mots a.day a.trust.length) = true ∧ wr = x.val) (fun _ _ i _ => a.mots.length - (RowKit.intOf i).toNat)
      case atStart => exact ⟨0, x, Nat.zero_le _, rfl, rfl, rfl⟩
      case round =>
        obtain ⟨k, x, hk, rfl, hall, rfl⟩ := hrel
        have HA := Lib.hid hall
        clear hall
        by_cases hlt : k < a.mots.length
        · obtain ⟨b2, off, rfl, hb2, hcell⟩ := HGM.out (by omega)
          obtain ⟨A1, c1, A2, c2, hP⟩ := hcell k _ (List.getElem?_eq_getElem hlt)
          have x0' := x.cell hP.k0
          have x1' := x.cell hP.k1
          have x2' := x.cell hP.k2
          have x3' := x.cell hP.k3
          have x4' := x.cell hP.k4
          have x5' := x.cell hP.k5
          have x6' := x.cell hP.k6
          have x7' := x.cell hP.k7
          have HP := Lib.hid (fun y : Aft W => hP.on y.ok y.ok.size hb2)
          have HAT := Lib.hid (motAt_at (L := a.mots) (day := a.day) (n := a.trust.length) hlt)
          have HSU := allLt_succ k (motAt a.mots a.day a.trust.length)
          rw [HA.out, Bool.true_and] at HSU
          have HSU := Lib.hid HSU
          have HBD := Lib.hid (fun h => okAsm_mots (a := a) (okMots_bad hlt h))
          have hso := HS.out.m _ (List.getElem_mem hlt)
          clear hcell hP
          generalize a.mots[k] = m at *
          go_upto_region 12 with (fail)
          obtain ⟨U, hU⟩ : ∃ U : World, U = x.val.alloc (.cells #[.string m.title, .int .i64 m.author, .slice A1 m.pat.length c1, .int .i64 m.beg, .int .i64 m.fin, .int .i64 m.closes, .slice A2 m.votes.length c2, .int .i64 m.result] 78) := ⟨_, rfl⟩
          change Code.wp _ _ _ _ (x.val.alloc (.cells #[.string m.title, .int .i64 m.author, .slice A1 m.pat.length c1, .int .i64 m.beg, .int .i64 m.fin, .int .i64 m.closes, .slice A2 m.votes.length c2, .int .i64 m.result] 78))
          have bU : Below x.val.heap.size x.val U := by rw [hU]; exact (Below.refl _ _).alloc (Nat.le_refl _) _
          have bWU : Below W.heap.size W U := x.ok.trans (bU.mono x.ok.size)
          have a2 : Row U x.val.heap.size [.string m.title, .int .i64 m.author, .slice A1 m.pat.length c1, .int .i64 m.beg, .int .i64 m.fin, .int .i64 m.closes, .slice A2 m.votes.length c2, .int .i64 m.result] := by rw [hU]; exact Row.new x.val _ _
          have sU : x.val.heap.size < U.heap.size := by rw [hU]; simp
          rw [← hU]
          clear hU x0' x1' x2' x3' x4' x5' x6' x7'
          have t0 := fun y : Aft U => y.cell (a2.cell 0 _ rfl)
          have t1 := fun y : Aft U => y.cell (a2.cell 1 _ rfl)
          have t2 := fun y : Aft U => y.cell (a2.cell 2 _ rfl)
          have t3 := fun y : Aft U => y.cell (a2.cell 3 _ rfl)
          have t4 := fun y : Aft U => y.cell (a2.cell 4 _ rfl)
          have t5 := fun y : Aft U => y.cell (a2.cell 5 _ rfl)
          have t6 := fun y : Aft U => y.cell (a2.cell 6 _ rfl)
          have t7 := fun y : Aft U => y.cell (a2.cell 7 _ rfl)
          have HTW := Lib.hid (fun y : Aft U => (⟨⟨y.val, aft_done bWU y⟩, rfl⟩ : ∃ t : Aft W, t.val = y.val))
          have w0 := fun y : Aft U => (show y.val.cell? ⟨w.heap.size, 0, none⟩ = some (.int .i64 a.day) from z0 ⟨y.val, aft_done bWU y⟩)
          have w1 := fun y : Aft U => (show y.val.cell? ⟨w.heap.size, 1, none⟩ = some (.int .i64 a.rule) from z1 ⟨y.val, aft_done bWU y⟩)
          have w2 := fun y : Aft U => (show y.val.cell? ⟨w.heap.size, 2, none⟩ = some (.slice At a.trust.length ct) from z2 ⟨y.val, aft_done bWU y⟩)
          have w3 := fun y : Aft U => (show y.val.cell? ⟨w.heap.size, 3, none⟩ = some (.slice Ab a.base.length cb) from z3 ⟨y.val, aft_done bWU y⟩)
          have w4 := fun y : Aft U => (show y.val.cell? ⟨w.heap.size, 4, none⟩ = some (.slice Ac a.acts.length cc) from z4 ⟨y.val, aft_done bWU y⟩)
          have w5 := fun y : Aft U => (show y.val.cell? ⟨w.heap.size, 5, none⟩ = some (.slice (some ⟨b2, off, none⟩) a.mots.length cm) from z5 ⟨y.val, aft_done bWU y⟩)
          have HPU := Lib.hid (fun y : Aft U => HP.out ⟨y.val, aft_done bWU y⟩)
          have HMU := Lib.hid (fun y : Aft U => (HR.out ⟨y.val, aft_done bWU y⟩).m)
          have hts := fun y : Aft U => World.block_lt_of_cell? y.val ⟨x.val.heap.size, 0, none⟩ (t0 y)
          have HCF := Lib.hid (fun y : Aft U => containsM_any (a.mots.take k) y.val (some ⟨b2, off, none⟩) cm (by
            have := Mots.take (HMU.out y) k hk
            rwa [show (a.mots.take k).length = k by rw [List.length_take]; omega]) 137 #[.pointer (some ⟨x.val.heap.size, 0, none⟩)] (fun o => o.title.toList == m.title.toList) (title_pred m x.val.heap.size y.val (hts y) (t0 y)) enters_title)
          rw [show (a.mots.take k).length = k by rw [List.length_take]; omega] at HCF
          have hmf : ∀ (fn : Fn) (first cap : Array Value) (w : World), (Instr.makeFunc fn first cap).run Tryz.prog w = .ok (.func fn first cap) w := fun _ _ _ _ => rfl
          have hk1 : (k : Int) ≤ (cm : Int) := by omega
          have hk0 : (0 : Int) ≤ (k : Int) := by omega
          obtain ⟨u0, hu0⟩ : ∃ y : Aft U, y.val = U := ⟨⟨U, Below.refl _ _⟩, rfl⟩
          rw [← hu0]
          clear hu0 a2 bU z0 z1 z2 z3 z4 z5 hts
          cases hz : okMot m a.day a.trust.length with
          | false =>
            have HBAD := Lib.hid (HBD.out (HAT.out.trans (by rw [hz]; rfl)))
            go_wp2_with (fail)
            refine (aft_b (mot2_val a At ct Ab cb Ac cc _ cm m A1 c1 A2 c2 _ _ (HPU.out u0).edits (HPU.out u0).ints hso (by omega) (by omega) hz)).mono ?_
            rintro e _ ⟨rfl, u1, rfl⟩
            go_wp2
            go_ret
            exact ⟨by rw [HBAD.out]; rfl, aft_done (bW.trans (bWU.mono bW.size)) u1⟩
          | true =>
            rw [hz, Bool.true_and] at HAT
            go_wp2_with (fail)
            refine (aft_b (mot2_val a At ct Ab cb Ac cc _ cm m A1 c1 A2 c2 _ _ (HPU.out u0).edits (HPU.out u0).ints hso (by omega) (by omega) hz)).mono ?_
            rintro e _ ⟨rfl, u1, rfl⟩
            clear hz
            cases he : ((a.mots.take k).any fun o => o.title.toList == m.title.toList) with
            | true =>
              have HBAD := Lib.hid (HBD.out (HAT.out.trans (by rw [he]; rfl)))
              rw [he] at HCF
              clear he
              go_wp2_with (fail)
              refine (aft_b (HCF.out u1)).mono ?_
              rintro e _ ⟨rfl, u2, rfl⟩
              go_wp2
              go_ret
              exact ⟨by rw [HBAD.out]; rfl, aft_done (bW.trans (bWU.mono bW.size)) u2⟩
            | false =>
              have HN : Hid (allLt (k + 1) (motAt a.mots a.day a.trust.length) = true) := Lib.hid (HSU.out.trans (HAT.out.trans (by rw [he]; rfl)))
              rw [he] at HCF
              clear he
              go_wp2_with (fail)
              refine (aft_b (HCF.out u1)).mono ?_
              rintro e _ ⟨rfl, u2, rfl⟩
              obtain ⟨t, ht⟩ := HTW.out u2
              have HT := Lib.hid ht.symm
              go_wp2
              go_roundw
              case rel => exact ⟨k + 1, t, by omega, by go_num, HN.out, HT.out⟩
              case measure => simp [RowKit.intOf]; omega
        · have hge : ¬ (k : Int) < (a.mots.length : Int) := by omega
          have hk' : k = a.mots.length := by omega
          have HMO : Hid (okMots a.mots a.day a.trust.length = true) := Lib.hid (by unfold okMots; rw [← hk']; exact HA.out)
          clear hk' hlt
          have HST2 := Lib.hid (fun y : Aft W => stat2_any a.base y.val _ (HR.out y).b HS.out.b)
          have HAC2 := Lib.hid (fun y : Aft W => acts2_all a.acts y.val _ (HR.out y).c HS.out.c)
          cases h8 : okStat a.base with
          | false =>
            have HBAD := Lib.hid (okAsm_stat h8)
            rw [h8] at HST2
            clear h8
            go_wp2_with (first | (go_at_call 138; refine (aft_b (HST2.out _)).mono ?_; rintro e _ ⟨rfl, y, rfl⟩) | (go_at_call 139; refine (aft_b (HAC2.out _)).mono ?_; rintro e _ ⟨rfl, y, rfl⟩))
            go_ret
            exact ⟨by rw [HBAD.out]; rfl, aft_done bW (by assumption)⟩
          | true =>
          rw [h8] at HST2
          cases h9 : okActs a.acts with
          | false =>
            have HBAD := Lib.hid (okAsm_acts h9)
            rw [h9] at HAC2
            clear h9 h8
            go_wp2_with (first | (go_at_call 138; refine (aft_b (HST2.out _)).mono ?_; rintro e _ ⟨rfl, y, rfl⟩) | (go_at_call 139; refine (aft_b (HAC2.out _)).mono ?_; rintro e _ ⟨rfl, y, rfl⟩))
            go_ret
            exact ⟨by rw [HBAD.out]; rfl, aft_done bW (by assumption)⟩
          | true =>
            rw [h9] at HAC2
            have HALL : Hid (∀ n : Nat, (n = 0 ↔ AllDays a.base a.acts) → okAsm a = ((n : Int) == 0)) := Lib.hid (fun n hn => okAsm_all HHEAD.out HTR.out HMO.out h8 h9 hn)
            have HBR := Lib.hid (fun y : Aft W => broken2n_any a.base a.acts y.val _ _ (HR.out y).b (HR.out y).c h8 h9)
            clear h8 h9
            go_wp2_with (fail)
            refine (aft_b (HST2.out x)).mono ?_
            rintro e _ ⟨rfl, u1, rfl⟩
            go_wp2_with (fail)
            refine (aft_b (HAC2.out u1)).mono ?_
            rintro e _ ⟨rfl, u2, rfl⟩
            go_wp2_with (fail)
            refine ((HBR.out u2)).mono ?_
            rintro e w9 ⟨g, cap, n, rfl, hn1', hn2, hb9⟩
            have HF := Lib.hid (HALL.out n hn2)
            have hfin := (aft_done bW u2).trans (hb9.mono (aft_done bW u2).size)
            clear hb9 hn2
            go_wp2
            go_ret
            exact ⟨by rw [HF.out]; rfl, hfin⟩
end Go.Proofs.YtnandbammmcncaaGreat

namespace Go.Proofs.YtnandbammmcncaaGreat
open Go.RowKit Go.Lib

set_option maxHeartbeats 2000000 in
theorem eqRows_any (ls : List (List Int)) (v1 v2 : Value) (w : World) (h1 : RowsR w w.heap.size v1 ls) (h2 : RowsR w w.heap.size v2 ls) :
    Calls Tryz.prog 60 #[v1, v2] w (RetB (.bool true) w) := by
  obtain ⟨A1, c1, rfl, _, m1, g1⟩ := rows_at h1
  obtain ⟨A2, c2, rfl, _, m2, g2⟩ := rows_at h2
  have G1 := Lib.hid g1
  have G2 := Lib.hid g2
  unfold maxLen at m1 m2
  have hlm : ls.length ≤ 9223372036854775807 := by omega
  clear h1 h2 g1 g2
  refine calls_aft fun x0 => ?_
  go_enter Tryz.func60, Tryz.ntmps60
  go_wp2
  go_loopw [5] (fun i wr => ∃ (k : Nat) (x : Aft w), k ≤ ls.length ∧ i = .int .i64 (k : Int) ∧ wr = x.val) (fun i _ => ls.length - (RowKit.intOf i).toNat)
  case atStart => exact ⟨0, x0, Nat.zero_le _, rfl, rfl⟩
  case round =>
    obtain ⟨k, x, hk, rfl, rfl⟩ := hrel
    by_cases hlt : k < ls.length
    · obtain ⟨b, off, rfl, hb, hc1⟩ := G1.out (by omega)
      obtain ⟨b', off', rfl, hb', hc2⟩ := G2.out (by omega)
      obtain ⟨B1, d1, c0, _, hI⟩ := hc1 k _ (List.getElem?_eq_getElem hlt)
      obtain ⟨B2, d2, c3, _, hJ⟩ := hc2 k _ (List.getElem?_eq_getElem hlt)
      have z0 := fun y : Aft w => y.cell c0
      have z1 := fun y : Aft w => y.cell c3
      have HI := Lib.hid (SlR.aft hI (Pl.stays _) (Nat.le_refl _))
      have HJ := Lib.hid (SlR.aft hJ (Pl.stays _) (Nat.le_refl _))
      clear c0 c3 hc1 hc2 hI hJ
      generalize ls[k] = e at *
      go_wp2_with (fail)
      refine wp_region_at (by kernel_rfl) (by kernel_rfl) ?_
      repeat (go_big_quiet_step ((first | (go_at_call 15; exact aft_b (eqInts_any e _ _ _ _ _ _ _ (HI.out _) (HJ.out _))))))
      refine wpQuiet_nil ?_
      rintro _ ⟨y, rfl⟩
      go_wp2
      go_roundw
      case rel => exact ⟨k + 1, y, by omega, by go_num, rfl⟩
      case measure => simp [RowKit.intOf]; omega
    · have hge : ¬ (k : Int) < (ls.length : Int) := by omega
      go_wp2
      go_ret
      exact ⟨rfl, x.ok⟩

set_option maxHeartbeats 1000000 in
theorem eqArt_any (e : Art) (w : World) :
    Calls Tryz.prog 119 #[.agg #[.int .i64 e.id, .string e.text], .agg #[.int .i64 e.id, .string e.text]] w (RetB (.bool true) w) := by
  go_enter Tryz.func119, Tryz.ntmps119
  go_wp2
  go_ret
  exact ⟨rfl, ((Below.refl _ _).alloc (Nat.le_refl _) _).alloc (by simp) _⟩
set_option maxHeartbeats 2000000 in
theorem eqArts_any (ls : List Art) (v1 v2 : Value) (w : World) (h1 : Arts w w.heap.size v1 ls) (h2 : Arts w w.heap.size v2 ls) :
    Calls Tryz.prog 61 #[v1, v2] w (RetB (.bool true) w) := by
  obtain ⟨A1, c1, rfl, _, m1, g1⟩ := h1
  obtain ⟨A2, c2, rfl, _, m2, g2⟩ := h2
  have G1 := Lib.hid g1
  have G2 := Lib.hid g2
  unfold maxLen at m1 m2
  have hlm : ls.length ≤ 9223372036854775807 := by omega
  clear g1 g2
  refine calls_aft fun x0 => ?_
  go_enter Tryz.func61, Tryz.ntmps61
  go_wp2
  go_loopw [5] (fun i wr => ∃ (k : Nat) (x : Aft w), k ≤ ls.length ∧ i = .int .i64 (k : Int) ∧ wr = x.val) (fun i _ => ls.length - (RowKit.intOf i).toNat)
  case atStart => exact ⟨0, x0, Nat.zero_le _, rfl, rfl⟩
  case round =>
    obtain ⟨k, x, hk, rfl, rfl⟩ := hrel
    by_cases hlt : k < ls.length
    · obtain ⟨b, off, rfl, hb, hc1⟩ := G1.out (by omega)
      obtain ⟨b', off', rfl, hb', hc2⟩ := G2.out (by omega)
      obtain ⟨c0, c1'⟩ := arts_at hc1 (List.getElem?_eq_getElem hlt)
      obtain ⟨d0, d1⟩ := arts_at hc2 (List.getElem?_eq_getElem hlt)
      have z0 := fun y : Aft w => y.cell c0
      have z1 := fun y : Aft w => y.cell c1'
      have t0 := fun y : Aft w => y.cell d0
      have t1 := fun y : Aft w => y.cell d1
      clear c0 c1' d0 d1 hc1 hc2
      generalize ls[k] = e at *
      go_wp2_with (fail)
      refine wp_region_at (by kernel_rfl) (by kernel_rfl) ?_
      repeat (go_big_quiet_step ((first | (go_at_call 119; exact aft_b (eqArt_any e _)))))
      refine wpQuiet_nil ?_
      rintro _ ⟨y, rfl⟩
      go_wp2
      go_roundw
      case rel => exact ⟨k + 1, y, by omega, by go_num, rfl⟩
      case measure => simp [RowKit.intOf]; omega
    · have hge : ¬ (k : Int) < (ls.length : Int) := by omega
      go_wp2
      go_ret
      exact ⟨rfl, x.ok⟩

set_option maxHeartbeats 2000000 in
theorem eqAct_any (a : Acta) (A1 : Option Addr) (c1 : Nat) (A2 : Option Addr) (c2 : Nat) (w : World) (h1 : Edits w w.heap.size (.slice A1 a.pat.length c1) a.pat) (h2 : Edits w w.heap.size (.slice A2 a.pat.length c2) a.pat) :
    Calls Tryz.prog 120 #[.agg #[.int .i64 a.beg, .int .i64 a.fin, .slice A1 a.pat.length c1], .agg #[.int .i64 a.beg, .int .i64 a.fin, .slice A2 a.pat.length c2]] w (RetB (.bool true) w) := by
  have H := Lib.hid (fun W (hb : Below w.heap.size w W) => eqEdits_any a.pat A1 _ c1 A2 _ c2 W (SlR.on h1 (Pl.stays _) hb hb.size) (SlR.on h2 (Pl.stays _) hb hb.size))
  have HB : Hid (∀ o p, Below w.heap.size w ((w.alloc o).alloc p)) := Lib.hid (fun o p => ((Below.refl _ _).alloc (Nat.le_refl _) o).alloc (by simp) p)
  clear h1 h2
  go_enter Tryz.func120, Tryz.ntmps120
  go_wp2_with (fail)
  refine (H.out _ (HB.out _ _)).mono ?_
  rintro e w1 ⟨rfl, hb1⟩
  have hbb := (HB.out (.cells #[.int .i64 a.beg, .int .i64 a.fin, .slice A1 a.pat.length c1] 144) (.cells #[.int .i64 a.beg, .int .i64 a.fin, .slice A2 a.pat.length c2] 144)).trans (hb1.mono (HB.out _ _).size)
  clear hb1
  go_wp2
  go_ret
  exact ⟨rfl, hbb⟩
set_option maxHeartbeats 4000000 in
theorem eqActs_any (ls : List Acta) (v1 v2 : Value) (w : World) (h1 : Acts w w.heap.size v1 ls) (h2 : Acts w w.heap.size v2 ls) :
    Calls Tryz.prog 62 #[v1, v2] w (RetB (.bool true) w) := by
  obtain ⟨A1, c1, rfl, _, m1, g1⟩ := acts_at h1
  obtain ⟨A2, c2, rfl, _, m2, g2⟩ := acts_at h2
  have G1 := Lib.hid g1
  have G2 := Lib.hid g2
  unfold maxLen at m1 m2
  have hlm : ls.length ≤ 9223372036854775807 := by omega
  clear h1 h2 g1 g2
  refine calls_aft fun x0 => ?_
  go_enter Tryz.func62, Tryz.ntmps62
  go_wp2
  go_loopw [5] (fun i wr => ∃ (k : Nat) (x : Aft w), k ≤ ls.length ∧ i = .int .i64 (k : Int) ∧ wr = x.val) (fun i _ => ls.length - (RowKit.intOf i).toNat)
  case atStart => exact ⟨0, x0, Nat.zero_le _, rfl, rfl⟩
  case round =>
    obtain ⟨k, x, hk, rfl, rfl⟩ := hrel
    by_cases hlt : k < ls.length
    · obtain ⟨b, off, rfl, hb, hc1⟩ := G1.out (by omega)
      obtain ⟨b', off', rfl, hb', hc2⟩ := G2.out (by omega)
      obtain ⟨pv, c0, c1', c2', hI⟩ := hc1 k _ (List.getElem?_eq_getElem hlt)
      obtain ⟨qv, d0, d1, d2, hJ⟩ := hc2 k _ (List.getElem?_eq_getElem hlt)
      obtain ⟨B1, e1, rfl, _, _⟩ := Edits.sl hI
      obtain ⟨B2, e2, rfl, _, _⟩ := Edits.sl hJ
      have z0 := fun y : Aft w => y.cell c0
      have z1 := fun y : Aft w => y.cell c1'
      have z2 := fun y : Aft w => y.cell c2'
      have t0 := fun y : Aft w => y.cell d0
      have t1 := fun y : Aft w => y.cell d1
      have t2 := fun y : Aft w => y.cell d2
      have HI := Lib.hid (SlR.aft hI (Pl.stays _) (Nat.le_refl _))
      have HJ := Lib.hid (SlR.aft hJ (Pl.stays _) (Nat.le_refl _))
      clear c0 c1' c2' d0 d1 d2 hc1 hc2 hI hJ
      generalize ls[k] = e at *
      go_wp2_with (fail)
      refine wp_region_at (by kernel_rfl) (by kernel_rfl) ?_
      repeat (go_big_quiet_step ((first | (go_at_call 120; exact aft_b (eqAct_any e _ _ _ _ _ (HI.out _) (HJ.out _))))))
      refine wpQuiet_nil ?_
      rintro _ ⟨y, rfl⟩
      go_wp2
      go_roundw
      case rel => exact ⟨k + 1, y, by omega, by go_num, rfl⟩
      case measure => simp [RowKit.intOf]; omega
    · have hge : ¬ (k : Int) < (ls.length : Int) := by omega
      go_wp2
      go_ret
      exact ⟨rfl, x.ok⟩

set_option maxRecDepth 100000 in
set_option maxHeartbeats 4000000 in
theorem eqMot_any (m : Mot) (A1 : Option Addr) (c1 : Nat) (A2 : Option Addr) (c2 : Nat) (A3 : Option Addr) (c3 : Nat) (A4 : Option Addr) (c4 : Nat) (w : World) (h1 : Edits w w.heap.size (.slice A1 m.pat.length c1) m.pat) (h2 : Ints w w.heap.size (.slice A2 m.votes.length c2) m.votes) (h3 : Edits w w.heap.size (.slice A3 m.pat.length c3) m.pat) (h4 : Ints w w.heap.size (.slice A4 m.votes.length c4) m.votes) :
    Calls Tryz.prog 121 #[.agg #[.string m.title, .int .i64 m.author, .slice A1 m.pat.length c1, .int .i64 m.beg, .int .i64 m.fin, .int .i64 m.closes, .slice A2 m.votes.length c2, .int .i64 m.result], .agg #[.string m.title, .int .i64 m.author, .slice A3 m.pat.length c3, .int .i64 m.beg, .int .i64 m.fin, .int .i64 m.closes, .slice A4 m.votes.length c4, .int .i64 m.result]] w (RetB (.bool true) w) := by
  obtain ⟨W, hW⟩ : ∃ W : World, W = (w.alloc (.cells #[.string m.title, .int .i64 m.author, .slice A1 m.pat.length c1, .int .i64 m.beg, .int .i64 m.fin, .int .i64 m.closes, .slice A2 m.votes.length c2, .int .i64 m.result] 78)).alloc (.cells #[.string m.title, .int .i64 m.author, .slice A3 m.pat.length c3, .int .i64 m.beg, .int .i64 m.fin, .int .i64 m.closes, .slice A4 m.votes.length c4, .int .i64 m.result] 78) := ⟨_, rfl⟩
  have bW : Below w.heap.size w W := by rw [hW]; exact ((Below.refl _ _).alloc (Nat.le_refl _) _).alloc (by simp) _
  have a1 : Row W w.heap.size [.string m.title, .int .i64 m.author, .slice A1 m.pat.length c1, .int .i64 m.beg, .int .i64 m.fin, .int .i64 m.closes, .slice A2 m.votes.length c2, .int .i64 m.result] := by rw [hW]; exact (Row.new w _ _).below ((Below.refl _ _).alloc (Nat.le_refl _) _) (by simp)
  have a2 : Row W (w.heap.size + 1) [.string m.title, .int .i64 m.author, .slice A3 m.pat.length c3, .int .i64 m.beg, .int .i64 m.fin, .int .i64 m.closes, .slice A4 m.votes.length c4, .int .i64 m.result] := by rw [hW]; simpa using Row.new (w.alloc (.cells #[.string m.title, .int .i64 m.author, .slice A1 m.pat.length c1, .int .i64 m.beg, .int .i64 m.fin, .int .i64 m.closes, .slice A2 m.votes.length c2, .int .i64 m.result] 78)) #[.string m.title, .int .i64 m.author, .slice A3 m.pat.length c3, .int .i64 m.beg, .int .i64 m.fin, .int .i64 m.closes, .slice A4 m.votes.length c4, .int .i64 m.result] 78
  have z3 := fun y : Aft W => y.cell (a1.cell 3 _ rfl)
  have z4 := fun y : Aft W => y.cell (a1.cell 4 _ rfl)
  have z5 := fun y : Aft W => y.cell (a1.cell 5 _ rfl)
  have z6 := fun y : Aft W => y.cell (a1.cell 6 _ rfl)
  have z7 := fun y : Aft W => y.cell (a1.cell 7 _ rfl)
  have t3 := fun y : Aft W => y.cell (a2.cell 3 _ rfl)
  have t4 := fun y : Aft W => y.cell (a2.cell 4 _ rfl)
  have t5 := fun y : Aft W => y.cell (a2.cell 5 _ rfl)
  have t6 := fun y : Aft W => y.cell (a2.cell 6 _ rfl)
  have t7 := fun y : Aft W => y.cell (a2.cell 7 _ rfl)
  have H1 := Lib.hid (fun y : Aft W => eqEdits_any m.pat A1 _ c1 A3 _ c3 y.val (SlR.on h1 (Pl.stays _) (aft_done bW y) (aft_done bW y).size) (SlR.on h3 (Pl.stays _) (aft_done bW y) (aft_done bW y).size))
  have H2 := Lib.hid (fun y : Aft W => eqInts_any m.votes A2 _ c2 A4 _ c4 y.val (SlR.on h2 (Pl.stays _) (aft_done bW y) (aft_done bW y).size) (SlR.on h4 (Pl.stays _) (aft_done bW y) (aft_done bW y).size))
  have HW := Lib.hid hW
  clear h1 h2 h3 h4 a1 a2 hW
  go_enter Tryz.func121, Tryz.ntmps121
  go_wp2_with (fail)
  rw [← HW.out]
  obtain ⟨x0, hx0⟩ : ∃ y : Aft W, y.val = W := ⟨⟨W, Below.refl _ _⟩, rfl⟩
  rw [← hx0]
  clear hx0
  refine (aft_b (H1.out x0)).mono ?_
  rintro e _ ⟨rfl, x1, rfl⟩
  go_wp2_with (fail)
  refine (aft_b (H2.out x1)).mono ?_
  rintro e _ ⟨rfl, x2, rfl⟩
  go_wp2
  go_ret
  exact ⟨rfl, aft_done bW x2⟩
set_option maxRecDepth 100000 in
set_option maxHeartbeats 4000000 in
theorem eqMots_any (ls : List Mot) (v1 v2 : Value) (w : World) (h1 : Mots w w.heap.size v1 ls) (h2 : Mots w w.heap.size v2 ls) :
    Calls Tryz.prog 63 #[v1, v2] w (RetB (.bool true) w) := by
  obtain ⟨A1, c1, rfl, _, m1, g1⟩ := mots_at h1
  obtain ⟨A2, c2, rfl, _, m2, g2⟩ := mots_at h2
  have G1 := Lib.hid g1
  have G2 := Lib.hid g2
  unfold maxLen at m1 m2
  have hlm : ls.length ≤ 9223372036854775807 := by omega
  clear h1 h2 g1 g2
  refine calls_aft fun x0 => ?_
  go_enter Tryz.func63, Tryz.ntmps63
  go_wp2
  go_loopw [5] (fun i wr => ∃ (k : Nat) (x : Aft w), k ≤ ls.length ∧ i = .int .i64 (k : Int) ∧ wr = x.val) (fun i _ => ls.length - (RowKit.intOf i).toNat)
  case atStart => exact ⟨0, x0, Nat.zero_le _, rfl, rfl⟩
  case round =>
    obtain ⟨k, x, hk, rfl, rfl⟩ := hrel
    by_cases hlt : k < ls.length
    · obtain ⟨b, off, rfl, hb, hc1⟩ := G1.out (by omega)
      obtain ⟨b', off', rfl, hb', hc2⟩ := G2.out (by omega)
      obtain ⟨B1, d1, B2, d2, hP⟩ := hc1 k _ (List.getElem?_eq_getElem hlt)
      obtain ⟨B3, d3, B4, d4, hQ⟩ := hc2 k _ (List.getElem?_eq_getElem hlt)
      generalize ls[k] = e at *
      have z0 := fun y : Aft w => y.cell hP.k0
      have z1 := fun y : Aft w => y.cell hP.k1
      have z2 := fun y : Aft w => y.cell hP.k2
      have z3 := fun y : Aft w => y.cell hP.k3
      have z4 := fun y : Aft w => y.cell hP.k4
      have z5 := fun y : Aft w => y.cell hP.k5
      have z6 := fun y : Aft w => y.cell hP.k6
      have z7 := fun y : Aft w => y.cell hP.k7
      have t0 := fun y : Aft w => y.cell hQ.k0
      have t1 := fun y : Aft w => y.cell hQ.k1
      have t2 := fun y : Aft w => y.cell hQ.k2
      have t3 := fun y : Aft w => y.cell hQ.k3
      have t4 := fun y : Aft w => y.cell hQ.k4
      have t5 := fun y : Aft w => y.cell hQ.k5
      have t6 := fun y : Aft w => y.cell hQ.k6
      have t7 := fun y : Aft w => y.cell hQ.k7
      have HP := Lib.hid (fun y : Aft w => hP.on y.ok y.ok.size hb)
      have HQ := Lib.hid (fun y : Aft w => hQ.on y.ok y.ok.size hb')
      clear hP hQ hc1 hc2
      go_wp2_with (fail)
      refine wp_region_at (by kernel_rfl) (by kernel_rfl) ?_
      repeat (go_big_quiet_step ((first | (go_at_call 121; exact aft_b (eqMot_any e _ _ _ _ _ _ _ _ _ (HP.out _).edits (HP.out _).ints (HQ.out _).edits (HQ.out _).ints)))))
      refine wpQuiet_nil ?_
      rintro _ ⟨y, rfl⟩
      go_wp2
      go_roundw
      case rel => exact ⟨k + 1, y, by omega, by go_num, rfl⟩
      case measure => simp [RowKit.intOf]; omega
    · have hge : ¬ (k : Int) < (ls.length : Int) := by omega
      go_wp2
      go_ret
      exact ⟨rfl, x.ok⟩

set_option maxRecDepth 100000 in
set_option maxHeartbeats 4000000 in
theorem eqAsm_any (a : Asm) (x y : VAsm) (w : World) (hx : AsmR w w.heap.size x a) (hy : AsmR w w.heap.size y a) :
    Calls Tryz.prog 16 #[asmV a x, asmV a y] w (RetB (.bool true) w) := by
  obtain ⟨A1, c1, A2, c2, A3, c3, A4, c4, rfl⟩ := hx.slices
  obtain ⟨B1, d1, B2, d2, B3, d3, B4, d4, rfl⟩ := hy.slices
  unfold asmV
  obtain ⟨W, hW⟩ : ∃ W : World, W = (w.alloc (.cells #[.int .i64 a.day, .int .i64 a.rule, .slice A1 a.trust.length c1, .slice A2 a.base.length c2, .slice A3 a.acts.length c3, .slice A4 a.mots.length c4] 36)).alloc (.cells #[.int .i64 a.day, .int .i64 a.rule, .slice B1 a.trust.length d1, .slice B2 a.base.length d2, .slice B3 a.acts.length d3, .slice B4 a.mots.length d4] 36) := ⟨_, rfl⟩
  have bW : Below w.heap.size w W := by rw [hW]; exact ((Below.refl _ _).alloc (Nat.le_refl _) _).alloc (by simp) _
  have a1 : Row W w.heap.size [.int .i64 a.day, .int .i64 a.rule, .slice A1 a.trust.length c1, .slice A2 a.base.length c2, .slice A3 a.acts.length c3, .slice A4 a.mots.length c4] := by rw [hW]; exact (Row.new w _ _).below ((Below.refl _ _).alloc (Nat.le_refl _) _) (by simp)
  have a2 : Row W (w.heap.size + 1) [.int .i64 a.day, .int .i64 a.rule, .slice B1 a.trust.length d1, .slice B2 a.base.length d2, .slice B3 a.acts.length d3, .slice B4 a.mots.length d4] := by rw [hW]; simpa using Row.new (w.alloc (.cells #[.int .i64 a.day, .int .i64 a.rule, .slice A1 a.trust.length c1, .slice A2 a.base.length c2, .slice A3 a.acts.length c3, .slice A4 a.mots.length c4] 36)) #[.int .i64 a.day, .int .i64 a.rule, .slice B1 a.trust.length d1, .slice B2 a.base.length d2, .slice B3 a.acts.length d3, .slice B4 a.mots.length d4] 36
  have z3 := fun y : Aft W => y.cell (a1.cell 3 _ rfl)
  have z4 := fun y : Aft W => y.cell (a1.cell 4 _ rfl)
  have z5 := fun y : Aft W => y.cell (a1.cell 5 _ rfl)
  have t3 := fun y : Aft W => y.cell (a2.cell 3 _ rfl)
  have t4 := fun y : Aft W => y.cell (a2.cell 4 _ rfl)
  have t5 := fun y : Aft W => y.cell (a2.cell 5 _ rfl)
  have HX := Lib.hid (fun y : Aft W => hx.on (aft_done bW y) (aft_done bW y).size)
  have HY := Lib.hid (fun y : Aft W => hy.on (aft_done bW y) (aft_done bW y).size)
  have HW := Lib.hid hW
  clear hx hy a1 a2 hW
  go_enter Tryz.func16, Tryz.ntmps16
  go_wp2_with (fail)
  rw [← HW.out]
  obtain ⟨x0, hx0⟩ : ∃ y : Aft W, y.val = W := ⟨⟨W, Below.refl _ _⟩, rfl⟩
  rw [← hx0]
  clear hx0
  refine (aft_b (eqRows_any a.trust _ _ _ (HX.out x0).t (HY.out x0).t)).mono ?_
  rintro e _ ⟨rfl, x1, rfl⟩
  go_wp2_with (fail)
  refine (aft_b (eqArts_any a.base _ _ _ (HX.out x1).b (HY.out x1).b)).mono ?_
  rintro e _ ⟨rfl, x2, rfl⟩
  go_wp2_with (fail)
  refine (aft_b (eqActs_any a.acts _ _ _ (HX.out x2).c (HY.out x2).c)).mono ?_
  rintro e _ ⟨rfl, x3, rfl⟩
  go_wp2_with (fail)
  refine (aft_b (eqMots_any a.mots _ _ _ (HX.out x3).m (HY.out x3).m)).mono ?_
  rintro e _ ⟨rfl, x4, rfl⟩
  go_wp2
  go_ret
  exact ⟨rfl, aft_done bW x4⟩
end Go.Proofs.YtnandbammmcncaaGreat

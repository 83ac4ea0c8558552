/- Arguments opened: an assembly (a struct of six fields; slices of slices, of articles, of acts, of motions). A statute, the reference's test of any; acts, the program's test of any; a base and acts, the reference's test of any. A motion, the reference's test, walked. slices.IndexFunc and ContainsFunc at int64 and at motions, walked; the votes of a motion, the program's test of a motion. An assembly, the reference's test, walked. An assembly, the program's test, walked. An assembly, the program's test, walked whole. Equality of assemblies, walked: the statements' own functions. -/
import Derived.Test.YtlbnebmdolnagaaQE
import Derived.Test.YtlbnebmdolnagaaQC
import Derived.Test.YtlbnebmdolnagaaQB
import Derived.Deep.RegionHeld3
namespace Go.Proofs.Ytlbnebmdolnagaa
open Go.Joins Go.ChangeShapes Go.WideShapes Go.RowKit Go.Deep

section
variable {H : Type} {enc : TypeId × Value → H} {P : Program} {w : World} {base : Nat} {spare : Nat → Bool} {held : Bool}
theorem open_agg6 {r : Reach} {b0 : Nat} {t : TypeId} {f0 f1 f2 f3 f4 f5 : Field} {v : Value} {d : DataW H} {p : List MemPlace} (hs : P.underlying t = some (.struct #[f0, f1, f2, f3, f4, f5])) (hone : oneCellFields P #[f0, f1, f2, f3, f4, f5] = true) (hC : P.cellsOf t = 6)
    (hv : Value.okWide P w r b0 t v) (h : DataW.Trod enc P w base spare held t v d p) :
    ∃ (v0 v1 v2 v3 v4 v5 : Value) (y0 y1 y2 y3 y4 y5 : DataW H × List MemPlace) (n : Nat), v = .agg #[v0, v1, v2, v3, v4, v5] ∧ d = .agg [y0.1, y1.1, y2.1, y3.1, y4.1, y5.1] ∧ p = y0.2 ++ (y1.2 ++ (y2.2 ++ (y3.2 ++ (y4.2 ++ y5.2)))) ∧
      DataW.trod enc P w base spare held n f0.type [v0] = some y0 ∧ DataW.trod enc P w base spare held n f1.type [v1] = some y1 ∧ DataW.trod enc P w base spare held n f2.type [v2] = some y2 ∧ DataW.trod enc P w base spare held n f3.type [v3] = some y3 ∧ DataW.trod enc P w base spare held n f4.type [v4] = some y4 ∧ DataW.trod enc P w base spare held n f5.type [v5] = some y5 := by
  obtain ⟨cs, rfl, hsz⟩ := okWide_struct hs hv
  obtain ⟨l⟩ := cs
  match l, hsz.trans hC with
  | [c0, c1, c2, c3, c4, c5], _ =>
    obtain ⟨fuel, hf⟩ := h
    obtain ⟨xs, n, _, hx, _, hlen, hg⟩ := DataW.trod_struct hs hf
    obtain ⟨o0, k0⟩ := hone_of hone 0 f0 rfl
    obtain ⟨o1, k1⟩ := hone_of hone 1 f1 rfl
    obtain ⟨o2, k2⟩ := hone_of hone 2 f2 rfl
    obtain ⟨o3, k3⟩ := hone_of hone 3 f3 rfl
    obtain ⟨o4, k4⟩ := hone_of hone 4 f4 rfl
    obtain ⟨o5, k5⟩ := hone_of hone 5 f5 rfl
    match xs, hlen with
    | [y0, y1, y2, y3, y4, y5], _ =>
      simp only [Prod.mk.injEq] at hx
      exact ⟨c0, c1, c2, c3, c4, c5, y0, y1, y2, y3, y4, y5, n, rfl, by simpa using hx.1, by simpa using hx.2, by simpa [Value.cells, o0, k0] using hg 0 f0 rfl, by simpa [Value.cells, o1, k1] using hg 1 f1 rfl, by simpa [Value.cells, o2, k2] using hg 2 f2 rfl, by simpa [Value.cells, o3, k3] using hg 3 f3 rfl, by simpa [Value.cells, o4, k4] using hg 4 f4 rfl, by simpa [Value.cells, o5, k5] using hg 5 f5 rfl⟩
end
theorem gather {β : Type} {f : β → List Value} {size : Nat} (hf : ∀ x, (f x).length = size) (hs : 0 < size) {Q : β → Prop} {w : World} {a : Addr} {len cap m : Nat} (hl : len ≤ cap) (hm : cap ≤ maxLen) (hmc : m = cap)
    (H : ∀ i, i < m → ∃ q : β, Q q ∧ ∀ (j : Nat) (u : Value), (f q)[j]? = some u → w.cell? (a.add (i * size + j)) = some u) :
    ∃ L : List β, SlR (Pl f) size w w.heap.size (.slice (some a) len cap) L ∧ (∀ x ∈ L, Q x) ∧ L.length = len := by
  by_cases h0 : len = 0
  · subst h0
    exact ⟨[], SlR.nil _ _ _ _ _ _ hm, (fun x hx => by cases hx), rfl⟩
  · obtain ⟨q0, hq0, hc0⟩ := H 0 (by omega)
    obtain ⟨F, hF⟩ : ∃ F : Nat → β, ∀ i, i < m → Q (F i) ∧ ∀ (j : Nat) (u : Value), (f (F i))[j]? = some u → w.cell? (a.add (i * size + j)) = some u :=
      ⟨fun i => if h : i < m then Classical.choose (H i h) else q0, fun i hi => by simp only [dif_pos hi]; exact Classical.choose_spec (H i hi)⟩
    clear H
    have hlen : ((List.range len).map F).length = len := by simp
    have hget : ∀ (i : Nat) (d : β), ((List.range len).map F)[i]? = some d → i < m ∧ d = F i := by
      intro i d hd
      have hi : i < len := by have := (List.getElem?_eq_some_iff.1 hd).1; omega
      refine ⟨by omega, ?_⟩
      simp only [List.getElem?_map, List.getElem?_range hi, Option.map_some, Option.some.injEq] at hd
      exact hd.symm
    have c00 := hc0 0 ((f q0)[0]'(by rw [hf]; exact hs)) (List.getElem?_eq_getElem (by rw [hf]; exact hs))
    obtain ⟨b, off, spot⟩ := a
    have hsp : spot = none := by simpa [Addr.add] using spot_none c00
    subst hsp
    rw [add_off] at c00
    refine ⟨(List.range len).map F, ⟨some ⟨b, off, none⟩, cap, by rw [hlen], by omega, hm, fun _ => ⟨b, off, rfl, block_lt c00, fun k z hk => ?_⟩⟩, fun x hx => ?_, hlen⟩
    · obtain ⟨hkm, rfl⟩ := hget k z hk
      refine ⟨f (F k), hf _, rfl, fun j u hu => ?_⟩
      have := (hF k hkm).2 j u hu
      rw [add_off] at this
      rw [Nat.add_assoc]
      exact this
    · obtain ⟨i, hi⟩ := List.getElem?_of_mem hx
      obtain ⟨him, rfl⟩ := hget i x hi
      exact (hF i him).1

section
variable {H : Type} {enc : TypeId × Value → H} {P : Program} {w : World} {base fuel : Nat} {held : Bool} {x : DataW H × List MemPlace}
theorem rows_of {t e ee : TypeId} {v : Value} (ht : P.underlying t = some (.slice e)) (he : P.underlying e = some (.slice ee)) (hee : P.underlying ee = some (.int .i64)) (hC : P.cellsOf e = 1) (hCe : P.cellsOf ee = 1)
    (h : DataW.trod enc P w base (fun _ => true) held fuel t [v] = some x) : ∃ ls, RowsR w w.heap.size v ls := by
  rcases open_slice ht h with ⟨hcs, _⟩ | ⟨a, len, cap, m, n, D, Pl', hcs, _, hl, hm, hmm, _, hi⟩
  · simp only [List.cons.injEq, and_true] at hcs
    rw [hcs]
    exact ⟨[], [], rfl, SlR.nil _ _ _ _ _ _ (Nat.zero_le _), fun x hx => by cases hx⟩
  · simp only [List.cons.injEq, and_true] at hcs
    have hmc : m = cap := by simpa using hmm
    rw [hcs]
    obtain ⟨L, h1, h2, h3⟩ := gather (f := rCells) (size := 1) (fun _ => rfl) (by omega) (Q := fun q : VRow => Ints w w.heap.size q.v q.a) (a := a) hl hm hmc (fun i him => by
      obtain ⟨cs', hc, ht'⟩ := hi i him
      rw [hC] at hc
      obtain ⟨_, hcl, hat⟩ := World.cells?_some hc
      match cs', hcl with
      | [c0], _ =>
        obtain ⟨A, n', c', zs, rfl, hI⟩ := ints_of he hee hCe ht'
        refine ⟨⟨zs, .slice A n' c'⟩, hI, fun j u hu => ?_⟩
        match j, hu with
        | 0, hu =>
          injection hu with hu
          subst hu
          have := hat 0 (by simp)
          rw [← Go.Deep.add_add]
          exact this)
    exact ⟨L.map (·.a), L, rfl, h1, h2⟩
theorem arts_of {t e : TypeId} {v : Value} {fs : Array Field} {f0 f1 : Field} (ht : P.underlying t = some (.slice e)) (he : P.underlying e = some (.struct fs)) (hfs : fs = #[f0, f1]) (hone : oneCellFields P fs = true) (hC : P.cellsOf e = fs.size)
    (t0 : P.underlying f0.type = some (.int .i64)) (t1 : P.underlying f1.type = some .string) (h : DataW.trod enc P w base (fun _ => true) held fuel t [v] = some x) :
    ∃ ls, Arts w w.heap.size v ls ∧ ∀ a ∈ ls, a.text.size ≤ maxLen := by
  rcases open_slice_fields ht he hone hC h with ⟨hcs, _⟩ | ⟨a, len, cap, m, D, Pl', hcs, _, hl, hm, hmm, _, hi⟩
  · simp only [List.cons.injEq, and_true] at hcs
    rw [hcs]
    exact ⟨[], SlR.nil _ _ _ _ _ _ (Nat.zero_le _), fun x hx => by cases hx⟩
  · simp only [List.cons.injEq, and_true] at hcs
    have hmc : m = cap := by simpa using hmm
    rw [hcs]
    obtain ⟨L, h1, h2, h3⟩ := gather (f := artCells) (size := 2) (fun _ => rfl) (by omega) (Q := fun q : Art => q.text.size ≤ maxLen) (a := a) hl hm hmc (fun i him => by
      obtain ⟨ys, n, _, _, _, hf⟩ := hi i him
      subst hfs
      obtain ⟨u0, y0, c0, _, r0⟩ := hf 0 f0 rfl
      obtain ⟨u1, y1, c1, _, r1⟩ := hf 1 f1 rfl
      obtain ⟨k0, e0, _, _⟩ := DataW.trod_int t0 r0
      obtain ⟨s1, e1, _, l1⟩ := DataW.trod_string t1 r1
      simp only [List.cons.injEq, and_true] at e0 e1
      subst e0 e1
      refine ⟨⟨k0, s1⟩, l1, fun j u hu => ?_⟩
      match j, hu with
      | 0, hu => injection hu with hu; subst hu; exact c0
      | 1, hu => injection hu with hu; subst hu; exact c1)
    exact ⟨L, h1, h2⟩
theorem acts_of {t e te ee : TypeId} {v : Value} {fs es : Array Field} {f0 f1 f2 g0 g1 g2 g3 : Field} (ht : P.underlying t = some (.slice e)) (he : P.underlying e = some (.struct fs)) (hfs : fs = #[f0, f1, f2]) (hone : oneCellFields P fs = true) (hC : P.cellsOf e = fs.size)
    (t0 : P.underlying f0.type = some (.int .i64)) (t1 : P.underlying f1.type = some (.int .i64)) (h2 : f2.type = te) (t2 : P.underlying te = some (.slice ee)) (t2e : P.underlying ee = some (.struct es)) (hes : es = #[g0, g1, g2, g3]) (hone2 : oneCellFields P es = true) (hC2 : P.cellsOf ee = es.size)
    (u0 : P.underlying g0.type = some (.int .i64)) (u1 : P.underlying g1.type = some (.int .i64)) (u2 : P.underlying g2.type = some .string) (u3 : P.underlying g3.type = some .string)
    (h : DataW.trod enc P w base (fun _ => true) held fuel t [v] = some x) : ∃ ls, Acts w w.heap.size v ls ∧ ActsSz ls := by
  rcases open_slice_fields ht he hone hC h with ⟨hcs, _⟩ | ⟨a, len, cap, m, D, Pl', hcs, _, hl, hm, hmm, _, hi⟩
  · simp only [List.cons.injEq, and_true] at hcs
    rw [hcs]
    exact ⟨[], ⟨[], rfl, SlR.nil _ _ _ _ _ _ (Nat.zero_le _), fun x hx => by cases hx⟩, fun x hx => by cases hx⟩
  · simp only [List.cons.injEq, and_true] at hcs
    have hmc : m = cap := by simpa using hmm
    rw [hcs]
    obtain ⟨L, h1, h2', h3⟩ := gather (f := vCells) (size := 3) (fun _ => rfl) (by omega) (Q := fun q : VAct => Edits w w.heap.size q.v q.a.pat ∧ SizesOk q.a.pat) (a := a) hl hm hmc (fun i him => by
      obtain ⟨ys, n, _, _, _, hf⟩ := hi i him
      subst hfs
      obtain ⟨w0, y0, c0, _, r0⟩ := hf 0 f0 rfl
      obtain ⟨w1, y1, c1, _, r1⟩ := hf 1 f1 rfl
      obtain ⟨w2, y2, c2, _, r2⟩ := hf 2 f2 rfl
      obtain ⟨k0, e0, _, _⟩ := DataW.trod_int t0 r0
      obtain ⟨k1, e1, _, _⟩ := DataW.trod_int t1 r1
      rw [h2] at r2
      obtain ⟨A5, n5, d5, ed, rfl, hE, hS⟩ := edits_of t2 t2e hes hone2 hC2 u0 u1 u2 u3 r2
      simp only [List.cons.injEq, and_true] at e0 e1
      subst e0 e1
      refine ⟨⟨⟨k0, k1, ed⟩, .slice A5 n5 d5⟩, ⟨hE, hS⟩, fun j u hu => ?_⟩
      match j, hu with
      | 0, hu => injection hu with hu; subst hu; exact c0
      | 1, hu => injection hu with hu; subst hu; exact c1
      | 2, hu => injection hu with hu; subst hu; exact c2)
    exact ⟨L.map (·.a), ⟨L, rfl, h1, fun x hx => (h2' x hx).1⟩, fun y hy => by
      obtain ⟨x, hx, rfl⟩ := List.mem_map.1 hy
      exact (h2' x hx).2⟩
theorem mots_of {t e te ti ie ee : TypeId} {v : Value} {fs es : Array Field} {f0 f1 f2 f3 f4 f5 f6 f7 g0 g1 g2 g3 : Field} (ht : P.underlying t = some (.slice e)) (he : P.underlying e = some (.struct fs)) (hfs : fs = #[f0, f1, f2, f3, f4, f5, f6, f7]) (hone : oneCellFields P fs = true) (hC : P.cellsOf e = fs.size)
    (t0 : P.underlying f0.type = some .string) (t1 : P.underlying f1.type = some (.int .i64)) (h2 : f2.type = te) (t2 : P.underlying te = some (.slice ee)) (t2e : P.underlying ee = some (.struct es)) (hes : es = #[g0, g1, g2, g3]) (hone2 : oneCellFields P es = true) (hC2 : P.cellsOf ee = es.size)
    (u0 : P.underlying g0.type = some (.int .i64)) (u1 : P.underlying g1.type = some (.int .i64)) (u2 : P.underlying g2.type = some .string) (u3 : P.underlying g3.type = some .string)
    (t3 : P.underlying f3.type = some (.int .i64)) (t4 : P.underlying f4.type = some (.int .i64)) (t5 : P.underlying f5.type = some (.int .i64)) (h6 : f6.type = ti) (t6 : P.underlying ti = some (.slice ie)) (t6e : P.underlying ie = some (.int .i64)) (t6c : P.cellsOf ie = 1) (t7 : P.underlying f7.type = some (.int .i64))
    (h : DataW.trod enc P w base (fun _ => true) held fuel t [v] = some x) : ∃ ls, Mots w w.heap.size v ls ∧ ∀ a ∈ ls, a.title.size ≤ maxLen ∧ SizesOk a.pat := by
  rcases open_slice_fields ht he hone hC h with ⟨hcs, _⟩ | ⟨a, len, cap, m, D, Pl', hcs, _, hl, hm, hmm, _, hi⟩
  · simp only [List.cons.injEq, and_true] at hcs
    rw [hcs]
    exact ⟨[], ⟨[], rfl, SlR.nil _ _ _ _ _ _ (Nat.zero_le _), fun x hx => by cases hx⟩, fun x hx => by cases hx⟩
  · simp only [List.cons.injEq, and_true] at hcs
    have hmc : m = cap := by simpa using hmm
    rw [hcs]
    obtain ⟨L, h1, h2', h3⟩ := gather (f := mCells) (size := 8) (fun _ => rfl) (by omega) (Q := fun q : VMot => (Edits w w.heap.size q.p q.a.pat ∧ Ints w w.heap.size q.t q.a.votes) ∧ q.a.title.size ≤ maxLen ∧ SizesOk q.a.pat) (a := a) hl hm hmc (fun i him => by
      obtain ⟨ys, n, _, _, _, hf⟩ := hi i him
      subst hfs
      obtain ⟨w0, y0, c0, _, r0⟩ := hf 0 f0 rfl
      obtain ⟨w1, y1, c1, _, r1⟩ := hf 1 f1 rfl
      obtain ⟨w2, y2, c2, _, r2⟩ := hf 2 f2 rfl
      obtain ⟨w3, y3, c3, _, r3⟩ := hf 3 f3 rfl
      obtain ⟨w4, y4, c4, _, r4⟩ := hf 4 f4 rfl
      obtain ⟨w5, y5, c5, _, r5⟩ := hf 5 f5 rfl
      obtain ⟨w6, y6, c6, _, r6⟩ := hf 6 f6 rfl
      obtain ⟨w7, y7, c7, _, r7⟩ := hf 7 f7 rfl
      obtain ⟨s0, e0, _, l0⟩ := DataW.trod_string t0 r0
      obtain ⟨k1, e1, _, _⟩ := DataW.trod_int t1 r1
      rw [h2] at r2
      obtain ⟨A5, n5, d5, ed, rfl, hE, hS⟩ := edits_of t2 t2e hes hone2 hC2 u0 u1 u2 u3 r2
      obtain ⟨k3, e3, _, _⟩ := DataW.trod_int t3 r3
      obtain ⟨k4, e4, _, _⟩ := DataW.trod_int t4 r4
      obtain ⟨k5, e5, _, _⟩ := DataW.trod_int t5 r5
      rw [h6] at r6
      obtain ⟨A6, n6, d6, zs, rfl, hI⟩ := ints_of t6 t6e t6c r6
      obtain ⟨k7, e7, _, _⟩ := DataW.trod_int t7 r7
      simp only [List.cons.injEq, and_true] at e0 e1 e3 e4 e5 e7
      subst e0 e1 e3 e4 e5 e7
      refine ⟨⟨⟨s0, k1, ed, k3, k4, k5, zs, k7⟩, .slice A5 n5 d5, .slice A6 n6 d6⟩, ⟨⟨hE, hI⟩, l0, hS⟩, fun j u hu => ?_⟩
      match j, hu with
      | 0, hu => injection hu with hu; subst hu; exact c0
      | 1, hu => injection hu with hu; subst hu; exact c1
      | 2, hu => injection hu with hu; subst hu; exact c2
      | 3, hu => injection hu with hu; subst hu; exact c3
      | 4, hu => injection hu with hu; subst hu; exact c4
      | 5, hu => injection hu with hu; subst hu; exact c5
      | 6, hu => injection hu with hu; subst hu; exact c6
      | 7, hu => injection hu with hu; subst hu; exact c7)
    exact ⟨L.map (·.a), ⟨L, rfl, h1, fun x hx => (h2' x hx).1⟩, fun y hy => by
      obtain ⟨x, hx, rfl⟩ := List.mem_map.1 hy
      exact (h2' x hx).2⟩
end
section
variable {H : Type} {enc : TypeId × Value → H} {w : World} {held : Bool}
end
end Go.Proofs.Ytlbnebmdolnagaa

namespace Go.Proofs.Ytlbnebmdolnagaa
open Go.RowKit Go.Lib

theorem actAt_ord {L : List Acta} {m : Nat} {d a : Acta} (hd : L[m]? = some d) (h : L[m + 1]? = some a) (hn : ¬ d.beg ≤ a.beg) : actAt L (m + 1) = false := by
  unfold actAt begAt
  rw [h]
  simp [hd, hn]
end Go.Proofs.Ytlbnebmdolnagaa

namespace Go.Proofs.Ytlbnebmdolnagaa
open Go.RowKit Go.Lib

theorem getD_at {vs : List Int} {k : Nat} (hk : k < vs.length) : vs.getD k 0 = vs[k] := by simp [List.getD_eq_getElem?_getD, hk]
theorem votesOk_bad {vs : List Int} {k : Nat} (hk : k < vs.length) (h : inB vs[k] 0 3 = false) : votesOk vs = false := by
  unfold votesOk
  exact allLt_false hk (by rw [getD_at hk]; exact h)
theorem mot_eq {m : Mot} {day n : Int} (h1 : okName m.title.toList = true) (h2 : inB m.author 0 (n - 1) = true) (h3 : ((m.pat.length : Int) == 0) = false) (h4 : okPatch m.pat = true) (h5 : spanB m.beg m.fin m.closes = true) (h6 : ((m.votes.length : Int) == n) = true) :
    okMot m day n = (votesOk m.votes && inB m.result 0 4 && ((m.result == 0) == decide (day < m.closes))) := by
  unfold okMot
  simp only [h1, h2, h3, h4, h5, h6, Bool.true_and, Bool.not_false]
end Go.Proofs.Ytlbnebmdolnagaa

namespace Go.Proofs.Ytlbnebmdolnagaa
open Go.RowKit Go.Lib

def idxG {α : Type} (p : α → Bool) (L : List α) : Int := match L.findIdx? p with | some k => (k : Int) | none => -1
theorem idxG_hit {α : Type} {p : α → Bool} {L : List α} {k : Nat} (hk : k < L.length) (h : p L[k] = true) (hn : ∀ j (hj : j < k), p (L[j]'(by omega)) = false) : idxG p L = k := by
  have : L.findIdx? p = some k := List.findIdx?_eq_some_iff_getElem.2 ⟨hk, h, fun j hj => by rw [hn j hj]; simp⟩
  unfold idxG
  rw [this]
theorem idxG_none {α : Type} {p : α → Bool} {L : List α} (hn : ∀ j (hj : j < L.length), p L[j] = false) : idxG p L = -1 := by
  have : L.findIdx? p = none := List.findIdx?_eq_none_iff.2 (fun x hx => by
    obtain ⟨j, hj, rfl⟩ := List.mem_iff_getElem.1 hx
    exact hn j hj)
  unfold idxG
  rw [this]
theorem idxG_any {α : Type} (p : α → Bool) (L : List α) : (0 ≤ idxG p L ↔ L.any p = true) ∧ -1 ≤ idxG p L ∧ idxG p L ≤ (L.length : Int) := by
  rcases hf : L.findIdx? p with _ | k
  · have h1 := List.findIdx?_eq_none_iff.1 hf
    have e : idxG p L = -1 := by unfold idxG; rw [hf]
    rw [e]
    refine ⟨⟨fun h => by omega, fun h => ?_⟩, by omega, by omega⟩
    obtain ⟨x, hx, hp⟩ := List.any_eq_true.1 h
    have := h1 x hx
    rw [hp] at this
    cases this
  · obtain ⟨h1, h2, h3⟩ := List.findIdx?_eq_some_iff_getElem.1 hf
    have e : idxG p L = k := by unfold idxG; rw [hf]
    rw [e]
    exact ⟨⟨fun _ => List.any_eq_true.2 ⟨L[k], List.getElem_mem h1, h2⟩, fun _ => by omega⟩, by omega, by omega⟩
/-- Tests that turn nothing. -/
def PredI (g : Nat) (lb : Array Value) (p : Int → Bool) (w : World) : Prop :=
  ∀ (W : World) (x : Int), Below w.heap.size w W → Calls Try.prog g (#[.int .i64 x] ++ lb) W (RetB (.bool (p x)) W)
def PredM (g : Nat) (lb : Array Value) (p : Mot → Bool) (w : World) : Prop :=
  ∀ (W : World) (m : Mot) (v1 v2 : Value), Below w.heap.size w W → Calls Try.prog g (#[.agg #[.string m.title, .int .i64 m.author, v1, .int .i64 m.beg, .int .i64 m.fin, .int .i64 m.closes, v2, .int .i64 m.result]] ++ lb) W (RetB (.bool (p m)) W)

theorem votesOk_any (vs : List Int) : (vs.any fun z => !inB z 0 3) = !votesOk vs := by
  have : votesOk vs = vs.all (fun z => inB z 0 3) := by
    unfold votesOk
    rw [Bool.eq_iff_iff, allLt_true, List.all_eq_true]
    constructor
    · intro h x hx
      obtain ⟨k, hk, rfl⟩ := List.mem_iff_getElem.1 hx
      have := h k hk
      rwa [getD_at hk] at this
    · intro h k hk
      rw [getD_at hk]
      exact h _ (List.getElem_mem hk)
  rw [this, List.not_all_eq_any_not]
end Go.Proofs.Ytlbnebmdolnagaa

namespace Go.Proofs.Ytlbnebmdolnagaa
open Go.RowKit Go.Lib

theorem memAt_at {L : List (List Int)} {n : Int} {k : Nat} (hk : k < L.length) : memAt L n k = okTrust L[k] (k : Int) n := by unfold memAt; rw [List.getElem?_eq_getElem hk]; rfl
theorem okTrusts_bad {L : List (List Int)} {k : Nat} (hk : k < L.length) (h : okTrust L[k] (k : Int) L.length = false) : okTrusts L = false := by
  unfold okTrusts
  exact allLt_false hk (by rw [memAt_at hk]; exact h)
theorem motAt_at {L : List Mot} {day n : Int} {k : Nat} (hk : k < L.length) : motAt L day n k = (okMot L[k] day n && !((L.take k).any (fun o => o.title.toList == L[k].title.toList))) := by unfold motAt; rw [List.getElem?_eq_getElem hk]; rfl
theorem okMots_bad {L : List Mot} {day n : Int} {k : Nat} (hk : k < L.length) (h : motAt L day n k = false) : okMots L day n = false := by
  unfold okMots
  exact allLt_false hk h
theorem okAsm_head {a : Asm} (h : okHead a = false) : okAsm a = false := by unfold okAsm; rw [h]; rfl
theorem okAsm_both {a : Asm} (h : (okStat a.base && okActs a.acts) = false) : okAsm a = false := by
  unfold okAsm
  rw [Bool.and_assoc (okHead a && okTrusts a.trust && okMots a.mots a.day ↑a.trust.length), h, Bool.and_false, Bool.false_and]
theorem okAsm_trusts {a : Asm} (h : okTrusts a.trust = false) : okAsm a = false := by unfold okAsm; rw [h]; simp
theorem okAsm_mots {a : Asm} (h : okMots a.mots a.day a.trust.length = false) : okAsm a = false := by unfold okAsm; rw [h]; simp
theorem okAsm_all {a : Asm} (h1 : okHead a = true) (h2 : okTrusts a.trust = true) (h3 : okMots a.mots a.day a.trust.length = true) (h4 : okStat a.base = true) (h5 : okActs a.acts = true) {n : Nat} (hn : n = 0 ↔ AllDays a.base a.acts) : okAsm a = ((n : Int) == 0) := by
  unfold okAsm
  rw [h1, h2, h3, h4, h5, Bool.eq_iff_iff]
  simp only [Bool.true_and, decide_eq_true_eq, beq_iff_eq]
  rw [← hn]
  omega
theorem keepJ {b o : Nat} {v3 v4 : Value} {w X X' : World} (h : X.cell? ⟨b, o + 3, none⟩ = some v3 ∧ X.cell? ⟨b, o + 4, none⟩ = some v4 ∧ Below w.heap.size w X) (hb : Below X.heap.size X X') : X'.cell? ⟨b, o + 3, none⟩ = some v3 ∧ X'.cell? ⟨b, o + 4, none⟩ = some v4 ∧ Below w.heap.size w X' :=
  ⟨(hb.cell (World.block_lt_of_cell? X _ h.1)).trans h.1, (hb.cell (World.block_lt_of_cell? X _ h.2.1)).trans h.2.1, h.2.2.trans (hb.mono h.2.2.size)⟩

end Go.Proofs.Ytlbnebmdolnagaa

namespace Go.Proofs.Ytlbnebmdolnagaa
open Go.RowKit Go.Lib

theorem okMot2 (m : Mot) (day n : Int) : okMot m day n = (okName m.title.toList && inB m.author 0 (n - 1) && okSpan m.pat m.closes m.beg m.fin && (((m.votes.length : Int) == n) && votesOk m.votes) && inB m.result 0 4 && ((m.result == 0) == decide (day < m.closes))) := by
  unfold okMot
  rw [okSpan_span, len_zero]
  simp only [Bool.and_assoc]
end Go.Proofs.Ytlbnebmdolnagaa

namespace Go.Proofs.Ytlbnebmdolnagaa
open Go.RowKit Go.Lib

theorem Mots.take {w : World} {B : Nat} {A : Option Addr} {n c : Nat} {ls : List Mot} (h : Mots w B (.slice A n c) ls) (k : Nat) (hk : k ≤ ls.length) : Mots w B (.slice A k c) (ls.take k) := by
  obtain ⟨L, rfl, h2, h3⟩ := h
  rw [List.length_map] at hk
  exact ⟨L.take k, by rw [List.map_take], SlR.take h2 k hk, fun x hx => h3 x (List.mem_of_mem_take hx)⟩
theorem okAsm_stat {a : Asm} (h : okStat a.base = false) : okAsm a = false := by unfold okAsm; rw [h]; simp
theorem okAsm_acts {a : Asm} (h : okActs a.acts = false) : okAsm a = false := by unfold okAsm; rw [h]; simp

end Go.Proofs.Ytlbnebmdolnagaa

namespace Go.Proofs.Ytlbnebmdolnagaa
open Go.RowKit Go.Lib

end Go.Proofs.Ytlbnebmdolnagaa

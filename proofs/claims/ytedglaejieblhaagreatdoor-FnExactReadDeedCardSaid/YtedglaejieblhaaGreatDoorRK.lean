/- Both readers of a deed: for every text. -/
import Derived.Test.YtedglaejieblhaaGreatDoorLawRD
import Derived.Test.YtedglaejieblhaaGreatDoorRHv
import Derived.Test.YtedglaejieblhaaGreatDoorRHn
import Derived.Test.YtedglaejieblhaaGreatDoorRHp
import Derived.Test.YtedglaejieblhaaGreatDoorRJv
namespace Go.Proofs.YtedglaejieblhaaGreatDoor
open Go.RowKit Go.Lib

theorem readDeed1_any (s : ByteArray) (w : World) (hs : s.size ≤ 1048576) : Calls Tryz.prog 30 #[.string s] w (DeedPost s.data.toList w) := by
  by_cases h1 : (cutL 32 s.data.toList).1 = [116, 114, 117, 115, 116]
  · exact readDeed1_trust s w hs h1
  · by_cases h2 : (cutL 32 s.data.toList).1 = [118, 111, 116, 101]
    · exact readDeed1_vote s w hs h2
    · by_cases h3 : (cutL 32 s.data.toList).1 = [112, 114, 111, 112, 111, 115, 101]
      · exact readDeed1_propose s w hs h3
      · by_cases h4 : (cutL 32 s.data.toList).1 = [110, 101, 120, 116]
        · exact readDeed1_next s w hs h4
        · exact readDeed1_none s w hs h1 h2 h3 h4
theorem res_sr (a : Act) (w' : World) (g : Nat) (v0 v1 v2 v3 v4 v5 v6 v7 v8 : Value) (b : Bool) (ha : a.tmps[2]? = some (.pointer (some ⟨g, 0, none⟩))) (hb : a.tmps[3]? = some (.bool b)) (c0 : w'.cell? ⟨g, 0, none⟩ = some v0) (c1 : w'.cell? ⟨g, 1, none⟩ = some v1) (c2 : w'.cell? ⟨g, 2, none⟩ = some v2) (c3 : w'.cell? ⟨g, 3, none⟩ = some v3) (c4 : w'.cell? ⟨g, 4, none⟩ = some v4) (c5 : w'.cell? ⟨g, 5, none⟩ = some v5) (c6 : w'.cell? ⟨g, 6, none⟩ = some v6) (c7 : w'.cell? ⟨g, 7, none⟩ = some v7) (c8 : w'.cell? ⟨g, 8, none⟩ = some v8) :
    (results Tryz.f9 a.tmps).run Tryz.prog w' = .ok (.tuple #[.agg #[v0, v1, v2, v3, v4, v5, v6, v7, v8], .bool b]) w' := by
  simp [results, Tryz.results9, go_sem, ha, hb, c0, c1, c2, c3, c4, c5, c6, c7, c8]

set_option maxHeartbeats 1000000 in
theorem reads1 : ReadsD 9 := by
  intro s w hs _
  have H1 := Lib.hid (fun W => readDeed1_any s W hs)
  unfold DeedPost deedV at H1 ⊢
  generalize (deedOf s.data.toList).getD zeroDeed = D at *
  generalize (deedOf s.data.toList).isSome = r at *
  have R0 := Row.new w #[.int .i64 0, .int .i64 0, .slice none 0 0, .string ⟨#[]⟩, .int .i64 0, .slice none 0 0, .int .i64 0, .int .i64 0, .int .i64 0] 25
  have hx0 : w.heap.size < (w.alloc (.cells #[.int .i64 0, .int .i64 0, .slice none 0 0, .string ⟨#[]⟩, .int .i64 0, .slice none 0 0, .int .i64 0, .int .i64 0, .int .i64 0] 25)).heap.size := by simp
  have b0 : Below w.heap.size w (w.alloc (.cells #[.int .i64 0, .int .i64 0, .slice none 0 0, .string ⟨#[]⟩, .int .i64 0, .slice none 0 0, .int .i64 0, .int .i64 0, .int .i64 0] 25)) := (Below.refl _ _).alloc (Nat.le_refl _) _
  go_enter Tryz.func9, Tryz.ntmps9
  go_wp2_with (fail)
  refine (H1.out _).mono ?_
  rintro e w1 ⟨A1, c1, A2, c2, rfl, o1, o2, hb⟩
  have R1 := R0.below hb hx0
  have HB := Lib.hid (b0.trans (hb.mono b0.size))
  have HO1 := Lib.hid o1
  have HO2 := Lib.hid o2
  have hsz : Hid (w.heap.size + 1 ≤ w1.heap.size) := Lib.hid (by have := hb.size; simp at this; omega)
  have z0 : w1.cell? ⟨w.heap.size, 0, none⟩ = some (.int .i64 0) := R1.cell 0 _ rfl
  have z1 : w1.cell? ⟨w.heap.size, 1, none⟩ = some (.int .i64 0) := R1.cell 1 _ rfl
  have z2 : w1.cell? ⟨w.heap.size, 2, none⟩ = some (.slice none 0 0) := R1.cell 2 _ rfl
  have z3 : w1.cell? ⟨w.heap.size, 3, none⟩ = some (.string ⟨#[]⟩) := R1.cell 3 _ rfl
  have z4 : w1.cell? ⟨w.heap.size, 4, none⟩ = some (.int .i64 0) := R1.cell 4 _ rfl
  have z5 : w1.cell? ⟨w.heap.size, 5, none⟩ = some (.slice none 0 0) := R1.cell 5 _ rfl
  have z6 : w1.cell? ⟨w.heap.size, 6, none⟩ = some (.int .i64 0) := R1.cell 6 _ rfl
  have z7 : w1.cell? ⟨w.heap.size, 7, none⟩ = some (.int .i64 0) := R1.cell 7 _ rfl
  have z8 : w1.cell? ⟨w.heap.size, 8, none⟩ = some (.int .i64 0) := R1.cell 8 _ rfl
  have f0 : w1.frozen? ⟨w.heap.size, 0, none⟩ = false := R1.free 0 (by decide)
  have f1 : w1.frozen? ⟨w.heap.size, 1, none⟩ = false := R1.free 1 (by decide)
  have f2 : w1.frozen? ⟨w.heap.size, 2, none⟩ = false := R1.free 2 (by decide)
  have f3 : w1.frozen? ⟨w.heap.size, 3, none⟩ = false := R1.free 3 (by decide)
  have f4 : w1.frozen? ⟨w.heap.size, 4, none⟩ = false := R1.free 4 (by decide)
  have f5 : w1.frozen? ⟨w.heap.size, 5, none⟩ = false := R1.free 5 (by decide)
  have f6 : w1.frozen? ⟨w.heap.size, 6, none⟩ = false := R1.free 6 (by decide)
  have f7 : w1.frozen? ⟨w.heap.size, 7, none⟩ = false := R1.free 7 (by decide)
  have f8 : w1.frozen? ⟨w.heap.size, 8, none⟩ = false := R1.free 8 (by decide)
  have hbase : (w.alloc (.cells #[.int .i64 0, .int .i64 0, .slice none 0 0, .string ⟨#[]⟩, .int .i64 0, .slice none 0 0, .int .i64 0, .int .i64 0, .int .i64 0] 25)).heap.size = w.heap.size + 1 := by simp
  rw [hbase] at HO1 HO2
  clear R0 R1 hb b0 o1 o2 hx0 hbase
  go_wp2
  refine bodyPost_ret (v := .tuple #[.agg #[.int .i64 D.kind, .int .i64 D.member, .slice A1 D.trust.length c1, .string D.title, .int .i64 D.vote, .slice A2 D.patch.length c2, .int .i64 D.start, .int .i64 D.until_, .int .i64 D.closes], .bool r]) ?hr rfl ?_
  case hr => exact (res_sr _ _ w.heap.size (.int .i64 D.kind) (.int .i64 D.member) (.slice A1 D.trust.length c1) (.string D.title) (.int .i64 D.vote) (.slice A2 D.patch.length c2) (.int .i64 D.start) (.int .i64 D.until_) (.int .i64 D.closes) r rfl rfl (by simp [go_sem, z0]) (by simp [go_sem, z1]) (by simp [go_sem, z2]) (by simp [go_sem, z3]) (by simp [go_sem, z4]) (by simp [go_sem, z5]) (by simp [go_sem, z6]) (by simp [go_sem, z7]) (by simp [go_sem, z8]))
  refine ⟨A1, c1, A2, c2, rfl, ?_, ?_, ?_⟩
  · refine OwnL.less (base := w.heap.size + 1) ?_ (by omega)
    iterate 9 refine OwnL.set ?_ _ (by simp)
    exact HO1.out
  · refine OwnL.less (base := w.heap.size + 1) ?_ (by omega)
    iterate 9 refine OwnL.set ?_ _ (by simp)
    exact HO2.out
  · iterate 9 refine Below.setCell ?_ (by simp) _
    exact HB.out

theorem reads2 : ReadsD 10 := by
  intro s w hs hE
  by_cases h : (splitNC 32 6 s.data.toList).getD 0 [] = [118, 111, 116, 101] ∧ (splitNC 32 6 s.data.toList).length = 4
  · exact readDeed2_vote s w hs hE h
  · exact readDeed2_most s w hs hE h
end Go.Proofs.YtedglaejieblhaaGreatDoor

/- A deed copied, walked: where its rows lie. -/
import Derived.Test.YtedglaejieblhaaDoorLawU
namespace Go.Proofs.YtedglaejieblhaaDoor
open Go.RowKit

/-- A deed of the call's own: both rows lie above what was, and may be written. -/
def RetDR (d : Deed) (w : World) (e : Ending) (w' : World) : Prop :=
  ∃ g1 c1 g2 c2, e = .returned (.agg #[.int .i64 d.kind, .int .i64 d.member, .slice (some ⟨g1, 0, none⟩) d.trust.length c1, .string d.title, .int .i64 d.vote, .slice (some ⟨g2, 0, none⟩) d.patch.length c2, .int .i64 d.start, .int .i64 d.until_, .int .i64 d.closes]) ∧
    d.trust.length ≤ c1 ∧ c1 ≤ maxLen ∧ d.patch.length ≤ c2 ∧ c2 ≤ maxLen ∧ w.heap.size ≤ g1 ∧ g1 < g2 ∧ g2 < w'.heap.size ∧ Row w' g1 (d.trust.flatMap intCells) ∧ Row w' g2 (d.patch.flatMap editCells) ∧ Below w.heap.size w w'

set_option maxRecDepth 100000 in
set_option maxHeartbeats 4000000 in
theorem toDeed_row (d : Deed) (A1 : Option Addr) (n1 c1 : Nat) (A2 : Option Addr) (n2 c2 : Nat) (w : World) (hT : Ints w w.heap.size (.slice A1 n1 c1) d.trust) (hP : Edits w w.heap.size (.slice A2 n2 c2) d.patch) (h1 : n1 ≤ 1048576) (h2 : n2 ≤ 1048576) :
    Calls Tryd.prog 8 #[.agg #[.int .i64 d.kind, .int .i64 d.member, .slice A1 n1 c1, .string d.title, .int .i64 d.vote, .slice A2 n2 c2, .int .i64 d.start, .int .i64 d.until_, .int .i64 d.closes]] w (RetDR d w) := by
  have HT := Lib.hid hT
  have HP := Lib.hid hP
  clear hT hP
  go_enter Tryd.func8, Tryd.ntmps8
  go_wp2_with (fail)
  refine (toInts_any d.trust _ _ _ _ (HT.out.on (Pl.stays _) ((((Below.refl _ _).alloc (Nat.le_refl _) _).alloc (by simp) _).alloc (by simp; omega) _) (by simp; omega)) h1).mono ?_
  rintro e1 w1 hr1
  obtain ⟨g1, d1, rfl, hle1, hm1, hge1, hlt1, hI, hb1⟩ := hr1
  have bw1 : Below w.heap.size w w1 := ((((Below.refl _ _).alloc (Nat.le_refl _) _).alloc (by simp) _).alloc (by simp; omega) _).trans (hb1.mono (by simp; omega))
  have hs1 : w.heap.size + 1 + 1 < w1.heap.size := by have := hb1.size; simp at this; omega
  have x3 : w1.cell? ⟨w.heap.size, 3, none⟩ = some (.string d.title) := (hb1.cell (p := ⟨w.heap.size, 3, none⟩) (by simp; omega)).trans (by simp [go_sem])
  have x4 : w1.cell? ⟨w.heap.size, 4, none⟩ = some (.int .i64 d.vote) := (hb1.cell (p := ⟨w.heap.size, 4, none⟩) (by simp; omega)).trans (by simp [go_sem])
  have x5 : w1.cell? ⟨w.heap.size, 5, none⟩ = some (.slice A2 n2 c2) := (hb1.cell (p := ⟨w.heap.size, 5, none⟩) (by simp; omega)).trans (by simp [go_sem])
  have x6 : w1.cell? ⟨w.heap.size, 6, none⟩ = some (.int .i64 d.start) := (hb1.cell (p := ⟨w.heap.size, 6, none⟩) (by simp; omega)).trans (by simp [go_sem])
  have x7 : w1.cell? ⟨w.heap.size, 7, none⟩ = some (.int .i64 d.until_) := (hb1.cell (p := ⟨w.heap.size, 7, none⟩) (by simp; omega)).trans (by simp [go_sem])
  have x8 : w1.cell? ⟨w.heap.size, 8, none⟩ = some (.int .i64 d.closes) := (hb1.cell (p := ⟨w.heap.size, 8, none⟩) (by simp; omega)).trans (by simp [go_sem])
  have k0 : w1.cell? ⟨w.heap.size + 1 + 1, 0, none⟩ = some (.int .i64 d.kind) := (hb1.cell (p := ⟨w.heap.size + 1 + 1, 0, none⟩) (by simp)).trans (by simp [go_sem])
  have k1 : w1.cell? ⟨w.heap.size + 1 + 1, 1, none⟩ = some (.int .i64 d.member) := (hb1.cell (p := ⟨w.heap.size + 1 + 1, 1, none⟩) (by simp)).trans (by simp [go_sem])
  have k2 : w1.cell? ⟨w.heap.size + 1 + 1, 2, none⟩ = some (.slice none 0 0) := (hb1.cell (p := ⟨w.heap.size + 1 + 1, 2, none⟩) (by simp)).trans (by simp [go_sem])
  have k3 : w1.cell? ⟨w.heap.size + 1 + 1, 3, none⟩ = some (.string ⟨#[]⟩) := (hb1.cell (p := ⟨w.heap.size + 1 + 1, 3, none⟩) (by simp)).trans (by simp [go_sem])
  have k4 : w1.cell? ⟨w.heap.size + 1 + 1, 4, none⟩ = some (.int .i64 0) := (hb1.cell (p := ⟨w.heap.size + 1 + 1, 4, none⟩) (by simp)).trans (by simp [go_sem])
  have k5 : w1.cell? ⟨w.heap.size + 1 + 1, 5, none⟩ = some (.slice none 0 0) := (hb1.cell (p := ⟨w.heap.size + 1 + 1, 5, none⟩) (by simp)).trans (by simp [go_sem])
  have k6 : w1.cell? ⟨w.heap.size + 1 + 1, 6, none⟩ = some (.int .i64 0) := (hb1.cell (p := ⟨w.heap.size + 1 + 1, 6, none⟩) (by simp)).trans (by simp [go_sem])
  have k7 : w1.cell? ⟨w.heap.size + 1 + 1, 7, none⟩ = some (.int .i64 0) := (hb1.cell (p := ⟨w.heap.size + 1 + 1, 7, none⟩) (by simp)).trans (by simp [go_sem])
  have k8 : w1.cell? ⟨w.heap.size + 1 + 1, 8, none⟩ = some (.int .i64 0) := (hb1.cell (p := ⟨w.heap.size + 1 + 1, 8, none⟩) (by simp)).trans (by simp [go_sem])
  have f2 : w1.frozen? ⟨w.heap.size + 1 + 1, 2, none⟩ = false := (hb1.frozen (p := ⟨w.heap.size + 1 + 1, 2, none⟩) (by simp)).trans (by simp [go_sem])
  have f3 : w1.frozen? ⟨w.heap.size + 1 + 1, 3, none⟩ = false := (hb1.frozen (p := ⟨w.heap.size + 1 + 1, 3, none⟩) (by simp)).trans (by simp [go_sem])
  have f4 : w1.frozen? ⟨w.heap.size + 1 + 1, 4, none⟩ = false := (hb1.frozen (p := ⟨w.heap.size + 1 + 1, 4, none⟩) (by simp)).trans (by simp [go_sem])
  have f5 : w1.frozen? ⟨w.heap.size + 1 + 1, 5, none⟩ = false := (hb1.frozen (p := ⟨w.heap.size + 1 + 1, 5, none⟩) (by simp)).trans (by simp [go_sem])
  have f6 : w1.frozen? ⟨w.heap.size + 1 + 1, 6, none⟩ = false := (hb1.frozen (p := ⟨w.heap.size + 1 + 1, 6, none⟩) (by simp)).trans (by simp [go_sem])
  have f7 : w1.frozen? ⟨w.heap.size + 1 + 1, 7, none⟩ = false := (hb1.frozen (p := ⟨w.heap.size + 1 + 1, 7, none⟩) (by simp)).trans (by simp [go_sem])
  have f8 : w1.frozen? ⟨w.heap.size + 1 + 1, 8, none⟩ = false := (hb1.frozen (p := ⟨w.heap.size + 1 + 1, 8, none⟩) (by simp)).trans (by simp [go_sem])
  have r0 : w1.cell? ⟨w.heap.size + 1, 0, none⟩ = some (.int .i64 0) := (hb1.cell (p := ⟨w.heap.size + 1, 0, none⟩) (by simp)).trans (by simp [go_sem])
  have r1 : w1.cell? ⟨w.heap.size + 1, 1, none⟩ = some (.int .i64 0) := (hb1.cell (p := ⟨w.heap.size + 1, 1, none⟩) (by simp)).trans (by simp [go_sem])
  have r2 : w1.cell? ⟨w.heap.size + 1, 2, none⟩ = some (.slice none 0 0) := (hb1.cell (p := ⟨w.heap.size + 1, 2, none⟩) (by simp)).trans (by simp [go_sem])
  have r3 : w1.cell? ⟨w.heap.size + 1, 3, none⟩ = some (.string ⟨#[]⟩) := (hb1.cell (p := ⟨w.heap.size + 1, 3, none⟩) (by simp)).trans (by simp [go_sem])
  have r4 : w1.cell? ⟨w.heap.size + 1, 4, none⟩ = some (.int .i64 0) := (hb1.cell (p := ⟨w.heap.size + 1, 4, none⟩) (by simp)).trans (by simp [go_sem])
  have r5 : w1.cell? ⟨w.heap.size + 1, 5, none⟩ = some (.slice none 0 0) := (hb1.cell (p := ⟨w.heap.size + 1, 5, none⟩) (by simp)).trans (by simp [go_sem])
  have r6 : w1.cell? ⟨w.heap.size + 1, 6, none⟩ = some (.int .i64 0) := (hb1.cell (p := ⟨w.heap.size + 1, 6, none⟩) (by simp)).trans (by simp [go_sem])
  have r7 : w1.cell? ⟨w.heap.size + 1, 7, none⟩ = some (.int .i64 0) := (hb1.cell (p := ⟨w.heap.size + 1, 7, none⟩) (by simp)).trans (by simp [go_sem])
  have r8 : w1.cell? ⟨w.heap.size + 1, 8, none⟩ = some (.int .i64 0) := (hb1.cell (p := ⟨w.heap.size + 1, 8, none⟩) (by simp)).trans (by simp [go_sem])
  have s0 : w1.frozen? ⟨w.heap.size + 1, 0, none⟩ = false := (hb1.frozen (p := ⟨w.heap.size + 1, 0, none⟩) (by simp)).trans (by simp [go_sem])
  have s1 : w1.frozen? ⟨w.heap.size + 1, 1, none⟩ = false := (hb1.frozen (p := ⟨w.heap.size + 1, 1, none⟩) (by simp)).trans (by simp [go_sem])
  have s2 : w1.frozen? ⟨w.heap.size + 1, 2, none⟩ = false := (hb1.frozen (p := ⟨w.heap.size + 1, 2, none⟩) (by simp)).trans (by simp [go_sem])
  have s3 : w1.frozen? ⟨w.heap.size + 1, 3, none⟩ = false := (hb1.frozen (p := ⟨w.heap.size + 1, 3, none⟩) (by simp)).trans (by simp [go_sem])
  have s4 : w1.frozen? ⟨w.heap.size + 1, 4, none⟩ = false := (hb1.frozen (p := ⟨w.heap.size + 1, 4, none⟩) (by simp)).trans (by simp [go_sem])
  have s5 : w1.frozen? ⟨w.heap.size + 1, 5, none⟩ = false := (hb1.frozen (p := ⟨w.heap.size + 1, 5, none⟩) (by simp)).trans (by simp [go_sem])
  have s6 : w1.frozen? ⟨w.heap.size + 1, 6, none⟩ = false := (hb1.frozen (p := ⟨w.heap.size + 1, 6, none⟩) (by simp)).trans (by simp [go_sem])
  have s7 : w1.frozen? ⟨w.heap.size + 1, 7, none⟩ = false := (hb1.frozen (p := ⟨w.heap.size + 1, 7, none⟩) (by simp)).trans (by simp [go_sem])
  have s8 : w1.frozen? ⟨w.heap.size + 1, 8, none⟩ = false := (hb1.frozen (p := ⟨w.heap.size + 1, 8, none⟩) (by simp)).trans (by simp [go_sem])
  have HB1 := Lib.hid bw1
  have hne1 : w.heap.size + 1 + 1 < g1 := by have := hge1; simp at this; omega
  have HI := Lib.hid hI
  clear hb1 bw1 hI hge1
  go_wp2_with (fail)
  obtain ⟨W2, hW2⟩ : ∃ W2, W2 = ((w1.setCell ⟨w.heap.size + 1 + 1, 2, none⟩ (.slice (some ⟨g1, 0, none⟩) d.trust.length d1)).setCell ⟨w.heap.size + 1 + 1, 3, none⟩ (.string d.title)).setCell ⟨w.heap.size + 1 + 1, 4, none⟩ (.int .i64 d.vote) := ⟨_, rfl⟩
  have hs2 : w.heap.size + 1 + 1 < W2.heap.size := by rw [hW2]; simpa using hs1
  have bW2 : Below w.heap.size w W2 := by rw [hW2]; exact ((HB1.out.setCell (by simp; omega) _).setCell (by simp; omega) _).setCell (by simp; omega) _
  have HI2 : Hid (Row W2 g1 (d.trust.flatMap intCells)) := Lib.hid (by rw [hW2]; (iterate 3 refine Row.far ?_ _ (by simp; omega)); exact HI.out)
  have hlt2 : g1 < W2.heap.size := by rw [hW2]; simpa using hlt1
  have y6 : W2.cell? ⟨w.heap.size, 6, none⟩ = some (.int .i64 d.start) := by rw [hW2]; simp [go_sem, x6]
  have y7 : W2.cell? ⟨w.heap.size, 7, none⟩ = some (.int .i64 d.until_) := by rw [hW2]; simp [go_sem, x7]
  have y8 : W2.cell? ⟨w.heap.size, 8, none⟩ = some (.int .i64 d.closes) := by rw [hW2]; simp [go_sem, x8]
  have m0 : W2.cell? ⟨w.heap.size + 1 + 1, 0, none⟩ = some (.int .i64 d.kind) := by rw [hW2]; simp [go_sem, k0]
  have m1 : W2.cell? ⟨w.heap.size + 1 + 1, 1, none⟩ = some (.int .i64 d.member) := by rw [hW2]; simp [go_sem, k1]
  have m2 : W2.cell? ⟨w.heap.size + 1 + 1, 2, none⟩ = some (.slice (some ⟨g1, 0, none⟩) d.trust.length d1) := by rw [hW2]; simp [go_sem, k2]
  have m3 : W2.cell? ⟨w.heap.size + 1 + 1, 3, none⟩ = some (.string d.title) := by rw [hW2]; simp [go_sem, k3]
  have m4 : W2.cell? ⟨w.heap.size + 1 + 1, 4, none⟩ = some (.int .i64 d.vote) := by rw [hW2]; simp [go_sem, k4]
  have m5 : W2.cell? ⟨w.heap.size + 1 + 1, 5, none⟩ = some (.slice none 0 0) := by rw [hW2]; simp [go_sem, k5]
  have m6 : W2.cell? ⟨w.heap.size + 1 + 1, 6, none⟩ = some (.int .i64 0) := by rw [hW2]; simp [go_sem, k6]
  have m7 : W2.cell? ⟨w.heap.size + 1 + 1, 7, none⟩ = some (.int .i64 0) := by rw [hW2]; simp [go_sem, k7]
  have m8 : W2.cell? ⟨w.heap.size + 1 + 1, 8, none⟩ = some (.int .i64 0) := by rw [hW2]; simp [go_sem, k8]
  have p5 : W2.frozen? ⟨w.heap.size + 1 + 1, 5, none⟩ = false := by rw [hW2]; simp [go_sem, f5]
  have p6 : W2.frozen? ⟨w.heap.size + 1 + 1, 6, none⟩ = false := by rw [hW2]; simp [go_sem, f6]
  have p7 : W2.frozen? ⟨w.heap.size + 1 + 1, 7, none⟩ = false := by rw [hW2]; simp [go_sem, f7]
  have p8 : W2.frozen? ⟨w.heap.size + 1 + 1, 8, none⟩ = false := by rw [hW2]; simp [go_sem, f8]
  have q0 : W2.cell? ⟨w.heap.size + 1, 0, none⟩ = some (.int .i64 0) := by rw [hW2]; simp [go_sem, r0]
  have q1 : W2.cell? ⟨w.heap.size + 1, 1, none⟩ = some (.int .i64 0) := by rw [hW2]; simp [go_sem, r1]
  have q2 : W2.cell? ⟨w.heap.size + 1, 2, none⟩ = some (.slice none 0 0) := by rw [hW2]; simp [go_sem, r2]
  have q3 : W2.cell? ⟨w.heap.size + 1, 3, none⟩ = some (.string ⟨#[]⟩) := by rw [hW2]; simp [go_sem, r3]
  have q4 : W2.cell? ⟨w.heap.size + 1, 4, none⟩ = some (.int .i64 0) := by rw [hW2]; simp [go_sem, r4]
  have q5 : W2.cell? ⟨w.heap.size + 1, 5, none⟩ = some (.slice none 0 0) := by rw [hW2]; simp [go_sem, r5]
  have q6 : W2.cell? ⟨w.heap.size + 1, 6, none⟩ = some (.int .i64 0) := by rw [hW2]; simp [go_sem, r6]
  have q7 : W2.cell? ⟨w.heap.size + 1, 7, none⟩ = some (.int .i64 0) := by rw [hW2]; simp [go_sem, r7]
  have q8 : W2.cell? ⟨w.heap.size + 1, 8, none⟩ = some (.int .i64 0) := by rw [hW2]; simp [go_sem, r8]
  have t0 : W2.frozen? ⟨w.heap.size + 1, 0, none⟩ = false := by rw [hW2]; simp [go_sem, s0]
  have t1 : W2.frozen? ⟨w.heap.size + 1, 1, none⟩ = false := by rw [hW2]; simp [go_sem, s1]
  have t2 : W2.frozen? ⟨w.heap.size + 1, 2, none⟩ = false := by rw [hW2]; simp [go_sem, s2]
  have t3 : W2.frozen? ⟨w.heap.size + 1, 3, none⟩ = false := by rw [hW2]; simp [go_sem, s3]
  have t4 : W2.frozen? ⟨w.heap.size + 1, 4, none⟩ = false := by rw [hW2]; simp [go_sem, s4]
  have t5 : W2.frozen? ⟨w.heap.size + 1, 5, none⟩ = false := by rw [hW2]; simp [go_sem, s5]
  have t6 : W2.frozen? ⟨w.heap.size + 1, 6, none⟩ = false := by rw [hW2]; simp [go_sem, s6]
  have t7 : W2.frozen? ⟨w.heap.size + 1, 7, none⟩ = false := by rw [hW2]; simp [go_sem, s7]
  have t8 : W2.frozen? ⟨w.heap.size + 1, 8, none⟩ = false := by rw [hW2]; simp [go_sem, s8]
  rw [← hW2]
  clear hW2 x3 x4 x5 x6 x7 x8 k0 k1 k2 k3 k4 k5 k6 k7 k8 f2 f3 f4 f5 f6 f7 f8 r0 s0 r1 s1 r2 s2 r3 s3 r4 s4 r5 s5 r6 s6 r7 s7 r8 s8
  refine (toEdits_any d.patch _ _ _ _ (HP.out.on (Pl.stays _) bW2 bW2.size) h2).mono ?_
  rintro e2 w2 hr2
  obtain ⟨g2, d2, rfl, hle2, hm2, hge2, hlt3, hE, hb2⟩ := hr2
  have hs3 : w.heap.size + 1 + 1 < w2.heap.size := Nat.lt_of_lt_of_le hs2 hb2.size
  have x6 := (hb2.cell (p := ⟨w.heap.size, 6, none⟩) (by simp; omega)).trans y6
  have x7 := (hb2.cell (p := ⟨w.heap.size, 7, none⟩) (by simp; omega)).trans y7
  have x8 := (hb2.cell (p := ⟨w.heap.size, 8, none⟩) (by simp; omega)).trans y8
  have k0 := (hb2.cell (p := ⟨w.heap.size + 1 + 1, 0, none⟩) hs2).trans m0
  have k1 := (hb2.cell (p := ⟨w.heap.size + 1 + 1, 1, none⟩) hs2).trans m1
  have k2 := (hb2.cell (p := ⟨w.heap.size + 1 + 1, 2, none⟩) hs2).trans m2
  have k3 := (hb2.cell (p := ⟨w.heap.size + 1 + 1, 3, none⟩) hs2).trans m3
  have k4 := (hb2.cell (p := ⟨w.heap.size + 1 + 1, 4, none⟩) hs2).trans m4
  have k5 := (hb2.cell (p := ⟨w.heap.size + 1 + 1, 5, none⟩) hs2).trans m5
  have k6 := (hb2.cell (p := ⟨w.heap.size + 1 + 1, 6, none⟩) hs2).trans m6
  have k7 := (hb2.cell (p := ⟨w.heap.size + 1 + 1, 7, none⟩) hs2).trans m7
  have k8 := (hb2.cell (p := ⟨w.heap.size + 1 + 1, 8, none⟩) hs2).trans m8
  have f5 := (hb2.frozen (p := ⟨w.heap.size + 1 + 1, 5, none⟩) hs2).trans p5
  have f6 := (hb2.frozen (p := ⟨w.heap.size + 1 + 1, 6, none⟩) hs2).trans p6
  have f7 := (hb2.frozen (p := ⟨w.heap.size + 1 + 1, 7, none⟩) hs2).trans p7
  have f8 := (hb2.frozen (p := ⟨w.heap.size + 1 + 1, 8, none⟩) hs2).trans p8
  have r0 := (hb2.cell (p := ⟨w.heap.size + 1, 0, none⟩) (by simp; omega)).trans q0
  have r1 := (hb2.cell (p := ⟨w.heap.size + 1, 1, none⟩) (by simp; omega)).trans q1
  have r2 := (hb2.cell (p := ⟨w.heap.size + 1, 2, none⟩) (by simp; omega)).trans q2
  have r3 := (hb2.cell (p := ⟨w.heap.size + 1, 3, none⟩) (by simp; omega)).trans q3
  have r4 := (hb2.cell (p := ⟨w.heap.size + 1, 4, none⟩) (by simp; omega)).trans q4
  have r5 := (hb2.cell (p := ⟨w.heap.size + 1, 5, none⟩) (by simp; omega)).trans q5
  have r6 := (hb2.cell (p := ⟨w.heap.size + 1, 6, none⟩) (by simp; omega)).trans q6
  have r7 := (hb2.cell (p := ⟨w.heap.size + 1, 7, none⟩) (by simp; omega)).trans q7
  have r8 := (hb2.cell (p := ⟨w.heap.size + 1, 8, none⟩) (by simp; omega)).trans q8
  have s0 := (hb2.frozen (p := ⟨w.heap.size + 1, 0, none⟩) (by simp; omega)).trans t0
  have s1 := (hb2.frozen (p := ⟨w.heap.size + 1, 1, none⟩) (by simp; omega)).trans t1
  have s2 := (hb2.frozen (p := ⟨w.heap.size + 1, 2, none⟩) (by simp; omega)).trans t2
  have s3 := (hb2.frozen (p := ⟨w.heap.size + 1, 3, none⟩) (by simp; omega)).trans t3
  have s4 := (hb2.frozen (p := ⟨w.heap.size + 1, 4, none⟩) (by simp; omega)).trans t4
  have s5 := (hb2.frozen (p := ⟨w.heap.size + 1, 5, none⟩) (by simp; omega)).trans t5
  have s6 := (hb2.frozen (p := ⟨w.heap.size + 1, 6, none⟩) (by simp; omega)).trans t6
  have s7 := (hb2.frozen (p := ⟨w.heap.size + 1, 7, none⟩) (by simp; omega)).trans t7
  have s8 := (hb2.frozen (p := ⟨w.heap.size + 1, 8, none⟩) (by simp; omega)).trans t8
  have bw2 : Below w.heap.size w w2 := bW2.trans (hb2.mono bW2.size)
  have HI3 : Hid (Row w2 g1 (d.trust.flatMap intCells)) := Lib.hid (HI2.out.below hb2 hlt2)
  have hlt4 : g1 < w2.heap.size := Nat.lt_of_lt_of_le hlt2 hb2.size
  have HE := Lib.hid hE
  have HB2 := Lib.hid bw2
  have hne2 : w.heap.size + 1 + 1 < g2 := by omega
  clear hb2 bW2 bw2 hE HI2 y6 y7 y8 m0 q0 t0 m1 q1 t1 m2 q2 t2 m3 q3 t3 m4 q4 t4 m5 q5 t5 m6 q6 t6 m7 q7 t7 m8 q8 t8 p5 p6 p7 p8
  go_wp2
  have hres : ∀ (a : Act) (w' : World), a.tmps[2]? = some (.pointer (some ⟨w.heap.size + 1, 0, none⟩)) → w'.cell? ⟨w.heap.size + 1, 0, none⟩ = some (.int .i64 d.kind) → w'.cell? ⟨w.heap.size + 1, 1, none⟩ = some (.int .i64 d.member) → w'.cell? ⟨w.heap.size + 1, 2, none⟩ = some (.slice (some ⟨g1, 0, none⟩) d.trust.length d1) → w'.cell? ⟨w.heap.size + 1, 3, none⟩ = some (.string d.title) → w'.cell? ⟨w.heap.size + 1, 4, none⟩ = some (.int .i64 d.vote) → w'.cell? ⟨w.heap.size + 1, 5, none⟩ = some (.slice (some ⟨g2, 0, none⟩) d.patch.length d2) → w'.cell? ⟨w.heap.size + 1, 6, none⟩ = some (.int .i64 d.start) → w'.cell? ⟨w.heap.size + 1, 7, none⟩ = some (.int .i64 d.until_) → w'.cell? ⟨w.heap.size + 1, 8, none⟩ = some (.int .i64 d.closes) → (results Tryd.f8 a.tmps).run Tryd.prog w' = .ok (.agg #[.int .i64 d.kind, .int .i64 d.member, .slice (some ⟨g1, 0, none⟩) d.trust.length d1, .string d.title, .int .i64 d.vote, .slice (some ⟨g2, 0, none⟩) d.patch.length d2, .int .i64 d.start, .int .i64 d.until_, .int .i64 d.closes]) w' := by
    intro a w' ha hh0 hh1 hh2 hh3 hh4 hh5 hh6 hh7 hh8
    simp [results, Tryd.results8, go_sem, ha, hh0, hh1, hh2, hh3, hh4, hh5, hh6, hh7, hh8]
  refine bodyPost_ret (hres _ _ rfl (by simp [go_sem, r0]) (by simp [go_sem, r1]) (by simp [go_sem, r2]) (by simp [go_sem, r3]) (by simp [go_sem, r4]) (by simp [go_sem, r5]) (by simp [go_sem, r6]) (by simp [go_sem, r7]) (by simp [go_sem, r8])) rfl ?_
  refine ⟨g1, d1, g2, d2, rfl, hle1, hm1, hle2, hm2, by omega, by omega, by simpa using hlt3, ?_, ?_, ?_⟩
  · iterate 13 refine Row.far ?_ _ (by simp; omega)
    exact HI3.out
  · iterate 13 refine Row.far ?_ _ (by simp; omega)
    exact HE.out
  · iterate 13 refine Below.setCell ?_ (by first | (simp; done) | (simp; omega)) _
    exact HB2.out
end Go.Proofs.YtedglaejieblhaaDoor

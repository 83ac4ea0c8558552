/- The reference's reader of a deed, walked. -/
import Derived.Test.YthlfpiflegfoiaaGreatDoorRCp
import Derived.Test.YthlfpiflegfoiaaGreatDoorRg
import Derived.Test.YthlfpiflegfoiaaGreatDoorLawQ
namespace Go.Proofs.YthlfpiflegfoiaaGreatDoor
open Go.RowKit Go.Lib

def deedCs (d : Deed) (A1 : Option Addr) (c1 : Nat) (A2 : Option Addr) (c2 : Nat) : List Value :=
  [.int .i64 d.kind, .int .i64 d.member, .slice A1 d.trust.length c1, .string d.title, .int .i64 d.vote, .slice A2 d.patch.length c2, .int .i64 d.start, .int .i64 d.until_, .int .i64 d.closes]
def deedV (d : Deed) (A1 : Option Addr) (c1 : Nat) (A2 : Option Addr) (c2 : Nat) : Value :=
  .agg #[.int .i64 d.kind, .int .i64 d.member, .slice A1 d.trust.length c1, .string d.title, .int .i64 d.vote, .slice A2 d.patch.length c2, .int .i64 d.start, .int .i64 d.until_, .int .i64 d.closes]
def DeedPost (s : List UInt8) (w : World) (e : Ending) (w' : World) : Prop :=
  ∃ A1 c1 A2 c2, e = .returned (.tuple #[deedV ((deedOf s).getD zeroDeed) A1 c1 A2 c2, .bool (deedOf s).isSome]) ∧ OwnL intCells ((deedOf s).getD zeroDeed).trust w.heap.size w' (.slice A1 ((deedOf s).getD zeroDeed).trust.length c1) ∧ OwnL editCells ((deedOf s).getD zeroDeed).patch w.heap.size w' (.slice A2 ((deedOf s).getD zeroDeed).patch.length c2) ∧ Below w.heap.size w w'

theorem OwnL.set {α : Type} {f : α → List Value} {xs : List α} {base : Nat} {w : World} {v : Value} (h : OwnL f xs base w v) {p : Addr} (u : Value) (hp : p.block < base) : OwnL f xs base (w.setCell p u) v := by
  obtain ⟨A, c, rfl, h1, h2, h3⟩ := h
  refine ⟨A, c, rfl, h1, h2, fun h0 => ?_⟩
  obtain ⟨g, e, hg, hlt, hr⟩ := h3 h0
  exact ⟨g, e, hg, by simpa using hlt, hr.far u (by omega)⟩

/-- The state of a reader of deeds: the result's block, the deed's block. -/
structure St (w V : World) (L : List Value) : Prop where
  row : Row V (w.heap.size + 1) L
  res : Row V w.heap.size (deedCs zeroDeed none 0 none 0)
  bel : Below w.heap.size w V
  siz : w.heap.size + 1 < V.heap.size
theorem St.set {w V : World} {L : List Value} (h : St w V L) (k : Nat) (u : Value) (hk : k < L.length) : St w (V.setCell ⟨w.heap.size + 1, k, none⟩ u) (L.set k u) :=
  ⟨h.row.set k u hk, h.res.far u (by simp), h.bel.setCell (by simp) _, by simpa using h.siz⟩
theorem St.below {w V V' : World} {L : List Value} (h : St w V L) (hb : Below V.heap.size V V') : St w V' L :=
  ⟨h.row.below hb h.siz, h.res.below hb (Nat.lt_of_succ_lt h.siz), h.bel.trans (hb.mono h.bel.size), Nat.lt_of_lt_of_le h.siz hb.size⟩
theorem St.drew {w V : World} {L : List Value} (h : St w V L) (n : Nat) : St w (V.drewN n) L := h.below (below_drewN (Below.refl _ _) n)
theorem St.deed {w V : World} {d : Deed} {A1 : Option Addr} {c1 : Nat} {A2 : Option Addr} {c2 : Nat} (h : St w V (deedCs d A1 c1 A2 c2)) (h1 : Ints V V.heap.size (.slice A1 d.trust.length c1) d.trust) (h2 : Edits V V.heap.size (.slice A2 d.patch.length c2) d.patch) (h3 : SizesOk d.patch) (h4 : d.title.size ≤ maxLen) : DeedP V (w.heap.size + 1) 0 d A1 c1 A2 c2 :=
  ⟨h.row.cell 0 _ rfl, h.row.cell 1 _ rfl, h.row.cell 2 _ rfl, h.row.cell 3 _ rfl, h.row.cell 4 _ rfl, h.row.cell 5 _ rfl, h.row.cell 6 _ rfl, h.row.cell 7 _ rfl, h.row.cell 8 _ rfl, h1, h2, h3, h4⟩
theorem St.drew' {w V V' : World} {L : List Value} {n : Nat} (h : St w V L) (hw : V' = V.drewN n) : St w V' L := hw ▸ h.drew n
theorem St.alloc' {w V V' : World} {L : List Value} {o : Obj} (h : St w V L) (hw : V' = V.alloc o) : St w V' L := hw ▸ h.below ((Below.refl _ _).alloc (Nat.le_refl _) _)
theorem St.own {w V : World} {L : List Value} (h : St w V L) : w.heap.size + 2 ≤ V.heap.size := h.siz

theorem res_l11 (a : Act) (w' : World) (g : Nat) (v0 v1 v2 v3 v4 v5 v6 v7 v8 : Value) (b : Bool) (ha : a.tmps[2]? = some (.pointer (some ⟨g, 0, none⟩))) (hb : a.tmps[3]? = some (.bool b)) (c0 : w'.cell? ⟨g, 0, none⟩ = some v0) (c1 : w'.cell? ⟨g, 1, none⟩ = some v1) (c2 : w'.cell? ⟨g, 2, none⟩ = some v2) (c3 : w'.cell? ⟨g, 3, none⟩ = some v3) (c4 : w'.cell? ⟨g, 4, none⟩ = some v4) (c5 : w'.cell? ⟨g, 5, none⟩ = some v5) (c6 : w'.cell? ⟨g, 6, none⟩ = some v6) (c7 : w'.cell? ⟨g, 7, none⟩ = some v7) (c8 : w'.cell? ⟨g, 8, none⟩ = some v8) :
    (results Tryz.f33 a.tmps).run Tryz.prog w' = .ok (.tuple #[.agg #[v0, v1, v2, v3, v4, v5, v6, v7, v8], .bool b]) w' := by
  simp [results, Tryz.results33, go_sem, ha, hb, c0, c1, c2, c3, c4, c5, c6, c7, c8]


theorem St.start (w : World) (m : Nat) : St w (((w.alloc (.cells #[.int .i64 0, .int .i64 0, .slice none 0 0, .string ⟨#[]⟩, .int .i64 0, .slice none 0 0, .int .i64 0, .int .i64 0, .int .i64 0] 39)).drewN m).alloc (.cells #[.int .i64 0, .int .i64 0, .slice none 0 0, .string ⟨#[]⟩, .int .i64 0, .slice none 0 0, .int .i64 0, .int .i64 0, .int .i64 0] 39)) (deedCs zeroDeed none 0 none 0) := by
  have b1 : Below w.heap.size w ((w.alloc (.cells #[.int .i64 0, .int .i64 0, .slice none 0 0, .string ⟨#[]⟩, .int .i64 0, .slice none 0 0, .int .i64 0, .int .i64 0, .int .i64 0] 39)).drewN m) := below_drewN ((Below.refl _ _).alloc (Nat.le_refl _) _) m
  have hs : ((w.alloc (.cells #[.int .i64 0, .int .i64 0, .slice none 0 0, .string ⟨#[]⟩, .int .i64 0, .slice none 0 0, .int .i64 0, .int .i64 0, .int .i64 0] 39)).drewN m).heap.size = w.heap.size + 1 := by simp
  have hx : w.heap.size < (w.alloc (.cells #[.int .i64 0, .int .i64 0, .slice none 0 0, .string ⟨#[]⟩, .int .i64 0, .slice none 0 0, .int .i64 0, .int .i64 0, .int .i64 0] 39)).heap.size := by simp
  have r0 := (Row.new w #[.int .i64 0, .int .i64 0, .slice none 0 0, .string ⟨#[]⟩, .int .i64 0, .slice none 0 0, .int .i64 0, .int .i64 0, .int .i64 0] 39).below (below_drewN (Below.refl _ _) m) hx
  have r1 := Row.new ((w.alloc (.cells #[.int .i64 0, .int .i64 0, .slice none 0 0, .string ⟨#[]⟩, .int .i64 0, .slice none 0 0, .int .i64 0, .int .i64 0, .int .i64 0] 39)).drewN m) #[.int .i64 0, .int .i64 0, .slice none 0 0, .string ⟨#[]⟩, .int .i64 0, .slice none 0 0, .int .i64 0, .int .i64 0, .int .i64 0] 39
  rw [hs] at r1
  exact ⟨r1, r0.below ((Below.refl _ _).alloc (Nat.le_refl _) _) (by rw [hs]; omega), b1.alloc b1.size _, by simp⟩

structure Cand (s : List UInt8) (w V : World) (d : Deed) (A1 : Option Addr) (c1 : Nat) (A2 : Option Addr) (c2 : Nat) : Prop where
  st : St w V (deedCs d A1 c1 A2 c2)
  o1 : OwnL intCells d.trust (w.heap.size + 2) V (.slice A1 d.trust.length c1)
  o2 : OwnL editCells d.patch (w.heap.size + 2) V (.slice A2 d.patch.length c2)
  sz : SizesOk d.patch
  ti : d.title.size ≤ maxLen
  un : ∀ q, okDeed q = true → deedText q = s → d = q
theorem Cand.deed {s : List UInt8} {w V : World} {d : Deed} {A1 : Option Addr} {c1 : Nat} {A2 : Option Addr} {c2 : Nat} (h : Cand s w V d A1 c1 A2 c2) : DeedP V (w.heap.size + 1) 0 d A1 c1 A2 c2 :=
  h.st.deed (h.o1.slR (size := 1) fun _ => rfl) (h.o2.slR (size := 4) fun _ => rfl) h.sz h.ti

set_option maxRecDepth 100000 in
set_option maxHeartbeats 1000000 in
theorem readDeed1_trust (s : ByteArray) (w : World) (hs : s.size ≤ 1048576) (hw : (cutL 32 s.data.toList).1 = [116, 114, 117, 115, 116]) :
    Calls Tryz.prog 33 #[.string s] w (DeedPost s.data.toList w) := by
  have HU0 : Hid (∀ q, okDeed q = true → deedText q = s.data.toList → cand1 s.data.toList = q) := Lib.hid (fun q h e => cand1_of h e)
  have HCD : Hid (cand1 s.data.toList = ⟨1, num1 (cutL 32 (cutL 32 s.data.toList).2).1, (numL (-999999999) 999999999 (splitC 44 (cutL 32 (cutL 32 s.data.toList).2).2)).getD [], ⟨#[]⟩, 0, [], 0, 0, 0⟩) := Lib.hid (by unfold cand1; dsimp only; rw [if_pos hw])
  have hl0 := cutL_len 32 s.data.toList
  have hsz : s.data.toList.length = s.size := by simp
  have HC := Lib.hid (fun W => cut1_any 32 32 rfl s W hs)
  generalize cutL 32 s.data.toList = p at *
  obtain ⟨wd, rest⟩ := p
  simp only at hw hl0 HCD HC
  subst hw
  have hr : (⟨rest.toArray⟩ : ByteArray).size ≤ 1048576 := by rw [mk_size]; omega
  have HC2 : Hid (∀ W, Calls Tryz.prog 32 #[.string ⟨rest.toArray⟩, .int .u8 32] W (RetQ (.tuple #[.string ⟨(cutL 32 rest).1.toArray⟩, .string ⟨(cutL 32 rest).2.toArray⟩]) W)) := Lib.hid (fun W => cut1_any 32 32 rfl ⟨rest.toArray⟩ W hr)
  have hl1 := cutL_len 32 rest
  generalize cutL 32 rest = ab at *
  obtain ⟨a, b⟩ := ab
  simp only at hl1 HCD HC2
  have HA : Hid (∀ W, Calls Tryz.prog 49 #[.string ⟨a.toArray⟩] W (RetB (.tuple #[.int .i64 (num1 a), .bool (numOf (-999999999) 999999999 a).isSome]) W)) := Lib.hid (fun W => read1_any ⟨a.toArray⟩ W (by rw [mk_size]; omega))
  have HLI : Hid (∀ W, Calls Tryz.prog 50 #[.string ⟨b.toArray⟩] W (RetOwn intCells ((numL (-999999999) 999999999 (splitC 44 b)).getD []) W)) := Lib.hid (fun W => list1_any ⟨b.toArray⟩ W (by rw [mk_size]; omega))
  generalize num1 a = mem at *
  generalize (numOf (-999999999) 999999999 a).isSome = mok at *
  generalize (numL (-999999999) 999999999 (splitC 44 b)).getD [] = zs at *
  have HU : Hid (∀ q, okDeed q = true → deedText q = s.data.toList → (⟨1, mem, zs, ⟨#[]⟩, 0, [], 0, 0, 0⟩ : Deed) = q) := Lib.hid (fun q h e => by rw [← HCD.out]; exact HU0.out q h e)
  clear HU0 HCD hl0 hl1 hr hsz
  go_enter Tryz.func33, Tryz.ntmps33
  go_wp2_with (fail)
  refine (HC.out _).mono ?_
  rintro e w1 ⟨rfl, m1, rfl⟩
  go_wp2_with (fail)
  obtain ⟨V0, S0, hV0⟩ : ∃ V0, St w V0 (deedCs zeroDeed none 0 none 0) ∧ (((w.alloc (.cells #[.int .i64 0, .int .i64 0, .slice none 0 0, .string ⟨#[]⟩, .int .i64 0, .slice none 0 0, .int .i64 0, .int .i64 0, .int .i64 0] 39)).drewN m1).alloc (.cells #[.int .i64 0, .int .i64 0, .slice none 0 0, .string ⟨#[]⟩, .int .i64 0, .slice none 0 0, .int .i64 0, .int .i64 0, .int .i64 0] 39)) = V0 := ⟨_, St.start w m1, rfl⟩
  rw [hV0]
  clear hV0
  refine (HC2.out _).mono ?_
  rintro e w2 ⟨rfl, m2, rfl⟩
  have S1 := S0.drew m2
  have p0 : (V0.drewN m2).cell? ⟨w.heap.size + 1, 0, none⟩ = some (.int .i64 0) := S1.row.cell 0 _ rfl
  have q0 : (V0.drewN m2).frozen? ⟨w.heap.size + 1, 0, none⟩ = false := S1.row.free 0 (by simp [deedCs])
  go_wp2_with (fail)
  refine (HA.out _).mono ?_
  rintro e w3 ⟨rfl, hb3⟩
  have S2 : St w w3 _ := (S1.set 0 (.int .i64 1) (by simp [deedCs])).below hb3
  clear p0 q0 S0 S1 hb3
  have p1 : w3.cell? ⟨w.heap.size + 1, 1, none⟩ = some (.int .i64 0) := S2.row.cell 1 _ rfl
  have q1 : w3.frozen? ⟨w.heap.size + 1, 1, none⟩ = false := S2.row.free 1 (by simp [deedCs])
  go_wp2_with (fail)
  refine (HLI.out _).mono ?_
  rintro e w4 ⟨v, rfl, hO, hb4⟩
  have S2' := S2.set 1 (.int .i64 mem) (by simp [deedCs])
  have S3 : St w w4 _ := S2'.below hb4
  have HO4 := Lib.hid (hO.less S2'.own)
  clear p1 q1 S2 S2' hb4 hO
  have p2 : w4.cell? ⟨w.heap.size + 1, 2, none⟩ = some (.slice none 0 0) := S3.row.cell 2 _ rfl
  have q2 : w4.frozen? ⟨w.heap.size + 1, 2, none⟩ = false := S3.row.free 2 (by simp [deedCs])
  obtain ⟨T1, t1, rfl, _⟩ := HO4.out
  have HC3 : Hid (Cand s.data.toList w (w4.setCell ⟨w.heap.size + 1, 2, none⟩ (.slice T1 zs.length t1)) ⟨1, mem, zs, ⟨#[]⟩, 0, [], 0, 0, 0⟩ T1 t1 none 0) := Lib.hid ⟨S3.set 2 _ (by simp [deedCs]), HO4.out.set _ (by simp), OwnL.nil _ _ _, fun e he => (by cases he), Nat.zero_le _, HU.out⟩
  clear HO4 S3 HU
  go_wp2_with (fail)
  obtain ⟨d, A1, c1, A2, c2, V, hC, hV⟩ : ∃ d A1 c1 A2 c2 V, Cand s.data.toList w V d A1 c1 A2 c2 ∧ w4.setCell ⟨w.heap.size + 1, 2, none⟩ (.slice T1 zs.length t1) = V := ⟨_, _, _, _, _, _, HC3.out, rfl⟩
  rw [hV]
  clear hV
  have HDP := Lib.hid hC.deed
  have HS := Lib.hid hC.st
  have HU := Lib.hid hC.un
  have HO := Lib.hid (And.intro hC.o1 hC.o2)
  clear hC
  cases hok : okDeed d with
  | false =>
    have HN : Hid (deedOf s.data.toList = none) := Lib.hid (inv_no HU.out (by rw [hok]; simp))
    have HD1 := deed1_any d (w.heap.size + 1) 0 A1 c1 A2 c2 V HDP.out
    rw [hok] at HD1
    clear hok
    refine HD1.mono ?_
    rintro e V1 ⟨rfl, hb1⟩
    have S1 := HS.out.below hb1
    clear hb1 HD1
    have z0 : V1.cell? ⟨w.heap.size, 0, none⟩ = some (.int .i64 0) := S1.res.cell 0 _ rfl
    have z1 : V1.cell? ⟨w.heap.size, 1, none⟩ = some (.int .i64 0) := S1.res.cell 1 _ rfl
    have z2 : V1.cell? ⟨w.heap.size, 2, none⟩ = some (.slice none 0 0) := S1.res.cell 2 _ rfl
    have z3 : V1.cell? ⟨w.heap.size, 3, none⟩ = some (.string ⟨#[]⟩) := S1.res.cell 3 _ rfl
    have z4 : V1.cell? ⟨w.heap.size, 4, none⟩ = some (.int .i64 0) := S1.res.cell 4 _ rfl
    have z5 : V1.cell? ⟨w.heap.size, 5, none⟩ = some (.slice none 0 0) := S1.res.cell 5 _ rfl
    have z6 : V1.cell? ⟨w.heap.size, 6, none⟩ = some (.int .i64 0) := S1.res.cell 6 _ rfl
    have z7 : V1.cell? ⟨w.heap.size, 7, none⟩ = some (.int .i64 0) := S1.res.cell 7 _ rfl
    have z8 : V1.cell? ⟨w.heap.size, 8, none⟩ = some (.int .i64 0) := S1.res.cell 8 _ rfl
    have f0 : V1.frozen? ⟨w.heap.size, 0, none⟩ = false := S1.res.free 0 (by decide)
    have f1 : V1.frozen? ⟨w.heap.size, 1, none⟩ = false := S1.res.free 1 (by decide)
    have f2 : V1.frozen? ⟨w.heap.size, 2, none⟩ = false := S1.res.free 2 (by decide)
    have f3 : V1.frozen? ⟨w.heap.size, 3, none⟩ = false := S1.res.free 3 (by decide)
    have f4 : V1.frozen? ⟨w.heap.size, 4, none⟩ = false := S1.res.free 4 (by decide)
    have f5 : V1.frozen? ⟨w.heap.size, 5, none⟩ = false := S1.res.free 5 (by decide)
    have f6 : V1.frozen? ⟨w.heap.size, 6, none⟩ = false := S1.res.free 6 (by decide)
    have f7 : V1.frozen? ⟨w.heap.size, 7, none⟩ = false := S1.res.free 7 (by decide)
    have f8 : V1.frozen? ⟨w.heap.size, 8, none⟩ = false := S1.res.free 8 (by decide)
    go_wp2
    refine bodyPost_ret (v := .tuple #[.agg #[.int .i64 0, .int .i64 0, .slice none 0 0, .string ⟨#[]⟩, .int .i64 0, .slice none 0 0, .int .i64 0, .int .i64 0, .int .i64 0], .bool false]) ?hr rfl ?_
    case hr => exact (res_l11 _ _ w.heap.size (.int .i64 0) (.int .i64 0) (.slice none 0 0) (.string ⟨#[]⟩) (.int .i64 0) (.slice none 0 0) (.int .i64 0) (.int .i64 0) (.int .i64 0) false (by kernel_rfl) (by kernel_rfl) (by simp [go_sem, z0]) (by simp [go_sem, z1]) (by simp [go_sem, z2]) (by simp [go_sem, z3]) (by simp [go_sem, z4]) (by simp [go_sem, z5]) (by simp [go_sem, z6]) (by simp [go_sem, z7]) (by simp [go_sem, z8]))
    refine ⟨none, 0, none, 0, by rw [HN.out]; rfl, by rw [HN.out]; exact OwnL.nil _ _ _, by rw [HN.out]; exact OwnL.nil _ _ _, ?_⟩
    iterate 9 refine Below.setCell ?_ (by simp) _
    exact S1.bel
  | true =>
    have HD1 := deed1_any d (w.heap.size + 1) 0 A1 c1 A2 c2 V HDP.out
    rw [hok] at HD1
    have HOK := Lib.hid hok
    clear hok
    refine HD1.mono ?_
    rintro e V1 ⟨rfl, hb1⟩
    have S1 := HS.out.below hb1
    have HB1 := Lib.hid hb1
    have HTX := Lib.hid (text1_any d (w.heap.size + 1) 0 A1 c1 A2 c2 V1 (HDP.out.aft ⟨V1, hb1⟩) HOK.out)
    clear hb1 HD1
    go_wp2_with (fail)
    refine HTX.out.mono ?_
    rintro e V2 ⟨rfl, hb2⟩
    have S2 := S1.below hb2
    have HB2 := Lib.hid hb2
    clear hb2 S1
    have z0 : V2.cell? ⟨w.heap.size, 0, none⟩ = some (.int .i64 0) := S2.res.cell 0 _ rfl
    have z1 : V2.cell? ⟨w.heap.size, 1, none⟩ = some (.int .i64 0) := S2.res.cell 1 _ rfl
    have z2 : V2.cell? ⟨w.heap.size, 2, none⟩ = some (.slice none 0 0) := S2.res.cell 2 _ rfl
    have z3 : V2.cell? ⟨w.heap.size, 3, none⟩ = some (.string ⟨#[]⟩) := S2.res.cell 3 _ rfl
    have z4 : V2.cell? ⟨w.heap.size, 4, none⟩ = some (.int .i64 0) := S2.res.cell 4 _ rfl
    have z5 : V2.cell? ⟨w.heap.size, 5, none⟩ = some (.slice none 0 0) := S2.res.cell 5 _ rfl
    have z6 : V2.cell? ⟨w.heap.size, 6, none⟩ = some (.int .i64 0) := S2.res.cell 6 _ rfl
    have z7 : V2.cell? ⟨w.heap.size, 7, none⟩ = some (.int .i64 0) := S2.res.cell 7 _ rfl
    have z8 : V2.cell? ⟨w.heap.size, 8, none⟩ = some (.int .i64 0) := S2.res.cell 8 _ rfl
    have f0 : V2.frozen? ⟨w.heap.size, 0, none⟩ = false := S2.res.free 0 (by decide)
    have f1 : V2.frozen? ⟨w.heap.size, 1, none⟩ = false := S2.res.free 1 (by decide)
    have f2 : V2.frozen? ⟨w.heap.size, 2, none⟩ = false := S2.res.free 2 (by decide)
    have f3 : V2.frozen? ⟨w.heap.size, 3, none⟩ = false := S2.res.free 3 (by decide)
    have f4 : V2.frozen? ⟨w.heap.size, 4, none⟩ = false := S2.res.free 4 (by decide)
    have f5 : V2.frozen? ⟨w.heap.size, 5, none⟩ = false := S2.res.free 5 (by decide)
    have f6 : V2.frozen? ⟨w.heap.size, 6, none⟩ = false := S2.res.free 6 (by decide)
    have f7 : V2.frozen? ⟨w.heap.size, 7, none⟩ = false := S2.res.free 7 (by decide)
    have f8 : V2.frozen? ⟨w.heap.size, 8, none⟩ = false := S2.res.free 8 (by decide)
    by_cases heq : deedText d = s.data.toList
    · have hs1 : (deedText d == s.toList) = true := by rw [ByteArray.toList_eq, heq]; simp
      have HN : Hid (deedOf s.data.toList = some d) := Lib.hid (inv_of HU.out HOK.out heq)
      clear heq
      have y0 : V2.cell? ⟨w.heap.size + 1, 0, none⟩ = some (.int .i64 d.kind) := S2.row.cell 0 _ rfl
      have y1 : V2.cell? ⟨w.heap.size + 1, 1, none⟩ = some (.int .i64 d.member) := S2.row.cell 1 _ rfl
      have y2 : V2.cell? ⟨w.heap.size + 1, 2, none⟩ = some (.slice A1 d.trust.length c1) := S2.row.cell 2 _ rfl
      have y3 : V2.cell? ⟨w.heap.size + 1, 3, none⟩ = some (.string d.title) := S2.row.cell 3 _ rfl
      have y4 : V2.cell? ⟨w.heap.size + 1, 4, none⟩ = some (.int .i64 d.vote) := S2.row.cell 4 _ rfl
      have y5 : V2.cell? ⟨w.heap.size + 1, 5, none⟩ = some (.slice A2 d.patch.length c2) := S2.row.cell 5 _ rfl
      have y6 : V2.cell? ⟨w.heap.size + 1, 6, none⟩ = some (.int .i64 d.start) := S2.row.cell 6 _ rfl
      have y7 : V2.cell? ⟨w.heap.size + 1, 7, none⟩ = some (.int .i64 d.until_) := S2.row.cell 7 _ rfl
      have y8 : V2.cell? ⟨w.heap.size + 1, 8, none⟩ = some (.int .i64 d.closes) := S2.row.cell 8 _ rfl
      obtain ⟨o1, o2⟩ := HO.out
      have HO1 := Lib.hid ((o1.on HB1.out).on HB2.out)
      have HO2 := Lib.hid ((o2.on HB1.out).on HB2.out)
      have HBB := Lib.hid S2.bel
      clear o1 o2 S2
      go_wp2
      refine bodyPost_ret (v := .tuple #[deedV d A1 c1 A2 c2, .bool true]) ?hr rfl ?_
      case hr => exact (res_l11 _ _ w.heap.size (.int .i64 d.kind) (.int .i64 d.member) (.slice A1 d.trust.length c1) (.string d.title) (.int .i64 d.vote) (.slice A2 d.patch.length c2) (.int .i64 d.start) (.int .i64 d.until_) (.int .i64 d.closes) true (by kernel_rfl) (by kernel_rfl) (by simp [go_sem, z0]) (by simp [go_sem, z1]) (by simp [go_sem, z2]) (by simp [go_sem, z3]) (by simp [go_sem, z4]) (by simp [go_sem, z5]) (by simp [go_sem, z6]) (by simp [go_sem, z7]) (by simp [go_sem, z8]))
      refine ⟨A1, c1, A2, c2, by rw [HN.out]; rfl, ?_, ?_, ?_⟩
      · rw [HN.out]
        refine OwnL.less (base := w.heap.size + 2) ?_ (by omega)
        iterate 9 refine OwnL.set ?_ _ (by simp)
        exact HO1.out
      · rw [HN.out]
        refine OwnL.less (base := w.heap.size + 2) ?_ (by omega)
        iterate 9 refine OwnL.set ?_ _ (by simp)
        exact HO2.out
      · iterate 9 refine Below.setCell ?_ (by simp) _
        exact HBB.out
    · have hs1 : (deedText d == s.toList) = false := by rw [ByteArray.toList_eq]; simpa using heq
      have HN : Hid (deedOf s.data.toList = none) := Lib.hid (inv_no HU.out (fun h => heq h.2))
      clear heq
      go_wp2
      refine bodyPost_ret (v := .tuple #[.agg #[.int .i64 0, .int .i64 0, .slice none 0 0, .string ⟨#[]⟩, .int .i64 0, .slice none 0 0, .int .i64 0, .int .i64 0, .int .i64 0], .bool false]) ?hr rfl ?_
      case hr => exact (res_l11 _ _ w.heap.size (.int .i64 0) (.int .i64 0) (.slice none 0 0) (.string ⟨#[]⟩) (.int .i64 0) (.slice none 0 0) (.int .i64 0) (.int .i64 0) (.int .i64 0) false (by kernel_rfl) (by kernel_rfl) (by simp [go_sem, z0]) (by simp [go_sem, z1]) (by simp [go_sem, z2]) (by simp [go_sem, z3]) (by simp [go_sem, z4]) (by simp [go_sem, z5]) (by simp [go_sem, z6]) (by simp [go_sem, z7]) (by simp [go_sem, z8]))
      refine ⟨none, 0, none, 0, by rw [HN.out]; rfl, by rw [HN.out]; exact OwnL.nil _ _ _, by rw [HN.out]; exact OwnL.nil _ _ _, ?_⟩
      iterate 9 refine Below.setCell ?_ (by simp) _
      exact S2.bel
end Go.Proofs.YthlfpiflegfoiaaGreatDoor

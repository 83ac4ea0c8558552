/- Marks in a deed, walked. -/
import Derived.Test.YtedglaejieblhaaGreatDoorMl
namespace Go.Proofs.YtedglaejieblhaaGreatDoor
open Go.RowKit Go.Lib

theorem grown_below {w w' : World} (h : w.grownBy w' none) : Below w.heap.size w w' := ⟨h.os, h.tape, h.output, h.size, fun k hk => h.block k hk (by simp)⟩
theorem OwnL.nilS {α : Type} (f : α → List Value) (base : Nat) (w : World) (A : Option Addr) {c : Nat} (hc : c ≤ maxLen) : OwnL f ([] : List α) base w (.slice A 0 c) := ⟨A, c, rfl, Nat.zero_le _, hc, fun h => absurd rfl h⟩
theorem OwnL.cap {α : Type} {f : α → List Value} {xs : List α} {base : Nat} {w : World} {A : Option Addr} {n c : Nat} (h : OwnL f xs base w (.slice A n c)) : n = xs.length ∧ c ≤ maxLen := by
  obtain ⟨A', c', hv, h1, h2, _⟩ := h
  injection hv with e1 e2 e3
  subst e1 e2 e3
  exact ⟨rfl, h2⟩
/-- A row's block lies below 'top'. -/
def Under {α : Type} (xs : List α) (A : Option Addr) (top : Nat) : Prop := xs ≠ [] → ∃ g, A = some ⟨g, 0, none⟩ ∧ g < top
theorem OwnL.under {α : Type} {f : α → List Value} {xs : List α} {base : Nat} {w : World} {A : Option Addr} {n c : Nat} (h : OwnL f xs base w (.slice A n c)) : Under xs A w.heap.size := fun h0 => by
  obtain ⟨A', c', hv, _, _, h3⟩ := h
  injection hv with e1 e2 e3
  subst e1
  obtain ⟨g, e, _, hlt, _⟩ := h3 h0
  exact ⟨g, e, hlt⟩
/-- The block that a mark may change. -/
def rowOf (n : Nat) (A : Option Addr) : Option Nat := if n = 0 then none else A.map (·.block)
theorem rowOf_eq {α : Type} (xs : List α) (A : Option Addr) (c : Nat) : (if xs.length = 0 then none else (Value.slice A xs.length c).ownBlock) = rowOf xs.length A := by
  unfold rowOf
  cases A <;> rfl
def MarkedD (d : Deed) (A1 : Option Addr) (c1 : Nat) (A2 : Option Addr) (c2 : Nat) (base top k : Nat) (w : World) (e : Ending) (w' : World) : Prop :=
  e = .returned (.int .i64 ((k + d.trust.length + 4 * d.patch.length : Nat) : Int)) ∧ OwnL intCells (seqI k d.trust.length) base w' (.slice A1 d.trust.length c1) ∧ OwnL editCells (medits (k + d.trust.length) d.patch.length) base w' (.slice A2 d.patch.length c2) ∧ Below base w w' ∧ ∀ b, top ≤ b → b < w.heap.size → w'.heap[b]? = w.heap[b]?

set_option maxHeartbeats 2000000 in
theorem markDeed_any (d : Deed) (A1 : Option Addr) (c1 : Nat) (A2 : Option Addr) (c2 : Nat) (base top k : Nat) (w : World) (h1 : OwnL intCells d.trust base w (.slice A1 d.trust.length c1)) (h2 : OwnL editCells d.patch base w (.slice A2 d.patch.length c2)) (hx : d.trust = [] ∨ d.patch = []) (u1 : Under d.trust A1 top) (u2 : Under d.patch A2 top) (ht : top ≤ w.heap.size) (hb : base ≤ w.heap.size) (hk0 : 0 < k) (hk : k ≤ 1048576) (n1 : d.trust.length ≤ 1048576) (n2 : d.patch.length ≤ 1048576) :
    Calls Tryz.prog 12 #[.agg #[.int .i64 d.kind, .int .i64 d.member, .slice A1 d.trust.length c1, .string d.title, .int .i64 d.vote, .slice A2 d.patch.length c2, .int .i64 d.start, .int .i64 d.until_, .int .i64 d.closes], .int .i64 (k : Int)] w (MarkedD d A1 c1 A2 c2 base top k w) := by
  obtain ⟨W, hW⟩ : ∃ W : World, W = w.alloc (.cells #[.int .i64 d.kind, .int .i64 d.member, .slice A1 d.trust.length c1, .string d.title, .int .i64 d.vote, .slice A2 d.patch.length c2, .int .i64 d.start, .int .i64 d.until_, .int .i64 d.closes] 25) := ⟨_, rfl⟩
  have bW : Below w.heap.size w W := by rw [hW]; exact (Below.refl _ _).alloc (Nat.le_refl _) _
  have hWs : W.heap.size = w.heap.size + 1 := by rw [hW]; simp
  have c2W : W.cell? ⟨w.heap.size, 2, none⟩ = some (.slice A1 d.trust.length c1) := by rw [hW]; simp [go_sem]
  have c5W : W.cell? ⟨w.heap.size, 5, none⟩ = some (.slice A2 d.patch.length c2) := by rw [hW]; simp [go_sem]
  have hM1 := markInts_any d.trust (.slice A1 d.trust.length c1) base k W (h1.on bW) (by omega) n1
  have HM1 := Lib.hid hM1
  have H2W := Lib.hid (h2.on bW)
  have HBW := Lib.hid bW
  have HC1 := Lib.hid h1.cap.2
  have HC2 := Lib.hid h2.cap.2
  have HU1 := Lib.hid u1
  have HU2 := Lib.hid u2
  have HWE := Lib.hid hW
  have HX := Lib.hid hx
  clear hM1 h1 h2 bW u1 u2 hW hx
  go_enter Tryz.func12, Tryz.ntmps12
  go_wp2_with (fail)
  rw [← HWE.out]
  refine (HM1.out).mono ?_
  rintro e w1 ⟨rfl, o1, g1⟩
  rw [show (if (seqI k d.trust.length).length = 0 then none else (Value.slice A1 d.trust.length c1).ownBlock) = rowOf d.trust.length A1 by rw [seqI_len]; exact rowOf_eq d.trust A1 c1] at g1
  have hrow1 : ∀ b, top ≤ b → rowOf d.trust.length A1 ≠ some b := fun b hb' h => by
    unfold rowOf at h
    split at h
    · cases h
    · rename_i h0
      obtain ⟨g, hA, hg⟩ := HU1.out (fun e => h0 (by rw [e]; rfl))
      rw [hA] at h
      injection h with h
      have : g = b := h
      omega
  have d5 : w1.cell? ⟨w.heap.size, 5, none⟩ = some (.slice A2 d.patch.length c2) := g1.cell c5W (fun h => hrow1 w.heap.size ht h.symm)
  have p1 : OwnL editCells d.patch base w1 (.slice A2 d.patch.length c2) := by
    rcases HX.out with h | h
    · have : rowOf d.trust.length A1 = none := by rw [h]; rfl
      rw [this] at g1
      exact H2W.out.on (grown_below g1)
    · rw [h]
      exact OwnL.nilS _ _ _ _ HC2.out
  have hM2 := markEdits_any d.patch (.slice A2 d.patch.length c2) base (k + d.trust.length) w1 p1 (by omega) (by omega) n2
  rw [show (((k + d.trust.length : Nat)) : Int) = ((k + d.trust.length : Nat) : Int) from rfl] at hM2
  have HM2 := Lib.hid hM2
  have HO1 := Lib.hid o1
  have HG1 := Lib.hid g1
  have HR1 := Lib.hid hrow1
  clear hM2 o1 g1 p1 hrow1 c5W c2W
  go_wp2_with (fail)
  refine (HM2.out).mono ?_
  rintro e w2 ⟨rfl, o2, g2⟩
  rw [show (if (medits (k + d.trust.length) d.patch.length).length = 0 then none else (Value.slice A2 d.patch.length c2).ownBlock) = rowOf d.patch.length A2 by rw [medits_len]; exact rowOf_eq d.patch A2 c2] at g2
  have hrow2 : ∀ b, top ≤ b → rowOf d.patch.length A2 ≠ some b := fun b hb' h => by
    unfold rowOf at h
    split at h
    · cases h
    · rename_i h0
      obtain ⟨g, hA, hg⟩ := HU2.out (fun e => h0 (by rw [e]; rfl))
      rw [hA] at h
      injection h with h
      have : g = b := h
      omega
  have q1 : OwnL intCells (seqI k d.trust.length) base w2 (.slice A1 d.trust.length c1) := by
    rcases HX.out with h | h
    · rw [h]
      exact OwnL.nilS _ _ _ _ HC1.out
    · have : rowOf d.patch.length A2 = none := by rw [h]; rfl
      rw [this] at g2
      exact HO1.out.on (grown_below g2)
  have q3 : ∀ b, top ≤ b → b < w.heap.size → w2.heap[b]? = w.heap[b]? := fun b hb1 hb2 => by
    rw [g2.block b (Nat.lt_of_lt_of_le (by rw [hWs]; omega) HG1.out.size) (fun h => hrow2 b hb1 h.symm), HG1.out.block b (by rw [hWs]; omega) (fun h => HR1.out b hb1 h.symm)]
    exact HBW.out.block b hb2
  have q4 : Below base w w2 := by
    have b1 : Below base W w1 := ⟨HG1.out.os, HG1.out.tape, HG1.out.output, HG1.out.size, fun b hb' => HG1.out.block b (by rw [hWs]; omega) (fun h => by
      unfold rowOf at h
      split at h
      · cases h
      · rename_i h0
        obtain ⟨A', c', hv, _, _, h3⟩ := HO1.out
        injection hv with e1 e2 e3
        subst e1
        obtain ⟨g, hA, hgb, _, _⟩ := h3 (fun e => h0 (by have := congrArg List.length e; rw [seqI_len] at this; exact this))
        rw [hA] at h
        injection h with h
        have : b = g := h
        omega)⟩
    have b2 : Below base w1 w2 := ⟨g2.os, g2.tape, g2.output, g2.size, fun b hb' => g2.block b (Nat.lt_of_lt_of_le (by rw [hWs]; omega) HG1.out.size) (fun h => by
      unfold rowOf at h
      split at h
      · cases h
      · rename_i h0
        obtain ⟨A', c', hv, _, _, h3⟩ := o2
        injection hv with e1 e2 e3
        subst e1
        obtain ⟨g, hA, hgb, _, _⟩ := h3 (fun e => h0 (by have := congrArg List.length e; rw [medits_len] at this; exact this))
        rw [hA] at h
        injection h with h
        have : b = g := h
        omega)⟩
    exact ((HBW.out.mono hb).trans b1).trans b2
  have HQ1 := Lib.hid q1
  have HQ2 := Lib.hid o2
  have HQ3 := Lib.hid q3
  have HQ4 := Lib.hid q4
  clear q1 o2 q3 q4 g2 hrow2 d5
  go_wp2
  go_ret
  exact ⟨ret_i64 (by omega), HQ1.out, HQ2.out, HQ4.out, HQ3.out⟩

set_option maxHeartbeats 2000000 in
theorem heldDeed_any (d : Deed) (A1 : Option Addr) (c1 : Nat) (A2 : Option Addr) (c2 : Nat) (base k : Nat) (w : World) (h1 : OwnL intCells (seqI k d.trust.length) base w (.slice A1 d.trust.length c1)) (h2 : OwnL editCells (medits (k + d.trust.length) d.patch.length) base w (.slice A2 d.patch.length c2)) (hk0 : 0 < k) (hk : k ≤ 1048576) (n1 : d.trust.length ≤ 1048576) (n2 : d.patch.length ≤ 1048576) :
    Calls Tryz.prog 13 #[.agg #[.int .i64 d.kind, .int .i64 d.member, .slice A1 d.trust.length c1, .string d.title, .int .i64 d.vote, .slice A2 d.patch.length c2, .int .i64 d.start, .int .i64 d.until_, .int .i64 d.closes], .int .i64 (k : Int)] w (RetB (.int .i64 ((k + d.trust.length + 4 * d.patch.length : Nat) : Int)) w) := by
  have HB : Hid (∀ o, Below w.heap.size w (w.alloc o)) := Lib.hid (fun o => (Below.refl _ _).alloc (Nat.le_refl _) o)
  have H1 : Hid (∀ V, Below w.heap.size w V → Calls Tryz.prog 42 #[.slice A1 d.trust.length c1, .int .i64 (k : Int)] V (RetQ (.int .i64 ((k + d.trust.length : Nat) : Int)) V)) := Lib.hid (fun V hb => heldInts_any d.trust.length k A1 c1 V ((h1.on hb).slR (size := 1) fun _ => rfl) (by omega) n1)
  have H2 : Hid (∀ V, Below w.heap.size w V → Calls Tryz.prog 43 #[.slice A2 d.patch.length c2, .int .i64 ((k : Int) + (d.trust.length : Int))] V (RetB (.int .i64 ((k + d.trust.length + 4 * d.patch.length : Nat) : Int)) V)) := Lib.hid (fun V hb => by
    have := heldEdits_any d.patch.length (k + d.trust.length) A2 c2 V ((h2.on hb).slR (size := 4) fun _ => rfl) (by omega) (by omega) n2
    rw [show ((k + d.trust.length : Nat) : Int) = (k : Int) + (d.trust.length : Int) by omega] at this
    exact this)
  clear h1 h2
  go_enter Tryz.func13, Tryz.ntmps13
  go_wp2_with (fail)
  refine (H1.out _ (HB.out _)).mono ?_
  rintro e w1 ⟨rfl, m1, rfl⟩
  have hb1 := below_drewN (HB.out (.cells #[.int .i64 d.kind, .int .i64 d.member, .slice A1 d.trust.length c1, .string d.title, .int .i64 d.vote, .slice A2 d.patch.length c2, .int .i64 d.start, .int .i64 d.until_, .int .i64 d.closes] 25)) m1
  have hng : ¬ ((k : Int) + (d.trust.length : Int)) < 0 := by omega
  have hng2 : ¬ ((k + d.trust.length : Nat) : Int) < 0 := by omega
  go_wp2_with (fail)
  refine (H2.out _ hb1).mono ?_
  rintro e w2 ⟨rfl, hb2⟩
  have hbb := hb1.trans (hb2.mono hb1.size)
  have hng3 : ¬ ((k + d.trust.length + 4 * d.patch.length : Nat) : Int) < 0 := by omega
  have hng4 : ¬ ((k : Int) + (d.trust.length : Int) + 4 * (d.patch.length : Int)) < 0 := by omega
  clear hb1 hb2
  go_wp2
  go_ret
  exact ⟨ret_i64 (by omega), hbb⟩
end Go.Proofs.YtedglaejieblhaaGreatDoor

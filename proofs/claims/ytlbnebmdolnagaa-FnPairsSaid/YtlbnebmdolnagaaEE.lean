/- The duels of a profile, walked. -/
import Derived.Test.YtlbnebmdolnagaaEC
import Derived.Test.YtlbnebmdolnagaaBG
import Derived.Test.YtlbnebmdolnagaaQE
import Derived.Maps.AppendAt
namespace Go.Proofs.Ytlbnebmdolnagaa
open Go.RowKit Go.Lib

section
variable {P : Program} {w : World}
/-- append of what lies at an address, as one step of a region that draws its order. -/
theorem if_take {c : Prop} [Decidable c] {A B : Prop} (hc : c) (h : A) : if c then A else B := by rw [if_pos hc]; exact h
theorem wanted_none {o : Oper} {ys : Nat → Option Bool} (h : o.guard = none) : Region.wanted o ys = true := by simp [Region.wanted, h]
theorem step_push {o : Oper} {a : Act} {K : Act → World → Prop} {Q : Exit → Act → World → Prop} (s x : Operand) (t : TypeId)
    (ho : o.op = .call { callee := .builtin .append, args := #[s, x], argTypes := #[t, t] })
    (base : Nat) (e : TypeId) (i : TypeInfo) (z : Value) (size bytes : Nat) (ht : P.underlying t = some (.slice e)) (hi : P.info? e = some i) (hz : i.zero = some z)
    (hsize : i.size = size) (hby : i.bytes = bytes) (hzs : z.cells.size = size) (hsz : 0 < size)
    (v : Value) (n : Nat) (ys : List Value) (hs : a.eval s = v) (hown : w.ownsRow base e size v n ys)
    (ad : Addr) (m c : Nat) (news : List Value) (hx : a.eval x = .slice (some ad) m c) (hl : news.length = m * size) (hnews : ∀ j u, news[j]? = some u → w.cell? (ad.add j) = some u) (h1 : ∀ u ∈ news, u.oneCell' = true)
    (h63 : n + m ≤ maxLen) (hbytes : (n + m) * bytes ≤ 140737488355328) (hbase : base ≤ w.heap.size)
    (h : ∀ v' w', w'.ownsRow base e size v' (n + m) (ys ++ news) → w.grownBy w' v.ownBlock → (v' = .slice none 0 0 ↔ v = .slice none 0 0 ∧ m = 0) → (v'.ownBlock = v.ownBlock ∨ v'.ownBlock = some w.heap.size) → K (a.put o.dst v') w') :
    Oper.wp P o a w K Q := by
  obtain ⟨v', w', hr, g1, g2, g3, g4⟩ := run_append_own_at (P := P) w base t o.type e i z size bytes ht hi hz hsize hby hzs hsz v n ys hown ad m c news hl hnews h1 h63 hbytes hbase
  unfold Oper.wp execOp
  simp only [ho, resolve, invoke, builtin, Sem.run_bind, Sem.run_pure, Result.andThen_ok, List.map_toArray, List.map_cons, List.map_nil, hs, hx, hr]
  exact h v' w' g1 g2 g3 g4
end
theorem Try.infoDu : (Try.prog.info? 43).map (fun i => (i.zero, i.size, i.bytes)) = some (some (.agg #[.int .i64 0, .int .i64 0, .int .i64 0, .int .i64 0]), 4, 32) := by kernel_rfl
def DuelsPost (F : Pf) (w : World) (e : Ending) (w' : World) : Prop :=
  ∃ g c, e = .returned (.slice (some ⟨g, 0, none⟩) (duels F).length c) ∧ Row w' g ((duels F).flatMap (duC F)) ∧ w.heap.size ≤ g ∧ g < w'.heap.size ∧ (duels F).length ≤ c ∧ c ≤ maxLen ∧ Below w.heap.size w w'
/-- A row of duels of the call's own. -/
def DuO (F : Pf) (base : Nat) (w : World) (g cap : Nat) (L : List (Nat × Nat)) : Prop := w.ownsRow base 43 4 (.slice (some ⟨g, 0, none⟩) L.length cap) L.length (L.flatMap (duC F))
structure DuS (F : Pf) (w1 wr : World) (B0 g cap gm : Nat) (R C : Nat → Nat) (L : List (Nat × Nat)) : Prop where
  own : DuO F w1.heap.size wr g cap L
  mat : MatR B0 wr gm F.n R C (prs F)
  ne : (∀ j, j < F.n → R j ≠ g) ∧ gm ≠ g
  bel : Below w1.heap.size w1 wr
theorem DuS.below {F : Pf} {w1 wr w' : World} {B0 g cap gm : Nat} {R C : Nat → Nat} {L : List (Nat × Nat)} (h : DuS F w1 wr B0 g cap gm R C L) (hb : Below wr.heap.size wr w') : DuS F w1 w' B0 g cap gm R C L :=
  ⟨own_below h.own hb, h.mat.below hb, h.ne, below_then h.bel h.bel.size hb⟩
theorem raw_len (F : Pf) (hn : F.n ≤ 6) : (rawTo F F.n).length ≤ 15 := by
  have hp : (duels F).Perm (rawTo F F.n) := insK_perm _ _
  rw [← hp.length_eq]
  exact (duels_dul F).few hn
theorem rawIn_len (F : Pf) (i k : Nat) : (rawIn F i k).length ≤ k := by
  unfold rawIn
  rw [List.length_map]
  have := List.length_filter_le (fun k => decide (prs F k i < prs F i k)) (List.range k)
  rwa [List.length_range] at this
theorem rawTo_len (F : Pf) : ∀ i, (rawTo F i).length ≤ i * F.n
  | 0 => Nat.zero_le _
  | i + 1 => by
    have h1 := rawTo_len F i
    have h2 := rawIn_len F i F.n
    rw [rawTo_snoc, List.length_append, Nat.succ_mul]
    omega
set_option maxRecDepth 100000 in
set_option maxHeartbeats 8000000 in
theorem duels_any (F : Pf) (hF : F.Ok) (A1 : Option Addr) (c1 : Nat) (A2 : Option Addr) (c2 : Nat) (w : World) (h : PfR w w.heap.size F A1 c1 A2 c2) :
    Calls Try.prog 63 #[pfV F A1 c1 A2 c2] w (DuelsPost F w) := by
  obtain ⟨w1, hw1, hs1, hbw1, z0, z1, fr, bw⟩ := pbox_at h
  have HPA := Lib.hid (fun y => pairs_any F hF _ _ _ _ _ (fr y))
  have HOP := Lib.hid (fun y => options_any F hF _ _ _ _ _ (fr y))
  have BW := Lib.hid bw
  have HF := Lib.hid hF
  have hn6 := hF.n6
  have hn1 := hF.n1
  obtain ⟨d0, hdi, hza, hzb, hzc⟩ := info_parts Try.infoDu
  unfold pfV
  unfold pfV at HPA HOP
  clear hF h fr bw hbw1
  go_enter Try.func63, Try.ntmps63
  go_upto_region 1 with (fail)
  rw [← hw1]
  have HZ1 := Lib.hid hs1
  obtain ⟨x0, hx0⟩ : ∃ y : Aft w1, y.val = w1 := ⟨⟨w1, Below.refl _ _⟩, rfl⟩
  rw [← hx0]
  clear hx0 hw1 hs1
  have hx11 := x0.ok.size
  have hbA : Below x0.val.heap.size x0.val (x0.val.alloc (.cells #[] 43)) := (Below.refl _ _).alloc (Nat.le_refl _) _
  have HXA := Lib.hid (below_then x0.ok hx11 hbA)
  have z0a := z0 ⟨_, HXA.out⟩
  have z1a := z1 ⟨_, HXA.out⟩
  have HPX := Lib.hid (HPA.out ⟨_, HXA.out⟩)
  have hsA : (x0.val.alloc (.cells #[] 43)).heap.size = x0.val.heap.size + 1 := by simp
  have hown0 : DuO F w1.heap.size (x0.val.alloc (.cells #[] 43)) x0.val.heap.size 0 [] := by
    unfold DuO
    simpa using World.ownsRow_made (base := w1.heap.size) x0.val #[] 0 hx11 (Nat.zero_le _) rfl
  unfold MatPost at HPX
  rw [hsA] at HPX
  go_wp2_with (fail)
  refine HPX.out.mono ?_
  rintro e w3 ⟨gm, cm, R, C, rfl, hmat, hb3⟩
  have HM3 := Lib.hid hmat
  have HO3 : Hid (DuO F w1.heap.size w3 x0.val.heap.size 0 []) := Lib.hid (own_below hown0 (by rw [hsA]; exact hb3))
  have HB3 : Hid (Below w1.heap.size w1 w3) := Lib.hid (below_then HXA.out (by rw [hsA]; omega) (by rw [hsA]; exact hb3))
  generalize x0.val.heap.size = g0 at *
  have HNE : Hid ((∀ j, j < F.n → R j ≠ g0) ∧ gm ≠ g0) := Lib.hid ⟨fun j hj => by have := (HM3.out.lt j hj).1; omega, by have := HM3.out.lg.1; omega⟩
  clear hmat hb3 hbA HXA z0a z1a HPX hsA hown0 HPA hx11
  have HST3 : Hid (DuS F w1 w3 (g0 + 1) g0 0 gm R C []) := Lib.hid ⟨HO3.out, HM3.out, HNE.out, HB3.out⟩
  clear HO3 HM3 HNE HB3
  have z03 : w3.cell? ⟨w.heap.size, 0, none⟩ = some (.slice A1 F.L.length c1) := z0 ⟨w3, HST3.out.bel⟩
  have z13 : w3.cell? ⟨w.heap.size, 1, none⟩ = some (.slice A2 F.L.length c2) := z1 ⟨w3, HST3.out.bel⟩
  go_wp2_with (fail)
  refine (HOP.out ⟨w3, HST3.out.bel⟩).mono ?_
  rintro e w4 ⟨rfl, hb4⟩
  have HST4 := Lib.hid (HST3.out.below hb4)
  clear hb4 HST3 z03 z13
  go_wp2
  go_loopw [3, 5, 6, 12] (fun o _ _ ii wr => ∃ (i g cap : Nat), i ≤ F.n ∧ ii = .int .i64 (i : Int) ∧ o = .slice (some ⟨g, 0, none⟩) (rawTo F i).length cap ∧ DuS F w1 wr (g0 + 1) g cap gm R C (rawTo F i)) (fun _ _ _ ii _ => F.n - (RowKit.intOf ii).toNat)
  case atStart => exact ⟨0, g0, 0, Nat.zero_le _, rfl, rfl, HST4.out⟩
  case round =>
    obtain ⟨i, g, cap, hi9, rfl, rfl, hs⟩ := hrel
    have HS := Lib.hid hs
    clear hs HST4
    by_cases hlti : i < F.n
    · have hii : (i : Int) < (F.n : Int) := by omega
      have hi0 : (0 : Int) ≤ (i : Int) := by omega
      have z0r : wr.cell? ⟨w.heap.size, 0, none⟩ = some (.slice A1 F.L.length c1) := z0 ⟨wr, HS.out.bel⟩
      have z1r : wr.cell? ⟨w.heap.size, 1, none⟩ = some (.slice A2 F.L.length c2) := z1 ⟨wr, HS.out.bel⟩
      go_wp2_with (fail)
      refine (HOP.out ⟨wr, HS.out.bel⟩).mono ?_
      rintro e w5 ⟨rfl, hb5⟩
      have HS5 : Hid (DuS F w1 w5 (g0 + 1) g cap gm R C (rawTo F i ++ rawIn F i 0)) := Lib.hid (by
        have := HS.out.below hb5
        rw [show rawTo F i ++ rawIn F i 0 = rawTo F i by unfold rawIn; simp]
        exact this)
      have HL5 : Hid ((rawTo F i ++ rawIn F i 0).length = (rawTo F i).length) := Lib.hid (by unfold rawIn; simp)
      clear hb5 z0r z1r HS
      go_wp2
      go_loopw [3, 6, 17] (fun o _ kk wr => ∃ (k g cap : Nat), k ≤ F.n ∧ kk = .int .i64 (k : Int) ∧ o = .slice (some ⟨g, 0, none⟩) (rawTo F i ++ rawIn F i k).length cap ∧ DuS F w1 wr (g0 + 1) g cap gm R C (rawTo F i ++ rawIn F i k)) (fun _ _ kk _ => F.n - (RowKit.intOf kk).toNat)
      case atStart => exact ⟨0, g, cap, Nat.zero_le _, rfl, by rw [HL5.out], HS5.out⟩
      case round =>
        obtain ⟨k, g, cap, hk, rfl, rfl, hs⟩ := hrel
        have HS := Lib.hid hs
        have hlen : (rawTo F i ++ rawIn F i k).length ≤ 50 := by
          have h1 := rawTo_len F i
          have h2 := rawIn_len F i k
          have h3 : i * F.n ≤ 6 * 6 := Nat.mul_le_mul (by omega) hn6
          rw [List.length_append]
          omega
        clear hs HS5 HL5
        by_cases hltk : k < F.n
        · have HRI := Lib.hid (rawIn_snoc (F := F) (i := i) (k := k))
          have m1 := fun y : Aft wr => ((HS.out.mat.below y.ok).top i hlti).1
          have m2 := fun y : Aft wr => ((HS.out.mat.below y.ok).top k hltk).1
          have m3 := fun y : Aft wr => (HS.out.mat.below y.ok).get hlti hltk
          have m4 := fun y : Aft wr => (HS.out.mat.below y.ok).get hltk hlti
          have hci := (HS.out.mat.top i hlti).2.1
          have hck := (HS.out.mat.top k hltk).2.1
          have hkk : (k : Int) < (F.n : Int) := by omega
          have hk0 : (0 : Int) ≤ (k : Int) := by omega
          obtain ⟨x, hx⟩ : ∃ y : Aft wr, y.val = wr := ⟨⟨wr, Below.refl _ _⟩, rfl⟩
          rw [← hx]
          clear hx
          obtain ⟨p1, hp1⟩ : ∃ p, p = prs F i k := ⟨_, rfl⟩
          obtain ⟨p2, hp2⟩ : ∃ p, p = prs F k i := ⟨_, rfl⟩
          have HP12 := Lib.hid (And.intro hp1 hp2)
          rw [← hp1] at m3 HRI
          rw [← hp2] at m4 HRI
          clear hp1 hp2
          by_cases hp : p2 < p1
          · rw [if_pos hp] at HRI
            have hd1 : decide (p2 < p1) = true := decide_eq_true hp
            have hd2 : decide ((p2 : Int) < (p1 : Int)) = true := decide_eq_true (by omega)
            have hd3 : (p2 : Int) < (p1 : Int) := by omega
            go_wp2_with (fail)
            refine wp_region_at (by kernel_rfl) (by kernel_rfl) ?_
            repeat (go_big_quiet_step (fail))
            refine wpQuiet_nil ?_
            rintro _ ⟨y, rfl⟩
            have HSY := Lib.hid (HS.out.below y.ok)
            obtain ⟨wy, hwy⟩ : ∃ X, X = y.val := ⟨_, rfl⟩
            rw [← hwy] at HSY ⊢
            clear hwy m1 m2 m3 m4 y x
            go_upto_region 9 with (fail)
            obtain ⟨wd, hwd⟩ : ∃ X, X = wy.drew := ⟨_, rfl⟩
            have HSD : Hid (DuS F w1 wd (g0 + 1) g cap gm R C (rawTo F i ++ rawIn F i k)) := Lib.hid (by rw [hwd]; exact HSY.out.below (Below.refl _ _).drew)
            refine wp_region_held_drew (S := fun W => MatR (g0 + 1) W gm F.n R C (prs F)) (by kernel_rfl) (by rw [← hwd]; exact HSD.out.mat) (fun hHeld => ?_)
            rw [← hwd] at hHeld ⊢
            clear hwd HSY
            refine wpAnyH_take (i := 0) (v := ?_) rfl (by kernel_rfl) (by kernel_rfl) (by kernel_rfl) (fun _ _ _ h => h) (Or.inl ⟨by rfl, ?_⟩) (by assumption) ?_
            rotate_left
            · intro W9 hSw
              have m1 := (hSw.top i hlti).1
              have m2 := (hSw.top k hltk).1
              have m3 := hSw.get hlti hltk
              have m4 := hSw.get hltk hlti
              rw [← HP12.out.1] at m3
              rw [← HP12.out.2] at m4
              try simp only [List.getElem_toArray, List.getElem_cons_zero]
              first | (go_simp; done) | (go_simp; with_reducible rfl)
            try simp only [Act.put, List.getElem_toArray, List.getElem_cons_zero, List.setIfInBounds_toArray, List.set_cons_zero, List.set_cons_succ]
            refine wpAnyH_take (i := 1) (v := ?_) rfl (by kernel_rfl) (by kernel_rfl) (by kernel_rfl) (fun _ _ _ h => h) (Or.inl ⟨by rfl, ?_⟩) (by assumption) ?_
            rotate_left
            · intro W9 hSw
              have m1 := (hSw.top i hlti).1
              have m2 := (hSw.top k hltk).1
              have m3 := hSw.get hlti hltk
              have m4 := hSw.get hltk hlti
              rw [← HP12.out.1] at m3
              rw [← HP12.out.2] at m4
              try simp only [List.getElem_toArray, List.getElem_cons_zero, List.getElem_cons_succ]
              first | (go_simp; done) | (go_simp; with_reducible rfl)
            try simp only [Act.put, List.getElem_toArray, List.getElem_cons_zero, List.getElem_cons_succ, List.setIfInBounds_toArray, List.set_cons_zero, List.set_cons_succ]
            refine wpAnyH_take (i := 2) (v := ?_) rfl (by kernel_rfl) (by kernel_rfl) (by kernel_rfl) (fun _ _ _ h => h) (Or.inl ⟨by rfl, ?_⟩) (by assumption) ?_
            rotate_left
            · intro W9 hSw
              have m1 := (hSw.top i hlti).1
              have m2 := (hSw.top k hltk).1
              have m3 := hSw.get hlti hltk
              have m4 := hSw.get hltk hlti
              rw [← HP12.out.1] at m3
              rw [← HP12.out.2] at m4
              try simp only [List.getElem_toArray, List.getElem_cons_zero, List.getElem_cons_succ]
              first | (go_simp; done) | (go_simp; with_reducible rfl)
            try simp only [Act.put, List.getElem_toArray, List.getElem_cons_zero, List.getElem_cons_succ, List.setIfInBounds_toArray, List.set_cons_zero, List.set_cons_succ]
            refine wpAnyH_take (i := 3) (v := ?_) rfl (by kernel_rfl) (by kernel_rfl) (by kernel_rfl) (fun _ _ _ h => h) (Or.inl ⟨by rfl, ?_⟩) (by assumption) ?_
            rotate_left
            · intro W9 hSw
              have m1 := (hSw.top i hlti).1
              have m2 := (hSw.top k hltk).1
              have m3 := hSw.get hlti hltk
              have m4 := hSw.get hltk hlti
              rw [← HP12.out.1] at m3
              rw [← HP12.out.2] at m4
              try simp only [List.getElem_toArray, List.getElem_cons_zero, List.getElem_cons_succ]
              first | (go_simp; done) | (go_simp; with_reducible rfl)
            try simp only [Act.put, List.getElem_toArray, List.getElem_cons_zero, List.getElem_cons_succ, List.setIfInBounds_toArray, List.set_cons_zero, List.set_cons_succ]
            refine wpAnyH_take (i := 4) (v := ?_) rfl (by kernel_rfl) (by kernel_rfl) (by kernel_rfl) (fun _ _ _ h => h) (Or.inl ⟨by rfl, ?_⟩) (by assumption) ?_
            rotate_left
            · intro W9 hSw
              have m1 := (hSw.top i hlti).1
              have m2 := (hSw.top k hltk).1
              have m3 := hSw.get hlti hltk
              have m4 := hSw.get hltk hlti
              rw [← HP12.out.1] at m3
              rw [← HP12.out.2] at m4
              try simp only [List.getElem_toArray, List.getElem_cons_zero, List.getElem_cons_succ]
              first | (go_simp; done) | (go_simp; with_reducible rfl)
            try simp only [Act.put, List.getElem_toArray, List.getElem_cons_zero, List.getElem_cons_succ, List.setIfInBounds_toArray, List.set_cons_zero, List.set_cons_succ]
            refine wpAnyH_take (i := 5) (v := ?_) rfl (by kernel_rfl) (by kernel_rfl) (by kernel_rfl) (fun _ _ _ h => h) (Or.inl ⟨by rfl, ?_⟩) (by assumption) ?_
            rotate_left
            · intro W9 hSw
              have m1 := (hSw.top i hlti).1
              have m2 := (hSw.top k hltk).1
              have m3 := hSw.get hlti hltk
              have m4 := hSw.get hltk hlti
              rw [← HP12.out.1] at m3
              rw [← HP12.out.2] at m4
              try simp only [List.getElem_toArray, List.getElem_cons_zero, List.getElem_cons_succ]
              first | (go_simp; done) | (go_simp; with_reducible rfl)
            try simp only [Act.put, List.getElem_toArray, List.getElem_cons_zero, List.getElem_cons_succ, List.setIfInBounds_toArray, List.set_cons_zero, List.set_cons_succ]
            refine wpAnyH_take (i := 6) (v := ?_) rfl (by kernel_rfl) (by kernel_rfl) (by kernel_rfl) (fun _ _ _ h => h) (Or.inl ⟨by rfl, ?_⟩) (by assumption) ?_
            rotate_left
            · intro W9 hSw
              have m1 := (hSw.top i hlti).1
              have m2 := (hSw.top k hltk).1
              have m3 := hSw.get hlti hltk
              have m4 := hSw.get hltk hlti
              rw [← HP12.out.1] at m3
              rw [← HP12.out.2] at m4
              try simp only [List.getElem_toArray, List.getElem_cons_zero, List.getElem_cons_succ]
              first | (go_simp; done) | (go_simp; with_reducible rfl)
            try simp only [Act.put, List.getElem_toArray, List.getElem_cons_zero, List.getElem_cons_succ, List.setIfInBounds_toArray, List.set_cons_zero, List.set_cons_succ]
            refine wpAnyH_take (i := 7) (v := ?_) rfl (by kernel_rfl) (by kernel_rfl) (by kernel_rfl) (fun _ _ _ h => h) (Or.inl ⟨by rfl, ?_⟩) (by assumption) ?_
            rotate_left
            · intro W9 hSw
              have m1 := (hSw.top i hlti).1
              have m2 := (hSw.top k hltk).1
              have m3 := hSw.get hlti hltk
              have m4 := hSw.get hltk hlti
              rw [← HP12.out.1] at m3
              rw [← HP12.out.2] at m4
              try simp only [List.getElem_toArray, List.getElem_cons_zero, List.getElem_cons_succ]
              first | (go_simp; done) | (go_simp; with_reducible rfl)
            try simp only [Act.put, List.getElem_toArray, List.getElem_cons_zero, List.getElem_cons_succ, List.setIfInBounds_toArray, List.set_cons_zero, List.set_cons_succ]
            refine wpAnyH_take (i := 8) (v := ?_) rfl (by kernel_rfl) (by kernel_rfl) (by kernel_rfl) (fun _ _ _ h => h) (Or.inl ⟨by rfl, ?_⟩) (by assumption) ?_
            rotate_left
            · intro W9 hSw
              have m1 := (hSw.top i hlti).1
              have m2 := (hSw.top k hltk).1
              have m3 := hSw.get hlti hltk
              have m4 := hSw.get hltk hlti
              rw [← HP12.out.1] at m3
              rw [← HP12.out.2] at m4
              try simp only [List.getElem_toArray, List.getElem_cons_zero, List.getElem_cons_succ]
              first | (go_simp; done) | (go_simp; with_reducible rfl)
            try simp only [Act.put, List.getElem_toArray, List.getElem_cons_zero, List.getElem_cons_succ, List.setIfInBounds_toArray, List.set_cons_zero, List.set_cons_succ]
            refine wpAnyH_take (i := 9) (v := ?_) rfl (by kernel_rfl) (by kernel_rfl) (by kernel_rfl) (fun _ _ _ h => h) (Or.inl ⟨by rfl, ?_⟩) (by assumption) ?_
            rotate_left
            · intro W9 hSw
              have m1 := (hSw.top i hlti).1
              have m2 := (hSw.top k hltk).1
              have m3 := hSw.get hlti hltk
              have m4 := hSw.get hltk hlti
              rw [← HP12.out.1] at m3
              rw [← HP12.out.2] at m4
              try simp only [List.getElem_toArray, List.getElem_cons_zero, List.getElem_cons_succ]
              first | (go_simp; done) | (go_simp; with_reducible rfl)
            try simp only [Act.put, List.getElem_toArray, List.getElem_cons_zero, List.getElem_cons_succ, List.setIfInBounds_toArray, List.set_cons_zero, List.set_cons_succ]
            refine wpAnyH_take (i := 10) (v := ?_) rfl (by kernel_rfl) (by kernel_rfl) (by kernel_rfl) (fun _ _ _ h => h) (Or.inl ⟨by rfl, ?_⟩) (by assumption) ?_
            rotate_left
            · intro W9 hSw
              have m1 := (hSw.top i hlti).1
              have m2 := (hSw.top k hltk).1
              have m3 := hSw.get hlti hltk
              have m4 := hSw.get hltk hlti
              rw [← HP12.out.1] at m3
              rw [← HP12.out.2] at m4
              try simp only [List.getElem_toArray, List.getElem_cons_zero, List.getElem_cons_succ]
              first | (go_simp; done) | (go_simp; with_reducible rfl)
            try simp only [Act.put, List.getElem_toArray, List.getElem_cons_zero, List.getElem_cons_succ, List.setIfInBounds_toArray, List.set_cons_zero, List.set_cons_succ]
            refine wpAnyH_take (i := 11) (v := ?_) rfl (by kernel_rfl) (by kernel_rfl) (by kernel_rfl) (fun _ _ _ h => h) (Or.inl ⟨by rfl, ?_⟩) (by assumption) ?_
            rotate_left
            · intro W9 hSw
              have m1 := (hSw.top i hlti).1
              have m2 := (hSw.top k hltk).1
              have m3 := hSw.get hlti hltk
              have m4 := hSw.get hltk hlti
              rw [← HP12.out.1] at m3
              rw [← HP12.out.2] at m4
              try simp only [List.getElem_toArray, List.getElem_cons_zero, List.getElem_cons_succ]
              first | (go_simp; done) | (go_simp; with_reducible rfl)
            try simp only [Act.put, List.getElem_toArray, List.getElem_cons_zero, List.getElem_cons_succ, List.setIfInBounds_toArray, List.set_cons_zero, List.set_cons_succ]
            refine wpAnyH_take (i := 12) (v := ?_) rfl (by kernel_rfl) (by kernel_rfl) (by kernel_rfl) (fun _ _ _ h => h) (Or.inl ⟨by rfl, ?_⟩) (by assumption) ?_
            rotate_left
            · intro W9 hSw
              have m1 := (hSw.top i hlti).1
              have m2 := (hSw.top k hltk).1
              have m3 := hSw.get hlti hltk
              have m4 := hSw.get hltk hlti
              rw [← HP12.out.1] at m3
              rw [← HP12.out.2] at m4
              try simp only [List.getElem_toArray, List.getElem_cons_zero, List.getElem_cons_succ]
              first | (go_simp; done) | (go_simp; with_reducible rfl)
            try simp only [Act.put, List.getElem_toArray, List.getElem_cons_zero, List.getElem_cons_succ, List.setIfInBounds_toArray, List.set_cons_zero, List.set_cons_succ]
            refine wpAnyH_take (i := 13) (v := ?_) rfl (by kernel_rfl) (by kernel_rfl) (by kernel_rfl) (fun _ _ _ h => h) (Or.inl ⟨by rfl, ?_⟩) (by assumption) ?_
            rotate_left
            · intro W9 hSw
              have m1 := (hSw.top i hlti).1
              have m2 := (hSw.top k hltk).1
              have m3 := hSw.get hlti hltk
              have m4 := hSw.get hltk hlti
              rw [← HP12.out.1] at m3
              rw [← HP12.out.2] at m4
              try simp only [List.getElem_toArray, List.getElem_cons_zero, List.getElem_cons_succ]
              first | (go_simp; done) | (go_simp; with_reducible rfl)
            try simp only [Act.put, List.getElem_toArray, List.getElem_cons_zero, List.getElem_cons_succ, List.setIfInBounds_toArray, List.set_cons_zero, List.set_cons_succ]
            refine wpAnyH_take (i := 14) (v := ?_) rfl (by kernel_rfl) (by kernel_rfl) (by kernel_rfl) (fun _ _ _ h => h) (Or.inl ⟨by rfl, ?_⟩) (by assumption) ?_
            rotate_left
            · intro W9 hSw
              have m1 := (hSw.top i hlti).1
              have m2 := (hSw.top k hltk).1
              have m3 := hSw.get hlti hltk
              have m4 := hSw.get hltk hlti
              rw [← HP12.out.1] at m3
              rw [← HP12.out.2] at m4
              try simp only [List.getElem_toArray, List.getElem_cons_zero, List.getElem_cons_succ]
              first | (go_simp; done) | (go_simp; with_reducible rfl)
            try simp only [Act.put, List.getElem_toArray, List.getElem_cons_zero, List.getElem_cons_succ, List.setIfInBounds_toArray, List.set_cons_zero, List.set_cons_succ]
            refine wpAnyH_take (i := 15) (v := ?_) rfl (by kernel_rfl) (by kernel_rfl) (by kernel_rfl) (fun _ _ _ h => h) (Or.inl ⟨by rfl, ?_⟩) (by assumption) ?_
            rotate_left
            · intro W9 hSw
              have m1 := (hSw.top i hlti).1
              have m2 := (hSw.top k hltk).1
              have m3 := hSw.get hlti hltk
              have m4 := hSw.get hltk hlti
              rw [← HP12.out.1] at m3
              rw [← HP12.out.2] at m4
              try simp only [List.getElem_toArray, List.getElem_cons_zero, List.getElem_cons_succ]
              first | (go_simp; done) | (go_simp; with_reducible rfl)
            try simp only [Act.put, List.getElem_toArray, List.getElem_cons_zero, List.getElem_cons_succ, List.setIfInBounds_toArray, List.set_cons_zero, List.set_cons_succ]
            refine wpAnyH_take (i := 16) (v := ?_) rfl (by kernel_rfl) (by kernel_rfl) (by kernel_rfl) (fun _ _ _ h => h) (Or.inl ⟨by rfl, ?_⟩) (by assumption) ?_
            rotate_left
            · intro W9 hSw
              have m1 := (hSw.top i hlti).1
              have m2 := (hSw.top k hltk).1
              have m3 := hSw.get hlti hltk
              have m4 := hSw.get hltk hlti
              rw [← HP12.out.1] at m3
              rw [← HP12.out.2] at m4
              try simp only [List.getElem_toArray, List.getElem_cons_zero, List.getElem_cons_succ]
              first | (go_simp; done) | (go_simp; with_reducible rfl)
            try simp only [Act.put, List.getElem_toArray, List.getElem_cons_zero, List.getElem_cons_succ, List.setIfInBounds_toArray, List.set_cons_zero, List.set_cons_succ]
            refine wpAnyH_take (i := 17) (v := ?_) rfl (by kernel_rfl) (by kernel_rfl) (by kernel_rfl) (fun _ _ _ h => h) (Or.inl ⟨by rfl, ?_⟩) (by assumption) ?_
            rotate_left
            · intro W9 hSw
              have m1 := (hSw.top i hlti).1
              have m2 := (hSw.top k hltk).1
              have m3 := hSw.get hlti hltk
              have m4 := hSw.get hltk hlti
              rw [← HP12.out.1] at m3
              rw [← HP12.out.2] at m4
              try simp only [List.getElem_toArray, List.getElem_cons_zero, List.getElem_cons_succ]
              first | (go_simp; done) | (go_simp; with_reducible rfl)
            try simp only [Act.put, List.getElem_toArray, List.getElem_cons_zero, List.getElem_cons_succ, List.setIfInBounds_toArray, List.set_cons_zero, List.set_cons_succ]
            refine wpAnyH_ready (rs := [18]) (by kernel_rfl) (by simp) ?_
            refine AllReadyH.cons rfl (fun K hK => ?_) AllReadyH.nil
            simp only [List.getElem_toArray, List.getElem_cons_zero, List.getElem_cons_succ]
            go_simp
            have hbA : Below wd.heap.size wd (wd.alloc (.cells #[.int .i64 (i : Int), .int .i64 (k : Int), .int .i64 (p1 : Int), .int .i64 (p2 : Int)] 43)) := (Below.refl _ _).alloc (Nat.le_refl _) _
            have HBA := Lib.hid hbA
            have HOWN := Lib.hid HSD.out.own
            have HCE : Hid (∀ j u, (duC F (i, k))[j]? = some u → (wd.alloc (.cells #[.int .i64 (i : Int), .int .i64 (k : Int), .int .i64 (p1 : Int), .int .i64 (p2 : Int)] 43)).cell? (Addr.add ⟨wd.heap.size, 0, none⟩ j) = some u) := Lib.hid (fun j u hj => by
              unfold duC at hj
              rw [← HP12.out.1, ← HP12.out.2] at hj
              exact new_at hj)
            refine hK.out _ _ (hHeld.below hbA) (fun hHeld2 => ?_)
            clear hK K hHeld hbA
            have hHeld := hHeld2
            clear hHeld2
            try simp only [Act.put, List.getElem_toArray, List.getElem_cons_zero, List.getElem_cons_succ, List.setIfInBounds_toArray, List.set_cons_zero, List.set_cons_succ]
            refine wpAnyH_ready (rs := [19]) (by kernel_rfl) (by simp) ?_
            refine AllReadyH.cons rfl (fun K hK => ?_) AllReadyH.nil
            simp only [List.getElem_toArray, List.getElem_cons_zero, List.getElem_cons_succ]
            unfold DuO at HOWN
            rw [List.length_append] at HOWN
            rw [List.length_append] at hlen
            refine if_take (wanted_none rfl) ?_
            refine step_push (.tmp 35) (.tmp 53) 36 ?g3 w1.heap.size 43 d0 (.agg #[.int .i64 0, .int .i64 0, .int .i64 0, .int .i64 0]) 4 32 Try.underlying36 hdi hza hzb hzc rfl (by decide) _ _ _ ?g1 (own_below HOWN.out HBA.out) ⟨wd.heap.size, 0, none⟩ 1 1 (duC F (i, k)) ?g2 rfl HCE.out (fun u hu => ?c1) ?c3 ?c4 (Nat.le_trans HSD.out.bel.size HBA.out.size) ?_
            case g3 => rfl
            case g1 => rfl
            case g2 => rfl
            case c1 =>
              unfold duC at hu
              simp only [List.mem_cons, List.not_mem_nil, or_false] at hu
              rcases hu with rfl | rfl | rfl | rfl <;> rfl
            case c3 => unfold maxLen; omega
            case c4 => omega
            intro v' w9 hown' hgrow hiff hor
            obtain ⟨g9, cap9, rfl, hdc9, hcm9⟩ := own_some hown' (by simpa using hiff)
            have hlA : (wd.alloc (.cells #[.int .i64 (i : Int), .int .i64 (k : Int), .int .i64 (p1 : Int), .int .i64 (p2 : Int)] 43)).heap.size = wd.heap.size + 1 := by simp
            have HM9 : Hid (MatR (g0 + 1) w9 gm F.n R C (prs F)) := Lib.hid ((HSD.out.mat.below HBA.out).touch (P := fun c => c = g) (Touch.of_grown hgrow (fun c hc => by injection hc with hc; exact hc.symm)) HSD.out.ne.1 HSD.out.ne.2)
            have HB9 : Hid (Below w1.heap.size w1 w9) := Lib.hid ((HSD.out.bel.alloc HSD.out.bel.size _).grown hgrow (Nat.le_trans HSD.out.bel.size HBA.out.size) (fun j hj => (HSD.out.own.lt j hj).1))
            have HN9 : Hid ((∀ j, j < F.n → R j ≠ g9) ∧ gm ≠ g9) := Lib.hid (by
              rcases hor with h | h <;> injection h with h
              · have h : g9 = g := h
                rw [h]; exact HSD.out.ne
              · have h : g9 = (wd.alloc (.cells #[.int .i64 (i : Int), .int .i64 (k : Int), .int .i64 (p1 : Int), .int .i64 (p2 : Int)] 43)).heap.size := h
                rw [hlA] at h
                exact ⟨fun j hj => by have := (HSD.out.mat.lt j hj).2.1; omega, by have := HSD.out.mat.lg.2; omega⟩)
            have HS9 : Hid (DuS F w1 w9 (g0 + 1) g9 cap9 gm R C (rawTo F i ++ rawIn F i (k + 1))) := Lib.hid ⟨by
              rw [HRI.out, ← List.append_assoc]
              unfold DuO
              rw [List.length_append, List.length_append, List.flatMap_append]
              simpa using hown', HM9.out, HN9.out, HB9.out⟩
            refine hK.out _ _ HM9.out (fun hHeld2 => ?_)
            clear hK K hHeld hown' hgrow hiff hor HCE HOWN HBA HSD HM9 HB9 HN9 hlA
            have hHeld := hHeld2
            clear hHeld2
            try simp only [Act.put, List.setIfInBounds_toArray, List.set_cons_zero, List.set_cons_succ]
            refine wpAnyH_take (i := 20) (v := ?_) rfl (by kernel_rfl) (by kernel_rfl) (by kernel_rfl) (fun _ _ _ h => h) (Or.inl ⟨by rfl, ?_⟩) (by assumption) ?_
            rotate_left
            · intro W9 hSw
              have m1 := (hSw.top i hlti).1
              have m2 := (hSw.top k hltk).1
              have m3 := hSw.get hlti hltk
              have m4 := hSw.get hltk hlti
              rw [← HP12.out.1] at m3
              rw [← HP12.out.2] at m4
              try simp only [List.getElem_toArray, List.getElem_cons_zero, List.getElem_cons_succ]
              first | (go_simp; done) | (go_simp; with_reducible rfl)
            try simp only [Act.put, List.getElem_toArray, List.getElem_cons_zero, List.getElem_cons_succ, List.setIfInBounds_toArray, List.set_cons_zero, List.set_cons_succ]
            refine wpAnyH_done (by kernel_rfl) ?_ _
            clear hHeld
            go_wp2
            go_roundw
            case rel => exact ⟨k + 1, g9, cap9, by omega, by go_num, by rw [HRI.out, List.length_append, List.length_append]; rfl, HS9.out⟩
            case measure => simp [RowKit.intOf]; omega
          · rw [if_neg hp] at HRI
            have hd1 : decide (p2 < p1) = false := decide_eq_false hp
            have hd2 : decide ((p2 : Int) < (p1 : Int)) = false := decide_eq_false (by omega)
            have hd3 : ¬ (p2 : Int) < (p1 : Int) := by omega
            go_wp2_with (fail)
            refine wp_region_at (by kernel_rfl) (by kernel_rfl) ?_
            repeat (go_big_quiet_step (fail))
            refine wpQuiet_nil ?_
            rintro _ ⟨y, rfl⟩
            have HSN := Lib.hid (HS.out.below y.ok)
            rw [← HRI.out] at HSN
            go_wp2
            go_roundw
            case rel => exact ⟨k + 1, g, cap, by omega, by go_num, by rw [HRI.out, List.length_append], HSN.out⟩
            case measure => simp [RowKit.intOf]; omega
        · have hge : ¬ (k : Int) < (F.n : Int) := by omega
          obtain rfl : k = F.n := by omega
          have HSN := Lib.hid HS.out
          rw [← rawTo_snoc] at HSN ⊢
          clear hltk HS
          go_wp2
          go_roundw
          case rel => exact ⟨i + 1, g, cap, by omega, by go_num, rfl, HSN.out⟩
          case measure => simp [RowKit.intOf]; omega
    · have hge : ¬ (i : Int) < (F.n : Int) := by omega
      obtain rfl : i = F.n := by omega
      have hgl := HS.out.own.lt g rfl
      have hrow : Row wr g ((rawTo F F.n).flatMap (duC F)) := by
        obtain ⟨_, _, q0, _, _, hh⟩ := OwnL.of_own (duC F) (size := 4) (fun _ => rfl) HS.out.own
        by_cases h0 : rawTo F F.n = []
        · rw [h0]; exact ⟨fun j u hj => by simp at hj, fun j hj => by simp at hj⟩
        · obtain ⟨g', e1, _, _, hr⟩ := hh h0
          injection q0 with q0
          rw [← q0] at e1
          injection e1 with e1
          injection e1 with e1
          rw [e1]
          exact hr
      have hcap : (rawTo F F.n).length ≤ cap ∧ cap ≤ maxLen := by
        obtain ⟨g5, cap5, e5, h51, h52⟩ := own_some HS.out.own (by simp)
        injection e5 with _ _ e5
        exact ⟨by omega, by omega⟩
      have HCAP := Lib.hid hcap
      have hsd := sortDu_any F HF.out (rawTo F F.n) (raw_len F hn6) g cap wr hrow hgl.2
      have HSD := Lib.hid hsd
      have HLE : Hid ((duels F).length = (rawTo F F.n).length) := Lib.hid (insK_len _ _ _)
      have HBW := Lib.hid HS.out.bel
      unfold DuSortPost at HSD
      clear hsd hrow hlti hcap
      go_wp2_with (fail)
      refine HSD.out.mono ?_
      rintro e w9 ⟨rfl, hr9, ht9⟩
      have HR9 : Hid (Row w9 g ((duels F).flatMap (duC F))) := Lib.hid hr9
      have HB9 : Hid (Below w.heap.size w w9) := Lib.hid (BW.out ⟨w9, HBW.out.trans (ht9.below HBW.out.size (fun b e => by omega))⟩)
      have hg9 := Nat.lt_of_lt_of_le hgl.2 ht9.size
      have hz := HZ1.out
      clear hr9 ht9
      go_wp2
      go_ret
      exact ⟨g, cap, by rw [HLE.out]; rfl, HR9.out, by omega, hg9, by rw [HLE.out]; exact HCAP.out.1, HCAP.out.2, HB9.out⟩
end Go.Proofs.Ytlbnebmdolnagaa

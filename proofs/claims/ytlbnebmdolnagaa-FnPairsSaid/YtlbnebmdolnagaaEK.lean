/- The ranked order, walked. Whether a list is a ranking; the index of a number, walked. -/
import Derived.Test.YtlbnebmdolnagaaEI
import Derived.Test.YtlbnebmdolnagaaKE
namespace Go.Proofs.Ytlbnebmdolnagaa
open Go.RowKit Go.Lib

structure RkS (F : Pf) (D : List (Nat × Nat)) (lk : List Bool) (w1 wr : World) (gd gl go cap : Nat) (o : List Nat) : Prop where
  rd : Row wr gd (D.flatMap (duC F))
  rl : Row wr gl (lk.map Value.bool)
  lt : gd < wr.heap.size ∧ gl < wr.heap.size
  ne : gd ≠ go ∧ gl ≠ go
  own : PathO wr w1.heap.size go cap o
  bel : Below w1.heap.size w1 wr
theorem RkS.below {F : Pf} {D : List (Nat × Nat)} {lk : List Bool} {w1 wr w' : World} {gd gl go cap : Nat} {o : List Nat} (h : RkS F D lk w1 wr gd gl go cap o) (hb : Below wr.heap.size wr w') : RkS F D lk w1 w' gd gl go cap o :=
  ⟨h.rd.below hb h.lt.1, h.rl.below hb h.lt.2, ⟨Nat.lt_of_lt_of_le h.lt.1 hb.size, Nat.lt_of_lt_of_le h.lt.2 hb.size⟩, h.ne, h.own.below hb, below_then h.bel h.bel.size hb⟩
def WtR (D : List (Nat × Nat)) (lk : List Bool) (o : List Nat) (x i : Nat) (v : Bool) : Prop :=
  (v = true → ∃ j, j < i ∧ ∃ p : Nat × Nat, D[j]? = some p ∧ lk[j]? = some true ∧ p.2 = x ∧ p.1 ∉ o) ∧
  (v = false → ∀ j, j < i → ∀ p : Nat × Nat, D[j]? = some p → lk[j]? = some true → p.2 = x → p.1 ∈ o)
theorem WtR.start (D : List (Nat × Nat)) (lk : List Bool) (o : List Nat) (x : Nat) : WtR D lk o x 0 false := ⟨(fun h => by cases h), fun _ j hj => by omega⟩
theorem WtR.stay {D : List (Nat × Nat)} {lk : List Bool} {o : List Nat} {x i : Nat} (h : WtR D lk o x i true) : WtR D lk o x (i + 1) true :=
  ⟨fun _ => by obtain ⟨j, hj, hh⟩ := h.1 rfl; exact ⟨j, by omega, hh⟩, fun h => by cases h⟩
theorem WtR.no {D : List (Nat × Nat)} {lk : List Bool} {o : List Nat} {x i : Nat} {p : Nat × Nat} {l : Bool} (h : WtR D lk o x i false) (hp : D[i]? = some p) (hl : lk[i]? = some l) (hn : l = true → p.2 = x → p.1 ∈ o) : WtR D lk o x (i + 1) false :=
  ⟨(fun h => by cases h), fun _ j hj q hq hlq he => by
    by_cases e : j = i
    · subst e
      rw [hp] at hq
      injection hq with hq
      subst hq
      rw [hl] at hlq
      injection hlq with hlq
      exact hn hlq he
    · exact h.2 rfl j (by omega) q hq hlq he⟩
theorem WtR.yes {D : List (Nat × Nat)} {lk : List Bool} {o : List Nat} {x i : Nat} {p : Nat × Nat} (hp : D[i]? = some p) (hl : lk[i]? = some true) (he : p.2 = x) (hn : p.1 ∉ o) : WtR D lk o x (i + 1) true :=
  ⟨fun _ => ⟨i, by omega, p, hp, hl, he, hn⟩, fun h => by cases h⟩
theorem WtR.yesL {D : List (Nat × Nat)} {lk : List Bool} {o : List Nat} {x : Nat} (h : WtR D lk o x D.length true) : ∃ p ∈ lkL D lk D.length, p.2 = x ∧ p.1 ∉ o := by
  obtain ⟨j, hj, p, h1, h2, h3, h4⟩ := h.1 rfl
  exact ⟨p, lkL_mem.2 ⟨j, hj, h1, h2⟩, h3, h4⟩
theorem WtR.noL {D : List (Nat × Nat)} {lk : List Bool} {o : List Nat} {x : Nat} (h : WtR D lk o x D.length false) : ∀ p ∈ lkL D lk D.length, p.2 = x → p.1 ∈ o := fun p hp he => by
  obtain ⟨j, hj, h1, h2⟩ := lkL_mem.1 hp
  exact h.2 rfl j hj p h1 h2 he
theorem ord_len {n : Nat} {Q : List (Nat × Nat)} {o : List Nat} (h : OrdL n Q o) : o.length ≤ n := nodup_le n o h.nodup h.lt
def RoPost (F : Pf) (w : World) (e : Ending) (w' : World) : Prop :=
  ∃ o g c, e = .returned (.tuple #[.slice (some ⟨g, 0, none⟩) o.length c, .bool true]) ∧ (∃ lk, IsLk F.n (duels F) lk ∧ lk.length = (duels F).length ∧ OrdL F.n (lkL (duels F) lk (duels F).length) o) ∧ o.length = F.n ∧ PathO w' w.heap.size g c o ∧ Below w.heap.size w w'
theorem po0 (W : World) : PathO (W.alloc (.cells #[] 2)) W.heap.size W.heap.size 0 [] := by
  unfold PathO
  rw [show (barL []).flatMap intCells = ([] : List Value) from rfl]
  simpa using World.ownsRow_made W #[] 0 (Nat.le_refl _) (Nat.zero_le _) rfl
set_option maxRecDepth 100000 in
set_option maxHeartbeats 8000000 in
theorem rankedOrder_any (F : Pf) (hF : F.Ok) (A1 : Option Addr) (c1 : Nat) (A2 : Option Addr) (c2 : Nat) (w : World) (h : PfR w w.heap.size F A1 c1 A2 c2) :
    Calls Try.prog 20 #[pfV F A1 c1 A2 c2] w (RoPost F w) := by
  obtain ⟨q1, q2, q3, q4, b1, o1, b2, o2, hc⟩ := h.cells hF
  obtain ⟨rfl, rfl, -, -⟩ := hc
  obtain ⟨w1, hw1, hs1, hbw1, z0, z1, fr, bw⟩ := pbox_at h
  have HV := Lib.hid (fun y => validP_any F hF _ _ _ _ _ (fr y))
  have BW := Lib.hid bw
  have HDU := Lib.hid (fun y => duels_any F hF _ _ _ _ _ (fr y))
  have HLO := Lib.hid (fun y => locks_any F hF _ _ _ _ _ (fr y))
  have HOP := Lib.hid (fun y => options_any F hF _ _ _ _ _ (fr y))
  have hD15 : (duels F).length ≤ 15 := (duels_dul F).few hF.n6
  have HDL := Lib.hid (duels_dul F)
  have hn6 := hF.n6
  obtain ⟨i0, hi, hz0, hz1', hz2⟩ := info_parts Try.infoI
  unfold DuelsPost at HDU
  unfold LkPost at HLO
  unfold RoPost
  unfold pfV
  unfold pfV at HV HDU HLO HOP
  obtain ⟨D, hDe⟩ : ∃ D, D = duels F := ⟨_, rfl⟩
  rw [← hDe] at HDU HLO HDL hD15 ⊢
  clear hDe hF h fr bw hbw1
  go_enter Try.func20, Try.ntmps20
  go_upto_region 1 with (fail)
  rw [← hw1]
  have HZ1 := Lib.hid hs1
  obtain ⟨x0, hx0⟩ : ∃ y : Aft w1, y.val = w1 := ⟨⟨w1, Below.refl _ _⟩, rfl⟩
  rw [← hx0]
  clear hx0 hw1 hs1
  go_wp2_with (fail)
  refine (aft_b (HV.out x0)).mono ?_
  rintro e _ ⟨rfl, x1, rfl⟩
  go_upto_region 3 with (fail)
  go_cut [4, 5, 6] (fun v4 v5 v6 wx => ∃ (gd cd gl cl2 go : Nat) (lk : List Bool), v4 = .slice (some ⟨gd, 0, none⟩) D.length cd ∧ v5 = .slice (some ⟨gl, 0, none⟩) D.length cl2 ∧ v6 = .slice (some ⟨go, 0, none⟩) 0 0 ∧ IsLk F.n D lk ∧ lk.length = D.length ∧ RkS F D lk w1 wx gd gl go 0 [])
  case first =>
    have c0 : ∀ W, Beh w1 W → W.cell? ⟨w.heap.size, 0, none⟩ = some (.slice (some ⟨b1, o1, none⟩) F.L.length c1) := fun W h => z0 ⟨W, h⟩
    have c1' : ∀ W, Beh w1 W → W.cell? ⟨w.heap.size, 1, none⟩ = some (.slice (some ⟨b2, o2, none⟩) F.L.length c2) := fun W h => z1 ⟨W, h⟩
    have hS0 : Beh w1 x1.val.drew := Beh.draw x1.ok
    obtain ⟨wd, hwd⟩ : ∃ X, X = x1.val.drew := ⟨_, rfl⟩
    refine wp_region_held_drew (S := fun w' => Beh w1 w') (by kernel_rfl) hS0 (fun hHeld => ?_)
    rw [← hwd] at hHeld ⊢
    have h1d := hHeld.size
    clear z0 z1 hS0 hwd
    refine wpAnyH_take (i := 0) (v := ?_) rfl (by kernel_rfl) (by kernel_rfl) (by kernel_rfl) (fun _ _ _ h => h) (Or.inl ⟨by rfl, ?_⟩) (by assumption) ?_
    rotate_left
    · intro W9 hSw
      have hq0 := c0 W9 hSw
      have hq1 := c1' W9 hSw
      try simp only [List.getElem_toArray, List.getElem_cons_zero]
      first | (go_simp; done) | (go_simp; with_reducible rfl)
    try simp only [Act.put, List.getElem_toArray, List.getElem_cons_zero, List.setIfInBounds_toArray, List.set_cons_zero, List.set_cons_succ]
    refine wpAnyH_take (i := 2) (v := ?_) rfl (by kernel_rfl) (by kernel_rfl) (by kernel_rfl) (fun _ _ _ h => h) (Or.inl ⟨by rfl, ?_⟩) (by assumption) ?_
    rotate_left
    · intro W9 hSw
      have hq0 := c0 W9 hSw
      have hq1 := c1' W9 hSw
      try simp only [List.getElem_toArray, List.getElem_cons_zero, List.getElem_cons_succ]
      first | (go_simp; done) | (go_simp; with_reducible rfl)
    try simp only [Act.put, List.getElem_toArray, List.getElem_cons_zero, List.getElem_cons_succ, List.setIfInBounds_toArray, List.set_cons_zero, List.set_cons_succ]
    refine wpAnyH_ready (rs := [1, 4]) (by kernel_rfl) (by simp) ?_
    refine AllReadyH.cons rfl (fun K hK => ?_) (AllReadyH.cons rfl (fun K hK => ?_) AllReadyH.nil)
    · simp only [List.getElem_toArray, List.getElem_cons_zero, List.getElem_cons_succ]
      go_simp
      go_at_call 63
      refine Calls.mono (HDU.out ⟨_, hHeld⟩) ?_
      rintro e w5 ⟨gd, cd, rfl, hrd, hgx, hgd, hcd, hcm, hb5⟩
      replace hgx : (wd).heap.size ≤ gd := hgx
      replace hb5 : Below (wd).heap.size wd w5 := hb5
      refine hK.out _ _ (Beh.go hb5 hHeld) (fun hHeld2 => ?_)
      clear hK K hHeld
      have hHeld := hHeld2
      clear hHeld2
      try simp only [Act.put, List.setIfInBounds_toArray, List.set_cons_zero, List.set_cons_succ]
      have h5d := hb5.size
      refine wpAnyH_ready (rs := [3, 4]) (by kernel_rfl) (by simp) ?_
      refine AllReadyH.cons rfl (fun K hK => ?_) (AllReadyH.cons rfl (fun K hK => ?_) AllReadyH.nil)
      · simp only [List.getElem_toArray, List.getElem_cons_zero, List.getElem_cons_succ]
        go_simp
        go_at_call 64
        refine Calls.mono (HLO.out ⟨_, hHeld⟩) ?_
        rintro e w6 ⟨gl, cl2, lk, rfl, hlk, hll, hrl, hgy, hgl, hcl, hclm, hb6⟩
        replace hgy : (w5).heap.size ≤ gl := hgy
        replace hb6 : Below (w5).heap.size w5 w6 := hb6
        refine hK.out _ _ (Beh.go hb6 hHeld) (fun hHeld2 => ?_)
        clear hK K hHeld
        have hHeld := hHeld2
        clear hHeld2
        try simp only [Act.put, List.setIfInBounds_toArray, List.set_cons_zero, List.set_cons_succ]
        refine wpAnyH_take (i := 5) (v := ?_) rfl (by kernel_rfl) (by kernel_rfl) (by kernel_rfl) (fun _ _ _ h => h) (Or.inl ⟨by rfl, ?_⟩) (by assumption) ?_
        rotate_left
        · intro W9 hSw
          have hq0 := c0 W9 hSw
          have hq1 := c1' W9 hSw
          try simp only [List.getElem_toArray, List.getElem_cons_zero, List.getElem_cons_succ]
          first | (go_simp; done) | (go_simp; with_reducible rfl)
        try simp only [Act.put, List.getElem_toArray, List.getElem_cons_zero, List.getElem_cons_succ, List.setIfInBounds_toArray, List.set_cons_zero, List.set_cons_succ]
        refine wpAnyH_take (i := 6) (v := ?_) rfl (by kernel_rfl) (by kernel_rfl) (by kernel_rfl) (fun _ _ _ h => h) (Or.inl ⟨by rfl, ?_⟩) (by assumption) ?_
        rotate_left
        · intro W9 hSw
          have hq0 := c0 W9 hSw
          have hq1 := c1' W9 hSw
          try simp only [List.getElem_toArray, List.getElem_cons_zero, List.getElem_cons_succ]
          first | (go_simp; done) | (go_simp; with_reducible rfl)
        try simp only [Act.put, List.getElem_toArray, List.getElem_cons_zero, List.getElem_cons_succ, List.setIfInBounds_toArray, List.set_cons_zero, List.set_cons_succ]
        refine wpAnyH_ready (rs := [4]) (by kernel_rfl) (by simp) ?_
        refine AllReadyH.cons rfl (fun K hK => ?_) AllReadyH.nil
        have h6d := hb6.size
        simp only [List.getElem_toArray, List.getElem_cons_zero, List.getElem_cons_succ]
        go_simp
        have hbA : Below (w6).heap.size w6 ((w6).alloc (.cells #[] 2)) := (Below.refl _ _).alloc (Nat.le_refl _) _
        have hpo := po0 (w6)
        have hsA : ((w6).alloc (.cells #[] 2)).heap.size = (w6).heap.size + 1 := by simp
        refine hK.out _ _ (Beh.go hbA hHeld) (fun hHeld2 => ?_)
        clear hK K hHeld
        have hHeld := hHeld2
        clear hHeld2
        try simp only [Act.put, List.setIfInBounds_toArray, List.set_cons_zero, List.set_cons_succ]
        refine wpAnyH_take (i := 7) (v := ?_) rfl (by kernel_rfl) (by kernel_rfl) (by kernel_rfl) (fun _ _ _ h => h) (Or.inl ⟨by rfl, ?_⟩) (by assumption) ?_
        rotate_left
        · intro W9 hSw
          have hq0 := c0 W9 hSw
          have hq1 := c1' W9 hSw
          try simp only [List.getElem_toArray, List.getElem_cons_zero, List.getElem_cons_succ]
          first | (go_simp; done) | (go_simp; with_reducible rfl)
        try simp only [Act.put, List.getElem_toArray, List.getElem_cons_zero, List.getElem_cons_succ, List.setIfInBounds_toArray, List.set_cons_zero, List.set_cons_succ]
        refine wpAnyH_done (by kernel_rfl) ?_ _
        have HRK := Lib.hid (show RkS F D lk w1 (w6.alloc (.cells #[] 2)) gd gl w6.heap.size 0 [] from ⟨(hrd.below hb6 hgd).below hbA (by omega), hrl.below hbA hgl, by omega, by omega, hpo.less (by omega), hHeld⟩)
        have HLK := Lib.hid (And.intro hlk hll)
        clear hHeld
        go_wp2
        go_meet
        case rel => exact ⟨gd, cd, gl, cl2, _, lk, rfl, rfl, rfl, HLK.out.1, HLK.out.2, HRK.out⟩
      · simp only [List.getElem_toArray, List.getElem_cons_zero, List.getElem_cons_succ]
        go_simp
        have hbA : Below (w5).heap.size w5 ((w5).alloc (.cells #[] 2)) := (Below.refl _ _).alloc (Nat.le_refl _) _
        have hpo := po0 (w5)
        have hsA : ((w5).alloc (.cells #[] 2)).heap.size = (w5).heap.size + 1 := by simp
        refine hK.out _ _ (Beh.go hbA hHeld) (fun hHeld2 => ?_)
        clear hK K hHeld
        have hHeld := hHeld2
        clear hHeld2
        try simp only [Act.put, List.setIfInBounds_toArray, List.set_cons_zero, List.set_cons_succ]
        refine wpAnyH_ready (rs := [3]) (by kernel_rfl) (by simp) ?_
        refine AllReadyH.cons rfl (fun K hK => ?_) AllReadyH.nil
        simp only [List.getElem_toArray, List.getElem_cons_zero, List.getElem_cons_succ]
        go_simp
        go_at_call 64
        refine Calls.mono (HLO.out ⟨_, hHeld⟩) ?_
        rintro e w6 ⟨gl, cl2, lk, rfl, hlk, hll, hrl, hgy, hgl, hcl, hclm, hb6⟩
        replace hgy : ((w5.alloc (.cells #[] 2))).heap.size ≤ gl := hgy
        replace hb6 : Below ((w5.alloc (.cells #[] 2))).heap.size (w5.alloc (.cells #[] 2)) w6 := hb6
        refine hK.out _ _ (Beh.go hb6 hHeld) (fun hHeld2 => ?_)
        clear hK K hHeld
        have hHeld := hHeld2
        clear hHeld2
        try simp only [Act.put, List.setIfInBounds_toArray, List.set_cons_zero, List.set_cons_succ]
        have h6d := hb6.size
        refine wpAnyH_take (i := 5) (v := ?_) rfl (by kernel_rfl) (by kernel_rfl) (by kernel_rfl) (fun _ _ _ h => h) (Or.inl ⟨by rfl, ?_⟩) (by assumption) ?_
        rotate_left
        · intro W9 hSw
          have hq0 := c0 W9 hSw
          have hq1 := c1' W9 hSw
          try simp only [List.getElem_toArray, List.getElem_cons_zero, List.getElem_cons_succ]
          first | (go_simp; done) | (go_simp; with_reducible rfl)
        try simp only [Act.put, List.getElem_toArray, List.getElem_cons_zero, List.getElem_cons_succ, List.setIfInBounds_toArray, List.set_cons_zero, List.set_cons_succ]
        refine wpAnyH_take (i := 6) (v := ?_) rfl (by kernel_rfl) (by kernel_rfl) (by kernel_rfl) (fun _ _ _ h => h) (Or.inl ⟨by rfl, ?_⟩) (by assumption) ?_
        rotate_left
        · intro W9 hSw
          have hq0 := c0 W9 hSw
          have hq1 := c1' W9 hSw
          try simp only [List.getElem_toArray, List.getElem_cons_zero, List.getElem_cons_succ]
          first | (go_simp; done) | (go_simp; with_reducible rfl)
        try simp only [Act.put, List.getElem_toArray, List.getElem_cons_zero, List.getElem_cons_succ, List.setIfInBounds_toArray, List.set_cons_zero, List.set_cons_succ]
        refine wpAnyH_take (i := 7) (v := ?_) rfl (by kernel_rfl) (by kernel_rfl) (by kernel_rfl) (fun _ _ _ h => h) (Or.inl ⟨by rfl, ?_⟩) (by assumption) ?_
        rotate_left
        · intro W9 hSw
          have hq0 := c0 W9 hSw
          have hq1 := c1' W9 hSw
          try simp only [List.getElem_toArray, List.getElem_cons_zero, List.getElem_cons_succ]
          first | (go_simp; done) | (go_simp; with_reducible rfl)
        try simp only [Act.put, List.getElem_toArray, List.getElem_cons_zero, List.getElem_cons_succ, List.setIfInBounds_toArray, List.set_cons_zero, List.set_cons_succ]
        refine wpAnyH_done (by kernel_rfl) ?_ _
        have HRK := Lib.hid (show RkS F D lk w1 w6 gd gl w5.heap.size 0 [] from ⟨(hrd.below hbA hgd).below hb6 (by omega), hrl, by omega, by omega, (hpo.below hb6).less (by omega), hHeld⟩)
        have HLK := Lib.hid (And.intro hlk hll)
        clear hHeld
        go_wp2
        go_meet
        case rel => exact ⟨gd, cd, gl, cl2, _, lk, rfl, rfl, rfl, HLK.out.1, HLK.out.2, HRK.out⟩
    · simp only [List.getElem_toArray, List.getElem_cons_zero, List.getElem_cons_succ]
      go_simp
      have hbA : Below (wd).heap.size wd ((wd).alloc (.cells #[] 2)) := (Below.refl _ _).alloc (Nat.le_refl _) _
      have hpo := po0 (wd)
      have hsA : ((wd).alloc (.cells #[] 2)).heap.size = (wd).heap.size + 1 := by simp
      refine hK.out _ _ (Beh.go hbA hHeld) (fun hHeld2 => ?_)
      clear hK K hHeld
      have hHeld := hHeld2
      clear hHeld2
      try simp only [Act.put, List.setIfInBounds_toArray, List.set_cons_zero, List.set_cons_succ]
      refine wpAnyH_ready (rs := [1]) (by kernel_rfl) (by simp) ?_
      refine AllReadyH.cons rfl (fun K hK => ?_) AllReadyH.nil
      simp only [List.getElem_toArray, List.getElem_cons_zero, List.getElem_cons_succ]
      go_simp
      go_at_call 63
      refine Calls.mono (HDU.out ⟨_, hHeld⟩) ?_
      rintro e w5 ⟨gd, cd, rfl, hrd, hgx, hgd, hcd, hcm, hb5⟩
      replace hgx : ((wd.alloc (.cells #[] 2))).heap.size ≤ gd := hgx
      replace hb5 : Below ((wd.alloc (.cells #[] 2))).heap.size (wd.alloc (.cells #[] 2)) w5 := hb5
      refine hK.out _ _ (Beh.go hb5 hHeld) (fun hHeld2 => ?_)
      clear hK K hHeld
      have hHeld := hHeld2
      clear hHeld2
      try simp only [Act.put, List.setIfInBounds_toArray, List.set_cons_zero, List.set_cons_succ]
      have h5d := hb5.size
      refine wpAnyH_ready (rs := [3]) (by kernel_rfl) (by simp) ?_
      refine AllReadyH.cons rfl (fun K hK => ?_) AllReadyH.nil
      simp only [List.getElem_toArray, List.getElem_cons_zero, List.getElem_cons_succ]
      go_simp
      go_at_call 64
      refine Calls.mono (HLO.out ⟨_, hHeld⟩) ?_
      rintro e w6 ⟨gl, cl2, lk, rfl, hlk, hll, hrl, hgy, hgl, hcl, hclm, hb6⟩
      replace hgy : (w5).heap.size ≤ gl := hgy
      replace hb6 : Below (w5).heap.size w5 w6 := hb6
      refine hK.out _ _ (Beh.go hb6 hHeld) (fun hHeld2 => ?_)
      clear hK K hHeld
      have hHeld := hHeld2
      clear hHeld2
      try simp only [Act.put, List.setIfInBounds_toArray, List.set_cons_zero, List.set_cons_succ]
      have h6d := hb6.size
      refine wpAnyH_take (i := 5) (v := ?_) rfl (by kernel_rfl) (by kernel_rfl) (by kernel_rfl) (fun _ _ _ h => h) (Or.inl ⟨by rfl, ?_⟩) (by assumption) ?_
      rotate_left
      · intro W9 hSw
        have hq0 := c0 W9 hSw
        have hq1 := c1' W9 hSw
        try simp only [List.getElem_toArray, List.getElem_cons_zero, List.getElem_cons_succ]
        first | (go_simp; done) | (go_simp; with_reducible rfl)
      try simp only [Act.put, List.getElem_toArray, List.getElem_cons_zero, List.getElem_cons_succ, List.setIfInBounds_toArray, List.set_cons_zero, List.set_cons_succ]
      refine wpAnyH_take (i := 6) (v := ?_) rfl (by kernel_rfl) (by kernel_rfl) (by kernel_rfl) (fun _ _ _ h => h) (Or.inl ⟨by rfl, ?_⟩) (by assumption) ?_
      rotate_left
      · intro W9 hSw
        have hq0 := c0 W9 hSw
        have hq1 := c1' W9 hSw
        try simp only [List.getElem_toArray, List.getElem_cons_zero, List.getElem_cons_succ]
        first | (go_simp; done) | (go_simp; with_reducible rfl)
      try simp only [Act.put, List.getElem_toArray, List.getElem_cons_zero, List.getElem_cons_succ, List.setIfInBounds_toArray, List.set_cons_zero, List.set_cons_succ]
      refine wpAnyH_take (i := 7) (v := ?_) rfl (by kernel_rfl) (by kernel_rfl) (by kernel_rfl) (fun _ _ _ h => h) (Or.inl ⟨by rfl, ?_⟩) (by assumption) ?_
      rotate_left
      · intro W9 hSw
        have hq0 := c0 W9 hSw
        have hq1 := c1' W9 hSw
        try simp only [List.getElem_toArray, List.getElem_cons_zero, List.getElem_cons_succ]
        first | (go_simp; done) | (go_simp; with_reducible rfl)
      try simp only [Act.put, List.getElem_toArray, List.getElem_cons_zero, List.getElem_cons_succ, List.setIfInBounds_toArray, List.set_cons_zero, List.set_cons_succ]
      refine wpAnyH_done (by kernel_rfl) ?_ _
      have HRK := Lib.hid (show RkS F D lk w1 w6 gd gl wd.heap.size 0 [] from ⟨hrd.below hb6 hgd, hrl, by omega, by omega, ((hpo.below hb5).below hb6).less (by omega), hHeld⟩)
      have HLK := Lib.hid (And.intro hlk hll)
      clear hHeld
      go_wp2
      go_meet
      case rel => exact ⟨gd, cd, gl, cl2, _, lk, rfl, rfl, rfl, HLK.out.1, HLK.out.2, HRK.out⟩
  case rest =>
    obtain ⟨gd, cd, gl, cl2, go0, lk, rfl, rfl, rfl, hlk, hll, hrk⟩ := hcut
    generalize wc = w3 at *
    have HLK := Lib.hid hlk
    have HLL := Lib.hid hll
    have HRK := Lib.hid hrk
    have HNC := Lib.hid (hlk.noc (fun p hp => ((HDL.out.mem p).1 hp).2.1) D.length (by omega))
    have HDM : Hid (∀ p ∈ lkL D lk D.length, p.1 < F.n) := Lib.hid (fun p hp => by
      obtain ⟨j, _, h1, _⟩ := lkL_mem.1 hp
      exact ((HDL.out.mem p).1 (List.mem_of_getElem? h1)).1)
    clear hlk hll hrk HDU HLO
    go_wp2
    go_loopw [6, 7, 8, 9, 10] (fun v6 _ _ _ _ wr => ∃ (go cap : Nat) (o : List Nat), v6 = .slice (some ⟨go, 0, none⟩) o.length cap ∧ RkS F D lk w1 wr gd gl go cap o ∧ OrdL F.n (lkL D lk D.length) o) (fun v6 _ _ _ _ _ => F.n - lenV v6)
    case atStart => exact ⟨go0, 0, [], rfl, HRK.out, OrdL.nil _ _⟩
    case round =>
      obtain ⟨go, cap, o, rfl, hrk, hord⟩ := hrel
      generalize wr = wo at *
      have hol := ord_len hord
      have HRO := Lib.hid hrk
      have HORD := Lib.hid hord
      have z0r : wo.cell? ⟨w.heap.size, 0, none⟩ = some (.slice (some ⟨b1, o1, none⟩) F.L.length c1) := z0 ⟨wo, hrk.bel⟩
      have z1r : wo.cell? ⟨w.heap.size, 1, none⟩ = some (.slice (some ⟨b2, o2, none⟩) F.L.length c2) := z1 ⟨wo, hrk.bel⟩
      clear hrk hord HRK
      by_cases hfull : o.length < F.n
      · have hoi : (o.length : Int) < (F.n : Int) := by omega
        go_wp2_with (fail)
        refine (HOP.out ⟨wo, HRO.out.bel⟩).mono ?_
        rintro e w5 ⟨rfl, hb5⟩
        have HR5 := Lib.hid (HRO.out.below hb5)
        have y0 : w5.cell? ⟨w.heap.size, 0, none⟩ = some (.slice (some ⟨b1, o1, none⟩) F.L.length c1) := z0 ⟨w5, HR5.out.bel⟩
        have y1 : w5.cell? ⟨w.heap.size, 1, none⟩ = some (.slice (some ⟨b2, o2, none⟩) F.L.length c2) := z1 ⟨w5, HR5.out.bel⟩
        clear hb5 z0r z1r HRO
        go_wp2_with (fail)
        refine (HOP.out ⟨w5, HR5.out.bel⟩).mono ?_
        rintro e w6 ⟨rfl, hb6⟩
        have HR6 := Lib.hid (HR5.out.below hb6)
        clear hb6 y0 y1 HR5
        go_wp2
        go_loopw [6, 7, 8, 9, 10, 26] (fun v6 _ _ _ _ xx wr => ∃ (x : Nat), x ≤ F.n ∧ xx = .int .i64 (x : Int) ∧ v6 = .slice (some ⟨go, 0, none⟩) o.length cap ∧ RkS F D lk w1 wr gd gl go cap o ∧ ∀ y, y < x → y ∈ o ∨ ∃ p ∈ lkL D lk D.length, p.2 = y ∧ p.1 ∉ o) (fun _ _ _ _ _ xx _ => F.n - (RowKit.intOf xx).toNat)
        case atStart => exact ⟨0, Nat.zero_le _, rfl, rfl, HR6.out, fun y hy => by omega⟩
        case round =>
          obtain ⟨x, hx, rfl, rfl, hrk, hno⟩ := hrel
          generalize wr = wm at *
          have HRM := Lib.hid hrk
          have HNO := Lib.hid hno
          clear hrk hno HR6
          by_cases hlt : x < F.n
          · have hxi : (x : Int) < (F.n : Int) := by omega
            have HW0 := Lib.hid (WtR.start D lk o x)
            go_wp2
            go_loopw [8, 9, 10, 31] (fun vv _ _ ii wr => ∃ (i : Nat) (v : Bool), i ≤ D.length ∧ vv = .bool v ∧ ii = .int .i64 (i : Int) ∧ WtR D lk o x i v ∧ RkS F D lk w1 wr gd gl go cap o) (fun _ _ _ ii _ => D.length - (RowKit.intOf ii).toNat)
            case atStart => exact ⟨0, false, Nat.zero_le _, rfl, rfl, HW0.out, HRM.out⟩
            case round =>
              obtain ⟨i, v, hi9, rfl, rfl, hwt, hrk⟩ := hrel
              have HRI := Lib.hid hrk
              have HWT := Lib.hid hwt
              clear hrk hwt HW0 HRM
              by_cases hlti : i < D.length
              · have hii : (i : Int) < (D.length : Int) := by omega
                have hi0 : (0 : Int) ≤ (i : Int) := by omega
                have hgd : D[i]? = some D[i] := List.getElem?_eq_getElem hlti
                have hgl : lk[i]? = some (lk[i]'(by have := HLL.out; omega)) := List.getElem?_eq_getElem (by have := HLL.out; omega)
                generalize D[i] = p at *
                generalize lk[i]'(by have := HLL.out; omega) = l at *
                have HX := Lib.hid (And.intro hgd hgl)
                obtain ⟨k0, k1, k2, k3⟩ := row_du HRI.out.rd hgd
                obtain ⟨x1, x2⟩ := p
                clear hgd hgl
                go_upto_region 12 with (fail)
                have hbA : Below wr.heap.size wr (wr.alloc (.cells #[.int .i64 (x1 : Int), .int .i64 (x2 : Int), .int .i64 (prs F x1 x2 : Int), .int .i64 (prs F x2 x1 : Int)] 43)) := (Below.refl _ _).alloc (Nat.le_refl _) _
                have n0 : (wr.alloc (.cells #[.int .i64 (x1 : Int), .int .i64 (x2 : Int), .int .i64 (prs F x1 x2 : Int), .int .i64 (prs F x2 x1 : Int)] 43)).cell? ⟨wr.heap.size, 0, none⟩ = some (.int .i64 (x1 : Int)) := new_at (cs := [.int .i64 (x1 : Int), .int .i64 (x2 : Int), .int .i64 (prs F x1 x2 : Int), .int .i64 (prs F x2 x1 : Int)]) (j := 0) rfl
                have n1 : (wr.alloc (.cells #[.int .i64 (x1 : Int), .int .i64 (x2 : Int), .int .i64 (prs F x1 x2 : Int), .int .i64 (prs F x2 x1 : Int)] 43)).cell? ⟨wr.heap.size, 1, none⟩ = some (.int .i64 (x2 : Int)) := new_at (cs := [.int .i64 (x1 : Int), .int .i64 (x2 : Int), .int .i64 (prs F x1 x2 : Int), .int .i64 (prs F x2 x1 : Int)]) (j := 1) rfl
                generalize wr.alloc (.cells #[.int .i64 (x1 : Int), .int .i64 (x2 : Int), .int .i64 (prs F x1 x2 : Int), .int .i64 (prs F x2 x1 : Int)] 43) = wa at *
                have HRA := Lib.hid (HRI.out.below hbA)
                have l0 := HRA.out.rl.cell i (.bool l) (by rw [List.getElem?_map, HX.out.2]; rfl)
                clear k0 k1 k2 k3 hbA
                cases v with
                | true =>
                  have HW2 := Lib.hid (WtR.stay HWT.out)
                  go_wp2
                  go_roundw
                  case rel => exact ⟨i + 1, true, by omega, rfl, by go_num, HW2.out, HRA.out⟩
                  case measure => simp [RowKit.intOf]; omega
                | false =>
                  cases l with
                  | false =>
                    have HW2 := Lib.hid (WtR.no HWT.out HX.out.1 HX.out.2 (fun h => by cases h))
                    go_wp2
                    go_roundw
                    case rel => exact ⟨i + 1, false, by omega, rfl, by go_num, HW2.out, HRA.out⟩
                    case measure => simp [RowKit.intOf]; omega
                  | true =>
                    by_cases e2 : x2 = x
                    · have e2i : ((x2 : Int) = (x : Int)) := by omega
                      have e2b : ((x2 : Int) == (x : Int)) = true := by rw [e2i]; exact beq_self_eq_true _
                      have HCN := Lib.hid (retQ_b (contains2_val (barL o) (x1 : Int) wa _ (o.contains x1) HRA.out.own.ints bar_has))
                      have HE2 := Lib.hid e2
                      clear e2
                      cases hcb : o.contains x1 with
                      | true =>
                        rw [hcb] at HCN
                        have HW2 := Lib.hid (WtR.no HWT.out HX.out.1 HX.out.2 (fun _ _ => List.contains_iff_mem.1 hcb))
                        clear hcb
                        go_wp2_with (fail)
                        refine HCN.out.mono ?_
                        rintro e wb ⟨rfl, hbb⟩
                        have HRB := Lib.hid (HRA.out.below hbb)
                        clear hbb
                        go_wp2
                        go_roundw
                        case rel => exact ⟨i + 1, false, by omega, rfl, by go_num, HW2.out, HRB.out⟩
                        case measure => simp [RowKit.intOf]; omega
                      | false =>
                        rw [hcb] at HCN
                        have HW2 := Lib.hid (WtR.yes (o := o) (x := x) HX.out.1 HX.out.2 HE2.out (fun h => by rw [List.contains_iff_mem.2 h] at hcb; cases hcb))
                        clear hcb
                        go_wp2_with (fail)
                        refine HCN.out.mono ?_
                        rintro e wb ⟨rfl, hbb⟩
                        have HRB := Lib.hid (HRA.out.below hbb)
                        clear hbb
                        go_wp2
                        go_roundw
                        case rel => exact ⟨i + 1, true, by omega, rfl, by go_num, HW2.out, HRB.out⟩
                        case measure => simp [RowKit.intOf]; omega
                    · have e2i : ¬ ((x2 : Int) = (x : Int)) := by omega
                      have e2b : ((x2 : Int) == (x : Int)) = false := by rw [beq_eq_false_iff_ne]; exact e2i
                      have HW2 := Lib.hid (WtR.no HWT.out HX.out.1 HX.out.2 (fun _ h => absurd h e2))
                      clear e2
                      go_wp2
                      go_roundw
                      case rel => exact ⟨i + 1, false, by omega, rfl, by go_num, HW2.out, HRA.out⟩
                      case measure => simp [RowKit.intOf]; omega
              · have hge : ¬ (i : Int) < (D.length : Int) := by omega
                obtain rfl : i = D.length := by omega
                clear hlti
                cases v with
                | true =>
                  have HN2 : Hid (∀ y, y < x + 1 → y ∈ o ∨ ∃ p ∈ lkL D lk D.length, p.2 = y ∧ p.1 ∉ o) := Lib.hid (fun y hy => by
                    by_cases e : y = x
                    · rw [e]; exact .inr (WtR.yesL HWT.out)
                    · exact HNO.out y (by omega))
                  go_wp2
                  go_roundw
                  case rel => exact ⟨x + 1, by omega, by go_num, rfl, HRI.out, HN2.out⟩
                  case measure => simp [RowKit.intOf]; omega
                | false =>
                  have HCN := Lib.hid (retQ_b (contains2_val (barL o) (x : Int) wr _ (o.contains x) HRI.out.own.ints bar_has))
                  cases hcb : o.contains x with
                  | true =>
                    rw [hcb] at HCN
                    have HN2 : Hid (∀ y, y < x + 1 → y ∈ o ∨ ∃ p ∈ lkL D lk D.length, p.2 = y ∧ p.1 ∉ o) := Lib.hid (fun y hy => by
                      by_cases e : y = x
                      · rw [e]; exact .inl (List.contains_iff_mem.1 hcb)
                      · exact HNO.out y (by omega))
                    clear hcb
                    go_wp2_with (fail)
                    refine HCN.out.mono ?_
                    rintro e w7 ⟨rfl, hb7⟩
                    have HR7 := Lib.hid (HRI.out.below hb7)
                    clear hb7
                    go_wp2
                    go_roundw
                    case rel => exact ⟨x + 1, by omega, by go_num, rfl, HR7.out, HN2.out⟩
                    case measure => simp [RowKit.intOf]; omega
                  | false =>
                    rw [hcb] at HCN
                    have HXO : Hid (x ∉ o) := Lib.hid (fun h => by rw [List.contains_iff_mem.2 h] at hcb; cases hcb)
                    have HO9 := Lib.hid (HORD.out.push hlt HXO.out (WtR.noL HWT.out))
                    clear hcb
                    go_wp2_with (fail)
                    refine HCN.out.mono ?_
                    rintro e w7 ⟨rfl, hb7⟩
                    have HR7 := Lib.hid (HRI.out.below hb7)
                    clear hb7
                    have HROW := Lib.hid HR7.out.own.row
                    have hbA : Below w7.heap.size w7 (w7.alloc (.cells #[.int .i64 (x : Int)] 2)) := (Below.refl _ _).alloc (Nat.le_refl _) _
                    have HBA := Lib.hid hbA
                    clear hbA
                    go_wp2_with (at_builtin; refine wpList_append_own_at _ rfl _ _ 25 rfl w1.heap.size 2 i0 (.int .i64 0) 1 8 Try.underlying25 hi hz0 hz1' hz2 rfl (by decide) _ _ _ rfl (HROW.out.alloc _) ⟨w7.heap.size, 0, none⟩ 1 1 (intCells (x : Int)) rfl rfl (fun j u hj => new_at hj) (fun u hu => int_one' _ hu) ?c3 ?c4 (base_le HR7.out.bel.size) ?_)
                    case c3 => unfold maxLen; omega
                    case c4 => omega
                    intro v' w9 hown' hgrow hiff hor
                    obtain ⟨g9, cap9, rfl, hdc9, hcm9⟩ := own_some hown' (by simpa using hiff)
                    have hR9 : RkS F D lk w1 w9 gd gl g9 cap9 (o ++ [x]) := by
                      have ht : Touch (fun c => c = go) (w7.alloc (.cells #[.int .i64 (x : Int)] 2)) w9 := Touch.of_grown hgrow (fun c hc => by injection hc with hc; exact hc.symm)
                      have q := HR7.out.below HBA.out
                      refine ⟨q.rd.sameC (ht.block gd q.lt.1 q.ne.1), q.rl.sameC (ht.block gl q.lt.2 q.ne.2), ⟨Nat.lt_of_lt_of_le q.lt.1 ht.size, Nat.lt_of_lt_of_le q.lt.2 ht.size⟩, ?_, ?_, q.bel.grown hgrow q.bel.size (fun j hj => (HROW.out.lt j hj).1)⟩
                      · rcases hor with h | h <;> injection h with h
                        · have h : g9 = go := h
                          rw [h]; exact q.ne
                        · have h : g9 = w7.heap.size + 1 := h
                          have := HR7.out.lt
                          omega
                      · unfold PathO
                        rw [barL_snoc, flat_snoc, List.length_append]
                        exact hown'
                    have HR9 := Lib.hid hR9
                    clear hown' hgrow hiff hor hR9 HROW HBA
                    go_wp2
                    go_roundw
                    case rel => exact ⟨g9, cap9, o ++ [x], by rw [List.length_append]; rfl, HR9.out, HO9.out⟩
                    case measure => simp [lenV]; omega
          · have hge : ¬ (x : Int) < (F.n : Int) := by omega
            obtain rfl : x = F.n := by omega
            obtain ⟨y, hy1, hy2, hy3⟩ := HORD.out.free HNC.out HDM.out hfull
            rcases HNO.out y hy1 with h | ⟨p, hp, he, hn⟩
            · exact absurd h hy2
            · exact absurd (hy3 p hp he) hn
      · have hoe : o.length = F.n := by omega
        have hge : ¬ (o.length : Int) < (F.n : Int) := by omega
        have HOE := Lib.hid hoe
        have hl0 := HRO.out.bel
        clear hfull hoe
        go_wp2_with (fail)
        refine (HOP.out ⟨wo, HRO.out.bel⟩).mono ?_
        rintro e w5 ⟨rfl, hb5⟩
        have HR5 := Lib.hid (HRO.out.below hb5)
        have HB5 := Lib.hid (BW.out ⟨w5, HR5.out.bel⟩)
        have HP5 := Lib.hid (HR5.out.own.less (b := w.heap.size) (by have := HZ1.out; omega))
        clear hb5 z0r z1r HRO hl0
        go_wp2
        go_ret2
        exact ⟨o, go, cap, rfl, ⟨lk, HLK.out, HLL.out, HORD.out⟩, HOE.out, HP5.out, HB5.out⟩
end Go.Proofs.Ytlbnebmdolnagaa

namespace Go.Proofs.Ytlbnebmdolnagaa
open Go.RowKit Go.Lib

set_option maxRecDepth 100000 in
set_option maxHeartbeats 4000000 in
theorem index8_any (l : List Nat) (x j : Nat) (hj : l[j]? = some x) (hmin : ∀ i, i < j → l[i]? ≠ some x) (v : Value) (w : World) (hI : Ints w w.heap.size v (barL l)) : Calls Try.prog 23 #[v, .int .i64 (x : Int)] w (RetQ (.int .i64 (j : Int)) w) := by
  obtain ⟨A, c, rfl, hc, hm⟩ := hI.sl
  unfold maxLen at hm
  rw [barL_len] at hI hc ⊢
  have HI := Lib.hid hI
  have HJ := Lib.hid hj
  have HMIN := Lib.hid hmin
  have hjl := (List.getElem?_eq_some_iff.1 hj).1
  clear hI hj hmin
  go_enter Try.func23, Try.ntmps23
  go_wp2
  go_loopw [5] (fun i wr => ∃ k : Nat, k ≤ j ∧ i = .int .i64 (k : Int) ∧ wr = w) (fun i _ => l.length - (RowKit.intOf i).toNat)
  case atStart => exact ⟨0, Nat.zero_le _, rfl, rfl⟩
  case round =>
    obtain ⟨k, hk, rfl, rfl⟩ := hrel
    have hlt : k < l.length := by omega
    have hget : l[k]? = some l[k] := List.getElem?_eq_getElem hlt
    obtain ⟨b, off, rfl, hb, u0⟩ := ints_get HI.out (barL_get hget)
    have HG := Lib.hid hget
    have hki : (k : Int) < (l.length : Int) := by omega
    have hk0 : (0 : Int) ≤ (k : Int) := by omega
    generalize l[k] = a at *
    clear hget
    by_cases hax : a = x
    · have hb2 : ((a : Int) == (x : Int)) = true := by simp [hax]
      have HE : Hid (k = j) := Lib.hid (Classical.byContradiction fun hne => HMIN.out k (by omega) (by rw [HG.out, hax]))
      clear hax
      go_wp2
      go_ret
      exact ⟨by rw [← HE.out]; rfl, 0, rfl⟩
    · have hb2 : ((a : Int) == (x : Int)) = false := by simp; omega
      have hkj : k < j := Nat.lt_of_le_of_ne hk (fun e => by
        have h1 := HJ.out
        rw [← e, HG.out] at h1
        injection h1 with h1
        exact hax h1)
      clear hax
      go_wp2
      go_roundw
      case rel => exact ⟨k + 1, by omega, by go_num, trivial⟩
      case measure => simp [RowKit.intOf]; omega
set_option maxRecDepth 100000 in
set_option maxHeartbeats 4000000 in
theorem ranks8_any (l : List Nat) (n : Nat) (hl : l.length = n) (hn : n ≤ 6) (hall : ∀ x, x < n → l.contains x = true) (v : Value) (w : World) (hI : Ints w w.heap.size v (barL l)) : Calls Try.prog 21 #[v, .int .i64 (n : Int)] w (RetB (.bool true) w) := by
  have HH := Lib.hid (fun (x : Nat) (y : Aft w) => has8_any l x v y.val (SlR.on hI (Pl.stays _) y.ok y.ok.size))
  have HALL := Lib.hid hall
  obtain ⟨A, c, rfl, hc, hm⟩ := hI.sl
  rw [barL_len, hl] at HH ⊢
  clear hI hall hl hc
  go_enter Try.func21, Try.ntmps21
  go_wp2
  obtain ⟨x0, hx0⟩ : ∃ y : Aft w, y.val = w := ⟨⟨w, Below.refl _ _⟩, rfl⟩
  have HX0 := Lib.hid hx0
  clear hx0
  go_loopw [5] (fun i wr => ∃ (k : Nat) (y : Aft w), k ≤ n ∧ i = .int .i64 (k : Int) ∧ wr = y.val) (fun i _ => n - (RowKit.intOf i).toNat)
  case atStart => exact ⟨0, x0, Nat.zero_le _, rfl, HX0.out.symm⟩
  case round =>
    obtain ⟨k, y, hk, rfl, rfl⟩ := hrel
    by_cases hlt : k < n
    · have hki : (k : Int) < (n : Int) := by omega
      have HHK := Lib.hid (fun y => HH.out k y)
      rw [HALL.out k hlt] at HHK
      go_wp2_with (fail)
      refine (aft_q (HHK.out y)).mono ?_
      rintro e _ ⟨rfl, z, rfl⟩
      go_wp2
      go_roundw
      case rel => exact ⟨k + 1, z, by omega, by go_num, rfl⟩
      case measure => simp [RowKit.intOf]; omega
    · have hge : ¬ (k : Int) < (n : Int) := by omega
      obtain rfl : k = n := by omega
      have HY := Lib.hid y.ok
      go_wp2
      go_ret
      exact ⟨rfl, HY.out⟩
/-- A number stands first at an index. -/
def AtI (o : List Nat) (x j : Nat) : Prop := o[j]? = some x ∧ ∀ i, i < j → o[i]? ≠ some x
theorem atI_of {o : List Nat} (h : o.Nodup) {x j : Nat} (hj : o[j]? = some x) : AtI o x j := ⟨hj, fun i hi e => by
  have hjl := (List.getElem?_eq_some_iff.1 hj).1
  have := (List.getElem?_inj (by omega : i < o.length) h).1 (e.trans hj.symm)
  omega⟩
theorem ord_all {n : Nat} {Q : List (Nat × Nat)} {o : List Nat} (h : OrdL n Q o) (hl : o.length = n) : ∀ x, x < n → x ∈ o := fun x hx => Classical.byContradiction fun hxo => by
  have := nodup_le n (x :: o) (List.nodup_cons.2 ⟨hxo, h.nodup⟩) (fun y hy => by
    rcases List.mem_cons.1 hy with rfl | hy
    · exact hx
    · exact h.lt y hy)
  rw [List.length_cons] at this
  omega
/-- What stands before in an order stands at a lower index. -/
theorem ord_index {n : Nat} {Q : List (Nat × Nat)} {o : List Nat} (h : OrdL n Q o) (hl : o.length = n) {a b : Nat} (hq : (a, b) ∈ Q) (hb : b < n) : ∃ i j : Nat, i < j ∧ j < n ∧ AtI o a i ∧ AtI o b j := by
  obtain ⟨j, hj, e⟩ := List.mem_iff_getElem.1 (ord_all h hl b hb)
  have hjb : o[j]? = some b := by rw [List.getElem?_eq_getElem hj, e]
  obtain ⟨i, hi, hia⟩ := h.pre (a, b) hq j hjb
  exact ⟨i, j, hi, by omega, atI_of h.nodup hia, atI_of h.nodup hjb⟩
end Go.Proofs.Ytlbnebmdolnagaa

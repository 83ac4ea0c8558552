/- Deeds: the program's test, walked. -/
import Derived.Test.YthlfpiflegfoiaaGreatDoorLawE
namespace Go.Proofs.YthlfpiflegfoiaaGreatDoor
open Go.RowKit

def plainB (d : Deed) : Bool := d.patch.isEmpty && decide (d.start = 0) && decide (d.until_ = 0) && decide (d.closes = 0)
theorem okDeed_1 {d : Deed} (hk : d.kind = 1) : okDeed d = (inB d.member 0 11 && okTrust d.trust d.member 12 && decide (d.title.toList = []) && decide (d.vote = 0) && plainB d) := by
  unfold okDeed plainB
  simp [hk]
theorem okDeed_2 {d : Deed} (hk : d.kind = 2) : okDeed d = (inB d.member 0 11 && okName d.title.toList && inB d.vote 0 3 && d.trust.isEmpty && plainB d) := by
  unfold okDeed plainB
  simp [hk]
theorem okDeed_3 {d : Deed} (hk : d.kind = 3) : okDeed d = (inB d.member 0 11 && okName d.title.toList && okSpan d.patch d.closes d.start d.until_ && d.trust.isEmpty && decide (d.vote = 0)) := by
  unfold okDeed
  simp [hk]
theorem okDeed_4 {d : Deed} (hk : d.kind = 4) : okDeed d = (decide (d.member = 0) && d.trust.isEmpty && decide (d.title.toList = []) && decide (d.vote = 0) && plainB d) := by
  unfold okDeed plainB
  simp [hk]
theorem okDeed_0 {d : Deed} (h1 : d.kind ≠ 1) (h2 : d.kind ≠ 2) (h3 : d.kind ≠ 3) (h4 : d.kind ≠ 4) : okDeed d = false := by
  unfold okDeed
  simp [h1, h2, h3, h4]

theorem len_zero {α : Type} (l : List α) : ((l.length : Int) == 0) = l.isEmpty := by
  cases l with
  | nil => rfl
  | cons a l => simp; omega
theorem int_zero (n : Int) : (n == 0) = decide (n = 0) := by
  by_cases h : n = 0 <;> simp [h]

set_option maxRecDepth 100000 in
set_option maxHeartbeats 4000000 in
theorem deed2_any (d : Deed) (A1 : Option Addr) (c1 : Nat) (A2 : Option Addr) (c2 : Nat) (w : World) (hT : Ints w w.heap.size (.slice A1 d.trust.length c1) d.trust) (hP : Edits w w.heap.size (.slice A2 d.patch.length c2) d.patch) (hs : SizesOk d.patch) (ht : d.title.size ≤ maxLen) :
    Calls Tryz.prog 42 #[.agg #[.int .i64 d.kind, .int .i64 d.member, .slice A1 d.trust.length c1, .string d.title, .int .i64 d.vote, .slice A2 d.patch.length c2, .int .i64 d.start, .int .i64 d.until_, .int .i64 d.closes]] w (RetB (.bool (okDeed d)) w) := by
  have HT := Lib.hid hT
  have HP := Lib.hid hP
  have HS := Lib.hid hs
  have HTI := Lib.hid ht
  clear hT hP hs ht
  go_enter Tryz.func42, Tryz.ntmps42
  go_wp2
  go_quiet (fail)
  go_upto_region 2 with (fail)
  obtain ⟨W, hW⟩ : ∃ W : World, W = w.alloc (.cells #[.int .i64 d.kind, .int .i64 d.member, .slice A1 d.trust.length c1, .string d.title, .int .i64 d.vote, .slice A2 d.patch.length c2, .int .i64 d.start, .int .i64 d.until_, .int .i64 d.closes] 39) := ⟨_, rfl⟩
  have bW : Below w.heap.size w W := by rw [hW]; exact (Below.refl _ _).alloc (Nat.le_refl _) _
  have y0 : W.cell? ⟨w.heap.size, 0, none⟩ = some (.int .i64 d.kind) := by rw [hW]; simp [go_sem]
  have y1 : W.cell? ⟨w.heap.size, 1, none⟩ = some (.int .i64 d.member) := by rw [hW]; simp [go_sem]
  have y2 : W.cell? ⟨w.heap.size, 2, none⟩ = some (.slice A1 d.trust.length c1) := by rw [hW]; simp [go_sem]
  have y3 : W.cell? ⟨w.heap.size, 3, none⟩ = some (.string d.title) := by rw [hW]; simp [go_sem]
  have y4 : W.cell? ⟨w.heap.size, 4, none⟩ = some (.int .i64 d.vote) := by rw [hW]; simp [go_sem]
  have y5 : W.cell? ⟨w.heap.size, 5, none⟩ = some (.slice A2 d.patch.length c2) := by rw [hW]; simp [go_sem]
  have y6 : W.cell? ⟨w.heap.size, 6, none⟩ = some (.int .i64 d.start) := by rw [hW]; simp [go_sem]
  have y7 : W.cell? ⟨w.heap.size, 7, none⟩ = some (.int .i64 d.until_) := by rw [hW]; simp [go_sem]
  have y8 : W.cell? ⟨w.heap.size, 8, none⟩ = some (.int .i64 d.closes) := by rw [hW]; simp [go_sem]
  rw [← hW]
  clear hW
  obtain ⟨G, hG⟩ : ∃ G : Nat, G = w.heap.size := ⟨_, rfl⟩
  rw [← hG] at y0 y1 y2 y3 y4 y5 y6 y7 y8 ⊢
  clear hG
  go_cut [3, 4, 5, 6] (fun s3 s4 s5 s6 wx => s3 = .bool d.trust.isEmpty ∧ s4 = .bool d.title.toList.isEmpty ∧ s5 = .bool (decide (d.vote = 0)) ∧ s6 = .bool (plainB d) ∧ ∃ k, wx = W.drewN k)
  case first =>
    have hp := len_zero d.patch
    cases e1 : d.patch.isEmpty with
    | false =>
      rw [e1] at hp
      have E1 := Lib.hid e1
      clear e1
      go_wp2_with (fail)
      go_meet
      exact ⟨by rw [len_zero], rfl, by rw [int_zero], by unfold plainB; rw [E1.out]; rfl, _, rfl⟩
    | true =>
      rw [e1] at hp
      have E1 := Lib.hid e1
      clear e1
      by_cases h1 : d.start = 0
      · have b1 : (d.start == 0) = true := by simp [h1]
        have H1 := Lib.hid h1
        clear h1
        by_cases h2 : d.until_ = 0
        · have b2 : (d.until_ == 0) = true := by simp [h2]
          have H2 := Lib.hid h2
          clear h2
          by_cases h3 : d.closes = 0
          · have b3 : (d.closes == 0) = true := by simp [h3]
            have H3 := Lib.hid h3
            clear h3
            go_wp2_with (fail)
            go_meet
            exact ⟨by rw [len_zero], rfl, by rw [int_zero], by unfold plainB; rw [E1.out, H1.out, H2.out, H3.out]; rfl, _, rfl⟩
          · have b3 : (d.closes == 0) = false := by simp [h3]
            have H3 := Lib.hid h3
            clear h3
            go_wp2_with (fail)
            go_meet
            exact ⟨by rw [len_zero], rfl, by rw [int_zero], by unfold plainB; simp [H3.out], _, rfl⟩
        · have b2 : (d.until_ == 0) = false := by simp [h2]
          have H2 := Lib.hid h2
          clear h2
          go_wp2_with (fail)
          go_meet
          exact ⟨by rw [len_zero], rfl, by rw [int_zero], by unfold plainB; simp [H2.out], _, rfl⟩
      · have b1 : (d.start == 0) = false := by simp [h1]
        have H1 := Lib.hid h1
        clear h1
        go_wp2_with (fail)
        go_meet
        exact ⟨by rw [len_zero], rfl, by rw [int_zero], by unfold plainB; simp [H1.out], _, rfl⟩
  case rest =>
    obtain ⟨rfl, rfl, rfl, rfl, k, rfl⟩ := hcut
    have bb := fun n => below_drewN bW n
    by_cases k1 : d.kind = 1
    · have b1 : (d.kind == 1) = true := by simp [k1]
      have OK := Lib.hid (okDeed_1 k1)
      clear k1
      go_wp2_with (fail)
      refine (any2_any d.member _).mono ?_
      rintro e w1 ⟨rfl, n1, rfl⟩
      cases e1 : inB d.member 0 11 with
      | false =>
        have E1 := Lib.hid e1
        clear e1
        go_wp2
        go_ret
        exact ⟨by rw [OK.out, E1.out]; rfl, bb _⟩
      | true =>
        have E1 := Lib.hid e1
        clear e1
        go_wp2_with (fail)
        refine (trust2_any d.trust d.member 12 _ _ (HT.out.on (Pl.stays _) (bb _) (bb _).size) (by omega) (by omega)).mono ?_
        rintro e w2 ⟨rfl, n2, rfl⟩
        have hfin : ∀ v : Bool, okTrust d.trust d.member 12 = v → okDeed d = (v && decide (d.title.toList = []) && decide (d.vote = 0) && plainB d) := by
          intro v hv
          rw [OK.out, E1.out, hv]
          rfl
        have HF := Lib.hid hfin
        clear hfin
        cases e2 : okTrust d.trust d.member 12 with
        | false =>
          have HF := Lib.hid (HF.out _ e2)
          clear e2
          go_wp2
          go_ret
          exact ⟨by rw [HF.out]; rfl, bb _⟩
        | true =>
          have HF := Lib.hid (HF.out _ e2)
          clear e2
          go_wp2
          all_goals
            go_ret
            exact ⟨by rw [HF.out]; simp [*], bb _⟩
    · by_cases k2 : d.kind = 2
      · have b1 : (d.kind == 1) = false := by simp [k1]
        have b2 : (d.kind == 2) = true := by simp [k2]
        have OK := Lib.hid (okDeed_2 k2)
        clear k1 k2
        go_wp2_with (fail)
        refine (any2_any d.member _).mono ?_
        rintro e w1 ⟨rfl, n1, rfl⟩
        cases e1 : inB d.member 0 11 with
        | false =>
          have E1 := Lib.hid e1
          clear e1
          go_wp2
          go_ret
          exact ⟨by rw [OK.out, E1.out]; rfl, bb _⟩
        | true =>
          have E1 := Lib.hid e1
          clear e1
          go_wp2_with (fail)
          refine (name2_any d.title _ HTI.out).mono ?_
          rintro e w2 ⟨rfl, n2, rfl⟩
          cases e2 : okName d.title.toList with
          | false =>
            have E2 := Lib.hid e2
            clear e2
            go_wp2
            go_ret
            exact ⟨by rw [OK.out, E1.out, E2.out]; rfl, bb _⟩
          | true =>
            have E2 := Lib.hid e2
            clear e2
            go_wp2_with (fail)
            refine (vote2_any d.vote _).mono ?_
            rintro e w3 ⟨rfl, n3, rfl⟩
            cases e3 : inB d.vote 0 3 with
            | false =>
              have E3 := Lib.hid e3
              clear e3
              go_wp2
              go_ret
              exact ⟨by rw [OK.out, E1.out, E2.out, E3.out]; rfl, bb _⟩
            | true =>
              have hfin : okDeed d = (d.trust.isEmpty && plainB d) := by
                rw [OK.out, E1.out, E2.out, e3]
                rfl
              have HF := Lib.hid hfin
              clear hfin e3
              go_wp2
              all_goals
                go_ret
                exact ⟨by rw [HF.out]; simp [*], bb _⟩
      · by_cases k3 : d.kind = 3
        · have b1 : (d.kind == 1) = false := by simp [k1]
          have b2 : (d.kind == 2) = false := by simp [k2]
          have b3 : (d.kind == 3) = true := by simp [k3]
          have OK := Lib.hid (okDeed_3 k3)
          clear k1 k2 k3
          go_wp2_with (fail)
          refine (any2_any d.member _).mono ?_
          rintro e w1 ⟨rfl, n1, rfl⟩
          cases e1 : inB d.member 0 11 with
          | false =>
            have E1 := Lib.hid e1
            clear e1
            go_wp2
            go_ret
            exact ⟨by rw [OK.out, E1.out]; rfl, bb _⟩
          | true =>
            have E1 := Lib.hid e1
            clear e1
            go_wp2_with (fail)
            refine (name2_any d.title _ HTI.out).mono ?_
            rintro e w2 ⟨rfl, n2, rfl⟩
            cases e2 : okName d.title.toList with
            | false =>
              have E2 := Lib.hid e2
              clear e2
              go_wp2
              go_ret
              exact ⟨by rw [OK.out, E1.out, E2.out]; rfl, bb _⟩
            | true =>
              have E2 := Lib.hid e2
              clear e2
              go_wp2_with (fail)
              refine (prop2_any d.patch _ _ d.closes d.start d.until_ (HP.out.on (Pl.stays _) (bb _) (bb _).size) HS.out).mono ?_
              rintro e w3 ⟨rfl, hb3⟩
              have bb3 := (bb (k + n1 + n2)).trans (hb3.mono (bb (k + n1 + n2)).size)
              cases e3 : okSpan d.patch d.closes d.start d.until_ with
              | false =>
                have E3 := Lib.hid e3
                clear e3
                go_wp2
                go_ret
                exact ⟨by rw [OK.out, E1.out, E2.out, E3.out]; rfl, bb3⟩
              | true =>
                have hfin : okDeed d = (d.trust.isEmpty && decide (d.vote = 0)) := by
                  rw [OK.out, E1.out, E2.out, e3]
                  rfl
                have HF := Lib.hid hfin
                clear hfin e3
                go_wp2
                all_goals
                  go_ret
                  exact ⟨by rw [HF.out]; simp [*], bb3⟩
        · by_cases k4 : d.kind = 4
          · have b1 : (d.kind == 1) = false := by simp [k1]
            have b2 : (d.kind == 2) = false := by simp [k2]
            have b3 : (d.kind == 3) = false := by simp [k3]
            have b4 : (d.kind == 4) = true := by simp [k4]
            have OK := Lib.hid (okDeed_4 k4)
            clear k1 k2 k3 k4
            go_wp2
            all_goals
              go_ret
              exact ⟨by rw [OK.out]; simp [*], bb _⟩
          · have b1 : (d.kind == 1) = false := by simp [k1]
            have b2 : (d.kind == 2) = false := by simp [k2]
            have b3 : (d.kind == 3) = false := by simp [k3]
            have b4 : (d.kind == 4) = false := by simp [k4]
            have OK := Lib.hid (okDeed_0 k1 k2 k3 k4)
            clear k1 k2 k3 k4
            go_wp2
            go_ret
            exact ⟨by rw [OK.out]; rfl, bb _⟩
end Go.Proofs.YthlfpiflegfoiaaGreatDoor

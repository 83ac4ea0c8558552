/- Which duels are locked, walked. DuelsOf, LockedDuels and CircleOf, walked. -/
import Derived.Test.YtlbnebmdolnagaaEF
namespace Go.Proofs.Ytlbnebmdolnagaa
open Go.RowKit Go.Lib

theorem Try.infoBl : (Try.prog.info? 4).map (fun i => (i.zero, i.size, i.bytes)) = some (some (.bool false), 1, 1) := by kernel_rfl
def blC (b : Bool) : List Value := [.bool b]
theorem bl_flat : ∀ l : List Bool, l.flatMap blC = l.map Value.bool
  | [] => rfl
  | b :: l => by rw [List.flatMap_cons, bl_flat l]; rfl
/-- A row of truths of the call's own. -/
def BlO (w : World) (base g cap : Nat) (l : List Bool) : Prop := w.ownsRow base 4 1 (.slice (some ⟨g, 0, none⟩) l.length cap) l.length (l.map Value.bool)
theorem BlO.row {w : World} {base g cap : Nat} {l : List Bool} (h : BlO w base g cap l) (h0 : l ≠ []) : Row w g (l.map Value.bool) := by
  unfold BlO at h
  rw [← bl_flat] at h
  obtain ⟨_, _, q0, _, _, hh⟩ := OwnL.of_own blC (size := 1) (fun _ => rfl) h
  obtain ⟨g', e1, _, _, hr⟩ := hh h0
  injection q0 with q0
  rw [← q0] at e1
  injection e1 with e1
  injection e1 with e1
  rw [e1, ← bl_flat]
  exact hr
theorem BlO.row' {w : World} {base g cap : Nat} {l : List Bool} (h : BlO w base g cap l) : Row w g (l.map Value.bool) := by
  by_cases h0 : l = []
  · rw [h0]; exact ⟨fun j u hj => by simp at hj, fun j hj => by simp at hj⟩
  · exact h.row h0
theorem BlO.caps {w : World} {base g cap : Nat} {l : List Bool} (h : BlO w base g cap l) : l.length ≤ cap ∧ cap ≤ maxLen := by
  obtain ⟨g5, cap5, e5, h51, h52⟩ := own_some h (by simp)
  injection e5 with _ _ e5
  exact ⟨by omega, by omega⟩
def LkPost (F : Pf) (w : World) (e : Ending) (w' : World) : Prop :=
  ∃ g c lk, e = .returned (.slice (some ⟨g, 0, none⟩) (duels F).length c) ∧ IsLk F.n (duels F) lk ∧ lk.length = (duels F).length ∧ Row w' g (lk.map Value.bool) ∧ w.heap.size ≤ g ∧ g < w'.heap.size ∧ (duels F).length ≤ c ∧ c ≤ maxLen ∧ Below w.heap.size w w'
set_option maxRecDepth 100000 in
set_option maxHeartbeats 8000000 in
theorem locks_any (F : Pf) (hF : F.Ok) (A1 : Option Addr) (c1 : Nat) (A2 : Option Addr) (c2 : Nat) (w : World) (h : PfR w w.heap.size F A1 c1 A2 c2) :
    Calls Try.prog 64 #[pfV F A1 c1 A2 c2] w (LkPost F w) := by
  obtain ⟨w1, hw1, hs1, hbw1, z0, z1, fr, bw⟩ := pbox_at h
  have HDU := Lib.hid (fun y => duels_any F hF _ _ _ _ _ (fr y))
  have HOP := Lib.hid (fun y => options_any F hF _ _ _ _ _ (fr y))
  have BW := Lib.hid bw
  have HF := Lib.hid hF
  have HDL := Lib.hid (duels_dul F)
  have hn6 := hF.n6
  have hD15 : (duels F).length ≤ 15 := (duels_dul F).few hF.n6
  obtain ⟨b0, hbi, hb0, hb1, hb2⟩ := info_parts Try.infoBl
  unfold DuelsPost at HDU
  unfold LkPost
  unfold pfV
  unfold pfV at HDU HOP
  obtain ⟨D, hDe⟩ : ∃ D, D = duels F := ⟨_, rfl⟩
  rw [← hDe] at HDU HDL hD15 ⊢
  clear hDe hF h fr bw hbw1
  go_enter Try.func64, Try.ntmps64
  go_upto_region 1 with (fail)
  rw [← hw1]
  have HZ1 := Lib.hid hs1
  obtain ⟨x0, hx0⟩ : ∃ y : Aft w1, y.val = w1 := ⟨⟨w1, Below.refl _ _⟩, rfl⟩
  rw [← hx0]
  clear hx0 hw1 hs1
  go_wp2_with (fail)
  refine (HDU.out x0).mono ?_
  rintro e w3 ⟨gd, cd, rfl, hrd, hgd1, hgd2, hcd, hcm, hb3⟩
  have HRD := Lib.hid hrd
  have HB13 := Lib.hid (below_then x0.ok x0.ok.size hb3)
  have HOB : Hid (BlO (w3.alloc (.cells #[] 4)) w3.heap.size w3.heap.size 0 []) := Lib.hid (by
    unfold BlO
    simpa using World.ownsRow_made w3 #[] 0 (Nat.le_refl _) (Nat.zero_le _) rfl)
  have HB0 : Hid (Below w3.heap.size w3 (w3.alloc (.cells #[] 4))) := Lib.hid ((Below.refl _ _).alloc (Nat.le_refl _) _)
  clear hrd hb3 hgd1
  go_wp2
  go_loopw [4, 5, 11] (fun o _ kk wr => ∃ (k g cap : Nat) (lk : List Bool), k ≤ D.length ∧ lk.length = k ∧ kk = .int .i64 (k : Int) ∧ o = .slice (some ⟨g, 0, none⟩) k cap ∧ BlO wr w3.heap.size g cap lk ∧ IsLk F.n D lk ∧ Below w3.heap.size w3 wr) (fun _ _ kk _ => D.length - (RowKit.intOf kk).toNat)
  case atStart => exact ⟨0, _, 0, [], Nat.zero_le _, rfl, rfl, rfl, HOB.out, IsLk.nil _ _, HB0.out⟩
  case round =>
    obtain ⟨k, g, cap, lk, hk, hlk, rfl, rfl, ho, hlks, hb⟩ := hrel
    have HO := Lib.hid ho
    have HK := Lib.hid hlks
    have HB := Lib.hid hb
    clear ho hlks hb HOB HB0
    by_cases hlt : k < D.length
    · have hki : (k : Int) < (D.length : Int) := by omega
      have hget : D[k]? = some D[k] := List.getElem?_eq_getElem hlt
      generalize D[k] = p at *
      obtain ⟨a, b⟩ := p
      obtain ⟨ha, hb', hbt⟩ := (HDL.out.mem (a, b)).1 (List.mem_of_getElem? hget)
      have hab : b ≠ a := fun e => by
        subst e
        exact absurd hbt (by unfold beats; show ¬ prs F b b < prs F b b; omega)
      have HGET := Lib.hid hget
      have HAB := Lib.hid (And.intro ha (And.intro hb' hab))
      have HIS := Lib.hid (fun (r : Bool) h1 h2 => HK.out.push (p := (a, b)) (by rw [hlk]; exact hget) (r := r) h1 h2)
      rw [hlk] at HIS
      have z0r : wr.cell? ⟨w.heap.size, 0, none⟩ = some (.slice A1 F.L.length c1) := z0 ⟨wr, below_then HB13.out HB13.out.size HB.out⟩
      have z1r : wr.cell? ⟨w.heap.size, 1, none⟩ = some (.slice A2 F.L.length c2) := z1 ⟨wr, below_then HB13.out HB13.out.size HB.out⟩
      have HOPR := Lib.hid (HOP.out ⟨wr, below_then HB13.out HB13.out.size HB.out⟩)
      clear ha hb' hbt hab hget
      go_wp2_with (fail)
      refine HOPR.out.mono ?_
      rintro e w5 ⟨rfl, hb5⟩
      have HBO := Lib.hid (show BlO w5 w3.heap.size g cap lk from own_below HO.out hb5)
      have HBR := Lib.hid (below_then HB.out HB.out.size hb5)
      have hci := circle_any F HF.out D lk k a b HGET.out (by omega) hD15 HAB.out.1 HAB.out.2.1 HAB.out.2.2 gd cd g cap w5 (HRD.out.below HBR.out hgd2) HBO.out.row' (Nat.lt_of_lt_of_le hgd2 HBR.out.size) ((World.ownsRow.lt HBO.out g rfl).2) hcd hcm
      rw [hlk] at hci
      have HCI := Lib.hid hci
      unfold ShPost at HCI
      clear hb5 hci z0r z1r HO
      go_wp2_with (fail)
      refine HCI.out.mono ?_
      rintro e w6 (⟨q, gq, cq, rfl, hpth, hpo, hb6⟩ | ⟨rfl, hwall, hb6⟩)
      · have HB6 := Lib.hid hb6
        have HK9 := Lib.hid (HIS.out false (fun h => by cases h) (fun _ => ⟨q, hpth⟩))
        clear hb6 hpth hpo HIS HCI
        have HOL := Lib.hid (own_below HBO.out HB6.out)
        unfold BlO at HOL
        rw [hlk] at HOL
        have HB36 := Lib.hid (below_then HBR.out HBR.out.size HB6.out)
        have hnl : ∀ W, (binOp .eql 25 (.slice (some ⟨gq, 0, none⟩) q.length cq) (.slice none 0 0)).run Try.prog W = .ok (.bool false) W := fun W => Go.Lib.run_eql_slice_nil (P := Try.prog) W 25 2 _ _ _ 0 0 Try.underlying25
        go_wp2_with (at_builtin; refine wpList_append_own_at _ rfl _ _ 39 rfl w3.heap.size 4 b0 (.bool false) 1 1 Try.underlying39 hbi hb0 hb1 hb2 rfl (by decide) _ _ _ rfl (World.ownsRow.alloc HOL.out _) ⟨w6.heap.size, 0, none⟩ 1 1 [.bool false] rfl rfl (fun j u hj => new_at hj) (fun u hu => by rw [List.mem_singleton] at hu; subst hu; rfl) ?c3 ?c4 (base_le HB36.out.size) ?_)
        case c3 => unfold maxLen; omega
        case c4 => omega
        intro v' w9 hown' hgrow hiff hat
        obtain ⟨g9, cap9, rfl, hdc9, hcm9⟩ := own_some hown' (by simpa using hiff)
        have HO9 : Hid (BlO w9 w3.heap.size g9 cap9 (lk ++ [false])) := Lib.hid (by
          unfold BlO
          rw [List.length_append, hlk, List.map_append]
          exact hown')
        have HB9 := Lib.hid ((HB36.out.alloc HB36.out.size (.cells #[.bool false] 4)).grown hgrow (base_le HB36.out.size) (fun j hj => (World.ownsRow.lt HOL.out j hj).1))
        have HL9 : Hid ((lk ++ [false]).length = k + 1) := Lib.hid (by rw [List.length_append, hlk]; rfl)
        clear hown' hgrow hiff hat hnl HOL HB36
        go_wp2
        go_roundw
        case rel => exact ⟨k + 1, g9, cap9, lk ++ [false], by omega, HL9.out, by go_num, rfl, HO9.out, HK9.out, HB9.out⟩
        case measure => simp [RowKit.intOf]; omega
      · have HB6 := Lib.hid hb6
        have HK9 := Lib.hid (HIS.out true (fun _ => ⟨_, hwall⟩) (fun h => by cases h))
        clear hb6 hwall HIS HCI
        have HOL := Lib.hid (own_below HBO.out HB6.out)
        unfold BlO at HOL
        rw [hlk] at HOL
        have HB36 := Lib.hid (below_then HBR.out HBR.out.size HB6.out)
        have hnl : ∀ W, (binOp .eql 25 (.slice none 0 0) (.slice none 0 0)).run Try.prog W = .ok (.bool true) W := fun W => Go.Lib.run_eql_slice_nil (P := Try.prog) W 25 2 _ _ _ 0 0 Try.underlying25
        go_wp2_with (at_builtin; refine wpList_append_own_at _ rfl _ _ 39 rfl w3.heap.size 4 b0 (.bool false) 1 1 Try.underlying39 hbi hb0 hb1 hb2 rfl (by decide) _ _ _ rfl (World.ownsRow.alloc HOL.out _) ⟨w6.heap.size, 0, none⟩ 1 1 [.bool true] rfl rfl (fun j u hj => new_at hj) (fun u hu => by rw [List.mem_singleton] at hu; subst hu; rfl) ?c3 ?c4 (base_le HB36.out.size) ?_)
        case c3 => unfold maxLen; omega
        case c4 => omega
        intro v' w9 hown' hgrow hiff hat
        obtain ⟨g9, cap9, rfl, hdc9, hcm9⟩ := own_some hown' (by simpa using hiff)
        have HO9 : Hid (BlO w9 w3.heap.size g9 cap9 (lk ++ [true])) := Lib.hid (by
          unfold BlO
          rw [List.length_append, hlk, List.map_append]
          exact hown')
        have HB9 := Lib.hid ((HB36.out.alloc HB36.out.size (.cells #[.bool true] 4)).grown hgrow (base_le HB36.out.size) (fun j hj => (World.ownsRow.lt HOL.out j hj).1))
        have HL9 : Hid ((lk ++ [true]).length = k + 1) := Lib.hid (by rw [List.length_append, hlk]; rfl)
        clear hown' hgrow hiff hat hnl HOL HB36
        go_wp2
        go_roundw
        case rel => exact ⟨k + 1, g9, cap9, lk ++ [true], by omega, HL9.out, by go_num, rfl, HO9.out, HK9.out, HB9.out⟩
        case measure => simp [RowKit.intOf]; omega
    · have hge : ¬ (k : Int) < (D.length : Int) := by omega
      have hkD : k = D.length := by omega
      subst hkD
      have hgl := World.ownsRow.lt HO.out g rfl
      have hcap := BlO.caps HO.out
      have HBW := Lib.hid (BW.out ⟨wr, below_then HB13.out HB13.out.size HB.out⟩)
      have hs3 := HB13.out.size
      have hz := HZ1.out
      clear hlt
      go_wp2
      go_ret
      exact ⟨g, cap, rfl, lk, HK.out, hlk, HO.out.row', by omega, hgl.2, by omega, hcap.2, HBW.out⟩
end Go.Proofs.Ytlbnebmdolnagaa

namespace Go.Proofs.Ytlbnebmdolnagaa
open Go.RowKit Go.Lib

def DofPost (F : Pf) (w : World) (e : Ending) (w' : World) : Prop :=
  ∃ g c, e = .returned (.tuple #[.slice (some ⟨g, 0, none⟩) (duels F).length c, .bool true]) ∧ Row w' g ((duels F).flatMap (duC F)) ∧ g < w'.heap.size ∧ (duels F).length ≤ c ∧ c ≤ maxLen ∧ Below w.heap.size w w'
set_option maxRecDepth 100000 in
set_option maxHeartbeats 4000000 in
theorem duelsOf_any (F : Pf) (hF : F.Ok) (A1 : Option Addr) (c1 : Nat) (A2 : Option Addr) (c2 : Nat) (w : World) (h : PfR w w.heap.size F A1 c1 A2 c2) :
    Calls Try.prog 18 #[pfV F A1 c1 A2 c2] w (DofPost F w) := by
  obtain ⟨w1, hw1, hs1, hbw1, z0, z1, fr, bw⟩ := pbox_at h
  have HV := Lib.hid (fun y => validP_any F hF _ _ _ _ _ (fr y))
  have BW := Lib.hid bw
  have HD := Lib.hid (fun y => duels_any F hF _ _ _ _ _ (fr y))
  unfold DuelsPost at HD
  unfold DofPost
  unfold pfV
  unfold pfV at HV HD
  generalize duels F = D at *
  clear hF h fr bw hbw1
  go_enter Try.func18, Try.ntmps18
  go_upto_region 1 with (fail)
  rw [← hw1]
  have HZ1 := Lib.hid hs1
  obtain ⟨x0, hx0⟩ : ∃ y : Aft w1, y.val = w1 := ⟨⟨w1, Below.refl _ _⟩, rfl⟩
  rw [← hx0]
  clear hx0 hw1 hs1
  go_wp2_with (fail)
  refine (aft_b (HV.out x0)).mono ?_
  rintro e _ ⟨rfl, x1, rfl⟩
  go_wp2_with (fail)
  refine (HD.out x1).mono ?_
  rintro e w2 ⟨g, c, rfl, hrow, _, hlt, hc1, hc2, hb⟩
  have HRW := Lib.hid hrow
  have HB := Lib.hid (below_then (BW.out x1) (BW.out x1).size hb)
  clear hrow hb
  go_wp2
  go_ret2
  exact ⟨g, c, rfl, HRW.out, hlt, hc1, hc2, HB.out⟩
def LofPost (F : Pf) (w : World) (e : Ending) (w' : World) : Prop :=
  ∃ g c lk, e = .returned (.tuple #[.slice (some ⟨g, 0, none⟩) (duels F).length c, .bool true]) ∧ IsLk F.n (duels F) lk ∧ lk.length = (duels F).length ∧ Row w' g (lk.map Value.bool) ∧ g < w'.heap.size ∧ Below w.heap.size w w'
set_option maxRecDepth 100000 in
set_option maxHeartbeats 4000000 in
theorem lockedDuels_any (F : Pf) (hF : F.Ok) (A1 : Option Addr) (c1 : Nat) (A2 : Option Addr) (c2 : Nat) (w : World) (h : PfR w w.heap.size F A1 c1 A2 c2) :
    Calls Try.prog 19 #[pfV F A1 c1 A2 c2] w (LofPost F w) := by
  obtain ⟨w1, hw1, hs1, hbw1, z0, z1, fr, bw⟩ := pbox_at h
  have HV := Lib.hid (fun y => validP_any F hF _ _ _ _ _ (fr y))
  have BW := Lib.hid bw
  have HD := Lib.hid (fun y => locks_any F hF _ _ _ _ _ (fr y))
  unfold LkPost at HD
  unfold LofPost
  unfold pfV
  unfold pfV at HV HD
  generalize duels F = D at *
  clear hF h fr bw hbw1
  go_enter Try.func19, Try.ntmps19
  go_upto_region 1 with (fail)
  rw [← hw1]
  have HZ1 := Lib.hid hs1
  obtain ⟨x0, hx0⟩ : ∃ y : Aft w1, y.val = w1 := ⟨⟨w1, Below.refl _ _⟩, rfl⟩
  rw [← hx0]
  clear hx0 hw1 hs1
  go_wp2_with (fail)
  refine (aft_b (HV.out x0)).mono ?_
  rintro e _ ⟨rfl, x1, rfl⟩
  go_wp2_with (fail)
  refine (HD.out x1).mono ?_
  rintro e w2 ⟨g, c, lk, rfl, hlk, hll, hrow, _, hlt, hc1, hc2, hb⟩
  have HRW := Lib.hid hrow
  have HLK := Lib.hid hlk
  have HLL := Lib.hid hll
  have HB := Lib.hid (below_then (BW.out x1) (BW.out x1).size hb)
  clear hrow hb hlk hll
  go_wp2
  go_ret2
  exact ⟨g, c, lk, rfl, HLK.out, HLL.out, HRW.out, hlt, HB.out⟩
def CirV (n : Nat) (s : Nat → Nat → Bool) (f t base : Nat) (v : Value) (w' : World) : Prop :=
  (∃ p g c, v = .slice (some ⟨g, 0, none⟩) p.length c ∧ Pth n s f p t ∧ PathO w' base g c p) ∨ (v = .slice none 0 0 ∧ Wall n s f t (Rch n s f t))
theorem sh_v {n f t : Nat} {s : Nat → Nat → Bool} {w w' : World} {e : Ending} (h : ShPost n s f t w e w') : ∃ v, e = .returned v ∧ CirV n s f t w.heap.size v w' ∧ Below w.heap.size w w' := by
  rcases h with ⟨p, g, c, rfl, h1, h2, h3⟩ | ⟨rfl, h1, h3⟩
  · exact ⟨_, rfl, .inl ⟨p, g, c, rfl, h1, h2⟩, h3⟩
  · exact ⟨_, rfl, .inr ⟨rfl, h1⟩, h3⟩
def CofPost (F : Pf) (k a b : Nat) (w : World) (e : Ending) (w' : World) : Prop :=
  ∃ lk, IsLk F.n (duels F) lk ∧ lk.length = (duels F).length ∧ Below w.heap.size w w' ∧
    ((∃ p g c, e = .returned (.tuple #[.slice (some ⟨g, 0, none⟩) p.length c, .bool true]) ∧ Pth F.n (stp (duels F) lk k) b p a ∧ PathO w' w.heap.size g c p) ∨
     (e = .returned (.tuple #[.slice none 0 0, .bool false]) ∧ Wall F.n (stp (duels F) lk k) b a (Rch F.n (stp (duels F) lk k) b a)))
set_option maxRecDepth 100000 in
set_option maxHeartbeats 8000000 in
theorem circleOf_any (F : Pf) (hF : F.Ok) (k a b : Nat) (hk : (duels F)[k]? = some (a, b)) (A1 : Option Addr) (c1 : Nat) (A2 : Option Addr) (c2 : Nat) (w : World) (h : PfR w w.heap.size F A1 c1 A2 c2) :
    Calls Try.prog 22 #[pfV F A1 c1 A2 c2, .int .i64 (k : Int)] w (CofPost F k a b w) := by
  obtain ⟨q1, q2, q3, q4, b1, o1, b2, o2, hc⟩ := h.cells hF
  obtain ⟨rfl, rfl, -, -⟩ := hc
  obtain ⟨w1, hw1, hs1, hbw1, z0, z1, fr, bw⟩ := pbox_at h
  have HV := Lib.hid (fun y => validP_any F hF _ _ _ _ _ (fr y))
  have BW := Lib.hid bw
  have HDU := Lib.hid (fun y => duels_any F hF _ _ _ _ _ (fr y))
  have HLO := Lib.hid (fun y => locks_any F hF _ _ _ _ _ (fr y))
  have HOP := Lib.hid (fun y => options_any F hF _ _ _ _ _ (fr y))
  have hkl : k < (duels F).length := (List.getElem?_eq_some_iff.1 hk).1
  have hD15 : (duels F).length ≤ 15 := (duels_dul F).few hF.n6
  obtain ⟨ha, hb', hbt⟩ := ((duels_dul F).mem (a, b)).1 (List.mem_of_getElem? hk)
  have hab : b ≠ a := fun e => by
    subst e
    exact absurd hbt (by unfold beats; show ¬ prs F b b < prs F b b; omega)
  have HCI := Lib.hid (fun (lk : List Bool) (h1 : k ≤ lk.length) (gd cd gl cl : Nat) (W : World) rd rl hg hl hcd hcm => (circle_any F hF (duels F) lk k a b hk h1 hD15 ha hb' hab gd cd gl cl W rd rl hg hl hcd hcm).mono (fun _ _ h => sh_v h))
  unfold DuelsPost at HDU
  unfold LkPost at HLO
  unfold CofPost
  unfold pfV
  unfold pfV at HV HDU HLO HOP
  generalize duels F = D at *
  clear hF h fr bw hbw1 hk ha hb' hbt hab
  have hkd : (k : Int) ≤ (D.length : Int) - 1 := by omega
  have hwd : IntKind.i64.wrap ((D.length : Int) - 1) = (D.length : Int) - 1 := by rw [IntKind.wrap_i64]; omega
  go_enter Try.func22, Try.ntmps22
  go_upto_region 1 with (fail)
  rw [← hw1]
  have HZ1 := Lib.hid hs1
  obtain ⟨x0, hx0⟩ : ∃ y : Aft w1, y.val = w1 := ⟨⟨w1, Below.refl _ _⟩, rfl⟩
  rw [← hx0]
  clear hx0 hw1 hs1
  go_wp2_with (fail)
  refine (aft_b (HV.out x0)).mono ?_
  rintro e _ ⟨rfl, x1, rfl⟩
  go_wp2_with (fail)
  refine (HDU.out x1).mono ?_
  rintro e w3 ⟨gd0, cd0, rfl, _, _, _, _, _, hb3⟩
  obtain ⟨x3, rfl⟩ : ∃ y : Aft w1, y.val = w3 := ⟨⟨w3, below_then x1.ok x1.ok.size hb3⟩, rfl⟩
  clear hb3
  go_wp2_with (fail)
  refine (aft_q (in2_yes _ _ _ x3.val (by omega) (by omega))).mono ?_
  rintro e _ ⟨rfl, x4, rfl⟩
  go_upto_region 3 with (fail)
  have c0 : ∀ W, Beh w1 W → W.cell? ⟨w.heap.size, 0, none⟩ = some (.slice (some ⟨b1, o1, none⟩) F.L.length c1) := fun W h => z0 ⟨W, h⟩
  have c1' : ∀ W, Beh w1 W → W.cell? ⟨w.heap.size, 1, none⟩ = some (.slice (some ⟨b2, o2, none⟩) F.L.length c2) := fun W h => z1 ⟨W, h⟩
  have hS0 : Beh w1 x4.val := x4.ok
  have HBW : Hid (∀ W, Beh w1 W → Below w.heap.size w W) := Lib.hid (fun W h => BW.out ⟨W, h⟩)
  clear z0 z1
  refine wp_region_held_drew (S := fun w' => Beh w1 w') (by kernel_rfl) hS0.draw (fun hHeld => ?_)
  refine wpAnyH_take (i := 0) (v := ?_) rfl (by kernel_rfl) (by kernel_rfl) (by kernel_rfl) (fun _ _ _ h => h) (Or.inl ⟨by rfl, ?_⟩) (by assumption) ?_
  rotate_left
  · intro W9 hSw
    have hq0 := c0 W9 hSw
    have hq1 := c1' W9 hSw
    try simp only [List.getElem_toArray, List.getElem_cons_zero]
    first | (go_simp; done) | (go_simp; with_reducible rfl)
  try simp only [Act.put, List.getElem_toArray, List.getElem_cons_zero, List.setIfInBounds_toArray, List.set_cons_zero, List.set_cons_succ]
  refine wpAnyH_take (i := 2) (v := ?_) rfl (by kernel_rfl) (by kernel_rfl) (by kernel_rfl) (fun _ _ _ h => h) (Or.inl ⟨by rfl, ?_⟩) (by assumption) ?_
  rotate_left
  · intro W9 hSw
    have hq0 := c0 W9 hSw
    have hq1 := c1' W9 hSw
    try simp only [List.getElem_toArray, List.getElem_cons_zero, List.getElem_cons_succ]
    first | (go_simp; done) | (go_simp; with_reducible rfl)
  try simp only [Act.put, List.getElem_toArray, List.getElem_cons_zero, List.getElem_cons_succ, List.setIfInBounds_toArray, List.set_cons_zero, List.set_cons_succ]
  refine wpAnyH_take (i := 4) (v := ?_) rfl (by kernel_rfl) (by kernel_rfl) (by kernel_rfl) (fun _ _ _ h => h) (Or.inl ⟨by rfl, ?_⟩) (by assumption) ?_
  rotate_left
  · intro W9 hSw
    have hq0 := c0 W9 hSw
    have hq1 := c1' W9 hSw
    try simp only [List.getElem_toArray, List.getElem_cons_zero, List.getElem_cons_succ]
    first | (go_simp; done) | (go_simp; with_reducible rfl)
  try simp only [Act.put, List.getElem_toArray, List.getElem_cons_zero, List.getElem_cons_succ, List.setIfInBounds_toArray, List.set_cons_zero, List.set_cons_succ]
  refine wpAnyH_take (i := 6) (v := ?_) rfl (by kernel_rfl) (by kernel_rfl) (by kernel_rfl) (fun _ _ _ h => h) (Or.inl ⟨by rfl, ?_⟩) (by assumption) ?_
  rotate_left
  · intro W9 hSw
    have hq0 := c0 W9 hSw
    have hq1 := c1' W9 hSw
    try simp only [List.getElem_toArray, List.getElem_cons_zero, List.getElem_cons_succ]
    first | (go_simp; done) | (go_simp; with_reducible rfl)
  try simp only [Act.put, List.getElem_toArray, List.getElem_cons_zero, List.getElem_cons_succ, List.setIfInBounds_toArray, List.set_cons_zero, List.set_cons_succ]
  refine wpAnyH_ready (rs := [1]) (by kernel_rfl) (by simp) ?_
  refine AllReadyH.cons rfl (fun K hK => ?_) AllReadyH.nil
  simp only [List.getElem_toArray, List.getElem_cons_zero, List.getElem_cons_succ]
  go_simp
  go_at_call 62
  refine Calls.mono (HOP.out ⟨_, hHeld⟩) ?_
  rintro e w2 ⟨rfl, hb2⟩
  replace hb2 : Below x4.val.drew.heap.size x4.val.drew w2 := hb2
  refine hK.out _ _ (Beh.go hb2 hHeld) (fun hHeld2 => ?_)
  clear hK K hHeld
  have hHeld := hHeld2
  clear hHeld2
  try simp only [Act.put, List.setIfInBounds_toArray, List.set_cons_zero, List.set_cons_succ]
  refine wpAnyH_ready (rs := [3]) (by kernel_rfl) (by simp) ?_
  refine AllReadyH.cons rfl (fun K hK => ?_) AllReadyH.nil
  simp only [List.getElem_toArray, List.getElem_cons_zero, List.getElem_cons_succ]
  go_simp
  go_at_call 63
  refine Calls.mono (HDU.out ⟨_, hHeld⟩) ?_
  rintro e w5 ⟨gd, cd, rfl, hrd, hgx, hgd, hcd, hcm, hb5⟩
  (clear hgx; replace hb5 : Below w2.heap.size w2 w5 := hb5)
  refine hK.out _ _ (Beh.go hb5 hHeld) (fun hHeld2 => ?_)
  clear hK K hHeld
  have hHeld := hHeld2
  clear hHeld2
  try simp only [Act.put, List.setIfInBounds_toArray, List.set_cons_zero, List.set_cons_succ]
  refine wpAnyH_ready (rs := [5]) (by kernel_rfl) (by simp) ?_
  refine AllReadyH.cons rfl (fun K hK => ?_) AllReadyH.nil
  simp only [List.getElem_toArray, List.getElem_cons_zero, List.getElem_cons_succ]
  go_simp
  go_at_call 64
  refine Calls.mono (HLO.out ⟨_, hHeld⟩) ?_
  rintro e w6 ⟨gl, cl2, lk, rfl, hlk, hll, hrl, hgx, hgl, _, _, hb6⟩
  (clear hgx; replace hb6 : Below w5.heap.size w5 w6 := hb6)
  refine hK.out _ _ (Beh.go hb6 hHeld) (fun hHeld2 => ?_)
  clear hK K hHeld
  have hHeld := hHeld2
  clear hHeld2
  try simp only [Act.put, List.setIfInBounds_toArray, List.set_cons_zero, List.set_cons_succ]
  have hci := HCI.out lk (by omega) gd cd gl cl2 w6 (hrd.below hb6 hgd) hrl (Nat.lt_of_lt_of_le hgd hb6.size) hgl hcd hcm
  rw [hll] at hci
  refine wpAnyH_ready (rs := [7]) (by kernel_rfl) (by simp) ?_
  refine AllReadyH.cons rfl (fun K hK => ?_) AllReadyH.nil
  simp only [List.getElem_toArray, List.getElem_cons_zero, List.getElem_cons_succ]
  go_simp
  go_at_call 67
  refine Calls.mono (hci) ?_
  rintro e w7 ⟨v, rfl, hcv, hb7⟩
  have h67 := HBW.out _ hHeld
  refine hK.out _ _ (Beh.go hb7 hHeld) (fun hHeld2 => ?_)
  clear hK K hHeld
  have hHeld := hHeld2
  clear hHeld2
  try simp only [Act.put, List.setIfInBounds_toArray, List.set_cons_zero, List.set_cons_succ]
  refine wpAnyH_take (i := 8) (v := ?_) rfl (by kernel_rfl) (by kernel_rfl) (by kernel_rfl) (fun _ _ _ h => h) (Or.inl ⟨by rfl, ?_⟩) (by assumption) ?_
  rotate_left
  · intro W9 hSw
    have hq0 := c0 W9 hSw
    have hq1 := c1' W9 hSw
    try simp only [List.getElem_toArray, List.getElem_cons_zero, List.getElem_cons_succ]
    first | (go_simp; done) | (go_simp; with_reducible rfl)
  try simp only [Act.put, List.getElem_toArray, List.getElem_cons_zero, List.getElem_cons_succ, List.setIfInBounds_toArray, List.set_cons_zero, List.set_cons_succ]
  refine wpAnyH_done (by kernel_rfl) ?_ _
  have HB7 := Lib.hid (HBW.out _ hHeld)
  have hnl : ∀ W, (binOp .neq 25 (.slice none 0 0) (.slice none 0 0)).run Try.prog W = .ok (.bool false) W := fun W => by
    have := run_neq_slice_nil (P := Try.prog) W 25 2 none 0 0 Try.underlying25
    simpa using this
  have hnn : ∀ W ad n c, (binOp .neq 25 (.slice (some ad) n c) (.slice none 0 0)).run Try.prog W = .ok (.bool true) W := fun W ad n c => by
    have := run_neq_slice_nil (P := Try.prog) W 25 2 (some ad) n c Try.underlying25
    simpa using this
  have HLK := Lib.hid hlk
  have HLL := Lib.hid hll
  have H67 := Lib.hid h67.size
  clear c0 c1' hS0 hHeld hrd hrl hci hlk hll hb2 hb5 hb6 hb7 h67
  rcases hcv with ⟨p, g, c, rfl, h1, h2⟩ | ⟨rfl, h1⟩
  · have HP := Lib.hid (And.intro h1 (h2.less H67.out))
    clear h1 h2
    go_wp2
    go_ret2
    exact ⟨lk, HLK.out, HLL.out, HB7.out, .inl ⟨p, g, c, rfl, HP.out.1, HP.out.2⟩⟩
  · have HP := Lib.hid h1
    clear h1
    go_wp2
    go_ret2
    exact ⟨lk, HLK.out, HLL.out, HB7.out, .inr ⟨rfl, HP.out⟩⟩
end Go.Proofs.Ytlbnebmdolnagaa

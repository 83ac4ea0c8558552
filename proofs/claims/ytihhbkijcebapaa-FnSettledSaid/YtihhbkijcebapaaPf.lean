/- The paths of a member and its best one, walked. -/
import Derived.Test.YtihhbkijcebapaaPe
namespace Go.Proofs.Ytihhbkijcebapaa
open Go.RowKit Go.Lib

set_option maxHeartbeats 1000000 in
theorem isMember_any (V : List Voi) (hok : VoisOk V) (m : Nat) (hm : m < V.length) (v : Value) (w : World) (hV : Vois w w.heap.size v V) : Calls Try.prog 16 #[v, .int .i64 (m : Int)] w (RetB (.bool true) w) := by
  have HVAL := Lib.hid (valid2v_any V v w hV hok)
  have HIN := Lib.hid (fun W => in2_val (m : Int) 0 ((V.length : Int) - 1) W true (by unfold inB; rw [decide_eq_true (by omega), decide_eq_true (by omega)]; rfl))
  obtain ⟨A, c0, rfl, hc0, hm0, hel⟩ := vois_at hV
  have hn12 := hok.n12
  clear hV hok hel
  go_enter Try.func16, Try.ntmps16
  go_wp2_with (fail)
  refine HVAL.out.mono ?_
  rintro e w1 ⟨rfl, b1⟩
  go_wp2_with (fail)
  refine (HIN.out w1).mono ?_
  rintro e _ ⟨rfl, n, rfl⟩
  have hbe := below_drewN b1 n
  go_wp2
  go_ret
  exact ⟨rfl, hbe⟩
def PathsPost (Q : List (List Nat)) (w : World) (e : Ending) (w' : World) : Prop :=
  ∃ g cap L, e = .returned (.tuple #[.slice (some ⟨g, 0, none⟩) L.length cap, .bool true]) ∧ L.map (·.a) = Q.map barL ∧ TreeW kRow 30 w.heap.size w' g cap L ∧ Below w.heap.size w w'
set_option maxRecDepth 100000 in
set_option maxHeartbeats 2000000 in
theorem paths_any (V : List Voi) (hok : VoisOk V) (h6 : V.length ≤ 6) (m : Nat) (hm : m < V.length) (v : Value) (w : World) (hV : Vois w w.heap.size v V) : Calls Try.prog 7 #[v, .int .i64 (m : Int)] w (PathsPost (exts (grV V) V.length [] m) w) := by
  have HMB := Lib.hid (isMember_any V hok m hm v w hV)
  have HEX : Hid (∀ (g cap gb cb : Nat) (W : World), Below w.heap.size w W → PathO W w.heap.size gb cb [m] → gb ≠ g → TreeW kRow 30 w.heap.size W g cap [] → Calls Try.prog 17 #[v, .slice (some ⟨gb, 0, none⟩) 1 cb, .slice (some ⟨g, 0, none⟩) 0 cap] W (ExtPost (exts (grV V) V.length [] m) w.heap.size g [] W)) := Lib.hid (fun g cap gb cb W hW h1 h2 h3 => extend_any V hok v V.length [] m w.heap.size g cap gb cb [] W (by simp) (by simp) (fun y hy => by
    have : y = m := by simpa using hy
    omega) (by
    have : 4 ^ V.length ≤ 4 ^ 6 := Nat.pow_le_pow_right (by omega) h6
    simp only [List.length_nil]
    omega) hW.size (hV.on hW (Nat.le_refl _)) h1 h2 h3)
  obtain ⟨A, c0, rfl, hc0, hm0, hel⟩ := vois_at hV
  have h6i : ¬ ((6 : Int) < (V.length : Int)) := by omega
  have h6d : decide ((6 : Int) < (V.length : Int)) = false := decide_eq_false h6i
  unfold ExtPost at HEX
  unfold PathsPost
  clear hV hok hel
  generalize exts (grV V) V.length [] m = Q at *
  go_enter Try.func7, Try.ntmps7
  go_wp2_with (fail)
  refine HMB.out.mono ?_
  rintro e w1 ⟨rfl, b1⟩
  have hw1 := b1.size
  obtain ⟨w2, hw2⟩ : ∃ X, X = w1.alloc (.cells #[.int .i64 (m : Int)] 2) := ⟨_, rfl⟩
  obtain ⟨w3, hw3⟩ : ∃ X, X = w2.alloc (.cells #[] 30) := ⟨_, rfl⟩
  have hs2 : w2.heap.size = w1.heap.size + 1 := by rw [hw2]; simp
  have b2 : Below w1.heap.size w1 w2 := by rw [hw2]; exact (Below.refl _ _).alloc (Nat.le_refl _) _
  have b3 : Below w2.heap.size w2 w3 := by rw [hw3]; exact (Below.refl _ _).alloc (Nat.le_refl _) _
  have hP2 : PathO w2 w1.heap.size w1.heap.size 1 [m] := by rw [hw2]; exact PathO.one w1 m
  have HP3 := Lib.hid ((hP2.below b3).less hw1)
  have HT3 : Hid (TreeW kRow 30 w.heap.size w3 w2.heap.size 0 []) := Lib.hid (TreeW.start kRow _ (by rw [hw3]; simpa using World.ownsRow_made (base := w.heap.size) w2 #[] 0 (by omega) (Nat.zero_le _) rfl))
  have HB3 := Lib.hid (b1.trans ((b2.trans (b3.mono b2.size)).mono hw1))
  have HCALL := Lib.hid (HEX.out w2.heap.size 0 w1.heap.size 1 w3 HB3.out HP3.out (by omega) HT3.out)
  rw [hs2] at HCALL
  go_wp2_with (fail)
  rw [← hw2, ← hw3]
  refine HCALL.out.mono ?_
  rintro e w4 ⟨g', cap', L', rfl, hmp, hT4, hg4, hto⟩
  have hbe : Below w.heap.size w w4 := HB3.out.trans (hto.below HB3.out.size (fun b h => by
    have := HB3.out.size
    rcases h with h | h <;> omega))
  have hm : L'.map (·.a) = Q.map barL := by simpa using hmp
  have HM := Lib.hid hm
  have HT4 := Lib.hid hT4
  clear hmp hm hT4 hto hg4
  go_wp2
  go_ret2
  exact ⟨g', cap', L', rfl, HM.out, HT4.out, hbe⟩
def PathPost (V : List Voi) (rule : Int) (m : Nat) (w : World) (e : Ending) (w' : World) : Prop :=
  (e = .returned (.tuple #[.slice none 0 0, .bool false]) ∧ ¬ Reach (grV V) [] m ∧ Below w.heap.size w w') ∨
  ∃ r g c, e = .returned (.tuple #[.slice (some ⟨g, 0, none⟩) (r.length + 1) c, .bool true]) ∧ Fst (grV V) (PN (grV V) rule) [] m r ∧ Ints w' w'.heap.size (.slice (some ⟨g, 0, none⟩) (r.length + 1) c) (barL (m :: r)) ∧ Below w.heap.size w w'
set_option maxRecDepth 100000 in
set_option maxHeartbeats 2000000 in
theorem path_any (V : List Voi) (hok : VoisOk V) (rule : Int) (h0 : 0 ≤ rule) (h2 : rule ≤ 2) (m : Nat) (hm : m < V.length) (v : Value) (w : World) (hV : Vois w w.heap.size v V) : Calls Try.prog 8 #[v, .int .i64 rule, .int .i64 (m : Int)] w (PathPost V rule m w) := by
  have HMB := Lib.hid (isMember_any V hok m hm v w hV)
  have HRU := Lib.hid (fun W => isRule_any rule h0 h2 W)
  have HBT := Lib.hid (fun (W : World) (hb : Below w.heap.size w W) => best2_any V rule m v W (hV.on hb hb.size) hok hm)
  have hnl : ∀ W, (binOp .neq 30 (.slice none 0 0) (.slice none 0 0)).run Try.prog W = .ok (.bool false) W := fun W => by
    have := run_neq_slice_nil (P := Try.prog) W 30 2 none 0 0 Try.underlying30
    simpa using this
  have hnn : ∀ W ad n c, (binOp .neq 30 (.slice (some ad) n c) (.slice none 0 0)).run Try.prog W = .ok (.bool true) W := fun W ad n c => by
    have := run_neq_slice_nil (P := Try.prog) W 30 2 (some ad) n c Try.underlying30
    simpa using this
  unfold Best2Post at HBT
  unfold PathPost
  clear hV hok
  go_enter Try.func8, Try.ntmps8
  go_wp2_with (fail)
  refine HMB.out.mono ?_
  rintro e w1 ⟨rfl, b1⟩
  go_wp2_with (fail)
  refine (HRU.out w1).mono ?_
  rintro e _ ⟨rfl, n, rfl⟩
  have HB2 := Lib.hid (below_drewN b1 n)
  generalize w1.drewN n = w2 at *
  go_wp2_with (fail)
  refine (HBT.out w2 HB2.out).mono ?_
  rintro e w3 (⟨rfl, hbp, b3⟩ | ⟨p, g, c, rfl, hbp, hne, ho, b3⟩)
  · have HR : Hid (¬ Reach (grV V) [] m) := Lib.hid (by
      rcases hbp with ⟨_, h⟩ | ⟨_, q, a, e, _⟩
      · exact h
      · simp at e)
    have hbe := HB2.out.trans (b3.mono HB2.out.size)
    clear hbp
    go_wp2
    go_ret2
    exact .inl ⟨rfl, HR.out, hbe⟩
  · obtain ⟨r, hp, hf⟩ : ∃ r, p = m :: r ∧ Fst (grV V) (PN (grV V) rule) [] m r := by
      rcases hbp with ⟨h, _⟩ | ⟨_, q, a, _, hmd, hsa⟩
      · exact absurd h hne
      · exact made_fst hmd hsa
    subst hp
    have HF := Lib.hid hf
    have HI : Hid (Ints w3 w3.heap.size (.slice (some ⟨g, 0, none⟩) (r.length + 1) c) (barL (m :: r))) := Lib.hid (ho.slR (size := 1) (fun _ => rfl))
    have hbe := HB2.out.trans (b3.mono HB2.out.size)
    clear hbp hne hf ho
    rw [List.length_cons]
    go_wp2
    go_ret2
    exact .inr ⟨r, g, c, rfl, HF.out, HI.out, hbe⟩
end Go.Proofs.Ytihhbkijcebapaa

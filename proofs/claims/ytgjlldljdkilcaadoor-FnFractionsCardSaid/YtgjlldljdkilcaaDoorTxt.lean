/- Numbers and fractions as texts. -/
import Derived.Test.YtgjlldljdkilcaaDoorFrD
import Derived.Test.YtgjlldljdkilcaaDoorDec
import Derived.Test.YtgjlldljdkilcaaDoorShelf
import Derived.Deep.RegionHeld3
import Derived.Lib.AppendIntMem
import Derived.Lib.AtoiErrMem
namespace Go.Proofs.YtgjlldljdkilcaaDoor
open Go.RowKit Go.Lib

/-- What the library's functions do in every world that is as w below B. -/
structure Env (B : Nat) (w : World) : Prop where
  dec : ∀ w', Below B w w' → ∀ n : Int, -9223372036854775808 ≤ n → n ≤ 9223372036854775807 →
    Calls Tryd.prog 65 #[.int .i64 n, .int .i64 10] w' (RetB (.string ⟨(itoa n).toArray⟩) w')
  cut : ∀ w', Below B w w' → ∀ s sep : ByteArray, s.size < 4294967281 →
    Calls Tryd.prog 29 #[.string s, .string sep] w' (RetQ (.tuple #[.string ⟨(Lib.cut s.data.toList sep.data.toList).1.toArray⟩, .string ⟨(Lib.cut s.data.toList sep.data.toList).2.1.toArray⟩, .bool (Lib.cut s.data.toList sep.data.toList).2.2]) w')

theorem Env.on {B : Nat} {w w1 : World} (h : Env B w) (hb : Below B w w1) : Env B w1 :=
  ⟨fun w' hb' => h.dec w' (hb.trans hb'), fun w' hb' => h.cut w' (hb.trans hb')⟩

set_option maxHeartbeats 400000 in
theorem decimal_any (B : Nat) (n : Int) (w : World) (hE : Env B w) (h1 : -9223372036854775808 ≤ n) (h2 : n ≤ 9223372036854775807) :
    Calls Tryd.prog 52 #[.int .i64 n] w (RetB (.string ⟨(itoa n).toArray⟩) w) := by
  have H := hE.dec w (Below.refl _ _) n h1 h2
  have H := Lib.hid H
  clear hE
  go_enter Tryd.func52, Tryd.ntmps52
  go_wp2_with (fail)
  refine (H.out).mono ?_
  rintro e w1 ⟨rfl, hb⟩
  go_wp2
  go_ret
  exact ⟨rfl, hb⟩

def RetBE (v : Value) (B : Nat) (w : World) (e : Ending) (w' : World) : Prop := e = .returned v ∧ Below w.heap.size w w' ∧ Env B w'

set_option maxHeartbeats 1000000 in
theorem read_yes (B : Nat) (n lo hi : Int) (w : World) (hE : Env B w) (hB : B ≤ w.heap.size) (h1 : -9223372036854775808 ≤ n) (h2 : n ≤ 9223372036854775807) (h3 : lo ≤ n) (h4 : n ≤ hi) :
    Calls Tryd.prog 30 #[.string ⟨(itoa n).toArray⟩, .int .i64 lo, .int .i64 hi] w (RetB (.tuple #[.int .i64 n, .bool true]) w) := by
  have hp : parseIntB 64 (⟨(itoa n).toArray⟩ : ByteArray).data.toList = .ok n := parse_itoa n h1 h2
  have hl := itoa_length_le n h1 h2
  have hsz : (⟨(itoa n).toArray⟩ : ByteArray).size ≤ 9223372036854775806 := by
    show (itoa n).toArray.size ≤ _
    rw [List.size_toArray]
    omega
  have P := Tryd.strconv_ParseInt_10_at64_ok ⟨(itoa n).toArray⟩ hsz n hp w
  have P := Lib.hid P
  have E := Lib.hid hE
  generalize hs : itoa n = l at *
  have Hs := Lib.hid hs
  clear hp hl hsz hE hs
  go_enter Tryd.func30, Tryd.ntmps30
  go_wp2_with (fail)
  refine (P.out).mono ?_
  rintro e w1 ⟨rfl, hw1⟩
  have hb1 : Below w.heap.size w w1 := by
    rcases hw1 with rfl | ⟨t, rfl⟩
    · exact Below.refl _ _
    · exact bytesWorld_below _ _ _
  clear hw1
  go_wp2_with (fail)
  refine (decimal_any B n w1 (E.out.on (hb1.mono hB)) h1 h2).mono ?_
  rintro e w2 ⟨rfl, hb2⟩
  rw [Hs.out]
  go_wp2_with (fail)
  refine (in2_yes n lo hi w2 h3 h4).mono ?_
  rintro e w3 ⟨rfl, k, rfl⟩
  go_wp2
  go_ret2
  exact ⟨rfl, below_drewN (hb1.trans (hb2.mono hb1.size)) k⟩

/-- The text of a fraction. -/
def fText (n d : Int) : List UInt8 := if d = 1 then itoa n else itoa n ++ 47 :: itoa d

theorem append_str (l r : List UInt8) : (⟨l.toArray⟩ : ByteArray) ++ ⟨r.toArray⟩ = ⟨(l ++ r).toArray⟩ := by
  apply ByteArray.ext
  rw [ByteArray.data_append]
  simp

theorem cat_run {P : Program} (l r : List UInt8) (hl : l.length ≤ 8388608) (hr : r.length ≤ 8388608) (w : World) : (Op.stringOp .add ⟨l.toArray⟩ ⟨r.toArray⟩).run P w = .ok (.string ⟨(l ++ r).toArray⟩) w :=
  run_string_add_lists w l r (by omega) (by omega)

theorem keep2 {w w' w'' : World} {b : Nat} {x y : Value} (h : Below w'.heap.size w' w'')
    (h0 : w'.cell? ⟨b, 0, none⟩ = some x ∧ w'.cell? ⟨b, 1, none⟩ = some y ∧ b < w'.heap.size ∧ Below b w w') :
    w''.cell? ⟨b, 0, none⟩ = some x ∧ w''.cell? ⟨b, 1, none⟩ = some y ∧ b < w''.heap.size ∧ Below b w w'' :=
  ⟨(h.cell (p := ⟨b, 0, none⟩) h0.2.2.1).trans h0.1, (h.cell (p := ⟨b, 1, none⟩) h0.2.2.1).trans h0.2.1, Nat.lt_of_lt_of_le h0.2.2.1 h.size, h0.2.2.2.trans (h.mono (Nat.le_of_lt h0.2.2.1))⟩
theorem keep2d {w w' : World} {b : Nat} {x y : Value}
    (h0 : w'.cell? ⟨b, 0, none⟩ = some x ∧ w'.cell? ⟨b, 1, none⟩ = some y ∧ b < w'.heap.size ∧ Below b w w') :
    w'.drew.cell? ⟨b, 0, none⟩ = some x ∧ w'.drew.cell? ⟨b, 1, none⟩ = some y ∧ b < w'.drew.heap.size ∧ Below b w w'.drew :=
  ⟨h0.1, h0.2.1, h0.2.2.1, h0.2.2.2.drew⟩
theorem env2 {w w' : World} {b B : Nat} {x y : Value} (hE : Env B w) (hB : B ≤ b)
    (h0 : w'.cell? ⟨b, 0, none⟩ = some x ∧ w'.cell? ⟨b, 1, none⟩ = some y ∧ b < w'.heap.size ∧ Below b w w') : Env B w' := hE.on (h0.2.2.2.mono hB)

set_option maxHeartbeats 1000000 in
theorem ftext1_any (n d : Int) (w : World) (hE : Env w.heap.size w) (h1 : -1000000000 ≤ n) (h2 : n ≤ 1000000000) (hd1 : 1 < d) (hd2 : d ≤ 1000000000) :
    Calls Tryd.prog 28 #[.agg #[.int .i64 n, .int .i64 d]] w (RetB (.string ⟨(itoa n ++ 47 :: itoa d).toArray⟩) w) := by
  have E := Lib.hid hE
  have hB0 : Below w.heap.size w (w.alloc (.cells #[.int .i64 n, .int .i64 d] 25)) := (Below.refl _ _).alloc (Nat.le_refl _) _
  have hd : (d == 1) = false := by simp; omega
  clear hE
  go_enter Tryd.func28, Tryd.ntmps28
  go_wp2
  obtain ⟨W, hW⟩ : ∃ W : World, W = w.alloc (.cells #[.int .i64 n, .int .i64 d] 25) := ⟨_, rfl⟩
  have hS : W.cell? ⟨w.heap.size, 0, none⟩ = some (.int .i64 n) ∧ W.cell? ⟨w.heap.size, 1, none⟩ = some (.int .i64 d) ∧ w.heap.size < W.heap.size ∧ Below w.heap.size w W := by
    rw [hW]
    exact ⟨by simp [go_sem], by simp [go_sem], by simp, hB0⟩
  rw [← hW]
  clear hW hB0
  have l1 := itoa_length_le n (by omega) (by omega)
  have l2 := itoa_length_le d (by omega) (by omega)
  have c1 : ∀ w, (Op.stringOp .add ⟨(itoa n).toArray⟩ ⟨#[47]⟩).run Tryd.prog w = .ok (.string ⟨(itoa n ++ [47]).toArray⟩) w := cat_run (itoa n) [47] (by omega) (by simp)
  have c2 : ∀ w, (Op.stringOp .add ⟨(itoa n ++ [47]).toArray⟩ ⟨(itoa d).toArray⟩).run Tryd.prog w = .ok (.string ⟨(itoa n ++ [47] ++ itoa d).toArray⟩) w := cat_run (itoa n ++ [47]) (itoa d) (by simp; omega) (by omega)
  clear l1 l2
  go_region_held3 (fun w' => w'.cell? ⟨w.heap.size, 0, none⟩ = some (.int .i64 n) ∧ w'.cell? ⟨w.heap.size, 1, none⟩ = some (.int .i64 d) ∧ w.heap.size < w'.heap.size ∧ Below w.heap.size w w')
    (first | exact hS | exact keep2 (by assumption) (by assumption) | exact keep2d (by assumption))
    (first | (go_at_call 52; refine (decimal_any w.heap.size _ _ (env2 E.out (Nat.le_refl _) (by assumption)) (by omega) (by omega)).mono ?_; rintro e w' ⟨rfl, hb⟩))
  have hH := (by assumption : w'.cell? ⟨w.heap.size, 0, none⟩ = some (.int .i64 n) ∧ w'.cell? ⟨w.heap.size, 1, none⟩ = some (.int .i64 d) ∧ w.heap.size < w'.heap.size ∧ Below w.heap.size w w').2.2.2
  clear c1 c2
  go_wp2
  go_ret
  exact ⟨rfl, hH⟩

set_option maxHeartbeats 1000000 in
theorem ftext_any (n d : Int) (w : World) (hE : Env w.heap.size w) (hok : Ok n d) :
    Calls Tryd.prog 28 #[.agg #[.int .i64 n, .int .i64 d]] w (RetB (.string ⟨(fText n d).toArray⟩) w) := by
  obtain ⟨h1, h2, h3, h4⟩ := ok_bd hok
  by_cases hd : d = 1
  · have hf : fText n d = itoa n := by unfold fText; rw [if_pos hd]
    rw [hf]
    subst hd
    have E := Lib.hid hE
    clear hE hf hok
    go_enter Tryd.func28, Tryd.ntmps28
    go_wp2_with (fail)
    refine (decimal_any w.heap.size _ _ (E.out.on ((Below.refl _ _).alloc (Nat.le_refl _) _)) (by omega) (by omega)).mono ?_
    rintro e w1 ⟨rfl, hb⟩
    go_wp2
    go_ret
    exact ⟨rfl, ((Below.refl _ _).alloc (Nat.le_refl _) _).trans (hb.mono (by simp))⟩
  · have hf : fText n d = itoa n ++ 47 :: itoa d := by unfold fText; rw [if_neg hd]
    rw [hf]
    exact ftext1_any n d w hE h1 h2 (by omega) h4

theorem env_more {B B' : Nat} {w : World} (h : Env B w) (hB : B ≤ B') : Env B' w :=
  ⟨fun w' hb => h.dec w' (hb.mono hB), fun w' hb => h.cut w' (hb.mono hB)⟩

set_option maxHeartbeats 1000000 in
theorem fractionText_any (n d : Int) (w : World) (hE : Env w.heap.size w) (hok : Ok n d) :
    Calls Tryd.prog 10 #[.agg #[.int .i64 n, .int .i64 d]] w (RetB (.tuple #[.string ⟨(fText n d).toArray⟩, .bool true]) w) := by
  have E := Lib.hid hE
  have HO := Lib.hid hok
  clear hE hok
  go_enter Tryd.func10, Tryd.ntmps10
  go_wp2_with (fail)
  refine (ok2_yes _ _ _ HO.out).mono ?_
  rintro e w1 ⟨rfl, hb1⟩
  have hz1 : w.heap.size < w1.heap.size := by have := hb1.size; simp at this; omega
  have x0 := (bcell hb1).1 w.heap.size 0 (by simp)
  have x1 := (bcell hb1).1 w.heap.size 1 (by simp)
  simp [go_sem] at x0 x1
  have hb := ((Below.refl w.heap.size w).alloc (Nat.le_refl _) _).trans (hb1.mono (by simp))
  go_wp2_with (fail)
  refine (ftext_any _ _ _ (env_more (E.out.on hb) hb.size) HO.out).mono ?_
  rintro e w2 ⟨rfl, hb2⟩
  go_wp2
  go_ret2
  exact ⟨rfl, hb.trans (hb2.mono hb.size)⟩

theorem no_slash (n : Int) : (47 : UInt8) ∉ itoa n := by
  intro h
  rcases itoa_bytes n _ h with h | h
  · exact absurd h.1 (by decide)
  · exact absurd h (by decide)

theorem fText_length (n d : Int) (h1 : -1000000000 ≤ n) (h2 : n ≤ 1000000000) (h3 : 1 ≤ d) (h4 : d ≤ 1000000000) : (fText n d).length ≤ 43 := by
  have l1 := itoa_length_le n (by omega) (by omega)
  have l2 := itoa_length_le d (by omega) (by omega)
  unfold fText
  split
  · omega
  · simp; omega

set_option maxHeartbeats 2000000 in
theorem readFraction_one (n d : Int) (w : World) (hE : Env w.heap.size w) (hok : Ok n d) (hd : d = 1) :
    Calls Tryd.prog 11 #[.string ⟨(fText n d).toArray⟩] w (RetB (.tuple #[.agg #[.int .i64 n, .int .i64 d], .bool true]) w) := by
  obtain ⟨h1, h2, h3, h4⟩ := ok_bd hok
  have E := Lib.hid hE
  have HO := Lib.hid hok
  clear hE hok
  have hlen := fText_length n d h1 h2 h3 h4
  have hb0 : Below w.heap.size w (w.alloc (.cells #[.int .i64 0, .int .i64 0] 25)) := (Below.refl _ _).alloc (Nat.le_refl _) _
  have C := E.out.cut _ hb0 ⟨(fText n d).toArray⟩ ⟨#[47]⟩ (by show (fText n d).toArray.size < _; simp; omega)
  have hcut : Lib.cut (⟨(fText n d).toArray⟩ : ByteArray).data.toList (⟨#[47]⟩ : ByteArray).data.toList = (itoa n, [], false) := by
    show Lib.cut (fText n d) [47] = _
    unfold fText
    rw [if_pos hd, cut_none _ _ (no_slash n)]
  rw [hcut] at C
  have C := Lib.hid C
  clear hcut hlen
  subst hd
  go_enter Tryd.func11, Tryd.ntmps11
  go_wp2_with (fail)
  refine C.out.mono ?_
  rintro e w1 ⟨rfl, k, rfl⟩
  go_wp2_with (fail)
  have hbW := ((below_drewN hb0 k).alloc (by simp) (.cells #[.int .i64 0, .int .i64 1] 25))
  refine (read_yes w.heap.size n _ _ _ (E.out.on hbW) hbW.size (by omega) (by omega) (by omega) (by omega)).mono ?_
  rintro e w2 ⟨rfl, hb2⟩
  have hz2 : w.heap.size + 1 < w2.heap.size := by have := hb2.size; simp at this; omega
  have r0 := (bcell hb2).1 w.heap.size 0 (by simp; omega)
  have r1 := (bcell hb2).1 w.heap.size 1 (by simp; omega)
  have r2 := (bcell hb2).1 (w.heap.size + 1) 0 (by simp)
  have r3 := (bcell hb2).1 (w.heap.size + 1) 1 (by simp)
  have r4 := (bcell hb2).2 w.heap.size 0 (by simp; omega)
  have r5 := (bcell hb2).2 w.heap.size 1 (by simp; omega)
  have r6 := (bcell hb2).2 (w.heap.size + 1) 0 (by simp)
  have r7 := (bcell hb2).2 (w.heap.size + 1) 1 (by simp)
  simp [go_sem] at r0 r1 r2 r3 r4 r5 r6 r7
  have HB2 := Lib.hid (hbW.trans (hb2.mono hbW.size))
  clear hbW hb0
  go_wp2_with (fail)
  have hbV := Lib.hid ((HB2.out).setCell (p := ⟨w.heap.size + 1, 0, none⟩) (by simp) (.int .i64 n))
  refine (fractionText_any n 1 _ (env_more (E.out.on hbV.out) hbV.out.size) HO.out).mono ?_
  rintro e w4 ⟨rfl, hb4⟩
  have hz4 : w.heap.size + 1 < w4.heap.size := by have := hb4.size; simp at this; omega
  have q0 := (bcell hb4).1 w.heap.size 0 (by simp; omega)
  have q1 := (bcell hb4).1 w.heap.size 1 (by simp; omega)
  have q2 := (bcell hb4).1 (w.heap.size + 1) 0 (by simp; omega)
  have q3 := (bcell hb4).1 (w.heap.size + 1) 1 (by simp; omega)
  have q4 := (bcell hb4).2 w.heap.size 0 (by simp; omega)
  have q5 := (bcell hb4).2 w.heap.size 1 (by simp; omega)
  simp [go_sem, r0, r1, r2, r3, r4, r5, r6, r7] at q0 q1 q2 q3 q4 q5
  go_wp2
  refine bodyPost_ret (v := .tuple #[.agg #[.int .i64 n, .int .i64 1], .bool true]) (by simp [results, Tryd.results11, go_sem, q0, q1]) rfl ⟨rfl, ?_⟩
  exact ((hbV.out.trans (hb4.mono hbV.out.size)).setCell (by simp) _).setCell (by simp) _

set_option maxHeartbeats 2000000 in
theorem readFraction_two (n d : Int) (w : World) (hE : Env w.heap.size w) (hok : Ok n d) (hd : d ≠ 1) :
    Calls Tryd.prog 11 #[.string ⟨(fText n d).toArray⟩] w (RetB (.tuple #[.agg #[.int .i64 n, .int .i64 d], .bool true]) w) := by
  obtain ⟨h1, h2, h3, h4⟩ := ok_bd hok
  have E := Lib.hid hE
  have HO := Lib.hid hok
  clear hE hok
  have hlen := fText_length n d h1 h2 h3 h4
  have hb0 : Below w.heap.size w (w.alloc (.cells #[.int .i64 0, .int .i64 0] 25)) := (Below.refl _ _).alloc (Nat.le_refl _) _
  have C := E.out.cut _ hb0 ⟨(fText n d).toArray⟩ ⟨#[47]⟩ (by show (fText n d).toArray.size < _; simp; omega)
  have hcut : Lib.cut (⟨(fText n d).toArray⟩ : ByteArray).data.toList (⟨#[47]⟩ : ByteArray).data.toList = (itoa n, itoa d, true) := by
    show Lib.cut (fText n d) [47] = _
    unfold fText
    rw [if_neg hd, cut_at _ _ _ (no_slash n)]
  rw [hcut] at C
  have C := Lib.hid C
  clear hcut hlen
  clear hd
  go_enter Tryd.func11, Tryd.ntmps11
  go_wp2_with (fail)
  refine C.out.mono ?_
  rintro e w1 ⟨rfl, k, rfl⟩
  go_wp2_with (fail)
  have hbW := ((below_drewN hb0 k).alloc (by simp) (.cells #[.int .i64 0, .int .i64 1] 25))
  refine (read_yes w.heap.size n _ _ _ (E.out.on hbW) hbW.size (by omega) (by omega) (by omega) (by omega)).mono ?_
  rintro e w2 ⟨rfl, hb2⟩
  have hz2 : w.heap.size + 1 < w2.heap.size := by have := hb2.size; simp at this; omega
  have r0 := (bcell hb2).1 w.heap.size 0 (by simp; omega)
  have r1 := (bcell hb2).1 w.heap.size 1 (by simp; omega)
  have r2 := (bcell hb2).1 (w.heap.size + 1) 0 (by simp)
  have r3 := (bcell hb2).1 (w.heap.size + 1) 1 (by simp)
  have r4 := (bcell hb2).2 w.heap.size 0 (by simp; omega)
  have r5 := (bcell hb2).2 w.heap.size 1 (by simp; omega)
  have r6 := (bcell hb2).2 (w.heap.size + 1) 0 (by simp)
  have r7 := (bcell hb2).2 (w.heap.size + 1) 1 (by simp)
  simp [go_sem] at r0 r1 r2 r3 r4 r5 r6 r7
  have HB2 := Lib.hid (hbW.trans (hb2.mono hbW.size))
  clear hbW hb0
  go_wp2_with (fail)
  have hbX := (HB2.out.setCell (p := ⟨w.heap.size + 1, 0, none⟩) (by simp) (.int .i64 n))
  refine (read_yes w.heap.size d _ _ _ (E.out.on hbX) hbX.size (by omega) (by omega) (by omega) (by omega)).mono ?_
  rintro e w3 ⟨rfl, hb3⟩
  have hz3 : w.heap.size + 1 < w3.heap.size := by have := hb3.size; simp at this; omega
  have s0 := (bcell hb3).1 w.heap.size 0 (by simp; omega)
  have s1 := (bcell hb3).1 w.heap.size 1 (by simp; omega)
  have s2 := (bcell hb3).1 (w.heap.size + 1) 0 (by simp; omega)
  have s3 := (bcell hb3).1 (w.heap.size + 1) 1 (by simp; omega)
  have s4 := (bcell hb3).2 w.heap.size 0 (by simp; omega)
  have s5 := (bcell hb3).2 w.heap.size 1 (by simp; omega)
  have s6 := (bcell hb3).2 (w.heap.size + 1) 0 (by simp; omega)
  have s7 := (bcell hb3).2 (w.heap.size + 1) 1 (by simp; omega)
  simp [go_sem, r0, r1, r2, r3, r4, r5, r6, r7] at s0 s1 s2 s3 s4 s5 s6 s7
  have HB3 := Lib.hid (hbX.trans (hb3.mono hbX.size))
  clear hbX r0 r1 r2 r3 r4 r5 r6 r7
  go_wp2_with (fail)
  have hbV := Lib.hid ((HB3.out).setCell (p := ⟨w.heap.size + 1, 1, none⟩) (by simp) (.int .i64 d))
  refine (fractionText_any n d _ (env_more (E.out.on hbV.out) hbV.out.size) HO.out).mono ?_
  rintro e w4 ⟨rfl, hb4⟩
  have hz4 : w.heap.size + 1 < w4.heap.size := by have := hb4.size; simp at this; omega
  have q0 := (bcell hb4).1 w.heap.size 0 (by simp; omega)
  have q1 := (bcell hb4).1 w.heap.size 1 (by simp; omega)
  have q2 := (bcell hb4).1 (w.heap.size + 1) 0 (by simp; omega)
  have q3 := (bcell hb4).1 (w.heap.size + 1) 1 (by simp; omega)
  have q4 := (bcell hb4).2 w.heap.size 0 (by simp; omega)
  have q5 := (bcell hb4).2 w.heap.size 1 (by simp; omega)
  simp [go_sem, s0, s1, s2, s3, s4, s5, s6, s7] at q0 q1 q2 q3 q4 q5
  go_wp2
  refine bodyPost_ret (v := .tuple #[.agg #[.int .i64 n, .int .i64 d], .bool true]) (by simp [results, Tryd.results11, go_sem, q0, q1]) rfl ⟨rfl, ?_⟩
  exact ((hbV.out.trans (hb4.mono hbV.out.size)).setCell (by simp) _).setCell (by simp) _

theorem readFraction_any (n d : Int) (w : World) (hE : Env w.heap.size w) (hok : Ok n d) :
    Calls Tryd.prog 11 #[.string ⟨(fText n d).toArray⟩] w (RetB (.tuple #[.agg #[.int .i64 n, .int .i64 d], .bool true]) w) := by
  by_cases hd : d = 1
  · exact readFraction_one n d w hE hok hd
  · exact readFraction_two n d w hE hok hd
end Go.Proofs.YtgjlldljdkilcaaDoor

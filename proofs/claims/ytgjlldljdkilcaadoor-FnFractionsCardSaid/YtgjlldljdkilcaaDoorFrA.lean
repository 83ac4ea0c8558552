/- Fractions: the walks of the reference's generator. -/
import Derived.Test.YtgjlldljdkilcaaDoorSrc
namespace Go.Proofs.YtgjlldljdkilcaaDoor
open Go.RowKit

def RetInt (n : Int) (w : World) (e : Ending) (w' : World) : Prop := e = .returned (.int .i64 n) ∧ w = w'

theorem gcd_step (x y : Nat) (hy : 0 < y) : Nat.gcd y (x % y) = Nat.gcd x y := by
  rw [Nat.gcd_comm x y, Nat.gcd_rec y x, Nat.gcd_comm]

set_option maxHeartbeats 400000 in
theorem gcd1_any (a b : Nat) (w : World) (ha : a ≤ 2000000000000000000) (hb : b ≤ 2000000000000000000) :
    Calls Tryd.prog 44 #[.int .i64 (a : Int), .int .i64 (b : Int)] w (RetInt (Nat.gcd a b) w) := by
  go_enter Tryd.func44, Tryd.ntmps44
  go_wp2
  go_loop [0, 1, 5] (fun s t u => ∃ x y : Nat, x ≤ 2000000000000000000 ∧ y ≤ 2000000000000000000 ∧ Nat.gcd x y = Nat.gcd a b ∧ s = .int .i64 (x : Int) ∧ t = .int .i64 (y : Int)) (fun _ t _ => (intOf t).toNat)
  case atStart => exact ⟨a, b, ha, hb, rfl, rfl, rfl⟩
  case round =>
    obtain ⟨x, y, hx, hy, hg, rfl, rfl⟩ := hrel
    have Hg := Lib.hid hg
    clear hg
    by_cases h0 : 0 < y
    · have hlt : x % y < y := Nat.mod_lt _ h0
      have hle : x % y ≤ x := Nat.mod_le _ _
      have hg := gcd_step x y h0
      have Hg2 := Lib.hid hg
      clear hg
      go_wp2
      go_round
      case rel => exact ⟨y, x % y, by omega, by omega, Hg2.out.trans Hg.out, rfl, by go_num⟩
      case measure => simp [intOf]; omega
    · go_wp2
      go_ret
      have : y = 0 := by omega
      subst this
      exact ⟨ret_i64 (by have := Hg.out; simp at this; rw [this]), rfl⟩

theorem below_drewN {B : Nat} {a w : World} (h : Below B a w) (n : Nat) : Below B a (w.drewN n) := ⟨h.os, h.tape, h.output, h.size, h.block⟩
theorem bcell {W w1 : World} (hb : Below W.heap.size W w1) : (∀ b o, b < W.heap.size → w1.cell? ⟨b, o, none⟩ = W.cell? ⟨b, o, none⟩) ∧ (∀ b o, b < W.heap.size → w1.frozen? ⟨b, o, none⟩ = W.frozen? ⟨b, o, none⟩) :=
  ⟨fun b o h => hb.cell (p := ⟨b, o, none⟩) h, fun b o h => hb.frozen (p := ⟨b, o, none⟩) h⟩
def RetQ (v : Value) (w : World) (e : Ending) (w' : World) : Prop := e = .returned v ∧ ∃ k, w' = w.drewN k
def RetB (v : Value) (w : World) (e : Ending) (w' : World) : Prop := e = .returned v ∧ Below w.heap.size w w'

set_option maxHeartbeats 400000 in
theorem gcd2_any (a b : Nat) (w : World) (ha : a ≤ 2000000000000000000) (hb : b ≤ 2000000000000000000) :
    Calls Tryd.prog 49 #[.int .i64 (a : Int), .int .i64 (b : Int)] w (RetQ (.int .i64 (Nat.gcd a b : Nat)) w) := by
  go_enter Tryd.func49, Tryd.ntmps49
  go_wp2
  go_loopw [0, 1] (fun s t wr => ∃ x y k : Nat, x ≤ 2000000000000000000 ∧ y ≤ 2000000000000000000 ∧ Nat.gcd x y = Nat.gcd a b ∧ s = .int .i64 (x : Int) ∧ t = .int .i64 (y : Int) ∧ wr = w.drewN k) (fun _ t _ => (intOf t).toNat)
  case atStart => exact ⟨a, b, 0, ha, hb, rfl, rfl, rfl, rfl⟩
  case round =>
    obtain ⟨x, y, k, hx, hy, hg, rfl, rfl, rfl⟩ := hrel
    have Hg := Lib.hid hg
    clear hg
    by_cases h0 : 0 < y
    · have hlt : x % y < y := Nat.mod_lt _ h0
      have hle : x % y ≤ x := Nat.mod_le _ _
      have hg := gcd_step x y h0
      have Hg2 := Lib.hid hg
      clear hg
      have hne : ((y : Int) != 0) = true := by rw [bne_iff_ne]; omega
      have hne2 : ((y : Int) == 0) = false := by simp; omega
      go_wp2
      go_quiet (fail)
      go_wp2
      go_roundw
      case rel => exact ⟨y, x % y, _, by omega, by omega, Hg2.out.trans Hg.out, rfl, by go_num, World.drewN_drewN _ _ _⟩
      case measure => simp [intOf]; omega
    · have : y = 0 := by omega
      subst this
      go_wp2
      go_ret
      exact ⟨ret_i64 (by have := Hg.out; simp at this; rw [this]), _, rfl⟩

set_option maxHeartbeats 400000 in
theorem abs1_any (n : Int) (w : World) (h1 : -2000000000000000000 ≤ n) (h2 : n ≤ 2000000000000000000) :
    Calls Tryd.prog 45 #[.int .i64 n] w (RetInt n.natAbs w) := by
  rcases Int.lt_or_le 0 n with h | h
  · go_enter Tryd.func45, Tryd.ntmps45
    go_wp2
    go_ret
    exact ⟨ret_i64 (by omega), rfl⟩
  · go_enter Tryd.func45, Tryd.ntmps45
    go_wp2
    all_goals
      go_ret
      exact ⟨ret_i64 (by omega), rfl⟩

set_option maxHeartbeats 400000 in
theorem abs2_any (n : Int) (w : World) (h1 : -2000000000000000000 ≤ n) (h2 : n ≤ 2000000000000000000) :
    Calls Tryd.prog 50 #[.int .i64 n] w (RetInt n.natAbs w) := by
  go_enter Tryd.func50, Tryd.ntmps50
  go_wp2
  all_goals
    go_ret
    exact ⟨ret_i64 (by omega), rfl⟩

theorem quiet_q {P : Program} {f : FuncId} {args : Array Value} {w : World} {n : Nat} {v : Value} (h : Calls P f args (w.drewN n) (RetQ v (w.drewN n))) :
    Calls P f args (w.drewN n) fun e w'' => e = .returned v ∧ ∃ m, w'' = w.drewN m :=
  h.mono fun _ _ ⟨he, m, hm⟩ => ⟨he, n + m, by rw [hm, World.drewN_drewN]⟩
theorem retQ_of {P : Program} {f : FuncId} {args : Array Value} {w : World} {n : Int} (h : Calls P f args w (RetInt n w)) : Calls P f args w (RetQ (.int .i64 n) w) :=
  h.mono fun _ _ ⟨he, hw⟩ => ⟨he, 0, hw ▸ rfl⟩

set_option maxHeartbeats 400000 in
theorem in1_yes (n a b : Int) (w : World) (h1 : a ≤ n) (h2 : n ≤ b) :
    Calls Tryd.prog 64 #[.int .i64 n, .int .i64 a, .int .i64 b] w (RetQ (.bool true) w) := by
  go_enter Tryd.func64, Tryd.ntmps64
  go_wp2
  go_ret
  exact ⟨rfl, 0, rfl⟩
set_option maxHeartbeats 400000 in
theorem in1_no (n a b : Int) (w : World) (h : n < a ∨ b < n) :
    Calls Tryd.prog 64 #[.int .i64 n, .int .i64 a, .int .i64 b] w (RetQ (.bool false) w) := by
  by_cases h1 : a ≤ n
  · have h2 : decide (n ≤ b) = false := by simp; omega
    clear h
    go_enter Tryd.func64, Tryd.ntmps64
    go_wp2
    go_ret
    exact ⟨rfl, 0, rfl⟩
  · have h2 : n < a := by omega
    clear h
    go_enter Tryd.func64, Tryd.ntmps64
    go_wp2
    go_ret
    exact ⟨rfl, 0, rfl⟩
set_option maxHeartbeats 400000 in
theorem in2_yes (n a b : Int) (w : World) (h1 : a ≤ n) (h2 : n ≤ b) :
    Calls Tryd.prog 48 #[.int .i64 n, .int .i64 a, .int .i64 b] w (RetQ (.bool true) w) := by
  go_enter Tryd.func48, Tryd.ntmps48
  go_wp2
  go_ret
  exact ⟨rfl, 0, rfl⟩
set_option maxHeartbeats 400000 in
theorem in2_no (n a b : Int) (w : World) (h : n < a ∨ b < n) :
    Calls Tryd.prog 48 #[.int .i64 n, .int .i64 a, .int .i64 b] w (RetQ (.bool false) w) := by
  by_cases h1 : a ≤ n
  · have h2 : decide (n ≤ b) = false := by simp; omega
    clear h
    go_enter Tryd.func48, Tryd.ntmps48
    go_wp2
    go_ret
    exact ⟨rfl, 0, rfl⟩
  · have h2 : n < a := by omega
    clear h
    go_enter Tryd.func48, Tryd.ntmps48
    go_wp2
    go_ret
    exact ⟨rfl, 0, rfl⟩

def Ok (n d : Int) : Prop := 1 ≤ d ∧ d ≤ 1000000000 ∧ -1000000000 ≤ n ∧ n ≤ 1000000000 ∧ Nat.gcd n.natAbs d.natAbs = 1
def frac (n d : Int) : Value := .agg #[.int .i64 n, .int .i64 d]

set_option maxHeartbeats 400000 in
theorem ok1_yes (n d : Int) (w : World) (h : Ok n d) :
    Calls Tryd.prog 46 #[.agg #[.int .i64 n, .int .i64 d]] w (RetB (.bool true) w) := by
  obtain ⟨h1, h2, h3, h4, h5⟩ := h
  obtain ⟨m, rfl⟩ := Int.eq_ofNat_of_zero_le (show 0 ≤ d by omega)
  have h5 : Nat.gcd n.natAbs m = 1 := h5
  go_enter Tryd.func46, Tryd.ntmps46
  go_wp2
  go_quiet ((first
    | (go_at_call 64; exact quiet_q (in1_yes _ _ _ _ (by omega) (by omega)))
    | (go_at_call 45; exact quiet_q (retQ_of (abs1_any _ _ (by omega) (by omega))))
    | (go_at_call 44; exact quiet_q (retQ_of (gcd1_any _ _ _ (by omega) (by omega))))))
  go_wp2
  go_ret
  exact ⟨rfl, ((Below.refl _ _).alloc (Nat.le_refl _) _).trans (below_drewN (Below.refl _ _) _)⟩

set_option maxHeartbeats 400000 in
theorem ok2_yes (n d : Int) (w : World) (h : Ok n d) :
    Calls Tryd.prog 23 #[.agg #[.int .i64 n, .int .i64 d]] w (RetB (.bool true) w) := by
  obtain ⟨h1, h2, h3, h4, h5⟩ := h
  obtain ⟨m, rfl⟩ := Int.eq_ofNat_of_zero_le (show 0 ≤ d by omega)
  have h5 : Nat.gcd n.natAbs m = 1 := h5
  go_enter Tryd.func23, Tryd.ntmps23
  go_wp2
  go_quiet ((first
    | (go_at_call 48; exact quiet_q (in2_yes _ _ _ _ (by omega) (by omega)))
    | (go_at_call 50; exact quiet_q (retQ_of (abs2_any _ _ (by omega) (by omega))))
    | (go_at_call 49; exact quiet_q (gcd2_any _ _ _ (by omega) (by omega)))))
  go_wp2
  go_ret
  exact ⟨rfl, ((Below.refl _ _).alloc (Nat.le_refl _) _).trans (below_drewN (Below.refl _ _) _)⟩

theorem quo_exact (a p k : Int) (hk : 1 ≤ k) (h : a = p * k) : a.tdiv k = p ∧ a / k = p := by
  subst h
  exact ⟨Int.mul_tdiv_cancel _ (by omega), Int.mul_ediv_cancel _ (by omega)⟩

theorem gcd_mul (p q k : Nat) (h : Nat.gcd p q = 1) : Nat.gcd (p * k) (q * k) = k := by
  rw [Nat.gcd_mul_right, h, Nat.one_mul]

set_option maxHeartbeats 1000000 in
theorem make1_yes (n d p q : Int) (k : Nat) (w : World) (hn : -1000000 ≤ n) (hn' : n ≤ 1000000) (hd : 1 ≤ d) (hd' : d ≤ 1000000) (hk : 1 ≤ k) (hp : n = p * k) (hq : d = q * k) (hok : Ok p q) :
    Calls Tryd.prog 21 #[.int .i64 n, .int .i64 d] w (RetB (.tuple #[.agg #[.int .i64 p, .int .i64 q], .bool true]) w) := by
  have e1 := (quo_exact n p k (by omega) hp)
  have e2 := (quo_exact d q k (by omega) hq)
  have hg : Nat.gcd n.natAbs d.natAbs = k := by
    rw [hp, hq, Int.natAbs_mul, Int.natAbs_mul]
    exact gcd_mul _ _ _ hok.2.2.2.2
  have hk2 : k ≤ 1000000 := by
    rw [← hg]
    exact Nat.le_trans (Nat.gcd_le_right _ (by omega)) (by omega)
  obtain ⟨m, rfl⟩ := Int.eq_ofNat_of_zero_le (show 0 ≤ d by omega)
  have hg : Nat.gcd n.natAbs m = k := hg
  have Hok := Lib.hid hok
  have E1 := Lib.hid e1
  have E2 := Lib.hid e2
  have HG := Lib.hid hg
  clear hp hq hok e1 e2 hg
  go_enter Tryd.func21, Tryd.ntmps21
  go_wp2_with (fail)
  refine (abs1_any _ _ (by omega) (by omega)).mono ?_
  rintro e w1 ⟨rfl, rfl⟩
  go_wp2_with (fail)
  refine (gcd1_any _ _ _ (by omega) (by omega)).mono ?_
  rintro e w1 ⟨rfl, rfl⟩
  rw [HG.out]
  have hk0 : ((k : Int) == 0) = false := by simp; omega
  have hk1 : (1 : Int) ≤ (k : Int) := by omega
  have e11 := E1.out.1
  have e12 := E1.out.2
  have e21 := E2.out.1
  have e22 := E2.out.2
  have hp1 : -1000000000 ≤ p := Hok.out.2.2.1
  have hp2 : p ≤ 1000000000 := Hok.out.2.2.2.1
  have hq1 : 1 ≤ q := Hok.out.1
  have hq2 : q ≤ 1000000000 := Hok.out.2.1
  go_wp2
  go_region
  go_wp2_with (fail)
  refine (ok1_yes _ _ _ Hok.out).mono ?_
  rintro e w1 ⟨rfl, hb⟩
  obtain ⟨hc, hf⟩ := bcell hb
  have k0 := hc w.heap.size 0 (by simp; omega)
  have k1 := hc w.heap.size 1 (by simp; omega)
  have g0 := hf w.heap.size 0 (by simp; omega)
  have g1 := hf w.heap.size 1 (by simp; omega)
  have k2 := hc (w.heap.size + 1) 0 (by simp)
  have k3 := hc (w.heap.size + 1) 1 (by simp)
  simp [go_sem] at k0 k1 g0 g1 k2 k3
  clear hc hf
  go_wp2
  refine bodyPost_ret (v := .tuple #[.agg #[.int .i64 p, .int .i64 q], .bool true]) (by simp [results, Tryd.results21, go_sem, k0, k1]) rfl ⟨rfl, ?_⟩
  exact (((((Below.refl _ _).alloc (Nat.le_refl _) _).alloc (by simp) _).drew.trans (hb.mono (by simp; omega))).setCell (by simp) _).setCell (by simp) _

theorem lowest (n d : Int) (hd : 1 ≤ d) : ∃ (p q : Int) (k : Nat), 1 ≤ k ∧ n = p * k ∧ d = q * k ∧ Nat.gcd p.natAbs q.natAbs = 1 ∧ p.natAbs ≤ n.natAbs ∧ 1 ≤ q ∧ q ≤ d := by
  have hpos : 0 < Int.gcd n d := Int.gcd_pos_of_ne_zero_right _ (by omega)
  obtain ⟨p, hp⟩ := Int.gcd_dvd_left n d
  obtain ⟨q, hq⟩ := Int.gcd_dvd_right n d
  generalize hg : Int.gcd n d = g at hp hq hpos
  have hg' : Int.gcd (g * p) (g * q) = g := by rw [← hp, ← hq]; exact hg
  rw [Int.gcd_mul_left] at hg'
  have h1 : Int.gcd p q = 1 := by
    have : (g : Int).natAbs = g := by simp
    rw [this] at hg'
    exact Nat.eq_of_mul_eq_mul_left hpos (by omega)
  have hq1 : 1 ≤ q := by
    rcases Int.lt_or_le 0 q with h | h
    · omega
    · have := Int.mul_nonpos_of_nonneg_of_nonpos (show (0 : Int) ≤ g by omega) h
      omega
  have hqd : q ≤ d := by
    rw [hq]
    have := Int.mul_le_mul_of_nonneg_right (show (1 : Int) ≤ g by omega) (show 0 ≤ q by omega)
    omega
  refine ⟨p, q, g, by omega, by rw [hp]; exact Int.mul_comm _ _, by rw [hq]; exact Int.mul_comm _ _, h1, ?_, hq1, hqd⟩
  rw [hp, Int.natAbs_mul]
  exact Nat.le_mul_of_pos_left _ (by omega)

theorem bytesAt_more {w : World} {B B' : Nat} {A : Option Addr} {n : Nat} (h : BytesAt w B A n) (hb : B ≤ B') : BytesAt w B' A n :=
  ⟨h.1, fun hn => by
    obtain ⟨b, off, rfl, hlt, hc⟩ := h.2 hn
    exact ⟨b, off, rfl, by omega, hc⟩⟩

theorem src_lt {B : Nat} {w : World} {b k : Nat} (h : Src B w b k) : b < w.heap.size := by
  obtain ⟨A, n, c, p, q, hb, _⟩ := h
  rcases Nat.lt_or_ge b w.heap.size with h | h
  · exact h
  · rw [Array.getElem?_eq_none h] at hb; cases hb

theorem bytesAt_alloc {w : World} {B : Nat} {A : Option Addr} {n : Nat} (h : BytesAt w B A n) (hB : B ≤ w.heap.size) (o : Obj) : BytesAt (w.alloc o) (w.alloc o).heap.size A n :=
  bytesAt_more (bytesAt_below h ((Below.refl B w).alloc hB o)) (by simp; omega)

theorem only_cells {b : Nat} {w w1 : World} (h : Only b w w1) (c o : Nat) (hc : c < w.heap.size) (hne : c ≠ b) : w1.cell? ⟨c, o, none⟩ = w.cell? ⟨c, o, none⟩ ∧ w1.frozen? ⟨c, o, none⟩ = w.frozen? ⟨c, o, none⟩ := by
  have e : w1.heap[c]? = w.heap[c]? := h.block c hc (fun e => hne (by injection e))
  exact ⟨World.cell?_of_block e, World.frozen?_of_block e⟩

def GenPost (w : World) (e : Ending) (w' : World) : Prop :=
  ∃ p q : Int, e = .returned (.agg #[.int .i64 p, .int .i64 q]) ∧ Ok p q ∧ p.natAbs ≤ 300 ∧ q ≤ 300 ∧ Below w.heap.size w w'

set_option maxHeartbeats 1000000 in
theorem gen_any (A : Option Addr) (n c : Nat) (w : World) (h : BytesAt w w.heap.size A n) :
    Calls Tryd.prog 6 #[.slice A n c] w (GenPost w) := by
  have H := Lib.hid h
  clear h
  go_enter Tryd.func6, Tryd.ntmps6
  go_wp2_with (fail)
  refine (from_any A n c _ (bytesAt_alloc H.out (Nat.le_refl _) _)).mono ?_
  rintro e w1 ⟨rfl, hs, hb⟩
  have hz := src_lt hs
  obtain ⟨hc, hf⟩ := bcell hb
  have hs : Src (w.heap.size + 1) w1 (w.heap.size + 1) 0 := by simpa using hs
  have Hs := Lib.hid hs
  have k0 := hc w.heap.size 0 (by simp)
  have k1 := hc w.heap.size 1 (by simp)
  have g0 := hf w.heap.size 0 (by simp)
  have g1 := hf w.heap.size 1 (by simp)
  simp [go_sem] at k0 k1 g0 g1 hz
  clear hc hf hs
  go_wp2_with (fail)
  refine (pick_pos _ _ _ 400 w1 Hs.out (by omega) (by omega) (by omega)).mono ?_
  rintro e w2 ⟨x, hx, rfl, hs2, ho2⟩
  have Hs2 := Lib.hid hs2
  clear hs2
  go_wp2_with (fail)
  refine (pick_pos _ _ _ 300 w2 Hs2.out (by omega) (by omega) (by omega)).mono ?_
  rintro e w3 ⟨y, hy, rfl, hs3, ho3⟩
  clear hs3
  have hz2 : w.heap.size < w2.heap.size := by have := ho2.size; omega
  have hz3 : w.heap.size < w3.heap.size := by have := ho3.size; omega
  have hb3 : Below w.heap.size w w3 := (((Below.refl _ _).alloc (Nat.le_refl _) _).trans (hb.mono (by simp))).trans ((only_below (only_trans ho2 ho3) (by omega) (by omega)))
  have c0 := (only_cells ho3 w.heap.size 0 hz2 (by omega)).1.trans (only_cells ho2 w.heap.size 0 (by omega) (by omega)).1
  have c1 := (only_cells ho3 w.heap.size 1 hz2 (by omega)).1.trans (only_cells ho2 w.heap.size 1 (by omega) (by omega)).1
  have d0 := (only_cells ho3 w.heap.size 0 hz2 (by omega)).2.trans (only_cells ho2 w.heap.size 0 (by omega) (by omega)).2
  have d1 := (only_cells ho3 w.heap.size 1 hz2 (by omega)).2.trans (only_cells ho2 w.heap.size 1 (by omega) (by omega)).2
  rw [k0] at c0
  rw [k1] at c1
  rw [g0] at d0
  rw [g1] at d1
  obtain ⟨p, q, k, hk, hp, hq, hg, hpl, hq1, hql⟩ := lowest ((x : Int) - 150) (1 + (y : Int)) (by omega)
  have hok : Ok p q := ⟨hq1, by omega, by omega, by omega, hg⟩
  have hpl : p.natAbs ≤ 300 := by omega
  have Hp := Lib.hid hp
  have Hq := Lib.hid hq
  clear hp hq hg k0 k1 g0 g1
  go_wp2_with (fail)
  refine (make1_yes _ _ p q k _ (by omega) (by omega) (by omega) (by omega) hk Hp.out Hq.out hok).mono ?_
  rintro e w4 ⟨rfl, hb4⟩
  obtain ⟨hc, hf⟩ := bcell hb4
  have hz4 : w.heap.size < w4.heap.size := by have := hb4.size; omega
  have k0 := hc w.heap.size 0 hz3
  have k1 := hc w.heap.size 1 hz3
  have g0 := hf w.heap.size 0 hz3
  have g1 := hf w.heap.size 1 hz3
  rw [c0] at k0
  rw [c1] at k1
  rw [d0] at g0
  rw [d1] at g1
  clear hc hf c0 c1 d0 d1
  go_wp2
  refine bodyPost_ret (v := .agg #[.int .i64 p, .int .i64 q]) (by simp [results, Tryd.results6, go_sem, k0, k1, hz4]) rfl ⟨p, q, rfl, hok, hpl, by omega, ?_⟩
  exact (((hb3.trans (hb4.mono (by omega))).setCell (by simp) _).setCell (by simp) _).alloc (by simp [World.setCell]; omega) _

end Go.Proofs.YtgjlldljdkilcaaDoor

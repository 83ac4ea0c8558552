/- The source of draws: each draw gives a byte, and leaves a source. -/
import Derived.Test.YtmgdodgofpapgaaDoorBase
namespace Go.Proofs.YtmgdodgofpapgaaDoor
open Go.RowKit

/-- The bytes of a slice that came in: below block B, n of them. -/
def BytesAt (w : World) (B : Nat) (A : Option Addr) (n : Nat) : Prop :=
  n ≤ maxLen ∧ (0 < n → ∃ b off, A = some ⟨b, off, none⟩ ∧ b < B ∧ ∀ i, i < n → ∃ x : Nat, x ≤ 255 ∧ w.cell? ⟨b, off + i, none⟩ = some (.int .u8 x))

/-- Block b is a source with at most k draws behind it. -/
def Src (B : Nat) (w : World) (b : Nat) (k : Nat) : Prop :=
  ∃ (A : Option Addr) (n c p : Nat) (q : Int), w.heap[b]? = some (.cells #[.slice A n c, .int .i64 (p : Int), .int .u64 q] 59 (0, 0)) ∧ B ≤ b ∧ p ≤ k ∧ 0 ≤ q ∧ q < 18446744073709551616 ∧ BytesAt w B A n

def NextPost (B : Nat) (w : World) (b k : Nat) (e : Ending) (w' : World) : Prop :=
  ∃ x : Nat, x ≤ 255 ∧ e = .returned (.int .i64 (x : Int)) ∧ Src B w' b (k + 1) ∧ Only b w w'

theorem bytesAt_below {w w' : World} {B : Nat} {A : Option Addr} {n : Nat} (h : BytesAt w B A n) (hb : Below B w w') : BytesAt w' B A n :=
  ⟨h.1, fun hn => by
    obtain ⟨b, off, rfl, hlt, hc⟩ := h.2 hn
    exact ⟨b, off, rfl, hlt, fun i hi => by
      obtain ⟨x, hx, hx'⟩ := hc i hi
      exact ⟨x, hx, (hb.cell (p := ⟨b, off + i, none⟩) hlt).trans hx'⟩⟩⟩

theorem src_end {w : World} {b B k : Nat} {A : Option Addr} {n c p : Nat} (p' : Nat) {pi q q' : Int} (n1 n2 : Nat) (hpi : pi = (p' : Int))
    (hb : w.heap[b]? = some (.cells #[.slice A n c, .int .i64 (p : Int), .int .u64 q] 59 (0, 0))) (hB : B ≤ b) (hA : BytesAt w B A n) (hp : p' ≤ k) (hq : 0 ≤ q') (hq' : q' < 18446744073709551616) :
    Src B ((((w.drewN n1).setCell ⟨b, 1, none⟩ (.int .i64 pi)).setCell ⟨b, 2, none⟩ (.int .u64 q')).drewN n2) b k ∧ Only b w ((((w.drewN n1).setCell ⟨b, 1, none⟩ (.int .i64 pi)).setCell ⟨b, 2, none⟩ (.int .u64 q')).drewN n2) := by
  have hlt : b < w.heap.size := by
    rcases Nat.lt_or_ge b w.heap.size with h | h
    · exact h
    · rw [Array.getElem?_eq_none h] at hb; cases hb
  have ho : Only b w ((((w.drewN n1).setCell ⟨b, 1, none⟩ (.int .i64 pi)).setCell ⟨b, 2, none⟩ (.int .u64 q')).drewN n2) :=
    only_drewN (only_setCell (only_setCell (only_drewN (only_refl b w) n1) (.inl rfl) _) (.inl rfl) _) n2
  refine ⟨⟨A, n, c, p', q', ?_, hB, hp, hq, hq', bytesAt_below hA (only_below ho hB (by omega))⟩, ho⟩
  show ((((w.drewN n1).setCell ⟨b, 1, none⟩ (.int .i64 pi)).setCell ⟨b, 2, none⟩ (.int .u64 q'))).heap[b]? = _
  simp [World.setCell, Array.getElem?_modify, hb, hpi]

theorem wrap_u64_lo (x : Int) : 0 ≤ IntKind.u64.wrap x ∧ IntKind.u64.wrap x < 18446744073709551616 := by
  rw [IntKind.wrap_u64]; omega

theorem wrap_u64_twice (z : Int) : IntKind.u64.wrap (IntKind.u64.wrap z) = IntKind.u64.wrap z := by
  simp only [IntKind.wrap_u64]; omega

theorem low_byte (z : Int) (hz : z = IntKind.u64.wrap z := by first | rfl | exact (wrap_u64_twice _).symm) : ∃ y : Nat, y ≤ 255 ∧ wrap64 (bits BinOp.and IntKind.u64 (z / 1099511627776) 255) = (y : Int) := by
  have h := wrap_u64_lo z
  rw [← hz] at h
  have h2 : (z / 1099511627776).toNat &&& (255 : Int).toNat ≤ 255 := Nat.and_le_right
  refine ⟨(z / 1099511627776).toNat &&& (255 : Int).toNat, h2, ?_⟩
  rw [u64_and _ _ (by omega) (by omega) (by omega) (by omega)]
  unfold wrap64
  omega

set_option maxHeartbeats 400000 in
theorem next_in (B b k p : Nat) (q : Int) (g off n c x : Nat) (w : World) (hb : w.heap[b]? = some (.cells #[.slice (some ⟨g, off, none⟩) n c, .int .i64 (p : Int), .int .u64 q] 59 (0, 0)))
    (hB : B ≤ b) (hpk : p ≤ k) (hA : BytesAt w B (some ⟨g, off, none⟩) n)
    (hp : p < n) (hx : x ≤ 255) (hc : w.cell? ⟨g, off + p, none⟩ = some (.int .u8 (x : Int))) :
    Calls Tryd.prog 35 #[.pointer (some ⟨b, 0, none⟩)] w (NextPost B w b k) := by
  have hn := hA.1
  unfold maxLen at hn
  have c0 : w.cell? ⟨b, 0, none⟩ = some (.slice (some ⟨g, off, none⟩) n c) := by simp [World.cell?, hb]
  have c1 : w.cell? ⟨b, 1, none⟩ = some (.int .i64 (p : Int)) := by simp [World.cell?, hb]
  have c2 : w.cell? ⟨b, 2, none⟩ = some (.int .u64 q) := by simp [World.cell?, hb]
  have f1 : w.frozen? ⟨b, 1, none⟩ = false := by simp [World.frozen?, hb]
  have f2 : w.frozen? ⟨b, 2, none⟩ = false := by simp [World.frozen?, hb]
  have hp0 : (p : Int) < (n : Int) := by omega
  have hp1 : (0 : Int) ≤ (p : Int) := by omega
  have hp2 : (p : Int) + 1 ≤ (n : Int) := by omega
  have Hb := Lib.hid hb
  have HA := Lib.hid hA
  clear hb hA
  go_enter Tryd.func35, Tryd.ntmps35
  go_wp2
  go_quiet (fail)
  go_wp2
  go_quiet (fail)
  go_wp2
  go_quiet (fail)
  go_wp2
  go_ret
  exact ⟨x, hx, rfl, src_end (p + 1) _ _ (by omega) Hb.out hB HA.out (by omega) (wrap_u64_lo _).1 (wrap_u64_lo _).2⟩

set_option maxHeartbeats 400000 in
theorem next_out (B b k p : Nat) (q : Int) (A : Option Addr) (n c : Nat) (w : World) (hb : w.heap[b]? = some (.cells #[.slice A n c, .int .i64 (p : Int), .int .u64 q] 59 (0, 0)))
    (hB : B ≤ b) (hpk : p ≤ k) (hk : k ≤ 60000) (hA : BytesAt w B A n) (hp : n ≤ p) :
    Calls Tryd.prog 35 #[.pointer (some ⟨b, 0, none⟩)] w (NextPost B w b k) := by
  have hn := hA.1
  unfold maxLen at hn
  have c0 : w.cell? ⟨b, 0, none⟩ = some (.slice A n c) := by simp [World.cell?, hb]
  have c1 : w.cell? ⟨b, 1, none⟩ = some (.int .i64 (p : Int)) := by simp [World.cell?, hb]
  have c2 : w.cell? ⟨b, 2, none⟩ = some (.int .u64 q) := by simp [World.cell?, hb]
  have f1 : w.frozen? ⟨b, 1, none⟩ = false := by simp [World.frozen?, hb]
  have f2 : w.frozen? ⟨b, 2, none⟩ = false := by simp [World.frozen?, hb]
  have hd : decide (p < n) = false := by simp; omega
  have H1 : Hid (p ≤ 60000 ∧ n ≤ p ∧ p ≤ k) := ⟨by omega, hp, hpk⟩
  have Hb := Lib.hid hb
  have HA := Lib.hid hA
  clear hb hA hp hpk hk
  go_enter Tryd.func35, Tryd.ntmps35
  go_wp2
  go_quiet (fail)
  go_upto_region 4 with (fail)
  go_cut [3] (fun s3 wx => ∃ x : Nat, x ≤ 255 ∧ s3 = .int .i64 (x : Int) ∧ ∃ m, wx = (w.drewN m).setCell ⟨b, 1, none⟩ (.int .i64 ((p : Int) + 1)))
  case first =>
    have hp1 : (0 : Int) ≤ (p : Int) := by omega
    have hp2 : (p : Int) ≤ 60000 := by have := H1.out; omega
    go_wp2_with (fail)
    go_meet
    exact ⟨0, by omega, rfl, _, rfl⟩
  case rest =>
    obtain ⟨x, hx, rfl, m, rfl⟩ := hcut
    clear hd
    have hp1 : (0 : Int) ≤ (p : Int) := by omega
    have hp2 : (p : Int) ≤ 60000 := by have := H1.out; omega
    have hd : decide ((p : Int) + 1 ≤ (n : Int)) = false := by have := H1.out; simp; omega
    go_wp2
    go_quiet (fail)
    go_wp2
    go_ret
    obtain ⟨y, hy, e⟩ := low_byte (IntKind.u64.wrap (IntKind.u64.wrap (IntKind.u64.wrap (q * 6364136223846793005) + x) + 1442695040888963407))
    exact ⟨y, hy, ret_i64 e, src_end (p + 1) _ _ (by omega) Hb.out hB HA.out (by have := H1.out; omega) (wrap_u64_lo _).1 (wrap_u64_lo _).2⟩

set_option maxHeartbeats 400000 in
theorem next_any (B b k : Nat) (w : World) (h : Src B w b k) (hk : k ≤ 60000) :
    Calls Tryd.prog 35 #[.pointer (some ⟨b, 0, none⟩)] w (NextPost B w b k) := by
  obtain ⟨A, n, c, p, q, hb, hB, hp, hq, hq', hA⟩ := h
  rcases Nat.lt_or_ge p n with hlt | hge
  · obtain ⟨g, off, rfl, hg, hc⟩ := hA.2 (by omega)
    obtain ⟨x, hx, hx'⟩ := hc p hlt
    exact next_in B b k p q g off n c x w hb hB hp hA hlt hx hx'
  · exact next_out B b k p q A n c w hb hB hp hk hA hge

theorem Src.more {B : Nat} {w : World} {b k k' : Nat} (h : Src B w b k) (hk : k ≤ k') : Src B w b k' := by
  obtain ⟨A, n, c, p, q, h1, h2, h3, h4⟩ := h
  exact ⟨A, n, c, p, q, h1, h2, by omega, h4⟩

def PickPost (B : Nat) (w : World) (b k : Nat) (n : Int) (e : Ending) (w' : World) : Prop :=
  ∃ x : Int, 0 ≤ x ∧ (x = 0 ∨ x < n) ∧ e = .returned (.int .i64 x) ∧ Src B w' b (k + 2) ∧ Only b w w'

theorem tmod_lt (a n : Int) (h0 : 0 ≤ a) (hn : 1 < n) : 0 ≤ a.tmod n ∧ a.tmod n < n := by
  rw [Int.tmod_eq_emod_of_nonneg h0]
  exact ⟨Int.emod_nonneg _ (by omega), Int.emod_lt_of_pos _ (by omega)⟩

set_option maxHeartbeats 400000 in
theorem pick_any (B b k : Nat) (n : Int) (w : World) (h : Src B w b k) (hk : k ≤ 59000) (hn : n ≤ 65536) (hn0 : -65536 ≤ n) :
    Calls Tryd.prog 24 #[.pointer (some ⟨b, 0, none⟩), .int .i64 n] w (PickPost B w b k n) := by
  by_cases h1 : n ≤ 1
  · go_enter Tryd.func24, Tryd.ntmps24
    go_wp2
    go_ret
    exact ⟨0, by omega, .inl rfl, rfl, h.more (by omega), only_refl _ _⟩
  · have h1 : 1 < n := by omega
    by_cases h2 : n ≤ 200
    · have H := Lib.hid h
      clear h
      go_enter Tryd.func24, Tryd.ntmps24
      go_wp2_with (fail)
      refine (next_any B b k w H.out (by omega)).mono ?_
      rintro e w1 ⟨x, hx, rfl, hs, ho⟩
      have Hs := Lib.hid hs
      clear hs
      go_wp2
      go_ret
      exact ⟨(x : Int) % n, Int.emod_nonneg _ (by omega), .inr (Int.emod_lt_of_pos _ (by omega)), rfl, Hs.out.more (by omega), ho⟩
    · have h2 : 200 < n := by omega
      have H := Lib.hid h
      clear h
      go_enter Tryd.func24, Tryd.ntmps24
      go_wp2_with (fail)
      refine (next_any B b k w H.out (by omega)).mono ?_
      rintro e w1 ⟨x, hx, rfl, hs, ho⟩
      have Hs := Lib.hid hs
      clear hs
      go_wp2_with (fail)
      refine (next_any B b (k + 1) w1 Hs.out (by omega)).mono ?_
      rintro e w2 ⟨y, hy, rfl, hs2, ho2⟩
      have Hs2 := Lib.hid hs2
      clear hs2
      go_wp2
      go_ret
      exact ⟨((x : Int) * 256 + y) % n, Int.emod_nonneg _ (by omega), .inr (Int.emod_lt_of_pos _ (by omega)), rfl, Hs2.out.more (by omega), only_trans ho ho2⟩

/-- A number n above 1 is picked from: the pick lies in 0 .. n - 1. -/
theorem pick_pos (B b k : Nat) (n : Int) (w : World) (h : Src B w b k) (hk : k ≤ 59000) (hn : n ≤ 65536) (hn0 : 1 ≤ n) :
    Calls Tryd.prog 24 #[.pointer (some ⟨b, 0, none⟩), .int .i64 n] w fun e w' => ∃ x : Nat, (x : Int) < n ∧ e = .returned (.int .i64 (x : Int)) ∧ Src B w' b (k + 2) ∧ Only b w w' :=
  (pick_any B b k n w h hk hn (by omega)).mono fun e w' ⟨x, h0, hx, he, hs, ho⟩ => ⟨x.toNat, by omega, by rw [he]; exact ret_i64 (by omega), hs, ho⟩

def OnePost (B : Nat) (w : World) (b k : Nat) (e : Ending) (w' : World) : Prop :=
  ∃ x : Bool, e = .returned (.bool x) ∧ Src B w' b (k + 2) ∧ Only b w w'

set_option maxHeartbeats 400000 in
theorem one_any (B b k : Nat) (n : Int) (w : World) (h : Src B w b k) (hk : k ≤ 59000) (hn : n ≤ 65536) (hn0 : -65536 ≤ n) :
    Calls Tryd.prog 16 #[.pointer (some ⟨b, 0, none⟩), .int .i64 n] w (OnePost B w b k) := by
  have H := Lib.hid h
  clear h
  go_enter Tryd.func16, Tryd.ntmps16
  go_wp2_with (fail)
  refine (pick_any B b k n w H.out hk hn hn0).mono ?_
  rintro e w1 ⟨x, hx, _, rfl, hs, ho⟩
  have Hs := Lib.hid hs
  clear hs
  go_wp2
  go_ret
  exact ⟨_, rfl, Hs.out, ho⟩

def FromPost (w : World) (e : Ending) (w' : World) : Prop :=
  e = .returned (.pointer (some ⟨w.heap.size, 0, none⟩)) ∧ Src w.heap.size w' w.heap.size 0 ∧ Below w.heap.size w w'

set_option maxHeartbeats 400000 in
theorem from_any (A : Option Addr) (n c : Nat) (w : World) (h : BytesAt w w.heap.size A n) :
    Calls Tryd.prog 12 #[.slice A n c] w (FromPost w) := by
  have H := Lib.hid h
  clear h
  go_enter Tryd.func12, Tryd.ntmps12
  go_wp2
  go_ret
  have hb := (Below.refl w.heap.size w).alloc (Nat.le_refl _) (.cells #[.slice A n c, .int .i64 0, .int .u64 0] 59)
  refine ⟨rfl, ⟨A, n, c, 0, 0, ?_, Nat.le_refl _, Nat.le_refl _, by omega, by omega, bytesAt_below H.out hb⟩, hb⟩
  show (w.heap.push _)[w.heap.size]? = _
  simp
end Go.Proofs.YtmgdodgofpapgaaDoor

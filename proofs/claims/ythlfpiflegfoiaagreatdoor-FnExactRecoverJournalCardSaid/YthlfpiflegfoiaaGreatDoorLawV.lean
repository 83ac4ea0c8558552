/- Check numbers and journals, as plain functions; deeds in memory. -/
import Derived.Test.YthlfpiflegfoiaaGreatDoorRI
namespace Go.Proofs.YthlfpiflegfoiaaGreatDoor
open Go.RowKit Go.Lib

theorem take_snoc (s : ByteArray) (k : Nat) (h : k < s.size) : s.data.toList.take (k + 1) = s.data.toList.take k ++ [s[k]] := by
  rw [List.take_succ_eq_append_getElem (by simpa using h)]; rfl
def wsum : Nat → List UInt8 → Nat
  | _, [] => 0
  | i, c :: r => (i + 1) * c.toNat + wsum (i + 1) r
theorem wsum_snoc (c : UInt8) : ∀ (a : List UInt8) (i : Nat), wsum i (a ++ [c]) = wsum i a + (i + a.length + 1) * c.toNat
  | [], i => by simp [wsum]
  | x :: a, i => by
    rw [List.cons_append, wsum, wsum, wsum_snoc c a (i + 1), List.length_cons, show i + (a.length + 1) + 1 = i + 1 + a.length + 1 by omega]
    exact (Nat.add_assoc _ _ _).symm
theorem wsum_le : ∀ (l : List UInt8) (i : Nat), i + l.length ≤ 65536 → wsum i l ≤ 16711680 * l.length
  | [], _, _ => by simp [wsum]
  | c :: r, i, h => by
    rw [List.length_cons] at h
    have h1 := wsum_le r (i + 1) (by omega)
    have h2 : (i + 1) * c.toNat ≤ 65536 * 255 := Nat.mul_le_mul (by omega) (by have := c.toNat_lt; omega)
    rw [wsum, List.length_cons]
    omega
def chk (b : Nat) (t : List UInt8) : Nat := (31 * b + wsum 0 t) % 9973
theorem chk_lt (b : Nat) (t : List UInt8) : chk b t < 9973 := Nat.mod_lt _ (by omega)

def jrn : Nat → List Deed → List UInt8
  | _, [] => []
  | b, d :: r => itoa (chk b (deedText d) : Nat) ++ 32 :: (deedText d ++ 10 :: jrn (chk b (deedText d)) r)
def jlast : Nat → List Deed → Nat
  | b, [] => b
  | b, d :: r => jlast (chk b (deedText d)) r
theorem jlast_snoc (d : Deed) : ∀ (ds : List Deed) (b : Nat), jlast b (ds ++ [d]) = chk (jlast b ds) (deedText d)
  | [], _ => rfl
  | x :: ds, b => by rw [List.cons_append, jlast, jlast, jlast_snoc d ds]
theorem jrn_snoc (d : Deed) : ∀ (ds : List Deed) (b : Nat), jrn b (ds ++ [d]) = jrn b ds ++ (itoa (chk (jlast b ds) (deedText d) : Nat) ++ 32 :: (deedText d ++ [10]))
  | [], _ => by simp [jrn, jlast]
  | x :: ds, b => by rw [List.cons_append, jrn, jrn, jlast, jrn_snoc d ds]; simp
theorem jlast_lt : ∀ (ds : List Deed) (b : Nat), b < 9973 → jlast b ds < 9973
  | [], _, h => h
  | _ :: ds, _, _ => jlast_lt ds _ (chk_lt _ _)

theorem deedText_len {d : Deed} (h : okDeed d = true) : (deedText d).length ≤ 2000 := by
  obtain ⟨m1, m2⟩ := okDeed_member h
  have il := itoa_length_le d.member (by omega) (by omega)
  rcases okDeed_kind h with ⟨k1, t1, t2⟩ | ⟨k2, t1, v1, v2⟩ | ⟨k3, t1, op, p1, p2, p3, p4, p5, p6⟩ | ⟨k4, m0⟩
  · have hnl := nums_len d.trust [44] (by simp) t2
    unfold deedText
    rw [if_pos k1]
    split <;> simp <;> omega
  · have hwl : (wordV d.vote).length ≤ 8 := by unfold wordV; split <;> (try split) <;> (try split) <;> simp
    unfold deedText
    rw [if_neg (by omega), if_pos k2]
    simp
    omega
  · have hpl : (patchText d.patch).length ≤ 1280 := by
      have h1 := patchText_take op d.patch.length
      have h2 := okPatch_len op
      rw [List.take_length] at h1
      omega
    have hnl := nums_len [d.closes, d.start, d.until_] [32] (by simp) (by
      intro z hz
      simp only [List.mem_cons, List.not_mem_nil, or_false] at hz
      omega)
    simp only [List.length_cons, List.length_nil] at hnl
    unfold deedText semis
    rw [if_neg (by omega), if_neg (by omega), if_pos k3]
    simp
    omega
  · unfold deedText
    rw [if_neg (by omega), if_neg (by omega), if_neg (by omega)]
    simp

def okDeeds (ds : List Deed) : Bool := decide (ds.length ≤ 40) && ds.all okDeed
theorem okDeeds_iff {ds : List Deed} : okDeeds ds = true ↔ ds.length ≤ 40 ∧ ∀ d ∈ ds, okDeed d = true := by
  unfold okDeeds
  rw [Bool.and_eq_true, decide_eq_true_eq, List.all_eq_true]
theorem jrn_len : ∀ (ds : List Deed) (b : Nat), (∀ d ∈ ds, okDeed d = true) → (jrn b ds).length ≤ 2100 * ds.length
  | [], _, _ => by simp [jrn]
  | d :: ds, b, h => by
    have h1 := deedText_len (h d (by simp))
    have h2 := jrn_len ds (chk b (deedText d)) (fun x hx => h x (by simp [hx]))
    have h3 := chk_lt b (deedText d)
    have h4 := itoa_length_le (chk b (deedText d) : Nat) (by omega) (by omega)
    rw [jrn]
    simp
    omega

def deedCells (d : Deed) (A1 : Option Addr) (c1 : Nat) (A2 : Option Addr) (c2 : Nat) : List Value :=
  [.int .i64 d.kind, .int .i64 d.member, .slice A1 d.trust.length c1, .string d.title, .int .i64 d.vote, .slice A2 d.patch.length c2, .int .i64 d.start, .int .i64 d.until_, .int .i64 d.closes]
def DeedR : World → Nat → List Value → Deed → Prop := fun w B us d =>
  ∃ A1 c1 A2 c2, us = deedCells d A1 c1 A2 c2 ∧ Ints w B (.slice A1 d.trust.length c1) d.trust ∧ Edits w B (.slice A2 d.patch.length c2) d.patch ∧ SizesOk d.patch ∧ d.title.size ≤ maxLen
theorem DeedR.stays : Stays DeedR := fun _ _ _ _ _ _ ⟨A1, c1, A2, c2, h, hi, he, hs, ht⟩ hb hB => ⟨A1, c1, A2, c2, h, hi.on (Pl.stays _) hb hB, he.on (Pl.stays _) hb hB, hs, ht⟩
def Deeds (w : World) (B : Nat) (v : Value) (ds : List Deed) : Prop := SlR DeedR 9 w B v ds
theorem deeds_get {w : World} {n c k : Nat} {A : Option Addr} {ds : List Deed} {d : Deed} (h : Deeds w w.heap.size (.slice A n c) ds) (hk : ds[k]? = some d) :
    ∃ b off A1 c1 A2 c2, A = some ⟨b, off, none⟩ ∧ b < w.heap.size ∧ DeedP w b (off + k * 9) d A1 c1 A2 c2 := by
  obtain ⟨A', c', hv, h1, h2, h3⟩ := h
  injection hv with e1 e2 e3
  subst e1
  have hlt : k < ds.length := (List.getElem?_eq_some_iff.1 hk).1
  obtain ⟨b, off, hA, hb, hc⟩ := h3 (by omega)
  obtain ⟨us, hl, ⟨A1, c1, A2, c2, hus, hi, he, hs, ht⟩, hcell⟩ := hc k d hk
  subst hus
  exact ⟨b, off, A1, c1, A2, c2, hA, hb, hcell 0 _ rfl, hcell 1 _ rfl, hcell 2 _ rfl, hcell 3 _ rfl, hcell 4 _ rfl, hcell 5 _ rfl, hcell 6 _ rfl, hcell 7 _ rfl, hcell 8 _ rfl, hi, he, hs, ht⟩

set_option maxHeartbeats 2000000 in
theorem check2_any (b : Nat) (s : ByteArray) (w : World) (hb : b < 9973) (hs : s.size ≤ 65536) :
    Calls Tryz.prog 28 #[.int .i64 (b : Int), .string s] w (RetQ (.int .i64 ((chk b s.data.toList : Nat) : Int)) w) := by
  have hsz : s.data.toList.length = s.size := by simp
  have hfin : Hid (31 * b + wsum 0 (s.data.toList.take s.size) = 31 * b + wsum 0 s.data.toList) := Lib.hid (by rw [List.take_of_length_le (by omega)])
  have hbd : ∀ k, wsum 0 (s.data.toList.take k) ≤ 16711680 * 65536 := fun k => by
    have h := wsum_le (s.data.toList.take k) 0 (by rw [List.length_take]; omega)
    rw [List.length_take] at h
    omega
  have HBD := Lib.hid hbd
  clear hbd
  go_enter Tryz.func28, Tryz.ntmps28
  go_wp2
  go_loop [5, 6, 11] (fun m _ i => ∃ k : Nat, k ≤ s.size ∧ i = .int .i64 (k : Int) ∧ m = .int .i64 ((31 * b + wsum 0 (s.data.toList.take k) : Nat) : Int)) (fun _ _ i => s.size - (RowKit.intOf i).toNat)
  case atStart => exact ⟨0, Nat.zero_le _, rfl, by simp [wsum]⟩
  case round =>
    obtain ⟨k, hk, rfl, rfl⟩ := hrel
    have hb0 := HBD.out k
    by_cases hlt : k < s.size
    · have hb1 := HBD.out (k + 1)
      have hw : wsum 0 (s.data.toList.take (k + 1)) = wsum 0 (s.data.toList.take k) + (k + 1) * s[k].toNat := by
        rw [take_snoc s k hlt, wsum_snoc, List.length_take, hsz]
        congr 2
        omega
      have hc := s[k].toNat_lt
      obtain ⟨N, hN⟩ : ∃ N, N = 31 * b + wsum 0 (s.data.toList.take k) := ⟨_, rfl⟩
      obtain ⟨M, hM⟩ : ∃ M, M = 31 * b + wsum 0 (s.data.toList.take (k + 1)) := ⟨_, rfl⟩
      have hNM : (N : Int) + ((k : Int) + 1) * (s[k].toNat : Int) = (M : Int) := by rw [hM, hw, hN]; push_cast; omega
      have p1 : 0 ≤ ((k : Int) + 1) * (s[k].toNat : Int) := Int.mul_nonneg (by omega) (by omega)
      have p2 : ((k : Int) + 1) * (s[k].toNat : Int) ≤ 65536 * 255 := Int.mul_le_mul (by omega) (by omega) (by omega) (by omega)
      have q1 : N ≤ 2000000000000 := by omega
      have q2 : M ≤ 2000000000000 := by omega
      rw [← hN]
      have HM := Lib.hid hM
      clear hM hN hw hb0 hb1 hsz
      go_wp2
      go_round
      case rel => exact ⟨k + 1, by omega, by go_num, by rw [← HM.out]⟩
      case measure => simp [RowKit.intOf]; omega
    · have hk' : k = s.size := by omega
      have hge : ¬ (k : Int) < (s.size : Int) := by omega
      have hf := hfin.out
      rw [← hk'] at hf
      rw [hf]
      have hq : 31 * b + wsum 0 s.data.toList ≤ 2000000000000 := by rw [← hf]; omega
      have HC : Hid (chk b s.data.toList = (31 * b + wsum 0 s.data.toList) % 9973) := Lib.hid rfl
      obtain ⟨N, hN⟩ : ∃ N, N = 31 * b + wsum 0 s.data.toList := ⟨_, rfl⟩
      rw [← hN] at HC hq ⊢
      clear hN hf hk' hlt hb0 hsz
      go_wp2
      go_ret
      exact ⟨by rw [HC.out]; rfl, 0, rfl⟩

set_option maxHeartbeats 2000000 in
theorem check1_any (b : Nat) (s : ByteArray) (w : World) (hb : b < 9973) (hs : s.size ≤ 65536) :
    Calls Tryz.prog 34 #[.int .i64 (b : Int), .string s] w (RetQ (.int .i64 ((chk b s.data.toList : Nat) : Int)) w) := by
  have hsz : s.data.toList.length = s.size := by simp
  have hfin : Hid (31 * b + wsum 0 (s.data.toList.take s.size) = 31 * b + wsum 0 s.data.toList) := Lib.hid (by rw [List.take_of_length_le (by omega)])
  have hbd : ∀ k, wsum 0 (s.data.toList.take k) ≤ 16711680 * 65536 := fun k => by
    have h := wsum_le (s.data.toList.take k) 0 (by rw [List.length_take]; omega)
    rw [List.length_take] at h
    omega
  have HBD := Lib.hid hbd
  clear hbd
  go_enter Tryz.func34, Tryz.ntmps34
  go_wp2
  go_loop [5, 6] (fun m i => ∃ k : Nat, k ≤ s.size ∧ i = .int .i64 (k : Int) ∧ m = .int .i64 ((31 * b + wsum 0 (s.data.toList.take k) : Nat) : Int)) (fun _ i => s.size - (RowKit.intOf i).toNat)
  case atStart => exact ⟨0, Nat.zero_le _, rfl, by simp [wsum]⟩
  case round =>
    obtain ⟨k, hk, rfl, rfl⟩ := hrel
    have hb0 := HBD.out k
    by_cases hlt : k < s.size
    · have hb1 := HBD.out (k + 1)
      have hw : wsum 0 (s.data.toList.take (k + 1)) = wsum 0 (s.data.toList.take k) + (k + 1) * s[k].toNat := by
        rw [take_snoc s k hlt, wsum_snoc, List.length_take, hsz]
        congr 2
        omega
      have hc := s[k].toNat_lt
      obtain ⟨N, hN⟩ : ∃ N, N = 31 * b + wsum 0 (s.data.toList.take k) := ⟨_, rfl⟩
      obtain ⟨M, hM⟩ : ∃ M, M = 31 * b + wsum 0 (s.data.toList.take (k + 1)) := ⟨_, rfl⟩
      have hNM : (N : Int) + ((k : Int) + 1) * (s[k].toNat : Int) = (M : Int) := by rw [hM, hw, hN]; push_cast; omega
      have p1 : 0 ≤ ((k : Int) + 1) * (s[k].toNat : Int) := Int.mul_nonneg (by omega) (by omega)
      have p2 : ((k : Int) + 1) * (s[k].toNat : Int) ≤ 65536 * 255 := Int.mul_le_mul (by omega) (by omega) (by omega) (by omega)
      have q1 : N ≤ 2000000000000 := by omega
      have q2 : M ≤ 2000000000000 := by omega
      rw [← hN]
      have HM := Lib.hid hM
      clear hM hN hw hb0 hb1 hsz
      go_wp2
      go_round
      case rel => exact ⟨k + 1, by omega, by go_num, by rw [← HM.out]⟩
      case measure => simp [RowKit.intOf]; omega
    · have hk' : k = s.size := by omega
      have hge : ¬ (k : Int) < (s.size : Int) := by omega
      have hf := hfin.out
      rw [← hk'] at hf
      rw [hf]
      have hq : 31 * b + wsum 0 s.data.toList ≤ 2000000000000 := by rw [← hf]; omega
      have HC : Hid (chk b s.data.toList = (31 * b + wsum 0 s.data.toList) % 9973) := Lib.hid rfl
      obtain ⟨N, hN⟩ : ∃ N, N = 31 * b + wsum 0 s.data.toList := ⟨_, rfl⟩
      rw [← hN] at HC hq ⊢
      clear hN hf hk' hlt hb0 hsz
      go_wp2
      go_ret
      exact ⟨by rw [HC.out]; rfl, 0, rfl⟩
end Go.Proofs.YthlfpiflegfoiaaGreatDoor

/- The law of fractions, walked. -/
import Derived.Test.YtgjlldljdkilcaaDoorFrM
import Derived.Test.YtgjlldljdkilcaaDoorTxt
namespace Go.Proofs.YtgjlldljdkilcaaDoor
open Go.RowKit

def At (w : World) (b : Nat) (x y : Int) : Prop := w.cell? ⟨b, 0, none⟩ = some (.int .i64 x) ∧ w.cell? ⟨b, 1, none⟩ = some (.int .i64 y) ∧ b < w.heap.size
theorem At.call {w w' : World} {b : Nat} {x y : Int} (h : At w b x y) (hb : Below w.heap.size w w') : At w' b x y :=
  ⟨(hb.cell (p := ⟨b, 0, none⟩) h.2.2).trans h.1, (hb.cell (p := ⟨b, 1, none⟩) h.2.2).trans h.2.1, Nat.lt_of_lt_of_le h.2.2 hb.size⟩
theorem At.alloc {w : World} {b : Nat} {x y : Int} (h : At w b x y) (o : Obj) : At (w.alloc o) b x y := h.call ((Below.refl _ _).alloc (Nat.le_refl _) _)
theorem At.new (w : World) (x y : Int) (T : TypeId) : At (w.alloc (.cells #[.int .i64 x, .int .i64 y] T)) w.heap.size x y :=
  ⟨by simp [go_sem], by simp [go_sem], by simp⟩

set_option maxHeartbeats 400000 in
theorem long_no (A1 : Option Addr) (n1 c1 : Nat) (A2 : Option Addr) (n2 c2 : Nat) (w : World) (h1 : n1 ≤ 1048576) (h2 : n2 ≤ 1048576) :
    Calls Tryd.prog 5 #[.slice A1 n1 c1, .slice A2 n2 c2] w (RetQ (.bool false) w) := by
  have e1 : ¬ (1048576 : Int) < (n1 : Int) := by omega
  have e2 : decide ((1048576 : Int) < (n2 : Int)) = false := by simp; omega
  clear h1 h2
  go_enter Tryd.func5, Tryd.ntmps5
  go_wp2
  go_ret
  exact ⟨rfl, 0, rfl⟩
set_option maxHeartbeats 400000 in
theorem long_yes (A1 : Option Addr) (n1 c1 : Nat) (A2 : Option Addr) (n2 c2 : Nat) (w : World) (h : ¬ (n1 ≤ 1048576 ∧ n2 ≤ 1048576)) :
    Calls Tryd.prog 5 #[.slice A1 n1 c1, .slice A2 n2 c2] w (RetQ (.bool true) w) := by
  by_cases h1 : n1 ≤ 1048576
  · have e1 : ¬ (1048576 : Int) < (n1 : Int) := by omega
    have e2 : decide ((1048576 : Int) < (n2 : Int)) = true := by simp; omega
    clear h1 h
    go_enter Tryd.func5, Tryd.ntmps5
    go_wp2
    go_ret
    exact ⟨rfl, 0, rfl⟩
  · have e1 : (1048576 : Int) < (n1 : Int) := by omega
    clear h1 h
    go_enter Tryd.func5, Tryd.ntmps5
    go_wp2
    go_ret
    exact ⟨rfl, 0, rfl⟩

set_option maxHeartbeats 4000000 in
set_option maxRecDepth 100000 in
theorem fractions_walk (A1 : Option Addr) (n1 c1 : Nat) (A2 : Option Addr) (n2 c2 : Nat) (w : World) (hA1 : BytesAt w w.heap.size A1 n1) (hA2 : BytesAt w w.heap.size A2 n2) (hE : Env w.heap.size w) (hl1 : n1 ≤ 1048576) (hl2 : n2 ≤ 1048576) :
    Calls Tryd.prog 3 #[.slice A1 n1 c1, .slice A2 n2 c2] w (RetB (.bool true) w) := by
  have E := Lib.hid hE
  have HA1 := Lib.hid hA1
  have HA2 := Lib.hid hA2
  clear hE hA1 hA2
  go_enter Tryd.func3, Tryd.ntmps3
  go_wp2_with (fail)
  refine (long_no A1 n1 c1 A2 n2 c2 w hl1 hl2).mono ?_
  rintro e w0 ⟨rfl, k0, rfl⟩
  clear hl1 hl2
  go_wp2_with (fail)
  refine (gen_any A1 n1 c1 (w.drewN k0) HA1.out).mono ?_
  rintro e w1 ⟨p, q, rfl, hok1, hp1, hq1, hb1⟩
  have zw1 : Below w.heap.size w w1 := (below_drewN (Below.refl _ _) k0).trans hb1
  go_upto_region 4 with (fail)
  obtain ⟨V1, hV1⟩ : ∃ V : World, V = w1.alloc (.cells #[.int .i64 p, .int .i64 q] 25) := ⟨_, rfl⟩
  have tA : At V1 w1.heap.size p q := by rw [hV1]; exact At.new _ _ _ _
  have zV1 : Below w.heap.size w V1 := by rw [hV1]; exact zw1.alloc zw1.size _
  rw [← hV1]
  clear hV1 zw1
  obtain ⟨A, hA⟩ : ∃ A : Nat, A = w1.heap.size := ⟨_, rfl⟩
  rw [← hA] at tA ⊢
  clear hA
  go_wp2_with (fail)
  refine (gen_any A2 n2 c2 V1 (bytesAt_more (bytesAt_below HA2.out zV1) zV1.size)).mono ?_
  rintro e w2 ⟨r, s, rfl, hok2, hp2, hq2, hb2⟩
  have zw2 := zV1.trans (hb2.mono zV1.size)
  have tA1' := tA.call hb2
  clear tA
  go_upto_region 5 with (fail)
  obtain ⟨V2, hV2⟩ : ∃ V : World, V = w2.alloc (.cells #[.int .i64 r, .int .i64 s] 25) := ⟨_, rfl⟩
  have tB : At V2 w2.heap.size r s := by rw [hV2]; exact At.new _ _ _ _
  have tA1 : At V2 A p q := by rw [hV2]; exact tA1'.alloc _
  have zV2 : Below w.heap.size w V2 := by rw [hV2]; exact zw2.alloc zw2.size _
  rw [← hV2]
  clear hV2 zw2
  obtain ⟨B, hB⟩ : ∃ A : Nat, A = w2.heap.size := ⟨_, rfl⟩
  rw [← hB] at tB ⊢
  clear hB
  obtain ⟨S, T, ks, ks', hks, hs1, hs2, hokS, hks', hs3, hs4⟩ := add_back p q r s hok1 hok2 hp1 hq1 hp2 hq2
  obtain ⟨D, DD, kd, hkd, hd1, hd2, hokD, hlt, heq, hgt⟩ := sub_sign p q r s hok1 hok2 hp1 hq1 hp2 hq2
  have K1 := Lib.hid (And.intro hs1 hs2)
  have K2 := Lib.hid (And.intro hs3 hs4)
  have K3 := Lib.hid (And.intro hd1 hd2)
  have K4 := Lib.hid (And.intro hlt (And.intro heq hgt))
  clear hs1 hs2 hs3 hs4 hd1 hd2 hlt heq hgt
  have O1 := Lib.hid hok1
  have O2 := Lib.hid hok2
  have OS := Lib.hid hokS
  have OD := Lib.hid hokD
  obtain ⟨bp1, bp2, bq1, bq2⟩ := ok_bd hok1
  obtain ⟨br1, br2, bs1, bs2⟩ := ok_bd hok2
  clear hok1 hok2 hokS hokD
  have eA0 := tA1.1
  have eA1 := tA1.2.1
  have eB0 := tB.1
  have eB1 := tB.2.1
  go_wp2_with (fail)
  refine (add_any p q r s S T ks V2 O1.out O2.out hks K1.out.1 K1.out.2 OS.out).mono ?_
  rintro e w3 ⟨rfl, hb3⟩
  have zw3 := zV2.trans (hb3.mono zV2.size)
  have tA2' := tA1.call hb3
  have tB2' := tB.call hb3
  clear eA0 eA1 eB0 eB1
  clear tA1 tB
  go_upto_region 6 with (fail)
  obtain ⟨V3, hV3⟩ : ∃ V : World, V = w3.alloc (.cells #[.int .i64 S, .int .i64 T] 25) := ⟨_, rfl⟩
  have tC : At V3 w3.heap.size S T := by rw [hV3]; exact At.new _ _ _ _
  have tA2 : At V3 A p q := by rw [hV3]; exact tA2'.alloc _
  have tB2 : At V3 B r s := by rw [hV3]; exact tB2'.alloc _
  have zV3 : Below w.heap.size w V3 := by rw [hV3]; exact zw3.alloc zw3.size _
  rw [← hV3]
  clear hV3 zw3
  obtain ⟨C, hC⟩ : ∃ A : Nat, A = w3.heap.size := ⟨_, rfl⟩
  rw [← hC] at tC ⊢
  clear hC
  have eB0 := tB2.1
  have eB1 := tB2.2.1
  have eC0 := tC.1
  have eC1 := tC.2.1
  go_wp2_with (fail)
  refine (sub_any S T r s p q ks' V3 OS.out O2.out hks' K2.out.1 K2.out.2 O1.out).mono ?_
  rintro e w4 ⟨rfl, hb4⟩
  have zw4 := zV3.trans (hb4.mono zV3.size)
  have tA3' := tA2.call hb4
  have tB3' := tB2.call hb4
  clear eB0 eB1 eC0 eC1
  clear tA2 tB2 tC
  go_upto_region 7 with (fail)
  obtain ⟨V4, hV4⟩ : ∃ V : World, V = w4.alloc (.cells #[.int .i64 p, .int .i64 q] 25) := ⟨_, rfl⟩
  have tF : At V4 w4.heap.size p q := by rw [hV4]; exact At.new _ _ _ _
  have tA3 : At V4 A p q := by rw [hV4]; exact tA3'.alloc _
  have tB3 : At V4 B r s := by rw [hV4]; exact tB3'.alloc _
  have zV4 : Below w.heap.size w V4 := by rw [hV4]; exact zw4.alloc zw4.size _
  rw [← hV4]
  clear hV4 zw4
  obtain ⟨F, hF⟩ : ∃ A : Nat, A = w4.heap.size := ⟨_, rfl⟩
  rw [← hF] at tF ⊢
  clear hF
  have eA0 := tA3.1
  have eA1 := tA3.2.1
  have eB0 := tB3.1
  have eB1 := tB3.2.1
  go_wp2_with (fail)
  refine (sub_any p q r s D DD kd V4 O1.out O2.out hkd K3.out.1 K3.out.2 OD.out).mono ?_
  rintro e w5 ⟨rfl, hb5⟩
  have zw5 := zV4.trans (hb5.mono zV4.size)
  have tA4' := tA3.call hb5
  have tB4' := tB3.call hb5
  have tF4' := tF.call hb5
  clear eA0 eA1 eB0 eB1
  clear tA3 tB3 tF
  go_upto_region 8 with (fail)
  obtain ⟨V5, hV5⟩ : ∃ V : World, V = w5.alloc (.cells #[.int .i64 D, .int .i64 DD] 25) := ⟨_, rfl⟩
  have tG : At V5 w5.heap.size D DD := by rw [hV5]; exact At.new _ _ _ _
  have tA4 : At V5 A p q := by rw [hV5]; exact tA4'.alloc _
  have tB4 : At V5 B r s := by rw [hV5]; exact tB4'.alloc _
  have tF4 : At V5 F p q := by rw [hV5]; exact tF4'.alloc _
  have zV5 : Below w.heap.size w V5 := by rw [hV5]; exact zw5.alloc zw5.size _
  rw [← hV5]
  clear hV5 zw5
  obtain ⟨G, hG⟩ : ∃ A : Nat, A = w5.heap.size := ⟨_, rfl⟩
  rw [← hG] at tG ⊢
  clear hG
  have eA0 := tA4.1
  have eA1 := tA4.2.1
  have eB0 := tB4.1
  have eB1 := tB4.2.1
  go_wp2_with (fail)
  refine (cmp_any p q r s V5 O1.out O2.out).mono ?_
  rintro e w6 ⟨rfl, hb6⟩
  have zw6 := zV5.trans (hb6.mono zV5.size)
  have tA5 := tA4.call hb6
  have tB5 := tB4.call hb6
  have tF5 := tF4.call hb6
  have tG5 := tG.call hb6
  clear eA0 eA1 eB0 eB1
  clear tA4 tB4 tF4 tG zV5
  obtain ⟨c, hc⟩ : ∃ c, c = cmpI (p * s) (r * q) := ⟨_, rfl⟩
  rw [← hc]
  have K5 : Hid ((c = -1 ∧ D < 0) ∨ (c = 0 ∧ D = 0) ∨ (c = 1 ∧ 0 < D)) := by
    obtain ⟨f1, f2, f3⟩ := K4.out
    rw [hc]
    unfold cmpI
    rcases Int.lt_trichotomy (p * s) (r * q) with h | h | h
    · exact .inl ⟨by rw [if_pos h], f1 h⟩
    · exact .inr (.inl ⟨by rw [if_neg (by omega), if_neg (by omega)], f2 h⟩)
    · exact .inr (.inr ⟨by rw [if_neg (by omega), if_pos h], f3 h⟩)
  clear hc K4
  have eA0 := tA5.1
  have eA1 := tA5.2.1
  go_wp2_with (fail)
  refine (fractionText_any p q w6 (env_more (E.out.on zw6) zw6.size) O1.out).mono ?_
  rintro e w7 ⟨rfl, hb7⟩
  have zw7 := zw6.trans (hb7.mono zw6.size)
  have tA6 := tA5.call hb7
  have tB6 := tB5.call hb7
  have tF6 := tF5.call hb7
  have tG6 := tG5.call hb7
  clear eA0 eA1
  clear tA5 tB5 tF5 tG5 zw6
  go_wp2_with (fail)
  refine (readFraction_any p q w7 (env_more (E.out.on zw7) zw7.size) O1.out).mono ?_
  rintro e w8 ⟨rfl, hb8⟩
  have zw8 := zw7.trans (hb8.mono zw7.size)
  have tA7' := tA6.call hb8
  have tB7' := tB6.call hb8
  have tF7' := tF6.call hb8
  have tG7' := tG6.call hb8
  clear tA6 tB6 tF6 tG6 zw7
  go_upto_region 11 with (fail)
  obtain ⟨V8, hV8⟩ : ∃ V : World, V = w8.alloc (.cells #[.int .i64 p, .int .i64 q] 25) := ⟨_, rfl⟩
  have tR : At V8 w8.heap.size p q := by rw [hV8]; exact At.new _ _ _ _
  have tA7 : At V8 A p q := by rw [hV8]; exact tA7'.alloc _
  have tB7 : At V8 B r s := by rw [hV8]; exact tB7'.alloc _
  have tF7 : At V8 F p q := by rw [hV8]; exact tF7'.alloc _
  have tG7 : At V8 G D DD := by rw [hV8]; exact tG7'.alloc _
  have zV8 : Below w.heap.size w V8 := by rw [hV8]; exact zw8.alloc zw8.size _
  rw [← hV8]
  clear hV8 zw8
  obtain ⟨R, hR⟩ : ∃ A : Nat, A = w8.heap.size := ⟨_, rfl⟩
  rw [← hR] at tR ⊢
  clear hR
  have eA0 := tA7.1
  have eA1 := tA7.2.1
  have eB0 := tB7.1
  have eB1 := tB7.2.1
  have eF0 := tF7.1
  have eF1 := tF7.2.1
  have eG0 := tG7.1
  have eG1 := tG7.2.1
  have eR0 := tR.1
  have eR1 := tR.2.1
  clear tF7 tG7 tR
  have hr3 : (r = 0) ∨ (0 < r) ∨ (r < 0) := by omega
  rcases K5.out with ⟨rfl, hD⟩ | ⟨rfl, hD⟩ | ⟨rfl, hD⟩
  · have f1 : decide ((0 : Int) ≤ D) = false := by simp; omega
    rcases hr3 with hr | hr | hr
    · subst hr
      go_wp2_with (fail)
      refine (floorOf_any p q V8 O1.out).mono ?_
      rintro e wf ⟨x, rfl, hbf, hx1, hx2, hx3, hx4⟩
      have zwf := zV8.trans (hbf.mono zV8.size)
      have tAf := tA7.call hbf
      have eAf0 := tAf.1
      have eAf1 := tAf.2.1
      have hx5 : (x + 1) * q = x * q + q := by rw [Int.add_mul, Int.one_mul]
      have hx6 : -2000000000 ≤ x * q := by omega
      have hx7 : x * q ≤ 1000000000 := by omega
      have hx8 : -2000000000 ≤ (x + 1) * q := by omega
      have hx9 : (x + 1) * q ≤ 2000000000 := by omega
      have hx10 : decide (p < (x + 1) * q) = true := by simp; omega
      clear hx5
      go_wp2
      go_ret
      exact ⟨rfl, zwf⟩
    · have hr0 : (r == 0) = false := by simp; omega
      have hr1 : (r != 0) = true := by rw [bne_iff_ne]; omega
      go_wp2_with (fail)
      obtain ⟨m, l, km, kd', hkm, hm1, hm2, hokM, hkd', hpos, hneg⟩ := mul_back p q r s O1.out O2.out hp1 hq1 hp2 hq2 (by omega)
      have M1 := Lib.hid (And.intro hm1 hm2)
      have M2 := Lib.hid (And.intro hpos hneg)
      have OM := Lib.hid hokM
      clear hm1 hm2 hpos hneg hokM
      refine (mul_any p q r s m l km V8 O1.out O2.out hkm M1.out.1 M1.out.2 OM.out).mono ?_
      rintro e w9 ⟨rfl, hb9⟩
      have zw9 := zV8.trans (hb9.mono zV8.size)
      have tA8' := tA7.call hb9
      have tB8' := tB7.call hb9
      clear eA0 eA1 eB0 eB1 eF0 eF1 eG0 eG1 eR0 eR1 tA7 tB7
      go_upto_region 17 with (fail)
      obtain ⟨V9, hV9⟩ : ∃ V : World, V = w9.alloc (.cells #[.int .i64 m, .int .i64 l] 25) := ⟨_, rfl⟩
      have tP : At V9 w9.heap.size m l := by rw [hV9]; exact At.new _ _ _ _
      have tA8 : At V9 A p q := by rw [hV9]; exact tA8'.alloc _
      have tB8 : At V9 B r s := by rw [hV9]; exact tB8'.alloc _
      have zV9 : Below w.heap.size w V9 := by rw [hV9]; exact zw9.alloc zw9.size _
      rw [← hV9]
      clear hV9 zw9
      obtain ⟨P, hP⟩ : ∃ A : Nat, A = w9.heap.size := ⟨_, rfl⟩
      rw [← hP] at tP ⊢
      clear hP
      have eB0 := tB8.1
      have eB1 := tB8.2.1
      have eP0 := tP.1
      have eP1 := tP.2.1
      go_wp2_with (fail)
      refine (div_pos m l r s p q kd' V9 OM.out O2.out hr hkd' (M2.out.1 hr).1 (M2.out.1 hr).2 O1.out).mono ?_
      rintro e w10 ⟨rfl, hb10⟩
      have zw10 := zV9.trans (hb10.mono zV9.size)
      have tA9' := tA8.call hb10
      clear eB0 eB1 eP0 eP1 tA8 tB8 tP
      go_upto_region 18 with (fail)
      obtain ⟨V10, hV10⟩ : ∃ V : World, V = w10.alloc (.cells #[.int .i64 p, .int .i64 q] 25) := ⟨_, rfl⟩
      have tQ : At V10 w10.heap.size p q := by rw [hV10]; exact At.new _ _ _ _
      have tA9 : At V10 A p q := by rw [hV10]; exact tA9'.alloc _
      have zV10 : Below w.heap.size w V10 := by rw [hV10]; exact zw10.alloc zw10.size _
      rw [← hV10]
      clear hV10 zw10
      obtain ⟨Q, hQ⟩ : ∃ A : Nat, A = w10.heap.size := ⟨_, rfl⟩
      rw [← hQ] at tQ ⊢
      clear hQ
      have eA0 := tA9.1
      have eA1 := tA9.2.1
      have eQ0 := tQ.1
      have eQ1 := tQ.2.1
      go_wp2_with (fail)
      refine (floorOf_any p q V10 O1.out).mono ?_
      rintro e wf ⟨x, rfl, hbf, hx1, hx2, hx3, hx4⟩
      have zwf := zV10.trans (hbf.mono zV10.size)
      have tAf := tA9.call hbf
      have eAf0 := tAf.1
      have eAf1 := tAf.2.1
      have hx5 : (x + 1) * q = x * q + q := by rw [Int.add_mul, Int.one_mul]
      have hx6 : -2000000000 ≤ x * q := by omega
      have hx7 : x * q ≤ 1000000000 := by omega
      have hx8 : -2000000000 ≤ (x + 1) * q := by omega
      have hx9 : (x + 1) * q ≤ 2000000000 := by omega
      have hx10 : decide (p < (x + 1) * q) = true := by simp; omega
      clear hx5
      go_wp2
      go_ret
      exact ⟨rfl, zwf⟩
    · have hr0 : (r == 0) = false := by simp; omega
      have hr1 : (r != 0) = true := by rw [bne_iff_ne]; omega
      go_wp2_with (fail)
      obtain ⟨m, l, km, kd', hkm, hm1, hm2, hokM, hkd', hpos, hneg⟩ := mul_back p q r s O1.out O2.out hp1 hq1 hp2 hq2 (by omega)
      have M1 := Lib.hid (And.intro hm1 hm2)
      have M2 := Lib.hid (And.intro hpos hneg)
      have OM := Lib.hid hokM
      clear hm1 hm2 hpos hneg hokM
      refine (mul_any p q r s m l km V8 O1.out O2.out hkm M1.out.1 M1.out.2 OM.out).mono ?_
      rintro e w9 ⟨rfl, hb9⟩
      have zw9 := zV8.trans (hb9.mono zV8.size)
      have tA8' := tA7.call hb9
      have tB8' := tB7.call hb9
      clear eA0 eA1 eB0 eB1 eF0 eF1 eG0 eG1 eR0 eR1 tA7 tB7
      go_upto_region 17 with (fail)
      obtain ⟨V9, hV9⟩ : ∃ V : World, V = w9.alloc (.cells #[.int .i64 m, .int .i64 l] 25) := ⟨_, rfl⟩
      have tP : At V9 w9.heap.size m l := by rw [hV9]; exact At.new _ _ _ _
      have tA8 : At V9 A p q := by rw [hV9]; exact tA8'.alloc _
      have tB8 : At V9 B r s := by rw [hV9]; exact tB8'.alloc _
      have zV9 : Below w.heap.size w V9 := by rw [hV9]; exact zw9.alloc zw9.size _
      rw [← hV9]
      clear hV9 zw9
      obtain ⟨P, hP⟩ : ∃ A : Nat, A = w9.heap.size := ⟨_, rfl⟩
      rw [← hP] at tP ⊢
      clear hP
      have eB0 := tB8.1
      have eB1 := tB8.2.1
      have eP0 := tP.1
      have eP1 := tP.2.1
      go_wp2_with (fail)
      refine (div_neg m l r s p q kd' V9 OM.out O2.out hr hkd' (M2.out.2 hr).1 (M2.out.2 hr).2 O1.out).mono ?_
      rintro e w10 ⟨rfl, hb10⟩
      have zw10 := zV9.trans (hb10.mono zV9.size)
      have tA9' := tA8.call hb10
      clear eB0 eB1 eP0 eP1 tA8 tB8 tP
      go_upto_region 18 with (fail)
      obtain ⟨V10, hV10⟩ : ∃ V : World, V = w10.alloc (.cells #[.int .i64 p, .int .i64 q] 25) := ⟨_, rfl⟩
      have tQ : At V10 w10.heap.size p q := by rw [hV10]; exact At.new _ _ _ _
      have tA9 : At V10 A p q := by rw [hV10]; exact tA9'.alloc _
      have zV10 : Below w.heap.size w V10 := by rw [hV10]; exact zw10.alloc zw10.size _
      rw [← hV10]
      clear hV10 zw10
      obtain ⟨Q, hQ⟩ : ∃ A : Nat, A = w10.heap.size := ⟨_, rfl⟩
      rw [← hQ] at tQ ⊢
      clear hQ
      have eA0 := tA9.1
      have eA1 := tA9.2.1
      have eQ0 := tQ.1
      have eQ1 := tQ.2.1
      go_wp2_with (fail)
      refine (floorOf_any p q V10 O1.out).mono ?_
      rintro e wf ⟨x, rfl, hbf, hx1, hx2, hx3, hx4⟩
      have zwf := zV10.trans (hbf.mono zV10.size)
      have tAf := tA9.call hbf
      have eAf0 := tAf.1
      have eAf1 := tAf.2.1
      have hx5 : (x + 1) * q = x * q + q := by rw [Int.add_mul, Int.one_mul]
      have hx6 : -2000000000 ≤ x * q := by omega
      have hx7 : x * q ≤ 1000000000 := by omega
      have hx8 : -2000000000 ≤ (x + 1) * q := by omega
      have hx9 : (x + 1) * q ≤ 2000000000 := by omega
      have hx10 : decide (p < (x + 1) * q) = true := by simp; omega
      clear hx5
      go_wp2
      go_ret
      exact ⟨rfl, zwf⟩
  · subst hD
    rcases hr3 with hr | hr | hr
    · subst hr
      go_wp2_with (fail)
      refine (floorOf_any p q V8 O1.out).mono ?_
      rintro e wf ⟨x, rfl, hbf, hx1, hx2, hx3, hx4⟩
      have zwf := zV8.trans (hbf.mono zV8.size)
      have tAf := tA7.call hbf
      have eAf0 := tAf.1
      have eAf1 := tAf.2.1
      have hx5 : (x + 1) * q = x * q + q := by rw [Int.add_mul, Int.one_mul]
      have hx6 : -2000000000 ≤ x * q := by omega
      have hx7 : x * q ≤ 1000000000 := by omega
      have hx8 : -2000000000 ≤ (x + 1) * q := by omega
      have hx9 : (x + 1) * q ≤ 2000000000 := by omega
      have hx10 : decide (p < (x + 1) * q) = true := by simp; omega
      clear hx5
      go_wp2
      go_ret
      exact ⟨rfl, zwf⟩
    · have hr0 : (r == 0) = false := by simp; omega
      have hr1 : (r != 0) = true := by rw [bne_iff_ne]; omega
      go_wp2_with (fail)
      obtain ⟨m, l, km, kd', hkm, hm1, hm2, hokM, hkd', hpos, hneg⟩ := mul_back p q r s O1.out O2.out hp1 hq1 hp2 hq2 (by omega)
      have M1 := Lib.hid (And.intro hm1 hm2)
      have M2 := Lib.hid (And.intro hpos hneg)
      have OM := Lib.hid hokM
      clear hm1 hm2 hpos hneg hokM
      refine (mul_any p q r s m l km V8 O1.out O2.out hkm M1.out.1 M1.out.2 OM.out).mono ?_
      rintro e w9 ⟨rfl, hb9⟩
      have zw9 := zV8.trans (hb9.mono zV8.size)
      have tA8' := tA7.call hb9
      have tB8' := tB7.call hb9
      clear eA0 eA1 eB0 eB1 eF0 eF1 eG0 eG1 eR0 eR1 tA7 tB7
      go_upto_region 17 with (fail)
      obtain ⟨V9, hV9⟩ : ∃ V : World, V = w9.alloc (.cells #[.int .i64 m, .int .i64 l] 25) := ⟨_, rfl⟩
      have tP : At V9 w9.heap.size m l := by rw [hV9]; exact At.new _ _ _ _
      have tA8 : At V9 A p q := by rw [hV9]; exact tA8'.alloc _
      have tB8 : At V9 B r s := by rw [hV9]; exact tB8'.alloc _
      have zV9 : Below w.heap.size w V9 := by rw [hV9]; exact zw9.alloc zw9.size _
      rw [← hV9]
      clear hV9 zw9
      obtain ⟨P, hP⟩ : ∃ A : Nat, A = w9.heap.size := ⟨_, rfl⟩
      rw [← hP] at tP ⊢
      clear hP
      have eB0 := tB8.1
      have eB1 := tB8.2.1
      have eP0 := tP.1
      have eP1 := tP.2.1
      go_wp2_with (fail)
      refine (div_pos m l r s p q kd' V9 OM.out O2.out hr hkd' (M2.out.1 hr).1 (M2.out.1 hr).2 O1.out).mono ?_
      rintro e w10 ⟨rfl, hb10⟩
      have zw10 := zV9.trans (hb10.mono zV9.size)
      have tA9' := tA8.call hb10
      clear eB0 eB1 eP0 eP1 tA8 tB8 tP
      go_upto_region 18 with (fail)
      obtain ⟨V10, hV10⟩ : ∃ V : World, V = w10.alloc (.cells #[.int .i64 p, .int .i64 q] 25) := ⟨_, rfl⟩
      have tQ : At V10 w10.heap.size p q := by rw [hV10]; exact At.new _ _ _ _
      have tA9 : At V10 A p q := by rw [hV10]; exact tA9'.alloc _
      have zV10 : Below w.heap.size w V10 := by rw [hV10]; exact zw10.alloc zw10.size _
      rw [← hV10]
      clear hV10 zw10
      obtain ⟨Q, hQ⟩ : ∃ A : Nat, A = w10.heap.size := ⟨_, rfl⟩
      rw [← hQ] at tQ ⊢
      clear hQ
      have eA0 := tA9.1
      have eA1 := tA9.2.1
      have eQ0 := tQ.1
      have eQ1 := tQ.2.1
      go_wp2_with (fail)
      refine (floorOf_any p q V10 O1.out).mono ?_
      rintro e wf ⟨x, rfl, hbf, hx1, hx2, hx3, hx4⟩
      have zwf := zV10.trans (hbf.mono zV10.size)
      have tAf := tA9.call hbf
      have eAf0 := tAf.1
      have eAf1 := tAf.2.1
      have hx5 : (x + 1) * q = x * q + q := by rw [Int.add_mul, Int.one_mul]
      have hx6 : -2000000000 ≤ x * q := by omega
      have hx7 : x * q ≤ 1000000000 := by omega
      have hx8 : -2000000000 ≤ (x + 1) * q := by omega
      have hx9 : (x + 1) * q ≤ 2000000000 := by omega
      have hx10 : decide (p < (x + 1) * q) = true := by simp; omega
      clear hx5
      go_wp2
      go_ret
      exact ⟨rfl, zwf⟩
    · have hr0 : (r == 0) = false := by simp; omega
      have hr1 : (r != 0) = true := by rw [bne_iff_ne]; omega
      go_wp2_with (fail)
      obtain ⟨m, l, km, kd', hkm, hm1, hm2, hokM, hkd', hpos, hneg⟩ := mul_back p q r s O1.out O2.out hp1 hq1 hp2 hq2 (by omega)
      have M1 := Lib.hid (And.intro hm1 hm2)
      have M2 := Lib.hid (And.intro hpos hneg)
      have OM := Lib.hid hokM
      clear hm1 hm2 hpos hneg hokM
      refine (mul_any p q r s m l km V8 O1.out O2.out hkm M1.out.1 M1.out.2 OM.out).mono ?_
      rintro e w9 ⟨rfl, hb9⟩
      have zw9 := zV8.trans (hb9.mono zV8.size)
      have tA8' := tA7.call hb9
      have tB8' := tB7.call hb9
      clear eA0 eA1 eB0 eB1 eF0 eF1 eG0 eG1 eR0 eR1 tA7 tB7
      go_upto_region 17 with (fail)
      obtain ⟨V9, hV9⟩ : ∃ V : World, V = w9.alloc (.cells #[.int .i64 m, .int .i64 l] 25) := ⟨_, rfl⟩
      have tP : At V9 w9.heap.size m l := by rw [hV9]; exact At.new _ _ _ _
      have tA8 : At V9 A p q := by rw [hV9]; exact tA8'.alloc _
      have tB8 : At V9 B r s := by rw [hV9]; exact tB8'.alloc _
      have zV9 : Below w.heap.size w V9 := by rw [hV9]; exact zw9.alloc zw9.size _
      rw [← hV9]
      clear hV9 zw9
      obtain ⟨P, hP⟩ : ∃ A : Nat, A = w9.heap.size := ⟨_, rfl⟩
      rw [← hP] at tP ⊢
      clear hP
      have eB0 := tB8.1
      have eB1 := tB8.2.1
      have eP0 := tP.1
      have eP1 := tP.2.1
      go_wp2_with (fail)
      refine (div_neg m l r s p q kd' V9 OM.out O2.out hr hkd' (M2.out.2 hr).1 (M2.out.2 hr).2 O1.out).mono ?_
      rintro e w10 ⟨rfl, hb10⟩
      have zw10 := zV9.trans (hb10.mono zV9.size)
      have tA9' := tA8.call hb10
      clear eB0 eB1 eP0 eP1 tA8 tB8 tP
      go_upto_region 18 with (fail)
      obtain ⟨V10, hV10⟩ : ∃ V : World, V = w10.alloc (.cells #[.int .i64 p, .int .i64 q] 25) := ⟨_, rfl⟩
      have tQ : At V10 w10.heap.size p q := by rw [hV10]; exact At.new _ _ _ _
      have tA9 : At V10 A p q := by rw [hV10]; exact tA9'.alloc _
      have zV10 : Below w.heap.size w V10 := by rw [hV10]; exact zw10.alloc zw10.size _
      rw [← hV10]
      clear hV10 zw10
      obtain ⟨Q, hQ⟩ : ∃ A : Nat, A = w10.heap.size := ⟨_, rfl⟩
      rw [← hQ] at tQ ⊢
      clear hQ
      have eA0 := tA9.1
      have eA1 := tA9.2.1
      have eQ0 := tQ.1
      have eQ1 := tQ.2.1
      go_wp2_with (fail)
      refine (floorOf_any p q V10 O1.out).mono ?_
      rintro e wf ⟨x, rfl, hbf, hx1, hx2, hx3, hx4⟩
      have zwf := zV10.trans (hbf.mono zV10.size)
      have tAf := tA9.call hbf
      have eAf0 := tAf.1
      have eAf1 := tAf.2.1
      have hx5 : (x + 1) * q = x * q + q := by rw [Int.add_mul, Int.one_mul]
      have hx6 : -2000000000 ≤ x * q := by omega
      have hx7 : x * q ≤ 1000000000 := by omega
      have hx8 : -2000000000 ≤ (x + 1) * q := by omega
      have hx9 : (x + 1) * q ≤ 2000000000 := by omega
      have hx10 : decide (p < (x + 1) * q) = true := by simp; omega
      clear hx5
      go_wp2
      go_ret
      exact ⟨rfl, zwf⟩
  · have f1 : decide (D ≤ (0 : Int)) = false := by simp; omega
    rcases hr3 with hr | hr | hr
    · subst hr
      go_wp2_with (fail)
      refine (floorOf_any p q V8 O1.out).mono ?_
      rintro e wf ⟨x, rfl, hbf, hx1, hx2, hx3, hx4⟩
      have zwf := zV8.trans (hbf.mono zV8.size)
      have tAf := tA7.call hbf
      have eAf0 := tAf.1
      have eAf1 := tAf.2.1
      have hx5 : (x + 1) * q = x * q + q := by rw [Int.add_mul, Int.one_mul]
      have hx6 : -2000000000 ≤ x * q := by omega
      have hx7 : x * q ≤ 1000000000 := by omega
      have hx8 : -2000000000 ≤ (x + 1) * q := by omega
      have hx9 : (x + 1) * q ≤ 2000000000 := by omega
      have hx10 : decide (p < (x + 1) * q) = true := by simp; omega
      clear hx5
      go_wp2
      go_ret
      exact ⟨rfl, zwf⟩
    · have hr0 : (r == 0) = false := by simp; omega
      have hr1 : (r != 0) = true := by rw [bne_iff_ne]; omega
      go_wp2_with (fail)
      obtain ⟨m, l, km, kd', hkm, hm1, hm2, hokM, hkd', hpos, hneg⟩ := mul_back p q r s O1.out O2.out hp1 hq1 hp2 hq2 (by omega)
      have M1 := Lib.hid (And.intro hm1 hm2)
      have M2 := Lib.hid (And.intro hpos hneg)
      have OM := Lib.hid hokM
      clear hm1 hm2 hpos hneg hokM
      refine (mul_any p q r s m l km V8 O1.out O2.out hkm M1.out.1 M1.out.2 OM.out).mono ?_
      rintro e w9 ⟨rfl, hb9⟩
      have zw9 := zV8.trans (hb9.mono zV8.size)
      have tA8' := tA7.call hb9
      have tB8' := tB7.call hb9
      clear eA0 eA1 eB0 eB1 eF0 eF1 eG0 eG1 eR0 eR1 tA7 tB7
      go_upto_region 17 with (fail)
      obtain ⟨V9, hV9⟩ : ∃ V : World, V = w9.alloc (.cells #[.int .i64 m, .int .i64 l] 25) := ⟨_, rfl⟩
      have tP : At V9 w9.heap.size m l := by rw [hV9]; exact At.new _ _ _ _
      have tA8 : At V9 A p q := by rw [hV9]; exact tA8'.alloc _
      have tB8 : At V9 B r s := by rw [hV9]; exact tB8'.alloc _
      have zV9 : Below w.heap.size w V9 := by rw [hV9]; exact zw9.alloc zw9.size _
      rw [← hV9]
      clear hV9 zw9
      obtain ⟨P, hP⟩ : ∃ A : Nat, A = w9.heap.size := ⟨_, rfl⟩
      rw [← hP] at tP ⊢
      clear hP
      have eB0 := tB8.1
      have eB1 := tB8.2.1
      have eP0 := tP.1
      have eP1 := tP.2.1
      go_wp2_with (fail)
      refine (div_pos m l r s p q kd' V9 OM.out O2.out hr hkd' (M2.out.1 hr).1 (M2.out.1 hr).2 O1.out).mono ?_
      rintro e w10 ⟨rfl, hb10⟩
      have zw10 := zV9.trans (hb10.mono zV9.size)
      have tA9' := tA8.call hb10
      clear eB0 eB1 eP0 eP1 tA8 tB8 tP
      go_upto_region 18 with (fail)
      obtain ⟨V10, hV10⟩ : ∃ V : World, V = w10.alloc (.cells #[.int .i64 p, .int .i64 q] 25) := ⟨_, rfl⟩
      have tQ : At V10 w10.heap.size p q := by rw [hV10]; exact At.new _ _ _ _
      have tA9 : At V10 A p q := by rw [hV10]; exact tA9'.alloc _
      have zV10 : Below w.heap.size w V10 := by rw [hV10]; exact zw10.alloc zw10.size _
      rw [← hV10]
      clear hV10 zw10
      obtain ⟨Q, hQ⟩ : ∃ A : Nat, A = w10.heap.size := ⟨_, rfl⟩
      rw [← hQ] at tQ ⊢
      clear hQ
      have eA0 := tA9.1
      have eA1 := tA9.2.1
      have eQ0 := tQ.1
      have eQ1 := tQ.2.1
      go_wp2_with (fail)
      refine (floorOf_any p q V10 O1.out).mono ?_
      rintro e wf ⟨x, rfl, hbf, hx1, hx2, hx3, hx4⟩
      have zwf := zV10.trans (hbf.mono zV10.size)
      have tAf := tA9.call hbf
      have eAf0 := tAf.1
      have eAf1 := tAf.2.1
      have hx5 : (x + 1) * q = x * q + q := by rw [Int.add_mul, Int.one_mul]
      have hx6 : -2000000000 ≤ x * q := by omega
      have hx7 : x * q ≤ 1000000000 := by omega
      have hx8 : -2000000000 ≤ (x + 1) * q := by omega
      have hx9 : (x + 1) * q ≤ 2000000000 := by omega
      have hx10 : decide (p < (x + 1) * q) = true := by simp; omega
      clear hx5
      go_wp2
      go_ret
      exact ⟨rfl, zwf⟩
    · have hr0 : (r == 0) = false := by simp; omega
      have hr1 : (r != 0) = true := by rw [bne_iff_ne]; omega
      go_wp2_with (fail)
      obtain ⟨m, l, km, kd', hkm, hm1, hm2, hokM, hkd', hpos, hneg⟩ := mul_back p q r s O1.out O2.out hp1 hq1 hp2 hq2 (by omega)
      have M1 := Lib.hid (And.intro hm1 hm2)
      have M2 := Lib.hid (And.intro hpos hneg)
      have OM := Lib.hid hokM
      clear hm1 hm2 hpos hneg hokM
      refine (mul_any p q r s m l km V8 O1.out O2.out hkm M1.out.1 M1.out.2 OM.out).mono ?_
      rintro e w9 ⟨rfl, hb9⟩
      have zw9 := zV8.trans (hb9.mono zV8.size)
      have tA8' := tA7.call hb9
      have tB8' := tB7.call hb9
      clear eA0 eA1 eB0 eB1 eF0 eF1 eG0 eG1 eR0 eR1 tA7 tB7
      go_upto_region 17 with (fail)
      obtain ⟨V9, hV9⟩ : ∃ V : World, V = w9.alloc (.cells #[.int .i64 m, .int .i64 l] 25) := ⟨_, rfl⟩
      have tP : At V9 w9.heap.size m l := by rw [hV9]; exact At.new _ _ _ _
      have tA8 : At V9 A p q := by rw [hV9]; exact tA8'.alloc _
      have tB8 : At V9 B r s := by rw [hV9]; exact tB8'.alloc _
      have zV9 : Below w.heap.size w V9 := by rw [hV9]; exact zw9.alloc zw9.size _
      rw [← hV9]
      clear hV9 zw9
      obtain ⟨P, hP⟩ : ∃ A : Nat, A = w9.heap.size := ⟨_, rfl⟩
      rw [← hP] at tP ⊢
      clear hP
      have eB0 := tB8.1
      have eB1 := tB8.2.1
      have eP0 := tP.1
      have eP1 := tP.2.1
      go_wp2_with (fail)
      refine (div_neg m l r s p q kd' V9 OM.out O2.out hr hkd' (M2.out.2 hr).1 (M2.out.2 hr).2 O1.out).mono ?_
      rintro e w10 ⟨rfl, hb10⟩
      have zw10 := zV9.trans (hb10.mono zV9.size)
      have tA9' := tA8.call hb10
      clear eB0 eB1 eP0 eP1 tA8 tB8 tP
      go_upto_region 18 with (fail)
      obtain ⟨V10, hV10⟩ : ∃ V : World, V = w10.alloc (.cells #[.int .i64 p, .int .i64 q] 25) := ⟨_, rfl⟩
      have tQ : At V10 w10.heap.size p q := by rw [hV10]; exact At.new _ _ _ _
      have tA9 : At V10 A p q := by rw [hV10]; exact tA9'.alloc _
      have zV10 : Below w.heap.size w V10 := by rw [hV10]; exact zw10.alloc zw10.size _
      rw [← hV10]
      clear hV10 zw10
      obtain ⟨Q, hQ⟩ : ∃ A : Nat, A = w10.heap.size := ⟨_, rfl⟩
      rw [← hQ] at tQ ⊢
      clear hQ
      have eA0 := tA9.1
      have eA1 := tA9.2.1
      have eQ0 := tQ.1
      have eQ1 := tQ.2.1
      go_wp2_with (fail)
      refine (floorOf_any p q V10 O1.out).mono ?_
      rintro e wf ⟨x, rfl, hbf, hx1, hx2, hx3, hx4⟩
      have zwf := zV10.trans (hbf.mono zV10.size)
      have tAf := tA9.call hbf
      have eAf0 := tAf.1
      have eAf1 := tAf.2.1
      have hx5 : (x + 1) * q = x * q + q := by rw [Int.add_mul, Int.one_mul]
      have hx6 : -2000000000 ≤ x * q := by omega
      have hx7 : x * q ≤ 1000000000 := by omega
      have hx8 : -2000000000 ≤ (x + 1) * q := by omega
      have hx9 : (x + 1) * q ≤ 2000000000 := by omega
      have hx10 : decide (p < (x + 1) * q) = true := by simp; omega
      clear hx5
      go_wp2
      go_ret
      exact ⟨rfl, zwf⟩

set_option maxRecDepth 100000 in
theorem fractions_any (A1 : Option Addr) (n1 c1 : Nat) (A2 : Option Addr) (n2 c2 : Nat) (w : World) (hA1 : BytesAt w w.heap.size A1 n1) (hA2 : BytesAt w w.heap.size A2 n2) (hE : Env w.heap.size w) :
    Calls Tryd.prog 3 #[.slice A1 n1 c1, .slice A2 n2 c2] w (RetB (.bool true) w) := by
  by_cases hl : n1 ≤ 1048576 ∧ n2 ≤ 1048576
  · exact fractions_walk A1 n1 c1 A2 n2 c2 w hA1 hA2 hE hl.1 hl.2
  · have HL := Lib.hid (long_yes A1 n1 c1 A2 n2 c2 w hl)
    clear hl hA1 hA2 hE
    go_enter Tryd.func3, Tryd.ntmps3
    go_wp2_with (fail)
    refine (HL.out).mono ?_
    rintro e w0 ⟨rfl, k0, rfl⟩
    go_wp2
    go_ret
    exact ⟨rfl, below_drewN (Below.refl _ _) k0⟩

end Go.Proofs.YtgjlldljdkilcaaDoor

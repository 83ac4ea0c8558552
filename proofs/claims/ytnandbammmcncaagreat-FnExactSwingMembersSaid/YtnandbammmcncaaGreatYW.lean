/- Whose vote turns the verdict: plain, and walked: the reference's. Whose vote turns the verdict, walked: the program's. FnExactSwingMembers, walked. -/
import Derived.Test.YtnandbammmcncaaGreatYV
import Derived.Test.YtnandbammmcncaaGreatYE
namespace Go.Proofs.YtnandbammmcncaaGreat
open Go.RowKit Go.Lib

def selK (p : Nat → Bool) : Nat → List Int
  | 0 => []
  | k + 1 => selK p k ++ (if p k = true then [(k : Int)] else [])
theorem selK_len (p : Nat → Bool) : ∀ k, (selK p k).length ≤ k
  | 0 => Nat.le_refl _
  | k + 1 => by
    have := selK_len p k
    unfold selK
    rw [List.length_append]
    split <;> simp <;> omega
theorem selK_yes {p : Nat → Bool} {k : Nat} (h : p k = true) : selK p (k + 1) = selK p k ++ [(k : Int)] := by rw [selK, if_pos h]
theorem selK_no {p : Nat → Bool} {k : Nat} (h : p k = false) : selK p (k + 1) = selK p k := by rw [selK, if_neg (by rw [h]; simp), List.append_nil]
noncomputable def isSw (a : Asm) (m : Mot) (k : Nat) : Bool := !(m.votes.getD k 0 == 0) && !(verM a m (m.votes.set k 0) == verM a m m.votes)
noncomputable def okSw (a : Asm) (t : ByteArray) : Bool := knownB a t && ((motOf a t).result == 0)
noncomputable def swM (a : Asm) (m : Mot) : List Int := selK (isSw a m) m.votes.length
noncomputable def swOf (a : Asm) (t : ByteArray) : List Int := if okSw a t = true then swM a (motOf a t) else []
theorem swOf_no {a : Asm} {t : ByteArray} (h : okSw a t = false) : swOf a t = [] := by unfold swOf; rw [if_neg (by rw [h]; simp)]
theorem swOf_yes {a : Asm} {t : ByteArray} (h : okSw a t = true) : swOf a t = swM a (motOf a t) := by unfold swOf; rw [if_pos h]
theorem swOf_len (a : Asm) (t : ByteArray) : (swOf a t).length ≤ 1048576 := by
  cases h : okSw a t with
  | false => rw [swOf_no h]; simp
  | true =>
    rw [swOf_yes h]
    unfold okSw at h
    rw [Bool.and_eq_true] at h
    obtain ⟨hv, k, _, _, hkm⟩ := known_at h.1
    have hok := okAsm_ok hv
    have h12 := hok.n12
    have hvl := hok.votes hkm
    have := selK_len (isSw a (motOf a t)) (motOf a t).votes.length
    unfold swM
    omega

set_option maxRecDepth 100000 in
set_option maxHeartbeats 8000000 in
theorem swing1_any (a : Asm) (x : VAsm) (t : ByteArray) (w : World) (h : AsmR w w.heap.size x a) (hs : AsmSz a) : Calls Tryz.prog 28 #[asmV a x, .string t] w (ResP (intK (swOf a t)).own (okSw a t) w) := by
  obtain ⟨At, ct, Ab, cb, Ac, cc, Am, cm, rfl⟩ := h.slices
  unfold asmV
  obtain ⟨W, hW⟩ : ∃ W : World, W = w.alloc (.cells #[.int .i64 a.day, .int .i64 a.rule, .slice At a.trust.length ct, .slice Ab a.base.length cb, .slice Ac a.acts.length cc, .slice Am a.mots.length cm] 36) := ⟨_, rfl⟩
  have bW : Below w.heap.size w W := by rw [hW]; exact (Below.refl _ _).alloc (Nat.le_refl _) _
  have a1 : Row W w.heap.size [.int .i64 a.day, .int .i64 a.rule, .slice At a.trust.length ct, .slice Ab a.base.length cb, .slice Ac a.acts.length cc, .slice Am a.mots.length cm] := by rw [hW]; exact Row.new w _ _
  have z0 := fun y : Aft W => y.cell (a1.cell 0 _ rfl)
  have z1 := fun y : Aft W => y.cell (a1.cell 1 _ rfl)
  have z2 := fun y : Aft W => y.cell (a1.cell 2 _ rfl)
  have z3 := fun y : Aft W => y.cell (a1.cell 3 _ rfl)
  have z4 := fun y : Aft W => y.cell (a1.cell 4 _ rfl)
  have z5 := fun y : Aft W => y.cell (a1.cell 5 _ rfl)
  have hRW := h.on bW bW.size
  have HR := Lib.hid (fun y : Aft W => h.on (aft_done bW y) (aft_done bW y).size)
  have HGM : Hid (0 < a.mots.length → ∃ b off, Am = some ⟨b, off, none⟩ ∧ b < W.heap.size ∧ ∀ (k : Nat) (m : Mot), a.mots[k]? = some m → ∃ A1 c1 A2 c2, MotP W W.heap.size b (off + k * 8) m A1 c1 A2 c2) := Lib.hid (by
    obtain ⟨A, c, hv, _, _, h⟩ := mots_at hRW.m
    have hv : Value.slice Am a.mots.length cm = .slice A a.mots.length c := hv
    injection hv with e1 e2 e3
    rw [e1]
    exact h)
  have HW := Lib.hid hW
  have HROW := Lib.hid a1
  have sW : w.heap.size < W.heap.size := by rw [hW]; simp
  obtain ⟨x0, hx0⟩ : ∃ y : Aft W, y.val = W := ⟨⟨W, Below.refl _ _⟩, rfl⟩
  have HX0 := Lib.hid hx0
  have HOK := Lib.hid (fun y : Aft W => ok1_any a ⟨.slice At a.trust.length ct, .slice Ab a.base.length cb, .slice Ac a.acts.length cc, .slice Am a.mots.length cm⟩ w.heap.size 0 y.val (z0 y) (z1 y) (z2 y) (z3 y) (z4 y) (z5 y) (HR.out y) hs)
  have HFI := Lib.hid (fun y : Aft W => find1_anyT a ⟨.slice At a.trust.length ct, .slice Ab a.base.length cb, .slice Ac a.acts.length cc, .slice Am a.mots.length cm⟩ t w.heap.size 0 y.val (by rw [Nat.zero_add]; exact z5 y) (HR.out y).m)
  clear h hW a1 hx0 hRW hs
  cases hv : okAsm a with
  | false =>
    have hkb : okSw a t = false := by unfold okSw; rw [known_bad hv]; rfl
    have HN := Lib.hid (swOf_no hkb)
    rw [hv] at HOK
    rw [hkb]
    clear hv hkb
    go_enter Tryz.func28, Tryz.ntmps28
    go_wp2_with (fail)
    rw [← HW.out, ← HX0.out]
    refine (aft_b (HOK.out x0)).mono ?_
    rintro e _ ⟨rfl, x1, rfl⟩
    go_wp2
    go_ret2
    exact ⟨_, rfl, by show OwnL intCells (swOf a t) _ _ _; rw [HN.out]; exact OwnL.nil _ _ _, aft_done bW x1⟩
  | true =>
    rw [hv] at HOK
    cases hk : knownB a t with
    | false =>
      have hkb : okSw a t = false := by unfold okSw; rw [hk]; rfl
      have hn := known_not hk hv
      have HN := Lib.hid (swOf_no hkb)
      rw [hkb]
      generalize findT a.mots t = n at *
      clear hk hv hkb
      go_enter Tryz.func28, Tryz.ntmps28
      go_wp2_with (fail)
      rw [← HW.out, ← HX0.out]
      refine (aft_b (HOK.out x0)).mono ?_
      rintro e _ ⟨rfl, x1, rfl⟩
      go_wp2_with (fail)
      refine (aft_b (HFI.out x1)).mono ?_
      rintro e _ ⟨rfl, x2, rfl⟩
      go_wp2
      go_ret2
      exact ⟨_, rfl, by show OwnL intCells (swOf a t) _ _ _; rw [HN.out]; exact OwnL.nil _ _ _, aft_done bW x2⟩
    | true =>
      obtain ⟨_, k, hfk, hkl, hkm⟩ := known_at hk
      have hok := okAsm_ok hv
      have hprt := okAsm_parts hv
      have HFK := Lib.hid hk
      have hvl := hok.votes hkm
      have hact := actOf_ok (hok.mots _ _ hkm)
      have hn12 := hok.n12
      obtain ⟨b2, off, rfl, hb2, hcell⟩ := HGM.out (by omega)
      obtain ⟨A1, c1, A2, c2, hP⟩ := hcell k _ hkm
      rw [hfk] at HFI
      have hnk : ¬ (k : Int) < 0 := by omega
      have hk0 : (0 : Int) ≤ (k : Int) := by omega
      have hki : (k : Int) < (a.mots.length : Int) := by omega
      obtain ⟨m, hm⟩ : ∃ m, m = motOf a t := ⟨_, rfl⟩
      rw [← hm] at hact hvl hP
      have t0 := fun y : Aft W => y.cell hP.k0
      have t1 := fun y : Aft W => y.cell hP.k1
      have t2 := fun y : Aft W => y.cell hP.k2
      have t3 := fun y : Aft W => y.cell hP.k3
      have t4 := fun y : Aft W => y.cell hP.k4
      have t5 := fun y : Aft W => y.cell hP.k5
      have t6 := fun y : Aft W => y.cell hP.k6
      have t7 := fun y : Aft W => y.cell hP.k7
      have HMP := Lib.hid (fun y : Aft W => hP.on y.ok y.ok.size hb2)
      by_cases hr0 : m.result = 0
      case neg =>
        have hq : (m.result == 0) = false := by simp [hr0]
        have hkb : okSw a t = false := by unfold okSw; rw [hk, ← hm, hq]; rfl
        have HN := Lib.hid (swOf_no hkb)
        rw [hkb]
        clear hk hv hfk hkm hcell hP hvl hact hprt hkb hm hr0 hok
        have hq1 : (m.result != 0) = true := by rw [bne, hq]; rfl
        have hq2 : (decide ((k : Int) < 0) || (m.result != 0)) = true := by rw [hq1, Bool.or_true]
        go_enter Tryz.func28, Tryz.ntmps28
        go_wp2_with (fail)
        rw [← HW.out, ← HX0.out]
        refine (aft_b (HOK.out x0)).mono ?_
        rintro e _ ⟨rfl, x1, rfl⟩
        go_wp2_with (fail)
        refine (aft_b (HFI.out x1)).mono ?_
        rintro e _ ⟨rfl, x2, rfl⟩
        go_wp2
        go_ret2
        exact ⟨_, rfl, by show OwnL intCells (swOf a t) _ _ _; rw [HN.out]; exact OwnL.nil _ _ _, aft_done bW x2⟩
      have hq : (m.result == 0) = true := by simp [hr0]
      have hkb : okSw a t = true := by unfold okSw; rw [hk, ← hm, hq]; rfl
      have HY := Lib.hid (show swOf a t = selK (isSw a m) m.votes.length by rw [swOf_yes hkb, hm]; rfl)
      rw [hkb]
      have hv12 : m.votes.length ≤ 12 := by omega
      have HVI := Lib.hid (fun (y : Aft W) (vs : List Int) (Av : Option Addr) (cv : Nat) (hi : Ints y.val y.val.heap.size (.slice Av vs.length cv) vs) (hl : vs.length = a.trust.length) => (⟨(HR.out y).t, (HR.out y).b, (HR.out y).c, (HMP.out y).edits, hi, hl, hok, hprt.1, hprt.2.1, hact⟩ : VerIn a m vs y.val At ct Ab cb Ac cc A1 c1 Av cv))
      have hq1 : (m.result != 0) = false := by rw [bne, hq]; rfl
      have hq2 : (decide ((k : Int) < 0) || (m.result != 0)) = false := by rw [hq1, Bool.or_false]; exact decide_eq_false hnk
      have HVL := Lib.hid hvl
      clear hk hv hfk hkm hcell hP hact hprt hkb hm hr0 hok hvl
      go_enter Tryz.func28, Tryz.ntmps28
      go_wp2_with (fail)
      rw [← HW.out, ← HX0.out]
      refine (aft_b (HOK.out x0)).mono ?_
      rintro e _ ⟨rfl, x1, rfl⟩
      go_wp2_with (fail)
      refine (aft_b (HFI.out x1)).mono ?_
      rintro e _ ⟨rfl, x2, rfl⟩
      go_wp2_with (fail)
      obtain ⟨V, hV⟩ : ∃ V, V = x2.val.alloc (.cells #[.string m.title, .int .i64 m.author, .slice A1 m.pat.length c1, .int .i64 m.beg, .int .i64 m.fin, .int .i64 m.closes, .slice A2 m.votes.length c2, .int .i64 m.result] 78) := ⟨_, rfl⟩
      have hb : Below x2.val.heap.size x2.val V := by rw [hV]; exact (Below.refl _ _).alloc (Nat.le_refl _) _
      have hsV : x2.val.heap.size < V.heap.size := by rw [hV, World.size_alloc]; omega
      have hr : Row V x2.val.heap.size [.string m.title, .int .i64 m.author, .slice A1 m.pat.length c1, .int .i64 m.beg, .int .i64 m.fin, .int .i64 m.closes, .slice A2 m.votes.length c2, .int .i64 m.result] := by rw [hV]; exact Row.new x2.val _ _
      have hbV : Below W.heap.size W V := x2.ok.trans (hb.mono x2.ok.size)
      have HMR := Lib.hid (fun (W' : World) (h : Below V.heap.size V W') => hr.below h hsV)
      have HBV := Lib.hid hbV
      have HDE := Lib.hid (fun (W' : World) (h : Below V.heap.size V W') (vs : List Int) (Av : Option Addr) (cv : Nat) (hi : Ints W' W'.heap.size (.slice Av vs.length cv) vs) (hl : vs.length = a.trust.length) =>
        decide1_any a m vs At ct Ab cb Ac cc A1 c1 Av cv w.heap.size 0 x2.val.heap.size 0 W' (HVI.out ⟨W', HBV.out.trans (h.mono HBV.out.size)⟩ vs Av cv hi hl)
          (by rw [Nat.zero_add]; exact z1 ⟨W', HBV.out.trans (h.mono HBV.out.size)⟩) (by rw [Nat.zero_add]; exact z2 ⟨W', HBV.out.trans (h.mono HBV.out.size)⟩) (by rw [Nat.zero_add]; exact z3 ⟨W', HBV.out.trans (h.mono HBV.out.size)⟩) (by rw [Nat.zero_add]; exact z4 ⟨W', HBV.out.trans (h.mono HBV.out.size)⟩)
          (by rw [Nat.zero_add]; exact (HMR.out W' h).cell 2 _ rfl) (by rw [Nat.zero_add]; exact (HMR.out W' h).cell 3 _ rfl) (by rw [Nat.zero_add]; exact (HMR.out W' h).cell 4 _ rfl))
      have HI := Lib.hid (fun (W' : World) (h : Below V.heap.size V W') => (HMP.out ⟨W', HBV.out.trans (h.mono HBV.out.size)⟩).ints)
      have y6 := hr.cell 6 _ rfl
      rw [← hV]
      clear hV hb hr hbV z0 z1 z2 z3 z4 z5 t0 t1 t2 t3 t4 t5 t6 t7
      generalize x2.val.heap.size = bm at *
      refine (HDE.out V (Below.refl _ _) m.votes A2 c2 (HI.out V (Below.refl _ _)) HVL.out).mono ?_
      rintro e w4 ⟨rfl, hb4⟩
      have HB4 := Lib.hid hb4
      clear y6 hb4
      obtain ⟨i0, hi, hz0, hz1, hz2⟩ := info_parts Tryz.infoI
      obtain ⟨now, hnow⟩ : ∃ n, n = verM a m m.votes := ⟨_, rfl⟩
      rw [← hnow]
      have HNOW := Lib.hid hnow
      clear hnow
      have HO0 := Lib.hid (NumO.start w4)
      have HBS0 := Lib.hid ((Below.refl w4.heap.size w4).alloc (Nat.le_refl _) (.cells #[] 2))
      go_wp2
      go_loopw [9, 10] (fun vo i wr => ∃ (k : Nat) (L : List Int) (g2 cap2 : Nat), k ≤ m.votes.length ∧ i = .int .i64 (k : Int) ∧ vo = .slice (some ⟨g2, 0, none⟩) L.length cap2 ∧ L = selK (isSw a m) k ∧ NumO wr w4.heap.size g2 cap2 L ∧ Below w4.heap.size w4 wr) (fun _ i _ => m.votes.length - (RowKit.intOf i).toNat)
      case atStart => exact ⟨0, [], _, 0, Nat.zero_le _, rfl, rfl, rfl, HO0.out, HBS0.out⟩
      case round =>
        obtain ⟨k, L, g2, cap2, hk, rfl, rfl, hLk, ho, hb⟩ := hrel
        have HO := Lib.hid ho
        have HB := Lib.hid hb
        have HLK := Lib.hid hLk.symm
        have hll : L.length ≤ k := by rw [hLk]; exact selK_len _ _
        have HBW := Lib.hid (HB4.out.trans (hb.mono HB4.out.size))
        have x6 := (HMR.out wr HBW.out).cell 6 _ rfl
        clear ho hLk hb
        by_cases hlt : k < m.votes.length
        · obtain ⟨bv, ov, hA2, hbv, e0⟩ := ints_get (HI.out wr HBW.out) (List.getElem?_eq_getElem hlt)
          subst hA2
          have hki : (k : Int) < (m.votes.length : Int) := by omega
          have hk0 : (0 : Int) ≤ (k : Int) := by omega
          have hgd : m.votes.getD k 0 = m.votes[k] := by simp [List.getD, hlt]
          have HSW : Hid (isSw a m k = (!(m.votes[k] == 0) && !(verM a m (m.votes.set k 0) == now))) := Lib.hid (by unfold isSw; rw [hgd, HNOW.out])
          have HWO := Lib.hid (wo1_any m.votes k (.slice (some ⟨bv, ov, none⟩) m.votes.length c2) wr (HI.out wr HBW.out) hlt (by omega))
          unfold WoPost at HWO
          have HSL : Hid ((m.votes.set k 0).length = m.votes.length) := Lib.hid List.length_set
          clear hgd
          obtain ⟨y, hy⟩ : ∃ y, y = m.votes[k] := ⟨_, rfl⟩
          rw [← hy] at HSW e0
          clear hy
          cases hy0 : (y == 0) with
          | true =>
            have HNOO := Lib.hid (selK_no (show isSw a m k = false by rw [HSW.out, hy0]; rfl))
            have HO6 := HO
            have HB6 := HB
            have hy1 : (y != 0) = false := by rw [bne, hy0]; rfl
            go_wp2
            go_roundw
            case rel => exact ⟨k + 1, L, g2, cap2, by omega, by go_num, rfl, by rw [HNOO.out, HLK.out], HO6.out, HB6.out⟩
            case measure => simp [RowKit.intOf]; omega
          | false =>
            have hy1 : (y != 0) = true := by rw [bne, hy0]; rfl
            go_wp2_with (fail)
            refine HWO.out.mono ?_
            rintro e w5 ⟨g5, c5, rfl, hO5, hb5⟩
            have HB5 := Lib.hid (HBW.out.trans (hb5.mono HBW.out.size))
            have hi5 : Ints w5 w5.heap.size (.slice (some ⟨g5, 0, none⟩) (m.votes.set k 0).length c5) (m.votes.set k 0) := by rw [HSL.out]; exact OwnL.slR (size := 1) (fun _ => rfl) hO5
            have HD := Lib.hid (HDE.out w5 HB5.out (m.votes.set k 0) (some ⟨g5, 0, none⟩) c5 hi5 (by rw [HSL.out]; exact HVL.out))
            rw [HSL.out] at HD
            have HB55 := Lib.hid hb5
            clear hi5 hO5 hb5 x6 e0
            go_wp2_with (fail)
            refine HD.out.mono ?_
            rintro e w6 ⟨rfl, hb6⟩
            have HBR := Lib.hid (HB55.out.trans (hb6.mono HB55.out.size))
            have HO6 := Lib.hid (HO.out.below HBR.out)
            have HB6 := Lib.hid (HB.out.trans (HBR.out.mono HB.out.size))
            clear hb6
            generalize verM a m (m.votes.set k 0) = u1 at *
            cases hu : (u1 == now) with
            | true =>
              have HNOO := Lib.hid (selK_no (show isSw a m k = false by rw [HSW.out, hu, hy0]; rfl))
              have hu1 : (u1 != now) = false := by rw [bne, hu]; rfl
              go_wp2
              go_roundw
              case rel => exact ⟨k + 1, L, g2, cap2, by omega, by go_num, rfl, by rw [HNOO.out, HLK.out], HO6.out, HB6.out⟩
              case measure => simp [RowKit.intOf]; omega
            | false =>
              have HYES := Lib.hid (selK_yes (show isSw a m k = true by rw [HSW.out, hu, hy0]; rfl))
              have hu1 : (u1 != now) = true := by rw [bne, hu]; rfl
              go_wp2_with (at_builtin; refine wpList_append_own_at _ rfl _ _ 29 rfl w4.heap.size 2 i0 (.int .i64 0) 1 8 Tryz.underlying29 hi hz0 hz1 hz2 rfl (by decide) _ _ _ rfl (HO6.out.row.alloc _) ⟨w6.heap.size, 0, none⟩ 1 1 (intCells (k : Int)) rfl rfl (fun j u hj => new_at hj) (fun u hu => int_one' _ hu) ?c3 ?c4 (base_le HB6.out.size) ?_)
              case c3 => unfold maxLen; omega
              case c4 => omega
              intro v' w9 hown' hgrow hiff hat
              obtain ⟨g9, cap9, rfl, hdc9, hcm9⟩ := own_some hown' (by simpa using hiff)
              have HB9 := Lib.hid ((HB6.out.alloc HB6.out.size (.cells #[.int .i64 (k : Int)] 2)).grown hgrow (base_le HB6.out.size) (fun j hj => (HO6.out.row.lt j hj).1))
              have HO9 : Hid (NumO w9 w4.heap.size g9 cap9 (L ++ [(k : Int)])) := Lib.hid (by
                unfold NumO
                rw [flat_snoc, List.length_append]
                exact hown')
              skip
              clear hown' hgrow hiff hat
              go_wp2
              go_roundw
              case rel => exact ⟨k + 1, L ++ [(k : Int)], g9, cap9, by omega, by go_num, by rw [List.length_append]; rfl, by rw [HYES.out, HLK.out], HO9.out, HB9.out⟩
              case measure => simp [RowKit.intOf]; omega
        · have hge : ¬ (k : Int) < (m.votes.length : Int) := by omega
          have HFF : Hid (L = swOf a t) := Lib.hid (by
            have : k = m.votes.length := by omega
            rw [HY.out, ← this]
            exact HLK.out.symm)
          have hb0 := (bW.trans (HBV.out.mono bW.size)).trans (HBW.out.mono (bW.trans (HBV.out.mono bW.size)).size)
          have HOO := Lib.hid (HO.out.own.less (Nat.le_trans (bW.trans (HBV.out.mono bW.size)).size HB4.out.size))
          go_wp2
          go_ret2
          exact ⟨_, rfl, by show OwnL intCells (swOf a t) _ _ _; rw [← HFF.out]; exact HOO.out, hb0⟩
end Go.Proofs.YtnandbammmcncaaGreat

namespace Go.Proofs.YtnandbammmcncaaGreat
open Go.RowKit Go.Lib


set_option maxRecDepth 100000 in
set_option maxHeartbeats 8000000 in
theorem swing2_any (a : Asm) (x : VAsm) (t : ByteArray) (w : World) (h : AsmR w w.heap.size x a) (hs : AsmSz a) : Calls Tryz.prog 29 #[asmV a x, .string t] w (ResP (intK (swOf a t)).own (okSw a t) w) := by
  obtain ⟨At, ct, Ab, cb, Ac, cc, Am, cm, rfl⟩ := h.slices
  unfold asmV
  obtain ⟨W, hW⟩ : ∃ W : World, W = w.alloc (.cells #[.int .i64 a.day, .int .i64 a.rule, .slice At a.trust.length ct, .slice Ab a.base.length cb, .slice Ac a.acts.length cc, .slice Am a.mots.length cm] 36) := ⟨_, rfl⟩
  have bW : Below w.heap.size w W := by rw [hW]; exact (Below.refl _ _).alloc (Nat.le_refl _) _
  have a1 : Row W w.heap.size [.int .i64 a.day, .int .i64 a.rule, .slice At a.trust.length ct, .slice Ab a.base.length cb, .slice Ac a.acts.length cc, .slice Am a.mots.length cm] := by rw [hW]; exact Row.new w _ _
  have z0 := fun y : Aft W => y.cell (a1.cell 0 _ rfl)
  have z1 := fun y : Aft W => y.cell (a1.cell 1 _ rfl)
  have z2 := fun y : Aft W => y.cell (a1.cell 2 _ rfl)
  have z3 := fun y : Aft W => y.cell (a1.cell 3 _ rfl)
  have z4 := fun y : Aft W => y.cell (a1.cell 4 _ rfl)
  have z5 := fun y : Aft W => y.cell (a1.cell 5 _ rfl)
  have hRW := h.on bW bW.size
  have HR := Lib.hid (fun y : Aft W => h.on (aft_done bW y) (aft_done bW y).size)
  have HGM : Hid (0 < a.mots.length → ∃ b off, Am = some ⟨b, off, none⟩ ∧ b < W.heap.size ∧ ∀ (k : Nat) (m : Mot), a.mots[k]? = some m → ∃ A1 c1 A2 c2, MotP W W.heap.size b (off + k * 8) m A1 c1 A2 c2) := Lib.hid (by
    obtain ⟨A, c, hv, _, _, h⟩ := mots_at hRW.m
    have hv : Value.slice Am a.mots.length cm = .slice A a.mots.length c := hv
    injection hv with e1 e2 e3
    rw [e1]
    exact h)
  have HW := Lib.hid hW
  have HROW := Lib.hid a1
  have sW : w.heap.size < W.heap.size := by rw [hW]; simp
  obtain ⟨x0, hx0⟩ : ∃ y : Aft W, y.val = W := ⟨⟨W, Below.refl _ _⟩, rfl⟩
  have HX0 := Lib.hid hx0
  have HKN := Lib.hid (fun y : Aft W => known2_any a At ct Ab cb Ac cc Am cm t y.val (HR.out y) hs)
  clear h hW a1 hx0 hRW hs
  cases hk : knownB a t with
  | false =>
    have hkb : okSw a t = false := by unfold okSw; rw [hk]; rfl
    have HN := Lib.hid (swOf_no hkb)
    rw [hkb]
    rw [hk] at HKN
    clear hk hkb
    go_enter Tryz.func29, Tryz.ntmps29
    go_wp2_with (fail)
    rw [← HW.out, ← HX0.out]
    refine (aft_b (HKN.out x0)).mono ?_
    rintro e _ ⟨rfl, x1, rfl⟩
    go_wp2
    go_ret2
    exact ⟨_, rfl, by show OwnL intCells (swOf a t) _ _ _; rw [HN.out]; exact OwnL.nil _ _ _, aft_done bW x1⟩
  | true =>
    rw [hk] at HKN
    obtain ⟨hv, k, hfk, hkl, hkm⟩ := known_at hk
    have hok := okAsm_ok hv
    have hprt := okAsm_parts hv
    have hvl := hok.votes hkm
    have hact := actOf_ok (hok.mots _ _ hkm)
    have hn12 := hok.n12
    rw [hfk] at HKN
    obtain ⟨b2, off, rfl, hb2, hcell⟩ := HGM.out (by omega)
    obtain ⟨A1, c1, A2, c2, hP⟩ := hcell k _ hkm
    have hk0 : (0 : Int) ≤ (k : Int) := by omega
    have hki : (k : Int) < (a.mots.length : Int) := by omega
    obtain ⟨m, hm⟩ : ∃ m, m = motOf a t := ⟨_, rfl⟩
    rw [← hm] at hact hvl hP
    have t0 := fun y : Aft W => y.cell hP.k0
    have t1 := fun y : Aft W => y.cell hP.k1
    have t2 := fun y : Aft W => y.cell hP.k2
    have t3 := fun y : Aft W => y.cell hP.k3
    have t4 := fun y : Aft W => y.cell hP.k4
    have t5 := fun y : Aft W => y.cell hP.k5
    have t6 := fun y : Aft W => y.cell hP.k6
    have t7 := fun y : Aft W => y.cell hP.k7
    have HMP := Lib.hid (fun y : Aft W => hP.on y.ok y.ok.size hb2)
    by_cases hr0 : m.result = 0
    case neg =>
      have hq : (m.result == 0) = false := by simp [hr0]
      have hkb : okSw a t = false := by unfold okSw; rw [hk, ← hm, hq]; rfl
      have HN := Lib.hid (swOf_no hkb)
      rw [hkb]
      have hq1 : (m.result != 0) = true := by rw [bne, hq]; rfl
      clear hk hv hfk hkm hcell hP hvl hact hprt hkb hm hr0 hok
      go_enter Tryz.func29, Tryz.ntmps29
      go_wp2_with (fail)
      rw [← HW.out, ← HX0.out]
      refine (aft_b (HKN.out x0)).mono ?_
      rintro e _ ⟨rfl, x1, rfl⟩
      go_wp2
      go_ret2
      exact ⟨_, rfl, by show OwnL intCells (swOf a t) _ _ _; rw [HN.out]; exact OwnL.nil _ _ _, aft_done bW x1⟩
    have hq : (m.result == 0) = true := by simp [hr0]
    have hkb : okSw a t = true := by unfold okSw; rw [hk, ← hm, hq]; rfl
    have HY := Lib.hid (show swOf a t = selK (isSw a m) m.votes.length by rw [swOf_yes hkb, hm]; rfl)
    rw [hkb]
    have hv12 : m.votes.length ≤ 12 := by omega
    have HVI := Lib.hid (fun (y : Aft W) (vs : List Int) (Av : Option Addr) (cv : Nat) (hi : Ints y.val y.val.heap.size (.slice Av vs.length cv) vs) (hl : vs.length = a.trust.length) => (⟨(HR.out y).t, (HR.out y).b, (HR.out y).c, (HMP.out y).edits, hi, hl, hok, hprt.1, hprt.2.1, hact⟩ : VerIn a m vs y.val At ct Ab cb Ac cc A1 c1 Av cv))
    have hq1 : (m.result != 0) = false := by rw [bne, hq]; rfl
    have HVL := Lib.hid hvl
    clear hk hv hfk hkm hcell hP hact hprt hkb hm hr0 hok hvl
    go_enter Tryz.func29, Tryz.ntmps29
    go_wp2_with (fail)
    rw [← HW.out, ← HX0.out]
    refine (aft_b (HKN.out x0)).mono ?_
    rintro e _ ⟨rfl, x1, rfl⟩
    obtain ⟨i0, hi, hz0, hz1, hz2⟩ := info_parts Tryz.infoI
    go_upto_region 5 with (fail)
    obtain ⟨w4, hw4⟩ : ∃ w4, w4 = x1.val := ⟨_, rfl⟩
    have HB4 : Hid (Below W.heap.size W w4) := Lib.hid (by rw [hw4]; exact x1.ok)
    rw [← hw4]
    clear hw4
    obtain ⟨V, hV⟩ : ∃ V, V = (w4.alloc (.cells #[] 2)).alloc (.cells #[.string m.title, .int .i64 m.author, .slice A1 m.pat.length c1, .int .i64 m.beg, .int .i64 m.fin, .int .i64 m.closes, .slice A2 m.votes.length c2, .int .i64 m.result] 78) := ⟨_, rfl⟩
    have hba : Below w4.heap.size w4 (w4.alloc (.cells #[] 2)) := (Below.refl _ _).alloc (Nat.le_refl _) _
    have hb : Below w4.heap.size w4 V := by rw [hV]; exact hba.alloc hba.size _
    have hsV : w4.heap.size + 1 < V.heap.size := by rw [hV]; simp
    have hr : Row V (w4.heap.size + 1) [.string m.title, .int .i64 m.author, .slice A1 m.pat.length c1, .int .i64 m.beg, .int .i64 m.fin, .int .i64 m.closes, .slice A2 m.votes.length c2, .int .i64 m.result] := by rw [hV]; simpa using Row.new (w4.alloc (.cells #[] 2)) [.string m.title, .int .i64 m.author, .slice A1 m.pat.length c1, .int .i64 m.beg, .int .i64 m.fin, .int .i64 m.closes, .slice A2 m.votes.length c2, .int .i64 m.result].toArray 78
    have HO0 : Hid (NumO V w4.heap.size w4.heap.size 0 []) := Lib.hid (by rw [hV]; exact (NumO.start w4).row.alloc _)
    have HBV := Lib.hid hb
    have HRV := Lib.hid hr
    have y6 := hr.cell 6 _ rfl
    rw [← hV]
    clear hV hb hr hba z0 z1 z2 z3 z4 z5 t0 t1 t2 t3 t4 t5 t6 t7
    obtain ⟨bm, hbm⟩ : ∃ bm, bm = w4.heap.size + 1 := ⟨_, rfl⟩
    rw [← hbm] at HRV y6 hsV ⊢
    have hbm4 : w4.heap.size < bm := by omega
    clear hbm
    obtain ⟨now, hnow⟩ : ∃ n, n = verM a m m.votes := ⟨_, rfl⟩
    have HNOW := Lib.hid hnow
    clear hnow
    go_wp2
    clear y6
    go_loopw [9, 10, 11, 38] (fun vo _ _ i wr => ∃ (k : Nat) (L : List Int) (g2 cap2 : Nat), k ≤ m.votes.length ∧ i = .int .i64 (k : Int) ∧ vo = .slice (some ⟨g2, 0, none⟩) L.length cap2 ∧ L = selK (isSw a m) k ∧ NumO wr w4.heap.size g2 cap2 L ∧ Below w4.heap.size w4 wr ∧ Row wr bm [.string m.title, .int .i64 m.author, .slice A1 m.pat.length c1, .int .i64 m.beg, .int .i64 m.fin, .int .i64 m.closes, .slice A2 m.votes.length c2, .int .i64 m.result] ∧ bm ≠ g2 ∧ bm < wr.heap.size) (fun _ _ _ i _ => m.votes.length - (RowKit.intOf i).toNat)
    case atStart => exact ⟨0, [], _, 0, Nat.zero_le _, rfl, rfl, rfl, HO0.out, HBV.out, HRV.out, by omega, hsV⟩
    case round =>
      obtain ⟨k, L, g2, cap2, hk, rfl, rfl, hLk, ho, hb, hrw, hng, hlw⟩ := hrel
      have HO := Lib.hid ho
      have HB := Lib.hid hb
      have HLK := Lib.hid hLk.symm
      have hll : L.length ≤ k := by rw [hLk]; exact selK_len _ _
      have HBW := Lib.hid (HB4.out.trans (hb.mono HB4.out.size))
      have HRW := Lib.hid hrw
      clear ho hLk hb hrw
      by_cases hlt : k < m.votes.length
      · obtain ⟨bv, ov, hA2, hbv, e0⟩ := ints_get ((HMP.out ⟨wr, HBW.out⟩).ints) (List.getElem?_eq_getElem hlt)
        subst hA2
        have hki : (k : Int) < (m.votes.length : Int) := by omega
        have hk0 : (0 : Int) ≤ (k : Int) := by omega
        have hgd : m.votes.getD k 0 = m.votes[k] := by simp [List.getD, hlt]
        have HSW : Hid (isSw a m k = (!(m.votes[k] == 0) && !(verM a m (m.votes.set k 0) == now))) := Lib.hid (by unfold isSw; rw [hgd, HNOW.out])
        have HSL : Hid ((m.votes.set k 0).length = m.votes.length) := Lib.hid List.length_set
        have HIN := Lib.hid (fun (W' : World) (h : Below wr.heap.size wr W') => (HMP.out ⟨W', HBW.out.trans (h.mono HBW.out.size)⟩).ints)
        have HWO := Lib.hid (fun (W' : World) (h : Below wr.heap.size wr W') => wo2_any m.votes k ⟨bv, ov, none⟩ c2 W' (HIN.out W' h) hlt (by omega))
        unfold WoPost at HWO
        have HVD := Lib.hid (fun (W' : World) (h : Below wr.heap.size wr W') (vs : List Int) (Av : Option Addr) (cv : Nat) (hi : Ints W' W'.heap.size (.slice Av vs.length cv) vs) (hl : vs.length = a.trust.length) =>
          verdict2_any a m vs At ct Ab cb Ac cc (some ⟨b2, off, none⟩) cm A1 c1 (some ⟨bv, ov, none⟩) c2 Av cv W' (HVI.out ⟨W', HBW.out.trans (h.mono HBW.out.size)⟩ vs Av cv hi hl))
        have HVN := Lib.hid (fun (W' : World) (h : Below wr.heap.size wr W') => HVD.out W' h m.votes (some ⟨bv, ov, none⟩) c2 (HIN.out W' h) HVL.out)
        rw [← HNOW.out] at HVN
        clear hgd
        obtain ⟨y, hy⟩ : ∃ y, y = m.votes[k] := ⟨_, rfl⟩
        rw [← hy] at HSW e0
        clear hy
        cases hy0 : (y == 0) with
        | true =>
          have HNOO := Lib.hid (selK_no (show isSw a m k = false by rw [HSW.out, hy0]; rfl))
          have hy1 : (y != 0) = false := by rw [bne, hy0]; rfl
          go_upto_region 8 with (fail)
          clear e0
          refine wp_aft fun u0 => ?_
          refine wp_region_at (by kernel_rfl) (by kernel_rfl) ?_
          repeat (go_big_quiet_step (fail))
          refine wpQuiet_nil ?_
          rintro _ ⟨u, rfl⟩
          have HO6 := Lib.hid (HO.out.below u.ok)
          have HB6 := Lib.hid (HB.out.trans (u.ok.mono HB.out.size))
          have HR6 := Lib.hid (HRW.out.below u.ok hlw)
          have hl6 : bm < u.val.heap.size := Nat.lt_of_lt_of_le hlw u.ok.size
          go_wp2
          go_roundw
          case rel => exact ⟨k + 1, L, g2, cap2, by omega, by go_num, rfl, by rw [HNOO.out, HLK.out], HO6.out, HB6.out, HR6.out, hng, hl6⟩
          case measure => simp [RowKit.intOf]; omega
        | false =>
          have hy1 : (y != 0) = true := by rw [bne, hy0]; rfl
          go_upto_region 8 with (fail)
          clear e0
          have HKEEP : Hid (∀ w', Below wr.heap.size wr w' → w'.cell? ⟨w.heap.size, 0, none⟩ = some (.int .i64 a.day) ∧ w'.cell? ⟨w.heap.size, 1, none⟩ = some (.int .i64 a.rule) ∧ w'.cell? ⟨w.heap.size, 2, none⟩ = some (.slice At a.trust.length ct) ∧ w'.cell? ⟨w.heap.size, 3, none⟩ = some (.slice Ab a.base.length cb) ∧ w'.cell? ⟨w.heap.size, 4, none⟩ = some (.slice Ac a.acts.length cc) ∧ w'.cell? ⟨w.heap.size, 5, none⟩ = some (.slice (some ⟨b2, off, none⟩) a.mots.length cm) ∧ w'.cell? ⟨bm, 0, none⟩ = some (.string m.title) ∧ w'.cell? ⟨bm, 1, none⟩ = some (.int .i64 m.author) ∧ w'.cell? ⟨bm, 2, none⟩ = some (.slice A1 m.pat.length c1) ∧ w'.cell? ⟨bm, 3, none⟩ = some (.int .i64 m.beg) ∧ w'.cell? ⟨bm, 4, none⟩ = some (.int .i64 m.fin) ∧ w'.cell? ⟨bm, 5, none⟩ = some (.int .i64 m.closes) ∧ w'.cell? ⟨bm, 6, none⟩ = some (.slice (some ⟨bv, ov, none⟩) m.votes.length c2) ∧ w'.cell? ⟨bm, 7, none⟩ = some (.int .i64 m.result)) := Lib.hid (fun X hX => by
            have h1 := HROW.out.below (HBW.out.trans (hX.mono HBW.out.size)) sW
            have h2 := HRW.out.below hX hlw
            exact ⟨h1.cell 0 _ rfl, h1.cell 1 _ rfl, h1.cell 2 _ rfl, h1.cell 3 _ rfl, h1.cell 4 _ rfl, h1.cell 5 _ rfl, h2.cell 0 _ rfl, h2.cell 1 _ rfl, h2.cell 2 _ rfl, h2.cell 3 _ rfl, h2.cell 4 _ rfl, h2.cell 5 _ rfl, h2.cell 6 _ rfl, h2.cell 7 _ rfl⟩)
          have hS0 : Below wr.heap.size wr wr := Below.refl _ _
          refine wp_region_held_drew (S := fun w' => w'.cell? ⟨w.heap.size, 0, none⟩ = some (.int .i64 a.day) ∧ w'.cell? ⟨w.heap.size, 1, none⟩ = some (.int .i64 a.rule) ∧ w'.cell? ⟨w.heap.size, 2, none⟩ = some (.slice At a.trust.length ct) ∧ w'.cell? ⟨w.heap.size, 3, none⟩ = some (.slice Ab a.base.length cb) ∧ w'.cell? ⟨w.heap.size, 4, none⟩ = some (.slice Ac a.acts.length cc) ∧ w'.cell? ⟨w.heap.size, 5, none⟩ = some (.slice (some ⟨b2, off, none⟩) a.mots.length cm) ∧ w'.cell? ⟨bm, 0, none⟩ = some (.string m.title) ∧ w'.cell? ⟨bm, 1, none⟩ = some (.int .i64 m.author) ∧ w'.cell? ⟨bm, 2, none⟩ = some (.slice A1 m.pat.length c1) ∧ w'.cell? ⟨bm, 3, none⟩ = some (.int .i64 m.beg) ∧ w'.cell? ⟨bm, 4, none⟩ = some (.int .i64 m.fin) ∧ w'.cell? ⟨bm, 5, none⟩ = some (.int .i64 m.closes) ∧ w'.cell? ⟨bm, 6, none⟩ = some (.slice (some ⟨bv, ov, none⟩) m.votes.length c2) ∧ w'.cell? ⟨bm, 7, none⟩ = some (.int .i64 m.result)) (by kernel_rfl) (HKEEP.out _ hS0.drew) (fun hHeld => ?_)
          refine wpAnyH_take (i := 0) (v := ?_) rfl (by kernel_rfl) (by kernel_rfl) (by kernel_rfl) (fun _ _ _ h => h) (Or.inl ⟨by rfl, ?_⟩) (by assumption) ?_
          rotate_left
          · intro w hSw
            try dsimp only at hSw
            simp only [List.getElem_toArray, List.getElem_cons_zero]
            first | (go_simp; done) | (go_simp; with_reducible rfl)
          try simp only [Act.put, List.getElem_toArray, List.getElem_cons_zero, List.setIfInBounds_toArray, List.set_cons_zero, List.set_cons_succ]
          refine wpAnyH_take (i := 1) (v := ?_) rfl (by kernel_rfl) (by kernel_rfl) (by kernel_rfl) (fun _ _ _ h => h) (Or.inl ⟨by rfl, ?_⟩) (by assumption) ?_
          rotate_left
          · intro w hSw
            try dsimp only at hSw
            simp only [List.getElem_toArray, List.getElem_cons_zero, List.getElem_cons_succ]
            first | (go_simp; done) | (go_simp; with_reducible rfl)
          try simp only [Act.put, List.getElem_toArray, List.getElem_cons_zero, List.getElem_cons_succ, List.setIfInBounds_toArray, List.set_cons_zero, List.set_cons_succ]
          refine wpAnyH_take (i := 2) (v := ?_) rfl (by kernel_rfl) (by kernel_rfl) (by kernel_rfl) (fun _ _ _ h => h) (Or.inl ⟨by rfl, ?_⟩) (by assumption) ?_
          rotate_left
          · intro w hSw
            try dsimp only at hSw
            simp only [List.getElem_toArray, List.getElem_cons_zero, List.getElem_cons_succ]
            first | (go_simp; done) | (go_simp; with_reducible rfl)
          try simp only [Act.put, List.getElem_toArray, List.getElem_cons_zero, List.getElem_cons_succ, List.setIfInBounds_toArray, List.set_cons_zero, List.set_cons_succ]
          refine wpAnyH_take (i := 3) (v := ?_) rfl (by kernel_rfl) (by kernel_rfl) (by kernel_rfl) (fun _ _ _ h => h) (Or.inl ⟨by rfl, ?_⟩) (by assumption) ?_
          rotate_left
          · intro w hSw
            try dsimp only at hSw
            simp only [List.getElem_toArray, List.getElem_cons_zero, List.getElem_cons_succ]
            first | (go_simp; done) | (go_simp; with_reducible rfl)
          try simp only [Act.put, List.getElem_toArray, List.getElem_cons_zero, List.getElem_cons_succ, List.setIfInBounds_toArray, List.set_cons_zero, List.set_cons_succ]
          refine wpAnyH_take (i := 4) (v := ?_) rfl (by kernel_rfl) (by kernel_rfl) (by kernel_rfl) (fun _ _ _ h => h) (Or.inl ⟨by rfl, ?_⟩) (by assumption) ?_
          rotate_left
          · intro w hSw
            try dsimp only at hSw
            simp only [List.getElem_toArray, List.getElem_cons_zero, List.getElem_cons_succ]
            first | (go_simp; done) | (go_simp; with_reducible rfl)
          try simp only [Act.put, List.getElem_toArray, List.getElem_cons_zero, List.getElem_cons_succ, List.setIfInBounds_toArray, List.set_cons_zero, List.set_cons_succ]
          refine wpAnyH_take (i := 5) (v := ?_) rfl (by kernel_rfl) (by kernel_rfl) (by kernel_rfl) (fun _ _ _ h => h) (Or.inl ⟨by rfl, ?_⟩) (by assumption) ?_
          rotate_left
          · intro w hSw
            try dsimp only at hSw
            simp only [List.getElem_toArray, List.getElem_cons_zero, List.getElem_cons_succ]
            first | (go_simp; done) | (go_simp; with_reducible rfl)
          try simp only [Act.put, List.getElem_toArray, List.getElem_cons_zero, List.getElem_cons_succ, List.setIfInBounds_toArray, List.set_cons_zero, List.set_cons_succ]
          refine wpAnyH_take (i := 6) (v := ?_) rfl (by kernel_rfl) (by kernel_rfl) (by kernel_rfl) (fun _ _ _ h => h) (Or.inl ⟨by rfl, ?_⟩) (by assumption) ?_
          rotate_left
          · intro w hSw
            try dsimp only at hSw
            simp only [List.getElem_toArray, List.getElem_cons_zero, List.getElem_cons_succ]
            first | (go_simp; done) | (go_simp; with_reducible rfl)
          try simp only [Act.put, List.getElem_toArray, List.getElem_cons_zero, List.getElem_cons_succ, List.setIfInBounds_toArray, List.set_cons_zero, List.set_cons_succ]
          refine wpAnyH_take (i := 7) (v := ?_) rfl (by kernel_rfl) (by kernel_rfl) (by kernel_rfl) (fun _ _ _ h => h) (Or.inl ⟨by rfl, ?_⟩) (by assumption) ?_
          rotate_left
          · intro w hSw
            try dsimp only at hSw
            simp only [List.getElem_toArray, List.getElem_cons_zero, List.getElem_cons_succ]
            first | (go_simp; done) | (go_simp; with_reducible rfl)
          try simp only [Act.put, List.getElem_toArray, List.getElem_cons_zero, List.getElem_cons_succ, List.setIfInBounds_toArray, List.set_cons_zero, List.set_cons_succ]
          refine wpAnyH_take (i := 10) (v := ?_) rfl (by kernel_rfl) (by kernel_rfl) (by kernel_rfl) (fun _ _ _ h => h) (Or.inl ⟨by rfl, ?_⟩) (by assumption) ?_
          rotate_left
          · intro w hSw
            try dsimp only at hSw
            simp only [List.getElem_toArray, List.getElem_cons_zero, List.getElem_cons_succ]
            first | (go_simp; done) | (go_simp; with_reducible rfl)
          try simp only [Act.put, List.getElem_toArray, List.getElem_cons_zero, List.getElem_cons_succ, List.setIfInBounds_toArray, List.set_cons_zero, List.set_cons_succ]
          refine wpAnyH_take (i := 11) (v := ?_) rfl (by kernel_rfl) (by kernel_rfl) (by kernel_rfl) (fun _ _ _ h => h) (Or.inl ⟨by rfl, ?_⟩) (by assumption) ?_
          rotate_left
          · intro w hSw
            try dsimp only at hSw
            simp only [List.getElem_toArray, List.getElem_cons_zero, List.getElem_cons_succ]
            first | (go_simp; done) | (go_simp; with_reducible rfl)
          try simp only [Act.put, List.getElem_toArray, List.getElem_cons_zero, List.getElem_cons_succ, List.setIfInBounds_toArray, List.set_cons_zero, List.set_cons_succ]
          refine wpAnyH_take (i := 12) (v := ?_) rfl (by kernel_rfl) (by kernel_rfl) (by kernel_rfl) (fun _ _ _ h => h) (Or.inl ⟨by rfl, ?_⟩) (by assumption) ?_
          rotate_left
          · intro w hSw
            try dsimp only at hSw
            simp only [List.getElem_toArray, List.getElem_cons_zero, List.getElem_cons_succ]
            first | (go_simp; done) | (go_simp; with_reducible rfl)
          try simp only [Act.put, List.getElem_toArray, List.getElem_cons_zero, List.getElem_cons_succ, List.setIfInBounds_toArray, List.set_cons_zero, List.set_cons_succ]
          refine wpAnyH_take (i := 13) (v := ?_) rfl (by kernel_rfl) (by kernel_rfl) (by kernel_rfl) (fun _ _ _ h => h) (Or.inl ⟨by rfl, ?_⟩) (by assumption) ?_
          rotate_left
          · intro w hSw
            try dsimp only at hSw
            simp only [List.getElem_toArray, List.getElem_cons_zero, List.getElem_cons_succ]
            first | (go_simp; done) | (go_simp; with_reducible rfl)
          try simp only [Act.put, List.getElem_toArray, List.getElem_cons_zero, List.getElem_cons_succ, List.setIfInBounds_toArray, List.set_cons_zero, List.set_cons_succ]
          have hSD := hS0.drew
          refine wpAnyH_ready (rs := [8]) (by kernel_rfl) (by simp) ?_
          refine AllReadyH.cons rfl (fun K hK => ?_) AllReadyH.nil
          try simp only [List.getElem_toArray, List.getElem_cons_zero, List.getElem_cons_succ]
          go_simp
          go_at_call 73
          refine Calls.mono (HWO.out _ hSD) ?_
          rintro e w5 ⟨g5, c5, rfl, hO5, hb5⟩
          have hS5 := hSD.trans (hb5.mono hSD.size)
          have hi5 : Ints w5 w5.heap.size (.slice (some ⟨g5, 0, none⟩) (m.votes.set k 0).length c5) (m.votes.set k 0) := by rw [HSL.out]; exact OwnL.slR (size := 1) (fun _ => rfl) hO5
          have HD := Lib.hid (HVD.out w5 hS5 (m.votes.set k 0) (some ⟨g5, 0, none⟩) c5 hi5 (by rw [HSL.out]; exact HVL.out))
          rw [HSL.out] at HD
          clear hi5 hO5 hb5
          refine hK.out _ _ (HKEEP.out _ hS5) (fun hHeld2 => ?_)
          clear hK K hHeld
          have hHeld := hHeld2
          clear hHeld2
          try simp only [Act.put, List.setIfInBounds_toArray, List.set_cons_zero, List.set_cons_succ]
          refine wpAnyH_ready (rs := [9]) (by kernel_rfl) (by simp) ?_
          refine AllReadyH.cons rfl (fun K hK => ?_) AllReadyH.nil
          try simp only [List.getElem_toArray, List.getElem_cons_zero, List.getElem_cons_succ]
          go_simp
          go_at_call 69
          refine Calls.mono HD.out ?_
          rintro e w6 ⟨rfl, hb6⟩
          have hS6 := hS5.trans (hb6.mono hS5.size)
          clear hb6
          refine hK.out _ _ (HKEEP.out _ hS6) (fun hHeld2 => ?_)
          clear hK K hHeld
          have hHeld := hHeld2
          clear hHeld2
          try simp only [Act.put, List.setIfInBounds_toArray, List.set_cons_zero, List.set_cons_succ]
          refine wpAnyH_ready (rs := [14]) (by kernel_rfl) (by simp) ?_
          refine AllReadyH.cons rfl (fun K hK => ?_) AllReadyH.nil
          try simp only [List.getElem_toArray, List.getElem_cons_zero, List.getElem_cons_succ]
          go_simp
          go_at_call 69
          refine Calls.mono (HVN.out w6 hS6) ?_
          rintro e w7 ⟨rfl, hb7⟩
          have hS7 := hS6.trans (hb7.mono hS6.size)
          have HO6 := Lib.hid (HO.out.below hS7)
          have HB6 := Lib.hid (HB.out.trans (hS7.mono HB.out.size))
          have HR6 := Lib.hid (HRW.out.below hS7 hlw)
          have hl6 : bm < w7.heap.size := Nat.lt_of_lt_of_le hlw hS7.size
          clear hb7
          refine hK.out _ _ (HKEEP.out _ hS7) (fun hHeld2 => ?_)
          clear hK K hHeld
          have hHeld := hHeld2
          clear hHeld2
          try simp only [Act.put, List.setIfInBounds_toArray, List.set_cons_zero, List.set_cons_succ]
          generalize verM a m (m.votes.set k 0) = u1 at *
          cases hu : (u1 == now) with
          | true =>
            have HNOO := Lib.hid (selK_no (show isSw a m k = false by rw [HSW.out, hu, hy0]; rfl))
            have hu1 : (u1 != now) = false := by rw [bne, hu]; rfl
            refine wpAnyH_take (i := 15) (v := ?_) rfl (by kernel_rfl) (by kernel_rfl) (by kernel_rfl) (fun _ _ _ h => h) (Or.inl ⟨by rfl, ?_⟩) (by assumption) ?_
            rotate_left
            · intro w hSw
              try dsimp only at hSw
              simp only [List.getElem_toArray, List.getElem_cons_zero, List.getElem_cons_succ]
              first | (go_simp; done) | (go_simp; with_reducible rfl)
            try simp only [Act.put, List.getElem_toArray, List.getElem_cons_zero, List.getElem_cons_succ, List.setIfInBounds_toArray, List.set_cons_zero, List.set_cons_succ]
            refine wpAnyH_take (i := 16) (v := ?_) rfl (by kernel_rfl) (by kernel_rfl) (by kernel_rfl) (fun _ _ _ h => h) (Or.inl ⟨by rfl, ?_⟩) (by assumption) ?_
            rotate_left
            · intro w hSw
              try dsimp only at hSw
              simp only [List.getElem_toArray, List.getElem_cons_zero, List.getElem_cons_succ]
              first | (go_simp; done) | (go_simp; with_reducible rfl)
            try simp only [Act.put, List.getElem_toArray, List.getElem_cons_zero, List.getElem_cons_succ, List.setIfInBounds_toArray, List.set_cons_zero, List.set_cons_succ]
            refine wpAnyH_done (by kernel_rfl) ?_ _
            clear hHeld
            go_wp2
            go_roundw
            case rel => exact ⟨k + 1, L, g2, cap2, by omega, by go_num, rfl, by rw [HNOO.out, HLK.out], HO6.out, HB6.out, HR6.out, hng, hl6⟩
            case measure => simp [RowKit.intOf]; omega
          | false =>
            have HYES := Lib.hid (selK_yes (show isSw a m k = true by rw [HSW.out, hu, hy0]; rfl))
            have hu1 : (u1 != now) = true := by rw [bne, hu]; rfl
            refine wpAnyH_take (i := 15) (v := ?_) rfl (by kernel_rfl) (by kernel_rfl) (by kernel_rfl) (fun _ _ _ h => h) (Or.inl ⟨by rfl, ?_⟩) (by assumption) ?_
            rotate_left
            · intro w hSw
              try dsimp only at hSw
              simp only [List.getElem_toArray, List.getElem_cons_zero, List.getElem_cons_succ]
              first | (go_simp; done) | (go_simp; with_reducible rfl)
            try simp only [Act.put, List.getElem_toArray, List.getElem_cons_zero, List.getElem_cons_succ, List.setIfInBounds_toArray, List.set_cons_zero, List.set_cons_succ]
            refine wpAnyH_take (i := 16) (v := ?_) rfl (by kernel_rfl) (by kernel_rfl) (by kernel_rfl) (fun _ _ _ h => h) (Or.inl ⟨by rfl, ?_⟩) (by assumption) ?_
            rotate_left
            · intro w hSw
              try dsimp only at hSw
              simp only [List.getElem_toArray, List.getElem_cons_zero, List.getElem_cons_succ]
              first | (go_simp; done) | (go_simp; with_reducible rfl)
            try simp only [Act.put, List.getElem_toArray, List.getElem_cons_zero, List.getElem_cons_succ, List.setIfInBounds_toArray, List.set_cons_zero, List.set_cons_succ]
            refine wpAnyH_done (by kernel_rfl) ?_ _
            clear hHeld
            go_wp2_with (at_builtin; refine wpList_append_own_at _ rfl _ _ 29 rfl w4.heap.size 2 i0 (.int .i64 0) 1 8 Tryz.underlying29 hi hz0 hz1 hz2 rfl (by decide) _ _ _ rfl (HO6.out.row.alloc _) ⟨w7.heap.size, 0, none⟩ 1 1 (intCells (k : Int)) rfl rfl (fun j u hj => new_at hj) (fun u hu => int_one' _ hu) ?c3 ?c4 (base_le HB6.out.size) ?_)
            case c3 => unfold maxLen; omega
            case c4 => omega
            intro v' w9 hown' hgrow hiff hat
            obtain ⟨g9, cap9, rfl, hdc9, hcm9⟩ := own_some hown' (by simpa using hiff)
            have HB9 := Lib.hid ((HB6.out.alloc HB6.out.size (.cells #[.int .i64 (k : Int)] 2)).grown hgrow (base_le HB6.out.size) (fun j hj => (HO6.out.row.lt j hj).1))
            have HO9 : Hid (NumO w9 w4.heap.size g9 cap9 (L ++ [(k : Int)])) := Lib.hid (by
              unfold NumO
              rw [flat_snoc, List.length_append]
              exact hown')
            have hba : Below w7.heap.size w7 (w7.alloc (.cells #[.int .i64 (k : Int)] 2)) := (Below.refl _ _).alloc (Nat.le_refl _) _
            have hla : bm < (w7.alloc (.cells #[.int .i64 (k : Int)] 2)).heap.size := Nat.lt_of_lt_of_le hl6 hba.size
            have HR9 := Lib.hid (Row.only (HR6.out.below hba hl6) hla hng hgrow)
            have hl9 : bm < w9.heap.size := Nat.lt_of_lt_of_le hla hgrow.size
            have hng9 : bm ≠ g9 := by
              rcases hat with e | e
              · injection e with e
                have e : g9 = g2 := e
                omega
              · injection e with e
                have e : g9 = (w7.alloc (.cells #[.int .i64 (k : Int)] 2)).heap.size := by simpa using e
                omega
            clear hba hla
            clear hown' hgrow hiff hat
            go_wp2
            go_roundw
            case rel => exact ⟨k + 1, L ++ [(k : Int)], g9, cap9, by omega, by go_num, by rw [List.length_append]; rfl, by rw [HYES.out, HLK.out], HO9.out, HB9.out, HR9.out, hng9, hl9⟩
            case measure => simp [RowKit.intOf]; omega
      · have hge : ¬ (k : Int) < (m.votes.length : Int) := by omega
        have HFF : Hid (L = swOf a t) := Lib.hid (by
          have : k = m.votes.length := by omega
          rw [HY.out, ← this]
          exact HLK.out.symm)
        have hb0 := bW.trans (HBW.out.mono bW.size)
        have HOO := Lib.hid (HO.out.own.less (Nat.le_trans bW.size HB4.out.size))
        go_wp2
        go_ret2
        exact ⟨_, rfl, by show OwnL intCells (swOf a t) _ _ _; rw [← HFF.out]; exact HOO.out, hb0⟩
end Go.Proofs.YtnandbammmcncaaGreat

namespace Go.Proofs.YtnandbammmcncaaGreat
open Go.RowKit Go.Lib

set_option maxRecDepth 100000 in
set_option maxHeartbeats 8000000 in
theorem lawYel_any (a : Asm) (x : VAsm) (t : ByteArray) (w : World) (h : AsmR w w.heap.size x a) (hs : AsmSz a) (ht9 : t.size ≤ maxLen) : Calls Tryz.prog 8 #[asmV a x, .string t] w (RetB (.bool true) w) := by
  unfold maxLen at ht9
  obtain ⟨At, ct, Ab, cb, Ac, cc, Am, cm, rfl⟩ := h.slices
  obtain ⟨W, hW⟩ : ∃ W : World, W = w.alloc (.cells #[.int .i64 a.day, .int .i64 a.rule, .slice At a.trust.length ct, .slice Ab a.base.length cb, .slice Ac a.acts.length cc, .slice Am a.mots.length cm] 27) := ⟨_, rfl⟩
  have bW : Below w.heap.size w W := by rw [hW]; exact (Below.refl _ _).alloc (Nat.le_refl _) _
  have a1 : Row W w.heap.size [.int .i64 a.day, .int .i64 a.rule, .slice At a.trust.length ct, .slice Ab a.base.length cb, .slice Ac a.acts.length cc, .slice Am a.mots.length cm] := by rw [hW]; exact Row.new w _ _
  have HSP := Lib.hid (fun W x (hx : AsmR W W.heap.size x a) => swing1_any a x t W hx hs)
  have HIM := Lib.hid (fun W x (hx : AsmR W W.heap.size x a) => swing2_any a x t W hx hs)
  have HEQ := Lib.hid (intK_eq (swOf a t))
  have HMK := Lib.hid (intK_mark (swOf a t) (swOf_len a t))
  have HHD := Lib.hid (intK_held (swOf a t) (swOf_len a t))
  have z0 := fun y : Aft W => y.cell (a1.cell 0 _ rfl)
  have z1 := fun y : Aft W => y.cell (a1.cell 1 _ rfl)
  have z2 := fun y : Aft W => y.cell (a1.cell 2 _ rfl)
  have z3 := fun y : Aft W => y.cell (a1.cell 3 _ rfl)
  have z4 := fun y : Aft W => y.cell (a1.cell 4 _ rfl)
  have z5 := fun y : Aft W => y.cell (a1.cell 5 _ rfl)
  have HROW := Lib.hid a1
  have HR := Lib.hid (fun y : Aft W => h.on (aft_done bW y) (aft_done bW y).size)
  have HS := Lib.hid hs
  have HW := Lib.hid hW
  clear h hs hW a1
  unfold ResP at HSP HIM
  generalize intK (swOf a t) = K at *
  obtain ⟨ok, hok⟩ : ∃ r, r = okSw a t := ⟨_, rfl⟩
  rw [← hok] at HSP HIM
  have hne : (ok != ok) = false := by cases ok <;> rfl
  clear hok
  unfold asmV
  by_cases ht : t.size ≤ 1048576
  case neg =>
    have h2 : (1048576 : Int) < (t.size : Int) := by omega
    go_enter Tryz.func8, Tryz.ntmps8
    go_wp2
    go_ret
    exact ⟨rfl, by rw [← HW.out]; exact bW⟩
  have h2 : ¬ (1048576 : Int) < (t.size : Int) := by omega
  go_enter Tryz.func8, Tryz.ntmps8
  go_wp2_with (fail)
  rw [← HW.out]
  obtain ⟨x0, hx0⟩ : ∃ y : Aft W, y.val = W := ⟨⟨W, Below.refl _ _⟩, rfl⟩
  rw [← hx0]
  clear hx0
  refine (szAsm_any a _ 1048576 _ (HR.out x0) HS.out (by omega) (by omega)).mono ?_
  rintro e1 w1 ⟨r, rfl, hr, hb1⟩
  obtain ⟨x1, rfl⟩ : ∃ y : Aft W, w1 = y.val := ⟨⟨w1, x0.ok.trans (hb1.mono x0.ok.size)⟩, rfl⟩
  clear hb1
  rcases hr with hr | ⟨hf, hr0, hr1⟩
  · go_wp2
    go_ret
    exact ⟨rfl, aft_done bW x1⟩
  have hrn : ¬ r < 0 := by omega
  have HF := Lib.hid hf
  clear hf
  go_wp2_with (fail)
  refine (toAsm_any a _ _ (HR.out x1) HF.out).mono ?_
  rintro e2 w2 ⟨y2, T2, C2, M2, rfl, hO2, hb2⟩
  obtain ⟨x2, rfl⟩ : ∃ y : Aft W, w2 = y.val := ⟨⟨w2, x1.ok.trans (hb2.mono x1.ok.size)⟩, rfl⟩
  have HO2 := Lib.hid hO2.r
  obtain ⟨B1, d1, B2, d2, B3, d3, B4, d4, rfl⟩ := hO2.r.slices
  clear hb2 hO2
  unfold asmV
  go_wp2_with (fail)
  refine (HSP.out _ _ HO2.out).mono ?_
  rintro e3 w3 ⟨vw, rfl, hvw, hb3⟩
  obtain ⟨x3, rfl⟩ : ∃ y : Aft W, w3 = y.val := ⟨⟨w3, x2.ok.trans (hb3.mono x2.ok.size)⟩, rfl⟩
  obtain ⟨AW, nW, cW, rfl⟩ := K.slice hvw
  have HVW := Lib.hid hvw
  clear hb3 hvw
  go_wp2_with (fail)
  refine (toAsm_any a _ _ (HR.out x3) HF.out).mono ?_
  rintro e4 w4 ⟨y4, T4, C4, M4, rfl, hO4, hb4⟩
  obtain ⟨x4, rfl⟩ : ∃ y : Aft W, w4 = y.val := ⟨⟨w4, x3.ok.trans (hb4.mono x3.ok.size)⟩, rfl⟩
  obtain ⟨D1, f1, D2, f2, D3, f3, D4, f4, rfl⟩ := hO4.r.slices
  have HB34 := Lib.hid hb4
  have HO4 := Lib.hid hO4
  clear hb4 hO4
  unfold asmV
  have hsz4 : w.heap.size < x4.val.heap.size := World.block_lt_of_cell? x4.val ⟨w.heap.size, 0, none⟩ (z0 x4)
  go_wp2_with (fail)
  obtain ⟨V, hV⟩ : ∃ V : World, V = x4.val.alloc (.cells #[.int .i64 a.day, .int .i64 a.rule, .slice D1 a.trust.length f1, .slice D2 a.base.length f2, .slice D3 a.acts.length f3, .slice D4 a.mots.length f4] 36) := ⟨_, rfl⟩
  have bV : Below x4.val.heap.size x4.val V := by rw [hV]; exact (Below.refl _ _).alloc (Nat.le_refl _) _
  have sV : x4.val.heap.size < V.heap.size := by rw [hV]; simp
  have r4 : Row V x4.val.heap.size [.int .i64 a.day, .int .i64 a.rule, .slice D1 a.trust.length f1, .slice D2 a.base.length f2, .slice D3 a.acts.length f3, .slice D4 a.mots.length f4] := by rw [hV]; exact Row.new x4.val _ _
  have b3V : Below x3.val.heap.size x3.val V := HB34.out.trans (bV.mono HB34.out.size)
  have bWV : Below W.heap.size W V := x3.ok.trans (b3V.mono x3.ok.size)
  have HROWV := Lib.hid (HROW.out.below bWV (by have : w.heap.size < W.heap.size := World.block_lt_of_cell? W ⟨w.heap.size, 0, none⟩ (HROW.out.cell 0 _ rfl); exact this))
  have HR4 := Lib.hid r4
  have HO := Lib.hid (HO4.out.below bV)
  have HB3V := Lib.hid b3V
  have HFTL : Hid (∀ b, asmFoot ⟨.slice D1 a.trust.length f1, .slice D2 a.base.length f2, .slice D3 a.acts.length f3, .slice D4 a.mots.length f4⟩ a T4 C4 M4 b → x3.val.heap.size ≤ b ∧ b < x4.val.heap.size) := Lib.hid (fun b hb => HO4.out.lt hb)
  have HBW := Lib.hid bW
  have hw3 : w.heap.size < x3.val.heap.size := World.block_lt_of_cell? x3.val ⟨w.heap.size, 0, none⟩ (z0 x3)
  have h34 : x3.val.heap.size ≤ x4.val.heap.size := HB34.out.size
  have HRA := Lib.hid (fun X (hX : Below x3.val.heap.size x3.val X) => HR.out ⟨X, x3.ok.trans (hX.mono x3.ok.size)⟩)
  have HFINB := Lib.hid (fun X (hX : Below x3.val.heap.size x3.val X) => bW.trans ((x3.ok.trans (hX.mono x3.ok.size)).mono bW.size))
  rw [← hV]
  clear hV r4 z0 z1 z2 z3 z4 z5 bWV b3V bV HO4 HB34
  refine (HIM.out V _ HO.out.r).mono ?_
  rintro e5 U ⟨vg, rfl, hvg, bU⟩
  obtain ⟨AG, nG, cG, rfl⟩ := K.slice hvg
  have HVG := Lib.hid hvg
  have HBU := Lib.hid bU
  have HB3U := Lib.hid (HB3V.out.trans (bU.mono HB3V.out.size))
  have HVWU := Lib.hid (K.below HVW.out HB3U.out)
  clear hvg bU
  go_wp2_with (fail)
  refine (HEQ.out U _ _ _ _ HVG.out HVWU.out).mono ?_
  rintro e6 U2 ⟨rfl, bU2⟩
  have HBU2 := Lib.hid (HBU.out.trans (bU2.mono HBU.out.size))
  have HVG2 := Lib.hid (K.below HVG.out bU2)
  clear bU2
  have HKEEP : Hid (∀ w', Below U2.heap.size U2 w' → (fun w' => w'.cell? ⟨x4.val.heap.size, 0, none⟩ = some (.int .i64 a.day) ∧ w'.cell? ⟨x4.val.heap.size, 1, none⟩ = some (.int .i64 a.rule) ∧ w'.cell? ⟨x4.val.heap.size, 2, none⟩ = some (.slice D1 a.trust.length f1) ∧ w'.cell? ⟨x4.val.heap.size, 3, none⟩ = some (.slice D2 a.base.length f2) ∧ w'.cell? ⟨x4.val.heap.size, 4, none⟩ = some (.slice D3 a.acts.length f3) ∧ w'.cell? ⟨x4.val.heap.size, 5, none⟩ = some (.slice D4 a.mots.length f4) ∧ w'.cell? ⟨w.heap.size, 0, none⟩ = some (.int .i64 a.day) ∧ w'.cell? ⟨w.heap.size, 1, none⟩ = some (.int .i64 a.rule) ∧ w'.cell? ⟨w.heap.size, 2, none⟩ = some (.slice At a.trust.length ct) ∧ w'.cell? ⟨w.heap.size, 3, none⟩ = some (.slice Ab a.base.length cb) ∧ w'.cell? ⟨w.heap.size, 4, none⟩ = some (.slice Ac a.acts.length cc) ∧ w'.cell? ⟨w.heap.size, 5, none⟩ = some (.slice Am a.mots.length cm) ∧ Below U2.heap.size U2 w') w') := Lib.hid (fun X hX => by
    have h1 := HR4.out.below (HBU2.out.trans (hX.mono HBU2.out.size)) sV
    have h2 := HROWV.out.below (HBU2.out.trans (hX.mono HBU2.out.size)) (by omega)
    exact ⟨h1.cell 0 _ rfl, h1.cell 1 _ rfl, h1.cell 2 _ rfl, h1.cell 3 _ rfl, h1.cell 4 _ rfl, h1.cell 5 _ rfl, h2.cell 0 _ rfl, h2.cell 1 _ rfl, h2.cell 2 _ rfl, h2.cell 3 _ rfl, h2.cell 4 _ rfl, h2.cell 5 _ rfl, hX⟩)
  have HBEL : Hid (∀ w', (fun w' => w'.cell? ⟨x4.val.heap.size, 0, none⟩ = some (.int .i64 a.day) ∧ w'.cell? ⟨x4.val.heap.size, 1, none⟩ = some (.int .i64 a.rule) ∧ w'.cell? ⟨x4.val.heap.size, 2, none⟩ = some (.slice D1 a.trust.length f1) ∧ w'.cell? ⟨x4.val.heap.size, 3, none⟩ = some (.slice D2 a.base.length f2) ∧ w'.cell? ⟨x4.val.heap.size, 4, none⟩ = some (.slice D3 a.acts.length f3) ∧ w'.cell? ⟨x4.val.heap.size, 5, none⟩ = some (.slice D4 a.mots.length f4) ∧ w'.cell? ⟨w.heap.size, 0, none⟩ = some (.int .i64 a.day) ∧ w'.cell? ⟨w.heap.size, 1, none⟩ = some (.int .i64 a.rule) ∧ w'.cell? ⟨w.heap.size, 2, none⟩ = some (.slice At a.trust.length ct) ∧ w'.cell? ⟨w.heap.size, 3, none⟩ = some (.slice Ab a.base.length cb) ∧ w'.cell? ⟨w.heap.size, 4, none⟩ = some (.slice Ac a.acts.length cc) ∧ w'.cell? ⟨w.heap.size, 5, none⟩ = some (.slice Am a.mots.length cm) ∧ Below U2.heap.size U2 w') w' → Below U2.heap.size U2 w') := Lib.hid (fun X hX => hX.2.2.2.2.2.2.2.2.2.2.2.2)
  have HB3U2 := Lib.hid (HB3V.out.trans (HBU2.out.mono HB3V.out.size))
  have HR2 := Lib.hid (fun X (hX : Below U2.heap.size U2 X) => HRA.out X (HB3U2.out.trans (hX.mono HB3U2.out.size)))
  have HX2 := Lib.hid (fun X (hX : Below U2.heap.size U2 X) => (HO.out.below (HBU2.out.trans (hX.mono HBU2.out.size))).r)
  have bU2 : Below U2.heap.size U2 U2 := Below.refl _ _
  go_wp2_with (fail)
  go_region_held3 (fun w' => w'.cell? ⟨x4.val.heap.size, 0, none⟩ = some (.int .i64 a.day) ∧ w'.cell? ⟨x4.val.heap.size, 1, none⟩ = some (.int .i64 a.rule) ∧ w'.cell? ⟨x4.val.heap.size, 2, none⟩ = some (.slice D1 a.trust.length f1) ∧ w'.cell? ⟨x4.val.heap.size, 3, none⟩ = some (.slice D2 a.base.length f2) ∧ w'.cell? ⟨x4.val.heap.size, 4, none⟩ = some (.slice D3 a.acts.length f3) ∧ w'.cell? ⟨x4.val.heap.size, 5, none⟩ = some (.slice D4 a.mots.length f4) ∧ w'.cell? ⟨w.heap.size, 0, none⟩ = some (.int .i64 a.day) ∧ w'.cell? ⟨w.heap.size, 1, none⟩ = some (.int .i64 a.rule) ∧ w'.cell? ⟨w.heap.size, 2, none⟩ = some (.slice At a.trust.length ct) ∧ w'.cell? ⟨w.heap.size, 3, none⟩ = some (.slice Ab a.base.length cb) ∧ w'.cell? ⟨w.heap.size, 4, none⟩ = some (.slice Ac a.acts.length cc) ∧ w'.cell? ⟨w.heap.size, 5, none⟩ = some (.slice Am a.mots.length cm) ∧ Below U2.heap.size U2 w')
    (first | exact HKEEP.out _ bU2 | exact HKEEP.out _ bU2.drew | exact HKEEP.out _ ((HBEL.out _ (by assumption)).trans (Below.mono (by assumption) (HBEL.out _ (by assumption)).size)))
    (first | (go_at_call 13; refine (toAsm_any a _ _ (HR2.out _ (HBEL.out _ (by assumption))) HF.out).mono ?_; rintro e6 w6 ⟨y6, T6, C6, M6, rfl, hO6, hb6⟩; have hR6 := hO6.r; obtain ⟨E1, l1, E2, l2, E3, l3, E4, l4, rfl⟩ := hO6.r.slices; clear hO6; unfold asmV) | (go_at_call 16; refine (eqAsm_any a _ _ _ (HX2.out _ (HBEL.out _ (by assumption))) hR6).mono ?_; rintro e7 w7 ⟨rfl, hb7⟩))
  all_goals
    have hB7 : Below U2.heap.size U2 w7 := HBEL.out _ (by assumption)
    have hS7 := HKEEP.out _ hB7
    obtain ⟨c0, c1, c2, c3, c4, c5, -⟩ := hS7
    have HBV7 := Lib.hid (HBU2.out.trans (hB7.mono HBU2.out.size))
    have HO7 := Lib.hid (HO.out.below HBV7.out)
    have HVG7 := Lib.hid (K.below HVG2.out hB7)
    have HB37 := Lib.hid (HB3V.out.trans (HBV7.out.mono HB3V.out.size))
    have h37 := HB37.out.size
    have hTF := HF.out.trees HO7.out.tm HO7.out.cm HO7.out.mm
    clear hB7 hb7 hb6 hR6
    go_wp2_with (fail)
    refine (markAsm_any a ⟨.slice D1 a.trust.length f1, .slice D2 a.base.length f2, .slice D3 a.acts.length f3, .slice D4 a.mots.length f4⟩ T4 C4 M4 _ 1 w7 HO7.out hTF (by omega) (by omega)).mono ?_
    rintro e8 X ⟨rfl, -, tX⟩
    have hkn : ¬ ((eAsm 1 a T4 C4 M4 : Nat) : Int) < 0 := by omega
    have HVGX := Lib.hid (K.touch HVG7.out tX (fun c hf => by have q2 := HFTL.out c hf; omega))
    have HB3X := Lib.hid (HB37.out.trans (tX.below h37 (fun b hb => (HFTL.out b hb).1)))
    have hXs := tX.size
    generalize eAsm 1 a T4 C4 M4 = kk at *
    clear tX c0 c1 c2 c3 c4 c5 hTF
    go_wp2_with (fail)
    refine (HEQ.out X _ _ _ _ HVGX.out (K.below HVW.out HB3X.out)).mono ?_
    rintro e9 X1 ⟨rfl, bX1⟩
    have HVG1 := Lib.hid (K.below HVGX.out bX1)
    have HB31 := Lib.hid (HB3X.out.trans (bX1.mono HB3X.out.size))
    have hX1s := bX1.size
    clear bX1
    go_wp2_with (fail)
    refine (HMK.out X1 _ _ HVG1.out).mono ?_
    rintro e10 X2 ⟨rfl, hmk, tM⟩
    have hnn : ¬ ((K.n : Nat) : Int) < 0 := by omega
    have hnz : (((K.n : Nat) : Int) != ((K.n : Nat) : Int)) = false := by simp
    have HB32 := Lib.hid (HB31.out.trans (tM.below HB31.out.size (fun b hb => by have q1 : V.heap.size ≤ b := hb; omega)))
    have HMK2 := Lib.hid hmk
    clear tM hmk
    go_wp2_with (fail)
    refine (HHD.out X2 _ _ HMK2.out).mono ?_
    rintro e11 X3 ⟨rfl, bX3⟩
    have HMK3 := Lib.hid (K.mtouch HMK2.out bX3)
    have HB33 := Lib.hid (HB32.out.trans (bX3.mono HB32.out.size))
    have r3 := HROW.out.below (x3.ok.trans (HB33.out.mono x3.ok.size)) (by have : w.heap.size < W.heap.size := World.block_lt_of_cell? W ⟨w.heap.size, 0, none⟩ (HROW.out.cell 0 _ rfl); exact this)
    have p0 := r3.cell 0 _ rfl
    have p1 := r3.cell 1 _ rfl
    have p2 := r3.cell 2 _ rfl
    have p3 := r3.cell 3 _ rfl
    have p4 := r3.cell 4 _ rfl
    have p5 := r3.cell 5 _ rfl
    clear bX3 r3
    go_wp2_with (fail)
    refine (toAsm_any a _ X3 (HRA.out X3 HB33.out) HF.out).mono ?_
    rintro e12 X4 ⟨y9, T9, C9, M9, rfl, hO9, bX4⟩
    obtain ⟨G1, j1, G2, j2, G3, j3, G4, j4, rfl⟩ := hO9.r.slices
    have HO9 := Lib.hid hO9.r
    have HMK4 := Lib.hid (K.mtouch HMK3.out bX4)
    have HB34' := Lib.hid (HB33.out.trans (bX4.mono HB33.out.size))
    clear bX4 hO9 p0 p1 p2 p3 p4 p5
    unfold asmV
    go_wp2_with (fail)
    refine (HIM.out X4 _ HO9.out).mono ?_
    rintro e13 X5 ⟨vh, rfl, hvh, bX5⟩
    obtain ⟨AH, nH, cH, rfl⟩ := K.slice hvh
    have HVH := Lib.hid hvh
    have HMK5 := Lib.hid (K.mtouch HMK4.out bX5)
    have HB35 := Lib.hid (HB34'.out.trans (bX5.mono HB34'.out.size))
    clear bX5 hvh
    go_wp2_with (fail)
    refine (HEQ.out X5 _ _ _ _ HVH.out (K.below HVW.out HB35.out)).mono ?_
    rintro e14 X6 ⟨rfl, bX6⟩
    have HMK6 := Lib.hid (K.mtouch HMK5.out bX6)
    have HB36 := Lib.hid (HB35.out.trans (bX6.mono HB35.out.size))
    clear bX6
    go_wp2_with (fail)
    refine (HHD.out X6 _ _ HMK6.out).mono ?_
    rintro e15 X7 ⟨rfl, bX7⟩
    have HFIN := Lib.hid (HFINB.out X7 (HB36.out.trans (bX7.mono HB36.out.size)))
    clear bX7
    go_wp2
    go_ret
    exact ⟨rfl, HFIN.out⟩
end Go.Proofs.YtnandbammmcncaaGreat

/- Who is counted for a vote: plain, and walked: the reference's. Who is counted for a vote, walked: the program's. FnExactCountedFor, walked. -/
import Derived.Test.YtnandbammmcncaaGreatYG
import Derived.Test.YtnandbammmcncaaGreatYC
namespace Go.Proofs.YtnandbammmcncaaGreat
open Go.RowKit Go.Lib

def isFor (vs E : List Int) (v : Int) (k : Nat) : Bool := decide (0 ≤ E.getD k 0) && (vs.getD (E.getD k 0).toNat 0 == v)
def forK (vs E : List Int) (v : Int) : Nat → List Int
  | 0 => []
  | k + 1 => forK vs E v k ++ (if isFor vs E v k = true then [(k : Int)] else [])
theorem forK_len (vs E : List Int) (v : Int) : ∀ k, (forK vs E v k).length ≤ k
  | 0 => Nat.le_refl _
  | k + 1 => by
    have := forK_len vs E v k
    unfold forK
    rw [List.length_append]
    split <;> simp <;> omega
theorem forK_yes {vs E : List Int} {v : Int} {k : Nat} (h : isFor vs E v k = true) : forK vs E v (k + 1) = forK vs E v k ++ [(k : Int)] := by rw [forK, if_pos h]
theorem forK_no {vs E : List Int} {v : Int} {k : Nat} (h : isFor vs E v k = false) : forK vs E v (k + 1) = forK vs E v k := by rw [forK, if_neg (by rw [h]; simp), List.append_nil]
noncomputable def okV (a : Asm) (t : ByteArray) (v : Int) : Bool := knownB a t && inB v 1 3
noncomputable def forM (a : Asm) (vs : List Int) (v : Int) : List Int := forK vs (endsL (voices vs a.trust) a.rule) v a.trust.length
noncomputable def forOf (a : Asm) (t : ByteArray) (v : Int) : List Int := if okV a t v = true then forM a (motOf a t).votes v else []
theorem forOf_no {a : Asm} {t : ByteArray} {v : Int} (h : okV a t v = false) : forOf a t v = [] := by unfold forOf; rw [if_neg (by rw [h]; simp)]
theorem forOf_yes {a : Asm} {t : ByteArray} {v : Int} (h : okV a t v = true) : forOf a t v = forM a (motOf a t).votes v := by unfold forOf; rw [if_pos h]
theorem forOf_len (a : Asm) (t : ByteArray) (v : Int) : (forOf a t v).length ≤ 1048576 := by
  cases h : okV a t v with
  | false => rw [forOf_no h]; simp
  | true =>
    rw [forOf_yes h]
    unfold okV at h
    rw [Bool.and_eq_true] at h
    have := (okAsm_ok (known_at h.1).1).n12
    have := forK_len (motOf a t).votes (endsL (voices (motOf a t).votes a.trust) a.rule) v a.trust.length
    unfold forM
    omega

set_option maxRecDepth 100000 in
set_option maxHeartbeats 8000000 in
theorem forOf1_any (a : Asm) (x : VAsm) (t : ByteArray) (v : Int) (w : World) (h : AsmR w w.heap.size x a) (hs : AsmSz a) : Calls Tryz.prog 12 #[asmV a x, .string t, .int .i64 v] w (ResP (intK (forOf a t v)).own (okV a t v) w) := by
  obtain ⟨At, ct, Ab, cb, Ac, cc, Am, cm, rfl⟩ := h.slices
  unfold asmV
  obtain ⟨W, hW⟩ : ∃ W : World, W = w.alloc (.cells #[.int .i64 a.day, .int .i64 a.rule, .slice At a.trust.length ct, .slice Ab a.base.length cb, .slice Ac a.acts.length cc, .slice Am a.mots.length cm] 36) := ⟨_, rfl⟩
  have bW : Below w.heap.size w W := by rw [hW]; exact (Below.refl _ _).alloc (Nat.le_refl _) _
  have a1 : Row W w.heap.size [.int .i64 a.day, .int .i64 a.rule, .slice At a.trust.length ct, .slice Ab a.base.length cb, .slice Ac a.acts.length cc, .slice Am a.mots.length cm] := by rw [hW]; exact Row.new w _ _
  have z0 := fun y : Aft W => y.cell (a1.cell 0 _ rfl)
  have z1 := fun y : Aft W => y.cell (a1.cell 1 _ rfl)
  have z2 := fun y : Aft W => y.cell (a1.cell 2 _ rfl)
  have z3 := fun y : Aft W => y.cell (a1.cell 3 _ rfl)
  have z4 := fun y : Aft W => y.cell (a1.cell 4 _ rfl)
  have z5 := fun y : Aft W => y.cell (a1.cell 5 _ rfl)
  have hRW := h.on bW bW.size
  have HR := Lib.hid (fun y : Aft W => h.on (aft_done bW y) (aft_done bW y).size)
  have HGM : Hid (0 < a.mots.length → ∃ b off, Am = some ⟨b, off, none⟩ ∧ b < W.heap.size ∧ ∀ (k : Nat) (m : Mot), a.mots[k]? = some m → ∃ A1 c1 A2 c2, MotP W W.heap.size b (off + k * 8) m A1 c1 A2 c2) := Lib.hid (by
    obtain ⟨A, c, hv, _, _, h⟩ := mots_at hRW.m
    have hv : Value.slice Am a.mots.length cm = .slice A a.mots.length c := hv
    injection hv with e1 e2 e3
    rw [e1]
    exact h)
  have HW := Lib.hid hW
  have HROW := Lib.hid a1
  have sW : w.heap.size < W.heap.size := by rw [hW]; simp
  obtain ⟨x0, hx0⟩ : ∃ y : Aft W, y.val = W := ⟨⟨W, Below.refl _ _⟩, rfl⟩
  have HX0 := Lib.hid hx0
  have HOK := Lib.hid (fun y : Aft W => ok1_any a ⟨.slice At a.trust.length ct, .slice Ab a.base.length cb, .slice Ac a.acts.length cc, .slice Am a.mots.length cm⟩ w.heap.size 0 y.val (z0 y) (z1 y) (z2 y) (z3 y) (z4 y) (z5 y) (HR.out y) hs)
  have HFI := Lib.hid (fun y : Aft W => find1_anyT a ⟨.slice At a.trust.length ct, .slice Ab a.base.length cb, .slice Ac a.acts.length cc, .slice Am a.mots.length cm⟩ t w.heap.size 0 y.val (by rw [Nat.zero_add]; exact z5 y) (HR.out y).m)
  clear h hW a1 hx0 hRW hs
  cases hv : okAsm a with
  | false =>
    have hkb : okV a t v = false := by unfold okV; rw [known_bad hv]; rfl
    have HN := Lib.hid (forOf_no hkb)
    rw [hv] at HOK
    rw [hkb]
    clear hv hkb
    go_enter Tryz.func12, Tryz.ntmps12
    go_wp2_with (fail)
    rw [← HW.out, ← HX0.out]
    refine (aft_b (HOK.out x0)).mono ?_
    rintro e _ ⟨rfl, x1, rfl⟩
    go_wp2
    go_ret2
    exact ⟨_, rfl, by show OwnL intCells (forOf a t v) _ _ _; rw [HN.out]; exact OwnL.nil _ _ _, aft_done bW x1⟩
  | true =>
    rw [hv] at HOK
    have hok := okAsm_ok hv
    have hn12 := hok.n12
    cases hi : inB v 1 3 with
    | false =>
      have hkb : okV a t v = false := by unfold okV; rw [hi, Bool.and_false]
      have HN := Lib.hid (forOf_no hkb)
      rw [hkb]
      have HIN := Lib.hid hi
      clear hv hkb hi hok
      go_enter Tryz.func12, Tryz.ntmps12
      go_wp2_with (fail)
      rw [← HW.out, ← HX0.out]
      refine (aft_b (HOK.out x0)).mono ?_
      rintro e _ ⟨rfl, x1, rfl⟩
      go_wp2_with (fail)
      refine (aft_q (in1_val _ _ _ _ _ HIN.out)).mono ?_
      rintro e _ ⟨rfl, x2, rfl⟩
      go_wp2
      go_ret2
      exact ⟨_, rfl, by show OwnL intCells (forOf a t v) _ _ _; rw [HN.out]; exact OwnL.nil _ _ _, aft_done bW x2⟩
    | true =>
      have HIN := Lib.hid hi
      cases hk : knownB a t with
      | false =>
        have hkb : okV a t v = false := by unfold okV; rw [hk]; rfl
        have hn := known_not hk hv
        have HN := Lib.hid (forOf_no hkb)
        rw [hkb]
        generalize findT a.mots t = n at *
        clear hk hv hkb hi hok
        go_enter Tryz.func12, Tryz.ntmps12
        go_wp2_with (fail)
        rw [← HW.out, ← HX0.out]
        refine (aft_b (HOK.out x0)).mono ?_
        rintro e _ ⟨rfl, x1, rfl⟩
        go_wp2_with (fail)
        refine (aft_q (in1_val _ _ _ _ _ HIN.out)).mono ?_
        rintro e _ ⟨rfl, x2, rfl⟩
        go_wp2_with (fail)
        refine (aft_b (HFI.out x2)).mono ?_
        rintro e _ ⟨rfl, x3, rfl⟩
        go_wp2
        go_ret2
        exact ⟨_, rfl, by show OwnL intCells (forOf a t v) _ _ _; rw [HN.out]; exact OwnL.nil _ _ _, aft_done bW x3⟩
      | true =>
        have hkb : okV a t v = true := by unfold okV; rw [hk, hi]; rfl
        obtain ⟨_, k, hfk, hkl, hkm⟩ := known_at hk
        have HY := Lib.hid (forOf_yes hkb)
        rw [hkb]
        have hvl := hok.votes hkm
        obtain ⟨b2, off, rfl, hb2, hcell⟩ := HGM.out (by omega)
        obtain ⟨A1, c1, A2, c2, hP⟩ := hcell k _ hkm
        have t6 := fun y : Aft W => y.cell hP.k6
        have HI := Lib.hid (fun y : Aft W => (hP.on y.ok y.ok.size hb2).ints)
        rw [hfk] at HFI
        have hnk : ¬ (k : Int) < 0 := by omega
        have hk0 : (0 : Int) ≤ (k : Int) := by omega
        have hki : (k : Int) < (a.mots.length : Int) := by omega
        obtain ⟨i0, hi, hz0, hz1, hz2⟩ := info_parts Tryz.infoI
        generalize motOf a t = q at *
        have hvk := hok.vois hvl
        have HVO := Lib.hid (fun (W' : World) (h : BehC W W') => voices1_any a At ct q.votes w.heap.size 0 A2 c2 W' (by rw [Nat.zero_add]; exact z2 ⟨W', h⟩) (HR.out ⟨W', h⟩).t (HI.out ⟨W', h⟩) hvl (by omega) (fun l hl => Nat.le_trans (hok.t4 l hl) (by omega)))
        have HSE := Lib.hid (fun (W' : World) (vv : Value) (hv : Vois W' W'.heap.size vv (voices q.votes a.trust)) => settle1_any (voices q.votes a.trust) a.rule vv W' hv hvk)
        have HK := Lib.hid (fun (W' : World) (h : BehC W W') => z1 ⟨W', h⟩)
        unfold VoiPost at HVO
        unfold SettlePost at HSE
        have HVL := Lib.hid hvl
        clear hk hv hfk hkm hcell hP hvl hkb hok hvk
        go_enter Tryz.func12, Tryz.ntmps12
        go_wp2_with (fail)
        rw [← HW.out, ← HX0.out]
        refine (aft_b (HOK.out x0)).mono ?_
        rintro e _ ⟨rfl, x1, rfl⟩
        go_wp2_with (fail)
        refine (aft_q (in1_val _ _ _ _ _ HIN.out)).mono ?_
        rintro e _ ⟨rfl, x2, rfl⟩
        go_wp2_with (fail)
        refine (aft_b (HFI.out x2)).mono ?_
        rintro e _ ⟨rfl, x3, rfl⟩
        go_upto_region 7 with (fail)
        have hS0 : BehC W x3.val := x3.ok
        have c1 := HK.out _ hS0
        obtain ⟨U, hU⟩ : ∃ U, U = x3.val := ⟨_, rfl⟩
        rw [← hU] at hS0 c1 ⊢
        clear hU z0 z1 z2 z3 z4 z5 t6
        go_region_held3 (fun w' => w'.cell? ⟨w.heap.size, 1, none⟩ = some (.int .i64 a.rule) ∧ BehC W w')
          (first | exact ⟨HK.out _ hS3, hS3⟩ | exact ⟨HK.out _ (BehC.go hb4 hS3), BehC.go hb4 hS3⟩ | exact ⟨HK.out _ hS0, hS0⟩ | exact ⟨HK.out _ hS0.draw, hS0.draw⟩ | exact ⟨HK.out _ (BehC.go (by assumption) (And.right (by assumption))), BehC.go (by assumption) (And.right (by assumption))⟩ | exact ⟨HK.out _ (BehC.go (by assumption) (by assumption)), BehC.go (by assumption) (by assumption)⟩)
          (first
            | (go_at_call 51; refine Calls.mono (HVO.out _ (by first | assumption | exact And.right (by assumption))) ?_; rintro e w3 ⟨A3, c3, L3, rfl, hm3, hT3, hb3⟩; have hS3 := BehC.go hb3 (by first | assumption | exact And.right (by assumption)))
            | (go_at_call 50; refine Calls.mono (HSE.out w3 _ (hm3 ▸ hT3.vois)) ?_; rintro e w4 ⟨g, cap, rfl, hel, hei, hen, hb4⟩))
        all_goals
          have hS4 : BehC W w4 := BehC.go hb4 hS3
          have HB4 := Lib.hid (bW.trans (Below.mono hS4 bW.size))
          have HNO := Lib.hid hen
          have HEN := Lib.hid hei
          have HEL := Lib.hid (show (endsL (voices q.votes a.trust) a.rule).length = a.trust.length by rw [hel, voices_len HVL.out])
          have HFM : Hid (forM a q.votes v = forK q.votes (endsL (voices q.votes a.trust) a.rule) v a.trust.length) := Lib.hid rfl
          have HIV := Lib.hid (HI.out ⟨w4, hS4⟩)
          rw [voices_len HVL.out]
          clear hen hei hb4 hm3 hT3 hb3 hS3 hel
          generalize endsL (voices q.votes a.trust) a.rule = E at *
          clear c1 hS0
          have HO0 := Lib.hid (NumO.start w4)
          have HBS0 := Lib.hid ((Below.refl w4.heap.size w4).alloc (Nat.le_refl _) (.cells #[] 2))
          go_wp2
          go_loopw [11, 12] (fun vo i wr => ∃ (k : Nat) (L : List Int) (g2 cap2 : Nat), k ≤ a.trust.length ∧ i = .int .i64 (k : Int) ∧ vo = .slice (some ⟨g2, 0, none⟩) L.length cap2 ∧ L = forK q.votes E v k ∧ NumO wr w4.heap.size g2 cap2 L ∧ Below w4.heap.size w4 wr) (fun vo i _ => a.trust.length - (RowKit.intOf i).toNat)
          case atStart => exact ⟨0, [], _, 0, Nat.zero_le _, rfl, rfl, rfl, HO0.out, HBS0.out⟩
          case round =>
            obtain ⟨k, L, g2, cap2, hk, rfl, rfl, hLk, ho, hb⟩ := hrel
            have HO := Lib.hid ho
            have HB := Lib.hid hb
            have HLK := Lib.hid hLk.symm
            have hll : L.length ≤ k := by rw [hLk]; exact forK_len _ _ _ _
            clear ho hLk
            by_cases hlt : k < a.trust.length
            · have hlE : k < E.length := by rw [HEL.out]; exact hlt
              have hek := HEN.out k _ (List.getElem?_eq_getElem hlE)
              have x1 := (hb.cell (p := ⟨g, k, none⟩) (HNO.out.row.lt g rfl).2).trans (HNO.out.at (List.getElem?_eq_getElem hlE))
              have hgd : E.getD k 0 = E[k] := by simp [List.getD, hlE]
              rcases isEnd_range hek with he | ⟨j, he, hj⟩
              · have HNOO := Lib.hid (forK_no (show isFor q.votes E v k = false by unfold isFor; rw [hgd, he]; rfl))
                rw [he] at x1
                clear hek he hgd hb
                go_wp2
                go_roundw
                case rel => exact ⟨k + 1, L, g2, cap2, by omega, by go_num, rfl, by rw [HNOO.out, HLK.out], HO.out, HB.out⟩
                case measure => simp [RowKit.intOf]; omega
              · rw [voices_len HVL.out, ← HVL.out] at hj
                obtain ⟨bv, ov, hA2, hbv, e0⟩ := ints_get HIV.out (List.getElem?_eq_getElem hj)
                subst hA2
                have x2 := (hb.cell (p := ⟨bv, ov + j, none⟩) hbv).trans e0
                have hpos : (0 : Int) ≤ (j : Int) := by omega
                have hji : (j : Int) < (q.votes.length : Int) := by omega
                have hgv : q.votes.getD (j : Int).toNat 0 = q.votes[j] := by simp [List.getD, hj]
                have hfo : isFor q.votes E v k = (q.votes[j] == v) := by
                  unfold isFor
                  rw [hgd, he, hgv]
                  simp
                rw [he] at x1
                clear hek he e0 hgd hgv hb
                generalize q.votes[j] = y at *
                cases hy : (y == v) with
                | true =>
                  have HYES := Lib.hid (forK_yes (hfo.trans hy))
                  clear hfo
                  go_wp2_with (at_builtin; refine wpList_append_own_at _ rfl _ _ 29 rfl w4.heap.size 2 i0 (.int .i64 0) 1 8 Tryz.underlying29 hi hz0 hz1 hz2 rfl (by decide) _ _ _ rfl (HO.out.row.alloc _) ⟨wr.heap.size, 0, none⟩ 1 1 (intCells (k : Int)) rfl rfl (fun j u hj => new_at hj) (fun u hu => int_one' _ hu) ?c3 ?c4 (base_le HB.out.size) ?_)
                  case c3 => unfold maxLen; omega
                  case c4 => omega
                  intro v' w9 hown' hgrow hiff hat
                  obtain ⟨g9, cap9, rfl, hdc9, hcm9⟩ := own_some hown' (by simpa using hiff)
                  have HB9 := Lib.hid ((HB.out.alloc HB.out.size (.cells #[.int .i64 (k : Int)] 2)).grown hgrow (base_le HB.out.size) (fun j hj => (HO.out.row.lt j hj).1))
                  have HO9 : Hid (NumO w9 w4.heap.size g9 cap9 (L ++ [(k : Int)])) := Lib.hid (by
                    unfold NumO
                    rw [flat_snoc, List.length_append]
                    exact hown')
                  clear hown' hgrow hiff hat
                  go_wp2
                  go_roundw
                  case rel => exact ⟨k + 1, L ++ [(k : Int)], g9, cap9, by omega, by go_num, by rw [List.length_append]; rfl, by rw [HYES.out, HLK.out], HO9.out, HB9.out⟩
                  case measure => simp [RowKit.intOf]; omega
                | false =>
                  have HNOO := Lib.hid (forK_no (hfo.trans hy))
                  clear hfo
                  go_wp2
                  go_roundw
                  case rel => exact ⟨k + 1, L, g2, cap2, by omega, by go_num, rfl, by rw [HNOO.out, HLK.out], HO.out, HB.out⟩
                  case measure => simp [RowKit.intOf]; omega
            · have hge : ¬ (k : Int) < (a.trust.length : Int) := by omega
              have HFF : Hid (L = forOf a t v) := Lib.hid (by
                have : k = a.trust.length := by omega
                rw [HY.out, HFM.out, ← this]
                exact HLK.out.symm)
              have hb0 := HB4.out.trans (hb.mono HB4.out.size)
              have HOO := Lib.hid (HO.out.own.less HB4.out.size)
              go_wp2
              go_ret2
              exact ⟨_, rfl, by show OwnL intCells (forOf a t v) _ _ _; rw [← HFF.out]; exact HOO.out, hb0⟩
end Go.Proofs.YtnandbammmcncaaGreat

namespace Go.Proofs.YtnandbammmcncaaGreat
open Go.RowKit Go.Lib

set_option maxRecDepth 100000 in
set_option maxHeartbeats 8000000 in
theorem forOf2_any (a : Asm) (x : VAsm) (t : ByteArray) (v : Int) (w : World) (h : AsmR w w.heap.size x a) (hs : AsmSz a) : Calls Tryz.prog 14 #[asmV a x, .string t, .int .i64 v] w (ResP (intK (forOf a t v)).own (okV a t v) w) := by
  obtain ⟨At, ct, Ab, cb, Ac, cc, Am, cm, rfl⟩ := h.slices
  unfold asmV
  obtain ⟨W, hW⟩ : ∃ W : World, W = w.alloc (.cells #[.int .i64 a.day, .int .i64 a.rule, .slice At a.trust.length ct, .slice Ab a.base.length cb, .slice Ac a.acts.length cc, .slice Am a.mots.length cm] 36) := ⟨_, rfl⟩
  have bW : Below w.heap.size w W := by rw [hW]; exact (Below.refl _ _).alloc (Nat.le_refl _) _
  have a1 : Row W w.heap.size [.int .i64 a.day, .int .i64 a.rule, .slice At a.trust.length ct, .slice Ab a.base.length cb, .slice Ac a.acts.length cc, .slice Am a.mots.length cm] := by rw [hW]; exact Row.new w _ _
  have z0 := fun y : Aft W => y.cell (a1.cell 0 _ rfl)
  have z1 := fun y : Aft W => y.cell (a1.cell 1 _ rfl)
  have z2 := fun y : Aft W => y.cell (a1.cell 2 _ rfl)
  have z3 := fun y : Aft W => y.cell (a1.cell 3 _ rfl)
  have z4 := fun y : Aft W => y.cell (a1.cell 4 _ rfl)
  have z5 := fun y : Aft W => y.cell (a1.cell 5 _ rfl)
  have hRW := h.on bW bW.size
  have HR := Lib.hid (fun y : Aft W => h.on (aft_done bW y) (aft_done bW y).size)
  have HGM : Hid (0 < a.mots.length → ∃ b off, Am = some ⟨b, off, none⟩ ∧ b < W.heap.size ∧ ∀ (k : Nat) (m : Mot), a.mots[k]? = some m → ∃ A1 c1 A2 c2, MotP W W.heap.size b (off + k * 8) m A1 c1 A2 c2) := Lib.hid (by
    obtain ⟨A, c, hv, _, _, h⟩ := mots_at hRW.m
    have hv : Value.slice Am a.mots.length cm = .slice A a.mots.length c := hv
    injection hv with e1 e2 e3
    rw [e1]
    exact h)
  have HW := Lib.hid hW
  have HROW := Lib.hid a1
  have sW : w.heap.size < W.heap.size := by rw [hW]; simp
  obtain ⟨x0, hx0⟩ : ∃ y : Aft W, y.val = W := ⟨⟨W, Below.refl _ _⟩, rfl⟩
  have HX0 := Lib.hid hx0
  have HKN := Lib.hid (fun y : Aft W => known2_any a At ct Ab cb Ac cc Am cm t y.val (HR.out y) hs)
  clear h hW a1 hx0 hRW hs
  cases hk : knownB a t with
  | false =>
    have hkb : okV a t v = false := by unfold okV; rw [hk]; rfl
    have HN := Lib.hid (forOf_no hkb)
    rw [hkb]
    rw [hk] at HKN
    clear hk hkb
    go_enter Tryz.func14, Tryz.ntmps14
    go_wp2_with (fail)
    rw [← HW.out, ← HX0.out]
    refine (aft_b (HKN.out x0)).mono ?_
    rintro e _ ⟨rfl, x1, rfl⟩
    go_wp2
    go_ret2
    exact ⟨_, rfl, by show OwnL intCells (forOf a t v) _ _ _; rw [HN.out]; exact OwnL.nil _ _ _, aft_done bW x1⟩
  | true =>
    rw [hk] at HKN
    obtain ⟨hv, k, hfk, hkl, hkm⟩ := known_at hk
    have hok := okAsm_ok hv
    have hn12 := hok.n12
    rw [hfk] at HKN
    cases hi : inB v 1 3 with
    | false =>
      have hkb : okV a t v = false := by unfold okV; rw [hi, Bool.and_false]
      have HN := Lib.hid (forOf_no hkb)
      rw [hkb]
      have HIN := Lib.hid hi
      clear hv hkb hi hok hk hfk hkm
      go_enter Tryz.func14, Tryz.ntmps14
      go_wp2_with (fail)
      rw [← HW.out, ← HX0.out]
      refine (aft_b (HKN.out x0)).mono ?_
      rintro e _ ⟨rfl, x1, rfl⟩
      go_wp2_with (fail)
      refine (aft_q (in2_val _ _ _ _ _ HIN.out)).mono ?_
      rintro e _ ⟨rfl, x2, rfl⟩
      go_wp2
      go_ret2
      exact ⟨_, rfl, by show OwnL intCells (forOf a t v) _ _ _; rw [HN.out]; exact OwnL.nil _ _ _, aft_done bW x2⟩
    | true =>
      have HIN := Lib.hid hi
      have hkb : okV a t v = true := by unfold okV; rw [hk, hi]; rfl
      have HY := Lib.hid (forOf_yes hkb)
      rw [hkb]
      have hvl := hok.votes hkm
      obtain ⟨b2, off, rfl, hb2, hcell⟩ := HGM.out (by omega)
      obtain ⟨A1, c1, A2, c2, hP⟩ := hcell k _ hkm
      have t6 := fun y : Aft W => y.cell hP.k6
      have HI := Lib.hid (fun y : Aft W => (hP.on y.ok y.ok.size hb2).ints)
      have hk0 : (0 : Int) ≤ (k : Int) := by omega
      have hki : (k : Int) < (a.mots.length : Int) := by omega
      obtain ⟨i0, hi, hz0, hz1, hz2⟩ := info_parts Tryz.infoI
      generalize motOf a t = q at *
      have hvk := hok.vois hvl
      have HVO := Lib.hid (fun (W' : World) (h : BehC W W') => voices2_any a At ct Ab cb Ac cc (some ⟨b2, off, none⟩) cm q.votes A2 c2 W' (HR.out ⟨W', h⟩).t (HI.out ⟨W', h⟩) hvl (by omega) (fun l hl => Nat.le_trans (hok.t4 l hl) (by omega)))
      have HSE := Lib.hid (fun (W' : World) (vv : Value) (hv : Vois W' W'.heap.size vv (voices q.votes a.trust)) => settle2_any (voices q.votes a.trust) a.rule vv W' hok.rule.1 hok.rule.2 hv hvk)
      unfold VoiPost at HVO
      unfold Settle2Post at HSE
      have HVL := Lib.hid hvl
      clear hk hv hfk hkm hcell hP hvl hkb hok hvk
      go_enter Tryz.func14, Tryz.ntmps14
      go_wp2_with (fail)
      rw [← HW.out, ← HX0.out]
      refine (aft_b (HKN.out x0)).mono ?_
      rintro e _ ⟨rfl, x1, rfl⟩
      go_wp2_with (fail)
      refine (aft_q (in2_val _ _ _ _ _ HIN.out)).mono ?_
      rintro e _ ⟨rfl, x2, rfl⟩
      have HKEEP : Hid (∀ w', BehC W w' → w'.cell? ⟨w.heap.size, 0, none⟩ = some (.int .i64 a.day) ∧ w'.cell? ⟨w.heap.size, 1, none⟩ = some (.int .i64 a.rule) ∧ w'.cell? ⟨w.heap.size, 2, none⟩ = some (.slice At a.trust.length ct) ∧ w'.cell? ⟨w.heap.size, 3, none⟩ = some (.slice Ab a.base.length cb) ∧ w'.cell? ⟨w.heap.size, 4, none⟩ = some (.slice Ac a.acts.length cc) ∧ w'.cell? ⟨w.heap.size, 5, none⟩ = some (.slice (some ⟨b2, off, none⟩) a.mots.length cm) ∧ BehC W w') := Lib.hid (fun X hX => ⟨(HROW.out.below hX sW).cell 0 _ rfl, (HROW.out.below hX sW).cell 1 _ rfl, (HROW.out.below hX sW).cell 2 _ rfl, (HROW.out.below hX sW).cell 3 _ rfl, (HROW.out.below hX sW).cell 4 _ rfl, (HROW.out.below hX sW).cell 5 _ rfl, hX⟩)
      have HBEL : Hid (∀ w', w'.cell? ⟨w.heap.size, 0, none⟩ = some (.int .i64 a.day) ∧ w'.cell? ⟨w.heap.size, 1, none⟩ = some (.int .i64 a.rule) ∧ w'.cell? ⟨w.heap.size, 2, none⟩ = some (.slice At a.trust.length ct) ∧ w'.cell? ⟨w.heap.size, 3, none⟩ = some (.slice Ab a.base.length cb) ∧ w'.cell? ⟨w.heap.size, 4, none⟩ = some (.slice Ac a.acts.length cc) ∧ w'.cell? ⟨w.heap.size, 5, none⟩ = some (.slice (some ⟨b2, off, none⟩) a.mots.length cm) ∧ BehC W w' → BehC W w') := Lib.hid (fun X hX => hX.2.2.2.2.2.2)
      go_upto_region 5 with (fail)
      have hS0 : BehC W x2.val := x2.ok
      obtain ⟨U, hU⟩ : ∃ U, U = x2.val := ⟨_, rfl⟩
      rw [← hU] at hS0 ⊢
      obtain ⟨q0, q1, q2, q3, q4, q5, -⟩ := HKEEP.out U hS0
      clear hU z0 z1 z2 z3 z4 z5 t6
      go_region_held3 (fun w' => w'.cell? ⟨w.heap.size, 0, none⟩ = some (.int .i64 a.day) ∧ w'.cell? ⟨w.heap.size, 1, none⟩ = some (.int .i64 a.rule) ∧ w'.cell? ⟨w.heap.size, 2, none⟩ = some (.slice At a.trust.length ct) ∧ w'.cell? ⟨w.heap.size, 3, none⟩ = some (.slice Ab a.base.length cb) ∧ w'.cell? ⟨w.heap.size, 4, none⟩ = some (.slice Ac a.acts.length cc) ∧ w'.cell? ⟨w.heap.size, 5, none⟩ = some (.slice (some ⟨b2, off, none⟩) a.mots.length cm) ∧ BehC W w')
        (first | exact HKEEP.out _ hS3 | exact HKEEP.out _ (BehC.go hb4 hS3) | exact HKEEP.out _ hS0 | exact HKEEP.out _ hS0.draw)
        (first
          | (go_at_call 59; refine Calls.mono (HVO.out _ (HBEL.out _ (by assumption))) ?_; rintro e w3 ⟨A3, cc3, L3, rfl, hm3, hT3, hb3⟩; have hS3 := BehC.go hb3 (HBEL.out _ (by assumption)))
          | (go_at_call 58; refine Calls.mono (HSE.out w3 _ (hm3 ▸ hT3.vois)) ?_; rintro e w4 ⟨g, cap, rfl, hel, hei, hen, hb4⟩))
      all_goals
        have hS4 : BehC W w4 := BehC.go hb4 hS3
        have HB4 := Lib.hid (bW.trans (Below.mono hS4 bW.size))
        have HNO := Lib.hid hen
        have HEN := Lib.hid hei
        have HEL := Lib.hid (show (endsL (voices q.votes a.trust) a.rule).length = a.trust.length by rw [hel, voices_len HVL.out])
        have HFM : Hid (forM a q.votes v = forK q.votes (endsL (voices q.votes a.trust) a.rule) v a.trust.length) := Lib.hid rfl
        have HIV := Lib.hid (HI.out ⟨w4, hS4⟩)
        rw [voices_len HVL.out]
        clear hen hei hb4 hm3 hT3 hb3 hS3 hel
        generalize endsL (voices q.votes a.trust) a.rule = E at *
        clear q0 q1 q2 q3 q4 q5 hS0
        have HO0 := Lib.hid (NumO.start w4)
        have HBS0 := Lib.hid ((Below.refl w4.heap.size w4).alloc (Nat.le_refl _) (.cells #[] 2))
        go_wp2
        go_loopw [13, 14, 15, 47] (fun vo _ _ i wr => ∃ (k : Nat) (L : List Int) (g2 cap2 : Nat), k ≤ a.trust.length ∧ i = .int .i64 (k : Int) ∧ vo = .slice (some ⟨g2, 0, none⟩) L.length cap2 ∧ L = forK q.votes E v k ∧ NumO wr w4.heap.size g2 cap2 L ∧ Below w4.heap.size w4 wr) (fun vo _ _ i _ => a.trust.length - (RowKit.intOf i).toNat)
        case atStart => exact ⟨0, [], _, 0, Nat.zero_le _, rfl, rfl, rfl, HO0.out, HBS0.out⟩
        case round =>
          obtain ⟨k, L, g2, cap2, hk, rfl, rfl, hLk, ho, hb⟩ := hrel
          have HO := Lib.hid ho
          have HB := Lib.hid hb
          have HLK := Lib.hid hLk.symm
          have hll : L.length ≤ k := by rw [hLk]; exact forK_len _ _ _ _
          clear ho hLk
          by_cases hlt : k < a.trust.length
          · have hlE : k < E.length := by rw [HEL.out]; exact hlt
            have hek := HEN.out k _ (List.getElem?_eq_getElem hlE)
            have x1 := (hb.cell (p := ⟨g, k, none⟩) (HNO.out.row.lt g rfl).2).trans (HNO.out.at (List.getElem?_eq_getElem hlE))
            have hgd : E.getD k 0 = E[k] := by simp [List.getD, hlE]
            rcases isEnd_range hek with he | ⟨j, he, hj⟩
            · have HNOO := Lib.hid (forK_no (show isFor q.votes E v k = false by unfold isFor; rw [hgd, he]; rfl))
              rw [he] at x1
              clear hek he hgd hb
              go_wp2
              go_roundw
              case rel => exact ⟨k + 1, L, g2, cap2, by omega, by go_num, rfl, by rw [HNOO.out, HLK.out], HO.out, HB.out⟩
              case measure => simp [RowKit.intOf]; omega
            · rw [voices_len HVL.out, ← HVL.out] at hj
              obtain ⟨bv, ov, hA2, hbv, e0⟩ := ints_get HIV.out (List.getElem?_eq_getElem hj)
              subst hA2
              have x2 := (hb.cell (p := ⟨bv, ov + j, none⟩) hbv).trans e0
              have hpos : (0 : Int) ≤ (j : Int) := by omega
              have hji : (j : Int) < (q.votes.length : Int) := by omega
              have hgv : q.votes.getD (j : Int).toNat 0 = q.votes[j] := by simp [List.getD, hj]
              have hfo : isFor q.votes E v k = (q.votes[j] == v) := by
                unfold isFor
                rw [hgd, he, hgv]
                simp
              rw [he] at x1
              clear hek he e0 hgd hgv hb
              generalize q.votes[j] = y at *
              cases hy : (y == v) with
              | true =>
                have HYES := Lib.hid (forK_yes (hfo.trans hy))
                clear hfo
                go_wp2_with (at_builtin; refine wpList_append_own_at _ rfl _ _ 29 rfl w4.heap.size 2 i0 (.int .i64 0) 1 8 Tryz.underlying29 hi hz0 hz1 hz2 rfl (by decide) _ _ _ rfl (HO.out.row.alloc _) ⟨wr.heap.size, 0, none⟩ 1 1 (intCells (k : Int)) rfl rfl (fun j u hj => new_at hj) (fun u hu => int_one' _ hu) ?c3 ?c4 (base_le HB.out.size) ?_)
                case c3 => unfold maxLen; omega
                case c4 => omega
                intro v' w9 hown' hgrow hiff hat
                obtain ⟨g9, cap9, rfl, hdc9, hcm9⟩ := own_some hown' (by simpa using hiff)
                have HB9 := Lib.hid ((HB.out.alloc HB.out.size (.cells #[.int .i64 (k : Int)] 2)).grown hgrow (base_le HB.out.size) (fun j hj => (HO.out.row.lt j hj).1))
                have HO9 : Hid (NumO w9 w4.heap.size g9 cap9 (L ++ [(k : Int)])) := Lib.hid (by
                  unfold NumO
                  rw [flat_snoc, List.length_append]
                  exact hown')
                clear hown' hgrow hiff hat
                go_wp2
                go_roundw
                case rel => exact ⟨k + 1, L ++ [(k : Int)], g9, cap9, by omega, by go_num, by rw [List.length_append]; rfl, by rw [HYES.out, HLK.out], HO9.out, HB9.out⟩
                case measure => simp [RowKit.intOf]; omega
              | false =>
                have HNOO := Lib.hid (forK_no (hfo.trans hy))
                clear hfo
                go_wp2
                go_roundw
                case rel => exact ⟨k + 1, L, g2, cap2, by omega, by go_num, rfl, by rw [HNOO.out, HLK.out], HO.out, HB.out⟩
                case measure => simp [RowKit.intOf]; omega
          · have hge : ¬ (k : Int) < (a.trust.length : Int) := by omega
            have HFF : Hid (L = forOf a t v) := Lib.hid (by
              have : k = a.trust.length := by omega
              rw [HY.out, HFM.out, ← this]
              exact HLK.out.symm)
            have hb0 := HB4.out.trans (hb.mono HB4.out.size)
            have HOO := Lib.hid (HO.out.own.less HB4.out.size)
            go_wp2
            go_ret2
            exact ⟨_, rfl, by show OwnL intCells (forOf a t v) _ _ _; rw [← HFF.out]; exact HOO.out, hb0⟩
end Go.Proofs.YtnandbammmcncaaGreat

namespace Go.Proofs.YtnandbammmcncaaGreat
open Go.RowKit Go.Lib

set_option maxRecDepth 100000 in
set_option maxHeartbeats 8000000 in
theorem lawYzc_any (a : Asm) (x : VAsm) (t : ByteArray) (v : Int) (w : World) (h : AsmR w w.heap.size x a) (hs : AsmSz a) (ht9 : t.size ≤ maxLen) : Calls Tryz.prog 3 #[asmV a x, .string t, .int .i64 v] w (RetB (.bool true) w) := by
  unfold maxLen at ht9
  obtain ⟨At, ct, Ab, cb, Ac, cc, Am, cm, rfl⟩ := h.slices
  obtain ⟨W, hW⟩ : ∃ W : World, W = w.alloc (.cells #[.int .i64 a.day, .int .i64 a.rule, .slice At a.trust.length ct, .slice Ab a.base.length cb, .slice Ac a.acts.length cc, .slice Am a.mots.length cm] 27) := ⟨_, rfl⟩
  have bW : Below w.heap.size w W := by rw [hW]; exact (Below.refl _ _).alloc (Nat.le_refl _) _
  have a1 : Row W w.heap.size [.int .i64 a.day, .int .i64 a.rule, .slice At a.trust.length ct, .slice Ab a.base.length cb, .slice Ac a.acts.length cc, .slice Am a.mots.length cm] := by rw [hW]; exact Row.new w _ _
  have HSP := Lib.hid (fun W x (hx : AsmR W W.heap.size x a) => forOf1_any a x t v W hx hs)
  have HIM := Lib.hid (fun W x (hx : AsmR W W.heap.size x a) => forOf2_any a x t v W hx hs)
  have HEQ := Lib.hid (intK_eq (forOf a t v))
  have HMK := Lib.hid (intK_mark (forOf a t v) (forOf_len a t v))
  have HHD := Lib.hid (intK_held (forOf a t v) (forOf_len a t v))
  have z0 := fun y : Aft W => y.cell (a1.cell 0 _ rfl)
  have z1 := fun y : Aft W => y.cell (a1.cell 1 _ rfl)
  have z2 := fun y : Aft W => y.cell (a1.cell 2 _ rfl)
  have z3 := fun y : Aft W => y.cell (a1.cell 3 _ rfl)
  have z4 := fun y : Aft W => y.cell (a1.cell 4 _ rfl)
  have z5 := fun y : Aft W => y.cell (a1.cell 5 _ rfl)
  have HROW := Lib.hid a1
  have HR := Lib.hid (fun y : Aft W => h.on (aft_done bW y) (aft_done bW y).size)
  have HS := Lib.hid hs
  have HW := Lib.hid hW
  clear h hs hW a1
  unfold ResP at HSP HIM
  generalize intK (forOf a t v) = K at *
  obtain ⟨ok, hok⟩ : ∃ r, r = okV a t v := ⟨_, rfl⟩
  rw [← hok] at HSP HIM
  have hne : (ok != ok) = false := by cases ok <;> rfl
  clear hok
  unfold asmV
  by_cases ht : t.size ≤ 1048576
  case neg =>
    have h2 : (1048576 : Int) < (t.size : Int) := by omega
    go_enter Tryz.func3, Tryz.ntmps3
    go_wp2
    go_ret
    exact ⟨rfl, by rw [← HW.out]; exact bW⟩
  have h2 : ¬ (1048576 : Int) < (t.size : Int) := by omega
  go_enter Tryz.func3, Tryz.ntmps3
  go_wp2_with (fail)
  rw [← HW.out]
  obtain ⟨x0, hx0⟩ : ∃ y : Aft W, y.val = W := ⟨⟨W, Below.refl _ _⟩, rfl⟩
  rw [← hx0]
  clear hx0
  refine (szAsm_any a _ 1048576 _ (HR.out x0) HS.out (by omega) (by omega)).mono ?_
  rintro e1 w1 ⟨r, rfl, hr, hb1⟩
  obtain ⟨x1, rfl⟩ : ∃ y : Aft W, w1 = y.val := ⟨⟨w1, x0.ok.trans (hb1.mono x0.ok.size)⟩, rfl⟩
  clear hb1
  rcases hr with hr | ⟨hf, hr0, hr1⟩
  · go_wp2
    go_ret
    exact ⟨rfl, aft_done bW x1⟩
  have hrn : ¬ r < 0 := by omega
  have HF := Lib.hid hf
  clear hf
  go_wp2_with (fail)
  refine (toAsm_any a _ _ (HR.out x1) HF.out).mono ?_
  rintro e2 w2 ⟨y2, T2, C2, M2, rfl, hO2, hb2⟩
  obtain ⟨x2, rfl⟩ : ∃ y : Aft W, w2 = y.val := ⟨⟨w2, x1.ok.trans (hb2.mono x1.ok.size)⟩, rfl⟩
  have HO2 := Lib.hid hO2.r
  obtain ⟨B1, d1, B2, d2, B3, d3, B4, d4, rfl⟩ := hO2.r.slices
  clear hb2 hO2
  unfold asmV
  go_wp2_with (fail)
  refine (HSP.out _ _ HO2.out).mono ?_
  rintro e3 w3 ⟨vw, rfl, hvw, hb3⟩
  obtain ⟨x3, rfl⟩ : ∃ y : Aft W, w3 = y.val := ⟨⟨w3, x2.ok.trans (hb3.mono x2.ok.size)⟩, rfl⟩
  obtain ⟨AW, nW, cW, rfl⟩ := K.slice hvw
  have HVW := Lib.hid hvw
  clear hb3 hvw
  go_wp2_with (fail)
  refine (toAsm_any a _ _ (HR.out x3) HF.out).mono ?_
  rintro e4 w4 ⟨y4, T4, C4, M4, rfl, hO4, hb4⟩
  obtain ⟨x4, rfl⟩ : ∃ y : Aft W, w4 = y.val := ⟨⟨w4, x3.ok.trans (hb4.mono x3.ok.size)⟩, rfl⟩
  obtain ⟨D1, f1, D2, f2, D3, f3, D4, f4, rfl⟩ := hO4.r.slices
  have HB34 := Lib.hid hb4
  have HO4 := Lib.hid hO4
  clear hb4 hO4
  unfold asmV
  have hsz4 : w.heap.size < x4.val.heap.size := World.block_lt_of_cell? x4.val ⟨w.heap.size, 0, none⟩ (z0 x4)
  go_wp2_with (fail)
  obtain ⟨V, hV⟩ : ∃ V : World, V = x4.val.alloc (.cells #[.int .i64 a.day, .int .i64 a.rule, .slice D1 a.trust.length f1, .slice D2 a.base.length f2, .slice D3 a.acts.length f3, .slice D4 a.mots.length f4] 36) := ⟨_, rfl⟩
  have bV : Below x4.val.heap.size x4.val V := by rw [hV]; exact (Below.refl _ _).alloc (Nat.le_refl _) _
  have sV : x4.val.heap.size < V.heap.size := by rw [hV]; simp
  have r4 : Row V x4.val.heap.size [.int .i64 a.day, .int .i64 a.rule, .slice D1 a.trust.length f1, .slice D2 a.base.length f2, .slice D3 a.acts.length f3, .slice D4 a.mots.length f4] := by rw [hV]; exact Row.new x4.val _ _
  have b3V : Below x3.val.heap.size x3.val V := HB34.out.trans (bV.mono HB34.out.size)
  have bWV : Below W.heap.size W V := x3.ok.trans (b3V.mono x3.ok.size)
  have HROWV := Lib.hid (HROW.out.below bWV (by have : w.heap.size < W.heap.size := World.block_lt_of_cell? W ⟨w.heap.size, 0, none⟩ (HROW.out.cell 0 _ rfl); exact this))
  have HR4 := Lib.hid r4
  have HO := Lib.hid (HO4.out.below bV)
  have HB3V := Lib.hid b3V
  have HFTL : Hid (∀ b, asmFoot ⟨.slice D1 a.trust.length f1, .slice D2 a.base.length f2, .slice D3 a.acts.length f3, .slice D4 a.mots.length f4⟩ a T4 C4 M4 b → x3.val.heap.size ≤ b ∧ b < x4.val.heap.size) := Lib.hid (fun b hb => HO4.out.lt hb)
  have HBW := Lib.hid bW
  have hw3 : w.heap.size < x3.val.heap.size := World.block_lt_of_cell? x3.val ⟨w.heap.size, 0, none⟩ (z0 x3)
  have h34 : x3.val.heap.size ≤ x4.val.heap.size := HB34.out.size
  have HRA := Lib.hid (fun X (hX : Below x3.val.heap.size x3.val X) => HR.out ⟨X, x3.ok.trans (hX.mono x3.ok.size)⟩)
  have HFINB := Lib.hid (fun X (hX : Below x3.val.heap.size x3.val X) => bW.trans ((x3.ok.trans (hX.mono x3.ok.size)).mono bW.size))
  rw [← hV]
  clear hV r4 z0 z1 z2 z3 z4 z5 bWV b3V bV HO4 HB34
  refine (HIM.out V _ HO.out.r).mono ?_
  rintro e5 U ⟨vg, rfl, hvg, bU⟩
  obtain ⟨AG, nG, cG, rfl⟩ := K.slice hvg
  have HVG := Lib.hid hvg
  have HBU := Lib.hid bU
  have HB3U := Lib.hid (HB3V.out.trans (bU.mono HB3V.out.size))
  have HVWU := Lib.hid (K.below HVW.out HB3U.out)
  clear hvg bU
  go_wp2_with (fail)
  refine (HEQ.out U _ _ _ _ HVG.out HVWU.out).mono ?_
  rintro e6 U2 ⟨rfl, bU2⟩
  have HBU2 := Lib.hid (HBU.out.trans (bU2.mono HBU.out.size))
  have HVG2 := Lib.hid (K.below HVG.out bU2)
  clear bU2
  have HKEEP : Hid (∀ w', Below U2.heap.size U2 w' → (fun w' => w'.cell? ⟨x4.val.heap.size, 0, none⟩ = some (.int .i64 a.day) ∧ w'.cell? ⟨x4.val.heap.size, 1, none⟩ = some (.int .i64 a.rule) ∧ w'.cell? ⟨x4.val.heap.size, 2, none⟩ = some (.slice D1 a.trust.length f1) ∧ w'.cell? ⟨x4.val.heap.size, 3, none⟩ = some (.slice D2 a.base.length f2) ∧ w'.cell? ⟨x4.val.heap.size, 4, none⟩ = some (.slice D3 a.acts.length f3) ∧ w'.cell? ⟨x4.val.heap.size, 5, none⟩ = some (.slice D4 a.mots.length f4) ∧ w'.cell? ⟨w.heap.size, 0, none⟩ = some (.int .i64 a.day) ∧ w'.cell? ⟨w.heap.size, 1, none⟩ = some (.int .i64 a.rule) ∧ w'.cell? ⟨w.heap.size, 2, none⟩ = some (.slice At a.trust.length ct) ∧ w'.cell? ⟨w.heap.size, 3, none⟩ = some (.slice Ab a.base.length cb) ∧ w'.cell? ⟨w.heap.size, 4, none⟩ = some (.slice Ac a.acts.length cc) ∧ w'.cell? ⟨w.heap.size, 5, none⟩ = some (.slice Am a.mots.length cm) ∧ Below U2.heap.size U2 w') w') := Lib.hid (fun X hX => by
    have h1 := HR4.out.below (HBU2.out.trans (hX.mono HBU2.out.size)) sV
    have h2 := HROWV.out.below (HBU2.out.trans (hX.mono HBU2.out.size)) (by omega)
    exact ⟨h1.cell 0 _ rfl, h1.cell 1 _ rfl, h1.cell 2 _ rfl, h1.cell 3 _ rfl, h1.cell 4 _ rfl, h1.cell 5 _ rfl, h2.cell 0 _ rfl, h2.cell 1 _ rfl, h2.cell 2 _ rfl, h2.cell 3 _ rfl, h2.cell 4 _ rfl, h2.cell 5 _ rfl, hX⟩)
  have HBEL : Hid (∀ w', (fun w' => w'.cell? ⟨x4.val.heap.size, 0, none⟩ = some (.int .i64 a.day) ∧ w'.cell? ⟨x4.val.heap.size, 1, none⟩ = some (.int .i64 a.rule) ∧ w'.cell? ⟨x4.val.heap.size, 2, none⟩ = some (.slice D1 a.trust.length f1) ∧ w'.cell? ⟨x4.val.heap.size, 3, none⟩ = some (.slice D2 a.base.length f2) ∧ w'.cell? ⟨x4.val.heap.size, 4, none⟩ = some (.slice D3 a.acts.length f3) ∧ w'.cell? ⟨x4.val.heap.size, 5, none⟩ = some (.slice D4 a.mots.length f4) ∧ w'.cell? ⟨w.heap.size, 0, none⟩ = some (.int .i64 a.day) ∧ w'.cell? ⟨w.heap.size, 1, none⟩ = some (.int .i64 a.rule) ∧ w'.cell? ⟨w.heap.size, 2, none⟩ = some (.slice At a.trust.length ct) ∧ w'.cell? ⟨w.heap.size, 3, none⟩ = some (.slice Ab a.base.length cb) ∧ w'.cell? ⟨w.heap.size, 4, none⟩ = some (.slice Ac a.acts.length cc) ∧ w'.cell? ⟨w.heap.size, 5, none⟩ = some (.slice Am a.mots.length cm) ∧ Below U2.heap.size U2 w') w' → Below U2.heap.size U2 w') := Lib.hid (fun X hX => hX.2.2.2.2.2.2.2.2.2.2.2.2)
  have HB3U2 := Lib.hid (HB3V.out.trans (HBU2.out.mono HB3V.out.size))
  have HR2 := Lib.hid (fun X (hX : Below U2.heap.size U2 X) => HRA.out X (HB3U2.out.trans (hX.mono HB3U2.out.size)))
  have HX2 := Lib.hid (fun X (hX : Below U2.heap.size U2 X) => (HO.out.below (HBU2.out.trans (hX.mono HBU2.out.size))).r)
  have bU2 : Below U2.heap.size U2 U2 := Below.refl _ _
  go_wp2_with (fail)
  go_region_held3 (fun w' => w'.cell? ⟨x4.val.heap.size, 0, none⟩ = some (.int .i64 a.day) ∧ w'.cell? ⟨x4.val.heap.size, 1, none⟩ = some (.int .i64 a.rule) ∧ w'.cell? ⟨x4.val.heap.size, 2, none⟩ = some (.slice D1 a.trust.length f1) ∧ w'.cell? ⟨x4.val.heap.size, 3, none⟩ = some (.slice D2 a.base.length f2) ∧ w'.cell? ⟨x4.val.heap.size, 4, none⟩ = some (.slice D3 a.acts.length f3) ∧ w'.cell? ⟨x4.val.heap.size, 5, none⟩ = some (.slice D4 a.mots.length f4) ∧ w'.cell? ⟨w.heap.size, 0, none⟩ = some (.int .i64 a.day) ∧ w'.cell? ⟨w.heap.size, 1, none⟩ = some (.int .i64 a.rule) ∧ w'.cell? ⟨w.heap.size, 2, none⟩ = some (.slice At a.trust.length ct) ∧ w'.cell? ⟨w.heap.size, 3, none⟩ = some (.slice Ab a.base.length cb) ∧ w'.cell? ⟨w.heap.size, 4, none⟩ = some (.slice Ac a.acts.length cc) ∧ w'.cell? ⟨w.heap.size, 5, none⟩ = some (.slice Am a.mots.length cm) ∧ Below U2.heap.size U2 w')
    (first | exact HKEEP.out _ bU2 | exact HKEEP.out _ bU2.drew | exact HKEEP.out _ ((HBEL.out _ (by assumption)).trans (Below.mono (by assumption) (HBEL.out _ (by assumption)).size)))
    (first | (go_at_call 13; refine (toAsm_any a _ _ (HR2.out _ (HBEL.out _ (by assumption))) HF.out).mono ?_; rintro e6 w6 ⟨y6, T6, C6, M6, rfl, hO6, hb6⟩; have hR6 := hO6.r; obtain ⟨E1, l1, E2, l2, E3, l3, E4, l4, rfl⟩ := hO6.r.slices; clear hO6; unfold asmV) | (go_at_call 16; refine (eqAsm_any a _ _ _ (HX2.out _ (HBEL.out _ (by assumption))) hR6).mono ?_; rintro e7 w7 ⟨rfl, hb7⟩))
  all_goals
    have hB7 : Below U2.heap.size U2 w7 := HBEL.out _ (by assumption)
    have hS7 := HKEEP.out _ hB7
    obtain ⟨c0, c1, c2, c3, c4, c5, -⟩ := hS7
    have HBV7 := Lib.hid (HBU2.out.trans (hB7.mono HBU2.out.size))
    have HO7 := Lib.hid (HO.out.below HBV7.out)
    have HVG7 := Lib.hid (K.below HVG2.out hB7)
    have HB37 := Lib.hid (HB3V.out.trans (HBV7.out.mono HB3V.out.size))
    have h37 := HB37.out.size
    have hTF := HF.out.trees HO7.out.tm HO7.out.cm HO7.out.mm
    clear hB7 hb7 hb6 hR6
    go_wp2_with (fail)
    refine (markAsm_any a ⟨.slice D1 a.trust.length f1, .slice D2 a.base.length f2, .slice D3 a.acts.length f3, .slice D4 a.mots.length f4⟩ T4 C4 M4 _ 1 w7 HO7.out hTF (by omega) (by omega)).mono ?_
    rintro e8 X ⟨rfl, -, tX⟩
    have hkn : ¬ ((eAsm 1 a T4 C4 M4 : Nat) : Int) < 0 := by omega
    have HVGX := Lib.hid (K.touch HVG7.out tX (fun c hf => by have q2 := HFTL.out c hf; omega))
    have HB3X := Lib.hid (HB37.out.trans (tX.below h37 (fun b hb => (HFTL.out b hb).1)))
    have hXs := tX.size
    generalize eAsm 1 a T4 C4 M4 = kk at *
    clear tX c0 c1 c2 c3 c4 c5 hTF
    go_wp2_with (fail)
    refine (HEQ.out X _ _ _ _ HVGX.out (K.below HVW.out HB3X.out)).mono ?_
    rintro e9 X1 ⟨rfl, bX1⟩
    have HVG1 := Lib.hid (K.below HVGX.out bX1)
    have HB31 := Lib.hid (HB3X.out.trans (bX1.mono HB3X.out.size))
    have hX1s := bX1.size
    clear bX1
    go_wp2_with (fail)
    refine (HMK.out X1 _ _ HVG1.out).mono ?_
    rintro e10 X2 ⟨rfl, hmk, tM⟩
    have hnn : ¬ ((K.n : Nat) : Int) < 0 := by omega
    have hnz : (((K.n : Nat) : Int) != ((K.n : Nat) : Int)) = false := by simp
    have HB32 := Lib.hid (HB31.out.trans (tM.below HB31.out.size (fun b hb => by have q1 : V.heap.size ≤ b := hb; omega)))
    have HMK2 := Lib.hid hmk
    clear tM hmk
    go_wp2_with (fail)
    refine (HHD.out X2 _ _ HMK2.out).mono ?_
    rintro e11 X3 ⟨rfl, bX3⟩
    have HMK3 := Lib.hid (K.mtouch HMK2.out bX3)
    have HB33 := Lib.hid (HB32.out.trans (bX3.mono HB32.out.size))
    have r3 := HROW.out.below (x3.ok.trans (HB33.out.mono x3.ok.size)) (by have : w.heap.size < W.heap.size := World.block_lt_of_cell? W ⟨w.heap.size, 0, none⟩ (HROW.out.cell 0 _ rfl); exact this)
    have p0 := r3.cell 0 _ rfl
    have p1 := r3.cell 1 _ rfl
    have p2 := r3.cell 2 _ rfl
    have p3 := r3.cell 3 _ rfl
    have p4 := r3.cell 4 _ rfl
    have p5 := r3.cell 5 _ rfl
    clear bX3 r3
    go_wp2_with (fail)
    refine (toAsm_any a _ X3 (HRA.out X3 HB33.out) HF.out).mono ?_
    rintro e12 X4 ⟨y9, T9, C9, M9, rfl, hO9, bX4⟩
    obtain ⟨G1, j1, G2, j2, G3, j3, G4, j4, rfl⟩ := hO9.r.slices
    have HO9 := Lib.hid hO9.r
    have HMK4 := Lib.hid (K.mtouch HMK3.out bX4)
    have HB34' := Lib.hid (HB33.out.trans (bX4.mono HB33.out.size))
    clear bX4 hO9 p0 p1 p2 p3 p4 p5
    unfold asmV
    go_wp2_with (fail)
    refine (HIM.out X4 _ HO9.out).mono ?_
    rintro e13 X5 ⟨vh, rfl, hvh, bX5⟩
    obtain ⟨AH, nH, cH, rfl⟩ := K.slice hvh
    have HVH := Lib.hid hvh
    have HMK5 := Lib.hid (K.mtouch HMK4.out bX5)
    have HB35 := Lib.hid (HB34'.out.trans (bX5.mono HB34'.out.size))
    clear bX5 hvh
    go_wp2_with (fail)
    refine (HEQ.out X5 _ _ _ _ HVH.out (K.below HVW.out HB35.out)).mono ?_
    rintro e14 X6 ⟨rfl, bX6⟩
    have HMK6 := Lib.hid (K.mtouch HMK5.out bX6)
    have HB36 := Lib.hid (HB35.out.trans (bX6.mono HB35.out.size))
    clear bX6
    go_wp2_with (fail)
    refine (HHD.out X6 _ _ HMK6.out).mono ?_
    rintro e15 X7 ⟨rfl, bX7⟩
    have HFIN := Lib.hid (HFINB.out X7 (HB36.out.trans (bX7.mono HB36.out.size)))
    clear bX7
    go_wp2
    go_ret
    exact ⟨rfl, HFIN.out⟩
end Go.Proofs.YtnandbammmcncaaGreat

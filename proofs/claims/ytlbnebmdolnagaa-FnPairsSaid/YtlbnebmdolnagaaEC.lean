/- The stable sort at duels, walked. -/
import Derived.Test.YtlbnebmdolnagaaEA
import Derived.Great.Walk
import Derived.Test.YtlbnebmdolnagaaZo
namespace Go.Proofs.Ytlbnebmdolnagaa
open Go.RowKit Go.Lib

theorem touch_aft {g : Nat} {w w' w'' : World} (h : Touch (fun c => c = g) w w') (hb : Below w'.heap.size w' w'') : Touch (fun c => c = g) w w'' :=
  ⟨hb.os.trans h.os, hb.tape.trans h.tape, hb.output.trans h.output, Nat.le_trans h.size hb.size, fun b hw hne => (hb.block b (Nat.lt_of_lt_of_le hw h.size)).trans (h.block b hw hne)⟩
theorem touch_same {g : Nat} {w w' w'' : World} (h : Touch (fun c => c = g) w w') (h' : Touch (fun c => c = g) w' w'') : Touch (fun c => c = g) w w'' :=
  ⟨h'.os.trans h.os, h'.tape.trans h.tape, h'.output.trans h.output, Nat.le_trans h.size h'.size, fun b hw hne => (h'.block b (Nat.lt_of_lt_of_le hw h.size) hne).trans (h.block b hw hne)⟩
def DuSortPost (F : Pf) (D : List (Nat × Nat)) (g : Nat) (w : World) (e : Ending) (w' : World) : Prop :=
  e = .returned (.tuple #[]) ∧ Row w' g ((insK (duLt F) D (D.length - 1)).flatMap (duC F)) ∧ Touch (fun c => c = g) w w'
set_option maxRecDepth 100000 in
set_option maxHeartbeats 8000000 in
theorem ins_any (F : Pf) (hF : F.Ok) (D : List (Nat × Nat)) (hn : D.length ≤ 15) (g c : Nat) (w : World) (hr : Row w g (D.flatMap (duC F))) (hg : g < w.heap.size) :
    Calls Try.prog 160 #[.slice (some ⟨g, 0, none⟩) D.length c, .int .i64 0, .int .i64 (D.length : Int), .func (.func 108) #[] #[]] w (DuSortPost F D g w) := by
  have HC := Lib.hid (fun (p q : Nat × Nat) (W : World) => du_any F hF p q W)
  have HR := Lib.hid hr
  have HT0 := Lib.hid (Touch.refl (fun c => c = g) w)
  obtain ⟨n, hnn⟩ : ∃ n, n = D.length := ⟨_, rfl⟩
  have HNN := Lib.hid hnn
  rw [← hnn] at hn ⊢
  unfold duV at HC
  clear hr hnn
  go_enter Try.func160, Try.ntmps160
  go_wp2
  go_loopw [8, 9] (fun iv _ wr => ∃ i : Nat, i ≤ n ∧ iv = .int .i64 ((i + 1 : Nat) : Int) ∧ Row wr g ((insK (duLt F) D i).flatMap (duC F)) ∧ Touch (fun c => c = g) w wr ∧ (i < n ∨ i = 0)) (fun iv _ _ => n + 1 - (RowKit.intOf iv).toNat)
  case atStart => exact ⟨0, Nat.zero_le _, rfl, HR.out, HT0.out, by omega⟩
  case round =>
    obtain ⟨i, hi, rfl, hr, ht, hi1⟩ := hrel
    have HRO := Lib.hid hr
    have HTO := Lib.hid ht
    clear hr ht HR HT0
    generalize wr = wo at *
    obtain ⟨i1, hi1e⟩ : ∃ i1, i1 = i + 1 := ⟨_, rfl⟩
    have HI1 := Lib.hid hi1e
    rw [← hi1e]
    have hi1n : i1 ≤ 16 := by omega
    by_cases hlt : i1 < n
    · have hii : (i1 : Int) < (n : Int) := by omega
      have HLN : Hid (∀ k, (insK (duLt F) D k).length = n) := Lib.hid (fun k => by rw [insK_len]; exact HNN.out.symm)
      have HST : Hid (downL (duLt F) i1 (insK (duLt F) D i) = insK (duLt F) D i1) := Lib.hid (by rw [HI1.out]; rfl)
      clear hi1e hi1
      go_wp2
      go_loopw [9] (fun jv wr => ∃ (j : Nat) (L : List (Nat × Nat)), j ≤ i1 ∧ jv = .int .i64 (j : Int) ∧ Row wr g (L.flatMap (duC F)) ∧ downL (duLt F) j L = insK (duLt F) D i1 ∧ L.length = n ∧ Touch (fun c => c = g) w wr) (fun jv _ => (RowKit.intOf jv).toNat)
      case atStart => exact ⟨i1, _, Nat.le_refl _, rfl, HRO.out, HST.out, HLN.out i, HTO.out⟩
      case round =>
        obtain ⟨j, L, hj, rfl, hr, hd, hl, ht⟩ := hrel
        have HRJ := Lib.hid hr
        have HTJ := Lib.hid ht
        have HD := Lib.hid hd
        have HL := Lib.hid hl
        have hgr := Nat.lt_of_lt_of_le hg ht.size
        obtain ⟨x0, hx0⟩ : ∃ y : Aft wr, y.val = wr := ⟨⟨wr, Below.refl _ _⟩, rfl⟩
        clear hr ht hd hl HRO HTO HST
        cases j with
        | zero =>
          have HD0 : Hid (L = insK (duLt F) D i1) := Lib.hid HD.out
          rw [← hx0]
          clear hx0
          go_upto_region 4 with (fail)
          refine wp_region_at (by kernel_rfl) (by kernel_rfl) ?_
          repeat (go_big_quiet_step ((first | (go_at_call 108; exact aft_b (HC.out _ _ _)))))
          refine wpQuiet_nil ?_
          rintro _ ⟨y, rfl⟩
          have HR2 := Lib.hid (HRJ.out.below y.ok hgr)
          have HT2 := Lib.hid (touch_aft HTJ.out y.ok)
          rw [HD0.out] at HR2
          go_wp2
          go_roundw
          case rel => exact ⟨i1, by omega, by go_num, HR2.out, HT2.out, by omega⟩
          case measure => simp [RowKit.intOf]; omega
        | succ j =>
          have hx : L[j + 1]? = some (L[j + 1]'(by have := HL.out; omega)) := List.getElem?_eq_getElem (by have := HL.out; omega)
          have hy : L[j]? = some (L[j]'(by have := HL.out; omega)) := List.getElem?_eq_getElem (by have := HL.out; omega)
          generalize L[j + 1]'(by have := HL.out; omega) = x at *
          generalize L[j]'(by have := HL.out; omega) = yy at *
          have HX := Lib.hid hx
          have HY := Lib.hid hy
          have HRA := Lib.hid (fun y : Aft wr => HRJ.out.below y.ok hgr)
          have a0 := fun y : Aft wr => (row_du (HRA.out y) hx).1
          have a1 := fun y : Aft wr => (row_du (HRA.out y) hx).2.1
          have a2 := fun y : Aft wr => (row_du (HRA.out y) hx).2.2.1
          have a3 := fun y : Aft wr => (row_du (HRA.out y) hx).2.2.2
          have d0 := fun y : Aft wr => (row_du (HRA.out y) hy).1
          have d1 := fun y : Aft wr => (row_du (HRA.out y) hy).2.1
          have d2 := fun y : Aft wr => (row_du (HRA.out y) hy).2.2.1
          have d3 := fun y : Aft wr => (row_du (HRA.out y) hy).2.2.2
          have HCX := Lib.hid (fun W : World => HC.out x yy W)
          have HLT := Lib.hid (dCmp_lt F x yy)
          obtain ⟨j1, hj1⟩ : ∃ j1, j1 = j + 1 := ⟨_, rfl⟩
          have HJ1 := Lib.hid hj1
          rw [← hj1] at a0 a1 a2 a3 hj ⊢
          have hj1i : (0 : Int) < (j1 : Int) := by omega
          have hj1n : 0 < j1 := by omega
          have hj1d : decide (0 < j1) = true := decide_eq_true hj1n
          have hjn : (j1 : Int) < (n : Int) := by omega
          have hjn2 : (j : Int) < (n : Int) := by omega
          have hj0 : (0 : Int) ≤ (j : Int) := by omega
          have hj10 : (0 : Int) ≤ (j1 : Int) := by omega
          have hjw : IntKind.i64.wrap ((j1 : Int) - 1) = (j : Int) := by rw [IntKind.wrap_i64]; omega
          have hje : (j1 : Int) - 1 = (j : Int) := by omega
          have hjv : IntKind.i64.wrap (j : Int) = (j : Int) := by rw [IntKind.wrap_i64]; omega
          rw [← hx0]
          clear hx0 hx hy hj1
          obtain ⟨r, hr⟩ : ∃ r, r = dCmp F x yy := ⟨_, rfl⟩
          rw [← hr] at HCX HLT
          clear hr
          by_cases hlt2 : r < 0
          · have hrd : decide (r < 0) = true := decide_eq_true hlt2
            go_upto_region 4 with (fail)
            refine wp_region_at (by kernel_rfl) (by kernel_rfl) ?_
            repeat (go_big_quiet_step ((first | (go_at_call 108; exact aft_b (HCX.out _)))))
            refine wpQuiet_nil ?_
            rintro _ ⟨y, rfl⟩
            have HR2 := Lib.hid (HRJ.out.below y.ok hgr)
            have HT2 := Lib.hid (touch_aft HTJ.out y.ok)
            have hgy := Nat.lt_of_lt_of_le hgr y.ok.size
            have HDG := Lib.hid (down_go (duLt F) HX.out HY.out (by rw [← HLT.out]; exact hrd))
            have HDN : Hid (downL (duLt F) j ((L.set (j + 1) yy).set j x) = insK (duLt F) D i1) := Lib.hid (by rw [← HDG.out, ← HJ1.out]; rw [← HJ1.out] at HD; exact HD.out)
            obtain ⟨wy, hwy⟩ : ∃ X, X = y.val := ⟨_, rfl⟩
            rw [← hwy] at HR2 HT2 hgy ⊢
            clear hwy HRA HDG a0 a1 a2 a3 d0 d1 d2 d3 y
            have bd : Below wy.heap.size wy wy.drew := (Below.refl _ _).drew
            have HRD := Lib.hid (HR2.out.below bd hgy)
            have hgd := Nat.lt_of_lt_of_le hgy bd.size
            have HTD := Lib.hid (touch_aft HT2.out bd)
            have hjL1 : j1 < L.length := by have := HL.out; omega
            have hjL : j < L.length := by have := HL.out; omega
            have hxj := HX.out
            rw [← HJ1.out] at hxj
            obtain ⟨x0, x1, x2, x3⟩ := row_du HR2.out hxj
            obtain ⟨y0, y1, y2, y3⟩ := row_du HR2.out HY.out
            obtain ⟨p0, p1, p2, p3⟩ := row_du HRD.out hxj
            obtain ⟨s0, s1, s2, s3⟩ := row_du HRD.out HY.out
            have hfl := duels_len F L
            have f0 := HRD.out.free (j1 * 4) (by omega)
            have f1 := HRD.out.free (j1 * 4 + 1) (by omega)
            have f2 := HRD.out.free (j1 * 4 + 2) (by omega)
            have f3 := HRD.out.free (j1 * 4 + 3) (by omega)
            have g0 := HRD.out.free (j * 4) (by omega)
            have g1 := HRD.out.free (j * 4 + 1) (by omega)
            have g2 := HRD.out.free (j * 4 + 2) (by omega)
            have g3 := HRD.out.free (j * 4 + 3) (by omega)
            have hrn := row_setDu (row_setDu HRD.out yy hjL1) x (j := j) (by rw [List.length_set]; exact hjL)
            unfold setDu at hrn
            rw [show L.set j1 yy = L.set (j + 1) yy by rw [HJ1.out]] at hrn
            have HRN := Lib.hid hrn
            clear hrn
            have htn := touch_same HTD.out (touch_same (setDu_touch F wy.drew g j1 yy) (setDu_touch F (setDu F wy.drew g j1 yy) g j x))
            unfold setDu at htn
            have HTN := Lib.hid htn
            clear htn
            have HLN2 : Hid (((L.set (j + 1) yy).set j x).length = n) := Lib.hid (by rw [List.length_set, List.length_set]; exact HL.out)
            have hne : j ≠ j1 := by omega
            clear bd hxj hfl
            go_upto_region 6 with (fail)
            refine wp_region_G 15 (fun w' => (w'.cell? ⟨g, j1 * 4, none⟩ = some (.int .i64 (x.1 : Int)) ∧ w'.cell? ⟨g, j1 * 4 + 1, none⟩ = some (.int .i64 (x.2 : Int)) ∧ w'.cell? ⟨g, j1 * 4 + 2, none⟩ = some (.int .i64 (prs F x.1 x.2 : Int)) ∧ w'.cell? ⟨g, j1 * 4 + 3, none⟩ = some (.int .i64 (prs F x.2 x.1 : Int))) ∧ w'.cell? ⟨g, j * 4, none⟩ = some (.int .i64 (yy.1 : Int)) ∧ w'.cell? ⟨g, j * 4 + 1, none⟩ = some (.int .i64 (yy.2 : Int)) ∧ w'.cell? ⟨g, j * 4 + 2, none⟩ = some (.int .i64 (prs F yy.1 yy.2 : Int)) ∧ w'.cell? ⟨g, j * 4 + 3, none⟩ = some (.int .i64 (prs F yy.2 yy.1 : Int))) (by kernel_rfl) ?_
            have hHeld := And.intro (And.intro p0 (And.intro p1 (And.intro p2 p3))) (And.intro s0 (And.intro s1 (And.intro s2 s3)))
            clear x0 x1 x2 x3 y0 y1 y2 y3
            generalize wy.drew = W2 at *
            refine wG_p 0 (fun _ => hHeld) ?_
            try simp only [Act.put, List.getElem_toArray, List.getElem_cons_zero, List.setIfInBounds_toArray, List.set_cons_zero, List.set_cons_succ]
            refine wG_p 1 (fun _ => hHeld) ?_
            try simp only [Act.put, List.getElem_toArray, List.getElem_cons_zero, List.getElem_cons_succ, List.setIfInBounds_toArray, List.set_cons_zero, List.set_cons_succ]
            refine wG_p 2 (fun _ => hHeld) ?_
            try simp only [Act.put, List.getElem_toArray, List.getElem_cons_zero, List.getElem_cons_succ, List.setIfInBounds_toArray, List.set_cons_zero, List.set_cons_succ]
            refine wG_p 3 (fun _ => hHeld) ?_
            try simp only [Act.put, List.getElem_toArray, List.getElem_cons_zero, List.getElem_cons_succ, List.setIfInBounds_toArray, List.set_cons_zero, List.set_cons_succ]
            refine wG_p 4 (fun _ => hHeld) ?_
            try simp only [Act.put, List.getElem_toArray, List.getElem_cons_zero, List.getElem_cons_succ, List.setIfInBounds_toArray, List.set_cons_zero, List.set_cons_succ]
            refine wG_p 5 (fun _ => hHeld) ?_
            try simp only [Act.put, List.getElem_toArray, List.getElem_cons_zero, List.getElem_cons_succ, List.setIfInBounds_toArray, List.set_cons_zero, List.set_cons_succ]
            refine wG_p 6 (fun _ => hHeld) ?_
            try simp only [Act.put, List.getElem_toArray, List.getElem_cons_zero, List.getElem_cons_succ, List.setIfInBounds_toArray, List.set_cons_zero, List.set_cons_succ]
            refine wG_p 7 (fun _ => hHeld) ?_
            try simp only [Act.put, List.getElem_toArray, List.getElem_cons_zero, List.getElem_cons_succ, List.setIfInBounds_toArray, List.set_cons_zero, List.set_cons_succ]
            refine wG_p 8 (fun _ => hHeld) ?_
            try simp only [Act.put, List.getElem_toArray, List.getElem_cons_zero, List.getElem_cons_succ, List.setIfInBounds_toArray, List.set_cons_zero, List.set_cons_succ]
            refine wG_t 9 ?_
            try simp only [Act.put, List.getElem_toArray, List.setIfInBounds_toArray]
            refine wG_p 10 (fun _ => hHeld) ?_
            try simp only [Act.put, List.getElem_toArray, List.getElem_cons_zero, List.getElem_cons_succ, List.setIfInBounds_toArray, List.set_cons_zero, List.set_cons_succ]
            refine wG_p 11 (fun _ => hHeld) ?_
            try simp only [Act.put, List.getElem_toArray, List.getElem_cons_zero, List.getElem_cons_succ, List.setIfInBounds_toArray, List.set_cons_zero, List.set_cons_succ]
            refine wG_p 12 (fun _ => hHeld) ?_
            try simp only [Act.put, List.getElem_toArray, List.getElem_cons_zero, List.getElem_cons_succ, List.setIfInBounds_toArray, List.set_cons_zero, List.set_cons_succ]
            refine wG_t 13 ?_
            try simp only [Act.put, List.getElem_toArray, List.setIfInBounds_toArray]
            refine wG_p 14 (fun _ => hHeld) ?_
            try simp only [Act.put, List.getElem_toArray, List.getElem_cons_zero, List.getElem_cons_succ, List.setIfInBounds_toArray, List.set_cons_zero, List.set_cons_succ]
            clear hHeld
            refine wG_o 15 (fun K hK => ?_)
            try simp only [List.getElem_toArray, List.getElem_cons_zero, List.getElem_cons_succ]
            go_simp
            refine hK.out _ _ (fun h => by simp at h) ?_
            clear hK K
            try simp only [Act.put, List.setIfInBounds_toArray, List.set_cons_zero, List.set_cons_succ]
            refine wG_p 16 (fun h => by simp at h) ?_
            try simp only [Act.put, List.getElem_toArray, List.getElem_cons_zero, List.getElem_cons_succ, List.setIfInBounds_toArray, List.set_cons_zero, List.set_cons_succ]
            refine wG_o 17 (fun K hK => ?_)
            try simp only [List.getElem_toArray, List.getElem_cons_zero, List.getElem_cons_succ]
            go_simp
            refine hK.out _ _ (fun h => by simp at h) ?_
            clear hK K
            try simp only [Act.put, List.setIfInBounds_toArray, List.set_cons_zero, List.set_cons_succ]
            refine wpAnyG_done (by kernel_rfl) ?_ _
            go_wp2
            go_roundw
            case rel => exact ⟨j, _, by omega, rfl, HRN.out, HDN.out, HLN2.out, HTN.out⟩
            case measure => simp [RowKit.intOf]; omega
          · have hrd : decide (r < 0) = false := decide_eq_false hlt2
            have HDL := Lib.hid (down_stop (duLt F) HX.out HY.out (by rw [← HLT.out]; exact hrd))
            rw [← HJ1.out] at HDL
            go_upto_region 4 with (fail)
            refine wp_region_at (by kernel_rfl) (by kernel_rfl) ?_
            repeat (go_big_quiet_step ((first | (go_at_call 108; exact aft_b (HCX.out _)))))
            refine wpQuiet_nil ?_
            rintro _ ⟨y, rfl⟩
            have HR2 := Lib.hid (HRJ.out.below y.ok hgr)
            have HT2 := Lib.hid (touch_aft HTJ.out y.ok)
            have HE : Hid (L = insK (duLt F) D i1) := Lib.hid (by
              have := HD.out
              rw [← HJ1.out] at this
              rw [← this]
              exact HDL.out.symm)
            rw [HE.out] at HR2
            go_wp2
            go_roundw
            case rel => exact ⟨i1, by omega, by go_num, HR2.out, HT2.out, by omega⟩
            case measure => simp [RowKit.intOf]; omega
    · have hge : ¬ (i1 : Int) < (n : Int) := by omega
      have HE : Hid ((insK (duLt F) D i) = insK (duLt F) D (D.length - 1)) := Lib.hid (by
        have := HNN.out
        rw [show i = D.length - 1 by omega])
      clear hi1e
      go_wp2
      refine Go.Great.bodyPost_end0 rfl rfl ?_
      exact ⟨rfl, by rw [← HE.out]; exact HRO.out, HTO.out⟩
set_option maxRecDepth 100000 in
set_option maxHeartbeats 4000000 in
theorem stable_any (F : Pf) (hF : F.Ok) (D : List (Nat × Nat)) (hn : D.length ≤ 15) (g c : Nat) (w : World) (hr : Row w g (D.flatMap (duC F))) (hg : g < w.heap.size) :
    Calls Try.prog 139 #[.slice (some ⟨g, 0, none⟩) D.length c, .int .i64 (D.length : Int), .func (.func 108) #[] #[]] w (DuSortPost F D g w) := by
  have HI := Lib.hid (ins_any F hF D hn g c w hr hg)
  obtain ⟨n, hnn⟩ : ∃ n, n = D.length := ⟨_, rfl⟩
  rw [← hnn] at hn HI ⊢
  unfold DuSortPost at HI
  clear hr hnn
  go_enter Try.func139, Try.ntmps139
  have h1 : ¬ (20 : Int) ≤ (n : Int) := by omega
  have h2 : ¬ (20 : Int) < (n : Int) := by omega
  go_wp2
  go_loopw [7, 8] (fun a b wr => a = .int .i64 0 ∧ b = .int .i64 20 ∧ wr = w) (fun _ _ _ => 0)
  case atStart => exact ⟨rfl, rfl, rfl⟩
  case round =>
    obtain ⟨rfl, rfl, rfl⟩ := hrel
    go_wp2_with (fail)
    refine HI.out.mono ?_
    rintro e w2 ⟨rfl, hrow, ht⟩
    have HP := Lib.hid (And.intro hrow ht)
    clear hrow ht
    go_wp2
    go_loopw [6, 7, 8, 9] (fun s _ _ _ wr => s = .int .i64 20 ∧ wr = w2) (fun _ _ _ _ _ => 0)
    case atStart => exact ⟨rfl, rfl⟩
    case round =>
      obtain ⟨rfl, rfl⟩ := hrel
      go_wp2
      refine Go.Great.bodyPost_end0 rfl rfl ?_
      exact ⟨rfl, HP.out.1, HP.out.2⟩
set_option maxRecDepth 100000 in
set_option maxHeartbeats 4000000 in
theorem sortDu_any (F : Pf) (hF : F.Ok) (D : List (Nat × Nat)) (hn : D.length ≤ 15) (g c : Nat) (w : World) (hr : Row w g (D.flatMap (duC F))) (hg : g < w.heap.size) :
    Calls Try.prog 107 #[.slice (some ⟨g, 0, none⟩) D.length c, .func (.func 108) #[] #[]] w (DuSortPost F D g w) := by
  have HI := Lib.hid (stable_any F hF D hn g c w hr hg)
  unfold DuSortPost at HI
  clear hr
  go_enter Try.func107, Try.ntmps107
  go_wp2_with (fail)
  refine HI.out.mono ?_
  rintro e w2 ⟨rfl, hrow, ht⟩
  have HP := Lib.hid (And.intro hrow ht)
  clear hrow ht
  go_wp2
  refine Go.Great.bodyPost_end0 rfl rfl ?_
  exact ⟨rfl, HP.out.1, HP.out.2⟩
end Go.Proofs.Ytlbnebmdolnagaa

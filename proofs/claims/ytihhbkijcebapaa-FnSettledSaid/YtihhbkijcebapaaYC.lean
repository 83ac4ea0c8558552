/- With whom all ballots are settled, the reference's, walked. The distances, the program's, walked. The best path, the program's, walked. The best path, the program's, walked: the rules by cost. With whom all ballots are settled, the program's, walked. -/
import Derived.Test.YtihhbkijcebapaaYB
import Derived.StillTailTactics
import Derived.Laws.OwnMore
namespace Go.Proofs.Ytihhbkijcebapaa
open Go.RowKit Go.Lib

/-- Numbers of the call's own, in a block. -/
def NumO (w : World) (base g cap : Nat) (L : List Int) : Prop := w.ownsRow base 2 1 (.slice (some ⟨g, 0, none⟩) L.length cap) L.length (L.flatMap intCells)
theorem NumO.row {w : World} {base g cap : Nat} {L : List Int} (h : NumO w base g cap L) : w.ownsRow base 2 1 (.slice (some ⟨g, 0, none⟩) L.length cap) L.length (L.flatMap intCells) := h
theorem NumO.below {w w' : World} {base g cap : Nat} {L : List Int} (h : NumO w base g cap L) (hb : Below w.heap.size w w') : NumO w' base g cap L := own_below h hb
theorem NumO.own {w : World} {base g cap : Nat} {L : List Int} (h : NumO w base g cap L) : OwnL intCells L base w (.slice (some ⟨g, 0, none⟩) L.length cap) := OwnL.of_own intCells (size := 1) (fun _ => rfl) h
theorem NumO.ints {w : World} {base g cap : Nat} {L : List Int} (h : NumO w base g cap L) : Ints w w.heap.size (.slice (some ⟨g, 0, none⟩) L.length cap) L := h.own.slR (size := 1) (fun _ => rfl)
theorem NumO.start (w : World) : NumO (w.alloc (.cells #[] 2)) w.heap.size w.heap.size 0 [] := by
  unfold NumO
  simpa using World.ownsRow_made w #[] 0 (Nat.le_refl _) (Nat.zero_le _) rfl
def EndsTo (g : Gr) (rule : Int) (L : List Int) : Prop := ∀ (j : Nat) (e : Int), L[j]? = some e → IsEnd g rule j e
theorem EndsTo.push {g : Gr} {rule : Int} {L : List Int} {e : Int} (h : EndsTo g rule L) (he : IsEnd g rule L.length e) : EndsTo g rule (L ++ [e]) := fun j e' hj => by
  rcases Nat.lt_or_ge j L.length with hl | hl
  · rw [List.getElem?_append_left hl] at hj
    exact h j e' hj
  · have hj2 := (List.getElem?_eq_some_iff.1 hj).1
    rw [List.length_append, List.length_singleton] at hj2
    have : j = L.length := by omega
    subst this
    rw [List.getElem?_append_right (Nat.le_refl _), Nat.sub_self] at hj
    injection hj with hj
    rw [← hj]
    exact he
/-- The ends of all ballots in memory. -/
def SettlePost (V : List Voi) (rule : Int) (w : World) (e : Ending) (w' : World) : Prop :=
  ∃ g cap, e = .returned (.slice (some ⟨g, 0, none⟩) V.length cap) ∧ (endsL V rule).length = V.length ∧ (∀ (j : Nat) (x : Int), (endsL V rule)[j]? = some x → IsEnd (grV V) rule j x) ∧ NumO w' w.heap.size g cap (endsL V rule) ∧ Below w.heap.size w w'

end Go.Proofs.Ytihhbkijcebapaa

namespace Go.Proofs.Ytihhbkijcebapaa
open Go.RowKit Go.Lib

theorem Try.infoN : (Try.prog.info? 3).map (fun i => (i.zero, i.size, i.bytes)) = some (some (.int .i64 0), 1, 8) := by kernel_rfl
theorem costL_zero (n : Nat) : costL (fun _ => 0) n = List.replicate n (.int .i64 0) := by
  apply List.ext_getElem?
  intro j
  by_cases hj : j < n
  · rw [costL_get hj, List.getElem?_replicate, if_pos hj]
  · rw [List.getElem?_eq_none (by rw [costL_len]; omega), List.getElem?_eq_none (by simp; omega)]
theorem make_zero {P : Program} (w : World) (t e : TypeId) (i : TypeInfo) (ht : P.underlying t = some (.slice e)) (hi : P.info? e = some i) (hz : i.zero = some (.int .i64 0)) (hsize : i.size = 1) (n : Nat) (hb : i.bytes * n ≤ 281474976710656) (hn : n ≤ 1048576) :
    ∃ w', (Instr.makeSlice t (.int .i64 (n : Int)) (.int .i64 (n : Int))).run P w = .ok (.slice (some ⟨w.heap.size, 0, none⟩) n n) w' ∧ Row w' w.heap.size (costL (fun _ => 0) n) ∧ w.heap.size < w'.heap.size ∧ Below w.heap.size w w' := by
  have hb' : (i.bytes : Int) * (n : Int) ≤ 281474976710656 := by
    have h : ((i.bytes * n : Nat) : Int) ≤ 281474976710656 := by omega
    rwa [Int.natCast_mul] at h
  have hr := run_make (P := P) w t e i (.int .i64 0) ht hi hz .i64 .i64 n n (by omega) (Int.le_refl _) hb' (by omega)
  simp only [Int.toNat_natCast] at hr
  refine ⟨_, hr, ?_, by simp, (Below.refl _ _).alloc (Nat.le_refl _) _⟩
  have := Row.new w (madeCells (Value.int .i64 0).cells (n * i.size)) e
  rw [hsize, Nat.mul_one] at this ⊢
  have e2 : (madeCells (Value.int .i64 0).cells n).toList = costL (fun _ => 0) n := by
    rw [costL_zero]
    exact toList_madeCells_one _ n
  rw [e2] at this
  exact this
def DistPost (V : List Voi) (c : Nat → Int) (w : World) (e : Ending) (w' : World) : Prop :=
  ∃ g, w.heap.size ≤ g ∧ g < w'.heap.size ∧ e = .returned (.slice (some ⟨g, 0, none⟩) V.length V.length) ∧ Row w' g (costL (runI (grV V) [] c V.length) V.length) ∧ Below w.heap.size w w'
/-- The least costs on the way. -/
def begI (g : Gr) (k : Nat) : Nat → Int := fun j => if j < k then initI g [] j else 0
theorem begI_sp {g : Gr} {k : Nat} (h : g.sp k = true) : begI g (k + 1) = begI g k := by
  funext j
  unfold begI
  by_cases e : j = k
  · subst e
    rw [if_pos (by omega), if_neg (by omega)]
    unfold initI
    rw [h]
    rfl
  · by_cases h2 : j < k
    · rw [if_pos (by omega), if_pos h2]
    · rw [if_neg (by omega), if_neg h2]
theorem begI_no {g : Gr} {k : Nat} (h : g.sp k = false) : begI g (k + 1) = fun j => if j = k then 1000 else begI g k j := by
  funext j
  unfold begI
  by_cases e : j = k
  · subst e
    rw [if_pos (by omega), if_pos rfl]
    unfold initI
    rw [h]
    rfl
  · rw [if_neg e]
    by_cases h2 : j < k
    · rw [if_pos (by omega), if_pos h2]
    · rw [if_neg (by omega), if_neg h2]
theorem passI_off1 {g : Gr} {c C : Nat → Int} {i : Nat} (h : g.sp i = true) : passI g [] c C (i + 1) = passI g [] c C i := by rw [passI, rowI_off (on_off (Or.inl h))]
theorem passI_on1 {g : Gr} {c C : Nat → Int} {i : Nat} (h : g.sp i = false) : passI g [] c C (i + 1) = inI g c i (passI g [] c C i) (g.tr i).length := by rw [passI, rowI_on (on_on h rfl)]
theorem costL_beg (g : Gr) (n : Nat) : costL (begI g n) n = costL (initI g []) n := costL_ext (fun j hj => by unfold begI; rw [if_pos hj])

set_option maxRecDepth 100000 in
set_option maxHeartbeats 8000000 in
theorem dist2_any (V : List Voi) (c : Nat → Int) (hc : CostOk c) (fid : FuncId) (eg : ∀ args w, (callFunc fid args).run Try.prog w = .ok (.enter fid args) w) (hcall : ∀ (k : Nat) (W : World), Calls Try.prog fid #[.int .i64 ((k : Int) + 1)] W (fun e w' => e = .returned (.int .i64 (c (k + 1))) ∧ w' = W))
    (v : Value) (w : World) (hV : Vois w w.heap.size v V) (hok : VoisOk V) : Calls Try.prog 32 #[v, .func (.func fid) #[] #[]] w (DistPost V c w) := by
  obtain ⟨A, c0, rfl, hc0, hm0, hel⟩ := vois_at hV
  have hn1 := hok.n1
  have hn12 := hok.n12
  obtain ⟨b, off, rfl, hblt, hcell⟩ := hel (by omega)
  have HEL := Lib.hid hcell
  have HOK := Lib.hid hok
  have HCO := Lib.hid hc
  have HCALL := Lib.hid hcall
  have HV0 := Lib.hid (fun W (h : Below w.heap.size w W) => hV.on h h.size)
  unfold DistPost
  obtain ⟨i0, hi, hz0, hz1, hz2⟩ := info_parts Try.infoN
  obtain ⟨W, hmk, hrow, hgs, hbW⟩ := make_zero (P := Try.prog) w 60 3 i0 Try.underlying60 hi hz0 hz1 V.length (by rw [hz2]; omega) (by omega)
  have HR : Hid (Row W w.heap.size (costL (begI (grV V) 0) V.length)) := Lib.hid (by
    have e : begI (grV V) 0 = fun _ => 0 := by funext j; unfold begI; rw [if_neg (by omega)]
    rw [e]
    exact hrow)
  clear hV hok hel hcell hi hz0 hz1 hz2 hrow hc hcall
  go_enter Try.func32, Try.ntmps32
  go_wp2
  go_loopw [6, 7, 17] (fun _ _ i wr => ∃ k : Nat, k ≤ V.length ∧ i = .int .i64 (k : Int) ∧ Row wr w.heap.size (costL (begI (grV V) k) V.length) ∧ Below w.heap.size w wr ∧ w.heap.size < wr.heap.size) (fun _ _ i _ => V.length - (RowKit.intOf i).toNat)
  case atStart => exact ⟨0, Nat.zero_le _, rfl, HR.out, hbW, hgs⟩
  case round =>
    obtain ⟨k, hk, rfl, hrow, hb, hgr⟩ := hrel
    have HRK := Lib.hid hrow
    clear HR hrow
    by_cases hlt : k < V.length
    · have hget : V[k]? = some V[k] := List.getElem?_eq_getElem hlt
      obtain ⟨A1, c1, d0, d1, _, _⟩ := HEL.out k _ hget
      have HSP : Hid ((grV V).sp k = V[k].sp) := Lib.hid (grV_at hget).1
      have x0 := (hb.cell (p := ⟨b, off + k * 2, none⟩) hblt).trans d0
      have x1 := (hb.cell (p := ⟨b, off + k * 2 + 1, none⟩) hblt).trans d1
      clear hget d0 d1
      generalize V[k] = a at *
      go_upto_region 5 with (fail)
      obtain ⟨U, hU⟩ : ∃ U : World, U = wr.alloc (.cells #[.bool a.sp, .slice A1 a.tr.length c1] 52) := ⟨_, rfl⟩
      change Code.wp _ _ _ _ (wr.alloc (.cells #[.bool a.sp, .slice A1 a.tr.length c1] 52))
      have bU : Below wr.heap.size wr U := by rw [hU]; exact (Below.refl _ _).alloc (Nat.le_refl _) _
      have a2 : Row U wr.heap.size [.bool a.sp, .slice A1 a.tr.length c1] := by rw [hU]; exact Row.new wr _ _
      have y0 := a2.cell 0 _ rfl
      have y1 := a2.cell 1 _ rfl
      have hbU := hb.trans (bU.mono hb.size)
      have hgU : w.heap.size < U.heap.size := Nat.lt_of_lt_of_le hgr bU.size
      have HRU := Lib.hid (HRK.out.below bU hgr)
      rw [← hU]
      clear hU a2 bU x0 x1
      cases hs : a.sp with
      | true =>
        rw [hs] at y0 HSP
        have HN : Hid (Row U w.heap.size (costL (begI (grV V) (k + 1)) V.length)) := Lib.hid (by rw [begI_sp HSP.out]; exact HRU.out)
        go_wp2
        go_roundw
        case rel => exact ⟨k + 1, by omega, by go_num, HN.out, hbU, hgU⟩
        case measure => simp [RowKit.intOf]; omega
      | false =>
        rw [hs] at y0 HSP
        have x4 := HRU.out.cell k _ (costL_get hlt)
        have f4 := HRU.out.free k (by rw [costL_len]; exact hlt)
        have HN : Hid (Row (U.setCell ⟨w.heap.size, k, none⟩ (.int .i64 1000)) w.heap.size (costL (begI (grV V) (k + 1)) V.length)) := Lib.hid (by
          rw [begI_no HSP.out, ← costL_set]
          exact HRU.out.set k _ (by rw [costL_len]; exact hlt))
        have hb9 := hbU.setCell (p := ⟨w.heap.size, k, none⟩) (Nat.le_refl _) (.int .i64 1000)
        have hgr9 : w.heap.size < (U.setCell ⟨w.heap.size, k, none⟩ (.int .i64 1000)).heap.size := by simpa using hgU
        have hki : (k : Int) < (V.length : Int) := by omega
        go_wp2
        go_roundw
        case rel => exact ⟨k + 1, by omega, by go_num, HN.out, hb9, hgr9⟩
        case measure => simp [RowKit.intOf]; omega
    · have hge : ¬ (k : Int) < (V.length : Int) := by omega
      have HR0 : Hid (Row wr w.heap.size (costL (runI (grV V) [] c 0) V.length)) := Lib.hid (by
        have : k = V.length := by omega
        rw [this] at HRK
        have h := HRK.out
        rw [costL_beg] at h
        exact h)
      clear HRK
      go_wp2
      go_loopw [8, 9, 10, 11, 31, 35, 45] (fun _ _ _ _ r _ _ wr => ∃ q : Nat, q ≤ V.length ∧ r = .int .i64 (q : Int) ∧ Row wr w.heap.size (costL (runI (grV V) [] c q) V.length) ∧ Below w.heap.size w wr ∧ w.heap.size < wr.heap.size) (fun _ _ _ _ r _ _ _ => V.length - (RowKit.intOf r).toNat)
      case atStart => exact ⟨0, Nat.zero_le _, rfl, HR0.out, hb, hgr⟩
      case round =>
        obtain ⟨q, hq, rfl, hrow, hb, hgr⟩ := hrel
        have HRQ := Lib.hid hrow
        clear HR0 hrow
        by_cases hql : q < V.length
        · go_wp2
          go_loopw [8, 9, 10, 11, 35, 45] (fun _ _ _ _ i _ wr => ∃ k : Nat, k ≤ V.length ∧ i = .int .i64 (k : Int) ∧ Row wr w.heap.size (costL (passI (grV V) [] c (runI (grV V) [] c q) k) V.length) ∧ Below w.heap.size w wr ∧ w.heap.size < wr.heap.size) (fun _ _ _ _ i _ _ => V.length - (RowKit.intOf i).toNat)
          case atStart => exact ⟨0, Nat.zero_le _, rfl, HRQ.out, hb, hgr⟩
          case round =>
            obtain ⟨k, hk, rfl, hrow, hb, hgr⟩ := hrel
            have HRK := Lib.hid hrow
            clear HRQ hrow
            by_cases hlt : k < V.length
            · have hget : V[k]? = some V[k] := List.getElem?_eq_getElem hlt
              obtain ⟨A1, c1, d0, d1, hc1, hI⟩ := HEL.out k _ hget
              have HSP : Hid ((grV V).sp k = V[k].sp) := Lib.hid (grV_at hget).1
              have x0 := (hb.cell (p := ⟨b, off + k * 2, none⟩) hblt).trans d0
              have x1 := (hb.cell (p := ⟨b, off + k * 2 + 1, none⟩) hblt).trans d1
              have HTRL : Hid (((grV V).tr k).length = V[k].tr.length) := Lib.hid (by rw [(grV_at hget).2, List.length_map])
              have HTR := Lib.hid (fun (m : Nat) (z : Int) (hz : V[k].tr[m]? = some z) => HOK.out.at_tr hget hz)
              have h4 : V[k].tr.length ≤ 4 := trust_four (HOK.out.tr k _ hget)
              have HI := Lib.hid hI
              clear hget d0 d1 hI
              generalize V[k] = a at *
              go_upto_region 13 with (fail)
              obtain ⟨U, hU⟩ : ∃ U : World, U = wr.alloc (.cells #[.bool a.sp, .slice A1 a.tr.length c1] 52) := ⟨_, rfl⟩
              change Code.wp _ _ _ _ (wr.alloc (.cells #[.bool a.sp, .slice A1 a.tr.length c1] 52))
              have bU : Below wr.heap.size wr U := by rw [hU]; exact (Below.refl _ _).alloc (Nat.le_refl _) _
              have a2 : Row U wr.heap.size [.bool a.sp, .slice A1 a.tr.length c1] := by rw [hU]; exact Row.new wr _ _
              have y0 := a2.cell 0 _ rfl
              have y1 := a2.cell 1 _ rfl
              have hbU := hb.trans (bU.mono hb.size)
              have hgU : w.heap.size < U.heap.size := Nat.lt_of_lt_of_le hgr bU.size
              have HRU := Lib.hid (HRK.out.below bU hgr)
              rw [← hU]
              clear hU a2 bU x0 x1
              cases hs : a.sp with
              | true =>
                rw [hs] at y0 HSP
                have HN : Hid (Row U w.heap.size (costL (passI (grV V) [] c (runI (grV V) [] c q) (k + 1)) V.length)) := Lib.hid (by rw [passI_off1 HSP.out]; exact HRU.out)
                go_wp2
                go_roundw
                case rel => exact ⟨k + 1, by omega, by go_num, HN.out, hbU, hgU⟩
                case measure => simp [RowKit.intOf]; omega
              | false =>
                rw [hs] at y0 HSP
                have HN : Hid (passI (grV V) [] c (runI (grV V) [] c q) (k + 1) = inI (grV V) c k (passI (grV V) [] c (runI (grV V) [] c q) k) a.tr.length) := Lib.hid (by rw [passI_on1 HSP.out, HTRL.out])
                have HSM := Lib.hid (fun (m j : Nat) => (state_small (B := []) HOK.out.gr HOK.out.n12 HCO.out (r := q) (i := k) (by omega) hk m j).2)
                have HB2 := Lib.hid hbU
                clear hb hbU HRK
                generalize passI (grV V) [] c (runI (grV V) [] c q) k = C at *
                go_wp2
                go_loopw [10, 11, 45] (fun _ _ i wr => ∃ m : Nat, m ≤ a.tr.length ∧ i = .int .i64 (m : Int) ∧ Row wr w.heap.size (costL (inI (grV V) c k C m) V.length) ∧ Below w.heap.size w wr ∧ w.heap.size < wr.heap.size) (fun _ _ i _ => a.tr.length - (RowKit.intOf i).toNat)
                case atStart => exact ⟨0, Nat.zero_le _, rfl, HRU.out, HB2.out, hgU⟩
                case round =>
                  obtain ⟨m, hm, rfl, hrow, hb, hgr⟩ := hrel
                  have HRM := Lib.hid hrow
                  have HBM := Lib.hid hb
                  clear HRU HB2 hrow
                  by_cases hml : m < a.tr.length
                  · have hz : a.tr[m]? = some a.tr[m] := List.getElem?_eq_getElem hml
                    obtain ⟨b3, o3, rfl, hb3, e0⟩ := ints_get HI.out hz
                    have x2 := (hb.cell (p := ⟨b3, o3 + m, none⟩) hb3).trans e0
                    obtain ⟨t1, t2, t3, t4⟩ := HTR.out m _ hz
                    obtain ⟨t, ht⟩ : ∃ t : Nat, t = a.tr[m].toNat := ⟨_, rfl⟩
                    rw [← ht] at t1 t2 t3 t4
                    rw [← t2] at x2
                    have HST := Lib.hid (inI_succ (c := c) (C := C) t1)
                    have q1 := HSM.out m t
                    have q2 := HSM.out m k
                    have hcm := HCO.out m (by omega)
                    have x3 := HRM.out.cell t _ (costL_get t3)
                    have x4 := HRM.out.cell k _ (costL_get hlt)
                    have HFR := Lib.hid (HRM.out.free k (by rw [costL_len]; exact hlt))
                    have hki : (k : Int) < (V.length : Int) := by omega
                    have hti : (t : Int) < (V.length : Int) := by omega
                    have hcc := HCALL.out m
                    rw [← (IntWalk.i64_in ((m : Int) + 1) (by omega) : IntKind.i64.wrap ((m : Int) + 1) = (m : Int) + 1)] at hcc
                    have HCC := Lib.hid hcc
                    clear ht t1 t2 hz e0 hb hcc
                    generalize inI (grV V) c k C m = D at *
                    obtain ⟨x, hx⟩ : ∃ x, x = D t := ⟨_, rfl⟩
                    obtain ⟨y, hy⟩ : ∃ y, y = D k := ⟨_, rfl⟩
                    obtain ⟨s, hs'⟩ : ∃ s, s = c (m + 1) := ⟨_, rfl⟩
                    rw [← hx] at x3 q1
                    rw [← hy] at x4 q2
                    rw [← hs'] at hcm HCC
                    have HX := Lib.hid hx
                    have HY := Lib.hid hy
                    have HS := Lib.hid hs'
                    clear hx hy hs'
                    go_upto_region 17 with (fail)
                    go_still_tail 17, (by kernel_rfl)
                    still_call (HCC.out _)
                    repeat still_step
                    refine wpStill_nil ?_
                    change wpList _ _ _ _ _ wr.drew
                    have bd : Below wr.heap.size wr wr.drew := (Below.refl _ _).drew
                    have HR2 := Lib.hid (HRM.out.below bd hgr)
                    have HB2 := Lib.hid (HBM.out.trans (bd.mono HBM.out.size))
                    have hgr2 := Nat.lt_of_lt_of_le hgr bd.size
                    have HX4 := Lib.hid (HR2.out.cell k _ (costL_get hlt))
                    have HF4 := Lib.hid (HR2.out.free k (by rw [costL_len]; exact hlt))
                    clear x2 x3 x4 bd
                    generalize wr.drew = W2 at *
                    have x4 := HX4.out
                    have f4 := HF4.out
                    rw [(IntWalk.i64_in (x + s) (by omega) : IntKind.i64.wrap (x + s) = x + s)]
                    obtain ⟨z, hz⟩ : ∃ z, z = min y (x + s) := ⟨_, rfl⟩
                    rw [← hz]
                    have HN2 : Hid (Row (W2.setCell ⟨w.heap.size, k, none⟩ (.int .i64 z)) w.heap.size (costL (inI (grV V) c k C (m + 1)) V.length)) := Lib.hid (by
                      have e : stepI D k t s = fun j => if j = k then z else D j := by
                        funext j
                        unfold stepI
                        rw [← HX.out, ← HY.out, ← hz]
                      rw [HST.out, ← HS.out, e, ← costL_set]
                      exact HR2.out.set k _ (by rw [costL_len]; exact hlt))
                    have hb9 := HB2.out.setCell (p := ⟨w.heap.size, k, none⟩) (Nat.le_refl _) (.int .i64 z)
                    have hgr9 : w.heap.size < (W2.setCell ⟨w.heap.size, k, none⟩ (.int .i64 z)).heap.size := by simpa using hgr2
                    clear hz
                    go_wp2
                    go_roundw
                    case rel => exact ⟨m + 1, by omega, by go_num, HN2.out, hb9, hgr9⟩
                    case measure => simp [RowKit.intOf]; omega
                  · have hge : ¬ (m : Int) < (a.tr.length : Int) := by omega
                    have HN2 : Hid (Row wr w.heap.size (costL (passI (grV V) [] c (runI (grV V) [] c q) (k + 1)) V.length)) := Lib.hid (by
                      rw [HN.out]
                      have : m = a.tr.length := by omega
                      rw [← this]
                      exact HRM.out)
                    go_wp2
                    go_roundw
                    case rel => exact ⟨k + 1, by omega, by go_num, HN2.out, hb, hgr⟩
                    case measure => simp [RowKit.intOf]; omega
            · have hge : ¬ (k : Int) < (V.length : Int) := by omega
              have HN : Hid (Row wr w.heap.size (costL (runI (grV V) [] c (q + 1)) V.length)) := Lib.hid (by
                have : k = V.length := by omega
                rw [runI]
                show Row wr w.heap.size (costL (passI (grV V) [] c (runI (grV V) [] c q) V.length) V.length)
                rw [← this] at HRK ⊢
                exact HRK.out)
              go_wp2
              go_roundw
              case rel => exact ⟨q + 1, by omega, by go_num, HN.out, hb, hgr⟩
              case measure => simp [RowKit.intOf]; omega
        · have hge : ¬ (q : Int) < (V.length : Int) := by omega
          have HN : Hid (Row wr w.heap.size (costL (runI (grV V) [] c V.length) V.length)) := Lib.hid (by
            have : q = V.length := by omega
            rw [← this] at HRQ ⊢
            exact HRQ.out)
          go_wp2
          go_ret
          exact ⟨w.heap.size, Nat.le_refl _, hgr, rfl, HN.out, hb⟩
end Go.Proofs.Ytihhbkijcebapaa

namespace Go.Proofs.Ytihhbkijcebapaa
open Go.RowKit Go.Lib

set_option maxHeartbeats 1000000 in
theorem cost1_any (z : Int) (W : World) : Calls Try.prog 30 #[.int .i64 z] W (fun e w' => e = .returned (.int .i64 1) ∧ w' = W) := by
  go_enter Try.func30, Try.ntmps30
  go_wp2
  go_ret
  exact ⟨rfl, rfl⟩
set_option maxHeartbeats 1000000 in
theorem cost2_any (z : Int) (W : World) : Calls Try.prog 31 #[.int .i64 z] W (fun e w' => e = .returned (.int .i64 z) ∧ w' = W) := by
  go_enter Try.func31, Try.ntmps31
  go_wp2
  go_ret
  exact ⟨rfl, rfl⟩
theorem still_q {P : Program} {f : FuncId} {args : Array Value} {W : World} {v : Value} (h : Calls P f args W (fun e w' => e = .returned v ∧ w' = W)) : Calls P f args W (RetQ v W) :=
  h.mono fun _ _ ⟨he, hw⟩ => ⟨he, 0, hw⟩
theorem enters_c1 : ∀ args w, (callFunc 30 args).run Try.prog w = .ok (.enter 30 args) w := enters_of Try.func30 (by kernel_rfl) rfl
theorem enters_c2 : ∀ args w, (callFunc 31 args).run Try.prog w = .ok (.enter 31 args) w := enters_of Try.func31 (by kernel_rfl) rfl
theorem rank1 (k : Nat) : rankCost 1 (k + 1) = (k : Int) + 1 := by unfold rankCost; simp
theorem rank_no {rule : Int} (h : rule ≠ 1) (k : Nat) : rankCost rule (k + 1) = 1 := by unfold rankCost; rw [if_neg h]
theorem contains2_val (zs : List Int) (x : Int) (w : World) (v : Value) (r : Bool) (h : Ints w w.heap.size v zs) (hr : zs.contains x = r) : Calls Try.prog 24 #[v, .int .i64 x] w (RetQ (.bool r) w) := hr ▸ contains_any zs x w v h
/-- A later world. -/
def Beh (W w' : World) : Prop := Below W.heap.size W w'
theorem Beh.go {W a b : World} (h2 : Below a.heap.size a b) (h1 : Beh W a) : Beh W b := Below.trans h1 (Below.mono h2 (Below.size h1))
theorem Beh.draw {W a : World} (h1 : Beh W a) : Beh W a.drew := Below.drew h1
def Best2Post (V : List Voi) (rule : Int) (m : Nat) (w : World) (e : Ending) (w' : World) : Prop :=
  (e = .returned (.slice none 0 0) ∧ BestP (grV V) rule m [] ∧ Below w.heap.size w w') ∨
  ∃ p g c, e = .returned (.slice (some ⟨g, 0, none⟩) p.length c) ∧ BestP (grV V) rule m p ∧ p ≠ [] ∧ OwnL intCells (barL p) w.heap.size w' (.slice (some ⟨g, 0, none⟩) p.length c) ∧ Below w.heap.size w w'

set_option maxRecDepth 100000 in
set_option maxHeartbeats 8000000 in
theorem best2a_any (V : List Voi) (m : Nat) (v : Value) (w : World) (hV : Vois w w.heap.size v V) (hok : VoisOk V) (hm : m < V.length) :
    Calls Try.prog 19 #[v, .int .i64 2, .int .i64 (m : Int)] w (Best2Post V 2 m w) := by
  have HE0 := Lib.hid (ends2_any V [] m v (.slice none 0 0) w hV hok hm (by simp) (Or.inl ⟨rfl, rfl⟩))
  have HEP := Lib.hid (fun (p : List Nat) (t g2 cap : Nat) (W : World) (hb : Below w.heap.size w W) (ht : t < V.length) (hp : Ints W W.heap.size (.slice (some ⟨g2, 0, none⟩) p.length cap) (barL p)) (hpl : p.length ≤ 600) => ends2_any V p t v (.slice (some ⟨g2, 0, none⟩) p.length cap) W (hV.on hb hb.size) hok ht hpl (Or.inr ⟨⟨g2, 0, none⟩, cap, by rw [barL_len], hp⟩))
  have HDI := Lib.hid (fun (W : World) (hb : Below w.heap.size w W) => dist2_any V (rankCost 2) (rankCost_ok 2) 30 enters_c1 (fun k W => by rw [rank_no (rule := 2) (by decide) k]; exact cost1_any ((k : Int) + 1) W) v W (hV.on hb hb.size) hok)
  obtain ⟨A, c0, rfl, hc0, hm0, hel⟩ := vois_at hV
  have hn1 := hok.n1
  have hn12 := hok.n12
  obtain ⟨b, off, rfl, hblt, hcell⟩ := hel (by omega)
  have HEL := Lib.hid hcell
  have HOK := Lib.hid hok
  obtain ⟨i0, hi, hz0, hz1, hz2⟩ := info_parts Try.infoI
  have HGOI : Hid (∀ hr, Going (grV V) 2 m [m] m) := Lib.hid (fun hr => Going.init hok.gr (show (grV V).n ≤ 12 from hn12) hm hr)
  have HGN := Lib.hid (fun p a (h : Going (grV V) 2 m p a) => h.len hok.gr (show (grV V).n ≤ 12 from hn12) hm)
  have HDD : Hid (∀ j, 0 ≤ runI (grV V) [] (rankCost 2) V.length j ∧ runI (grV V) [] (rankCost 2) V.length j ≤ 1000) := Lib.hid (fun j => ⟨(Keeps.run (B := []) hok.gr (rankCost_ok 2) V.length).pos j, (Keeps.run (B := []) hok.gr (rankCost_ok 2) V.length).top j⟩)
  unfold EndsPost at HE0
  unfold DistPost at HDI
  unfold Best2Post
  clear hV hok hel hcell
  go_enter Try.func19, Try.ntmps19
  go_wp2_with (fail)
  refine HE0.out.mono ?_
  rintro e w1 ⟨A1, n1, c1, rfl, hn1k, hrch, hb1⟩
  have HRC := Lib.hid hrch
  clear hrch HE0
  by_cases h0 : n1 = 0
  · subst h0
    have HNR : Hid (BestP (grV V) 2 m []) := Lib.hid (Or.inl ⟨rfl, fun h => by have := HRC.out.2 h; omega⟩)
    go_wp2
    go_ret
    exact .inl ⟨rfl, HNR.out, hb1⟩
  · have hne : ((n1 : Int) == 0) = false := by simp; omega
    have HRM : Hid (Reach (grV V) [] m) := Lib.hid (HRC.out.1 (by omega))
    have HG0 := Lib.hid (HGOI.out HRM.out)
    have HB1 := Lib.hid hb1
    have HDI1 := Lib.hid (HDI.out w1 hb1)
    clear hb1 HDI
    go_wp2_with (fail)
    refine HDI1.out.mono ?_
    rintro e w2 ⟨g, hg0, hgl, rfl, hrow, hb2⟩
    have HB2 := Lib.hid (HB1.out.trans (hb2.mono HB1.out.size))
    have HP0 := Lib.hid ((PathO.one w2 m).less HB2.out.size)
    have HB3 := Lib.hid (HB2.out.alloc HB2.out.size (.cells #[.int .i64 (m : Int)] 2))
    have HROW2 := Lib.hid (hrow.below ((Below.refl w2.heap.size w2).alloc (Nat.le_refl _) (.cells #[.int .i64 (m : Int)] 2)) hgl)
    have hg1 : g ≠ w2.heap.size := by omega
    have hg2 : g < (w2.alloc (.cells #[.int .i64 (m : Int)] 2)).heap.size := by simp; omega
    clear hrow hb2 HDI1
    go_wp2
    go_loopw [9, 10, 11, 12, 43] (fun vp _ _ _ _ wr => ∃ (p : List Nat) (a g2 cap : Nat), vp = .slice (some ⟨g2, 0, none⟩) p.length cap ∧ PathO wr w.heap.size g2 cap p ∧ Going (grV V) 2 m p a ∧ Row wr g (costL (runI (grV V) [] (rankCost 2) V.length) V.length) ∧ g ≠ g2 ∧ g < wr.heap.size ∧ Below w.heap.size w wr) (fun vp _ _ _ _ _ => 600 - lenV vp)
    case atStart => exact ⟨[m], m, w2.heap.size, 1, rfl, HP0.out, HG0.out, HROW2.out, hg1, hg2, HB3.out⟩
    case round =>
      obtain ⟨p, a, g2, cap, rfl, hpo, hgo, hrow, hgg, hgl, hb⟩ := hrel
      have HPO := Lib.hid hpo
      have HGO := Lib.hid hgo
      have HROW := Lib.hid hrow
      have HB := Lib.hid hb
      have halt : a < V.length := hgo.alt
      have hpl := HGN.out p a hgo
      obtain ⟨q, hq⟩ := hgo.last
      have hql : p.length = q.length + 1 := by rw [hq]; simp
      have z0 : ∀ y : Aft wr, y.val.cell? ⟨g2, q.length, none⟩ = some (.int .i64 (a : Int)) := fun y => y.cell ((ints_get hpo.ints (k := q.length) (z := (a : Int)) (by
        rw [hq, barL_snoc, List.getElem?_append_right (by rw [barL_len]; exact Nat.le_refl _), barL_len, Nat.sub_self]
        rfl)).elim (fun b0 h => by
          obtain ⟨o0, e0, _, h0⟩ := h
          injection e0 with e0
          injection e0 with e1 e2
          rw [← e1, ← e2, Nat.zero_add] at h0
          exact h0))
      have hget : V[a]? = some V[a] := List.getElem?_eq_getElem halt
      obtain ⟨A1, c1, d0, d1, hc1, hI⟩ := HEL.out a _ hget
      have x0 := fun y : Aft wr => y.cell ((hb.cell (p := ⟨b, off + a * 2, none⟩) hblt).trans d0)
      have x1 := fun y : Aft wr => y.cell ((hb.cell (p := ⟨b, off + a * 2 + 1, none⟩) hblt).trans d1)
      have HSP : Hid ((grV V).sp a = V[a].sp) := Lib.hid (grV_at hget).1
      have HTRL : Hid (((grV V).tr a).length = V[a].tr.length) := Lib.hid (by rw [(grV_at hget).2, List.length_map])
      have HTR := Lib.hid (fun (m : Nat) (z : Int) (hz : V[a].tr[m]? = some z) => HOK.out.at_tr hget hz)
      have h4 : V[a].tr.length ≤ 4 := trust_four (HOK.out.tr a _ hget)
      have HI := Lib.hid hI
      have hai : (a : Int) < (V.length : Int) := by omega
      obtain ⟨u0, hu0⟩ : ∃ y : Aft wr, y.val = wr := ⟨⟨wr, Below.refl _ _⟩, rfl⟩
      rw [← hu0, hql]
      have HU0 := Lib.hid hu0
      have HQL := Lib.hid hql
      have hll : q.length + 1 ≤ 577 := by omega
      clear hu0 hget hI d0 d1 hpo hgo hrow hb hq hql
      have hql := HQL.out
      generalize q.length = l at *
      generalize V[a] = va at *
      cases hs : va.sp with
      | true =>
        rw [hs] at x0 HSP
        have HBP := Lib.hid (HGO.out.best HRM.out HSP.out)
        have HOW := Lib.hid (HPO.out.own)
        have HPN : Hid (p ≠ []) := Lib.hid (fun e => by rw [e] at hql; simp at hql)
        clear hql
        go_wp2
        go_ret
        exact .inr ⟨p, g2, cap, by rw [HQL.out]; rfl, HBP.out, HPN.out, by rw [HU0.out]; exact HOW.out, by rw [HU0.out]; exact HB.out⟩
      | false =>
        rw [hs] at x0 HSP
        have HNX := Lib.hid (HGO.out.next HOK.out.gr HSP.out)
        have HQ2 := Lib.hid hql
        clear hql
        go_wp2
        go_loopw [9, 11, 12, 43] (fun vp _ _ i wr' => ∃ (k : Nat) (u : Aft wr), k ≤ va.tr.length ∧ i = .int .i64 (k : Int) ∧ vp = .slice (some ⟨g2, 0, none⟩) (l + 1) cap ∧ wr' = u.val ∧ ∀ k', k' < k → ∀ t', ((grV V).tr a)[k']? = some t' → (fun (_ t' : Nat) => ¬ Reach (grV V) p t') k' t') (fun _ _ _ i _ => va.tr.length - (RowKit.intOf i).toNat)
        case atStart => exact ⟨0, u0, Nat.zero_le _, rfl, rfl, rfl, fun k' hk' => absurd hk' (Nat.not_lt_zero _)⟩
        case round =>
          obtain ⟨k, u1, hk, rfl, rfl, rfl, hno⟩ := hrel
          have HNO := Lib.hid hno
          clear hno
          by_cases hkl : k < va.tr.length
          · have hz : va.tr[k]? = some va.tr[k] := List.getElem?_eq_getElem hkl
            obtain ⟨b3, o3, rfl, hb3, e0⟩ := ints_get HI.out hz
            have x2 := fun y : Aft wr => y.cell ((HB.out.cell (p := ⟨b3, o3 + k, none⟩) hb3).trans e0)
            obtain ⟨t1, t2, t3, t4⟩ := HTR.out k _ hz
            obtain ⟨t, ht⟩ : ∃ t : Nat, t = va.tr[k].toNat := ⟨_, rfl⟩
            rw [← ht] at t1 t2 t3 t4
            rw [← t2] at x2
            have HT1 := Lib.hid t1
            have hti : (t : Int) < (V.length : Int) := by omega
            clear ht t1 t2 hz e0
            have hql := HQ2.out
            have HPI := Lib.hid (fun y : Aft wr => (HPO.out.below y.ok).ints)
            rw [hql] at HPI
            by_cases hin : t ∈ p
            · have hcn : (barL p).contains (t : Int) = true := bar_has.trans (List.contains_iff_mem.2 hin)
              have HN2 : Hid (∀ k', k' < k + 1 → ∀ t', ((grV V).tr a)[k']? = some t' → (fun _ t' => ¬ Reach (grV V) p t') k' t') := Lib.hid (fun k' hk' t' ht' => by
                by_cases e : k' = k
                · subst e
                  rw [HT1.out] at ht'
                  injection ht' with ht'
                  subst ht'
                  exact fun h => h.free hin
                · exact HNO.out k' (by omega) t' ht')
              have HCN := Lib.hid hcn
              clear hin hcn HNO
              go_wp2_with (fail)
              refine wp_region_at (by kernel_rfl) (by kernel_rfl) ?_
              repeat (go_big_quiet_step ((first | (go_at_call 24; exact aft_q (contains2_val _ _ _ _ _ (HPI.out _) HCN.out)))))
              refine wpQuiet_nil ?_
              rintro _ ⟨u, rfl⟩
              go_wp2
              go_roundw
              case rel => exact ⟨k + 1, u, by omega, by go_num, rfl, rfl, HN2.out⟩
              case measure => simp [RowKit.intOf]; omega
            · have hcn : (barL p).contains (t : Int) = false := by
                rw [bar_has]
                simpa using hin
              have HCN := Lib.hid hcn
              have HCC := Lib.hid (fun (W : World) (h : Beh wr W) => retQ_b (contains2_val _ (t : Int) W _ _ (HPO.out.below h).ints HCN.out))
              rw [hql] at HCC
              have HEE := Lib.hid (fun (W : World) (h : Beh wr W) => HEP.out p t g2 cap W (HB.out.trans (Below.mono h HB.out.size)) t3 (HPO.out.below h).ints (by omega))
              rw [hql] at HEE
              unfold EndsPost at HEE
              have hS0 : Beh wr u1.val := u1.ok
              clear hin hcn
              go_upto_region 13 with (fail)
              obtain ⟨w1, hw1⟩ : ∃ w1, w1 = u1.val := ⟨_, rfl⟩
              rw [← hw1] at hS0 ⊢
              clear hw1 x0 x1 x2 z0
              by_cases hr : Reach (grV V) p t
              · have HNT : Hid (NextT (grV V) 2 p a t) := Lib.hid (nextT_deep HT1.out hr HNO.out)
                have HRR := Lib.hid hr
                clear hr HNO
                refine wp_region_held_drew (S := fun w' => Beh wr w') (by kernel_rfl) hS0.draw (fun hHeld => ?_)
                refine wpAnyH_take (i := 0) (v := ?_) rfl (by kernel_rfl) (by kernel_rfl) (by kernel_rfl) (fun _ _ _ h => h) (Or.inl ⟨by rfl, ?_⟩) (by assumption) ?_
                rotate_left
                · intro w hSw
                  simp only [List.getElem_toArray, List.getElem_cons_zero]
                  first | (go_simp; done) | (go_simp; with_reducible rfl)
                simp only [Act.put, List.getElem_toArray, List.getElem_cons_zero, List.setIfInBounds_toArray, List.set_cons_zero, List.set_cons_succ]
                refine wpAnyH_take (i := 1) (v := ?_) rfl (by kernel_rfl) (by kernel_rfl) (by kernel_rfl) (fun _ _ _ h => h) (Or.inl ⟨by rfl, ?_⟩) (by assumption) ?_
                rotate_left
                · intro w hSw
                  simp only [List.getElem_toArray, List.getElem_cons_zero, List.getElem_cons_succ]
                  first | (go_simp; done) | (go_simp; with_reducible rfl)
                simp only [Act.put, List.getElem_toArray, List.getElem_cons_zero, List.getElem_cons_succ, List.setIfInBounds_toArray, List.set_cons_zero, List.set_cons_succ]
                refine wpAnyH_take (i := 2) (v := ?_) rfl (by kernel_rfl) (by kernel_rfl) (by kernel_rfl) (fun _ _ _ h => h) (Or.inl ⟨by rfl, ?_⟩) (by assumption) ?_
                rotate_left
                · intro w hSw
                  simp only [List.getElem_toArray, List.getElem_cons_zero, List.getElem_cons_succ]
                  first | (go_simp; done) | (go_simp; with_reducible rfl)
                simp only [Act.put, List.getElem_toArray, List.getElem_cons_zero, List.getElem_cons_succ, List.setIfInBounds_toArray, List.set_cons_zero, List.set_cons_succ]
                refine wpAnyH_take (i := 3) (v := ?_) rfl (by kernel_rfl) (by kernel_rfl) (by kernel_rfl) (fun _ _ _ h => h) (Or.inl ⟨by rfl, ?_⟩) (by assumption) ?_
                rotate_left
                · intro w hSw
                  simp only [List.getElem_toArray, List.getElem_cons_zero, List.getElem_cons_succ]
                  first | (go_simp; done) | (go_simp; with_reducible rfl)
                simp only [Act.put, List.getElem_toArray, List.getElem_cons_zero, List.getElem_cons_succ, List.setIfInBounds_toArray, List.set_cons_zero, List.set_cons_succ]
                refine wpAnyH_take (i := 4) (v := ?_) rfl (by kernel_rfl) (by kernel_rfl) (by kernel_rfl) (fun _ _ _ h => h) (Or.inl ⟨by rfl, ?_⟩) (by assumption) ?_
                rotate_left
                · intro w hSw
                  simp only [List.getElem_toArray, List.getElem_cons_zero, List.getElem_cons_succ]
                  first | (go_simp; done) | (go_simp; with_reducible rfl)
                simp only [Act.put, List.getElem_toArray, List.getElem_cons_zero, List.getElem_cons_succ, List.setIfInBounds_toArray, List.set_cons_zero, List.set_cons_succ]
                refine wpAnyH_ready (rs := [5]) (by kernel_rfl) (by simp) ?_
                refine AllReadyH.cons rfl (fun K hK => ?_) AllReadyH.nil
                simp only [List.getElem_toArray, List.getElem_cons_zero, List.getElem_cons_succ]
                go_simp
                go_at_call 24
                refine Calls.mono (HCC.out _ hHeld) ?_
                rintro e w3 ⟨rfl, hb3⟩
                skip
                refine hK.out _ _ (Beh.go hb3 hHeld) (fun hHeld2 => ?_)
                clear hK K hHeld
                have hHeld := hHeld2
                clear hHeld2
                try simp only [Act.put, List.setIfInBounds_toArray, List.set_cons_zero, List.set_cons_succ]
                refine wpAnyH_take (i := 6) (v := ?_) rfl (by kernel_rfl) (by kernel_rfl) (by kernel_rfl) (fun _ _ _ h => h) (Or.inl ⟨by rfl, ?_⟩) (by assumption) ?_
                rotate_left
                · intro w hSw
                  simp only [List.getElem_toArray, List.getElem_cons_zero, List.getElem_cons_succ]
                  first | (go_simp; done) | (go_simp; with_reducible rfl)
                simp only [Act.put, List.getElem_toArray, List.getElem_cons_zero, List.getElem_cons_succ, List.setIfInBounds_toArray, List.set_cons_zero, List.set_cons_succ]
                refine wpAnyH_take (i := 7) (v := ?_) rfl (by kernel_rfl) (by kernel_rfl) (by kernel_rfl) (fun _ _ _ h => h) (Or.inl ⟨by rfl, ?_⟩) (by assumption) ?_
                rotate_left
                · intro w hSw
                  simp only [List.getElem_toArray, List.getElem_cons_zero, List.getElem_cons_succ]
                  first | (go_simp; done) | (go_simp; with_reducible rfl)
                simp only [Act.put, List.getElem_toArray, List.getElem_cons_zero, List.getElem_cons_succ, List.setIfInBounds_toArray, List.set_cons_zero, List.set_cons_succ]
                refine wpAnyH_take (i := 8) (v := ?_) rfl (by kernel_rfl) (by kernel_rfl) (by kernel_rfl) (fun _ _ _ h => h) (Or.inl ⟨by rfl, ?_⟩) (by assumption) ?_
                rotate_left
                · intro w hSw
                  simp only [List.getElem_toArray, List.getElem_cons_zero, List.getElem_cons_succ]
                  first | (go_simp; done) | (go_simp; with_reducible rfl)
                simp only [Act.put, List.getElem_toArray, List.getElem_cons_zero, List.getElem_cons_succ, List.setIfInBounds_toArray, List.set_cons_zero, List.set_cons_succ]
                refine wpAnyH_take (i := 9) (v := ?_) rfl (by kernel_rfl) (by kernel_rfl) (by kernel_rfl) (fun _ _ _ h => h) (Or.inl ⟨by rfl, ?_⟩) (by assumption) ?_
                rotate_left
                · intro w hSw
                  simp only [List.getElem_toArray, List.getElem_cons_zero, List.getElem_cons_succ]
                  first | (go_simp; done) | (go_simp; with_reducible rfl)
                simp only [Act.put, List.getElem_toArray, List.getElem_cons_zero, List.getElem_cons_succ, List.setIfInBounds_toArray, List.set_cons_zero, List.set_cons_succ]
                refine wpAnyH_take (i := 10) (v := ?_) rfl (by kernel_rfl) (by kernel_rfl) (by kernel_rfl) (fun _ _ _ h => h) (Or.inl ⟨by rfl, ?_⟩) (by assumption) ?_
                rotate_left
                · intro w hSw
                  simp only [List.getElem_toArray, List.getElem_cons_zero, List.getElem_cons_succ]
                  first | (go_simp; done) | (go_simp; with_reducible rfl)
                simp only [Act.put, List.getElem_toArray, List.getElem_cons_zero, List.getElem_cons_succ, List.setIfInBounds_toArray, List.set_cons_zero, List.set_cons_succ]
                refine wpAnyH_take (i := 11) (v := ?_) rfl (by kernel_rfl) (by kernel_rfl) (by kernel_rfl) (fun _ _ _ h => h) (Or.inl ⟨by rfl, ?_⟩) (by assumption) ?_
                rotate_left
                · intro w hSw
                  simp only [List.getElem_toArray, List.getElem_cons_zero, List.getElem_cons_succ]
                  first | (go_simp; done) | (go_simp; with_reducible rfl)
                simp only [Act.put, List.getElem_toArray, List.getElem_cons_zero, List.getElem_cons_succ, List.setIfInBounds_toArray, List.set_cons_zero, List.set_cons_succ]
                refine wpAnyH_ready (rs := [12]) (by kernel_rfl) (by simp) ?_
                refine AllReadyH.cons rfl (fun K hK => ?_) AllReadyH.nil
                simp only [List.getElem_toArray, List.getElem_cons_zero, List.getElem_cons_succ]
                go_simp
                go_at_call 29
                refine Calls.mono (HEE.out _ hHeld) ?_
                rintro e w4 ⟨A5, n5, c5, rfl, hn5, hre, hb4⟩
                obtain ⟨n6, rfl⟩ : ∃ n6, n5 = n6 + 1 := ⟨n5 - 1, by have := hre.2 HRR.out; omega⟩
                refine hK.out _ _ (Beh.go hb4 hHeld) (fun hHeld2 => ?_)
                clear hK K hHeld
                have hHeld := hHeld2
                clear hHeld2
                try simp only [Act.put, List.setIfInBounds_toArray, List.set_cons_zero, List.set_cons_succ]
                refine wpAnyH_take (i := 13) (v := ?_) rfl (by kernel_rfl) (by kernel_rfl) (by kernel_rfl) (fun _ _ _ h => h) (Or.inl ⟨by rfl, ?_⟩) (by assumption) ?_
                rotate_left
                · intro w hSw
                  simp only [List.getElem_toArray, List.getElem_cons_zero, List.getElem_cons_succ]
                  first | (go_simp; done) | (go_simp; with_reducible rfl)
                simp only [Act.put, List.getElem_toArray, List.getElem_cons_zero, List.getElem_cons_succ, List.setIfInBounds_toArray, List.set_cons_zero, List.set_cons_succ]
                refine wpAnyH_take (i := 14) (v := ?_) rfl (by kernel_rfl) (by kernel_rfl) (by kernel_rfl) (fun _ _ _ h => h) (Or.inl ⟨by rfl, ?_⟩) (by assumption) ?_
                rotate_left
                · intro w hSw
                  simp only [List.getElem_toArray, List.getElem_cons_zero, List.getElem_cons_succ]
                  first | (go_simp; done) | (go_simp; with_reducible rfl)
                simp only [Act.put, List.getElem_toArray, List.getElem_cons_zero, List.getElem_cons_succ, List.setIfInBounds_toArray, List.set_cons_zero, List.set_cons_succ]
                refine wpAnyH_take (i := 15) (v := ?_) rfl (by kernel_rfl) (by kernel_rfl) (by kernel_rfl) (fun _ _ _ h => h) (Or.inl ⟨by rfl, ?_⟩) (by assumption) ?_
                rotate_left
                · intro w hSw
                  simp only [List.getElem_toArray, List.getElem_cons_zero, List.getElem_cons_succ]
                  first | (go_simp; done) | (go_simp; with_reducible rfl)
                simp only [Act.put, List.getElem_toArray, List.getElem_cons_zero, List.getElem_cons_succ, List.setIfInBounds_toArray, List.set_cons_zero, List.set_cons_succ]
                refine wpAnyH_take (i := 16) (v := ?_) rfl (by kernel_rfl) (by kernel_rfl) (by kernel_rfl) (fun _ _ _ h => h) (Or.inl ⟨by rfl, ?_⟩) (by assumption) ?_
                rotate_left
                · intro w hSw
                  simp only [List.getElem_toArray, List.getElem_cons_zero, List.getElem_cons_succ]
                  first | (go_simp; done) | (go_simp; with_reducible rfl)
                simp only [Act.put, List.getElem_toArray, List.getElem_cons_zero, List.getElem_cons_succ, List.setIfInBounds_toArray, List.set_cons_zero, List.set_cons_succ]
                refine wpAnyH_take (i := 17) (v := undef) rfl (by kernel_rfl) (by kernel_rfl) (by kernel_rfl) (fun _ _ _ h => h) (Or.inr ⟨by rfl, rfl⟩) (by assumption) ?_
                simp only [Act.put, List.getElem_toArray, List.getElem_cons_zero, List.getElem_cons_succ, List.setIfInBounds_toArray, List.set_cons_zero, List.set_cons_succ]
                refine wpAnyH_take (i := 18) (v := undef) rfl (by kernel_rfl) (by kernel_rfl) (by kernel_rfl) (fun _ _ _ h => h) (Or.inr ⟨by rfl, rfl⟩) (by assumption) ?_
                simp only [Act.put, List.getElem_toArray, List.getElem_cons_zero, List.getElem_cons_succ, List.setIfInBounds_toArray, List.set_cons_zero, List.set_cons_succ]
                refine wpAnyH_take (i := 19) (v := undef) rfl (by kernel_rfl) (by kernel_rfl) (by kernel_rfl) (fun _ _ _ h => h) (Or.inr ⟨by rfl, rfl⟩) (by assumption) ?_
                simp only [Act.put, List.getElem_toArray, List.getElem_cons_zero, List.getElem_cons_succ, List.setIfInBounds_toArray, List.set_cons_zero, List.set_cons_succ]
                refine wpAnyH_take (i := 20) (v := undef) rfl (by kernel_rfl) (by kernel_rfl) (by kernel_rfl) (fun _ _ _ h => h) (Or.inr ⟨by rfl, rfl⟩) (by assumption) ?_
                simp only [Act.put, List.getElem_toArray, List.getElem_cons_zero, List.getElem_cons_succ, List.setIfInBounds_toArray, List.set_cons_zero, List.set_cons_succ]
                refine wpAnyH_take (i := 21) (v := undef) rfl (by kernel_rfl) (by kernel_rfl) (by kernel_rfl) (fun _ _ _ h => h) (Or.inr ⟨by rfl, rfl⟩) (by assumption) ?_
                simp only [Act.put, List.getElem_toArray, List.getElem_cons_zero, List.getElem_cons_succ, List.setIfInBounds_toArray, List.set_cons_zero, List.set_cons_succ]
                refine wpAnyH_take (i := 22) (v := undef) rfl (by kernel_rfl) (by kernel_rfl) (by kernel_rfl) (fun _ _ _ h => h) (Or.inr ⟨by rfl, rfl⟩) (by assumption) ?_
                simp only [Act.put, List.getElem_toArray, List.getElem_cons_zero, List.getElem_cons_succ, List.setIfInBounds_toArray, List.set_cons_zero, List.set_cons_succ]
                refine wpAnyH_take (i := 23) (v := undef) rfl (by kernel_rfl) (by kernel_rfl) (by kernel_rfl) (fun _ _ _ h => h) (Or.inr ⟨by rfl, rfl⟩) (by assumption) ?_
                simp only [Act.put, List.getElem_toArray, List.getElem_cons_zero, List.getElem_cons_succ, List.setIfInBounds_toArray, List.set_cons_zero, List.set_cons_succ]
                refine wpAnyH_take (i := 24) (v := undef) rfl (by kernel_rfl) (by kernel_rfl) (by kernel_rfl) (fun _ _ _ h => h) (Or.inr ⟨by rfl, rfl⟩) (by assumption) ?_
                simp only [Act.put, List.getElem_toArray, List.getElem_cons_zero, List.getElem_cons_succ, List.setIfInBounds_toArray, List.set_cons_zero, List.set_cons_succ]
                refine wpAnyH_take (i := 25) (v := undef) rfl (by kernel_rfl) (by kernel_rfl) (by kernel_rfl) (fun _ _ _ h => h) (Or.inr ⟨by rfl, rfl⟩) (by assumption) ?_
                simp only [Act.put, List.getElem_toArray, List.getElem_cons_zero, List.getElem_cons_succ, List.setIfInBounds_toArray, List.set_cons_zero, List.set_cons_succ]
                refine wpAnyH_take (i := 26) (v := undef) rfl (by kernel_rfl) (by kernel_rfl) (by kernel_rfl) (fun _ _ _ h => h) (Or.inr ⟨by rfl, rfl⟩) (by assumption) ?_
                simp only [Act.put, List.getElem_toArray, List.getElem_cons_zero, List.getElem_cons_succ, List.setIfInBounds_toArray, List.set_cons_zero, List.set_cons_succ]
                refine wpAnyH_take (i := 27) (v := undef) rfl (by kernel_rfl) (by kernel_rfl) (by kernel_rfl) (fun _ _ _ h => h) (Or.inr ⟨by rfl, rfl⟩) (by assumption) ?_
                simp only [Act.put, List.getElem_toArray, List.getElem_cons_zero, List.getElem_cons_succ, List.setIfInBounds_toArray, List.set_cons_zero, List.set_cons_succ]
                refine wpAnyH_take (i := 28) (v := undef) rfl (by kernel_rfl) (by kernel_rfl) (by kernel_rfl) (fun _ _ _ h => h) (Or.inr ⟨by rfl, rfl⟩) (by assumption) ?_
                simp only [Act.put, List.getElem_toArray, List.getElem_cons_zero, List.getElem_cons_succ, List.setIfInBounds_toArray, List.set_cons_zero, List.set_cons_succ]
                refine wpAnyH_take (i := 29) (v := undef) rfl (by kernel_rfl) (by kernel_rfl) (by kernel_rfl) (fun _ _ _ h => h) (Or.inr ⟨by rfl, rfl⟩) (by assumption) ?_
                simp only [Act.put, List.getElem_toArray, List.getElem_cons_zero, List.getElem_cons_succ, List.setIfInBounds_toArray, List.set_cons_zero, List.set_cons_succ]
                refine wpAnyH_take (i := 30) (v := undef) rfl (by kernel_rfl) (by kernel_rfl) (by kernel_rfl) (fun _ _ _ h => h) (Or.inr ⟨by rfl, rfl⟩) (by assumption) ?_
                simp only [Act.put, List.getElem_toArray, List.getElem_cons_zero, List.getElem_cons_succ, List.setIfInBounds_toArray, List.set_cons_zero, List.set_cons_succ]
                refine wpAnyH_take (i := 31) (v := undef) rfl (by kernel_rfl) (by kernel_rfl) (by kernel_rfl) (fun _ _ _ h => h) (Or.inr ⟨by rfl, rfl⟩) (by assumption) ?_
                simp only [Act.put, List.getElem_toArray, List.getElem_cons_zero, List.getElem_cons_succ, List.setIfInBounds_toArray, List.set_cons_zero, List.set_cons_succ]
                refine wpAnyH_take (i := 32) (v := undef) rfl (by kernel_rfl) (by kernel_rfl) (by kernel_rfl) (fun _ _ _ h => h) (Or.inr ⟨by rfl, rfl⟩) (by assumption) ?_
                simp only [Act.put, List.getElem_toArray, List.getElem_cons_zero, List.getElem_cons_succ, List.setIfInBounds_toArray, List.set_cons_zero, List.set_cons_succ]
                refine wpAnyH_take (i := 33) (v := undef) rfl (by kernel_rfl) (by kernel_rfl) (by kernel_rfl) (fun _ _ _ h => h) (Or.inr ⟨by rfl, rfl⟩) (by assumption) ?_
                simp only [Act.put, List.getElem_toArray, List.getElem_cons_zero, List.getElem_cons_succ, List.setIfInBounds_toArray, List.set_cons_zero, List.set_cons_succ]
                refine wpAnyH_take (i := 34) (v := undef) rfl (by kernel_rfl) (by kernel_rfl) (by kernel_rfl) (fun _ _ _ h => h) (Or.inr ⟨by rfl, rfl⟩) (by assumption) ?_
                simp only [Act.put, List.getElem_toArray, List.getElem_cons_zero, List.getElem_cons_succ, List.setIfInBounds_toArray, List.set_cons_zero, List.set_cons_succ]
                refine wpAnyH_take (i := 35) (v := ?_) rfl (by kernel_rfl) (by kernel_rfl) (by kernel_rfl) (fun _ _ _ h => h) (Or.inl ⟨by rfl, ?_⟩) (by assumption) ?_
                rotate_left
                · intro w hSw
                  simp only [List.getElem_toArray, List.getElem_cons_zero, List.getElem_cons_succ]
                  first | (go_simp; done) | (go_simp; with_reducible rfl)
                simp only [Act.put, List.getElem_toArray, List.getElem_cons_zero, List.getElem_cons_succ, List.setIfInBounds_toArray, List.set_cons_zero, List.set_cons_succ]
                refine wpAnyH_done (by kernel_rfl) ?_ _
                have ub : Below wr.heap.size wr w4 := hHeld
                clear hre hHeld hS0 hb4 hb3
                have HG9 := Lib.hid (HGO.out.more HOK.out.gr HSP.out HNT.out)
                have HOW := Lib.hid (HPO.out.below ub).row
                rw [HQ2.out] at HOW
                have HBU := Lib.hid (HB.out.trans (ub.mono HB.out.size))
                have HROWU := Lib.hid (HROW.out.below ub hgl)
                have hglu := Nat.lt_of_lt_of_le hgl ub.size
                go_wp2_with (at_builtin; refine wpList_append_own_at _ rfl _ _ 30 rfl w.heap.size 2 i0 (.int .i64 0) 1 8 Try.underlying30 hi hz0 hz1 hz2 rfl (by decide) _ _ _ rfl (HOW.out.alloc _) ⟨w4.heap.size, 0, none⟩ 1 1 (intCells (t : Int)) rfl rfl (fun j u hj => new_at hj) (fun u hu => int_one' _ hu) ?c3 ?c4 (base_le HBU.out.size) ?_)
                case c3 => unfold maxLen; omega
                case c4 => omega
                intro v' w9 hown' hgrow hiff hat
                obtain ⟨g9, cap9, rfl, hdc9, hcm9⟩ := own_some hown' (by simpa using hiff)
                have HB9 := Lib.hid ((HBU.out.alloc HBU.out.size (.cells #[.int .i64 (t : Int)] 2)).grown hgrow (base_le HBU.out.size) (fun j hj => (HOW.out.lt j hj).1))
                have HO9 : Hid (PathO w9 w.heap.size g9 cap9 (p ++ [t])) := Lib.hid (by
                  unfold PathO
                  rw [barL_snoc, flat_snoc, List.length_append, HQ2.out]
                  exact hown')
                have HRW9 := Lib.hid ((HROWU.out.below ((Below.refl w4.heap.size w4).alloc (Nat.le_refl _) (.cells #[.int .i64 (t : Int)] 2)) hglu).touch (F := fun c => c = g2) (by simpa using Nat.lt_succ_of_lt hglu) (Touch.of_grown hgrow (fun c hc => by injection hc with hc; exact hc.symm)) hgg)
                have hgg9 : g ≠ g9 := by
                  rcases hat with h | h <;> injection h with h
                  · exact fun e => hgg (e.trans h)
                  · simp at h; omega
                have hgl9 : g < w9.heap.size := by have := hgrow.size; simp at this; omega
                clear hown' hgrow hiff hat
                go_wp2
                go_roundw
                case rel => exact ⟨p ++ [t], t, g9, cap9, by rw [List.length_append, HQ2.out]; rfl, HO9.out, HG9.out, HRW9.out, hgg9, hgl9, HB9.out⟩
                case measure => simp [lenV]; omega
              · have HRR := Lib.hid hr
                have HN2 : Hid (∀ k', k' < k + 1 → ∀ t', ((grV V).tr a)[k']? = some t' → (fun _ t' => ¬ Reach (grV V) p t') k' t') := Lib.hid (fun k' hk' t' ht' => by
                  by_cases e : k' = k
                  · subst e
                    rw [HT1.out] at ht'
                    injection ht' with ht'
                    subst ht'
                    exact hr
                  · exact HNO.out k' (by omega) t' ht')
                clear hr HNO
                refine wp_region_held_drew (S := fun w' => Beh wr w') (by kernel_rfl) hS0.draw (fun hHeld => ?_)
                refine wpAnyH_take (i := 0) (v := ?_) rfl (by kernel_rfl) (by kernel_rfl) (by kernel_rfl) (fun _ _ _ h => h) (Or.inl ⟨by rfl, ?_⟩) (by assumption) ?_
                rotate_left
                · intro w hSw
                  simp only [List.getElem_toArray, List.getElem_cons_zero]
                  first | (go_simp; done) | (go_simp; with_reducible rfl)
                simp only [Act.put, List.getElem_toArray, List.getElem_cons_zero, List.setIfInBounds_toArray, List.set_cons_zero, List.set_cons_succ]
                refine wpAnyH_take (i := 1) (v := ?_) rfl (by kernel_rfl) (by kernel_rfl) (by kernel_rfl) (fun _ _ _ h => h) (Or.inl ⟨by rfl, ?_⟩) (by assumption) ?_
                rotate_left
                · intro w hSw
                  simp only [List.getElem_toArray, List.getElem_cons_zero, List.getElem_cons_succ]
                  first | (go_simp; done) | (go_simp; with_reducible rfl)
                simp only [Act.put, List.getElem_toArray, List.getElem_cons_zero, List.getElem_cons_succ, List.setIfInBounds_toArray, List.set_cons_zero, List.set_cons_succ]
                refine wpAnyH_take (i := 2) (v := ?_) rfl (by kernel_rfl) (by kernel_rfl) (by kernel_rfl) (fun _ _ _ h => h) (Or.inl ⟨by rfl, ?_⟩) (by assumption) ?_
                rotate_left
                · intro w hSw
                  simp only [List.getElem_toArray, List.getElem_cons_zero, List.getElem_cons_succ]
                  first | (go_simp; done) | (go_simp; with_reducible rfl)
                simp only [Act.put, List.getElem_toArray, List.getElem_cons_zero, List.getElem_cons_succ, List.setIfInBounds_toArray, List.set_cons_zero, List.set_cons_succ]
                refine wpAnyH_take (i := 3) (v := ?_) rfl (by kernel_rfl) (by kernel_rfl) (by kernel_rfl) (fun _ _ _ h => h) (Or.inl ⟨by rfl, ?_⟩) (by assumption) ?_
                rotate_left
                · intro w hSw
                  simp only [List.getElem_toArray, List.getElem_cons_zero, List.getElem_cons_succ]
                  first | (go_simp; done) | (go_simp; with_reducible rfl)
                simp only [Act.put, List.getElem_toArray, List.getElem_cons_zero, List.getElem_cons_succ, List.setIfInBounds_toArray, List.set_cons_zero, List.set_cons_succ]
                refine wpAnyH_take (i := 4) (v := ?_) rfl (by kernel_rfl) (by kernel_rfl) (by kernel_rfl) (fun _ _ _ h => h) (Or.inl ⟨by rfl, ?_⟩) (by assumption) ?_
                rotate_left
                · intro w hSw
                  simp only [List.getElem_toArray, List.getElem_cons_zero, List.getElem_cons_succ]
                  first | (go_simp; done) | (go_simp; with_reducible rfl)
                simp only [Act.put, List.getElem_toArray, List.getElem_cons_zero, List.getElem_cons_succ, List.setIfInBounds_toArray, List.set_cons_zero, List.set_cons_succ]
                refine wpAnyH_ready (rs := [5]) (by kernel_rfl) (by simp) ?_
                refine AllReadyH.cons rfl (fun K hK => ?_) AllReadyH.nil
                simp only [List.getElem_toArray, List.getElem_cons_zero, List.getElem_cons_succ]
                go_simp
                go_at_call 24
                refine Calls.mono (HCC.out _ hHeld) ?_
                rintro e w3 ⟨rfl, hb3⟩
                skip
                refine hK.out _ _ (Beh.go hb3 hHeld) (fun hHeld2 => ?_)
                clear hK K hHeld
                have hHeld := hHeld2
                clear hHeld2
                try simp only [Act.put, List.setIfInBounds_toArray, List.set_cons_zero, List.set_cons_succ]
                refine wpAnyH_take (i := 6) (v := ?_) rfl (by kernel_rfl) (by kernel_rfl) (by kernel_rfl) (fun _ _ _ h => h) (Or.inl ⟨by rfl, ?_⟩) (by assumption) ?_
                rotate_left
                · intro w hSw
                  simp only [List.getElem_toArray, List.getElem_cons_zero, List.getElem_cons_succ]
                  first | (go_simp; done) | (go_simp; with_reducible rfl)
                simp only [Act.put, List.getElem_toArray, List.getElem_cons_zero, List.getElem_cons_succ, List.setIfInBounds_toArray, List.set_cons_zero, List.set_cons_succ]
                refine wpAnyH_take (i := 7) (v := ?_) rfl (by kernel_rfl) (by kernel_rfl) (by kernel_rfl) (fun _ _ _ h => h) (Or.inl ⟨by rfl, ?_⟩) (by assumption) ?_
                rotate_left
                · intro w hSw
                  simp only [List.getElem_toArray, List.getElem_cons_zero, List.getElem_cons_succ]
                  first | (go_simp; done) | (go_simp; with_reducible rfl)
                simp only [Act.put, List.getElem_toArray, List.getElem_cons_zero, List.getElem_cons_succ, List.setIfInBounds_toArray, List.set_cons_zero, List.set_cons_succ]
                refine wpAnyH_take (i := 8) (v := ?_) rfl (by kernel_rfl) (by kernel_rfl) (by kernel_rfl) (fun _ _ _ h => h) (Or.inl ⟨by rfl, ?_⟩) (by assumption) ?_
                rotate_left
                · intro w hSw
                  simp only [List.getElem_toArray, List.getElem_cons_zero, List.getElem_cons_succ]
                  first | (go_simp; done) | (go_simp; with_reducible rfl)
                simp only [Act.put, List.getElem_toArray, List.getElem_cons_zero, List.getElem_cons_succ, List.setIfInBounds_toArray, List.set_cons_zero, List.set_cons_succ]
                refine wpAnyH_take (i := 9) (v := ?_) rfl (by kernel_rfl) (by kernel_rfl) (by kernel_rfl) (fun _ _ _ h => h) (Or.inl ⟨by rfl, ?_⟩) (by assumption) ?_
                rotate_left
                · intro w hSw
                  simp only [List.getElem_toArray, List.getElem_cons_zero, List.getElem_cons_succ]
                  first | (go_simp; done) | (go_simp; with_reducible rfl)
                simp only [Act.put, List.getElem_toArray, List.getElem_cons_zero, List.getElem_cons_succ, List.setIfInBounds_toArray, List.set_cons_zero, List.set_cons_succ]
                refine wpAnyH_take (i := 10) (v := ?_) rfl (by kernel_rfl) (by kernel_rfl) (by kernel_rfl) (fun _ _ _ h => h) (Or.inl ⟨by rfl, ?_⟩) (by assumption) ?_
                rotate_left
                · intro w hSw
                  simp only [List.getElem_toArray, List.getElem_cons_zero, List.getElem_cons_succ]
                  first | (go_simp; done) | (go_simp; with_reducible rfl)
                simp only [Act.put, List.getElem_toArray, List.getElem_cons_zero, List.getElem_cons_succ, List.setIfInBounds_toArray, List.set_cons_zero, List.set_cons_succ]
                refine wpAnyH_take (i := 11) (v := ?_) rfl (by kernel_rfl) (by kernel_rfl) (by kernel_rfl) (fun _ _ _ h => h) (Or.inl ⟨by rfl, ?_⟩) (by assumption) ?_
                rotate_left
                · intro w hSw
                  simp only [List.getElem_toArray, List.getElem_cons_zero, List.getElem_cons_succ]
                  first | (go_simp; done) | (go_simp; with_reducible rfl)
                simp only [Act.put, List.getElem_toArray, List.getElem_cons_zero, List.getElem_cons_succ, List.setIfInBounds_toArray, List.set_cons_zero, List.set_cons_succ]
                refine wpAnyH_ready (rs := [12]) (by kernel_rfl) (by simp) ?_
                refine AllReadyH.cons rfl (fun K hK => ?_) AllReadyH.nil
                simp only [List.getElem_toArray, List.getElem_cons_zero, List.getElem_cons_succ]
                go_simp
                go_at_call 29
                refine Calls.mono (HEE.out _ hHeld) ?_
                rintro e w4 ⟨A5, n5, c5, rfl, hn5, hre, hb4⟩
                obtain rfl : n5 = 0 := Nat.le_zero.1 (Nat.le_of_not_lt (fun h => HRR.out (hre.1 h)))
                refine hK.out _ _ (Beh.go hb4 hHeld) (fun hHeld2 => ?_)
                clear hK K hHeld
                have hHeld := hHeld2
                clear hHeld2
                try simp only [Act.put, List.setIfInBounds_toArray, List.set_cons_zero, List.set_cons_succ]
                refine wpAnyH_take (i := 13) (v := ?_) rfl (by kernel_rfl) (by kernel_rfl) (by kernel_rfl) (fun _ _ _ h => h) (Or.inl ⟨by rfl, ?_⟩) (by assumption) ?_
                rotate_left
                · intro w hSw
                  simp only [List.getElem_toArray, List.getElem_cons_zero, List.getElem_cons_succ]
                  first | (go_simp; done) | (go_simp; with_reducible rfl)
                simp only [Act.put, List.getElem_toArray, List.getElem_cons_zero, List.getElem_cons_succ, List.setIfInBounds_toArray, List.set_cons_zero, List.set_cons_succ]
                refine wpAnyH_take (i := 14) (v := ?_) rfl (by kernel_rfl) (by kernel_rfl) (by kernel_rfl) (fun _ _ _ h => h) (Or.inl ⟨by rfl, ?_⟩) (by assumption) ?_
                rotate_left
                · intro w hSw
                  simp only [List.getElem_toArray, List.getElem_cons_zero, List.getElem_cons_succ]
                  first | (go_simp; done) | (go_simp; with_reducible rfl)
                simp only [Act.put, List.getElem_toArray, List.getElem_cons_zero, List.getElem_cons_succ, List.setIfInBounds_toArray, List.set_cons_zero, List.set_cons_succ]
                refine wpAnyH_take (i := 15) (v := ?_) rfl (by kernel_rfl) (by kernel_rfl) (by kernel_rfl) (fun _ _ _ h => h) (Or.inl ⟨by rfl, ?_⟩) (by assumption) ?_
                rotate_left
                · intro w hSw
                  simp only [List.getElem_toArray, List.getElem_cons_zero, List.getElem_cons_succ]
                  first | (go_simp; done) | (go_simp; with_reducible rfl)
                simp only [Act.put, List.getElem_toArray, List.getElem_cons_zero, List.getElem_cons_succ, List.setIfInBounds_toArray, List.set_cons_zero, List.set_cons_succ]
                refine wpAnyH_take (i := 16) (v := ?_) rfl (by kernel_rfl) (by kernel_rfl) (by kernel_rfl) (fun _ _ _ h => h) (Or.inl ⟨by rfl, ?_⟩) (by assumption) ?_
                rotate_left
                · intro w hSw
                  simp only [List.getElem_toArray, List.getElem_cons_zero, List.getElem_cons_succ]
                  first | (go_simp; done) | (go_simp; with_reducible rfl)
                simp only [Act.put, List.getElem_toArray, List.getElem_cons_zero, List.getElem_cons_succ, List.setIfInBounds_toArray, List.set_cons_zero, List.set_cons_succ]
                refine wpAnyH_take (i := 17) (v := ?_) rfl (by kernel_rfl) (by kernel_rfl) (by kernel_rfl) (fun _ _ _ h => h) (Or.inl ⟨by rfl, ?_⟩) (by assumption) ?_
                rotate_left
                · intro w hSw
                  simp only [List.getElem_toArray, List.getElem_cons_zero, List.getElem_cons_succ]
                  first | (go_simp; done) | (go_simp; with_reducible rfl)
                simp only [Act.put, List.getElem_toArray, List.getElem_cons_zero, List.getElem_cons_succ, List.setIfInBounds_toArray, List.set_cons_zero, List.set_cons_succ]
                refine wpAnyH_take (i := 18) (v := ?_) rfl (by kernel_rfl) (by kernel_rfl) (by kernel_rfl) (fun _ _ _ h => h) (Or.inl ⟨by rfl, ?_⟩) (by assumption) ?_
                rotate_left
                · intro w hSw
                  simp only [List.getElem_toArray, List.getElem_cons_zero, List.getElem_cons_succ]
                  first | (go_simp; done) | (go_simp; with_reducible rfl)
                simp only [Act.put, List.getElem_toArray, List.getElem_cons_zero, List.getElem_cons_succ, List.setIfInBounds_toArray, List.set_cons_zero, List.set_cons_succ]
                refine wpAnyH_take (i := 19) (v := ?_) rfl (by kernel_rfl) (by kernel_rfl) (by kernel_rfl) (fun _ _ _ h => h) (Or.inl ⟨by rfl, ?_⟩) (by assumption) ?_
                rotate_left
                · intro w hSw
                  simp only [List.getElem_toArray, List.getElem_cons_zero, List.getElem_cons_succ]
                  first | (go_simp; done) | (go_simp; with_reducible rfl)
                simp only [Act.put, List.getElem_toArray, List.getElem_cons_zero, List.getElem_cons_succ, List.setIfInBounds_toArray, List.set_cons_zero, List.set_cons_succ]
                refine wpAnyH_take (i := 20) (v := undef) rfl (by kernel_rfl) (by kernel_rfl) (by kernel_rfl) (fun _ _ _ h => h) (Or.inr ⟨by rfl, rfl⟩) (by assumption) ?_
                simp only [Act.put, List.getElem_toArray, List.getElem_cons_zero, List.getElem_cons_succ, List.setIfInBounds_toArray, List.set_cons_zero, List.set_cons_succ]
                refine wpAnyH_take (i := 21) (v := undef) rfl (by kernel_rfl) (by kernel_rfl) (by kernel_rfl) (fun _ _ _ h => h) (Or.inr ⟨by rfl, rfl⟩) (by assumption) ?_
                simp only [Act.put, List.getElem_toArray, List.getElem_cons_zero, List.getElem_cons_succ, List.setIfInBounds_toArray, List.set_cons_zero, List.set_cons_succ]
                refine wpAnyH_take (i := 22) (v := undef) rfl (by kernel_rfl) (by kernel_rfl) (by kernel_rfl) (fun _ _ _ h => h) (Or.inr ⟨by rfl, rfl⟩) (by assumption) ?_
                simp only [Act.put, List.getElem_toArray, List.getElem_cons_zero, List.getElem_cons_succ, List.setIfInBounds_toArray, List.set_cons_zero, List.set_cons_succ]
                refine wpAnyH_take (i := 23) (v := undef) rfl (by kernel_rfl) (by kernel_rfl) (by kernel_rfl) (fun _ _ _ h => h) (Or.inr ⟨by rfl, rfl⟩) (by assumption) ?_
                simp only [Act.put, List.getElem_toArray, List.getElem_cons_zero, List.getElem_cons_succ, List.setIfInBounds_toArray, List.set_cons_zero, List.set_cons_succ]
                refine wpAnyH_take (i := 24) (v := undef) rfl (by kernel_rfl) (by kernel_rfl) (by kernel_rfl) (fun _ _ _ h => h) (Or.inr ⟨by rfl, rfl⟩) (by assumption) ?_
                simp only [Act.put, List.getElem_toArray, List.getElem_cons_zero, List.getElem_cons_succ, List.setIfInBounds_toArray, List.set_cons_zero, List.set_cons_succ]
                refine wpAnyH_take (i := 25) (v := undef) rfl (by kernel_rfl) (by kernel_rfl) (by kernel_rfl) (fun _ _ _ h => h) (Or.inr ⟨by rfl, rfl⟩) (by assumption) ?_
                simp only [Act.put, List.getElem_toArray, List.getElem_cons_zero, List.getElem_cons_succ, List.setIfInBounds_toArray, List.set_cons_zero, List.set_cons_succ]
                refine wpAnyH_take (i := 26) (v := undef) rfl (by kernel_rfl) (by kernel_rfl) (by kernel_rfl) (fun _ _ _ h => h) (Or.inr ⟨by rfl, rfl⟩) (by assumption) ?_
                simp only [Act.put, List.getElem_toArray, List.getElem_cons_zero, List.getElem_cons_succ, List.setIfInBounds_toArray, List.set_cons_zero, List.set_cons_succ]
                refine wpAnyH_take (i := 27) (v := undef) rfl (by kernel_rfl) (by kernel_rfl) (by kernel_rfl) (fun _ _ _ h => h) (Or.inr ⟨by rfl, rfl⟩) (by assumption) ?_
                simp only [Act.put, List.getElem_toArray, List.getElem_cons_zero, List.getElem_cons_succ, List.setIfInBounds_toArray, List.set_cons_zero, List.set_cons_succ]
                refine wpAnyH_take (i := 28) (v := undef) rfl (by kernel_rfl) (by kernel_rfl) (by kernel_rfl) (fun _ _ _ h => h) (Or.inr ⟨by rfl, rfl⟩) (by assumption) ?_
                simp only [Act.put, List.getElem_toArray, List.getElem_cons_zero, List.getElem_cons_succ, List.setIfInBounds_toArray, List.set_cons_zero, List.set_cons_succ]
                refine wpAnyH_take (i := 29) (v := undef) rfl (by kernel_rfl) (by kernel_rfl) (by kernel_rfl) (fun _ _ _ h => h) (Or.inr ⟨by rfl, rfl⟩) (by assumption) ?_
                simp only [Act.put, List.getElem_toArray, List.getElem_cons_zero, List.getElem_cons_succ, List.setIfInBounds_toArray, List.set_cons_zero, List.set_cons_succ]
                refine wpAnyH_take (i := 30) (v := undef) rfl (by kernel_rfl) (by kernel_rfl) (by kernel_rfl) (fun _ _ _ h => h) (Or.inr ⟨by rfl, rfl⟩) (by assumption) ?_
                simp only [Act.put, List.getElem_toArray, List.getElem_cons_zero, List.getElem_cons_succ, List.setIfInBounds_toArray, List.set_cons_zero, List.set_cons_succ]
                refine wpAnyH_take (i := 31) (v := undef) rfl (by kernel_rfl) (by kernel_rfl) (by kernel_rfl) (fun _ _ _ h => h) (Or.inr ⟨by rfl, rfl⟩) (by assumption) ?_
                simp only [Act.put, List.getElem_toArray, List.getElem_cons_zero, List.getElem_cons_succ, List.setIfInBounds_toArray, List.set_cons_zero, List.set_cons_succ]
                refine wpAnyH_take (i := 32) (v := undef) rfl (by kernel_rfl) (by kernel_rfl) (by kernel_rfl) (fun _ _ _ h => h) (Or.inr ⟨by rfl, rfl⟩) (by assumption) ?_
                simp only [Act.put, List.getElem_toArray, List.getElem_cons_zero, List.getElem_cons_succ, List.setIfInBounds_toArray, List.set_cons_zero, List.set_cons_succ]
                refine wpAnyH_take (i := 33) (v := undef) rfl (by kernel_rfl) (by kernel_rfl) (by kernel_rfl) (fun _ _ _ h => h) (Or.inr ⟨by rfl, rfl⟩) (by assumption) ?_
                simp only [Act.put, List.getElem_toArray, List.getElem_cons_zero, List.getElem_cons_succ, List.setIfInBounds_toArray, List.set_cons_zero, List.set_cons_succ]
                refine wpAnyH_take (i := 34) (v := ?_) rfl (by kernel_rfl) (by kernel_rfl) (by kernel_rfl) (fun _ _ _ h => h) (Or.inl ⟨by rfl, ?_⟩) (by assumption) ?_
                rotate_left
                · intro w hSw
                  simp only [List.getElem_toArray, List.getElem_cons_zero, List.getElem_cons_succ]
                  first | (go_simp; done) | (go_simp; with_reducible rfl)
                simp only [Act.put, List.getElem_toArray, List.getElem_cons_zero, List.getElem_cons_succ, List.setIfInBounds_toArray, List.set_cons_zero, List.set_cons_succ]
                refine wpAnyH_take (i := 35) (v := ?_) rfl (by kernel_rfl) (by kernel_rfl) (by kernel_rfl) (fun _ _ _ h => h) (Or.inl ⟨by rfl, ?_⟩) (by assumption) ?_
                rotate_left
                · intro w hSw
                  simp only [List.getElem_toArray, List.getElem_cons_zero, List.getElem_cons_succ]
                  first | (go_simp; done) | (go_simp; with_reducible rfl)
                simp only [Act.put, List.getElem_toArray, List.getElem_cons_zero, List.getElem_cons_succ, List.setIfInBounds_toArray, List.set_cons_zero, List.set_cons_succ]
                refine wpAnyH_done (by kernel_rfl) ?_ _
                obtain ⟨u4, hu4⟩ : ∃ y : Aft wr, y.val = w4 := ⟨⟨w4, hHeld⟩, rfl⟩
                rw [← hu4]
                clear hre hHeld hS0 hb4 hb3 hu4
                go_wp2
                go_roundw
                case rel => exact ⟨k + 1, u4, by omega, by go_num, rfl, rfl, HN2.out⟩
                case measure => simp [RowKit.intOf]; omega
          · exfalso
            obtain ⟨t, kk, h1, h2, _⟩ := HNX.out
            simp only [if_true] at h2
            have := (List.getElem?_eq_some_iff.1 h1).1
            rw [HTRL.out] at this
            exact HNO.out kk (by omega) t h1 h2
end Go.Proofs.Ytihhbkijcebapaa

namespace Go.Proofs.Ytihhbkijcebapaa
open Go.RowKit Go.Lib

set_option maxRecDepth 100000 in
set_option maxHeartbeats 8000000 in
theorem best2b_any (V : List Voi) (m : Nat) (v : Value) (w : World) (hV : Vois w w.heap.size v V) (hok : VoisOk V) (hm : m < V.length) :
    Calls Try.prog 19 #[v, .int .i64 1, .int .i64 (m : Int)] w (Best2Post V 1 m w) := by
  have HE0 := Lib.hid (ends2_any V [] m v (.slice none 0 0) w hV hok hm (by simp) (Or.inl ⟨rfl, rfl⟩))
  have HEP := Lib.hid (fun (p : List Nat) (t g2 cap : Nat) (W : World) (hb : Below w.heap.size w W) (ht : t < V.length) (hp : Ints W W.heap.size (.slice (some ⟨g2, 0, none⟩) p.length cap) (barL p)) (hpl : p.length ≤ 600) => ends2_any V p t v (.slice (some ⟨g2, 0, none⟩) p.length cap) W (hV.on hb hb.size) hok ht hpl (Or.inr ⟨⟨g2, 0, none⟩, cap, by rw [barL_len], hp⟩))
  have HDI := Lib.hid (fun (W : World) (hb : Below w.heap.size w W) => dist2_any V (rankCost 1) (rankCost_ok 1) 31 enters_c2 (fun k W => by rw [rank1 k]; exact cost2_any ((k : Int) + 1) W) v W (hV.on hb hb.size) hok)
  obtain ⟨A, c0, rfl, hc0, hm0, hel⟩ := vois_at hV
  have hn1 := hok.n1
  have hn12 := hok.n12
  obtain ⟨b, off, rfl, hblt, hcell⟩ := hel (by omega)
  have HEL := Lib.hid hcell
  have HOK := Lib.hid hok
  obtain ⟨i0, hi, hz0, hz1, hz2⟩ := info_parts Try.infoI
  have HGOI : Hid (∀ hr, Going (grV V) 1 m [m] m) := Lib.hid (fun hr => Going.init hok.gr (show (grV V).n ≤ 12 from hn12) hm hr)
  have HGN := Lib.hid (fun p a (h : Going (grV V) 1 m p a) => h.len hok.gr (show (grV V).n ≤ 12 from hn12) hm)
  have HDD : Hid (∀ j, 0 ≤ runI (grV V) [] (rankCost 1) V.length j ∧ runI (grV V) [] (rankCost 1) V.length j ≤ 1000) := Lib.hid (fun j => ⟨(Keeps.run (B := []) hok.gr (rankCost_ok 1) V.length).pos j, (Keeps.run (B := []) hok.gr (rankCost_ok 1) V.length).top j⟩)
  unfold EndsPost at HE0
  unfold DistPost at HDI
  unfold Best2Post
  clear hV hok hel hcell
  go_enter Try.func19, Try.ntmps19
  go_wp2_with (fail)
  refine HE0.out.mono ?_
  rintro e w1 ⟨A1, n1, c1, rfl, hn1k, hrch, hb1⟩
  have HRC := Lib.hid hrch
  clear hrch HE0
  by_cases h0 : n1 = 0
  · subst h0
    have HNR : Hid (BestP (grV V) 1 m []) := Lib.hid (Or.inl ⟨rfl, fun h => by have := HRC.out.2 h; omega⟩)
    go_wp2
    go_ret
    exact .inl ⟨rfl, HNR.out, hb1⟩
  · have hne : ((n1 : Int) == 0) = false := by simp; omega
    have HRM : Hid (Reach (grV V) [] m) := Lib.hid (HRC.out.1 (by omega))
    have HG0 := Lib.hid (HGOI.out HRM.out)
    have HB1 := Lib.hid hb1
    have HDI1 := Lib.hid (HDI.out w1 hb1)
    clear hb1 HDI
    go_wp2_with (fail)
    refine HDI1.out.mono ?_
    rintro e w2 ⟨g, hg0, hgl, rfl, hrow, hb2⟩
    have HB2 := Lib.hid (HB1.out.trans (hb2.mono HB1.out.size))
    have HP0 := Lib.hid ((PathO.one w2 m).less HB2.out.size)
    have HB3 := Lib.hid (HB2.out.alloc HB2.out.size (.cells #[.int .i64 (m : Int)] 2))
    have HROW2 := Lib.hid (hrow.below ((Below.refl w2.heap.size w2).alloc (Nat.le_refl _) (.cells #[.int .i64 (m : Int)] 2)) hgl)
    have hg1 : g ≠ w2.heap.size := by omega
    have hg2 : g < (w2.alloc (.cells #[.int .i64 (m : Int)] 2)).heap.size := by simp; omega
    clear hrow hb2 HDI1
    go_wp2
    go_loopw [9, 10, 11, 12, 43] (fun vp _ _ _ _ wr => ∃ (p : List Nat) (a g2 cap : Nat), vp = .slice (some ⟨g2, 0, none⟩) p.length cap ∧ PathO wr w.heap.size g2 cap p ∧ Going (grV V) 1 m p a ∧ Row wr g (costL (runI (grV V) [] (rankCost 1) V.length) V.length) ∧ g ≠ g2 ∧ g < wr.heap.size ∧ Below w.heap.size w wr) (fun vp _ _ _ _ _ => 600 - lenV vp)
    case atStart => exact ⟨[m], m, w2.heap.size, 1, rfl, HP0.out, HG0.out, HROW2.out, hg1, hg2, HB3.out⟩
    case round =>
      obtain ⟨p, a, g2, cap, rfl, hpo, hgo, hrow, hgg, hgl, hb⟩ := hrel
      have HPO := Lib.hid hpo
      have HGO := Lib.hid hgo
      have HROW := Lib.hid hrow
      have HB := Lib.hid hb
      have halt : a < V.length := hgo.alt
      have hpl := HGN.out p a hgo
      obtain ⟨q, hq⟩ := hgo.last
      have hql : p.length = q.length + 1 := by rw [hq]; simp
      have z0 : ∀ y : Aft wr, y.val.cell? ⟨g2, q.length, none⟩ = some (.int .i64 (a : Int)) := fun y => y.cell ((ints_get hpo.ints (k := q.length) (z := (a : Int)) (by
        rw [hq, barL_snoc, List.getElem?_append_right (by rw [barL_len]; exact Nat.le_refl _), barL_len, Nat.sub_self]
        rfl)).elim (fun b0 h => by
          obtain ⟨o0, e0, _, h0⟩ := h
          injection e0 with e0
          injection e0 with e1 e2
          rw [← e1, ← e2, Nat.zero_add] at h0
          exact h0))
      have hget : V[a]? = some V[a] := List.getElem?_eq_getElem halt
      obtain ⟨A1, c1, d0, d1, hc1, hI⟩ := HEL.out a _ hget
      have x0 := fun y : Aft wr => y.cell ((hb.cell (p := ⟨b, off + a * 2, none⟩) hblt).trans d0)
      have x1 := fun y : Aft wr => y.cell ((hb.cell (p := ⟨b, off + a * 2 + 1, none⟩) hblt).trans d1)
      have HSP : Hid ((grV V).sp a = V[a].sp) := Lib.hid (grV_at hget).1
      have HTRL : Hid (((grV V).tr a).length = V[a].tr.length) := Lib.hid (by rw [(grV_at hget).2, List.length_map])
      have HTR := Lib.hid (fun (m : Nat) (z : Int) (hz : V[a].tr[m]? = some z) => HOK.out.at_tr hget hz)
      have h4 : V[a].tr.length ≤ 4 := trust_four (HOK.out.tr a _ hget)
      have HI := Lib.hid hI
      have hai : (a : Int) < (V.length : Int) := by omega
      obtain ⟨u0, hu0⟩ : ∃ y : Aft wr, y.val = wr := ⟨⟨wr, Below.refl _ _⟩, rfl⟩
      rw [← hu0, hql]
      have HU0 := Lib.hid hu0
      have HQL := Lib.hid hql
      have hll : q.length + 1 ≤ 577 := by omega
      clear hu0 hget hI d0 d1 hpo hgo hrow hb hq hql
      have hql := HQL.out
      generalize q.length = l at *
      generalize V[a] = va at *
      cases hs : va.sp with
      | true =>
        rw [hs] at x0 HSP
        have HBP := Lib.hid (HGO.out.best HRM.out HSP.out)
        have HOW := Lib.hid (HPO.out.own)
        have HPN : Hid (p ≠ []) := Lib.hid (fun e => by rw [e] at hql; simp at hql)
        clear hql
        go_wp2
        go_ret
        exact .inr ⟨p, g2, cap, by rw [HQL.out]; rfl, HBP.out, HPN.out, by rw [HU0.out]; exact HOW.out, by rw [HU0.out]; exact HB.out⟩
      | false =>
        rw [hs] at x0 HSP
        have HNX := Lib.hid (HGO.out.next HOK.out.gr HSP.out)
        have HQ2 := Lib.hid hql
        clear hql
        go_wp2
        go_loopw [9, 11, 12, 43] (fun vp _ _ i wr' => ∃ (k : Nat) (u : Aft wr), k ≤ va.tr.length ∧ i = .int .i64 (k : Int) ∧ vp = .slice (some ⟨g2, 0, none⟩) (l + 1) cap ∧ wr' = u.val ∧ ∀ k', k' < k → ∀ t', ((grV V).tr a)[k']? = some t' → (fun (k' t' : Nat) => ¬ (runI (grV V) [] (rankCost 1) (grV V).n t' + rankCost 1 (k' + 1) = runI (grV V) [] (rankCost 1) (grV V).n a)) k' t') (fun _ _ _ i _ => va.tr.length - (RowKit.intOf i).toNat)
        case atStart => exact ⟨0, u0, Nat.zero_le _, rfl, rfl, rfl, fun k' hk' => absurd hk' (Nat.not_lt_zero _)⟩
        case round =>
          obtain ⟨k, u1, hk, rfl, rfl, rfl, hno⟩ := hrel
          have HNO := Lib.hid hno
          clear hno
          by_cases hkl : k < va.tr.length
          · have hz : va.tr[k]? = some va.tr[k] := List.getElem?_eq_getElem hkl
            obtain ⟨b3, o3, rfl, hb3, e0⟩ := ints_get HI.out hz
            have x2 := fun y : Aft wr => y.cell ((HB.out.cell (p := ⟨b3, o3 + k, none⟩) hb3).trans e0)
            obtain ⟨t1, t2, t3, t4⟩ := HTR.out k _ hz
            obtain ⟨t, ht⟩ : ∃ t : Nat, t = va.tr[k].toNat := ⟨_, rfl⟩
            rw [← ht] at t1 t2 t3 t4
            rw [← t2] at x2
            have HT1 := Lib.hid t1
            have hti : (t : Int) < (V.length : Int) := by omega
            clear ht t1 t2 hz e0
            have hql := HQ2.out
            have x3 := fun y : Aft wr => y.cell (HROW.out.cell t _ (costL_get t3))
            have x4 := fun y : Aft wr => y.cell (HROW.out.cell a _ (costL_get halt))
            have q1 := HDD.out t
            have q2 := HDD.out a
            have hw1 : IntKind.i64.wrap ((k : Int) + 1) = (k : Int) + 1 := IntWalk.i64_in _ (by omega)
            obtain ⟨x, hx⟩ : ∃ x, x = runI (grV V) [] (rankCost 1) V.length t := ⟨_, rfl⟩
            obtain ⟨y, hy⟩ : ∃ y, y = runI (grV V) [] (rankCost 1) V.length a := ⟨_, rfl⟩
            rw [← hx] at x3 q1
            rw [← hy] at x4 q2
            have HFIT : Hid (runI (grV V) [] (rankCost 1) (grV V).n t + rankCost 1 (k + 1) = runI (grV V) [] (rankCost 1) (grV V).n a ↔ x + ((k : Int) + 1) = y) := Lib.hid (by
              rw [rank1 k, hx, hy]
              exact Iff.rfl)
            clear hx hy
            by_cases hf : x + ((k : Int) + 1) = y
            · have HNT : Hid (NextT (grV V) 1 p a t) := Lib.hid (nextT_cost (by decide) HT1.out (HFIT.out.2 hf) HNO.out)
              have hd : (x + ((k : Int) + 1) == y) = true := by simp [hf]
              clear hf HNO
              go_wp2_with (fail)
              refine wp_region_at (by kernel_rfl) (by kernel_rfl) ?_
              repeat (go_big_quiet_step ((first | (go_at_call 31; exact aft_q (still_q (cost2_any _ _))))))
              refine wpQuiet_nil ?_
              rintro _ ⟨u, rfl⟩
              have HG9 := Lib.hid (HGO.out.more HOK.out.gr HSP.out HNT.out)
              have HOW := Lib.hid (HPO.out.below u.ok).row
              rw [HQ2.out] at HOW
              have HBU := Lib.hid (HB.out.trans (u.ok.mono HB.out.size))
              have HROWU := Lib.hid (HROW.out.below u.ok hgl)
              have hglu := Nat.lt_of_lt_of_le hgl u.ok.size
              go_wp2_with (at_builtin; refine wpList_append_own_at _ rfl _ _ 30 rfl w.heap.size 2 i0 (.int .i64 0) 1 8 Try.underlying30 hi hz0 hz1 hz2 rfl (by decide) _ _ _ rfl (HOW.out.alloc _) ⟨u.val.heap.size, 0, none⟩ 1 1 (intCells (t : Int)) rfl rfl (fun j u hj => new_at hj) (fun u hu => int_one' _ hu) ?c3 ?c4 (base_le HBU.out.size) ?_)
              case c3 => unfold maxLen; omega
              case c4 => omega
              intro v' w9 hown' hgrow hiff hat
              obtain ⟨g9, cap9, rfl, hdc9, hcm9⟩ := own_some hown' (by simpa using hiff)
              have HB9 := Lib.hid ((HBU.out.alloc HBU.out.size (.cells #[.int .i64 (t : Int)] 2)).grown hgrow (base_le HBU.out.size) (fun j hj => (HOW.out.lt j hj).1))
              have HO9 : Hid (PathO w9 w.heap.size g9 cap9 (p ++ [t])) := Lib.hid (by
                unfold PathO
                rw [barL_snoc, flat_snoc, List.length_append, HQ2.out]
                exact hown')
              have HRW9 := Lib.hid ((HROWU.out.below ((Below.refl u.val.heap.size u.val).alloc (Nat.le_refl _) (.cells #[.int .i64 (t : Int)] 2)) hglu).touch (F := fun c => c = g2) (by simpa using Nat.lt_succ_of_lt hglu) (Touch.of_grown hgrow (fun c hc => by injection hc with hc; exact hc.symm)) hgg)
              have hgg9 : g ≠ g9 := by
                rcases hat with h | h <;> injection h with h
                · exact fun e => hgg (e.trans h)
                · simp at h; omega
              have hgl9 : g < w9.heap.size := by have := hgrow.size; simp at this; omega
              clear hown' hgrow hiff hat
              go_wp2
              go_roundw
              case rel => exact ⟨p ++ [t], t, g9, cap9, by rw [List.length_append, HQ2.out]; rfl, HO9.out, HG9.out, HRW9.out, hgg9, hgl9, HB9.out⟩
              case measure => simp [lenV]; omega
            · have hd : (x + ((k : Int) + 1) == y) = false := by simpa using hf
              have HN2 : Hid (∀ k', k' < k + 1 → ∀ t', ((grV V).tr a)[k']? = some t' → (fun k' t' => ¬ (runI (grV V) [] (rankCost 1) (grV V).n t' + rankCost 1 (k' + 1) = runI (grV V) [] (rankCost 1) (grV V).n a)) k' t') := Lib.hid (fun k' hk' t' ht' => by
                by_cases e : k' = k
                · subst e
                  rw [HT1.out] at ht'
                  injection ht' with ht'
                  subst ht'
                  exact fun h => hf (HFIT.out.1 h)
                · exact HNO.out k' (by omega) t' ht')
              clear hf HNO
              go_wp2_with (fail)
              refine wp_region_at (by kernel_rfl) (by kernel_rfl) ?_
              repeat (go_big_quiet_step ((first | (go_at_call 31; exact aft_q (still_q (cost2_any _ _))))))
              refine wpQuiet_nil ?_
              rintro _ ⟨u, rfl⟩
              go_wp2
              go_roundw
              case rel => exact ⟨k + 1, u, by omega, by go_num, rfl, rfl, HN2.out⟩
              case measure => simp [RowKit.intOf]; omega
          · exfalso
            obtain ⟨t, kk, h1, h2, _⟩ := HNX.out
            rw [if_neg (by decide)] at h2
            have := (List.getElem?_eq_some_iff.1 h1).1
            rw [HTRL.out] at this
            exact HNO.out kk (by omega) t h1 h2
set_option maxRecDepth 100000 in
set_option maxHeartbeats 8000000 in
theorem best2c_any (V : List Voi) (rule : Int) (hr1 : rule ≠ 1) (hr2 : rule ≠ 2) (m : Nat) (v : Value) (w : World) (hV : Vois w w.heap.size v V) (hok : VoisOk V) (hm : m < V.length) :
    Calls Try.prog 19 #[v, .int .i64 rule, .int .i64 (m : Int)] w (Best2Post V rule m w) := by
  have hq1 : (rule == 1) = false := by simpa using hr1
  have hq2 : (rule == 2) = false := by simpa using hr2
  have hq3 : (rule != 2) = true := by simpa using hr2
  have HR1 := Lib.hid hr1
  have HR2 := Lib.hid hr2
  clear hr1 hr2
  have HE0 := Lib.hid (ends2_any V [] m v (.slice none 0 0) w hV hok hm (by simp) (Or.inl ⟨rfl, rfl⟩))
  have HEP := Lib.hid (fun (p : List Nat) (t g2 cap : Nat) (W : World) (hb : Below w.heap.size w W) (ht : t < V.length) (hp : Ints W W.heap.size (.slice (some ⟨g2, 0, none⟩) p.length cap) (barL p)) (hpl : p.length ≤ 600) => ends2_any V p t v (.slice (some ⟨g2, 0, none⟩) p.length cap) W (hV.on hb hb.size) hok ht hpl (Or.inr ⟨⟨g2, 0, none⟩, cap, by rw [barL_len], hp⟩))
  have HDI := Lib.hid (fun (W : World) (hb : Below w.heap.size w W) => dist2_any V (rankCost rule) (rankCost_ok rule) 30 enters_c1 (fun k W => by rw [rank_no HR1.out k]; exact cost1_any ((k : Int) + 1) W) v W (hV.on hb hb.size) hok)
  obtain ⟨A, c0, rfl, hc0, hm0, hel⟩ := vois_at hV
  have hn1 := hok.n1
  have hn12 := hok.n12
  obtain ⟨b, off, rfl, hblt, hcell⟩ := hel (by omega)
  have HEL := Lib.hid hcell
  have HOK := Lib.hid hok
  obtain ⟨i0, hi, hz0, hz1, hz2⟩ := info_parts Try.infoI
  have HGOI : Hid (∀ hr, Going (grV V) rule m [m] m) := Lib.hid (fun hr => Going.init hok.gr (show (grV V).n ≤ 12 from hn12) hm hr)
  have HGN := Lib.hid (fun p a (h : Going (grV V) rule m p a) => h.len hok.gr (show (grV V).n ≤ 12 from hn12) hm)
  have HDD : Hid (∀ j, 0 ≤ runI (grV V) [] (rankCost rule) V.length j ∧ runI (grV V) [] (rankCost rule) V.length j ≤ 1000) := Lib.hid (fun j => ⟨(Keeps.run (B := []) hok.gr (rankCost_ok rule) V.length).pos j, (Keeps.run (B := []) hok.gr (rankCost_ok rule) V.length).top j⟩)
  unfold EndsPost at HE0
  unfold DistPost at HDI
  unfold Best2Post
  clear hV hok hel hcell
  go_enter Try.func19, Try.ntmps19
  go_wp2_with (fail)
  refine HE0.out.mono ?_
  rintro e w1 ⟨A1, n1, c1, rfl, hn1k, hrch, hb1⟩
  have HRC := Lib.hid hrch
  clear hrch HE0
  by_cases h0 : n1 = 0
  · subst h0
    have HNR : Hid (BestP (grV V) rule m []) := Lib.hid (Or.inl ⟨rfl, fun h => by have := HRC.out.2 h; omega⟩)
    go_wp2
    go_ret
    exact .inl ⟨rfl, HNR.out, hb1⟩
  · have hne : ((n1 : Int) == 0) = false := by simp; omega
    have HRM : Hid (Reach (grV V) [] m) := Lib.hid (HRC.out.1 (by omega))
    have HG0 := Lib.hid (HGOI.out HRM.out)
    have HB1 := Lib.hid hb1
    have HDI1 := Lib.hid (HDI.out w1 hb1)
    clear hb1 HDI
    go_wp2_with (fail)
    refine HDI1.out.mono ?_
    rintro e w2 ⟨g, hg0, hgl, rfl, hrow, hb2⟩
    have HB2 := Lib.hid (HB1.out.trans (hb2.mono HB1.out.size))
    have HP0 := Lib.hid ((PathO.one w2 m).less HB2.out.size)
    have HB3 := Lib.hid (HB2.out.alloc HB2.out.size (.cells #[.int .i64 (m : Int)] 2))
    have HROW2 := Lib.hid (hrow.below ((Below.refl w2.heap.size w2).alloc (Nat.le_refl _) (.cells #[.int .i64 (m : Int)] 2)) hgl)
    have hg1 : g ≠ w2.heap.size := by omega
    have hg2 : g < (w2.alloc (.cells #[.int .i64 (m : Int)] 2)).heap.size := by simp; omega
    clear hrow hb2 HDI1
    go_wp2
    go_loopw [9, 10, 11, 12, 43] (fun vp _ _ _ _ wr => ∃ (p : List Nat) (a g2 cap : Nat), vp = .slice (some ⟨g2, 0, none⟩) p.length cap ∧ PathO wr w.heap.size g2 cap p ∧ Going (grV V) rule m p a ∧ Row wr g (costL (runI (grV V) [] (rankCost rule) V.length) V.length) ∧ g ≠ g2 ∧ g < wr.heap.size ∧ Below w.heap.size w wr) (fun vp _ _ _ _ _ => 600 - lenV vp)
    case atStart => exact ⟨[m], m, w2.heap.size, 1, rfl, HP0.out, HG0.out, HROW2.out, hg1, hg2, HB3.out⟩
    case round =>
      obtain ⟨p, a, g2, cap, rfl, hpo, hgo, hrow, hgg, hgl, hb⟩ := hrel
      have HPO := Lib.hid hpo
      have HGO := Lib.hid hgo
      have HROW := Lib.hid hrow
      have HB := Lib.hid hb
      have halt : a < V.length := hgo.alt
      have hpl := HGN.out p a hgo
      obtain ⟨q, hq⟩ := hgo.last
      have hql : p.length = q.length + 1 := by rw [hq]; simp
      have z0 : ∀ y : Aft wr, y.val.cell? ⟨g2, q.length, none⟩ = some (.int .i64 (a : Int)) := fun y => y.cell ((ints_get hpo.ints (k := q.length) (z := (a : Int)) (by
        rw [hq, barL_snoc, List.getElem?_append_right (by rw [barL_len]; exact Nat.le_refl _), barL_len, Nat.sub_self]
        rfl)).elim (fun b0 h => by
          obtain ⟨o0, e0, _, h0⟩ := h
          injection e0 with e0
          injection e0 with e1 e2
          rw [← e1, ← e2, Nat.zero_add] at h0
          exact h0))
      have hget : V[a]? = some V[a] := List.getElem?_eq_getElem halt
      obtain ⟨A1, c1, d0, d1, hc1, hI⟩ := HEL.out a _ hget
      have x0 := fun y : Aft wr => y.cell ((hb.cell (p := ⟨b, off + a * 2, none⟩) hblt).trans d0)
      have x1 := fun y : Aft wr => y.cell ((hb.cell (p := ⟨b, off + a * 2 + 1, none⟩) hblt).trans d1)
      have HSP : Hid ((grV V).sp a = V[a].sp) := Lib.hid (grV_at hget).1
      have HTRL : Hid (((grV V).tr a).length = V[a].tr.length) := Lib.hid (by rw [(grV_at hget).2, List.length_map])
      have HTR := Lib.hid (fun (m : Nat) (z : Int) (hz : V[a].tr[m]? = some z) => HOK.out.at_tr hget hz)
      have h4 : V[a].tr.length ≤ 4 := trust_four (HOK.out.tr a _ hget)
      have HI := Lib.hid hI
      have hai : (a : Int) < (V.length : Int) := by omega
      obtain ⟨u0, hu0⟩ : ∃ y : Aft wr, y.val = wr := ⟨⟨wr, Below.refl _ _⟩, rfl⟩
      rw [← hu0, hql]
      have HU0 := Lib.hid hu0
      have HQL := Lib.hid hql
      have hll : q.length + 1 ≤ 577 := by omega
      clear hu0 hget hI d0 d1 hpo hgo hrow hb hq hql
      have hql := HQL.out
      generalize q.length = l at *
      generalize V[a] = va at *
      cases hs : va.sp with
      | true =>
        rw [hs] at x0 HSP
        have HBP := Lib.hid (HGO.out.best HRM.out HSP.out)
        have HOW := Lib.hid (HPO.out.own)
        have HPN : Hid (p ≠ []) := Lib.hid (fun e => by rw [e] at hql; simp at hql)
        clear hql
        go_wp2
        go_ret
        exact .inr ⟨p, g2, cap, by rw [HQL.out]; rfl, HBP.out, HPN.out, by rw [HU0.out]; exact HOW.out, by rw [HU0.out]; exact HB.out⟩
      | false =>
        rw [hs] at x0 HSP
        have HNX := Lib.hid (HGO.out.next HOK.out.gr HSP.out)
        have HQ2 := Lib.hid hql
        clear hql
        go_wp2
        go_loopw [9, 11, 12, 43] (fun vp _ _ i wr' => ∃ (k : Nat) (u : Aft wr), k ≤ va.tr.length ∧ i = .int .i64 (k : Int) ∧ vp = .slice (some ⟨g2, 0, none⟩) (l + 1) cap ∧ wr' = u.val ∧ ∀ k', k' < k → ∀ t', ((grV V).tr a)[k']? = some t' → (fun (k' t' : Nat) => ¬ (runI (grV V) [] (rankCost rule) (grV V).n t' + rankCost rule (k' + 1) = runI (grV V) [] (rankCost rule) (grV V).n a)) k' t') (fun _ _ _ i _ => va.tr.length - (RowKit.intOf i).toNat)
        case atStart => exact ⟨0, u0, Nat.zero_le _, rfl, rfl, rfl, fun k' hk' => absurd hk' (Nat.not_lt_zero _)⟩
        case round =>
          obtain ⟨k, u1, hk, rfl, rfl, rfl, hno⟩ := hrel
          have HNO := Lib.hid hno
          clear hno
          by_cases hkl : k < va.tr.length
          · have hz : va.tr[k]? = some va.tr[k] := List.getElem?_eq_getElem hkl
            obtain ⟨b3, o3, rfl, hb3, e0⟩ := ints_get HI.out hz
            have x2 := fun y : Aft wr => y.cell ((HB.out.cell (p := ⟨b3, o3 + k, none⟩) hb3).trans e0)
            obtain ⟨t1, t2, t3, t4⟩ := HTR.out k _ hz
            obtain ⟨t, ht⟩ : ∃ t : Nat, t = va.tr[k].toNat := ⟨_, rfl⟩
            rw [← ht] at t1 t2 t3 t4
            rw [← t2] at x2
            have HT1 := Lib.hid t1
            have hti : (t : Int) < (V.length : Int) := by omega
            clear ht t1 t2 hz e0
            have hql := HQ2.out
            have x3 := fun y : Aft wr => y.cell (HROW.out.cell t _ (costL_get t3))
            have x4 := fun y : Aft wr => y.cell (HROW.out.cell a _ (costL_get halt))
            have q1 := HDD.out t
            have q2 := HDD.out a
            have hw1 : IntKind.i64.wrap ((k : Int) + 1) = (k : Int) + 1 := IntWalk.i64_in _ (by omega)
            obtain ⟨x, hx⟩ : ∃ x, x = runI (grV V) [] (rankCost rule) V.length t := ⟨_, rfl⟩
            obtain ⟨y, hy⟩ : ∃ y, y = runI (grV V) [] (rankCost rule) V.length a := ⟨_, rfl⟩
            rw [← hx] at x3 q1
            rw [← hy] at x4 q2
            have HFIT : Hid (runI (grV V) [] (rankCost rule) (grV V).n t + rankCost rule (k + 1) = runI (grV V) [] (rankCost rule) (grV V).n a ↔ x + 1 = y) := Lib.hid (by
              rw [rank_no HR1.out k, hx, hy]
              exact Iff.rfl)
            clear hx hy
            by_cases hf : x + 1 = y
            · have HNT : Hid (NextT (grV V) rule p a t) := Lib.hid (nextT_cost HR2.out HT1.out (HFIT.out.2 hf) HNO.out)
              have hd : (x + 1 == y) = true := by simp [hf]
              clear hf HNO
              go_wp2_with (fail)
              refine wp_region_at (by kernel_rfl) (by kernel_rfl) ?_
              repeat (go_big_quiet_step ((first | (go_at_call 30; exact aft_q (still_q (cost1_any _ _))))))
              refine wpQuiet_nil ?_
              rintro _ ⟨u, rfl⟩
              have HG9 := Lib.hid (HGO.out.more HOK.out.gr HSP.out HNT.out)
              have HOW := Lib.hid (HPO.out.below u.ok).row
              rw [HQ2.out] at HOW
              have HBU := Lib.hid (HB.out.trans (u.ok.mono HB.out.size))
              have HROWU := Lib.hid (HROW.out.below u.ok hgl)
              have hglu := Nat.lt_of_lt_of_le hgl u.ok.size
              go_wp2_with (at_builtin; refine wpList_append_own_at _ rfl _ _ 30 rfl w.heap.size 2 i0 (.int .i64 0) 1 8 Try.underlying30 hi hz0 hz1 hz2 rfl (by decide) _ _ _ rfl (HOW.out.alloc _) ⟨u.val.heap.size, 0, none⟩ 1 1 (intCells (t : Int)) rfl rfl (fun j u hj => new_at hj) (fun u hu => int_one' _ hu) ?c3 ?c4 (base_le HBU.out.size) ?_)
              case c3 => unfold maxLen; omega
              case c4 => omega
              intro v' w9 hown' hgrow hiff hat
              obtain ⟨g9, cap9, rfl, hdc9, hcm9⟩ := own_some hown' (by simpa using hiff)
              have HB9 := Lib.hid ((HBU.out.alloc HBU.out.size (.cells #[.int .i64 (t : Int)] 2)).grown hgrow (base_le HBU.out.size) (fun j hj => (HOW.out.lt j hj).1))
              have HO9 : Hid (PathO w9 w.heap.size g9 cap9 (p ++ [t])) := Lib.hid (by
                unfold PathO
                rw [barL_snoc, flat_snoc, List.length_append, HQ2.out]
                exact hown')
              have HRW9 := Lib.hid ((HROWU.out.below ((Below.refl u.val.heap.size u.val).alloc (Nat.le_refl _) (.cells #[.int .i64 (t : Int)] 2)) hglu).touch (F := fun c => c = g2) (by simpa using Nat.lt_succ_of_lt hglu) (Touch.of_grown hgrow (fun c hc => by injection hc with hc; exact hc.symm)) hgg)
              have hgg9 : g ≠ g9 := by
                rcases hat with h | h <;> injection h with h
                · exact fun e => hgg (e.trans h)
                · simp at h; omega
              have hgl9 : g < w9.heap.size := by have := hgrow.size; simp at this; omega
              clear hown' hgrow hiff hat
              go_wp2
              go_roundw
              case rel => exact ⟨p ++ [t], t, g9, cap9, by rw [List.length_append, HQ2.out]; rfl, HO9.out, HG9.out, HRW9.out, hgg9, hgl9, HB9.out⟩
              case measure => simp [lenV]; omega
            · have hd : (x + 1 == y) = false := by simpa using hf
              have HN2 : Hid (∀ k', k' < k + 1 → ∀ t', ((grV V).tr a)[k']? = some t' → (fun k' t' => ¬ (runI (grV V) [] (rankCost rule) (grV V).n t' + rankCost rule (k' + 1) = runI (grV V) [] (rankCost rule) (grV V).n a)) k' t') := Lib.hid (fun k' hk' t' ht' => by
                by_cases e : k' = k
                · subst e
                  rw [HT1.out] at ht'
                  injection ht' with ht'
                  subst ht'
                  exact fun h => hf (HFIT.out.1 h)
                · exact HNO.out k' (by omega) t' ht')
              clear hf HNO
              go_wp2_with (fail)
              refine wp_region_at (by kernel_rfl) (by kernel_rfl) ?_
              repeat (go_big_quiet_step ((first | (go_at_call 30; exact aft_q (still_q (cost1_any _ _))))))
              refine wpQuiet_nil ?_
              rintro _ ⟨u, rfl⟩
              go_wp2
              go_roundw
              case rel => exact ⟨k + 1, u, by omega, by go_num, rfl, rfl, HN2.out⟩
              case measure => simp [RowKit.intOf]; omega
          · exfalso
            obtain ⟨t, kk, h1, h2, _⟩ := HNX.out
            rw [if_neg HR2.out] at h2
            have := (List.getElem?_eq_some_iff.1 h1).1
            rw [HTRL.out] at this
            exact HNO.out kk (by omega) t h1 h2
end Go.Proofs.Ytihhbkijcebapaa

namespace Go.Proofs.Ytihhbkijcebapaa
open Go.RowKit Go.Lib

def Settle2Post (V : List Voi) (rule : Int) (w : World) (e : Ending) (w' : World) : Prop :=
  ∃ g cap, e = .returned (.tuple #[.slice (some ⟨g, 0, none⟩) V.length cap, .bool true]) ∧ (endsL V rule).length = V.length ∧ (∀ (j : Nat) (x : Int), (endsL V rule)[j]? = some x → IsEnd (grV V) rule j x) ∧ NumO w' w.heap.size g cap (endsL V rule) ∧ Below w.heap.size w w'
theorem NumO.less {w : World} {b base g cap : Nat} {L : List Int} (h : NumO w base g cap L) (hb : b ≤ base) : NumO w b g cap L := by
  obtain ⟨h1, h2 | ⟨g', c, cur, e, h3, h4⟩⟩ := h
  · exact ⟨h1, .inl h2⟩
  · exact ⟨h1, .inr ⟨g', c, cur, e, Nat.le_trans hb h3, h4⟩⟩
theorem best2_any (V : List Voi) (rule : Int) (m : Nat) (v : Value) (w : World) (hV : Vois w w.heap.size v V) (hok : VoisOk V) (hm : m < V.length) :
    Calls Try.prog 19 #[v, .int .i64 rule, .int .i64 (m : Int)] w (Best2Post V rule m w) := by
  by_cases h2 : rule = 2
  · subst h2
    exact best2a_any V m v w hV hok hm
  · by_cases h1 : rule = 1
    · subst h1
      exact best2b_any V m v w hV hok hm
    · exact best2c_any V rule h1 h2 m v w hV hok hm
end Go.Proofs.Ytihhbkijcebapaa

/- Lists of deeds: sizes, copies, equality; FnExactJournalText, walked. -/
import Derived.Test.YtedglaejieblhaaDoorLawX
import Derived.Test.YtedglaejieblhaaDoorLawTR
import Derived.Laws.IdiomCopy
namespace Go.Proofs.YtedglaejieblhaaDoor
open Go.RowKit Go.Lib

def DFits (d : Deed) : Prop := d.trust.length ≤ 1048576 ∧ d.title.size ≤ 1048576 ∧ d.patch.length ≤ 1048576 ∧ ∀ e ∈ d.patch, Fits e

set_option maxRecDepth 100000 in
set_option maxHeartbeats 2000000 in
theorem szDeeds_any (ds : List Deed) (A : Option Addr) (n c : Nat) (left : Int) (w : World) (h : Deeds w w.heap.size (.slice A n c) ds) (h0 : 0 ≤ left) (h1 : left ≤ 1048576) :
    Calls Tryd.prog 11 #[.slice A n c, .int .i64 left] w (SzPost (n ≤ 1048576 ∧ ∀ d ∈ ds, DFits d) w) := by
  obtain ⟨hn, hc, hm⟩ := slR_len h
  have HD := Lib.hid (SlR.aft h DeedR.stays (Nat.le_refl _))
  have hnm : n ≤ 9223372036854775807 := by omega
  have hnl : n ≤ ds.length := by omega
  have hln : ds.length ≤ n := by omega
  clear h hn
  refine calls_aft fun x0 => ?_
  by_cases hlt : left - (n : Int) < 0
  · go_enter Tryd.func11, Tryd.ntmps11
    go_wp2
    go_ret
    exact ⟨_, rfl, .inl (by omega), x0.ok⟩
  · go_enter Tryd.func11, Tryd.ntmps11
    go_wp2
    go_loopw [1, 5] (fun l i wr => ∃ (k : Nat) (r : Int) (x : Aft w), k ≤ n ∧ i = .int .i64 (k : Int) ∧ l = .int .i64 r ∧ 0 ≤ r ∧ r ≤ 1048576 ∧ (∀ d ∈ ds.take k, DFits d) ∧ wr = x.val) (fun _ i _ => n - (RowKit.intOf i).toNat)
    case atStart => exact ⟨0, _, x0, Nat.zero_le _, rfl, rfl, by omega, by omega, by simp, rfl⟩
    case round =>
      obtain ⟨k, r, x, hk, rfl, rfl, hr0, hr1, hall, rfl⟩ := hrel
      have HA := Lib.hid hall
      clear hall
      by_cases hkn : k < n
      · have hget : ds[k]? = some ds[k] := List.getElem?_eq_getElem (by omega)
        obtain ⟨b, off, A1, c1, A2, c2, rfl, hb, hP⟩ := deeds_get (HD.out x) hget
        have hts : ds.take (k + 1) = ds.take k ++ [ds[k]] := by rw [List.take_succ_eq_append_getElem]
        have HTS := Lib.hid hts
        clear hget hts
        generalize ds[k] = d at *
        have z0 := hP.k0
        have z1 := hP.k1
        have z2 := hP.k2
        have z3 := hP.k3
        have z4 := hP.k4
        have z5 := hP.k5
        have z6 := hP.k6
        have z7 := hP.k7
        have z8 := hP.k8
        have HP := Lib.hid hP
        clear hP
        go_wp2_with (fail)
        refine (szDeed_any d A1 d.trust.length c1 A2 d.patch.length c2 r _ HP.out.ints HP.out.edits HP.out.sizes HP.out.title hr0 hr1).mono ?_
        rintro e' w1 ⟨r', rfl, hr, hb1⟩
        obtain ⟨y, rfl⟩ : ∃ y : Aft w, w1 = y.val := ⟨⟨w1, x.ok.trans (hb1.mono x.ok.size)⟩, rfl⟩
        clear z0 z1 z2 z3 z4 z5 z6 z7 z8
        rcases hr with hr | ⟨hf, hr2, hr3⟩
        · go_wp2
          go_ret
          exact ⟨_, rfl, .inl (by omega), y.ok⟩
        · have hr4 : ¬ r' < 0 := by omega
          have HF := Lib.hid hf
          clear hf
          go_wp2
          go_roundw
          case rel => exact ⟨k + 1, r', y, by omega, by go_num, rfl, hr2, hr3, by rw [HTS.out]; intro e he; rcases List.mem_append.1 he with he | he; exact HA.out e he; rw [List.mem_singleton.1 he]; exact HF.out, rfl⟩
          case measure => simp [RowKit.intOf]; omega
      · have hge : ¬ (k : Int) < (n : Int) := by omega
        go_wp2
        go_ret
        refine ⟨_, rfl, .inr ⟨⟨by omega, ?_⟩, hr0, hr1⟩, x.ok⟩
        have := HA.out
        rwa [List.take_of_length_le (by omega)] at this

set_option maxRecDepth 100000 in
set_option maxHeartbeats 4000000 in
theorem eqDeeds_any (ds : List Deed) (A : Option Addr) (n c : Nat) (A' : Option Addr) (n' c' : Nat) (w : World) (h1 : Deeds w w.heap.size (.slice A n c) ds) (h2 : Deeds w w.heap.size (.slice A' n' c') ds) :
    Calls Tryd.prog 15 #[.slice A n c, .slice A' n' c'] w (RetB (.bool true) w) := by
  obtain ⟨rfl, e1, g1⟩ := slR_len h1
  obtain ⟨rfl, e2, g2⟩ := slR_len h2
  have H1 := Lib.hid h1
  have H2 := Lib.hid h2
  have hlm : ds.length ≤ 9223372036854775807 := by omega
  clear h1 h2
  refine calls_aft fun x0 => ?_
  go_enter Tryd.func15, Tryd.ntmps15
  go_wp2
  go_loopw [5] (fun i wr => ∃ (k : Nat) (x : Aft w), k ≤ ds.length ∧ i = .int .i64 (k : Int) ∧ wr = x.val) (fun i _ => ds.length - (RowKit.intOf i).toNat)
  case atStart => exact ⟨0, x0, Nat.zero_le _, rfl, rfl⟩
  case round =>
    obtain ⟨k, x, hk, rfl, rfl⟩ := hrel
    by_cases hlt : k < ds.length
    · have hget : ds[k]? = some ds[k] := List.getElem?_eq_getElem hlt
      obtain ⟨b, off, A1, c1, A2, c2, rfl, hb, hP⟩ := deeds_get H1.out hget
      obtain ⟨b', off', A3, c3, A4, c4, rfl, hb', hQ⟩ := deeds_get H2.out hget
      clear hget
      generalize ds[k] = d at *
      have z0 := fun y : Aft w => y.cell hP.k0
      have t0 := fun y : Aft w => y.cell hQ.k0
      have z1 := fun y : Aft w => y.cell hP.k1
      have t1 := fun y : Aft w => y.cell hQ.k1
      have z2 := fun y : Aft w => y.cell hP.k2
      have t2 := fun y : Aft w => y.cell hQ.k2
      have z3 := fun y : Aft w => y.cell hP.k3
      have t3 := fun y : Aft w => y.cell hQ.k3
      have z4 := fun y : Aft w => y.cell hP.k4
      have t4 := fun y : Aft w => y.cell hQ.k4
      have z5 := fun y : Aft w => y.cell hP.k5
      have t5 := fun y : Aft w => y.cell hQ.k5
      have z6 := fun y : Aft w => y.cell hP.k6
      have t6 := fun y : Aft w => y.cell hQ.k6
      have z7 := fun y : Aft w => y.cell hP.k7
      have t7 := fun y : Aft w => y.cell hQ.k7
      have z8 := fun y : Aft w => y.cell hP.k8
      have t8 := fun y : Aft w => y.cell hQ.k8
      have HP := Lib.hid (fun y : Aft w => hP.aft y)
      have HQ := Lib.hid (fun y : Aft w => hQ.aft y)
      clear hP hQ
      go_wp2_with (fail)
      refine wp_region_at (by kernel_rfl) (by kernel_rfl) ?_
      repeat (go_big_quiet_step ((first | (go_at_call 10; exact aft_b (eqDeed_any d _ _ _ _ _ _ _ _ _ _ _ _ _ (HP.out _).ints (HP.out _).edits (HQ.out _).ints (HQ.out _).edits)))))
      refine wpQuiet_nil ?_
      rintro _ ⟨y, rfl⟩
      go_wp2
      go_roundw
      case rel => exact ⟨k + 1, y, by omega, by go_num, rfl⟩
      case measure => simp [RowKit.intOf]; omega
    · have hge : ¬ (k : Int) < (ds.length : Int) := by omega
      go_wp2
      go_ret
      exact ⟨rfl, x.ok⟩

/-- A deed in a row of the call's own, its own rows above. -/
def OwnD (w : World) (g o : Nat) (d : Deed) : Prop :=
  ∃ g1 c1 g2 c2, (∀ i u, (deedCells d (some ⟨g1, 0, none⟩) c1 (some ⟨g2, 0, none⟩) c2)[i]? = some u → w.cell? ⟨g, o + i, none⟩ = some u) ∧
    d.trust.length ≤ c1 ∧ c1 ≤ maxLen ∧ d.patch.length ≤ c2 ∧ c2 ≤ maxLen ∧ g < g1 ∧ g1 < g2 ∧ g2 < w.heap.size ∧ Row w g1 (d.trust.flatMap intCells) ∧ Row w g2 (d.patch.flatMap editCells)
theorem OwnD.below {w w' : World} {g o : Nat} {d : Deed} (h : OwnD w g o d) (hb : Below w.heap.size w w') : OwnD w' g o d := by
  obtain ⟨g1, c1, g2, c2, h1, h2, h3, h4, h5, h6, h7, h8, h9, h10⟩ := h
  exact ⟨g1, c1, g2, c2, fun i u hu => (hb.cell (p := ⟨g, o + i, none⟩) (by show g < _; omega)).trans (h1 i u hu), h2, h3, h4, h5, h6, h7, Nat.lt_of_lt_of_le h8 hb.size, h9.below hb (by omega), h10.below hb h8⟩
theorem setCells_size (g : Nat) : ∀ (vs : List Value) (o : Nat) (w : World), (w.setCells g o vs).heap.size = w.heap.size
  | [], _, _ => rfl
  | v :: r, o, w => by rw [World.setCells, setCells_size g r]; simp
theorem below_setCells {B : Nat} {a : World} (g : Nat) (hg : B ≤ g) : ∀ (vs : List Value) (o : Nat) (w : World), Below B a w → Below B a (w.setCells g o vs)
  | [], _, _, h => h
  | v :: r, o, w, h => by rw [World.setCells]; exact below_setCells g hg r (o + 1) _ (h.setCell hg _)
theorem Row.sets {w : World} {g g1 o : Nat} {L vs : List Value} (h : Row w g1 L) (hne : g ≠ g1) : Row (w.setCells g o vs) g1 L :=
  ⟨fun j u hj => by rw [World.cell?_setCells_out _ _ _ _ _ (fun e _ => absurd e.symm hne)]; exact h.cell j u hj, fun j hj => by rw [World.frozen?_setCells]; exact h.free j hj⟩
theorem OwnD.sets {w : World} {g o o' : Nat} {d : Deed} {vs : List Value} (h : OwnD w g o d) (ho : o + 9 ≤ o' ∨ o' + vs.length ≤ o) : OwnD (w.setCells g o' vs) g o d := by
  obtain ⟨g1, c1, g2, c2, h1, h2, h3, h4, h5, h6, h7, h8, h9, h10⟩ := h
  refine ⟨g1, c1, g2, c2, fun i u hu => ?_, h2, h3, h4, h5, h6, h7, by rw [setCells_size]; exact h8, h9.sets (by omega), h10.sets (by omega)⟩
  have hi : i < 9 := (List.getElem?_eq_some_iff.1 hu).1
  rw [World.cell?_setCells_out _ _ _ _ _ (fun _ _ => by show o + i < o' ∨ o' + vs.length ≤ o + i; omega)]
  exact h1 i u hu

structure FillD (w : World) (g n : Nat) (ds : List Deed) (k : Nat) : Prop where
  free : ∀ o, o < n * 9 → w.frozen? ⟨g, o, none⟩ = false
  have_ : ∀ o, o < n * 9 → (w.cell? ⟨g, o, none⟩).isSome = true
  got : ∀ j d, j < k → ds[j]? = some d → OwnD w g (j * 9) d
theorem FillD.below {w w' : World} {g n k : Nat} {ds : List Deed} (h : FillD w g n ds k) (hb : Below w.heap.size w w') (hg : g < w.heap.size) : FillD w' g n ds k :=
  ⟨fun o ho => (hb.frozen (p := ⟨g, o, none⟩) hg).trans (h.free o ho), fun o ho => by rw [hb.cell (p := ⟨g, o, none⟩) hg]; exact h.have_ o ho, fun j d hj hd => (h.got j d hj hd).below hb⟩
theorem FillD.step {w : World} {g n k : Nat} {ds : List Deed} {d : Deed} (h : FillD w g n ds k) (hk : k < n) (hd : ds[k]? = some d) {g1 c1 g2 c2 : Nat}
    (h2 : d.trust.length ≤ c1) (h3 : c1 ≤ maxLen) (h4 : d.patch.length ≤ c2) (h5 : c2 ≤ maxLen) (h6 : g < g1) (h7 : g1 < g2) (h8 : g2 < w.heap.size) (h9 : Row w g1 (d.trust.flatMap intCells)) (h10 : Row w g2 (d.patch.flatMap editCells)) :
    FillD (w.setCells g (k * 9) (deedCells d (some ⟨g1, 0, none⟩) c1 (some ⟨g2, 0, none⟩) c2)) g n ds (k + 1) := by
  have hl : (deedCells d (some ⟨g1, 0, none⟩) c1 (some ⟨g2, 0, none⟩) c2).length = 9 := rfl
  have hin := World.cell?_setCells_in g (deedCells d (some ⟨g1, 0, none⟩) c1 (some ⟨g2, 0, none⟩) c2) (k * 9) w (fun j hj => h.have_ _ (by rw [hl] at hj; omega))
  refine ⟨fun o ho => by rw [World.frozen?_setCells]; exact h.free o ho, fun o ho => ?_, fun j e hj he => ?_⟩
  · by_cases ho2 : k * 9 ≤ o ∧ o < k * 9 + 9
    · have := hin (o - k * 9) (by rw [hl]; omega)
      rw [show k * 9 + (o - k * 9) = o by omega] at this
      rw [this]
      rfl
    · rw [World.cell?_setCells_out _ _ _ _ _ (fun _ _ => by show o < k * 9 ∨ k * 9 + 9 ≤ o; omega)]
      exact h.have_ o ho
  · by_cases e1 : j = k
    · subst e1
      rw [hd] at he
      injection he with he
      subst he
      refine ⟨g1, c1, g2, c2, fun i u hu => ?_, h2, h3, h4, h5, h6, h7, by rw [setCells_size]; exact h8, h9.sets (by omega), h10.sets (by omega)⟩
      obtain ⟨hi, rfl⟩ := List.getElem?_eq_some_iff.1 hu
      exact hin i hi
    · exact (h.got j e (by omega) he).sets (by rw [hl]; omega)
theorem FillD.deeds {w : World} {g n c : Nat} {ds : List Deed} (h : FillD w g n ds n) (hn : n = ds.length) (hg : g < w.heap.size) (hc : n ≤ c) (hm : c ≤ maxLen) (hs : ∀ d ∈ ds, SizesOk d.patch ∧ d.title.size ≤ maxLen) : Deeds w w.heap.size (.slice (some ⟨g, 0, none⟩) n c) ds := by
  subst hn
  refine ⟨_, c, rfl, hc, hm, fun h0 => ⟨g, 0, rfl, hg, fun k d hd => ?_⟩⟩
  obtain ⟨g1, c1, g2, c2, h1, h2, h3, h4, h5, h6, h7, h8, h9, h10⟩ := h.got k d (List.getElem?_eq_some_iff.1 hd).1 hd
  have hsd := hs d (List.mem_of_getElem? hd)
  exact ⟨deedCells d (some ⟨g1, 0, none⟩) c1 (some ⟨g2, 0, none⟩) c2, rfl, ⟨_, _, _, _, rfl, SlR.of_row intCells (fun _ => rfl) h9 (by omega) h2 h3, SlR.of_row editCells (fun _ => rfl) h10 h8 h4 h5, hsd.1, hsd.2⟩, fun j u hu => by rw [Nat.zero_add]; exact h1 j u hu⟩

theorem Tryd.infoD : (Tryd.prog.info? 31).map (fun i => (i.zero, i.size, i.bytes)) = some (some (.agg #[.int .i64 0, .int .i64 0, .slice none 0 0, .string ⟨#[]⟩, .int .i64 0, .slice none 0 0, .int .i64 0, .int .i64 0, .int .i64 0]), 9, 112) := by kernel_rfl

def RetDS (ds : List Deed) (w : World) (e : Ending) (w' : World) : Prop :=
  ∃ A c, e = .returned (.slice A ds.length c) ∧ Deeds w' w'.heap.size (.slice A ds.length c) ds ∧ Below w.heap.size w w'

set_option maxRecDepth 100000 in
set_option maxHeartbeats 8000000 in
theorem toDeeds_any (ds : List Deed) (A : Option Addr) (n c : Nat) (w : World) (h : Deeds w w.heap.size (.slice A n c) ds) (hn : n ≤ 1048576) (hf : ∀ d ∈ ds, DFits d) :
    Calls Tryd.prog 13 #[.slice A n c] w (RetDS ds w) := by
  obtain ⟨rfl, e1, g1⟩ := slR_len h
  have HD := Lib.hid (SlR.aft h DeedR.stays (Nat.le_refl _))
  have HF := Lib.hid hf
  clear h hf
  obtain ⟨i0, hi, hz0, hz1, hz2⟩ := info_parts Tryd.infoD
  obtain ⟨W, Z, hmk, hrow, hZ, hgs, hbW⟩ := make_row (P := Tryd.prog) w 38 31 i0 _ 9 Tryd.underlying38 hi hz0 hz1 ds.length (by rw [hz2]; omega) hn
  have HR : Hid (FillD W w.heap.size ds.length ds 0) := Lib.hid ⟨fun o ho => hrow.free o (by omega), fun o ho => by rw [hrow.cell o _ (List.getElem?_eq_getElem (show o < Z.length by omega))]; rfl, fun j d hj _ => absurd hj (Nat.not_lt_zero _)⟩
  clear hi hz0 hz1 hz2 hrow hZ
  go_enter Tryd.func13, Tryd.ntmps13
  go_wp2
  go_loopw [4] (fun i wr => ∃ k : Nat, k ≤ ds.length ∧ i = .int .i64 (k : Int) ∧ FillD wr w.heap.size ds.length ds k ∧ Below w.heap.size w wr ∧ w.heap.size < wr.heap.size) (fun i _ => ds.length - (RowKit.intOf i).toNat)
  case atStart => exact ⟨0, Nat.zero_le _, rfl, HR.out, hbW, hgs⟩
  case round =>
    obtain ⟨k, hk, rfl, hfill, hb, hgr⟩ := hrel
    have HFI := Lib.hid hfill
    clear hfill
    by_cases hlt : k < ds.length
    · have hget : ds[k]? = some ds[k] := List.getElem?_eq_getElem hlt
      obtain ⟨x, rfl⟩ : ∃ x : Aft w, wr = x.val := ⟨⟨wr, hb⟩, rfl⟩
      obtain ⟨b, off, A1, c1, A2, c2, rfl, hbl, hP⟩ := deeds_get (HD.out x) hget
      have hdf := HF.out ds[k] (List.getElem_mem hlt)
      have HG := Lib.hid hget
      clear hget
      generalize ds[k] = d at *
      have z0 := hP.k0
      have z1 := hP.k1
      have z2 := hP.k2
      have z3 := hP.k3
      have z4 := hP.k4
      have z5 := hP.k5
      have z6 := hP.k6
      have z7 := hP.k7
      have z8 := hP.k8
      have HP := Lib.hid hP
      have HDF := Lib.hid hdf
      clear hP hdf
      go_wp2_with (fail)
      refine (toDeed_row d A1 d.trust.length c1 A2 d.patch.length c2 _ HP.out.ints HP.out.edits HDF.out.1 HDF.out.2.2.1).mono ?_
      rintro e' w1 ⟨p1, k1, p2, k2, rfl, m1, m2, m3, m4, m5, m6, m7, m8, m9, hb1⟩
      clear z0 z1 z2 z3 z4 z5 z6 z7 z8
      have hgr1 := Nat.lt_of_lt_of_le hgr hb1.size
      have hfl := HFI.out.below hb1 hgr
      have hbw := hb.trans (hb1.mono hb.size)
      have f0 := hfl.free (k * 9) (by omega)
      obtain ⟨o0, s0⟩ := Option.isSome_iff_exists.1 (hfl.have_ (k * 9) (by omega))
      have f1 := hfl.free (k * 9 + 1) (by omega)
      obtain ⟨o1, s1⟩ := Option.isSome_iff_exists.1 (hfl.have_ (k * 9 + 1) (by omega))
      have f2 := hfl.free (k * 9 + 2) (by omega)
      obtain ⟨o2, s2⟩ := Option.isSome_iff_exists.1 (hfl.have_ (k * 9 + 2) (by omega))
      have f3 := hfl.free (k * 9 + 3) (by omega)
      obtain ⟨o3, s3⟩ := Option.isSome_iff_exists.1 (hfl.have_ (k * 9 + 3) (by omega))
      have f4 := hfl.free (k * 9 + 4) (by omega)
      obtain ⟨o4, s4⟩ := Option.isSome_iff_exists.1 (hfl.have_ (k * 9 + 4) (by omega))
      have f5 := hfl.free (k * 9 + 5) (by omega)
      obtain ⟨o5, s5⟩ := Option.isSome_iff_exists.1 (hfl.have_ (k * 9 + 5) (by omega))
      have f6 := hfl.free (k * 9 + 6) (by omega)
      obtain ⟨o6, s6⟩ := Option.isSome_iff_exists.1 (hfl.have_ (k * 9 + 6) (by omega))
      have f7 := hfl.free (k * 9 + 7) (by omega)
      obtain ⟨o7, s7⟩ := Option.isSome_iff_exists.1 (hfl.have_ (k * 9 + 7) (by omega))
      have f8 := hfl.free (k * 9 + 8) (by omega)
      obtain ⟨o8, s8⟩ := Option.isSome_iff_exists.1 (hfl.have_ (k * 9 + 8) (by omega))
      have HFL := Lib.hid hfl
      have HB1 := Lib.hid hbw
      have HR8 := Lib.hid m8
      have HR9 := Lib.hid m9
      have M1 := Lib.hid m1
      have M2 := Lib.hid m2
      have M3 := Lib.hid m3
      have M4 := Lib.hid m4
      clear hfl hbw hb1 m8 m9 m1 m2 m3 m4
      go_wp2
      go_roundw
      case rel => exact ⟨k + 1, by omega, by go_num, HFL.out.step hlt HG.out M1.out M2.out M3.out M4.out (by omega) m6 m7 HR8.out HR9.out, below_setCells w.heap.size (Nat.le_refl _) (deedCells d (some ⟨p1, 0, none⟩) k1 (some ⟨p2, 0, none⟩) k2) (k * 9) w1 HB1.out, by simpa using hgr1⟩
      case measure => simp [RowKit.intOf]; omega
    · have hge : ¬ (k : Int) < (ds.length : Int) := by omega
      have hk' : k = ds.length := by omega
      have hfin : Hid (Deeds wr wr.heap.size (.slice (some ⟨w.heap.size, 0, none⟩) ds.length ds.length) ds) := Lib.hid (by
        have := HFI.out
        rw [hk'] at this
        exact this.deeds rfl hgr (Nat.le_refl _) (by unfold maxLen; omega) (fun d hd => ⟨fits_ok (HF.out d hd).2.2.2, Nat.le_trans (HF.out d hd).2.1 (by unfold maxLen; omega)⟩))
      clear hk'
      go_wp2
      go_ret
      exact ⟨_, _, rfl, hfin.out, hb⟩

set_option maxRecDepth 100000 in
set_option maxHeartbeats 4000000 in
theorem lawJ_any (ds : List Deed) (A : Option Addr) (n c : Nat) (w : World) (h : Deeds w w.heap.size (.slice A n c) ds) (hE : Env w.heap.size w) :
    Calls Tryd.prog 4 #[.slice A n c] w (RetB (.bool true) w) := by
  have HD := Lib.hid (SlR.aft h DeedR.stays (Nat.le_refl _))
  have E := Lib.hid (fun y : Aft w => env_more (hE.on y.ok) y.ok.size)
  clear h hE
  refine calls_aft fun x0 => ?_
  go_enter Tryd.func4, Tryd.ntmps4
  go_wp2_with (fail)
  refine (szDeeds_any ds A n c 1048576 _ (HD.out x0) (by omega) (by omega)).mono ?_
  rintro e1 w1 ⟨r, rfl, hr, hb1⟩
  obtain ⟨x1, rfl⟩ : ∃ y : Aft w, w1 = y.val := ⟨⟨w1, x0.ok.trans (hb1.mono x0.ok.size)⟩, rfl⟩
  clear hb1
  rcases hr with hr | ⟨⟨q1, q2⟩, hr0, hr1⟩
  · go_wp2
    go_ret
    exact ⟨rfl, x1.ok⟩
  · have hrn : ¬ r < 0 := by omega
    have HF := Lib.hid q2
    clear q2
    go_wp2_with (fail)
    refine (toDeeds_any ds A n c _ (HD.out x1) q1 HF.out).mono ?_
    rintro e2 w2 ⟨B1, d1, rfl, h2, hb2⟩
    obtain ⟨x2, rfl⟩ : ∃ y : Aft w, w2 = y.val := ⟨⟨w2, x1.ok.trans (hb2.mono x1.ok.size)⟩, rfl⟩
    have H2 := Lib.hid h2
    clear h2 hb2
    go_wp2_with (fail)
    refine (aft_b (journalText1_any ds B1 _ d1 _ H2.out)).mono ?_
    rintro e3 _ ⟨rfl, x3, rfl⟩
    go_wp2_with (fail)
    refine (toDeeds_any ds A n c _ (HD.out x3) q1 HF.out).mono ?_
    rintro e4 w4 ⟨B2, d2, rfl, h4, hb4⟩
    obtain ⟨x4, rfl⟩ : ∃ y : Aft w, w4 = y.val := ⟨⟨w4, x3.ok.trans (hb4.mono x3.ok.size)⟩, rfl⟩
    have H4 := Lib.hid (SlR.aft h4 DeedR.stays (Nat.le_refl _))
    have HX := Lib.hid (fun y : Aft x4.val => (⟨x4.of y, rfl⟩ : ∃ t : Aft w, t.val = y.val))
    clear h4 hb4
    obtain ⟨u0, hu0⟩ : ∃ y : Aft x4.val, y.val = x4.val := ⟨⟨x4.val, Below.refl _ _⟩, rfl⟩
    rw [← hu0]
    clear hu0
    go_wp2_with (fail)
    refine (aft_b (journalText2_any ds B2 _ d2 _ (H4.out u0) (by obtain ⟨t, ht⟩ := HX.out u0; rw [← ht]; exact E.out t))).mono ?_
    rintro e5 _ ⟨rfl, u1, rfl⟩
    go_wp2_with (fail)
    refine (toDeeds_any ds A n c _ (by obtain ⟨t, ht⟩ := HX.out u1; rw [← ht]; exact HD.out t) q1 HF.out).mono ?_
    rintro e6 w6 ⟨B3, d3, rfl, h6, hb6⟩
    obtain ⟨u2, rfl⟩ : ∃ y : Aft x4.val, w6 = y.val := ⟨⟨w6, u1.ok.trans (hb6.mono u1.ok.size)⟩, rfl⟩
    have H6 := Lib.hid h6
    clear h6 hb6
    go_wp2_with (fail)
    refine (aft_b (eqDeeds_any ds B2 _ d2 B3 _ d3 _ (H4.out u2) H6.out)).mono ?_
    rintro e7 _ ⟨rfl, u3, rfl⟩
    go_wp2
    go_ret
    exact ⟨rfl, aft_done x4.ok u3⟩
end Go.Proofs.YtedglaejieblhaaDoor

/- The text of a deed, walked: the reference's, whole. -/
import Derived.Test.YthlfpiflegfoiaaGreatDoorLawP
namespace Go.Proofs.YthlfpiflegfoiaaGreatDoor
open Go.RowKit Go.Lib

set_option maxRecDepth 100000 in
set_option maxHeartbeats 2000000 in
theorem swap1_any (l : List UInt8) (fr to_ : UInt8) (F T : Int) (hF : F = (fr.toNat : Int)) (hT : T = (to_.toNat : Int)) (w : World) (hl : l.length ≤ 1048576) :
    Calls Tryz.prog 53 #[.string ⟨l.toArray⟩, .int .u8 F, .int .u8 T] w (RetB (.string ⟨(l.map (fun c => if c = fr then to_ else c)).toArray⟩) w) := by
  subst hF hT
  obtain ⟨m, hmm⟩ : ∃ m, l.map (fun c => if c = fr then to_ else c) = m := ⟨_, rfl⟩
  rw [hmm]
  have HM := Lib.hid hmm
  clear hmm
  have hcv := Lib.run_convert_string_bytes (P := Tryz.prog) w 9 44 5 ⟨l.toArray⟩ (u := .string) Tryz.underlying9 Tryz.underlying44 Tryz.underlying5
  have hsz : (⟨l.toArray⟩ : ByteArray).size = l.length := by simp [ByteArray.size]
  rw [hsz] at hcv
  obtain ⟨X, hX⟩ : ∃ X, X = Lib.bytesWorld w 5 ⟨l.toArray⟩ := ⟨_, rfl⟩
  have hB : Below w.heap.size w X := by
    refine ⟨?_, ?_, ?_, ?_, ?_⟩
    · rw [hX]; rfl
    · rw [hX]; rfl
    · rw [hX]; rfl
    · rw [hX, Lib.bytesWorld_size]; omega
    · intro i hi; rw [hX]; exact Lib.bytesWorld_at_old _ _ _ _ hi
  have hO : BytesOwn X w.heap.size l := by
    refine ⟨fun j c hj => ?_, fun j hj => ?_⟩
    · have hjl : j < l.length := (List.getElem?_eq_some_iff.1 hj).1
      rw [hX, Lib.bytesWorld_cell _ _ _ _ (by rw [hsz]; exact hjl)]
      simp only [List.getD_eq_getElem?_getD, hj, Option.getD_some]
    · rw [hX]
      unfold World.frozen?
      rw [Lib.bytesWorld_at_new]
      have : l.length ≤ (Lib.bytesCells w 5 ⟨l.toArray⟩).size := by unfold Lib.bytesCells; simp
      simp
      omega
  rw [← hX] at hcv
  generalize grownCap w l.length 0 5 = cap at hcv
  clear hX hsz
  have HO := Lib.hid hO
  clear hO
  go_enter Tryz.func53, Tryz.ntmps53
  go_wp2
  go_loopw [8] (fun i wr => ∃ k : Nat, k ≤ l.length ∧ i = .int .i64 (k : Int) ∧ BytesOwn wr w.heap.size (swp fr to_ l k) ∧ Below w.heap.size w wr) (fun i _ => l.length - (RowKit.intOf i).toNat)
  case atStart => exact ⟨0, Nat.zero_le _, rfl, by simpa [swp] using HO.out, hB⟩
  case round =>
    obtain ⟨k, hk, rfl, hown, hb⟩ := hrel
    have HW := Lib.hid hown
    by_cases hlt : k < l.length
    · have x0 := hown.cell k l[k] (swp_get fr to_ l k hlt)
      have f0 := hown.free k (by rw [swp_length]; exact hlt)
      have HS := Lib.hid (swp_succ fr to_ l k hlt)
      have HK := Lib.hid (swp_keep fr to_ l k hlt)
      have HB := Lib.hid hb
      clear hown hb
      generalize l[k] = c at *
      by_cases he : c = fr
      · have h1 : ((c.toNat : Int) == (fr.toNat : Int)) = true := by simp [he]
        have HN : Hid (BytesOwn (wr.setCell ⟨w.heap.size, k, none⟩ (.int .u8 (to_.toNat : Int))) w.heap.size (swp fr to_ l (k + 1))) := Lib.hid (by rw [HS.out, if_pos he]; exact HW.out.set k to_ (by rw [swp_length]; exact hlt))
        clear he
        go_wp2
        go_roundw
        case rel => exact ⟨k + 1, by omega, by go_num, HN.out, HB.out.setCell (Nat.le_refl _) _⟩
        case measure => simp [RowKit.intOf]; omega
      · have h1 : ((c.toNat : Int) == (fr.toNat : Int)) = false := by
          simp only [beq_eq_false_iff_ne, ne_eq]
          intro e
          exact he (UInt8.toNat_inj.1 (by omega))
        have HN : Hid (BytesOwn wr w.heap.size (swp fr to_ l (k + 1))) := Lib.hid (by rw [HK.out he]; exact HW.out)
        clear he
        go_wp2
        go_roundw
        case rel => exact ⟨k + 1, by omega, by go_num, HN.out, HB.out⟩
        case measure => simp [RowKit.intOf]; omega
    · have hge : ¬ (k : Int) < (l.length : Int) := by omega
      have hsw := swp_all fr to_ l k (by omega)
      rw [hsw, HM.out] at hown
      have hlen : m.length = l.length := by rw [← HM.out]; exact List.length_map _
      have hcv2 : (convert 44 9 (.slice (some ⟨w.heap.size, 0, none⟩) l.length cap)).run Tryz.prog wr = .ok (.string ⟨m.toArray⟩) wr := by
        rw [← hlen]
        exact run_convert_bytes_back (P := Tryz.prog) wr 44 9 5 ⟨w.heap.size, 0, none⟩ cap m Tryz.underlying44 Tryz.underlying5 Tryz.underlying9 (fun j hj => by
          have := hown.cell j m[j] (List.getElem?_eq_getElem hj)
          unfold Addr.add
          by_cases h0 : j = 0
          · subst h0; simpa using this
          · simpa [h0] using this)
      clear hlt hsw hown HW hlen hcv
      go_wp2
      go_ret
      exact ⟨rfl, hb⟩

theorem keep5 {w X X' : World} {G a b c d e : Nat} {v1 v2 v3 v4 v5 : Value} (h : X.cell? ⟨G, a, none⟩ = some v1 ∧ X.cell? ⟨G, b, none⟩ = some v2 ∧ X.cell? ⟨G, c, none⟩ = some v3 ∧ X.cell? ⟨G, d, none⟩ = some v4 ∧ X.cell? ⟨G, e, none⟩ = some v5 ∧ Below w.heap.size w X) (hb : Below X.heap.size X X') :
    X'.cell? ⟨G, a, none⟩ = some v1 ∧ X'.cell? ⟨G, b, none⟩ = some v2 ∧ X'.cell? ⟨G, c, none⟩ = some v3 ∧ X'.cell? ⟨G, d, none⟩ = some v4 ∧ X'.cell? ⟨G, e, none⟩ = some v5 ∧ Below w.heap.size w X' := by
  obtain ⟨h1, h2, h3, h4, h5, h6⟩ := h
  have hG : G < X.heap.size := World.block_lt_of_cell? X ⟨G, a, none⟩ h1
  exact ⟨(hb.cell (p := ⟨G, a, none⟩) hG).trans h1, (hb.cell (p := ⟨G, b, none⟩) hG).trans h2, (hb.cell (p := ⟨G, c, none⟩) hG).trans h3, (hb.cell (p := ⟨G, d, none⟩) hG).trans h4, (hb.cell (p := ⟨G, e, none⟩) hG).trans h5, h6.trans (hb.mono h6.size)⟩
theorem and6 {p q r s t u : Prop} (h : p ∧ q ∧ r ∧ s ∧ t ∧ u) : u := h.2.2.2.2.2

theorem semis_map (l : List UInt8) : l.map (fun c => if c = 10 then 59 else c) = semis l := rfl

set_option maxRecDepth 100000 in
set_option maxHeartbeats 8000000 in
theorem text1_any (d : Deed) (b o : Nat) (A1 : Option Addr) (c1 : Nat) (A2 : Option Addr) (c2 : Nat) (w : World) (h : DeedP w b o d A1 c1 A2 c2) (hok : okDeed d = true) :
    Calls Tryz.prog 41 #[.pointer (some ⟨b, o, none⟩)] w (RetB (.string ⟨(deedText d).toArray⟩) w) := by
  have z0 := fun y : Aft w => y.cell h.k0
  have z1 := fun y : Aft w => y.cell h.k1
  have z2 := fun y : Aft w => y.cell h.k2
  have z3 := fun y : Aft w => y.cell h.k3
  have z4 := fun y : Aft w => y.cell h.k4
  have z5 := fun y : Aft w => y.cell h.k5
  have z6 := fun y : Aft w => y.cell h.k6
  have z7 := fun y : Aft w => y.cell h.k7
  have z8 := fun y : Aft w => y.cell h.k8
  have hsize := aft_size h.k0
  have HT := Lib.hid (fun y : Aft w => (h.aft y).ints)
  have HE := Lib.hid (fun y : Aft w => (h.aft y).edits)
  have HO := Lib.hid hok
  have hm := okDeed_member hok
  obtain ⟨hm1, hm2⟩ := hm
  have il := itoa_length_le d.member (by omega) (by omega)
  clear h hok
  refine calls_aft fun x0 => ?_
  go_enter Tryz.func41, Tryz.ntmps41
  go_wp2_with (fail)
  refine (aft_b (dec1_any d.member _ (by omega) (by omega))).mono ?_
  rintro e _ ⟨rfl, x, rfl⟩
  rcases okDeed_kind HO.out with ⟨k1, t1, t2⟩ | ⟨k2, t1, v1, v2⟩ | ⟨k3, t1, op, p1, p2, p3, p4, p5, p6⟩ | ⟨k4, m0⟩
  · have HD : Hid (deedText d = if d.trust = [] then [116, 114, 117, 115, 116, 32] ++ itoa d.member else [116, 114, 117, 115, 116, 32] ++ itoa d.member ++ [32] ++ nums d.trust [44]) := Lib.hid (by unfold deedText; rw [if_pos k1])
    have b1 : (d.kind == 1) = true := by simp [k1]
    have HZ := Lib.hid t2
    clear k1 t2
    obtain ⟨T1, e1, n1, q1⟩ := cat_op (P := Tryz.prog) [116, 114, 117, 115, 116, 32] (itoa d.member) (by simp) (by omega)
    have E1 := Lib.hid e1
    clear e1
    simp only [List.length_cons, List.length_nil] at n1
    by_cases h0 : d.trust = []
    · have b2 : ((d.trust.length : Int) == 0) = true := by simp [h0]
      have HEQ : Hid (deedText d = T1) := Lib.hid (by rw [HD.out, if_pos h0, E1.out])
      clear h0
      go_wp2
      go_ret
      exact ⟨by rw [HEQ.out]; rfl, x.ok⟩
    · have b2 : ((d.trust.length : Int) == 0) = false := by simp [h0]
      obtain ⟨T2, e2, n2, q2⟩ := cat_op (P := Tryz.prog) T1 [32] (by omega) (by simp)
      simp only [List.length_cons, List.length_nil] at n2
      have hnl := nums_len d.trust [44] (by simp) HZ.out
      obtain ⟨T3, e3, n3, q3⟩ := cat_op (P := Tryz.prog) T2 (nums d.trust [44]) (by omega) (by omega)
      have HEQ : Hid (deedText d = T3) := Lib.hid (by rw [HD.out, if_neg h0, e3, e2, E1.out])
      clear h0 e2 e3
      go_wp2_with (fail)
      refine (aft_b (numbers1_any d.trust [44] _ _ (HT.out _) (by omega) (by simp) HZ.out)).mono ?_
      rintro e _ ⟨rfl, y, rfl⟩
      go_wp2
      go_ret
      exact ⟨by rw [HEQ.out]; rfl, y.ok⟩
  · have b1 : (d.kind == 1) = false := by simp [k2]
    have b2 : (d.kind == 2) = true := by simp [k2]
    have HD : Hid (deedText d = [118, 111, 116, 101, 32] ++ itoa d.member ++ [32] ++ d.title.toList ++ [32] ++ wordV d.vote) := Lib.hid (by unfold deedText; rw [if_neg (by omega), if_pos k2])
    clear k2
    obtain ⟨T1, e1, n1, q1⟩ := cat_op (P := Tryz.prog) [118, 111, 116, 101, 32] (itoa d.member) (by simp) (by omega)
    simp only [List.length_cons, List.length_nil] at n1
    obtain ⟨T2, e2, n2, q2⟩ := cat_op (P := Tryz.prog) T1 [32] (by omega) (by simp)
    simp only [List.length_cons, List.length_nil] at n2
    obtain ⟨T3, e3, n3, q3⟩ := cat_opb (P := Tryz.prog) T2 d.title (by omega) (by omega)
    obtain ⟨T4, e4, n4, q4⟩ := cat_op (P := Tryz.prog) T3 [32] (by omega) (by simp)
    simp only [List.length_cons, List.length_nil] at n4
    have hwl : (wordV d.vote).length ≤ 8 := by unfold wordV; split <;> (try split) <;> (try split) <;> simp
    obtain ⟨T5, e5, n5, q5⟩ := cat_op (P := Tryz.prog) T4 (wordV d.vote) (by omega) (by omega)
    have hwv : (#[.string ⟨#[110, 111, 110, 101]⟩, .string ⟨#[121, 101, 115]⟩, .string ⟨#[110, 111]⟩, .string ⟨#[98, 108, 97, 110, 107]⟩] : Array Value)[d.vote.toNat]? = some (.string ⟨(wordV d.vote).toArray⟩) := by
      have : d.vote = 0 ∨ d.vote = 1 ∨ d.vote = 2 ∨ d.vote = 3 := by omega
      rcases this with e | e | e | e <;> rw [e] <;> rfl
    have hwg : ∀ h, ([.string ⟨#[110, 111, 110, 101]⟩, .string ⟨#[121, 101, 115]⟩, .string ⟨#[110, 111]⟩, .string ⟨#[98, 108, 97, 110, 107]⟩] : List Value)[d.vote.toNat]'h = .string ⟨(wordV d.vote).toArray⟩ := by
      intro h
      have : d.vote = 0 ∨ d.vote = 1 ∨ d.vote = 2 ∨ d.vote = 3 := by omega
      generalize d.vote = v at *
      rcases this with rfl | rfl | rfl | rfl <;> rfl
    have HF : Hid (deedText d = T5) := Lib.hid (by rw [HD.out, e5, e4, e3, e2, e1])
    have v3 : d.vote < 4 := by omega
    have u0 := z0 x
    have u3 := z3 x
    have u4 := z4 x
    have us := hsize x
    clear e1 e2 e3 e4 e5 z0 z1 z2 z3 z4 z5 z6 z7 z8 hsize
    obtain ⟨W, hW⟩ : ∃ W, W = x.val := ⟨_, rfl⟩
    have bW : Below w.heap.size w W := by rw [hW]; exact x.ok
    rw [← hW] at u0 u3 u4 us ⊢
    clear hW
    go_wp2_with (fail)
    go_region_with (first | (go_at_call 51; refine (words1_any _).mono ?_; rintro e w' ⟨rfl, rfl⟩))
    all_goals
      go_wp2
      go_ret
      exact ⟨by rw [HF.out]; rfl, bW.drew.alloc bW.size _⟩
  · have b1 : (d.kind == 1) = false := by simp [k3]
    have b2 : (d.kind == 2) = false := by simp [k3]
    have b3 : (d.kind == 3) = true := by simp [k3]
    have HD : Hid (deedText d = [112, 114, 111, 112, 111, 115, 101, 32] ++ itoa d.member ++ [32] ++ d.title.toList ++ [32] ++ nums [d.closes, d.start, d.until_] [32] ++ [32] ++ semis (patchText d.patch)) := Lib.hid (by unfold deedText; rw [if_neg (by omega), if_neg (by omega), if_pos k3])
    have HOP := Lib.hid op
    have hpl : (patchText d.patch).length ≤ 1280 := by
      have h1 := patchText_take HOP.out d.patch.length
      have h2 := okPatch_len HOP.out
      rw [List.take_length] at h1
      omega
    have hsl : (semis (patchText d.patch)).length ≤ 1280 := by unfold semis; rw [List.length_map]; exact hpl
    have hZ : ∀ z ∈ [d.closes, d.start, d.until_], -9223372036854775808 ≤ z ∧ z ≤ 9223372036854775807 := by
      intro z hz
      simp only [List.mem_cons, List.not_mem_nil, or_false] at hz
      omega
    have hnl := nums_len [d.closes, d.start, d.until_] [32] (by simp) hZ
    have HZ := Lib.hid hZ
    clear k3 op p1 p2 p3 p4 p5 p6 hZ
    simp only [List.length_cons, List.length_nil] at hnl
    obtain ⟨PT, hPT⟩ : ∃ PT, PT = patchText d.patch := ⟨_, rfl⟩
    rw [← hPT] at hpl hsl
    have HPC : Hid (∀ y : Aft w, Calls Tryz.prog 64 #[.slice A2 d.patch.length c2] y.val (RetB (.string ⟨PT.toArray⟩) y.val)) := Lib.hid (fun y => by rw [hPT]; exact patchText1_any d.patch _ _ (HE.out y) HOP.out)
    have HSW : Hid (∀ W : World, Calls Tryz.prog 53 #[.string ⟨PT.toArray⟩, .int .u8 10, .int .u8 59] W (RetB (.string ⟨(semis PT).toArray⟩) W)) := Lib.hid (fun W => by rw [← semis_map]; exact swap1_any PT 10 59 10 59 rfl rfl W (by omega))
    rw [← hPT] at HD
    clear hPT
    obtain ⟨T1, e1, n1, q1⟩ := cat_op (P := Tryz.prog) [112, 114, 111, 112, 111, 115, 101, 32] (itoa d.member) (by simp) (by omega)
    simp only [List.length_cons, List.length_nil] at n1
    obtain ⟨T2, e2, n2, q2⟩ := cat_op (P := Tryz.prog) T1 [32] (by omega) (by simp)
    simp only [List.length_cons, List.length_nil] at n2
    obtain ⟨T3, e3, n3, q3⟩ := cat_opb (P := Tryz.prog) T2 d.title (by omega) (by omega)
    obtain ⟨T4, e4, n4, q4⟩ := cat_op (P := Tryz.prog) T3 [32] (by omega) (by simp)
    simp only [List.length_cons, List.length_nil] at n4
    obtain ⟨T5, e5, n5, q5⟩ := cat_op (P := Tryz.prog) T4 (nums [d.closes, d.start, d.until_] [32]) (by omega) (by omega)
    obtain ⟨T6, e6, n6, q6⟩ := cat_op (P := Tryz.prog) T5 [32] (by omega) (by simp)
    simp only [List.length_cons, List.length_nil] at n6
    obtain ⟨T7, e7, n7, q7⟩ := cat_op (P := Tryz.prog) T6 (semis PT) (by omega) (by omega)
    have HEQ : Hid (deedText d = T7) := Lib.hid (by rw [HD.out, e7, e6, e5, e4, e3, e2, e1])
    have u0 := z0 x
    have u3 := z3 x
    have u5 := z5 x
    have u6 := z6 x
    have u7 := z7 x
    have u8 := z8 x
    have us := hsize x
    clear e1 e2 e3 e4 e5 e6 e7 z0 z1 z2 z3 z4 z5 z6 z7 z8 hsize
    obtain ⟨W, hW⟩ : ∃ W, W = x.val := ⟨_, rfl⟩
    have bW : Below w.heap.size w W := by rw [hW]; exact x.ok
    rw [← hW] at u0 u3 u5 u6 u7 u8 us ⊢
    clear hW
    go_wp2_with (fail)
    go_region_held3 (fun w' => w'.cell? ⟨b, o + 3, none⟩ = some (.string d.title) ∧ w'.cell? ⟨b, o + 5, none⟩ = some (.slice A2 d.patch.length c2) ∧ w'.cell? ⟨b, o + 6, none⟩ = some (.int .i64 d.start) ∧ w'.cell? ⟨b, o + 7, none⟩ = some (.int .i64 d.until_) ∧ w'.cell? ⟨b, o + 8, none⟩ = some (.int .i64 d.closes) ∧ Below w.heap.size w w')
      (first | exact ⟨u3, u5, u6, u7, u8, bW.drew⟩ | exact ⟨u3, u5, u6, u7, u8, bW⟩ | exact keep5 (by assumption) (by assumption) | exact keep5 (by assumption) ((Below.refl _ _).drew) | exact keep5 (by assumption) ((Below.refl _ _).alloc (Nat.le_refl _) _) | exact keep5 (by assumption) (((Below.refl _ _).alloc (Nat.le_refl _) _).drew) | exact keep5 ⟨u3, u5, u6, u7, u8, bW⟩ (((Below.refl _ _).alloc (Nat.le_refl _) _).drew))
      (first | (go_at_call 53; refine (HSW.out _).mono ?_; rintro e w' ⟨rfl, hb⟩) | (go_at_call 64; refine (HPC.out ⟨_, and6 (by assumption)⟩).mono ?_; rintro e w' ⟨rfl, hb⟩) | (go_at_call 63; refine (numbers1_any [d.closes, d.start, d.until_] [32] _ _ (by first | exact ints3 _ _ _ _ _ | exact ints3d _ _ _ _ _ | exact SlR.on (ints3d _ _ _ _ _) (Pl.stays _) (by assumption) (Below.size (by assumption))) (by simp) (by simp) HZ.out).mono ?_; rintro e w' ⟨rfl, hb⟩))
    all_goals
      go_wp2
      go_ret
      exact ⟨by rw [HEQ.out]; rfl, by first | exact and6 (by assumption) | exact and6 (keep5 (by assumption) (by assumption))⟩
  · have b1 : (d.kind == 1) = false := by simp [k4]
    have b2 : (d.kind == 2) = false := by simp [k4]
    have b3 : (d.kind == 3) = false := by simp [k4]
    have HEQ : Hid (deedText d = [110, 101, 120, 116]) := Lib.hid (by unfold deedText; rw [if_neg (by omega), if_neg (by omega), if_neg (by omega)])
    clear k4 m0
    go_wp2
    go_ret
    exact ⟨by rw [HEQ.out]; rfl, x.ok⟩
end Go.Proofs.YthlfpiflegfoiaaGreatDoor

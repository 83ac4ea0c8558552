/- Voices: plain, in memory; a motion found by its title, walked. Voices made, walked: the reference's and the program's. Voices compared, marked, read again, walked: the statements' own functions. (Printed by tools/gen/g_vw.py) The voices for a motion, walked: the reference's and the program's; FnExactVoicesFor, walked. -/
import Derived.Test.YtnandbammmcncaaGreatQF
import Derived.Test.YtnandbammmcncaaGreatQH
import Derived.Test.YtnandbammmcncaaGreatQE
namespace Go.Proofs.YtnandbammmcncaaGreat
open Go.RowKit Go.Lib

structure Voi where
  sp : Bool
  tr : List Int
structure VVoi where
  a : Voi
  v : Value
def oCells (x : VVoi) : List Value := [.bool x.a.sp, x.v]
def kVoi : Kind VVoi where
  cells := oCells
  size := 2
  inn base w x := OwnL intCells x.a.tr base w x.v
  blk x b := sBlk x.a.tr x.v b
  len _ := rfl
  touch h ht hF := OwnL.touch h ht hF
  lt h hb := OwnL.sblk h hb
  less h hb := OwnL.less h hb
def Vois (w : World) (B : Nat) (v : Value) (ls : List Voi) : Prop :=
  ∃ L : List VVoi, L.map (·.a) = ls ∧ SlR (Pl oCells) 2 w B v L ∧ ∀ x ∈ L, Ints w B x.v x.a.tr
theorem Vois.on {w w' : World} {B B' : Nat} {v : Value} {ls : List Voi} (h : Vois w B v ls) (hb : Below B w w') (hB : B ≤ B') : Vois w' B' v ls := by
  obtain ⟨L, h1, h2, h3⟩ := h
  exact ⟨L, h1, SlR.on h2 (Pl.stays _) hb hB, fun x hx => SlR.on (h3 x hx) (Pl.stays _) hb hB⟩
theorem TreeO.vois {base : Nat} {w : World} {v : Value} {L : List VVoi} (h : TreeO kVoi base w v L) : Vois w w.heap.size v (L.map (·.a)) := ⟨L, rfl, h.slR, fun x hx => (show OwnL _ _ _ _ _ from h.inn x hx).slR (size := 1) (fun _ => rfl)⟩
theorem vois_at {w : World} {B : Nat} {v : Value} {ls : List Voi} (h : Vois w B v ls) : ∃ (A : Option Addr) (c : Nat), v = .slice A ls.length c ∧ ls.length ≤ c ∧ c ≤ maxLen ∧ (0 < ls.length → ∃ b off, A = some ⟨b, off, none⟩ ∧ b < B ∧
    ∀ (k : Nat) (a : Voi), ls[k]? = some a → ∃ A1 c1, w.cell? ⟨b, off + k * 2, none⟩ = some (.bool a.sp) ∧ w.cell? ⟨b, off + k * 2 + 1, none⟩ = some (.slice A1 a.tr.length c1) ∧ c1 ≤ maxLen ∧ Ints w B (.slice A1 a.tr.length c1) a.tr) := by
  obtain ⟨L, rfl, ⟨A, c, rfl, h1, h2, h3⟩, h4⟩ := h
  rw [List.length_map]
  refine ⟨A, c, rfl, h1, h2, fun h0 => ?_⟩
  obtain ⟨b, off, rfl, hb, hk⟩ := h3 h0
  refine ⟨b, off, rfl, hb, fun k a ha => ?_⟩
  rw [List.getElem?_map] at ha
  cases hx : L[k]? with
  | none => rw [hx] at ha; cases ha
  | some x =>
    rw [hx] at ha
    injection ha with ha
    subst ha
    obtain ⟨us, hl, hp, hc⟩ := hk k x hx
    have hp : us = oCells x := hp
    subst hp
    have hi := h4 x (List.mem_of_getElem? hx)
    obtain ⟨A1, c1, e1, _, hm⟩ := hi.sl
    have c1' := hc 1 _ rfl
    rw [e1] at c1' hi
    exact ⟨A1, c1, hc 0 _ rfl, c1', hm, hi⟩

def findT (L : List Mot) (t : ByteArray) : Int := idxG (fun m : Mot => m.title.toList == t.toList) L
set_option maxHeartbeats 2000000 in
theorem find1_anyT (a : Asm) (x : VAsm) (t : ByteArray) (b o : Nat) (w : World) (k5 : w.cell? ⟨b, o + 5, none⟩ = some x.m) (h : Mots w w.heap.size x.m a.mots) :
    Calls Tryz.prog 49 #[.pointer (some ⟨b, o, none⟩), .string t] w (RetB (.int .i64 (findT a.mots t)) w) := by
  obtain ⟨A, c, hv, hc, hm, hel⟩ := mots_at h
  rw [hv] at k5
  have z5 := fun y : Aft w => y.cell k5
  have HEL := Lib.hid hel
  unfold maxLen at hm
  have hlm : a.mots.length ≤ 9223372036854775807 := by omega
  clear h hel hv k5
  refine calls_aft fun x0 => ?_
  go_enter Tryz.func49, Tryz.ntmps49
  go_wp2
  go_loopw [5] (fun i wr => ∃ (k : Nat) (x : Aft w), k ≤ a.mots.length ∧ i = .int .i64 (k : Int) ∧ (∀ j (hj : j < a.mots.length), j < k → (a.mots[j].title.toList == t.toList) = false) ∧ wr = x.val) (fun i _ => a.mots.length - (RowKit.intOf i).toNat)
  case atStart => exact ⟨0, x0, Nat.zero_le _, rfl, fun j _ hj => absurd hj (Nat.not_lt_zero _), rfl⟩
  case round =>
    obtain ⟨k, x, hk, rfl, hn, rfl⟩ := hrel
    have HN := Lib.hid hn
    clear hn
    by_cases hlt : k < a.mots.length
    · obtain ⟨b2, off, rfl, hblt, hcell⟩ := HEL.out (by omega)
      obtain ⟨A1, c1, A2, c2, hP⟩ := hcell k _ (List.getElem?_eq_getElem hlt)
      have x0' := x.cell hP.k0
      clear hcell hP
      cases hq : (a.mots[k].title.toList == t.toList) with
      | true =>
        have HQ : Hid (findT a.mots t = k) := Lib.hid (idxG_hit hlt hq (fun j hj => HN.out j (by omega) hj))
        generalize a.mots[k].title = e at *
        go_wp2
        go_ret
        exact ⟨by rw [HQ.out]; rfl, x.ok⟩
      | false =>
        have HNN : Hid (∀ j (hj : j < a.mots.length), j < k + 1 → (a.mots[j].title.toList == t.toList) = false) := Lib.hid (fun j hj hjk => by
          by_cases e : j = k
          · subst e; exact hq
          · exact HN.out j hj (by omega))
        generalize a.mots[k].title = e at hq x0'
        go_wp2
        go_roundw
        case rel => exact ⟨k + 1, x, by omega, by go_num, HNN.out, rfl⟩
        case measure => simp [RowKit.intOf]; omega
    · have hge : ¬ (k : Int) < (a.mots.length : Int) := by omega
      have HQ : Hid (findT a.mots t = -1) := Lib.hid (idxG_none (fun j hj => HN.out j hj (by omega)))
      go_wp2
      go_ret
      exact ⟨by rw [HQ.out]; rfl, x.ok⟩

theorem enters_mot : ∀ args w, (callFunc 159 args).run Tryz.prog w = .ok (.enter 159 args) w := enters_of Tryz.func159 (by kernel_rfl) rfl
set_option maxHeartbeats 1000000 in
theorem mot_pred (t : ByteArray) (B : Nat) (w : World) (hB : B < w.heap.size) (hc : w.cell? ⟨B, 0, none⟩ = some (.string t)) : PredM 159 #[.pointer (some ⟨B, 0, none⟩)] (fun o => o.title.toList == t.toList) w := by
  intro W x v1 v2 hb
  have x0 := (hb.cell (p := ⟨B, 0, none⟩) hB).trans hc
  have hlt := World.block_lt_of_cell? W ⟨B, 0, none⟩ x0
  have y0 := (((Below.refl W.heap.size W).alloc (Nat.le_refl _) (.cells #[.string x.title, .int .i64 x.author, v1, .int .i64 x.beg, .int .i64 x.fin, .int .i64 x.closes, v2, .int .i64 x.result] 78)).cell (p := ⟨B, 0, none⟩) hlt).trans x0
  show Calls Tryz.prog 159 #[.agg #[.string x.title, .int .i64 x.author, v1, .int .i64 x.beg, .int .i64 x.fin, .int .i64 x.closes, v2, .int .i64 x.result], .pointer (some ⟨B, 0, none⟩)] W (RetB (.bool (x.title.toList == t.toList)) W)
  clear x0 hb
  go_enter Tryz.func159, Tryz.ntmps159
  go_wp2
  go_ret
  exact ⟨rfl, (Below.refl W.heap.size W).alloc (Nat.le_refl _) _⟩
set_option maxHeartbeats 2000000 in
theorem motion2_any (a : Asm) (At : Option Addr) (ct : Nat) (Ab : Option Addr) (cb : Nat) (Ac : Option Addr) (cc : Nat) (Am : Option Addr) (cm : Nat) (t : ByteArray) (w : World) (h : Mots w w.heap.size (.slice Am a.mots.length cm) a.mots) :
    Calls Tryz.prog 115 #[.agg #[.int .i64 a.day, .int .i64 a.rule, .slice At a.trust.length ct, .slice Ab a.base.length cb, .slice Ac a.acts.length cc, .slice Am a.mots.length cm], .string t] w (RetB (.int .i64 (findT a.mots t)) w) := by
  have hmf : ∀ (fn : Fn) (first cap : Array Value) (w : World), (Instr.makeFunc fn first cap).run Tryz.prog w = .ok (.func fn first cap) w := fun _ _ _ _ => rfl
  have bW : Below w.heap.size w ((w.alloc (.cells #[.int .i64 a.day, .int .i64 a.rule, .slice At a.trust.length ct, .slice Ab a.base.length cb, .slice Ac a.acts.length cc, .slice Am a.mots.length cm] 36)).alloc (.cells #[.string t] 9)) := ((Below.refl _ _).alloc (Nat.le_refl _) _).alloc (by simp) _
  have H := Lib.hid (indexM_any a.mots _ Am cm (h.on bW bW.size) 159 #[.pointer (some ⟨w.heap.size + 1, 0, none⟩)] (fun o => o.title.toList == t.toList) (mot_pred t (w.heap.size + 1) _ (by simp) (by simp [go_sem])) enters_mot)
  have HB := Lib.hid bW
  unfold findT
  generalize idxG (fun m : Mot => m.title.toList == t.toList) a.mots = z at *
  clear h bW
  go_enter Tryz.func115, Tryz.ntmps115
  go_wp2_with (fail)
  refine H.out.mono ?_
  rintro e w1 ⟨rfl, hb1⟩
  have hbb := HB.out.trans (hb1.mono HB.out.size)
  clear hb1
  go_wp2
  go_ret
  exact ⟨rfl, hbb⟩

open Classical in
noncomputable def knownB (a : Asm) (t : ByteArray) : Bool := okAsm a && decide (0 ≤ findT a.mots t)
set_option maxRecDepth 100000 in
set_option maxHeartbeats 4000000 in
theorem known2_any (a : Asm) (At : Option Addr) (ct : Nat) (Ab : Option Addr) (cb : Nat) (Ac : Option Addr) (cc : Nat) (Am : Option Addr) (cm : Nat) (t : ByteArray) (w : World)
    (hR : AsmR w w.heap.size ⟨.slice At a.trust.length ct, .slice Ab a.base.length cb, .slice Ac a.acts.length cc, .slice Am a.mots.length cm⟩ a) (hs : AsmSz a) :
    Calls Tryz.prog 56 #[.agg #[.int .i64 a.day, .int .i64 a.rule, .slice At a.trust.length ct, .slice Ab a.base.length cb, .slice Ac a.acts.length cc, .slice Am a.mots.length cm], .string t] w (RetB (.tuple #[.int .i64 (findT a.mots t), .bool (knownB a t)]) w) := by
  obtain ⟨W, hW⟩ : ∃ W : World, W = w.alloc (.cells #[.int .i64 a.day, .int .i64 a.rule, .slice At a.trust.length ct, .slice Ab a.base.length cb, .slice Ac a.acts.length cc, .slice Am a.mots.length cm] 36) := ⟨_, rfl⟩
  have bW : Below w.heap.size w W := by rw [hW]; exact (Below.refl _ _).alloc (Nat.le_refl _) _
  have a1 : Row W w.heap.size [.int .i64 a.day, .int .i64 a.rule, .slice At a.trust.length ct, .slice Ab a.base.length cb, .slice Ac a.acts.length cc, .slice Am a.mots.length cm] := by rw [hW]; exact Row.new w _ _
  have z0 := fun y : Aft W => y.cell (a1.cell 0 _ rfl)
  have z1 := fun y : Aft W => y.cell (a1.cell 1 _ rfl)
  have z2 := fun y : Aft W => y.cell (a1.cell 2 _ rfl)
  have z3 := fun y : Aft W => y.cell (a1.cell 3 _ rfl)
  have z4 := fun y : Aft W => y.cell (a1.cell 4 _ rfl)
  have z5 := fun y : Aft W => y.cell (a1.cell 5 _ rfl)
  have HR := Lib.hid (fun y : Aft W => hR.on (aft_done bW y) (aft_done bW y).size)
  have HM := Lib.hid (fun y : Aft W => motion2_any a At ct Ab cb Ac cc Am cm t y.val (HR.out y).m)
  have HV := Lib.hid (fun y : Aft W => valid2_go a At ct Ab cb Ac cc Am cm y.val (HR.out y) hs)
  have HW := Lib.hid hW
  have HK : Hid (knownB a t = (okAsm a && decide (0 ≤ findT a.mots t))) := Lib.hid rfl
  generalize knownB a t = kb at *
  generalize findT a.mots t = n at *
  generalize okAsm a = ok at *
  clear hR hs hW a1
  by_cases hn : 0 ≤ n
  · have hd : decide (0 ≤ n) = true := by simp; omega
    rw [hd, Bool.and_true] at HK
    go_enter Tryz.func56, Tryz.ntmps56
    go_wp2_with (fail)
    rw [← HW.out]
    obtain ⟨x0, hx0⟩ : ∃ y : Aft W, y.val = W := ⟨⟨W, Below.refl _ _⟩, rfl⟩
    rw [← hx0]
    clear hx0
    refine (aft_b (HM.out x0)).mono ?_
    rintro e _ ⟨rfl, x1, rfl⟩
    go_wp2_with (fail)
    refine (aft_b (HV.out x1)).mono ?_
    rintro e _ ⟨rfl, x2, rfl⟩
    go_wp2
    go_ret2
    exact ⟨by rw [HK.out]; rfl, aft_done bW x2⟩
  · have hd : decide (0 ≤ n) = false := by simp; omega
    rw [hd, Bool.and_false] at HK
    go_enter Tryz.func56, Tryz.ntmps56
    go_wp2_with (fail)
    rw [← HW.out]
    obtain ⟨x0, hx0⟩ : ∃ y : Aft W, y.val = W := ⟨⟨W, Below.refl _ _⟩, rfl⟩
    rw [← hx0]
    clear hx0
    refine (aft_b (HM.out x0)).mono ?_
    rintro e _ ⟨rfl, x1, rfl⟩
    go_wp2
    go_ret2
    exact ⟨by rw [HK.out]; rfl, aft_done bW x1⟩
end Go.Proofs.YtnandbammmcncaaGreat

namespace Go.Proofs.YtnandbammmcncaaGreat
open Go.RowKit Go.Lib

/-- A tree that grows by append. -/
structure TreeW {β : Type} (K : Kind β) (te : TypeId) (base : Nat) (w : World) (g cap : Nat) (L : List β) : Prop where
  row : w.ownsRow base te K.size (.slice (some ⟨g, 0, none⟩) L.length cap) L.length (L.flatMap K.cells)
  inn : ∀ x ∈ L, K.inn base w x
  out : ∀ x ∈ L, ∀ b, K.blk x b → b ≠ g
  two : L.Pairwise (fun p q => ∀ b, K.blk p b → ¬ K.blk q b)
theorem TreeW.below {β : Type} {K : Kind β} {te : TypeId} {base : Nat} {w w' : World} {g cap : Nat} {L : List β} (h : TreeW K te base w g cap L) (hb : Below w.heap.size w w') : TreeW K te base w' g cap L :=
  ⟨own_below h.row hb, fun x hx => K.touch (F := fun _ => False) (h.inn x hx) (Touch.of_below hb) (fun _ _ h => h), h.out, h.two⟩
theorem TreeW.start {β : Type} (K : Kind β) (te : TypeId) {base : Nat} {w : World} {g cap : Nat} (h : w.ownsRow base te K.size (.slice (some ⟨g, 0, none⟩) 0 cap) 0 []) : TreeW K te base w g cap ([] : List β) :=
  ⟨by simpa using h, (fun x hx => by cases hx), (fun x hx => by cases hx), List.Pairwise.nil⟩
theorem TreeW.push {β : Type} {K : Kind β} {te : TypeId} {base : Nat} {w w' : World} {g cap g' cap' : Nat} {L : List β} {x : β} (h : TreeW K te base w g cap L) (hg : w.grownBy w' (some g)) (hor : g' = g ∨ g' = w.heap.size)
    (hrow : w'.ownsRow base te K.size (.slice (some ⟨g', 0, none⟩) (L.length + 1) cap') (L.length + 1) (L.flatMap K.cells ++ K.cells x)) (hx : K.inn base w x) (hxn : ∀ b, K.blk x b → b ≠ g ∧ ∀ q ∈ L, ¬ K.blk q b) : TreeW K te base w' g' cap' (L ++ [x]) := by
  have ht : Touch (fun b => b = g) w w' := Touch.of_grown hg (fun b hb => by injection hb with hb; exact hb.symm)
  refine ⟨by simpa using hrow, fun y hy => ?_, fun y hy b hb => ?_, ?_⟩
  · rcases List.mem_append.1 hy with hy | hy
    · exact K.touch (h.inn y hy) ht (fun b hb e => h.out y hy b hb e)
    · rw [List.mem_singleton.1 hy]
      exact K.touch hx ht (fun b hb e => (hxn b hb).1 e)
  · have hlt : b < w.heap.size := by
      rcases List.mem_append.1 hy with hy | hy
      · exact (K.lt (h.inn y hy) hb).2
      · rw [List.mem_singleton.1 hy] at hb
        exact (K.lt hx hb).2
    have hng : b ≠ g := by
      rcases List.mem_append.1 hy with hy | hy
      · exact h.out y hy b hb
      · rw [List.mem_singleton.1 hy] at hb
        exact (hxn b hb).1
    rcases hor with e | e
    · rw [e]; exact hng
    · omega
  · rw [List.pairwise_append]
    refine ⟨h.two, List.pairwise_singleton _ _, fun p hp q hq b h1 h2 => ?_⟩
    rw [List.mem_singleton.1 hq] at h2
    exact (hxn b h2).2 p hp h1
theorem TreeW.tree {β : Type} {K : Kind β} {te : TypeId} {base : Nat} {w : World} {g cap : Nat} {L : List β} (h : TreeW K te base w g cap L) : TreeO K base w (.slice (some ⟨g, 0, none⟩) L.length cap) L :=
  ⟨OwnL.of_own K.cells K.len h.row, h.inn, fun q hq b hb e => h.out q hq b hb (by injection e with e; exact e.symm), h.two⟩
theorem TreeW.lt {β : Type} {K : Kind β} {te : TypeId} {base : Nat} {w : World} {g cap : Nat} {L : List β} (h : TreeW K te base w g cap L) : base ≤ g ∧ g < w.heap.size := h.row.lt g rfl

theorem Tryz.infoV : (Tryz.prog.info? 140).map (fun i => (i.zero, i.size, i.bytes)) = some (some (.agg #[.bool false, .slice none 0 0]), 2, 32) := by kernel_rfl
def RetOwnS (zs : List Int) (w : World) (e : Ending) (w' : World) : Prop := ∃ A c, e = .returned (.slice A zs.length c) ∧ OwnL intCells zs w.heap.size w' (.slice A zs.length c) ∧ Below w.heap.size w w'
set_option maxHeartbeats 2000000 in
theorem own64_any (zs : List Int) (w : World) (v : Value) (h : Ints w w.heap.size v zs) (hl : zs.length ≤ 1048576) : Calls Tryz.prog 111 #[v] w (RetOwnS zs w) := by
  have bW := (Below.refl w.heap.size w).alloc (Nat.le_refl _) (.cells #[] 2)
  have HS0 := Lib.hid (SlR.on h (Pl.stays _) bW bW.size)
  have HB0 := Lib.hid bW
  have hown0 : (w.alloc (.cells #[] 2)).ownsRow w.heap.size 2 1 (.slice (some ⟨w.heap.size, 0, none⟩) 0 0) 0 [] := by simpa using World.ownsRow_made w #[] 0 (Nat.le_refl _) (Nat.zero_le _) rfl
  have HOWN0 := Lib.hid hown0
  obtain ⟨T, tc, rfl, _⟩ := h
  obtain ⟨i0, hi, hz0, hz1, hz2⟩ := info_parts Tryz.infoI
  clear bW hown0
  go_enter Tryz.func111, Tryz.ntmps111
  go_wp2_with (at_builtin; refine wpList_append_slR intCells rfl _ _ 29 rfl w.heap.size 2 i0 (.int .i64 0) 1 8 Tryz.underlying29 hi hz0 hz1 hz2 rfl (by decide) _ _ _ rfl HOWN0.out _ zs _ rfl HS0.out (fun _ => rfl) (fun y u hu => int_one' _ hu) ?c3 ?c4 HB0.out.size ?_)
  case c3 => unfold maxLen; omega
  case c4 => omega
  intro o1 w1 hown1 hgrow1 hnn1
  have HO1 : Hid (OwnL intCells zs w.heap.size w1 o1) := Lib.hid (OwnL.of_own intCells (size := 1) (fun _ => rfl) (by simpa using hown1))
  have HB1 : Hid (Below w.heap.size w w1) := Lib.hid (HB0.out.grown hgrow1 HB0.out.size (fun j hj => (HOWN0.out.lt j hj).1))
  obtain ⟨A1, c1, rfl, _⟩ := HO1.out
  clear hown1 hgrow1 hnn1
  go_wp2
  go_ret
  exact ⟨_, _, rfl, HO1.out, HB1.out⟩

def voices (vs : List Int) (tr : List (List Int)) : List Voi := List.zipWith (fun v l => ⟨v != 0, l⟩) vs tr
theorem voices_get {vs : List Int} {tr : List (List Int)} {k : Nat} (h1 : k < vs.length) (h2 : k < tr.length) : (voices vs tr)[k]? = some ⟨vs[k] != 0, tr[k]⟩ := by
  unfold voices
  rw [List.getElem?_zipWith]
  simp [h1, h2]
theorem voices_len {vs : List Int} {tr : List (List Int)} (h : vs.length = tr.length) : (voices vs tr).length = tr.length := by unfold voices; simp [h]
theorem voices_next {vs : List Int} {tr : List (List Int)} {L : List VVoi} {k : Nat} (hL : L.map (·.a) = (voices vs tr).take k) (h1 : k < vs.length) (h2 : k < tr.length) {x : VVoi} (hx : x.a = ⟨vs[k] != 0, tr[k]⟩) : (L ++ [x]).map (·.a) = (voices vs tr).take (k + 1) := by
  obtain ⟨q1, q2⟩ := List.getElem?_eq_some_iff.1 (voices_get h1 h2)
  rw [List.map_append, hL, List.map_cons, List.map_nil, hx, List.take_succ_eq_append_getElem q1, q2]
def VoiPost (vs : List Int) (tr : List (List Int)) (w : World) (e : Ending) (w' : World) : Prop :=
  ∃ A c L, e = .returned (.slice A L.length c) ∧ L.map (·.a) = voices vs tr ∧ TreeO kVoi w.heap.size w' (.slice A L.length c) L ∧ Below w.heap.size w w'
theorem voi_one {x : VVoi} {A : Option Addr} {n c : Nat} (h : x.v = .slice A n c) {u : Value} (hu : u ∈ oCells x) : u.oneCell' = true := by
  unfold oCells at hu
  rw [h] at hu
  simp only [List.mem_cons, List.not_mem_nil, or_false] at hu
  rcases hu with rfl | rfl <;> rfl

set_option maxRecDepth 100000 in
set_option maxHeartbeats 8000000 in
theorem voices1_any (a : Asm) (At : Option Addr) (ct : Nat) (vs : List Int) (b o : Nat) (Av : Option Addr) (cv : Nat) (w : World) (k2 : w.cell? ⟨b, o + 2, none⟩ = some (.slice At a.trust.length ct)) (hT : RowsR w w.heap.size (.slice At a.trust.length ct) a.trust) (hV : Ints w w.heap.size (.slice Av vs.length cv) vs) (hl : vs.length = a.trust.length) (hn : a.trust.length ≤ 1000) (h4 : ∀ l ∈ a.trust, l.length ≤ 1048576) :
    Calls Tryz.prog 51 #[.pointer (some ⟨b, o, none⟩), .slice Av vs.length cv] w (VoiPost vs a.trust w) := by
  obtain ⟨A', c', hv, _, _, hel⟩ := rows_at hT
  injection hv with e1 e2 e3
  subst e1
  have HEL := Lib.hid hel
  have HV := Lib.hid hV
  have HK2 := Lib.hid k2
  have H4 := Lib.hid h4
  have HIV := Lib.hid (fun W (hb : Below w.heap.size w W) => hT.on hb hb.size)
  obtain ⟨i0, hi, hz0, hz1, hz2⟩ := info_parts Tryz.infoV
  have hbw : b < w.heap.size := World.block_lt_of_cell? w _ k2
  have hown0 : (w.alloc (.cells #[] 140)).ownsRow w.heap.size 140 2 (.slice (some ⟨w.heap.size, 0, none⟩) 0 0) 0 [] := by simpa using World.ownsRow_made w #[] 0 (Nat.le_refl _) (Nat.zero_le _) rfl
  have HD0 : Hid (TreeW kVoi 140 w.heap.size (w.alloc (.cells #[] 140)) w.heap.size 0 []) := Lib.hid (TreeW.start kVoi _ hown0)
  have HB0 : Hid (Below w.heap.size w (w.alloc (.cells #[] 140))) := Lib.hid ((Below.refl _ _).alloc (Nat.le_refl _) _)
  unfold VoiPost
  have HL := Lib.hid hl
  have hnv : vs.length ≤ 1000 := by omega
  have htv : vs.length ≤ a.trust.length := by omega
  clear hT hV hel e2 e3 hown0 k2 h4 hl
  go_enter Tryz.func51, Tryz.ntmps51
  go_wp2
  go_loopw [5, 6] (fun o' i wr => ∃ (k g cap : Nat) (L : List VVoi), i = .int .i64 (k : Int) ∧ k ≤ vs.length ∧ o' = .slice (some ⟨g, 0, none⟩) L.length cap ∧ L.map (·.a) = (voices vs a.trust).take k ∧ TreeW kVoi 140 w.heap.size wr g cap L ∧ Below w.heap.size w wr) (fun _ i _ => vs.length - (RowKit.intOf i).toNat)
  case atStart => exact ⟨0, w.heap.size, 0, [], rfl, Nat.zero_le _, rfl, rfl, HD0.out, HB0.out⟩
  case round =>
    obtain ⟨k, g, cap, L, rfl, hk, rfl, hLm, hD, hb⟩ := hrel
    have hgl : L.length = k := by
      have := congrArg List.length hLm
      rw [List.length_map, List.length_take, voices_len HL.out, ← HL.out] at this
      omega
    have HD := Lib.hid hD
    have HB := Lib.hid hb
    have HLM := Lib.hid hLm
    clear hLm hD
    by_cases hlt : k < vs.length
    · have hlt2 : k < a.trust.length := by omega
      obtain ⟨bt, ot, rfl, hbt, hcell⟩ := HEL.out (by omega)
      obtain ⟨A1, c1, c0, _, hI⟩ := hcell k _ (List.getElem?_eq_getElem hlt2)
      obtain ⟨bv, ov, rfl, hbv, d0⟩ := ints_get HV.out (List.getElem?_eq_getElem hlt)
      have x0 := (hb.cell (p := ⟨bv, ov + k, none⟩) hbv).trans d0
      have x1 := (hb.cell (p := ⟨b, o + 2, none⟩) hbw).trans HK2.out
      have x2 := (hb.cell (p := ⟨bt, ot + k, none⟩) hbt).trans c0
      have HNX := Lib.hid (fun (x : VVoi) hx => voices_next HLM.out hlt hlt2 (x := x) hx)
      have hz4 := H4.out a.trust[k] (List.getElem_mem hlt2)
      have HIN := Lib.hid (fun W (hb : Below w.heap.size w W) => (SlR.on hI (Pl.stays _) hb hb.size : Ints W W.heap.size _ _))
      clear hcell hI c0 d0
      generalize a.trust[k] = l at *
      generalize vs[k] = z at *
      have hgw := HD.out.lt
      have hsw := hb.size
      have hki : (k : Int) < (vs.length : Int) := by omega
      have hk0 : (0 : Int) ≤ (k : Int) := Int.natCast_nonneg _
      have hbd : Below wr.heap.size wr wr.drew := (Below.refl _ _).drew
      have HCALL := Lib.hid (own64_any l wr.drew _ (HIN.out wr.drew (hb.trans (hbd.mono hsw))) hz4)
      unfold RetOwnS at HCALL
      go_wp2_with (fail)
      try rw [hgl]
      go_region_held3 (fun w' => w'.cell? ⟨bv, ov + k, none⟩ = some (.int .i64 z) ∧ w'.cell? ⟨b, o + 2, none⟩ = some (.slice (some ⟨bt, ot, none⟩) a.trust.length ct) ∧ w'.cell? ⟨bt, ot + k, none⟩ = some (.slice A1 l.length c1))
        (first | exact ⟨x0, x1, x2⟩ | exact keepA ⟨x0, x1, x2⟩ hbd | exact keepA (keepA ⟨x0, x1, x2⟩ hbd) hb1 | exact keepA (keepA (keepA ⟨x0, x1, x2⟩ hbd) hb1) ((Below.refl _ _).alloc (Nat.le_refl _) _) | exact keepG (keepA (keepA (keepA ⟨x0, x1, x2⟩ hbd) hb1) ((Below.refl _ _).alloc (Nat.le_refl _) _)) hgrow (by show bv ≠ g; omega) (by show b ≠ g; omega) (by show bt ≠ g; omega) | go_keep)
        (first
          | (go_at_call 111
             refine HCALL.out.mono ?_
             rintro e w1 ⟨A2, c2, rfl, hO1, hb1⟩
             have HO1 := Lib.hid hO1
             have hb1' : Below wr.heap.size wr w1 := hbd.trans hb1
             have HLTQ := Lib.hid (fun q (hq : q ∈ L) c (hc : kVoi.blk q c) => (kVoi.lt (HD.out.inn q hq) hc).2)
             have hba : Below w1.heap.size w1 (w1.alloc (.cells #[.bool (z != 0), .slice A2 l.length c2] 140)) := (Below.refl _ _).alloc (Nat.le_refl _) _
             have HTA := Lib.hid (TreeW.below (HD.out.below hb1') hba)
             have hbwA := (hb.trans (hb1'.mono hsw)).trans (hba.mono (Nat.le_trans hsw hb1'.size))
             have HBA := Lib.hid hbwA
             have HROW := Lib.hid HTA.out.row
             have hwX : w.heap.size ≤ wr.drew.heap.size := hsw
             have h1s : wr.heap.size ≤ w1.heap.size := hb1'.size
             rw [hgl] at HROW
             clear hO1 hbwA)
          | (refine step_append_own_at (by rfl) _ _ 80 (by rfl) w.heap.size 140 i0 (.agg #[.bool false, .slice none 0 0]) 2 32 Tryz.underlying80 hi hz0 hz1 hz2 rfl (by decide) _ _ _ (by rfl) HROW.out ⟨w1.heap.size, 0, none⟩ 1 1 (oCells ⟨⟨z != 0, l⟩, .slice A2 l.length c2⟩) (by rfl) (by rfl) (fun j u hj => by have := (Row.new w1 (oCells ⟨⟨z != 0, l⟩, .slice A2 l.length c2⟩).toArray 140).cell j u (by simpa using hj); rw [Addr.add_lit, Nat.zero_add]; exact this) (fun u hu => voi_one rfl hu) (by unfold maxLen; omega) (by omega) HBA.out.size ?_
             intro v' w9 hown' hgrow hiff hor
             obtain ⟨g', cap', rfl, hdc', hcm'⟩ := own_some hown' (by simpa using hiff)
             clear hiff))
      have HOX := Lib.hid (HO1.out.on hba)
      have HP9 := Lib.hid (TreeW.push (x := ⟨⟨z != 0, l⟩, .slice A2 l.length c2⟩) HTA.out hgrow (by rcases hor with h | h <;> injection h with h; exact .inl h; exact .inr (by simpa using h)) (by rw [hgl]; exact hown') (kVoi.less (x := ⟨⟨z != 0, l⟩, .slice A2 l.length c2⟩) HOX.out hwX) (fun b hb => by
        have q1 : wr.heap.size ≤ b := (OwnL.sblk HOX.out hb).1
        exact ⟨by omega, fun q hq hqb => by have q2 := HLTQ.out q hq b hqb; omega⟩))
      have HB9 := Lib.hid ((HBA.out).grown hgrow HBA.out.size (fun j hj => (HROW.out.lt j hj).1))
      clear hown' hgrow hor
      go_wp2
      go_roundw
      case rel => exact ⟨k + 1, g', cap', L ++ [⟨⟨z != 0, l⟩, .slice A2 l.length c2⟩], by go_num, by omega, by rw [List.length_append, List.length_singleton, hgl], HNX.out ⟨⟨z != 0, l⟩, .slice A2 l.length c2⟩ rfl, HP9.out, HB9.out⟩
      case measure => simp [RowKit.intOf]; omega
    · have hge : ¬ (k : Int) < (vs.length : Int) := by omega
      have hk' : k = vs.length := by omega
      have HFIN : Hid (L.map (·.a) = voices vs a.trust) := Lib.hid (by rw [HLM.out, hk', List.take_of_length_le (by rw [voices_len HL.out, ← HL.out]; omega)])
      have HFT := Lib.hid (HD.out.tree)
      clear hk' hlt
      go_wp2
      go_ret
      exact ⟨some ⟨g, 0, none⟩, cap, L, by rw [hgl]; rfl, HFIN.out, HFT.out, hb⟩
theorem keep1 {w w' : World} {p0 : Addr} {v0 : Value} (h : w.cell? p0 = some v0) (hb : Below w.heap.size w w') : w'.cell? p0 = some v0 := (hb.cell (World.block_lt_of_cell? w _ h)).trans h
theorem keep1G {w w' : World} {p0 : Addr} {g : Nat} {v0 : Value} (h : w.cell? p0 = some v0) (hg : w.grownBy w' (some g)) (h0 : p0.block ≠ g) : w'.cell? p0 = some v0 := hg.cell h (fun e => h0 (by injection e))
set_option maxRecDepth 100000 in
set_option maxHeartbeats 8000000 in
theorem voices2_any (a : Asm) (At : Option Addr) (ct : Nat) (Ab : Option Addr) (cb : Nat) (Ac : Option Addr) (cc : Nat) (Am : Option Addr) (cm : Nat) (vs : List Int) (Av : Option Addr) (cv : Nat) (w : World) (hT : RowsR w w.heap.size (.slice At a.trust.length ct) a.trust) (hV : Ints w w.heap.size (.slice Av vs.length cv) vs) (hl : vs.length = a.trust.length) (hn : a.trust.length ≤ 1000) (h4 : ∀ l ∈ a.trust, l.length ≤ 1048576) :
    Calls Tryz.prog 59 #[.agg #[.int .i64 a.day, .int .i64 a.rule, .slice At a.trust.length ct, .slice Ab a.base.length cb, .slice Ac a.acts.length cc, .slice Am a.mots.length cm], .slice Av vs.length cv] w (VoiPost vs a.trust w) := by
  obtain ⟨A', c', hv, _, _, hel⟩ := rows_at hT
  injection hv with e1 e2 e3
  subst e1
  have HEL := Lib.hid hel
  have HV := Lib.hid hV
  have H4 := Lib.hid h4
  obtain ⟨i0, hi, hz0, hz1, hz2⟩ := info_parts Tryz.infoV
  obtain ⟨j0, hj, hy0, hy1, hy2⟩ := info_parts Tryz.infoI
  obtain ⟨W, hW⟩ : ∃ W : World, W = (w.alloc (.cells #[.int .i64 a.day, .int .i64 a.rule, .slice At a.trust.length ct, .slice Ab a.base.length cb, .slice Ac a.acts.length cc, .slice Am a.mots.length cm] 36)).alloc (.cells #[] 140) := ⟨_, rfl⟩
  have hown0 : W.ownsRow w.heap.size 140 2 (.slice (some ⟨w.heap.size + 1, 0, none⟩) 0 0) 0 [] := by rw [hW]; simpa using World.ownsRow_made (base := w.heap.size) (w.alloc (.cells #[.int .i64 a.day, .int .i64 a.rule, .slice At a.trust.length ct, .slice Ab a.base.length cb, .slice Ac a.acts.length cc, .slice Am a.mots.length cm] 36)) #[] 0 (by simp) (Nat.zero_le _) rfl
  have HD0 : Hid (TreeW kVoi 140 w.heap.size W (w.heap.size + 1) 0 []) := Lib.hid (TreeW.start kVoi _ hown0)
  have HB0 : Hid (Below w.heap.size w W) := Lib.hid (by rw [hW]; exact ((Below.refl _ _).alloc (Nat.le_refl _) _).alloc (by simp) _)
  have HL := Lib.hid hl
  have hnv : vs.length ≤ 1000 := by omega
  have htv : vs.length ≤ a.trust.length := by omega
  have hvt : a.trust.length ≤ vs.length := by omega
  have HWE := Lib.hid hW
  unfold VoiPost
  clear hT hV hel e2 e3 hown0 h4 hl hW
  go_enter Tryz.func59, Tryz.ntmps59
  go_wp2
  go_loopw [5, 6, 7, 12] (fun o' _ _ i wr => ∃ (k g cap : Nat) (L : List VVoi), i = .int .i64 (k : Int) ∧ k ≤ a.trust.length ∧ o' = .slice (some ⟨g, 0, none⟩) L.length cap ∧ L.map (·.a) = (voices vs a.trust).take k ∧ TreeW kVoi 140 w.heap.size wr g cap L ∧ Below w.heap.size w wr) (fun _ _ _ i _ => a.trust.length - (RowKit.intOf i).toNat)
  case atStart => exact ⟨0, w.heap.size + 1, 0, [], rfl, Nat.zero_le _, rfl, rfl, by rw [← HWE.out]; exact HD0.out, by rw [← HWE.out]; exact HB0.out⟩
  case round =>
    obtain ⟨k, g, cap, L, rfl, hk, rfl, hLm, hD, hb⟩ := hrel
    have hgl : L.length = k := by
      have := congrArg List.length hLm
      rw [List.length_map, List.length_take, voices_len HL.out] at this
      omega
    have HD := Lib.hid hD
    have HB := Lib.hid hb
    have HLM := Lib.hid hLm
    clear hLm hD
    by_cases hlt2 : k < a.trust.length
    · have hlt : k < vs.length := by omega
      obtain ⟨bt, ot, rfl, hbt, hcell⟩ := HEL.out (by omega)
      obtain ⟨A1, c1, c0, _, hI⟩ := hcell k _ (List.getElem?_eq_getElem hlt2)
      obtain ⟨bv, ov, rfl, hbv, d0⟩ := ints_get HV.out (List.getElem?_eq_getElem hlt)
      have x0 := (hb.cell (p := ⟨bv, ov + k, none⟩) hbv).trans d0
      have x2 := (hb.cell (p := ⟨bt, ot + k, none⟩) hbt).trans c0
      have HNX := Lib.hid (fun (x : VVoi) hx => voices_next HLM.out hlt hlt2 (x := x) hx)
      have hz4 := H4.out a.trust[k] (List.getElem_mem hlt2)
      have HIN := Lib.hid (fun W (hb : Below w.heap.size w W) => (SlR.on hI (Pl.stays _) hb hb.size : Ints W W.heap.size _ _))
      clear hcell hI c0 d0
      generalize a.trust[k] = l at *
      generalize vs[k] = z at *
      have hgw := HD.out.lt
      have hsw := hb.size
      have hki : (k : Int) < (vs.length : Int) := by omega
      have hk0 : (0 : Int) ≤ (k : Int) := Int.natCast_nonneg _
      have hbd : Below wr.heap.size wr (wr.alloc (.cells #[] 2)).drew := ((Below.refl _ _).alloc (Nat.le_refl _) _).drew
      have hown1 : (wr.alloc (.cells #[] 2)).ownsRow wr.heap.size 2 1 (.slice (some ⟨wr.heap.size, 0, none⟩) 0 0) 0 [] := by simpa using World.ownsRow_made wr #[] 0 (Nat.le_refl _) (Nat.zero_le _) rfl
      have HOWN1 := Lib.hid hown1.drew
      have HS1 := Lib.hid (HIN.out _ (hb.trans (hbd.mono hsw)))
      have HBD := Lib.hid hbd
      clear hown1
      go_wp2_with (fail)
      try rw [hgl]
      clear x2
      go_region_held3 (fun w' => w'.cell? ⟨bv, ov + k, none⟩ = some (.int .i64 z))
        (first | exact x0 | exact keep1 x0 ((Below.refl _ _).drew) | exact keep1 x0 ((Below.refl _ _).alloc (Nat.le_refl _) _) | exact keep1 x0 hbd | exact keep1 x0 hb1' | exact keep1 (keep1 x0 hb1') ((Below.refl _ _).alloc (Nat.le_refl _) _) | exact keep1G (keep1 (keep1 x0 hb1') ((Below.refl _ _).alloc (Nat.le_refl _) _)) hgrow (by show bv ≠ g; omega) | go_keep)
        (first
          | (refine step_append_slR intCells (by rfl) _ _ 29 (by rfl) wr.heap.size 2 j0 (.int .i64 0) 1 8 Tryz.underlying29 hj hy0 hy1 hy2 rfl (by decide) _ _ _ (by rfl) HOWN1.out _ l _ (by rfl) HS1.out (fun _ => rfl) (fun y u hu => int_one' _ hu) (by unfold maxLen; omega) (by omega) HBD.out.size ?_
             intro v2 w1 hown2 hgrow2 hnn2
             have HO1' : Hid (OwnL intCells l wr.heap.size w1 v2) := Lib.hid (OwnL.of_own intCells (size := 1) (fun _ => rfl) (by simpa using hown2))
             have hb1' : Below wr.heap.size wr w1 := HBD.out.grown hgrow2 HBD.out.size (fun j hj => (HOWN1.out.lt j hj).1)
             obtain ⟨A2, c2, rfl, _⟩ := HO1'.out
             have HO1 := HO1'
             have HLTQ := Lib.hid (fun q (hq : q ∈ L) c (hc : kVoi.blk q c) => (kVoi.lt (HD.out.inn q hq) hc).2)
             have hba : Below w1.heap.size w1 (w1.alloc (.cells #[.bool (z != 0), .slice A2 l.length c2] 140)) := (Below.refl _ _).alloc (Nat.le_refl _) _
             have HTA := Lib.hid (TreeW.below (HD.out.below hb1') hba)
             have hbwA := (hb.trans (hb1'.mono hsw)).trans (hba.mono (Nat.le_trans hsw hb1'.size))
             have HBA := Lib.hid hbwA
             have HROW := Lib.hid HTA.out.row
             have hwX : w.heap.size ≤ wr.heap.size := hsw
             have h1s : wr.heap.size ≤ w1.heap.size := hb1'.size
             rw [hgl] at HROW
             clear hown2 hgrow2 hnn2 hbwA)
          | (refine step_append_own_at (by rfl) _ _ 80 (by rfl) w.heap.size 140 i0 (.agg #[.bool false, .slice none 0 0]) 2 32 Tryz.underlying80 hi hz0 hz1 hz2 rfl (by decide) _ _ _ (by rfl) HROW.out ⟨w1.heap.size, 0, none⟩ 1 1 (oCells ⟨⟨z != 0, l⟩, .slice A2 l.length c2⟩) (by rfl) (by rfl) (fun j u hj => by have := (Row.new w1 (oCells ⟨⟨z != 0, l⟩, .slice A2 l.length c2⟩).toArray 140).cell j u (by simpa using hj); rw [Addr.add_lit, Nat.zero_add]; exact this) (fun u hu => voi_one rfl hu) (by unfold maxLen; omega) (by omega) HBA.out.size ?_
             intro v' w9 hown' hgrow hiff hor
             obtain ⟨g', cap', rfl, hdc', hcm'⟩ := own_some hown' (by simpa using hiff)
             clear hiff))
      have HOX := Lib.hid (HO1.out.on hba)
      have HP9 := Lib.hid (TreeW.push (x := ⟨⟨z != 0, l⟩, .slice A2 l.length c2⟩) HTA.out hgrow (by rcases hor with h | h <;> injection h with h; exact .inl h; exact .inr (by simpa using h)) (by rw [hgl]; exact hown') (kVoi.less (x := ⟨⟨z != 0, l⟩, .slice A2 l.length c2⟩) HOX.out hwX) (fun b hb => by
        have q1 : wr.heap.size ≤ b := (OwnL.sblk HOX.out hb).1
        exact ⟨by omega, fun q hq hqb => by have q2 := HLTQ.out q hq b hqb; omega⟩))
      have HB9 := Lib.hid ((HBA.out).grown hgrow HBA.out.size (fun j hj => (HROW.out.lt j hj).1))
      clear hown' hgrow hor
      go_wp2
      go_roundw
      case rel => exact ⟨k + 1, g', cap', L ++ [⟨⟨z != 0, l⟩, .slice A2 l.length c2⟩], by go_num, by omega, by rw [List.length_append, List.length_singleton, hgl], HNX.out ⟨⟨z != 0, l⟩, .slice A2 l.length c2⟩ rfl, HP9.out, HB9.out⟩
      case measure => simp [RowKit.intOf]; omega
    · have hge : ¬ (k : Int) < (a.trust.length : Int) := by omega
      have hk' : k = a.trust.length := by omega
      have HFIN : Hid (L.map (·.a) = voices vs a.trust) := Lib.hid (by rw [HLM.out, hk', List.take_of_length_le (by rw [voices_len HL.out]; omega)])
      have HFT := Lib.hid (HD.out.tree)
      clear hk' hlt2
      go_wp2
      go_ret
      exact ⟨some ⟨g, 0, none⟩, cap, L, by rw [hgl]; rfl, HFIN.out, HFT.out, hb⟩
end Go.Proofs.YtnandbammmcncaaGreat

namespace Go.Proofs.YtnandbammmcncaaGreat
open Go.RowKit Go.Lib

def nVoi (k : Nat) (x : VVoi) : Nat := k + 1 + x.a.tr.length
def mVoi (k : Nat) (x : VVoi) : VVoi := ⟨⟨((k : Int).tmod 3 == 0), seqI (k + 1) x.a.tr.length⟩, x.v⟩
end Go.Proofs.YtnandbammmcncaaGreat

namespace Go.Proofs.YtnandbammmcncaaGreat
open Go.RowKit Go.Lib

structure AsmOk (a : Asm) : Prop where
  n1 : 1 ≤ a.trust.length
  n12 : a.trust.length ≤ 12
  m6 : a.mots.length ≤ 6
  rule : 0 ≤ a.rule ∧ a.rule ≤ 2
  trust : ∀ (k : Nat) (l : List Int), a.trust[k]? = some l → okTrust l (k : Int) a.trust.length = true
  mots : ∀ (k : Nat) (m : Mot), a.mots[k]? = some m → okMot m a.day a.trust.length = true
theorem okAsm_ok {a : Asm} (h : okAsm a = true) : AsmOk a := by
  unfold okAsm okHead at h
  simp only [Bool.and_eq_true, decide_eq_true_eq, inB_iff] at h
  obtain ⟨⟨⟨⟨⟨⟨⟨⟨h1, h2⟩, h3⟩, h4⟩, h5⟩, h6⟩, _⟩, _⟩, _⟩ := h
  refine ⟨by omega, by omega, h4, h2, fun k l hk => ?_, fun k m hk => ?_⟩
  · obtain ⟨hl, rfl⟩ := List.getElem?_eq_some_iff.1 hk
    unfold okTrusts at h5
    have := allLt_true.1 h5 k hl
    rwa [memAt_at hl] at this
  · obtain ⟨hl, rfl⟩ := List.getElem?_eq_some_iff.1 hk
    unfold okMots at h6
    have := allLt_true.1 h6 k hl
    rw [motAt_at hl, Bool.and_eq_true] at this
    exact this.1
theorem AsmOk.t4 {a : Asm} (h : AsmOk a) : ∀ l ∈ a.trust, l.length ≤ 4 := fun l hl => by
  obtain ⟨k, hk⟩ := List.getElem?_of_mem hl
  have := h.trust k l hk
  rw [okTrust_eq, Bool.and_eq_true] at this
  exact of_decide_eq_true this.2
theorem AsmOk.votes {a : Asm} (h : AsmOk a) {k : Nat} {m : Mot} (hk : a.mots[k]? = some m) : m.votes.length = a.trust.length := by
  have := h.mots k m hk
  unfold okMot at this
  simp only [Bool.and_eq_true, beq_iff_eq] at this
  have := this.1.1.1.2
  omega
theorem idxG_at {α : Type} {p : α → Bool} {L : List α} (h : 0 ≤ idxG p L) : ∃ k, ∃ hk : k < L.length, idxG p L = k ∧ p L[k] = true := by
  rcases hf : L.findIdx? p with _ | k
  · have e : idxG p L = -1 := by unfold idxG; rw [hf]
    omega
  · obtain ⟨h1, h2, _⟩ := List.findIdx?_eq_some_iff_getElem.1 hf
    exact ⟨k, h1, by unfold idxG; rw [hf], h2⟩
/-- The motion with a title. -/
def motOf (a : Asm) (t : ByteArray) : Mot := (a.mots[(findT a.mots t).toNat]?).getD ⟨⟨#[]⟩, 0, [], 0, 0, 0, [], 0⟩
theorem known_at {a : Asm} {t : ByteArray} (h : knownB a t = true) : okAsm a = true ∧ ∃ k : Nat, findT a.mots t = k ∧ k < a.mots.length ∧ a.mots[k]? = some (motOf a t) := by
  unfold knownB at h
  rw [Bool.and_eq_true] at h
  obtain ⟨k, hk, e, _⟩ := idxG_at (p := fun m : Mot => m.title.toList == t.toList) (L := a.mots) (of_decide_eq_true h.2)
  have e : findT a.mots t = k := e
  refine ⟨h.1, k, e, hk, ?_⟩
  unfold motOf
  rw [e, Int.toNat_natCast, List.getElem?_eq_getElem hk]
  rfl
theorem known_not {a : Asm} {t : ByteArray} (h : knownB a t = false) (hok : okAsm a = true) : findT a.mots t < 0 := by
  unfold knownB at h
  rw [hok, Bool.true_and] at h
  have := of_decide_eq_false h
  omega
theorem known_bad {a : Asm} {t : ByteArray} (hok : okAsm a = false) : knownB a t = false := by unfold knownB; rw [hok]; rfl
noncomputable def voicesFor (a : Asm) (t : ByteArray) : List Voi := if knownB a t = true then voices (motOf a t).votes a.trust else []
def nV (k : Nat) (x : Voi) : Nat := k + 1 + x.tr.length
/-- Voices as a result. -/
def voiK (R : List Voi) : ResK where
  own b W v := ∃ L A c, v = .slice A L.length c ∧ L.map VVoi.a = R ∧ TreeO kVoi b W v L
  mrk b W v := ∃ L A c, v = .slice A L.length c ∧ L.map VVoi.a = R ∧ TreeO kVoi b W v (markL mVoi nVoi 1 L)
  n := endK nV 1 R
  slice h := by obtain ⟨L, A, c, e, _⟩ := h; exact ⟨A, _, c, e⟩
  touch h ht hF := by
    obtain ⟨L, A, c, e, hm, hT⟩ := h
    exact ⟨L, A, c, e, hm, hT.touch ht (fun c hc hf => by have q1 := (hT.lt hc).1; have q2 := hF c hf; omega)⟩
  mtouch h hb := by
    obtain ⟨L, A, c, e, hm, hT⟩ := h
    exact ⟨L, A, c, e, hm, hT.below hb⟩
structure VoiFit (R : List Voi) : Prop where
  n : R.length ≤ 12
  t : ∀ x ∈ R, x.tr.length ≤ 4
theorem VoiFit.of {R : List Voi} (h : VoiFit R) {L : List VVoi} (hm : L.map VVoi.a = R) : L.length ≤ 12 ∧ ∀ x ∈ L, x.a.tr.length ≤ 4 :=
  ⟨by have := h.n; rw [← hm, List.length_map] at this; exact this, fun x hx => h.t _ (by rw [← hm]; exact List.mem_map_of_mem hx)⟩
end Go.Proofs.YtnandbammmcncaaGreat

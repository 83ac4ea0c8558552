/- Voices: plain, in memory; a motion found by its title, walked. Voices made, walked: the reference's and the program's. Voices compared, marked, read again, walked: the statements' own functions. (Printed by tools/gen/g_vw.py) The voices for a motion, walked: the reference's and the program's; FnExactVoicesFor, walked. -/
import Derived.Test.YtlbnebmdolnagaaQF
import Derived.Test.YtlbnebmdolnagaaQH
import Derived.Test.YtlbnebmdolnagaaQE
namespace Go.Proofs.Ytlbnebmdolnagaa
open Go.RowKit Go.Lib

structure Voi where
  sp : Bool
  tr : List Int
structure VVoi where
  a : Voi
  v : Value
def oCells (x : VVoi) : List Value := [.bool x.a.sp, x.v]
def kVoi : Kind VVoi where
  cells := oCells
  size := 2
  inn base w x := OwnL intCells x.a.tr base w x.v
  blk x b := sBlk x.a.tr x.v b
  len _ := rfl
  touch h ht hF := OwnL.touch h ht hF
  lt h hb := OwnL.sblk h hb
  less h hb := OwnL.less h hb
def Vois (w : World) (B : Nat) (v : Value) (ls : List Voi) : Prop :=
  ∃ L : List VVoi, L.map (·.a) = ls ∧ SlR (Pl oCells) 2 w B v L ∧ ∀ x ∈ L, Ints w B x.v x.a.tr
theorem Vois.on {w w' : World} {B B' : Nat} {v : Value} {ls : List Voi} (h : Vois w B v ls) (hb : Below B w w') (hB : B ≤ B') : Vois w' B' v ls := by
  obtain ⟨L, h1, h2, h3⟩ := h
  exact ⟨L, h1, SlR.on h2 (Pl.stays _) hb hB, fun x hx => SlR.on (h3 x hx) (Pl.stays _) hb hB⟩
theorem TreeO.vois {base : Nat} {w : World} {v : Value} {L : List VVoi} (h : TreeO kVoi base w v L) : Vois w w.heap.size v (L.map (·.a)) := ⟨L, rfl, h.slR, fun x hx => (show OwnL _ _ _ _ _ from h.inn x hx).slR (size := 1) (fun _ => rfl)⟩
theorem vois_at {w : World} {B : Nat} {v : Value} {ls : List Voi} (h : Vois w B v ls) : ∃ (A : Option Addr) (c : Nat), v = .slice A ls.length c ∧ ls.length ≤ c ∧ c ≤ maxLen ∧ (0 < ls.length → ∃ b off, A = some ⟨b, off, none⟩ ∧ b < B ∧
    ∀ (k : Nat) (a : Voi), ls[k]? = some a → ∃ A1 c1, w.cell? ⟨b, off + k * 2, none⟩ = some (.bool a.sp) ∧ w.cell? ⟨b, off + k * 2 + 1, none⟩ = some (.slice A1 a.tr.length c1) ∧ c1 ≤ maxLen ∧ Ints w B (.slice A1 a.tr.length c1) a.tr) := by
  obtain ⟨L, rfl, ⟨A, c, rfl, h1, h2, h3⟩, h4⟩ := h
  rw [List.length_map]
  refine ⟨A, c, rfl, h1, h2, fun h0 => ?_⟩
  obtain ⟨b, off, rfl, hb, hk⟩ := h3 h0
  refine ⟨b, off, rfl, hb, fun k a ha => ?_⟩
  rw [List.getElem?_map] at ha
  cases hx : L[k]? with
  | none => rw [hx] at ha; cases ha
  | some x =>
    rw [hx] at ha
    injection ha with ha
    subst ha
    obtain ⟨us, hl, hp, hc⟩ := hk k x hx
    have hp : us = oCells x := hp
    subst hp
    have hi := h4 x (List.mem_of_getElem? hx)
    obtain ⟨A1, c1, e1, _, hm⟩ := hi.sl
    have c1' := hc 1 _ rfl
    rw [e1] at c1' hi
    exact ⟨A1, c1, hc 0 _ rfl, c1', hm, hi⟩

def findT (L : List Mot) (t : ByteArray) : Int := idxG (fun m : Mot => m.title.toList == t.toList) L
open Classical in
noncomputable def knownB (a : Asm) (t : ByteArray) : Bool := okAsm a && decide (0 ≤ findT a.mots t)
end Go.Proofs.Ytlbnebmdolnagaa

namespace Go.Proofs.Ytlbnebmdolnagaa
open Go.RowKit Go.Lib

/-- A tree that grows by append. -/
structure TreeW {β : Type} (K : Kind β) (te : TypeId) (base : Nat) (w : World) (g cap : Nat) (L : List β) : Prop where
  row : w.ownsRow base te K.size (.slice (some ⟨g, 0, none⟩) L.length cap) L.length (L.flatMap K.cells)
  inn : ∀ x ∈ L, K.inn base w x
  out : ∀ x ∈ L, ∀ b, K.blk x b → b ≠ g
  two : L.Pairwise (fun p q => ∀ b, K.blk p b → ¬ K.blk q b)
theorem TreeW.below {β : Type} {K : Kind β} {te : TypeId} {base : Nat} {w w' : World} {g cap : Nat} {L : List β} (h : TreeW K te base w g cap L) (hb : Below w.heap.size w w') : TreeW K te base w' g cap L :=
  ⟨own_below h.row hb, fun x hx => K.touch (F := fun _ => False) (h.inn x hx) (Touch.of_below hb) (fun _ _ h => h), h.out, h.two⟩
theorem TreeW.start {β : Type} (K : Kind β) (te : TypeId) {base : Nat} {w : World} {g cap : Nat} (h : w.ownsRow base te K.size (.slice (some ⟨g, 0, none⟩) 0 cap) 0 []) : TreeW K te base w g cap ([] : List β) :=
  ⟨by simpa using h, (fun x hx => by cases hx), (fun x hx => by cases hx), List.Pairwise.nil⟩
theorem TreeW.push {β : Type} {K : Kind β} {te : TypeId} {base : Nat} {w w' : World} {g cap g' cap' : Nat} {L : List β} {x : β} (h : TreeW K te base w g cap L) (hg : w.grownBy w' (some g)) (hor : g' = g ∨ g' = w.heap.size)
    (hrow : w'.ownsRow base te K.size (.slice (some ⟨g', 0, none⟩) (L.length + 1) cap') (L.length + 1) (L.flatMap K.cells ++ K.cells x)) (hx : K.inn base w x) (hxn : ∀ b, K.blk x b → b ≠ g ∧ ∀ q ∈ L, ¬ K.blk q b) : TreeW K te base w' g' cap' (L ++ [x]) := by
  have ht : Touch (fun b => b = g) w w' := Touch.of_grown hg (fun b hb => by injection hb with hb; exact hb.symm)
  refine ⟨by simpa using hrow, fun y hy => ?_, fun y hy b hb => ?_, ?_⟩
  · rcases List.mem_append.1 hy with hy | hy
    · exact K.touch (h.inn y hy) ht (fun b hb e => h.out y hy b hb e)
    · rw [List.mem_singleton.1 hy]
      exact K.touch hx ht (fun b hb e => (hxn b hb).1 e)
  · have hlt : b < w.heap.size := by
      rcases List.mem_append.1 hy with hy | hy
      · exact (K.lt (h.inn y hy) hb).2
      · rw [List.mem_singleton.1 hy] at hb
        exact (K.lt hx hb).2
    have hng : b ≠ g := by
      rcases List.mem_append.1 hy with hy | hy
      · exact h.out y hy b hb
      · rw [List.mem_singleton.1 hy] at hb
        exact (hxn b hb).1
    rcases hor with e | e
    · rw [e]; exact hng
    · omega
  · rw [List.pairwise_append]
    refine ⟨h.two, List.pairwise_singleton _ _, fun p hp q hq b h1 h2 => ?_⟩
    rw [List.mem_singleton.1 hq] at h2
    exact (hxn b h2).2 p hp h1
theorem TreeW.tree {β : Type} {K : Kind β} {te : TypeId} {base : Nat} {w : World} {g cap : Nat} {L : List β} (h : TreeW K te base w g cap L) : TreeO K base w (.slice (some ⟨g, 0, none⟩) L.length cap) L :=
  ⟨OwnL.of_own K.cells K.len h.row, h.inn, fun q hq b hb e => h.out q hq b hb (by injection e with e; exact e.symm), h.two⟩
theorem TreeW.lt {β : Type} {K : Kind β} {te : TypeId} {base : Nat} {w : World} {g cap : Nat} {L : List β} (h : TreeW K te base w g cap L) : base ≤ g ∧ g < w.heap.size := h.row.lt g rfl

def RetOwnS (zs : List Int) (w : World) (e : Ending) (w' : World) : Prop := ∃ A c, e = .returned (.slice A zs.length c) ∧ OwnL intCells zs w.heap.size w' (.slice A zs.length c) ∧ Below w.heap.size w w'
set_option maxHeartbeats 2000000 in
theorem own64_any (zs : List Int) (w : World) (v : Value) (h : Ints w w.heap.size v zs) (hl : zs.length ≤ 1048576) : Calls Try.prog 121 #[v] w (RetOwnS zs w) := by
  have bW := (Below.refl w.heap.size w).alloc (Nat.le_refl _) (.cells #[] 2)
  have HS0 := Lib.hid (SlR.on h (Pl.stays _) bW bW.size)
  have HB0 := Lib.hid bW
  have hown0 : (w.alloc (.cells #[] 2)).ownsRow w.heap.size 2 1 (.slice (some ⟨w.heap.size, 0, none⟩) 0 0) 0 [] := by simpa using World.ownsRow_made w #[] 0 (Nat.le_refl _) (Nat.zero_le _) rfl
  have HOWN0 := Lib.hid hown0
  obtain ⟨T, tc, rfl, _⟩ := h
  obtain ⟨i0, hi, hz0, hz1, hz2⟩ := info_parts Try.infoI
  clear bW hown0
  go_enter Try.func121, Try.ntmps121
  go_wp2_with (at_builtin; refine wpList_append_slR intCells rfl _ _ 25 rfl w.heap.size 2 i0 (.int .i64 0) 1 8 Try.underlying25 hi hz0 hz1 hz2 rfl (by decide) _ _ _ rfl HOWN0.out _ zs _ rfl HS0.out (fun _ => rfl) (fun y u hu => int_one' _ hu) ?c3 ?c4 HB0.out.size ?_)
  case c3 => unfold maxLen; omega
  case c4 => omega
  intro o1 w1 hown1 hgrow1 hnn1
  have HO1 : Hid (OwnL intCells zs w.heap.size w1 o1) := Lib.hid (OwnL.of_own intCells (size := 1) (fun _ => rfl) (by simpa using hown1))
  have HB1 : Hid (Below w.heap.size w w1) := Lib.hid (HB0.out.grown hgrow1 HB0.out.size (fun j hj => (HOWN0.out.lt j hj).1))
  obtain ⟨A1, c1, rfl, _⟩ := HO1.out
  clear hown1 hgrow1 hnn1
  go_wp2
  go_ret
  exact ⟨_, _, rfl, HO1.out, HB1.out⟩

def voices (vs : List Int) (tr : List (List Int)) : List Voi := List.zipWith (fun v l => ⟨v != 0, l⟩) vs tr
theorem voices_get {vs : List Int} {tr : List (List Int)} {k : Nat} (h1 : k < vs.length) (h2 : k < tr.length) : (voices vs tr)[k]? = some ⟨vs[k] != 0, tr[k]⟩ := by
  unfold voices
  rw [List.getElem?_zipWith]
  simp [h1, h2]
theorem voices_len {vs : List Int} {tr : List (List Int)} (h : vs.length = tr.length) : (voices vs tr).length = tr.length := by unfold voices; simp [h]
theorem voices_next {vs : List Int} {tr : List (List Int)} {L : List VVoi} {k : Nat} (hL : L.map (·.a) = (voices vs tr).take k) (h1 : k < vs.length) (h2 : k < tr.length) {x : VVoi} (hx : x.a = ⟨vs[k] != 0, tr[k]⟩) : (L ++ [x]).map (·.a) = (voices vs tr).take (k + 1) := by
  obtain ⟨q1, q2⟩ := List.getElem?_eq_some_iff.1 (voices_get h1 h2)
  rw [List.map_append, hL, List.map_cons, List.map_nil, hx, List.take_succ_eq_append_getElem q1, q2]
def VoiPost (vs : List Int) (tr : List (List Int)) (w : World) (e : Ending) (w' : World) : Prop :=
  ∃ A c L, e = .returned (.slice A L.length c) ∧ L.map (·.a) = voices vs tr ∧ TreeO kVoi w.heap.size w' (.slice A L.length c) L ∧ Below w.heap.size w w'
theorem voi_one {x : VVoi} {A : Option Addr} {n c : Nat} (h : x.v = .slice A n c) {u : Value} (hu : u ∈ oCells x) : u.oneCell' = true := by
  unfold oCells at hu
  rw [h] at hu
  simp only [List.mem_cons, List.not_mem_nil, or_false] at hu
  rcases hu with rfl | rfl <;> rfl

theorem keep1 {w w' : World} {p0 : Addr} {v0 : Value} (h : w.cell? p0 = some v0) (hb : Below w.heap.size w w') : w'.cell? p0 = some v0 := (hb.cell (World.block_lt_of_cell? w _ h)).trans h
theorem keep1G {w w' : World} {p0 : Addr} {g : Nat} {v0 : Value} (h : w.cell? p0 = some v0) (hg : w.grownBy w' (some g)) (h0 : p0.block ≠ g) : w'.cell? p0 = some v0 := hg.cell h (fun e => h0 (by injection e))
end Go.Proofs.Ytlbnebmdolnagaa

namespace Go.Proofs.Ytlbnebmdolnagaa
open Go.RowKit Go.Lib

def nVoi (k : Nat) (x : VVoi) : Nat := k + 1 + x.a.tr.length
def mVoi (k : Nat) (x : VVoi) : VVoi := ⟨⟨((k : Int).tmod 3 == 0), seqI (k + 1) x.a.tr.length⟩, x.v⟩
theorem nVoi_le : ∀ (L : List VVoi) (k : Nat), (∀ x ∈ L, x.a.tr.length ≤ 1048576) → endK nVoi k L ≤ k + L.length * 1048577 ∧ k ≤ endK nVoi k L
  | [], k, _ => by simp [endK]
  | x :: L, k, h => by
    have h1 := h x (by simp)
    have h2 := nVoi_le L (nVoi k x) (fun y hy => h y (by simp [hy]))
    have h3 : k ≤ nVoi k x ∧ nVoi k x ≤ k + 1048577 := by unfold nVoi; omega
    rw [endK, List.length_cons, Nat.succ_mul]
    omega
theorem endK_append {β : Type} (nx : Nat → β → Nat) : ∀ (L M : List β) (k : Nat), endK nx k (L ++ M) = endK nx (endK nx k L) M
  | [], _, _ => rfl
  | x :: L, M, k => endK_append nx L M (nx k x)
theorem mVois_get : ∀ (L : List VVoi) (k j : Nat) (x : VVoi), L[j]? = some x → (markL mVoi nVoi k L)[j]? = some (mVoi (endK nVoi k (L.take j)) x)
  | [], _, _, _, h => by simp at h
  | y :: L, k, 0, x, h => by
    simp only [List.getElem?_cons_zero, Option.some.injEq] at h
    subst h
    rfl
  | y :: L, k, j + 1, x, h => by
    have := mVois_get L (nVoi k y) j x (by simpa using h)
    rw [markL, List.getElem?_cons_succ, this, List.take_succ_cons, endK]
end Go.Proofs.Ytlbnebmdolnagaa

namespace Go.Proofs.Ytlbnebmdolnagaa
open Go.RowKit Go.Lib

structure AsmOk (a : Asm) : Prop where
  n1 : 1 ≤ a.trust.length
  n12 : a.trust.length ≤ 12
  m6 : a.mots.length ≤ 6
  rule : 0 ≤ a.rule ∧ a.rule ≤ 2
  trust : ∀ (k : Nat) (l : List Int), a.trust[k]? = some l → okTrust l (k : Int) a.trust.length = true
  mots : ∀ (k : Nat) (m : Mot), a.mots[k]? = some m → okMot m a.day a.trust.length = true
theorem okAsm_ok {a : Asm} (h : okAsm a = true) : AsmOk a := by
  unfold okAsm okHead at h
  simp only [Bool.and_eq_true, decide_eq_true_eq, inB_iff] at h
  obtain ⟨⟨⟨⟨⟨⟨⟨⟨h1, h2⟩, h3⟩, h4⟩, h5⟩, h6⟩, _⟩, _⟩, _⟩ := h
  refine ⟨by omega, by omega, h4, h2, fun k l hk => ?_, fun k m hk => ?_⟩
  · obtain ⟨hl, rfl⟩ := List.getElem?_eq_some_iff.1 hk
    unfold okTrusts at h5
    have := allLt_true.1 h5 k hl
    rwa [memAt_at hl] at this
  · obtain ⟨hl, rfl⟩ := List.getElem?_eq_some_iff.1 hk
    unfold okMots at h6
    have := allLt_true.1 h6 k hl
    rw [motAt_at hl, Bool.and_eq_true] at this
    exact this.1
theorem AsmOk.t4 {a : Asm} (h : AsmOk a) : ∀ l ∈ a.trust, l.length ≤ 4 := fun l hl => by
  obtain ⟨k, hk⟩ := List.getElem?_of_mem hl
  have := h.trust k l hk
  rw [okTrust_eq, Bool.and_eq_true] at this
  exact of_decide_eq_true this.2
theorem AsmOk.votes {a : Asm} (h : AsmOk a) {k : Nat} {m : Mot} (hk : a.mots[k]? = some m) : m.votes.length = a.trust.length := by
  have := h.mots k m hk
  unfold okMot at this
  simp only [Bool.and_eq_true, beq_iff_eq] at this
  have := this.1.1.1.2
  omega
theorem idxG_at {α : Type} {p : α → Bool} {L : List α} (h : 0 ≤ idxG p L) : ∃ k, ∃ hk : k < L.length, idxG p L = k ∧ p L[k] = true := by
  rcases hf : L.findIdx? p with _ | k
  · have e : idxG p L = -1 := by unfold idxG; rw [hf]
    omega
  · obtain ⟨h1, h2, _⟩ := List.findIdx?_eq_some_iff_getElem.1 hf
    exact ⟨k, h1, by unfold idxG; rw [hf], h2⟩
/-- The motion with a title. -/
def motOf (a : Asm) (t : ByteArray) : Mot := (a.mots[(findT a.mots t).toNat]?).getD ⟨⟨#[]⟩, 0, [], 0, 0, 0, [], 0⟩
theorem known_at {a : Asm} {t : ByteArray} (h : knownB a t = true) : okAsm a = true ∧ ∃ k : Nat, findT a.mots t = k ∧ k < a.mots.length ∧ a.mots[k]? = some (motOf a t) := by
  unfold knownB at h
  rw [Bool.and_eq_true] at h
  obtain ⟨k, hk, e, _⟩ := idxG_at (p := fun m : Mot => m.title.toList == t.toList) (L := a.mots) (of_decide_eq_true h.2)
  have e : findT a.mots t = k := e
  refine ⟨h.1, k, e, hk, ?_⟩
  unfold motOf
  rw [e, Int.toNat_natCast, List.getElem?_eq_getElem hk]
  rfl
theorem known_not {a : Asm} {t : ByteArray} (h : knownB a t = false) (hok : okAsm a = true) : findT a.mots t < 0 := by
  unfold knownB at h
  rw [hok, Bool.true_and] at h
  have := of_decide_eq_false h
  omega
theorem known_bad {a : Asm} {t : ByteArray} (hok : okAsm a = false) : knownB a t = false := by unfold knownB; rw [hok]; rfl
noncomputable def voicesFor (a : Asm) (t : ByteArray) : List Voi := if knownB a t = true then voices (motOf a t).votes a.trust else []
theorem voicesFor_no {a : Asm} {t : ByteArray} (h : knownB a t = false) : voicesFor a t = [] := by unfold voicesFor; rw [if_neg (by rw [h]; simp)]
theorem voicesFor_yes {a : Asm} {t : ByteArray} (h : knownB a t = true) : voicesFor a t = voices (motOf a t).votes a.trust := by unfold voicesFor; rw [if_pos h]
def nV (k : Nat) (x : Voi) : Nat := k + 1 + x.tr.length
theorem endK_map : ∀ (L : List VVoi) (k : Nat), endK nVoi k L = endK nV k (L.map (·.a))
  | [], _ => rfl
  | x :: L, k => endK_map L (nVoi k x)
theorem endK_le {R : List Voi} (h : ∀ x ∈ R, x.tr.length ≤ 4) : ∀ k, endK nV k R ≤ k + R.length * 5 := by
  induction R with
  | nil => intro k; simp [endK]
  | cons x R ih =>
    intro k
    rw [endK, List.length_cons, Nat.succ_mul]
    have h1 := ih (fun y hy => h y (by simp [hy])) (nV k x)
    have h2 := h x (by simp)
    have h3 : nV k x ≤ k + 5 := by unfold nV; omega
    omega
/-- Voices as a result. -/
def voiK (R : List Voi) : ResK where
  own b W v := ∃ L A c, v = .slice A L.length c ∧ L.map VVoi.a = R ∧ TreeO kVoi b W v L
  mrk b W v := ∃ L A c, v = .slice A L.length c ∧ L.map VVoi.a = R ∧ TreeO kVoi b W v (markL mVoi nVoi 1 L)
  n := endK nV 1 R
  slice h := by obtain ⟨L, A, c, e, _⟩ := h; exact ⟨A, _, c, e⟩
  touch h ht hF := by
    obtain ⟨L, A, c, e, hm, hT⟩ := h
    exact ⟨L, A, c, e, hm, hT.touch ht (fun c hc hf => by have q1 := (hT.lt hc).1; have q2 := hF c hf; omega)⟩
  mtouch h hb := by
    obtain ⟨L, A, c, e, hm, hT⟩ := h
    exact ⟨L, A, c, e, hm, hT.below hb⟩
structure VoiFit (R : List Voi) : Prop where
  n : R.length ≤ 12
  t : ∀ x ∈ R, x.tr.length ≤ 4
theorem VoiFit.of {R : List Voi} (h : VoiFit R) {L : List VVoi} (hm : L.map VVoi.a = R) : L.length ≤ 12 ∧ ∀ x ∈ L, x.a.tr.length ≤ 4 :=
  ⟨by have := h.n; rw [← hm, List.length_map] at this; exact this, fun x hx => h.t _ (by rw [← hm]; exact List.mem_map_of_mem hx)⟩
theorem voices_fit {a : Asm} (h : AsmOk a) {vs : List Int} (hl : vs.length = a.trust.length) : VoiFit (voices vs a.trust) := by
  refine ⟨by rw [voices_len hl]; exact h.n12, fun x hx => ?_⟩
  obtain ⟨k, hk⟩ := List.getElem?_of_mem hx
  have hlt := (List.getElem?_eq_some_iff.1 hk).1
  rw [voices_len hl] at hlt
  rw [voices_get (by omega) hlt] at hk
  injection hk with hk
  rw [← hk]
  exact h.t4 _ (List.getElem_mem hlt)
theorem voicesFor_fit (a : Asm) (t : ByteArray) : VoiFit (voicesFor a t) := by
  cases h : knownB a t with
  | false => rw [voicesFor_no h]; exact ⟨by simp, fun x hx => by cases hx⟩
  | true =>
    rw [voicesFor_yes h]
    obtain ⟨h1, k, _, _, hk⟩ := known_at h
    have hok := okAsm_ok h1
    exact voices_fit hok (hok.votes hk)

end Go.Proofs.Ytlbnebmdolnagaa

/- Marks of numbers and edits, walked, where the count may be great (as in the first texts, under greater bounds). Marks in slices of structs, walked: rows, articles, acts, motions; in an assembly. (Printed by tools/gen/g_vq.py) An assembly marked, walked; marked articles read again, walked. A law on an assembly that compares a result in memory: its walk, laid once; FnExactTextToday, walked. -/
import Derived.Test.YtlbnebmdolnagaaQE
import Derived.Test.YtlbnebmdolnagaaQF
import Derived.Test.YtlbnebmdolnagaaQB
import Derived.Test.YtlbnebmdolnagaaQG
namespace Go.Proofs.Ytlbnebmdolnagaa
open Go.RowKit Go.Lib

end Go.Proofs.Ytlbnebmdolnagaa

namespace Go.Proofs.Ytlbnebmdolnagaa
open Go.RowKit Go.Lib

/-- The elements as they are marked, and the count behind them. -/
def markL {β : Type} (m : Nat → β → β) (nx : Nat → β → Nat) : Nat → List β → List β
  | _, [] => []
  | k, x :: xs => m k x :: markL m nx (nx k x) xs
def endK {β : Type} (nx : Nat → β → Nat) : Nat → List β → Nat
  | k, [] => k
  | k, x :: xs => endK nx (nx k x) xs
theorem endK_snoc {β : Type} (nx : Nat → β → Nat) : ∀ (L : List β) (k : Nat) (x : β), endK nx k (L ++ [x]) = nx (endK nx k L) x
  | [], _, _ => rfl
  | y :: L, k, x => endK_snoc nx L (nx k y) x
theorem markL_snoc {β : Type} (m : Nat → β → β) (nx : Nat → β → Nat) : ∀ (L : List β) (k : Nat) (x : β), markL m nx k (L ++ [x]) = markL m nx k L ++ [m (endK nx k L) x]
  | [], _, _ => rfl
  | y :: L, k, x => by
    rw [List.cons_append, markL, markL_snoc m nx L (nx k y) x]
    rfl
theorem markL_len {β : Type} (m : Nat → β → β) (nx : Nat → β → Nat) : ∀ (L : List β) (k : Nat), (markL m nx k L).length = L.length
  | [], _ => rfl
  | y :: L, k => by rw [markL, List.length_cons, List.length_cons, markL_len m nx L]
theorem TreeO.at {β : Type} {K : Kind β} {base : Nat} {w : World} {v : Value} {P R : List β} {x : β} (h : TreeO K base w v (P ++ x :: R)) {j g : Nat} (hP : P.length = j) (hv : v.ownBlock = some g) {i : Nat} {u : Value} (hu : (K.cells x)[i]? = some u) : w.cell? ⟨g, j * K.size + i, none⟩ = some u ∧ w.frozen? ⟨g, j * K.size + i, none⟩ = false := by
  obtain ⟨g', c, rfl, _, _, _, _, h7⟩ := h.cell (j := j) (x := x) (by rw [List.getElem?_append_right (by omega), hP, Nat.sub_self]; rfl)
  injection hv with hv
  have hv : g' = g := hv
  subst hv
  exact h7 i u hu
theorem TreeO.put {β : Type} {K : Kind β} {base : Nat} {w : World} {v : Value} {P R : List β} {x x' : β} (h : TreeO K base w v (P ++ x :: R)) {j g : Nat} (hP : P.length = j) (hv : v.ownBlock = some g) (i : Nat) (hi : i < K.size) (u : Value) (hc : K.cells x' = (K.cells x).set i u)
    (hb : ∀ b, K.blk x' b ↔ K.blk x b) (hin : ∀ w, K.inn base w x → K.inn base w x') : TreeO K base (w.setCell ⟨g, j * K.size + i, none⟩ u) v (P ++ x' :: R) := by
  have := h.setCell (j := j) (x := x) (x' := x') (by rw [List.getElem?_append_right (by omega), hP, Nat.sub_self]; rfl) hv i hi u hc hb hin
  rwa [List.set_append_right _ _ (by omega), hP, Nat.sub_self, List.set_cons_zero] at this
theorem TreeO.turn {β : Type} {K : Kind β} {base : Nat} {w w' : World} {v : Value} {P R : List β} {x x' : β} {F : Nat → Prop} (h : TreeO K base w v (P ++ x :: R)) {j : Nat} (hP : P.length = j) (ht : Touch F w w') (hF : ∀ b, b < w.heap.size → F b → K.blk x b) (hc : K.cells x' = K.cells x)
    (hb : ∀ b, K.blk x' b ↔ K.blk x b) (hin : K.inn base w' x') : TreeO K base w' v (P ++ x' :: R) := by
  have := h.inner (j := j) (x := x) (x' := x') (by rw [List.getElem?_append_right (by omega), hP, Nat.sub_self]; rfl) ht hF hc hb hin
  rwa [List.set_append_right _ _ (by omega), hP, Nat.sub_self, List.set_cons_zero] at this
theorem rowBlk {α β : Type} {xs : List α} {ys : List β} {v : Value} {b : Nat} (hl : ys.length = xs.length) (h : (if ys.length = 0 then none else v.ownBlock) = some b) : sBlk xs v b := by
  split at h
  · cases h
  · rename_i h0
    exact ⟨fun e => h0 (by rw [hl, e]; rfl), h⟩
theorem sBlk_iff {α β : Type} {xs : List α} {ys : List β} {v : Value} {b : Nat} (hl : xs.length = ys.length) : sBlk xs v b ↔ sBlk ys v b := ⟨fun h => sBlk_len h hl, fun h => sBlk_len h hl.symm⟩
def MarkT {β : Type} (K : Kind β) (m : Nat → β → β) (nx : Nat → β → Nat) (L : List β) (k base : Nat) (v : Value) (w : World) (e : Ending) (w' : World) : Prop :=
  e = .returned (.int .i64 ((endK nx k L : Nat) : Int)) ∧ TreeO K base w' v (markL m nx k L) ∧ Touch (Foot K v L) w w'
def mText (k : Nat) : ByteArray := ⟨(109 :: itoa ((k : Nat) : Int)).toArray⟩
def nRow (k : Nat) (x : VRow) : Nat := k + x.a.length
def mRow (k : Nat) (x : VRow) : VRow := ⟨seqI k x.a.length, x.v⟩
def nArt (k : Nat) (_ : Art) : Nat := k + 2
def mArt (k : Nat) (_ : Art) : Art := ⟨(k : Int), ⟨(109 :: itoa ((k + 1 : Nat) : Int)).toArray⟩⟩
def nAct (k : Nat) (x : VAct) : Nat := k + 2 + 4 * x.a.pat.length
def mAct (k : Nat) (x : VAct) : VAct := ⟨⟨(k : Int), (k : Int) + 1, medits (k + 2) x.a.pat.length⟩, x.v⟩
def nMot (k : Nat) (x : VMot) : Nat := k + 2 + 4 * x.a.pat.length + 3 + x.a.votes.length + 1
def mMot (k : Nat) (x : VMot) : VMot := ⟨⟨⟨(109 :: itoa ((k : Nat) : Int)).toArray⟩, (k : Int) + 1, medits (k + 2) x.a.pat.length, ((k + 2 + 4 * x.a.pat.length : Nat) : Int), ((k + 2 + 4 * x.a.pat.length : Nat) : Int) + 1, ((k + 2 + 4 * x.a.pat.length : Nat) : Int) + 1 + 1, seqI (k + 2 + 4 * x.a.pat.length + 3) x.a.votes.length, ((k + 2 + 4 * x.a.pat.length + 3 + x.a.votes.length : Nat) : Int)⟩, x.p, x.t⟩
theorem nRow_le : ∀ (L : List VRow) (k : Nat), (∀ x ∈ L, x.a.length ≤ 1048576) → endK nRow k L ≤ k + L.length * 1048576 ∧ k ≤ endK nRow k L
  | [], k, _ => by simp [endK]
  | x :: L, k, h => by
    have h1 := h x (by simp)
    have h2 := nRow_le L (nRow k x) (fun y hy => h y (by simp [hy]))
    have h3 : k ≤ nRow k x ∧ nRow k x ≤ k + 1048576 := by unfold nRow; omega
    rw [endK, List.length_cons, Nat.succ_mul]
    omega
theorem nArt_le : ∀ (L : List Art) (k : Nat), (∀ x ∈ L, True) → endK nArt k L ≤ k + L.length * 2 ∧ k ≤ endK nArt k L
  | [], k, _ => by simp [endK]
  | x :: L, k, h => by
    have h1 := h x (by simp)
    have h2 := nArt_le L (nArt k x) (fun y hy => h y (by simp [hy]))
    have h3 : k ≤ nArt k x ∧ nArt k x ≤ k + 2 := by unfold nArt; omega
    rw [endK, List.length_cons, Nat.succ_mul]
    omega
theorem nAct_le : ∀ (L : List VAct) (k : Nat), (∀ x ∈ L, x.a.pat.length ≤ 1048576) → endK nAct k L ≤ k + L.length * 4194306 ∧ k ≤ endK nAct k L
  | [], k, _ => by simp [endK]
  | x :: L, k, h => by
    have h1 := h x (by simp)
    have h2 := nAct_le L (nAct k x) (fun y hy => h y (by simp [hy]))
    have h3 : k ≤ nAct k x ∧ nAct k x ≤ k + 4194306 := by unfold nAct; omega
    rw [endK, List.length_cons, Nat.succ_mul]
    omega
theorem nMot_le : ∀ (L : List VMot) (k : Nat), (∀ x ∈ L, x.a.pat.length ≤ 1048576 ∧ x.a.votes.length ≤ 1048576) → endK nMot k L ≤ k + L.length * 5242886 ∧ k ≤ endK nMot k L
  | [], k, _ => by simp [endK]
  | x :: L, k, h => by
    have h1 := h x (by simp)
    have h2 := nMot_le L (nMot k x) (fun y hy => h y (by simp [hy]))
    have h3 : k ≤ nMot k x ∧ nMot k x ≤ k + 5242886 := by unfold nMot; omega
    rw [endK, List.length_cons, Nat.succ_mul]
    omega
end Go.Proofs.Ytlbnebmdolnagaa

namespace Go.Proofs.Ytlbnebmdolnagaa
open Go.RowKit Go.Lib

theorem foot_mark {β : Type} {K : Kind β} {m : Nat → β → β} {nx : Nat → β → Nat} (hm : ∀ k x b, K.blk (m k x) b ↔ K.blk x b) (v : Value) (b : Nat) : ∀ (L : List β) (k : Nat), (∃ q ∈ markL m nx k L, K.blk q b) ↔ ∃ q ∈ L, K.blk q b
  | [], _ => by simp [markL]
  | x :: L, k => by
    rw [markL]
    simp only [List.mem_cons, exists_eq_or_imp]
    rw [hm k x b, foot_mark hm v b L (nx k x)]
theorem foot_mark' {β : Type} {K : Kind β} {m : Nat → β → β} {nx : Nat → β → Nat} (hm : ∀ k x b, K.blk (m k x) b ↔ K.blk x b) (v : Value) (L : List β) (k : Nat) : Foot K v (markL m nx k L) = Foot K v L := by
  funext b
  apply propext
  unfold Foot
  rw [foot_mark hm v b L k]
  constructor
  · rintro (h | h)
    · exact .inl (sBlk_len h (markL_len m nx L k))
    · exact .inr h
  · rintro (h | h)
    · exact .inl (sBlk_len h (markL_len m nx L k).symm)
    · exact .inr h
theorem blk_mRow (k : Nat) (x : VRow) (b : Nat) : kRow.blk (mRow k x) b ↔ kRow.blk x b := sBlk_iff (by simp [mRow, seqI_len])
theorem blk_mArt (k : Nat) (x : Art) (b : Nat) : kArt.blk (mArt k x) b ↔ kArt.blk x b := Iff.rfl
theorem blk_mAct (k : Nat) (x : VAct) (b : Nat) : kAct.blk (mAct k x) b ↔ kAct.blk x b := sBlk_iff (by simp [mAct, medits_len])
theorem blk_mMot (k : Nat) (x : VMot) (b : Nat) : kMot.blk (mMot k x) b ↔ kMot.blk x b := or_congr (sBlk_iff (by simp [mMot, medits_len])) (sBlk_iff (by simp [mMot, seqI_len]))
/-- An assembly as it is marked. -/
def mAsm (k : Nat) (a : Asm) (T : List VRow) (C : List VAct) (M : List VMot) : Asm :=
  ⟨a.day, a.rule, (markL mRow nRow k T).map VRow.a, markL mArt nArt (endK nRow k T) a.base, (markL mAct nAct (endK nArt (endK nRow k T) a.base) C).map VAct.a, (markL mMot nMot (endK nAct (endK nArt (endK nRow k T) a.base) C) M).map VMot.a⟩
def eAsm (k : Nat) (a : Asm) (T : List VRow) (C : List VAct) (M : List VMot) : Nat := endK nMot (endK nAct (endK nArt (endK nRow k T) a.base) C) M
def MarkA (x : VAsm) (a : Asm) (T : List VRow) (C : List VAct) (M : List VMot) (k base : Nat) (w : World) (e : Ending) (w' : World) : Prop :=
  e = .returned (.int .i64 ((eAsm k a T C M : Nat) : Int)) ∧
  AsmO base w' x (mAsm k a T C M) (markL mRow nRow k T) (markL mAct nAct (endK nArt (endK nRow k T) a.base) C) (markL mMot nMot (endK nAct (endK nArt (endK nRow k T) a.base) C) M) ∧
  Touch (asmFoot x a T C M) w w'
structure TreesFit (T : List VRow) (b : List Art) (C : List VAct) (M : List VMot) : Prop where
  t0 : T.length ≤ 1048576
  t : ∀ x ∈ T, x.a.length ≤ 1048576
  b0 : b.length ≤ 1048576
  c0 : C.length ≤ 1048576
  c : ∀ x ∈ C, x.a.pat.length ≤ 1048576
  m0 : M.length ≤ 1048576
  m : ∀ x ∈ M, x.a.pat.length ≤ 1048576 ∧ x.a.votes.length ≤ 1048576
theorem AsmFits.trees {a : Asm} (h : AsmFits a) {T : List VRow} {C : List VAct} {M : List VMot} (ht : T.map VRow.a = a.trust) (hc : C.map VAct.a = a.acts) (hm : M.map VMot.a = a.mots) : TreesFit T a.base C M where
  t0 := by have := h.t0; rw [← ht, List.length_map] at this; exact this
  t := fun x hx => h.t _ (by rw [← ht]; exact List.mem_map_of_mem hx)
  b0 := h.b0
  c0 := by have := h.c0; rw [← hc, List.length_map] at this; exact this
  c := fun x hx => (h.c _ (by rw [← hc]; exact List.mem_map_of_mem hx)).1
  m0 := by have := h.m0; rw [← hm, List.length_map] at this; exact this
  m := fun x hx => by have := h.m _ (by rw [← hm]; exact List.mem_map_of_mem hx); exact ⟨this.2.1, this.2.2.2⟩
theorem mArts_get : ∀ (L : List Art) (k j : Nat) , j < L.length → (markL mArt nArt k L)[j]? = some ⟨((k + 2 * j : Nat) : Int), ⟨(109 :: itoa ((k + 2 * j + 1 : Nat) : Int)).toArray⟩⟩
  | [], _, _, h => by simp at h
  | x :: L, k, 0, _ => rfl
  | x :: L, k, j + 1, h => by
    rw [markL, List.getElem?_cons_succ, mArts_get L (nArt k x) j (by simpa using h)]
    have e : nArt k x + 2 * j = k + 2 * (j + 1) := by unfold nArt; omega
    rw [e]
theorem endK_art (L : List Art) (k : Nat) : endK nArt k L = k + 2 * L.length := by
  induction L generalizing k with
  | nil => rfl
  | cons x L ih => rw [endK, ih, List.length_cons]; unfold nArt; omega
end Go.Proofs.Ytlbnebmdolnagaa

namespace Go.Proofs.Ytlbnebmdolnagaa
open Go.RowKit Go.Lib

/-- A result in memory with a flag. -/
def ResP (own : Nat → World → Value → Prop) (r : Bool) (w : World) (e : Ending) (w' : World) : Prop := ∃ v, e = .returned (.tuple #[v, .bool r]) ∧ own w.heap.size w' v ∧ Below w.heap.size w w'
/-- What a result in memory is. -/
structure ResK where
  own : Nat → World → Value → Prop
  mrk : Nat → World → Value → Prop
  n : Nat
  slice : ∀ {b W v}, own b W v → ∃ A m c, v = .slice A m c
  touch : ∀ {b W W' v} {F : Nat → Prop}, own b W v → Touch F W W' → (∀ c, F c → c < b) → own b W' v
  mtouch : ∀ {b W W' v}, mrk b W v → Below W.heap.size W W' → mrk b W' v
theorem ResK.below (K : ResK) {b : Nat} {W W' : World} {v : Value} (h : K.own b W v) (hb : Below W.heap.size W W') : K.own b W' v := K.touch (F := fun _ => False) h (Touch.of_below hb) (fun _ h => h.elim)

/-- Articles as a result. -/
def artK (R : List Art) : ResK where
  own b W v := OwnL artCells R b W v
  mrk b W v := OwnL artCells (markL mArt nArt 1 R) b W v
  n := endK nArt 1 R
  slice h := by obtain ⟨A, c, e, _⟩ := h; exact ⟨A, _, c, e⟩
  touch h ht hF := OwnL.touch h ht (fun c hc hf => by have q1 := (OwnL.sblk h hc).1; have q2 := hF c hf; omega)
  mtouch h hb := OwnL.on h hb
theorem foldA_ok : ∀ (L : List Acta) (o : Option (List Art)) (R : List Art), (∀ S, o = some S → okStat S = true) → (∀ x ∈ L, okPatch x.pat = true) → L.foldl stepA o = some R → okStat R = true
  | [], o, R, hS, _, h => hS R h
  | x :: L, o, R, hS, hp, h => by
    refine foldA_ok L (stepA o x) R (fun T hT => ?_) (fun y hy => hp y (by simp [hy])) h
    cases o with
    | none => cases hT
    | some S => exact apply_step (hS S rfl) (hp x (by simp)) hT
theorem onO_ok {S : List Art} {ls : List Acta} {d : Int} {R : List Art} (h1 : okStat S = true) (h2 : okActs ls = true) (h : onO S ls d = some R) : okStat R = true := by
  rw [on_filter] at h
  refine foldA_ok _ _ R (fun T hT => ?_) (fun x hx => ?_) h
  · injection hT with hT
    rw [← hT]
    exact h1
  · obtain ⟨k, hk⟩ := List.getElem?_of_mem (List.mem_filter.1 hx).1
    exact (okActa_iff.1 (okActs_at h2 hk)).pat
noncomputable def today (a : Asm) : List Art := if okAsm a = true then (onO a.base a.acts a.day).getD [] else []
theorem okAsm_parts {a : Asm} (h : okAsm a = true) : okStat a.base = true ∧ okActs a.acts = true ∧ AllDays a.base a.acts ∧ 0 ≤ a.day ∧ a.day ≤ 999 := by
  unfold okAsm okHead at h
  simp only [Bool.and_eq_true, decide_eq_true_eq, inB_iff] at h
  exact ⟨h.1.1.2, h.1.2, h.2, h.1.1.1.1.1.1.1.1.1, h.1.1.1.1.1.1.1.1.2⟩
theorem today_some {a : Asm} (h : okAsm a = true) : onO a.base a.acts a.day = some (today a) := by
  obtain ⟨_, _, hA, h0, h1⟩ := okAsm_parts h
  have := some_all hA h0 h1
  unfold today
  rw [if_pos h]
  obtain ⟨R, hR⟩ := Option.isSome_iff_exists.1 this
  rw [hR]
  rfl
theorem today_no {a : Asm} (h : okAsm a = false) : today a = [] := by unfold today; rw [if_neg (by rw [h]; simp)]
theorem today_len (a : Asm) : (today a).length ≤ 1048576 := by
  cases hv : okAsm a with
  | false => rw [today_no hv]; simp
  | true =>
    obtain ⟨h1, h2, _⟩ := okAsm_parts hv
    have h3 := today_some hv
    have : okStat (today a) = true := onO_ok h1 h2 h3
    have := okStat_len this
    omega
end Go.Proofs.Ytlbnebmdolnagaa

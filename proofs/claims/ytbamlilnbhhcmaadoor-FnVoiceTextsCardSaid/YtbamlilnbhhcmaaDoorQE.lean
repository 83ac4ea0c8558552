/- The intervals of broken days, walked: the reference's; known is only when there are none. Acts of which one is ended, acts without one: plain. append as a step of a region that draws its order. Acts copied with patches of their own, walked: the reference's and the program's. An act ended, walked: the reference's and the program's. An assembly: plain, and in memory. Sizes of assemblies, walked: the statements' own functions. Copies of acts and motions, walked: the statements' own functions. (Printed by tools/gen/g_vd.py) Copies of slices of acts, motions, articles, rows, walked: the statements' own functions. Copies of assemblies, walked; equality of assemblies, walked: the statements' own functions. (Printed by tools/gen/g_vf.py) Arguments opened: a struct of nine fields, a slice of numbers, a slice of edits. The law on slices of structs is turned from the kit's page on structs. -/
import Derived.Test.YtbamlilnbhhcmaaDoorQD
import Derived.Maps.AppendAt
import Derived.Deep.RegionHeld3
import Derived.Test.YtbamlilnbhhcmaaDoorQA
import Derived.Test.YtbamlilnbhhcmaaDoorQB
import Derived.Test.YtbamlilnbhhcmaaDoorQN
import Derived.Deep.Slices
import Derived.Deep.Fields
import Derived.ChangeSame
import Derived.ChangeSlices
import Derived.ProofKit
import Derived.OpenShut
import Derived.Lib.SmallJoins
namespace Go.Proofs.YtbamlilnbhhcmaaDoor
open Go.RowKit Go.Lib

def GoodTo (S : List Art) (ls : List Acta) (M : List Int) (k : Nat) : Prop := ∀ x ∈ M.take k, (onO S ls x).isSome = true
def Broken1Post (S : List Art) (ls : List Acta) (w : World) (e : Ending) (w' : World) : Prop :=
  ∃ g cap n, e = .returned (.slice (some ⟨g, 0, none⟩) n cap) ∧ n ≤ 1000 ∧ (n = 0 ↔ AllDays S ls) ∧ Below w.heap.size w w'

end Go.Proofs.YtbamlilnbhhcmaaDoor

namespace Go.Proofs.YtbamlilnbhhcmaaDoor
open Go.RowKit Go.Lib

/-- The act k ends on a day. -/
def endA (a : Acta) (day : Int) : Acta := ⟨a.beg, day, a.pat⟩
def endL (ls : List Acta) (k : Nat) (a : Acta) (day : Int) : List Acta := ls.set k (endA a day)
def restL' (ls : List Acta) (k : Nat) : List Acta := ls.take k ++ ls.drop (k + 1)
/-- One act's step. -/
def stepA (o : Option (List Art)) (a : Acta) : Option (List Art) := o.bind (fun S => applyO S a.pat)
/-- When an act can be ended on a day. -/
def EndOk (S : List Art) (ls : List Acta) (k : Nat) (a : Acta) (day : Int) : Prop := inD day = true ∧ a.beg < day ∧ day < a.fin ∧ AllDays S (endL ls k a day)
end Go.Proofs.YtbamlilnbhhcmaaDoor

namespace Go.Proofs.YtbamlilnbhhcmaaDoor
open Go.RowKit Go.Lib

section
variable {P : Program} {w : World}
/-- append of whatever slice is read as a list, to a row of the call's own. -/
theorem wp_append_slR {α : Type} (f : α → List Value) {o : Oper} {a : Act} {K : Act → World → Prop} {Q : Exit → Act → World → Prop} (s x : Operand) (t : TypeId)
    (ho : o.op = .call { callee := .builtin .append, args := #[s, x], argTypes := #[t, t] })
    (base : Nat) (e : TypeId) (i : TypeInfo) (z : Value) (size bytes : Nat) (ht : P.underlying t = some (.slice e)) (hi : P.info? e = some i) (hz : i.zero = some z)
    (hsize : i.size = size) (hby : i.bytes = bytes) (hzs : z.cells.size = size) (hsz : 0 < size)
    (v : Value) (n : Nat) (ys : List Value) (hs : a.eval s = v) (hown : w.ownsRow base e size v n ys)
    (vs : Value) (xs : List α) (B : Nat) (hx : a.eval x = vs) (hSl : SlR (Pl f) size w B vs xs) (hf : ∀ y, (f y).length = size) (h1 : ∀ y, ∀ u ∈ f y, u.oneCell' = true)
    (h63 : n + xs.length ≤ maxLen) (hbytes : (n + xs.length) * bytes ≤ 140737488355328) (hbase : base ≤ w.heap.size)
    (h : ∀ v' w', w'.ownsRow base e size v' (n + xs.length) (ys ++ xs.flatMap f) → w.grownBy w' v.ownBlock → (v ≠ .slice none 0 0 → v' ≠ .slice none 0 0) → K (a.put o.dst v') w') : o.wp P a w K Q := by
  obtain ⟨A, c, rfl, hc, hm, hel⟩ := hSl
  have hsome : ∀ ad : Addr, A = some ad → (∀ j u, (xs.flatMap f)[j]? = some u → w.cell? (ad.add j) = some u) → o.wp P a w K Q := fun ad hA hcells => by
    subst hA
    obtain ⟨v', w', hr, g1, g2, g3, _⟩ := run_append_own_at (P := P) w base t o.type e i z size bytes ht hi hz hsize hby hzs hsz v n ys hown ad xs.length c (xs.flatMap f) (flat_len f hf xs) hcells (flat_one f (fun y u hu => h1 y u hu) xs) h63 hbytes hbase
    unfold Oper.wp execOp
    simp only [ho, resolve, invoke, builtin, Sem.run_bind, Sem.run_pure, Result.andThen_ok, List.map_toArray, List.map_cons, List.map_nil, hs, hx, hr]
    exact h v' w' g1 g2 (fun hv hv' => hv (g3.1 hv').1)
  by_cases h0 : xs = []
  · subst h0
    cases A with
    | some ad => exact hsome ad rfl (fun j u hj => by simp at hj)
    | none =>
      have hrun : (Builtin.append_ #[t, t] o.type #[v, .slice none 0 c]).run P w = .ok v w := by
        rcases hown.2 with ⟨rfl, rfl⟩ | ⟨g, cap, cur, rfl, _, _, hnc, _⟩
        · simp [Builtin.append_, run_underlying ht, sizeOf, typeInfo, hi, Builtin.lenOf, Builtin.firstCells]
        · simp [Builtin.append_, run_underlying ht, sizeOf, typeInfo, hi, Builtin.lenOf, Builtin.firstCells, hnc, storeCells]
      unfold Oper.wp
      have hx' : a.eval x = .slice none 0 c := hx
      simp [execOp, ho, resolve, invoke, builtin, hs, hx', hrun, Result.andThen]
      exact (h v w (by simpa using hown) ⟨rfl, rfl, rfl, Nat.le_refl _, fun _ _ _ => rfl⟩ (fun hv => hv))
  · obtain ⟨b, off, hA, hb, hcell⟩ := hel (List.length_pos_iff.2 h0)
    refine hsome ⟨b, off, none⟩ hA (fun j u hj => ?_)
    have hjl : j < xs.length * size := by rw [← flat_len f hf xs]; exact (List.getElem?_eq_some_iff.1 hj).1
    have hq : j / size < xs.length := Nat.div_lt_of_lt_mul (by rw [Nat.mul_comm]; exact hjl)
    obtain ⟨us, hl, hp, hcl⟩ := hcell (j / size) xs[j / size] (List.getElem?_eq_getElem hq)
    have hp : us = f xs[j / size] := hp
    subst hp
    have hmod : j % size < size := Nat.mod_lt _ hsz
    have hu : (f xs[j / size])[j % size]? = some u := by
      have hjj : j = (j / size) * size + j % size := by rw [Nat.mul_comm]; exact (Nat.div_add_mod j size).symm
      have hfa : ∀ (L : List α) (q r : Nat) (hq : q < L.length), r < size → (L.flatMap f)[q * size + r]? = (f L[q])[r]? := by
        intro L
        induction L with
        | nil => intro q r hq; cases hq
        | cons y L ih =>
          intro q r hq hr
          rw [List.flatMap_cons]
          cases q with
          | zero => rw [Nat.zero_mul, Nat.zero_add, List.getElem?_append_left (by rw [hf]; exact hr)]; rfl
          | succ q =>
            rw [List.getElem?_append_right (by rw [hf, Nat.succ_mul]; omega), hf, Nat.succ_mul, show q * size + size + r - size = q * size + r by omega]
            exact ih q r (by simpa using hq) hr
      rw [← hfa xs (j / size) (j % size) hq hmod, ← hjj]
      exact hj
    have := hcl (j % size) u hu
    have hjj : (j / size) * size + j % size = j := by rw [Nat.mul_comm]; exact Nat.div_add_mod j size
    rw [Nat.add_assoc, hjj] at this
    rw [Addr.add_lit]
    exact this
/-- The same as one step of a region that draws its order. -/
theorem step_append_slR {α : Type} (f : α → List Value) {ops : Array Oper} {o : Oper} {a : Act} {K : Act → World → Prop} {Q : Exit → Act → World → Prop} {E : Prop} (hgd : o.guard = none) (s x : Operand) (t : TypeId)
    (ho : o.op = .call { callee := .builtin .append, args := #[s, x], argTypes := #[t, t] })
    (base : Nat) (e : TypeId) (i : TypeInfo) (z : Value) (size bytes : Nat) (ht : P.underlying t = some (.slice e)) (hi : P.info? e = some i) (hz : i.zero = some z)
    (hsize : i.size = size) (hby : i.bytes = bytes) (hzs : z.cells.size = size) (hsz : 0 < size)
    (v : Value) (n : Nat) (ys : List Value) (hs : a.eval s = v) (hown : w.ownsRow base e size v n ys)
    (vs : Value) (xs : List α) (B : Nat) (hx : a.eval x = vs) (hSl : SlR (Pl f) size w B vs xs) (hf : ∀ y, (f y).length = size) (h1 : ∀ y, ∀ u ∈ f y, u.oneCell' = true)
    (h63 : n + xs.length ≤ maxLen) (hbytes : (n + xs.length) * bytes ≤ 140737488355328) (hbase : base ≤ w.heap.size)
    (h : ∀ v' w', w'.ownsRow base e size v' (n + xs.length) (ys ++ xs.flatMap f) → w.grownBy w' v.ownBlock → (v ≠ .slice none 0 0 → v' ≠ .slice none 0 0) → K (a.put o.dst v') w') :
    if Region.wanted o (yielded ops a.tmps) = true then Oper.wp P o a w K Q else E := by
  have hw : Region.wanted o (yielded ops a.tmps) = true := by simp [Region.wanted, hgd]
  rw [if_pos hw]
  exact wp_append_slR f s x t ho base e i z size bytes ht hi hz hsize hby hzs hsz v n ys hs hown vs xs B hx hSl hf h1 h63 hbytes hbase h
/-- append onto a row of the call's own, and where the new slice lies: as one step of a region that draws its order. -/
theorem step_append_own_at {ops : Array Oper} {o : Oper} {a : Act} {K : Act → World → Prop} {Q : Exit → Act → World → Prop} {E : Prop} (hgd : o.guard = none) (s x : Operand) (t : TypeId)
    (ho : o.op = .call { callee := .builtin .append, args := #[s, x], argTypes := #[t, t] })
    (base : Nat) (e : TypeId) (i : TypeInfo) (z : Value) (size bytes : Nat) (ht : P.underlying t = some (.slice e)) (hi : P.info? e = some i) (hz : i.zero = some z)
    (hsize : i.size = size) (hby : i.bytes = bytes) (hzs : z.cells.size = size) (hsz : 0 < size)
    (v : Value) (n : Nat) (xs : List Value) (hs : a.eval s = v) (hown : w.ownsRow base e size v n xs)
    (ad : Addr) (m c : Nat) (news : List Value) (hx : a.eval x = .slice (some ad) m c) (hl : news.length = m * size) (hnews : ∀ j u, news[j]? = some u → w.cell? (ad.add j) = some u) (h1 : ∀ u ∈ news, u.oneCell' = true)
    (h63 : n + m ≤ maxLen) (hbytes : (n + m) * bytes ≤ 140737488355328) (hbase : base ≤ w.heap.size)
    (h : ∀ v' w', w'.ownsRow base e size v' (n + m) (xs ++ news) → w.grownBy w' v.ownBlock → (v' = .slice none 0 0 ↔ v = .slice none 0 0 ∧ m = 0) → (v'.ownBlock = v.ownBlock ∨ v'.ownBlock = some w.heap.size) → K (a.put o.dst v') w') :
    if Region.wanted o (yielded ops a.tmps) = true then Oper.wp P o a w K Q else E := by
  have hw : Region.wanted o (yielded ops a.tmps) = true := by simp [Region.wanted, hgd]
  rw [if_pos hw]
  obtain ⟨v', w', hr, h2, h3, h4, h5⟩ := run_append_own_at (P := P) w base t o.type e i z size bytes ht hi hz hsize hby hzs hsz v n xs hown ad m c news hl hnews h1 h63 hbytes hbase
  unfold Oper.wp execOp
  simp only [ho, resolve, invoke, builtin, Sem.run_bind, Sem.run_pure, Result.andThen_ok, List.map_toArray, List.map_cons, List.map_nil, hs, hx, hr]
  exact h v' w' h2 h3 h4 h5
end
end Go.Proofs.YtbamlilnbhhcmaaDoor

namespace Go.Proofs.YtbamlilnbhhcmaaDoor
open Go.RowKit Go.Lib

theorem keepA {w w' : World} {p0 p1 p2 : Addr} {v0 v1 v2 : Value} (h : w.cell? p0 = some v0 ∧ w.cell? p1 = some v1 ∧ w.cell? p2 = some v2) (hb : Below w.heap.size w w') : w'.cell? p0 = some v0 ∧ w'.cell? p1 = some v1 ∧ w'.cell? p2 = some v2 :=
  ⟨(hb.cell (World.block_lt_of_cell? w _ h.1)).trans h.1, (hb.cell (World.block_lt_of_cell? w _ h.2.1)).trans h.2.1, (hb.cell (World.block_lt_of_cell? w _ h.2.2)).trans h.2.2⟩
theorem keepG {w w' : World} {p0 p1 p2 : Addr} {g : Nat} {v0 v1 v2 : Value} (h : w.cell? p0 = some v0 ∧ w.cell? p1 = some v1 ∧ w.cell? p2 = some v2) (hg : w.grownBy w' (some g)) (h0 : p0.block ≠ g) (h1 : p1.block ≠ g) (h2 : p2.block ≠ g) : w'.cell? p0 = some v0 ∧ w'.cell? p1 = some v1 ∧ w'.cell? p2 = some v2 :=
  ⟨hg.cell h.1 (fun e => h0 (by injection e)), hg.cell h.2.1 (fun e => h1 (by injection e)), hg.cell h.2.2 (fun e => h2 (by injection e))⟩

end Go.Proofs.YtbamlilnbhhcmaaDoor

namespace Go.Proofs.YtbamlilnbhhcmaaDoor
open Go.RowKit Go.Lib

def EndPost (S : List Art) (ls : List Acta) (k : Nat) (a : Acta) (day : Int) (w : World) (e : Ending) (w' : World) : Prop :=
  ∃ v r, e = .returned (.tuple #[v, .bool r]) ∧ (r = true ↔ EndOk S ls k a day) ∧ (r = true → Acts w' w'.heap.size v (endL ls k a day)) ∧ (∃ A n c, v = .slice A n c) ∧ Below w.heap.size w w'
end Go.Proofs.YtbamlilnbhhcmaaDoor

namespace Go.Proofs.YtbamlilnbhhcmaaDoor
open Go.RowKit Go.Lib

structure Mot where
  title : ByteArray
  author : Int
  pat : List Edit
  beg : Int
  fin : Int
  closes : Int
  votes : List Int
  result : Int
structure Asm where
  day : Int
  rule : Int
  trust : List (List Int)
  base : List Art
  acts : List Acta
  mots : List Mot

/-- A list of numbers with its value; a motion with the values of its patch and votes. -/
structure VRow where
  a : List Int
  v : Value
def rCells (x : VRow) : List Value := [x.v]
structure VMot where
  a : Mot
  p : Value
  t : Value
def mCells (x : VMot) : List Value := [.string x.a.title, .int .i64 x.a.author, x.p, .int .i64 x.a.beg, .int .i64 x.a.fin, .int .i64 x.a.closes, x.t, .int .i64 x.a.result]
def RowsR (w : World) (B : Nat) (v : Value) (ls : List (List Int)) : Prop :=
  ∃ L : List VRow, L.map (·.a) = ls ∧ SlR (Pl rCells) 1 w B v L ∧ ∀ x ∈ L, Ints w B x.v x.a
def Mots (w : World) (B : Nat) (v : Value) (ls : List Mot) : Prop :=
  ∃ L : List VMot, L.map (·.a) = ls ∧ SlR (Pl mCells) 8 w B v L ∧ ∀ x ∈ L, Edits w B x.p x.a.pat ∧ Ints w B x.t x.a.votes
theorem RowsR.on {w w' : World} {B B' : Nat} {v : Value} {ls : List (List Int)} (h : RowsR w B v ls) (hb : Below B w w') (hB : B ≤ B') : RowsR w' B' v ls := by
  obtain ⟨L, h1, h2, h3⟩ := h
  exact ⟨L, h1, SlR.on h2 (Pl.stays _) hb hB, fun x hx => SlR.on (h3 x hx) (Pl.stays _) hb hB⟩
theorem Mots.on {w w' : World} {B B' : Nat} {v : Value} {ls : List Mot} (h : Mots w B v ls) (hb : Below B w w') (hB : B ≤ B') : Mots w' B' v ls := by
  obtain ⟨L, h1, h2, h3⟩ := h
  exact ⟨L, h1, SlR.on h2 (Pl.stays _) hb hB, fun x hx => ⟨SlR.on (h3 x hx).1 (Pl.stays _) hb hB, SlR.on (h3 x hx).2 (Pl.stays _) hb hB⟩⟩
theorem Ints.sl {w : World} {B : Nat} {v : Value} {zs : List Int} (h : Ints w B v zs) : ∃ A c, v = .slice A zs.length c ∧ zs.length ≤ c ∧ c ≤ maxLen := by
  obtain ⟨A, c, h1, h2, h3, _⟩ := h
  exact ⟨A, c, h1, h2, h3⟩
theorem Edits.sl {w : World} {B : Nat} {v : Value} {zs : List Edit} (h : Edits w B v zs) : ∃ A c, v = .slice A zs.length c ∧ zs.length ≤ c ∧ c ≤ maxLen := by
  obtain ⟨A, c, h1, h2, h3, _⟩ := h
  exact ⟨A, c, h1, h2, h3⟩
/-- Cells of a list of numbers. -/
theorem rows_at {w : World} {B : Nat} {v : Value} {ls : List (List Int)} (h : RowsR w B v ls) : ∃ (A : Option Addr) (c : Nat), v = .slice A ls.length c ∧ ls.length ≤ c ∧ c ≤ maxLen ∧ (0 < ls.length → ∃ b off, A = some ⟨b, off, none⟩ ∧ b < B ∧
    ∀ (k : Nat) (a : List Int), ls[k]? = some a → ∃ A1 c1, w.cell? ⟨b, off + k, none⟩ = some (.slice A1 a.length c1) ∧ c1 ≤ maxLen ∧ Ints w B (.slice A1 a.length c1) a) := by
  obtain ⟨L, rfl, ⟨A, c, rfl, h1, h2, h3⟩, h4⟩ := h
  rw [List.length_map]
  refine ⟨A, c, rfl, h1, h2, fun h0 => ?_⟩
  obtain ⟨b, off, rfl, hb, hk⟩ := h3 h0
  refine ⟨b, off, rfl, hb, fun k a ha => ?_⟩
  rw [List.getElem?_map] at ha
  cases hx : L[k]? with
  | none => rw [hx] at ha; cases ha
  | some x =>
    rw [hx] at ha
    injection ha with ha
    subst ha
    obtain ⟨us, hl, hp, hc⟩ := hk k x hx
    have hp : us = rCells x := hp
    subst hp
    have hi := h4 x (List.mem_of_getElem? hx)
    obtain ⟨A1, c1, e1, _, hm⟩ := hi.sl
    have c0 := hc 0 _ rfl
    rw [e1] at c0 hi
    rw [Nat.mul_one, Nat.add_zero] at c0
    exact ⟨A1, c1, c0, hm, hi⟩
/-- Cells of a motion. -/
structure MotP (w : World) (B : Nat) (b o : Nat) (m : Mot) (A1 : Option Addr) (c1 : Nat) (A2 : Option Addr) (c2 : Nat) : Prop where
  k0 : w.cell? ⟨b, o, none⟩ = some (.string m.title)
  k1 : w.cell? ⟨b, o + 1, none⟩ = some (.int .i64 m.author)
  k2 : w.cell? ⟨b, o + 2, none⟩ = some (.slice A1 m.pat.length c1)
  k3 : w.cell? ⟨b, o + 3, none⟩ = some (.int .i64 m.beg)
  k4 : w.cell? ⟨b, o + 4, none⟩ = some (.int .i64 m.fin)
  k5 : w.cell? ⟨b, o + 5, none⟩ = some (.int .i64 m.closes)
  k6 : w.cell? ⟨b, o + 6, none⟩ = some (.slice A2 m.votes.length c2)
  k7 : w.cell? ⟨b, o + 7, none⟩ = some (.int .i64 m.result)
  m1 : c1 ≤ maxLen
  m2 : c2 ≤ maxLen
  edits : Edits w B (.slice A1 m.pat.length c1) m.pat
  ints : Ints w B (.slice A2 m.votes.length c2) m.votes
theorem MotP.on {w w' : World} {B B' b o : Nat} {m : Mot} {A1 : Option Addr} {c1 : Nat} {A2 : Option Addr} {c2 : Nat} (h : MotP w B b o m A1 c1 A2 c2) (hb : Below B w w') (hB : B ≤ B') (hlt : b < B) : MotP w' B' b o m A1 c1 A2 c2 where
  k0 := (hb.cell (p := ⟨b, o, none⟩) hlt).trans h.k0
  k1 := (hb.cell (p := ⟨b, o + 1, none⟩) hlt).trans h.k1
  k2 := (hb.cell (p := ⟨b, o + 2, none⟩) hlt).trans h.k2
  k3 := (hb.cell (p := ⟨b, o + 3, none⟩) hlt).trans h.k3
  k4 := (hb.cell (p := ⟨b, o + 4, none⟩) hlt).trans h.k4
  k5 := (hb.cell (p := ⟨b, o + 5, none⟩) hlt).trans h.k5
  k6 := (hb.cell (p := ⟨b, o + 6, none⟩) hlt).trans h.k6
  k7 := (hb.cell (p := ⟨b, o + 7, none⟩) hlt).trans h.k7
  m1 := h.m1
  m2 := h.m2
  edits := SlR.on h.edits (Pl.stays _) hb hB
  ints := SlR.on h.ints (Pl.stays _) hb hB

/-- The value of an assembly, and what its slices hold. -/
structure VAsm where
  t : Value
  b : Value
  c : Value
  m : Value
def asmV (a : Asm) (x : VAsm) : Value := .agg #[.int .i64 a.day, .int .i64 a.rule, x.t, x.b, x.c, x.m]
structure AsmR (w : World) (B : Nat) (x : VAsm) (a : Asm) : Prop where
  t : RowsR w B x.t a.trust
  b : Arts w B x.b a.base
  c : Acts w B x.c a.acts
  m : Mots w B x.m a.mots
theorem AsmR.on {w w' : World} {B B' : Nat} {x : VAsm} {a : Asm} (h : AsmR w B x a) (hb : Below B w w') (hB : B ≤ B') : AsmR w' B' x a :=
  ⟨h.t.on hb hB, SlR.on h.b (Pl.stays _) hb hB, h.c.on hb hB, h.m.on hb hB⟩
theorem AsmR.aft {w : World} {B : Nat} {x : VAsm} {a : Asm} (h : AsmR w B x a) (hB : B ≤ w.heap.size) : ∀ y : Aft w, AsmR y.val y.val.heap.size x a := fun y => h.on (y.ok.mono hB) (Nat.le_trans hB y.ok.size)
/-- The texts of an assembly are no longer than texts are. -/
structure AsmSz (a : Asm) : Prop where
  b : ∀ x ∈ a.base, x.text.size ≤ maxLen
  c : ActsSz a.acts
  m : ∀ x ∈ a.mots, x.title.size ≤ maxLen ∧ SizesOk x.pat

/-- What is valid. -/
def votesOk (vs : List Int) : Bool := allLt vs.length (fun k => inB (vs.getD k 0) 0 3)
def okMot (m : Mot) (day n : Int) : Bool :=
  okName m.title.toList && inB m.author 0 (n - 1) && !((m.pat.length : Int) == 0) && okPatch m.pat && spanB m.beg m.fin m.closes && ((m.votes.length : Int) == n) && votesOk m.votes && inB m.result 0 4 && ((m.result == 0) == decide (day < m.closes))
def motAt (L : List Mot) (day n : Int) (k : Nat) : Bool := ((L[k]?).map (fun m => okMot m day n && !((L.take k).any (fun o => o.title.toList == m.title.toList)))).getD true
def okMots (L : List Mot) (day n : Int) : Bool := allLt L.length (motAt L day n)
def memAt (L : List (List Int)) (n : Int) (k : Nat) : Bool := ((L[k]?).map (fun l => okTrust l (k : Int) n)).getD true
def okTrusts (L : List (List Int)) : Bool := allLt L.length (memAt L L.length)
def okHead (a : Asm) : Bool := inB a.day 0 999 && inB a.rule 0 2 && inB (a.trust.length : Int) 1 12 && decide (a.mots.length ≤ 6)
open Classical in
noncomputable def okAsm (a : Asm) : Bool := okHead a && okTrusts a.trust && okMots a.mots a.day a.trust.length && okStat a.base && okActs a.acts && decide (AllDays a.base a.acts)
end Go.Proofs.YtbamlilnbhhcmaaDoor

namespace Go.Proofs.YtbamlilnbhhcmaaDoor
open Go.RowKit Go.Lib

def ActFits (a : Acta) : Prop := a.pat.length ≤ 1048576 ∧ ∀ e ∈ a.pat, FitsE e
def MotFits (m : Mot) : Prop := m.title.size ≤ 1048576 ∧ m.pat.length ≤ 1048576 ∧ (∀ e ∈ m.pat, FitsE e) ∧ m.votes.length ≤ 1048576
structure AsmFits (a : Asm) : Prop where
  t0 : a.trust.length ≤ 1048576
  t : ∀ x ∈ a.trust, x.length ≤ 1048576
  b0 : a.base.length ≤ 1048576
  b : ∀ x ∈ a.base, x.text.size ≤ 1048576
  c0 : a.acts.length ≤ 1048576
  c : ∀ x ∈ a.acts, ActFits x
  m0 : a.mots.length ≤ 1048576
  m : ∀ x ∈ a.mots, MotFits x
end Go.Proofs.YtbamlilnbhhcmaaDoor

namespace Go.Proofs.YtbamlilnbhhcmaaDoor
open Go.RowKit Go.Lib

def kRow : Kind VRow where
  cells := rCells
  size := 1
  inn base w x := OwnL intCells x.a base w x.v
  blk x b := sBlk x.a x.v b
  len _ := rfl
  touch h ht hF := OwnL.touch h ht hF
  lt h hb := OwnL.sblk h hb
  less h hb := OwnL.less h hb
def kAct : Kind VAct where
  cells := vCells
  size := 3
  inn base w x := OwnL editCells x.a.pat base w x.v
  blk x b := sBlk x.a.pat x.v b
  len _ := rfl
  touch h ht hF := OwnL.touch h ht hF
  lt h hb := OwnL.sblk h hb
  less h hb := OwnL.less h hb
def kMot : Kind VMot where
  cells := mCells
  size := 8
  inn base w x := OwnL editCells x.a.pat base w x.p ∧ OwnL intCells x.a.votes base w x.t ∧ ∀ b, sBlk x.a.pat x.p b → ¬ sBlk x.a.votes x.t b
  blk x b := sBlk x.a.pat x.p b ∨ sBlk x.a.votes x.t b
  len _ := rfl
  touch h ht hF := ⟨OwnL.touch h.1 ht (fun b hb => hF b (.inl hb)), OwnL.touch h.2.1 ht (fun b hb => hF b (.inr hb)), h.2.2⟩
  lt h hb := by
    rcases hb with hb | hb
    · exact OwnL.sblk h.1 hb
    · exact OwnL.sblk h.2.1 hb
  less h hb := ⟨OwnL.less h.1 hb, OwnL.less h.2.1 hb, h.2.2⟩
def kArt : Kind Art where
  cells := artCells
  size := 2
  inn _ _ _ := True
  blk _ _ := False
  len _ := rfl
  touch _ _ _ := trivial
  lt _ hb := hb.elim
  less _ _ := trivial
theorem artTree {base : Nat} {w : World} {v : Value} {L : List Art} (h : OwnL artCells L base w v) : TreeO kArt base w v L :=
  ⟨h, fun _ _ => trivial, fun _ _ _ h => h.elim, List.pairwise_of_forall (fun _ _ _ h => h.elim)⟩
theorem TreeO.rows {base : Nat} {w : World} {v : Value} {L : List VRow} (h : TreeO kRow base w v L) : RowsR w w.heap.size v (L.map (·.a)) := ⟨L, rfl, h.slR, fun x hx => (show OwnL _ _ _ _ _ from h.inn x hx).slR (size := 1) (fun _ => rfl)⟩
theorem TreeO.acts {base : Nat} {w : World} {v : Value} {L : List VAct} (h : TreeO kAct base w v L) : Acts w w.heap.size v (L.map (·.a)) := ⟨L, rfl, h.slR, fun x hx => (show OwnL _ _ _ _ _ from h.inn x hx).slR (size := 4) (fun _ => rfl)⟩
theorem TreeO.mots {base : Nat} {w : World} {v : Value} {L : List VMot} (h : TreeO kMot base w v L) : Mots w w.heap.size v (L.map (·.a)) :=
  ⟨L, rfl, h.slR, fun x hx => ⟨(show OwnL editCells _ base w _ from (h.inn x hx).1).slR (size := 4) (fun _ => rfl), (show OwnL intCells _ base w _ from (h.inn x hx).2.1).slR (size := 1) (fun _ => rfl)⟩⟩
def RetAct (a : Acta) (w : World) (e : Ending) (w' : World) : Prop := ∃ x : VAct, x.a = a ∧ e = .returned (.agg #[.int .i64 a.beg, .int .i64 a.fin, x.v]) ∧ kAct.inn w.heap.size w' x ∧ Below w.heap.size w w'
def RetMot (m : Mot) (w : World) (e : Ending) (w' : World) : Prop := ∃ x : VMot, x.a = m ∧ e = .returned (.agg #[.string m.title, .int .i64 m.author, x.p, .int .i64 m.beg, .int .i64 m.fin, .int .i64 m.closes, x.t, .int .i64 m.result]) ∧ kMot.inn w.heap.size w' x ∧ Below w.heap.size w w'
/-- A copied slice: a tree of the call's own. -/
def RetT {β α : Type} (K : Kind β) (p : β → α) (ls : List α) (w : World) (e : Ending) (w' : World) : Prop := ∃ A L, e = .returned (.slice A ls.length ls.length) ∧ L.map p = ls ∧ TreeO K w.heap.size w' (.slice A ls.length ls.length) L ∧ Below w.heap.size w w'

end Go.Proofs.YtbamlilnbhhcmaaDoor

namespace Go.Proofs.YtbamlilnbhhcmaaDoor
open Go.RowKit Go.Lib

end Go.Proofs.YtbamlilnbhhcmaaDoor

namespace Go.Proofs.YtbamlilnbhhcmaaDoor
open Go.RowKit Go.Lib

def Apart (p q : Nat → Prop) : Prop := ∀ b, p b → ¬ q b
/-- An assembly of the call's own: four trees that share no block. -/
structure AsmO (base : Nat) (w : World) (x : VAsm) (a : Asm) (T : List VRow) (C : List VAct) (M : List VMot) : Prop where
  tm : T.map VRow.a = a.trust
  cm : C.map VAct.a = a.acts
  mm : M.map VMot.a = a.mots
  t : TreeO kRow base w x.t T
  b : TreeO kArt base w x.b a.base
  c : TreeO kAct base w x.c C
  m : TreeO kMot base w x.m M
  tb : Apart (Foot kRow x.t T) (Foot kArt x.b a.base)
  tc : Apart (Foot kRow x.t T) (Foot kAct x.c C)
  tmo : Apart (Foot kRow x.t T) (Foot kMot x.m M)
  bc : Apart (Foot kArt x.b a.base) (Foot kAct x.c C)
  bm : Apart (Foot kArt x.b a.base) (Foot kMot x.m M)
  cmo : Apart (Foot kAct x.c C) (Foot kMot x.m M)
def asmFoot (x : VAsm) (a : Asm) (T : List VRow) (C : List VAct) (M : List VMot) (b : Nat) : Prop := Foot kRow x.t T b ∨ Foot kArt x.b a.base b ∨ Foot kAct x.c C b ∨ Foot kMot x.m M b
theorem AsmO.touch {base : Nat} {w w' : World} {x : VAsm} {a : Asm} {T : List VRow} {C : List VAct} {M : List VMot} {F : Nat → Prop} (h : AsmO base w x a T C M) (ht : Touch F w w') (hF : ∀ b, asmFoot x a T C M b → ¬ F b) : AsmO base w' x a T C M :=
  ⟨h.tm, h.cm, h.mm, h.t.touch ht (fun b hb => hF b (.inl hb)), h.b.touch ht (fun b hb => hF b (.inr (.inl hb))), h.c.touch ht (fun b hb => hF b (.inr (.inr (.inl hb)))), h.m.touch ht (fun b hb => hF b (.inr (.inr (.inr hb)))), h.tb, h.tc, h.tmo, h.bc, h.bm, h.cmo⟩
theorem AsmO.below {base : Nat} {w w' : World} {x : VAsm} {a : Asm} {T : List VRow} {C : List VAct} {M : List VMot} (h : AsmO base w x a T C M) (hb : Below w.heap.size w w') : AsmO base w' x a T C M :=
  h.touch (F := fun _ => False) (Touch.of_below hb) (fun _ _ h => h)
theorem AsmO.lt {base : Nat} {w : World} {x : VAsm} {a : Asm} {T : List VRow} {C : List VAct} {M : List VMot} (h : AsmO base w x a T C M) {b : Nat} (hb : asmFoot x a T C M b) : base ≤ b ∧ b < w.heap.size := by
  rcases hb with hb | hb | hb | hb
  · exact h.t.lt hb
  · exact h.b.lt hb
  · exact h.c.lt hb
  · exact h.m.lt hb
def RetAsm (a : Asm) (w : World) (e : Ending) (w' : World) : Prop := ∃ x T C M, e = .returned (asmV a x) ∧ AsmO w.heap.size w' x a T C M ∧ Below w.heap.size w w'
end Go.Proofs.YtbamlilnbhhcmaaDoor

namespace Go.Proofs.YtbamlilnbhhcmaaDoor
open Go.Joins Go.ChangeShapes Go.WideShapes Go.RowKit Go.Deep

section
variable {H : Type} {enc : TypeId × Value → H} {P : Program} {w : World} {base : Nat} {spare : Nat → Bool} {held : Bool}
end

section
variable {H : Type} {enc : TypeId × Value → H} {P : Program} {w : World} {base fuel : Nat} {held : Bool} {x : DataW H × List MemPlace}
end
end Go.Proofs.YtbamlilnbhhcmaaDoor

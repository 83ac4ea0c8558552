/- The readers of deeds, as plain functions: what each makes of a deed's text is that deed. No program here. -/
import Derived.Test.YthlfpiflegfoiaaGreatDoorRE
namespace Go.Proofs.YthlfpiflegfoiaaGreatDoor
open Go.RowKit Go.Lib

def zeroDeed : Deed := ⟨0, 0, [], ⟨#[]⟩, 0, [], 0, 0, 0⟩
noncomputable def deedOf (t : List UInt8) : Option Deed := inv okDeed deedText t

theorem nil_bytes {b : ByteArray} (h : b.toList = []) : b = ⟨#[]⟩ := by rw [← mk_toList b, h]
theorem okDeed_full {d : Deed} (h : okDeed d = true) :
    (d.kind = 1 ∧ 0 ≤ d.member ∧ d.member ≤ 11 ∧ (∀ z ∈ d.trust, 0 ≤ z ∧ z ≤ 11) ∧ d.trust.length ≤ 4 ∧ d.title = ⟨#[]⟩ ∧ d.vote = 0 ∧ d.patch = [] ∧ d.start = 0 ∧ d.until_ = 0 ∧ d.closes = 0) ∨
    (d.kind = 2 ∧ 0 ≤ d.member ∧ d.member ≤ 11 ∧ okName d.title.toList = true ∧ 0 ≤ d.vote ∧ d.vote ≤ 3 ∧ d.trust = [] ∧ d.patch = [] ∧ d.start = 0 ∧ d.until_ = 0 ∧ d.closes = 0) ∨
    (d.kind = 3 ∧ 0 ≤ d.member ∧ d.member ≤ 11 ∧ okName d.title.toList = true ∧ okPatch d.patch = true ∧ 1 ≤ d.closes ∧ d.closes ≤ 999 ∧ d.closes ≤ d.start ∧ d.start < d.until_ ∧ d.until_ ≤ 1000 ∧ d.trust = [] ∧ d.vote = 0) ∨
    (d.kind = 4 ∧ d.member = 0 ∧ d.trust = [] ∧ d.title = ⟨#[]⟩ ∧ d.vote = 0 ∧ d.patch = [] ∧ d.start = 0 ∧ d.until_ = 0 ∧ d.closes = 0) := by
  unfold okDeed at h
  simp only [Bool.or_eq_true, Bool.and_eq_true, decide_eq_true_eq, List.isEmpty_iff, inB_iff] at h
  rcases h with ((⟨⟨⟨⟨⟨h1, h2⟩, h3⟩, h4⟩, h5⟩, h6⟩ | ⟨⟨⟨⟨⟨h1, h2⟩, h3⟩, h4⟩, h5⟩, h6⟩) | ⟨⟨⟨⟨⟨h1, h2⟩, h3⟩, h4⟩, h5⟩, h6⟩) | ⟨⟨⟨⟨⟨h1, h2⟩, h3⟩, h4⟩, h5⟩, h6⟩
  · refine .inl ⟨h1, h2.1, h2.2, ?_, ?_, nil_bytes h4, h5, h6.1.1.1, h6.1.1.2, h6.1.2, h6.2⟩
    · intro z hz
      rw [okTrust_eq, Bool.and_eq_true, allLt_true] at h3
      obtain ⟨k, hk, rfl⟩ := List.mem_iff_getElem.1 hz
      have := h3.1 k hk
      rw [trustAt_eq (List.getElem?_eq_getElem hk)] at this
      simp only [Bool.and_eq_true, inB_iff] at this
      omega
    · rw [okTrust_eq, Bool.and_eq_true, decide_eq_true_eq] at h3
      exact h3.2
  · exact .inr (.inl ⟨h1, h2.1, h2.2, h3, h4.1, h4.2, h5, h6.1.1.1, h6.1.1.2, h6.1.2, h6.2⟩)
  · unfold okSpan at h4
    simp only [Bool.and_eq_true, decide_eq_true_eq, inB_iff] at h4
    obtain ⟨⟨⟨⟨⟨_, p1⟩, p2⟩, p3⟩, p4⟩, p5⟩ := h4
    exact .inr (.inr (.inl ⟨h1, h2.1, h2.2, h3, p1, p2.1, p2.2, p3, p4, p5, h5, h6⟩))
  · exact .inr (.inr (.inr ⟨h1, h2, h3, h4 |> nil_bytes, h5, h6.1.1.1, h6.1.1.2, h6.1.2, h6.2⟩))

theorem nums_cons3 (a b c : Int) : nums [a, b, c] [32] = itoa a ++ 32 :: (itoa b ++ 32 :: itoa c) := by
  simp [nums, Lib.join, List.intercalate]
theorem nums_not {zs : List Int} {c : UInt8} (h : c.toNat < 44 ∨ 57 < c.toNat) : c ∉ nums zs [44] := by
  have h44 : (44 : UInt8).toNat = 44 := rfl
  cases zs with
  | nil => simp [nums, Lib.join, List.intercalate]
  | cons z zs =>
    unfold nums
    rw [List.map_cons, Lib.join_cons]
    intro hm
    rcases List.mem_append.1 hm with hm | hm
    · exact itoa_not z (by omega) hm
    · simp only [Lib.joinTail, List.mem_flatten, List.mem_map] at hm
      obtain ⟨l, ⟨x, ⟨y, _, rfl⟩, rfl⟩, hl⟩ := hm
      rcases List.mem_append.1 hl with hl | hl
      · have := List.mem_singleton.1 hl
        subst this
        omega
      · exact itoa_not y (by omega) hl
theorem nums_split {zs : List Int} (h : zs ≠ []) : splitC 44 (nums zs [44]) = zs.map itoa := by
  cases zs with
  | nil => exact absurd rfl h
  | cons z zs =>
    unfold nums
    rw [List.map_cons]
    exact splitC_join _ _ (fun y hy => by
      rw [← List.map_cons] at hy
      obtain ⟨n, _, rfl⟩ := List.mem_map.1 hy
      exact itoa_not n (.inl (by decide)))
theorem nums_ne {zs : List Int} (h : zs ≠ []) : nums zs [44] ≠ [] := by
  cases zs with
  | nil => exact absurd rfl h
  | cons z zs =>
    unfold nums
    rw [List.map_cons, Lib.join_cons]
    intro e
    exact itoa_ne z (List.append_eq_nil_iff.1 e).1
theorem unsemis_semis {q : List Edit} (h : okPatch q = true) : unsemis (semis (patchText q)) = patchText q := by
  unfold unsemis semis
  rw [List.map_map]
  conv => rhs; rw [← List.map_id (patchText q)]
  apply List.map_congr_left
  intro c hc
  have h59 : c ≠ 59 := by
    rintro rfl
    unfold patchText at hc
    obtain ⟨e, he, hce⟩ := List.mem_flatMap.1 hc
    obtain ⟨k, hk⟩ := List.getElem?_of_mem he
    rw [editText_line] at hce
    rcases List.mem_append.1 hce with hce | hce
    · exact line_not (okPatch_at h hk) (.inr (by decide)) hce
    · revert hce; decide
  show (if (if c = 10 then 59 else c) = 59 then (10 : UInt8) else (if c = 10 then 59 else c)) = c
  by_cases h10 : c = 10
  · subst h10; rfl
  · rw [if_neg h10, if_neg h59]
theorem patchOf_text {q : List Edit} (h : okPatch q = true) : patchOf (patchText q) = some q := by
  have hu := lines_uniq (t := patchText q) false (lo := 1) (hi := 99) (by omega) (by omega) (by omega) (by omega) (patch_lines h)
  have hq := hu q h rfl
  rw [hq] at hu
  exact inv_of hu h rfl
theorem numOf_nil (lo hi : Int) : numOf lo hi [] = none := inv_never (fun q _ e => itoa_ne q e)
theorem title_not {b : ByteArray} (h : okName b.toList = true) : (32 : UInt8) ∉ b.toList := name_not h (by decide)

/-- What the reference takes a text for, before it tests it. -/
def voteIx (v : List UInt8) : Int := if v = wordV 0 then 0 else if v = wordV 1 then 1 else if v = wordV 2 then 2 else if v = wordV 3 then 3 else 0
noncomputable def num1 (l : List UInt8) : Int := (numOf (-999999999) 999999999 l).getD 0
noncomputable def cand1 (s : List UInt8) : Deed :=
  let p := cutL 32 s
  let a := cutL 32 p.2
  let b := cutL 32 a.2
  let c := cutL 32 b.2
  let e := cutL 32 c.2
  let f := cutL 32 e.2
  if p.1 = [116, 114, 117, 115, 116] then ⟨1, num1 a.1, (numL (-999999999) 999999999 (splitC 44 a.2)).getD [], ⟨#[]⟩, 0, [], 0, 0, 0⟩
  else if p.1 = [118, 111, 116, 101] then ⟨2, num1 a.1, [], ⟨b.1.toArray⟩, voteIx b.2, [], 0, 0, 0⟩
  else if p.1 = [112, 114, 111, 112, 111, 115, 101] then ⟨3, num1 a.1, [], ⟨b.1.toArray⟩, 0, (patchOf (unsemis f.2)).getD [], num1 e.1, num1 f.1, num1 c.1⟩
  else if p.1 = [110, 101, 120, 116] then ⟨4, 0, [], ⟨#[]⟩, 0, [], 0, 0, 0⟩
  else zeroDeed
theorem num1_of {z : Int} (h1 : 0 ≤ z) (h2 : z ≤ 1000) : num1 (itoa z) = z := by
  unfold num1
  rw [numOf_of (by omega) (by omega) (by omega) (by omega) rfl]
  rfl
theorem voteIx_word {z : Int} (h1 : 0 ≤ z) (h2 : z ≤ 3) : voteIx (wordV z) = z := by
  have : z = 0 ∨ z = 1 ∨ z = 2 ∨ z = 3 := by omega
  rcases this with rfl | rfl | rfl | rfl <;> decide
theorem word_not (z : Int) : (32 : UInt8) ∉ wordV z := by
  unfold wordV
  split
  · decide
  · split
    · decide
    · split <;> decide
theorem cand1_of {d : Deed} {s : List UInt8} (h : okDeed d = true) (e : deedText d = s) : cand1 s = d := by
  subst e
  have sp : ∀ z : Int, (32 : UInt8) ∉ itoa z := fun z => itoa_not z (.inl (by decide))
  obtain ⟨kind, member, trust, title, vote, patch, start, until_, closes⟩ := d
  rcases okDeed_full h with ⟨k, m1, m2, ht, hl, e1, e2, e3, e4, e5, e6⟩ | ⟨k, m1, m2, hn, v1, v2, e1, e2, e3, e4, e5⟩ | ⟨k, m1, m2, hn, hp, c1, c2, c3, c4, c5, e1, e2⟩ | ⟨k, e0, e1, e2, e3, e4, e5, e6, e7⟩
  · simp only at k m1 m2 ht hl e1 e2 e3 e4 e5 e6
    subst k e1 e2 e3 e4 e5 e6
    by_cases hz : trust = []
    · subst hz
      have et : deedText ⟨1, member, [], ⟨#[]⟩, 0, [], 0, 0, 0⟩ = [116, 114, 117, 115, 116] ++ 32 :: itoa member := by simp [deedText]
      rw [et]
      unfold cand1
      rw [cutL_at _ (by decide)]
      simp only [cutL_none (sp member), if_true, num1_of m1 (by omega : member ≤ 1000), splitC, numL, numOf_nil]
      rfl
    · have et : deedText ⟨1, member, trust, ⟨#[]⟩, 0, [], 0, 0, 0⟩ = [116, 114, 117, 115, 116] ++ 32 :: (itoa member ++ 32 :: nums trust [44]) := by simp [deedText, hz]
      rw [et]
      unfold cand1
      rw [cutL_at _ (by decide)]
      simp only [cutL_at _ (sp member), if_true, num1_of m1 (by omega : member ≤ 1000), nums_split hz, numL_map (lo := -999999999) (hi := 999999999) (by omega) (by omega) trust (fun z hz => by have := ht z hz; omega)]
      rfl
  · simp only at k m1 m2 hn v1 v2 e1 e2 e3 e4 e5
    subst k e1 e2 e3 e4 e5
    have et : deedText ⟨2, member, [], title, vote, [], 0, 0, 0⟩ = [118, 111, 116, 101] ++ 32 :: (itoa member ++ 32 :: (title.toList ++ 32 :: wordV vote)) := by simp [deedText]
    rw [et]
    unfold cand1
    rw [cutL_at _ (by decide)]
    simp only [cutL_at _ (sp member), cutL_at _ (title_not hn), num1_of m1 (by omega : member ≤ 1000), voteIx_word v1 v2, mk_toList]
    rfl
  · simp only at k m1 m2 hn hp c1 c2 c3 c4 c5 e1 e2
    subst k e1 e2
    have et : deedText ⟨3, member, [], title, 0, patch, start, until_, closes⟩ = [112, 114, 111, 112, 111, 115, 101] ++ 32 :: (itoa member ++ 32 :: (title.toList ++ 32 :: (itoa closes ++ 32 :: (itoa start ++ 32 :: (itoa until_ ++ 32 :: semis (patchText patch)))))) := by
      simp [deedText, nums_cons3]
    rw [et]
    unfold cand1
    rw [cutL_at _ (by decide)]
    simp only [cutL_at _ (sp member), cutL_at _ (title_not hn), cutL_at _ (sp closes), cutL_at _ (sp start), cutL_at _ (sp until_), num1_of m1 (by omega : member ≤ 1000), num1_of (by omega : 0 ≤ closes) (by omega : closes ≤ 1000), num1_of (by omega : 0 ≤ start) (by omega : start ≤ 1000), num1_of (by omega : 0 ≤ until_) (by omega : until_ ≤ 1000), unsemis_semis hp, patchOf_text hp, mk_toList]
    rfl
  · simp only at k e0 e1 e2 e3 e4 e5 e6 e7
    subst k e0 e1 e2 e3 e4 e5 e6 e7
    rfl

/-- What the program takes a text for, before it tests it. -/
def ixOf (v : List UInt8) : Int := if v = wordV 0 then 0 else if v = wordV 1 then 1 else if v = wordV 2 then 2 else if v = wordV 3 then 3 else -1
noncomputable def num2 (hi : Int) (l : List UInt8) : Int := (numOf 0 hi l).getD 0
noncomputable def memb2 (ws : List (List UInt8)) : Int := if 1 < ws.length then num2 12 (ws.getD 1 []) else 0
noncomputable def cand2 (ws : List (List UInt8)) : Deed :=
  if ws.getD 0 [] = [110, 101, 120, 116] then ⟨4, memb2 ws, [], ⟨#[]⟩, 0, [], 0, 0, 0⟩
  else if ws.getD 0 [] = [116, 114, 117, 115, 116] ∧ ws.length ≤ 3 then ⟨1, memb2 ws, if ws.length = 3 then decs 0 12 (ws.getD 2 []) else [], ⟨#[]⟩, 0, [], 0, 0, 0⟩
  else if ws.getD 0 [] = [118, 111, 116, 101] ∧ ws.length = 4 then ⟨2, memb2 ws, [], ⟨(ws.getD 2 []).toArray⟩, ixOf (ws.getD 3 []), [], 0, 0, 0⟩
  else if ws.getD 0 [] = [112, 114, 111, 112, 111, 115, 101] ∧ ws.length = 7 then ⟨3, memb2 ws, [], ⟨(ws.getD 2 []).toArray⟩, 0, (patchOf (unsemis (ws.getD 6 []))).getD [], num2 1000 (ws.getD 4 []), num2 1000 (ws.getD 5 []), num2 1000 (ws.getD 3 [])⟩
  else ⟨0, memb2 ws, [], ⟨#[]⟩, 0, [], 0, 0, 0⟩
theorem num2_of {z hi : Int} (h1 : 0 ≤ z) (h2 : z ≤ hi) (hh : hi ≤ 1000) : num2 hi (itoa z) = z := by
  unfold num2
  rw [numOf_of (by omega) (by omega) (by omega) (by omega) rfl]
  rfl
theorem ixOf_word {z : Int} (h1 : 0 ≤ z) (h2 : z ≤ 3) : ixOf (wordV z) = z := by
  have : z = 0 ∨ z = 1 ∨ z = 2 ∨ z = 3 := by omega
  rcases this with rfl | rfl | rfl | rfl <;> decide
theorem decs_of {zs : List Int} (h : ∀ z ∈ zs, 0 ≤ z ∧ z ≤ 11) (hl : zs.length ≤ 4) (hz : zs ≠ []) : decs 0 12 (nums zs [44]) = zs := by
  unfold decs
  rw [if_neg (nums_ne hz), nums_split hz, if_pos (by rw [List.length_map]; omega), numL_map (by omega) (by omega) zs (fun z hz => by have := h z hz; omega)]
  rfl
theorem cand2_of {d : Deed} {s : List UInt8} (h : okDeed d = true) (e : deedText d = s) : cand2 (splitNC 32 6 s) = d := by
  subst e
  have sp : ∀ z : Int, (32 : UInt8) ∉ itoa z := fun z => itoa_not z (.inl (by decide))
  obtain ⟨kind, member, trust, title, vote, patch, start, until_, closes⟩ := d
  rcases okDeed_full h with ⟨k, m1, m2, ht, hl, e1, e2, e3, e4, e5, e6⟩ | ⟨k, m1, m2, hn, v1, v2, e1, e2, e3, e4, e5⟩ | ⟨k, m1, m2, hn, hp, c1, c2, c3, c4, c5, e1, e2⟩ | ⟨k, e0, e1, e2, e3, e4, e5, e6, e7⟩
  · simp only at k m1 m2 ht hl e1 e2 e3 e4 e5 e6
    subst k e1 e2 e3 e4 e5 e6
    by_cases hz : trust = []
    · subst hz
      have et : deedText ⟨1, member, [], ⟨#[]⟩, 0, [], 0, 0, 0⟩ = [116, 114, 117, 115, 116] ++ 32 :: itoa member := by simp [deedText]
      rw [et, splitNC_at 5 _ (by decide), splitNC_none _ (sp member)]
      simp [cand2, memb2, num2_of m1 (by omega : member ≤ 12)]
    · have et : deedText ⟨1, member, trust, ⟨#[]⟩, 0, [], 0, 0, 0⟩ = [116, 114, 117, 115, 116] ++ 32 :: (itoa member ++ 32 :: nums trust [44]) := by simp [deedText, hz]
      rw [et, splitNC_at 5 _ (by decide), splitNC_at 4 _ (sp member), splitNC_none _ (nums_not (.inl (by decide)))]
      simp [cand2, memb2, num2_of m1 (by omega : member ≤ 12), decs_of ht hl hz]
  · simp only at k m1 m2 hn v1 v2 e1 e2 e3 e4 e5
    subst k e1 e2 e3 e4 e5
    have et : deedText ⟨2, member, [], title, vote, [], 0, 0, 0⟩ = [118, 111, 116, 101] ++ 32 :: (itoa member ++ 32 :: (title.toList ++ 32 :: wordV vote)) := by simp [deedText]
    rw [et, splitNC_at 5 _ (by decide), splitNC_at 4 _ (sp member), splitNC_at 3 _ (title_not hn), splitNC_none _ (word_not vote)]
    simp [cand2, memb2, num2_of m1 (by omega : member ≤ 12), ixOf_word v1 v2, mk_toList]
  · simp only at k m1 m2 hn hp c1 c2 c3 c4 c5 e1 e2
    subst k e1 e2
    have et : deedText ⟨3, member, [], title, 0, patch, start, until_, closes⟩ = [112, 114, 111, 112, 111, 115, 101] ++ 32 :: (itoa member ++ 32 :: (title.toList ++ 32 :: (itoa closes ++ 32 :: (itoa start ++ 32 :: (itoa until_ ++ 32 :: semis (patchText patch)))))) := by
      simp [deedText, nums_cons3]
    rw [et, splitNC_at 5 _ (by decide), splitNC_at 4 _ (sp member), splitNC_at 3 _ (title_not hn), splitNC_at 2 _ (sp closes), splitNC_at 1 _ (sp start), splitNC_at 0 _ (sp until_), splitNC]
    simp [cand2, memb2, num2_of m1 (by omega : member ≤ 12), num2_of (by omega : 0 ≤ closes) (by omega : closes ≤ 1000), num2_of (by omega : 0 ≤ start) (by omega : start ≤ 1000), num2_of (by omega : 0 ≤ until_) (by omega : until_ ≤ 1000), unsemis_semis hp, patchOf_text hp, mk_toList]
  · simp only at k e0 e1 e2 e3 e4 e5 e6 e7
    subst k e0 e1 e2 e3 e4 e5 e6 e7
    have et : deedText ⟨4, 0, [], ⟨#[]⟩, 0, [], 0, 0, 0⟩ = [110, 101, 120, 116] := by simp [deedText]
    rw [et, splitNC_none _ (by decide)]
    simp [cand2, memb2]
end Go.Proofs.YthlfpiflegfoiaaGreatDoor

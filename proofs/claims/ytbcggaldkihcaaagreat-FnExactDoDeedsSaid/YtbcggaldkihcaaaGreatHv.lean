/- Check numbers and journals, as plain functions; deeds in memory. -/
import Derived.Test.YtbcggaldkihcaaaGreatZr
namespace Go.Proofs.YtbcggaldkihcaaaGreat
open Tryz
open Go.RowKit Go.Lib
def anR:Nat->List UInt8->Nat
 |_,[]=>0
 |i,c::r=>(i+1)*c.toNat+anR (i+1) r
def chk (b:Nat) (t:List UInt8):Nat:=(31*b+anR 0 t)% 9973
def jrn:Nat->List dr->List UInt8
 |_,[]=>[]
 |b,d::r=>itoa (chk b (H6 d):Nat)++32::(H6 d++10::jrn (chk b (H6 d)) r)
def anS:Nat->List dr->Nat
 |b,[]=>b
 |b,d::r=>anS (chk b (H6 d)) r
def amH (ds:List dr):Bool:=decide (ds.length<=40)&&ds.all cA
theorem amQ {ds:List dr}:amH ds=true↔ds.length<=40/\ ∀d∈ds,cA d=true:=by
 unfold amH;rw[aay,aaU,List.all_eq_true]
def amG (d:dr) (A1:Option Addr) (c1:Nat) (A2:Option Addr) (c2:Nat):List Value:=
 [.int .i64 d.kind,.int .i64 d.member,.slice A1 d.af.length c1,.string d.al,.int .i64 d.bO,.slice A2 d.patch.length c2,.int .i64 d.start,.int .i64 d.aB,.int .i64 d.aj]
def amA:World->Nat->List Value->dr->Prop:=λw B us d=>
 ∃A1 c1 A2 c2,us=amG d A1 c1 A2 c2/\Ints w B (.slice A1 d.af.length c1) d.af/\bg w B (.slice A2 d.patch.length c2) d.patch/\bS d.patch/\d.al.size<=maxLen
theorem amA.stays:Hx amA:=λ_ _ _ _ _ _ ⟨A1,c1,A2,c2,h,hi,he,hs,ht⟩ hb hB=>⟨A1,c1,A2,c2,h,hi.on (Pl.stays _) hb hB,he.on (Pl.stays _) hb hB,hs,ht⟩
def ve (w:World) (B:Nat) (v:Value) (ds:List dr):Prop:=cz amA 9 w B v ds
theorem amE {w:World} {n c k:Nat} {A:Option Addr} {ds:List dr} {d:dr} (h:ve w w.heap.size (.slice A n c) ds) (hk:ds[k]?=some d):
 ∃b off A1 c1 A2 c2,A=some ⟨b,off,none⟩/\b<w.heap.size/\fp w b (off+k*9) d A1 c1 A2 c2:=by
 obtain ⟨A',c',hv,h1,h2,h3⟩:=h;injection hv with e1 e2 e3
 subst e1;have aI:k<ds.length:=(aal.1 hk).1;obtain ⟨b,off,hA,hb,hc⟩:=h3 (by omega);obtain ⟨us,hl,⟨A1,c1,A2,c2,U1,hi,he,hs,ht⟩,aC⟩:=hc k d hk;subst U1;exact ⟨b,off,A1,c1,A2,c2,hA,hb,aC 0 _ rfl,aC 1 _ rfl,aC 2 _ rfl,aC 3 _ rfl,aC 4 _ rfl,aC 5 _ rfl,aC 6 _ rfl,aC 7 _ rfl,aC 8 _ rfl,hi,he,hs,ht⟩
end Go.Proofs.YtbcggaldkihcaaaGreat

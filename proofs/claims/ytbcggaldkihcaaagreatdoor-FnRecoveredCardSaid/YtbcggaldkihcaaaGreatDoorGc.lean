/- An assembly at its beginning, plain: trust as it is drawn. -/
import Derived.Test.YtbcggaldkihcaaaGreatDoorZd
import Derived.Test.YtbcggaldkihcaaaGreatDoorZa
namespace Go.Proofs.YtbcggaldkihcaaaGreatDoor
open Tryz
open Go.RowKit Go.Lib
theorem lP (i n:Int):cF [] i n=true:=by rw[fo];rfl
theorem lO {t:List Int} {i n x:Int} (h:cF t i n=true) (h4:t.length<4) (h0:0<=x) (hn:x<n) (hi:x≠i) (hc:t.contains x=false):cF (t++[x]) i n=true:=by
 rw[fo,Bool.and_eq_true,eo,decide_eq_true_eq]at h⊢;rw[List.length_append,List.length_singleton];refine ⟨λk hk=>?_,by omega⟩;by_cases aI:k<t.length
 ·have hz:t[k]?=some t[k]:=List.getElem?_eq_getElem aI;have:=h.1 k aI;rw[nb hz]at this;rw[nb (z:=t[k]) (by rw[List.getElem?_append_left aI];exact hz),List.take_append_of_le_length (by omega)];exact this
 have:k=t.length:=by omega
 subst this;rw[nb (z:=x) (by rw[List.getElem?_append_right (Nat.le_refl _),Nat.sub_self];rfl),List.take_append_of_le_length (Nat.le_refl _),List.take_length,hc];have e1:dO x 0 (n-1)=true:=by rw[dS];omega
 rw[e1,decide_eq_true hi];rfl
theorem kR (S:List bE) (d:Int):nU S [] d=some S:=rfl
theorem mj {d rule:Int} {tr:List (List Int)} {base:List bE} (ZO:0<=d) (Ho:d<=999) (hr:dO rule 0 2=true) (h1:1<=tr.length) (ol:tr.length<=12) (ht: ∀(k:Nat) (l:List Int),tr[k]?=some l->cF l k tr.length=true) (hs:cd base=true):
 dJ ⟨d,rule,tr,base,[],[]⟩ where
 ok:=⟨h1,ol,by show (0:Nat)<=6;omega,dS.1 hr,ht,λk m hk=>by simp at hk⟩
 d0:=ZO
 d1:=Ho
 two i j p q _ hp _:=by simp at hp
 stat:=hs
 av:=(by decide:bJ []=true)
 all d _ _:=by rw[kR];simp
theorem mT {base:Nat} {w:World} {d rule:Int} {vt vb:Value} {T:List bR} {S:List bE} (hT:aR dX base w vt T) (hb:aR iw base w vb S) (ha:ji (bN dX vt T) (bN iw vb S)):
 dM base w ⟨vt,vb,.slice none 0 0,.slice none 0 0⟩ ⟨d,rule,T.map bR.a,S,[],[]⟩ T [] []:=by
 have n3: ∀b,¬bN cw (.slice none 0 0) [] b:=λb hb=>by
  rcases hb with hb|⟨q,hq,_⟩
  ·exact hb.1 rfl
  cases hq
 have n4: ∀b,¬bN cX (.slice none 0 0) [] b:=λb hb=>by
  rcases hb with hb|⟨q,hq,_⟩
  ·exact hb.1 rfl
  cases hq
 exact ⟨⟨rfl,rfl,rfl,hT,hb,aR.nil _ _ _ _ _ (Nat.zero_le _),aR.nil _ _ _ _ _ (Nat.zero_le _),ha,λb _ h=>n3 b h,λb _ h=>n4 b h,λb _ h=>n3 b h,λb _ h=>n4 b h,λb h=>(n3 b h).elim⟩,World.ownsRow_nil _ _ _ _,λ_=>rfl⟩
end Go.Proofs.YtbcggaldkihcaaaGreatDoor

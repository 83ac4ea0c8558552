/- The sets of those that count for the votes, and the leaders, plain: what FnCounted says .. -/
import Derived.Test.YtbcggaldkihcaaaGreatYL
import Derived.Test.YtbcggaldkihcaaaGreatYH
import Derived.Test.YtbcggaldkihcaaaGreatZa
namespace Go.Proofs.YtbcggaldkihcaaaGreat
open Tryz
open Go.RowKit Go.Lib
theorem ZI {g:Gr} (hg:g.Ok) (hn:g.n<=12) {rule:Int} {m:Nat} (hm:m<g.n): ∀(q:Nat) {p:List Nat} {a:Nat},eK g rule m p a->600-p.length<=q-> ∃p a,Made g rule m p a/\g.sp a=true
 |0,p,a,h,hq=>by have:=h.len hg hn hm;omega
 |q+1,p,a,h,hq=>by
  cases hs:g.sp a with
  |true=>exact ⟨p,a,h.made,hs⟩
  |false=>
   obtain ⟨t,ht⟩:=h.next hg hs;have:=h.len hg hn hm;exact ZI hg hn hm q (h.more hg hs ht) (by rw[aak,List.length_singleton];omega)
theorem aac {g:Gr} (hg:g.Ok) (hn:g.n<=12) (rule:Int) {m:Nat} (hm:m<g.n): ∃e,lL g rule m e:=by
 by_cases hr:Reach g [] m
 ·obtain ⟨p,a,h1,h2⟩:=ZI hg hn (rule:=rule) hm 600 (eK.init hg hn hm hr) (by omega);exact ⟨a,.inl ⟨hr,p,a,h1,h2,rfl⟩⟩
 exact ⟨-1,.inr ⟨hr,rfl⟩⟩
theorem ahJ {V:List lW} (h:gF V) (rule:Int):Ends (bA V) rule (jl V rule):=by
 have hg:=h.gr;have hn:(bA V).n<=12:=h.n12
 have key: ∀n,n<=(bA V).n-> ∃L:List Int,L.length=n/\ ∀(i:Nat) (e:Int),L[i]?=some e->lL (bA V) rule i e:=by
  intro n;induction n with
  |zero=>exact λ_=>⟨[],rfl,λi e hi=>by simp at hi⟩
  |succ n ih=>
   intro nm;obtain ⟨L,hL,hE⟩:=ih (by omega);obtain ⟨e,he⟩:=aac hg hn rule (m:=n) (by omega);refine ⟨L++[e],by simp[hL],λi x hi=>?_⟩;by_cases aI:i<L.length
   ·rw[aaW aI]at hi;exact hE i x hi
   rw[aaN (by omega)]at hi
   have h0:i-L.length=0:=by
    rcases aj2 (i-L.length)with h0|h0
    ·exact h0
    rw[abL (by simp;omega)]at hi;cases hi
   rw[h0]at hi;injection hi with hi
   subst hi;have:i=n:=by omega
   subst this;exact he
 obtain ⟨L,h1,h2⟩:=key _ (aad _);have hE:Ends (bA V) rule L:=⟨h1,h2⟩
 rw[BO hE];exact hE
structure ZL (vs E:List Int) (n:Nat):Prop where
 ZE:vs.length=n
 le:E.length=n
 n12:n<=12
 v0: ∀z∈vs,0<=z/\z<=3
 e: ∀(i:Nat) (x:Int),E[i]?=some x->x= -1\/ ∃k:Nat,x=(k:Int)/\k<n/\vs.getD k 0≠0
theorem ZL.of {a:cp} (h:dJ a) {vs:List Int} (hl:vs.length=a.af.length) (hv: ∀z∈vs,0<=z/\z<=3):ZL vs (jl (eF vs a.af) a.rule) a.af.length:=by
 have hV:=h.ok.Jx hl;have hlen:=ew hl;obtain ⟨h1,h2⟩:=ahJ hV a.rule;refine ⟨hl,by rw[h1];exact hlen,h.ok.n12,hv,λi x hi=>?_⟩;have:=h2 i x hi;rcases this with ⟨_,p,b,_,hs,rfl⟩|⟨_,rfl⟩
 ·refine .inr ⟨b,rfl,?_⟩
  have hb:b<(eF vs a.af).length:=by
   rcases abo b (eF vs a.af).length with hb|hb
   ·exact hb
   unfold bA at hs;simp only at hs;rw[abL hb]at hs;cases hs
  have cL:b<a.af.length:=by omega
  have hg:=we (vs:=vs) (tr:=a.af) (k:=b) (by omega) cL;rw[(eX hg).1]at hs;refine ⟨cL,?_⟩;rw[abA,aag (by omega)];simpa using hs
 exact .inl rfl
theorem ahH {vs:List Int} {k:Nat} (h:k<vs.length):vs.getD k 0∈vs:=by
 rw[abA,aag h];exact aax h
theorem ZF {vs E:List Int} {n:Nat} (h:ZL vs E n) {v:Int} {s:Nat} (hs:(v=2/\s=0)\/(v=1/\s=1)\/(v=3/\s=2)): ∀k,k<=n->((acu vs E v k).length:Int)=(cC vs (E.take k)).getD s 0
 |0,_=>by
  rcases hs with ⟨_,rfl⟩|⟨_,rfl⟩|⟨_,rfl⟩<;>rfl
 |k+1,hk=>by
  have ih:=ZF h hs k (by omega);have qg:k<E.length:=by rw[h.le];omega
  have hE:E[k]?=some E[k]:=aag qg;have cm:s<4:=by omega
  rw[BM vs hE,JK (by rw[fW];exact yE _ _)]
  have yH:acJ vs E v k=true↔s=fK vs E[k]:=by
   unfold acJ fK;rw[abA,hE,Option.getD_some,aay,aaU,ajZ];rcases h.e k _ hE with he|⟨j,he,hj,hz⟩
   ·rw[he,aaj (by omega)];omega
   rw[he,aah (by omega),Int.toNat_natCast];have hr:=h.v0 _ (ahH (vs:=vs) (k:=j) (by rw[h.ZE];exact hj));generalize vs.getD j 0=y at*;by_cases h2:y=2
   ·rw[aaj h2];omega
   rw[aah h2];by_cases h1:y=1
   ·rw[aaj h1];omega
   rw[aah h1];omega
  cases hf:acJ vs E v k with
  |true=>
   rw[aey hf,aaj (yH.1 hf),aak,List.length_singleton,<-yH.1 hf];omega
  |false=>
   have: ¬s=fK vs E[k]:=λe=>by rw[yH.2 e]at hf;cases hf
   rw[adP hf,aah this];exact ih
theorem ZJ {vs E:List Int} {v x:Int}: ∀{k:Nat},x∈acu vs E v k-> ∃j:Nat,x=(j:Int)/\j<k/\acJ vs E v j=true
 |0,h=>by unfold acu at h;cases h
 |k+1,h=>by
  unfold acu at h;rcases aau.1 h with h|h
  ·obtain ⟨j,h1,h2,h3⟩:=ZJ h;exact ⟨j,h1,by omega,h3⟩
  split at h
  ·rw[aas]at h;exact ⟨k,h,by omega,by assumption⟩
  cases h
theorem ZK {vs E:List Int} {v u x:Int} {k:Nat} (hn:v≠u) (h1:x∈acu vs E v k) (h2:x∈acu vs E u k):False:=by
 obtain ⟨i,rfl,_,hi⟩:=ZJ h1;obtain ⟨j,he,_,hj⟩:=ZJ h2;have:i=j:=by omega
 subst this;unfold acJ at hi hj;rw[aay,ajZ]at hi hj;omega
theorem ZM {vs E:List Int} {n:Nat} (h:ZL vs E n): ∀k,k<=n->(cC vs (E.take k)).getD 3 0<=k/\((cC vs (E.take k)).getD 3 0=(k:Int)↔ ∀j,j<n->(b6 n E k).getD j 0=0)
 |0,_=>⟨by show (0:Int)<=0;omega,by
  constructor
  ·intro _ j hj;unfold b6;rw[abA,List.getElem?_replicate,aaj hj];rfl
  intro _;rfl⟩
 |k+1,hk=>by
  obtain ⟨i1,i2⟩:=ZM h k (by omega);have qg:k<E.length:=by rw[h.le];omega
  have hE:E[k]?=some E[k]:=aag qg;rw[BM vs hE,JK (by rw[fW];exact yE _ _)];rcases h.e k _ hE with he|⟨j,he,hj,hz⟩
  ·have yH:fK vs E[k]=3:=by unfold fK;rw[he];rfl
   rw[yH,aaj rfl,adI hE (by omega)];refine ⟨by omega,?_⟩;rw[<-i2];omega
  have yH: ¬3=fK vs E[k]:=by
   unfold fK;rw[he,aah (by omega)]
   split
   ·omega
   split<;>omega
  rw[aah yH];refine ⟨by omega,⟨λe=>by omega,λe=>?_⟩⟩;have:=e j hj;rw[adl (j:=j) (by rw[hE,he]),JK (by rw[C9];exact hj),aaj rfl]at this;have:=(Fm n E k j).1;omega
theorem ZG {vs E:List Int} {n:Nat} (h:ZL vs E n) {j:Nat} (hj:j<n): ∀k,k<=n->0<(b6 n E k).getD j 0->vs.getD j 0≠0
 |0,_,hp=>by
  unfold b6 at hp;rw[abA,List.getElem?_replicate,aaj hj]at hp;simp at hp
 |k+1,hk,hp=>by
  have qg:k<E.length:=by rw[h.le];omega
  have hE:E[k]?=some E[k]:=aag qg;rcases h.e k _ hE with he|⟨i,he,hi,hz⟩
  ·rw[adI hE (by omega)]at hp;exact ZG h hj k (by omega) hp
  rw[adl (j:=i) (by rw[hE,he]),JK (by rw[C9];exact hi)]at hp;by_cases e:j=i
  ·rw[e];exact hz
  rw[aah e]at hp;exact ZG h hj k (by omega) hp
theorem ZH {p:Nat->Bool} {x:Int}: ∀{k:Nat},x∈Mg p k-> ∃j:Nat,x=(j:Int)/\j<k/\p j=true
 |0,h=>by unfold Mg at h;cases h
 |k+1,h=>by
  unfold Mg at h;rcases aau.1 h with h|h
  ·obtain ⟨j,h1,h2,h3⟩:=ZH h;exact ⟨j,h1,by omega,h3⟩
  split at h
  ·rw[aas]at h;exact ⟨k,h,by omega,by assumption⟩
  cases h
theorem ZN {p:Nat->Bool}: ∀{k j:Nat},j<k->p j=true->(j:Int)∈Mg p k
 |0,_,h,_=>by omega
 |k+1,j,h,hp=>by
  unfold Mg;rw[aau];by_cases e:j=k
  ·subst e;rw[aaj hp];exact .inr (aas.2 rfl)
  exact .inl (ZN (by omega) hp)
theorem aab {W:List Int} {k:Nat} (hk:k<W.length) (h:ab9 W k=true):0<W[k]/\ ∀z∈W,z<=W[k]:=by
 rw[aeA hk,ajZ]at h;obtain ⟨a1,a2,_⟩:=acf W 1;exact ⟨by omega,λz hz=>by have:=a2 z hz;omega⟩
theorem ahK {W:List Int} {j:Nat} (hj:j<W.length) (hp:0<W[j]): ∃k,k<W.length/\ab9 W k=true:=by
 obtain ⟨a1,a2,a3⟩:=acf W 1;rcases a3 with a3|a3
 ·have:=a2 _ (aax hj);refine ⟨j,hj,?_⟩;rw[aeA hj,ajZ];omega
 obtain ⟨k,hk,e⟩:=abh.1 a3;refine ⟨k,hk,?_⟩;rw[aeA hk,ajZ];exact e
structure ahI (vs Wm no blank c w lead:List Int) (n:Nat):Prop where
 lc:c.length=4
 lw:w.length=n
 c0:(no.length:Int)=c.getD 0 0
 c1:(Wm.length:Int)=c.getD 1 0
 c2:(blank.length:Int)=c.getD 2 0
 c3:lead.length=0↔c.getD 3 0=(n:Int)
 apart: ∀x∈Wm,x∉no/\x∉blank
 lead: ∀x∈lead,∃j:Nat,x=(j:Int)/\j<n/\vs.getD j 0≠0/\ ∀k,k<n->w.getD k 0<=w.getD j 0
theorem ahL {a:cp} (h:dJ a) {vs:List Int} (hl:vs.length=a.af.length) (hv: ∀z∈vs,0<=z/\z<=3):
 ahI vs (forM a vs 1) (forM a vs 2) (forM a vs 3) (cO a vs) (kh (eF vs a.af) a.rule) (adQ a vs) a.af.length:=by
 have hE:=ZL.of h hl hv;have hlen:=ew hl;unfold forM cO adQ kh;rw[hlen];generalize jl (eF vs a.af) a.rule=E at*;generalize a.af.length=n at*;have et:E.take n=E:=aaJ (by rw[hE.le];exact aad _);have f0:=ZF hE (v:=2) (s:=0) (by omega) n (aad _);have f1:=ZF hE (v:=1) (s:=1) (by omega) n (aad _);have f2:=ZF hE (v:=3) (s:=2) (by omega) n (aad _);have f3:=(ZM hE n (aad _)).2;rw[et]at f0 f1 f2 f3;have UZ:=C9 n E n;have hwe:=λj (hj:j<n)=>ZG hE hj n (aad _);have ahM:=λj=>(Fm n E n j).1;generalize b6 n E n=W at*;have xZ: ∀j,(hj:j<W.length)->W.getD j 0=W[j]:=λj hj=>by rw[abA,aag hj];rfl
 have agD: ∀j,(hj:j<W.length)->ab9 W j=true->0<W[j]/\ ∀z∈W,z<=W[j]:=λj hj h=>aab hj h;refine ⟨fW _ _,UZ,f0,f1,f2,?_,λx hx=>⟨λh2=>ZK (by omega) hx h2,λh2=>ZK (by omega) hx h2⟩,λx hx=>?_⟩
 ·rw[f3];constructor
  ·intro h0 j hj;by_cases hz:W.getD j 0=0
   ·exact hz
   have Qs:j<W.length:=by omega
   have hb:0<=W.getD j 0:=ahM j;rw[xZ j Qs]at hz hb;obtain ⟨k,hk,hp⟩:=ahK Qs (by omega);have:=ZN (p:=ab9 W) (k:=n) (by omega) hp;rw[abO h0]at this;cases this
  intro h0;by_cases hz:(Mg (ab9 W) n).length=0
  ·exact hz
  obtain ⟨x,hx⟩: ∃x,x∈Mg (ab9 W) n:=by
   rcases hp:Mg (ab9 W) n with _|⟨x,l⟩
   ·rw[hp]at hz;simp at hz
   exact ⟨x,aaA ..⟩
  obtain ⟨j,_,hj,hp⟩:=ZH hx;have:=(agD j (by omega) hp).1;rw[<-xZ j (by omega),h0 j hj]at this;omega
 obtain ⟨j,rfl,hj,hp⟩:=ZH hx;obtain ⟨q1,q2⟩:=agD j (by omega) hp;refine ⟨j,rfl,hj,hwe j hj (by rw[xZ j (by omega)];exact q1),λk hk=>?_⟩;rw[xZ k (by omega),xZ j (by omega)];exact q2 _ (aax _)
end Go.Proofs.YtbcggaldkihcaaaGreat

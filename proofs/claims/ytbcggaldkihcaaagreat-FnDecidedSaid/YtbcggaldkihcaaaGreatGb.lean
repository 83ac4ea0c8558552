/- What the laws on a vote taken back, on a vote turned to yes and on the next day say, pla.. -/
import Derived.Test.YtbcggaldkihcaaaGreatGa
import Derived.Test.YtbcggaldkihcaaaGreatZr
import Derived.Test.YtbcggaldkihcaaaGreatYX
import Derived.Test.YtbcggaldkihcaaaGreatYW
import Derived.Test.YtbcggaldkihcaaaGreatYE
namespace Go.Proofs.YtbcggaldkihcaaaGreat
open Tryz
open Go.RowKit Go.Lib
theorem ahO {a:cp} (h:dJ a) {k:Nat} {m:gu} (hk:a.ao[k]?=some m):fX a.ao m.al=k/\jU a m.al=m:=by
 obtain ⟨hl,he⟩:=aal.1 hk;have h1:fX a.ao m.al=k:=vO hl (by rw[he];simp) (λj hj=>h.two j k _ m hj (aag (by omega)) hk);refine ⟨h1,?_⟩;unfold jU;rw[h1,Int.toNat_natCast,hk];rfl
theorem aic {a:cp} (h:dJ a) {k:Nat} {m:gu} (hk:a.ao[k]?=some m):Jz a m.al=true:=by
 unfold Jz;rw[h.fI,(ahO h hk).1];simp
def ahZ (who:Nat) (t:ByteArray) (v:Int):dr:=⟨2,who,[],t,v,[],0,0,0⟩
def ahN (a:cp) (k:Nat) (m:gu) (who:Nat) (v:Int):cp:={a with ao:=a.ao.set k (wK m who v)}
theorem ahQ {a:cp} (h:dJ a) {k:Nat} {m:gu} (hk:a.ao[k]?=some m) {who:Nat} (hw:who<a.af.length) {v:Int} (h0:0<=v) (h3:v<=3):cA (ahZ who m.al v)=true:=by
 have hm:=gi.1 (h.ok.ao k m hk);have ol:=h.ok.n12;rw[xX (d:=ahZ who m.al v) rfl];simp only[aay,dS,ajZ];refine ⟨⟨⟨⟨⟨by show (0:Int)<=(who:Int);omega,by show (who:Int)<=11;omega⟩,rfl⟩,hm.name⟩,h0,h3⟩,by rfl⟩
theorem ah3 {a:cp} (h:dJ a) {k:Nat} {m:gu} (hk:a.ao[k]?=some m) (hr:m.result=0) {who:Nat} (hw:who<a.af.length) {v:Int} (h0:0<=v) (h3:v<=3):wW a (ahZ who m.al v)=some (ahN a k m who v):=by
 obtain ⟨e1,e2⟩:=ahO h hk;unfold wW;rw[aaj ⟨h.fI,ahQ h hk hw h0 h3⟩];rw[zT (d:=ahZ who m.al v) rfl (by show¬(a.af.length:Int)<=(who:Int);omega) (by show 0<=fX a.ao m.al;omega) (by show (jU a m.al).result=0;rw[e2];exact hr)];show some {a with ao:=a.ao.set (fX a.ao m.al).toNat (wK (jU a m.al) ((who:Int)).toNat v)}=_
 rw[e1,e2,Int.toNat_natCast,Int.toNat_natCast];rfl
theorem ahW {a:cp} (h:dJ a) {k:Nat} {m:gu} (hk:a.ao[k]?=some m) (hr:m.result=0) {who:Nat} (hw:who<a.af.length) {v:Int} (h0:0<=v) (h3:v<=3):dJ (ahN a k m who v):=by
 have hg:=ah3 h hk hr hw h0 h3;unfold wW at hg;rw[aaj ⟨h.fI,ahQ h hk hw h0 h3⟩]at hg;exact L0 h (ahQ h hk hw h0 h3) hg
theorem ah1 {a:cp} {k:Nat} {m:gu} (hk:a.ao[k]?=some m) (who:Nat) (v:Int):(ahN a k m who v).ao[k]?=some (wK m who v):=by
 show (a.ao.set k _)[k]?=_
 exact abQ (aal.1 hk).1
theorem ah2 {a:cp} (h:dJ a) {k:Nat} {m:gu} (hk:a.ao[k]?=some m) (hr:m.result=0):adr a m.al=lY a m m.ax:=by
 unfold adr;rw[aaj (aic h hk),(ahO h hk).2,aaj hr]
theorem ahX {a:cp} (h:dJ a) {k:Nat} {m:gu} (hk:a.ao[k]?=some m):S8 a m.al=cO a m.ax:=by
 rw[adk (aic h hk),(ahO h hk).2]
theorem ah5 {a:cp} (h:dJ a) {k:Nat} {m:gu} (hk:a.ao[k]?=some m) (hr:m.result=0) {who:Nat} (hw:who<a.af.length) {v:Int} (h0:0<=v) (h3:v<=3):
 Jz (ahN a k m who v) m.al=true/\adr (ahN a k m who v) m.al=lY a m (m.ax.set who v)/\S8 (ahN a k m who v) m.al=cO a (m.ax.set who v):=by
 have hF:=ahW h hk hr hw h0 h3;have H0:=ah1 hk who v;have e1:=ah2 hF H0 (show (wK m who v).result=0 from hr);have e2:=ahX hF H0;have e3:=aic hF H0;have et:(wK m who v).al=m.al:=rfl;rw[et]at e1 e2 e3;exact ⟨e3,by rw[e1];rfl,by rw[e2];rfl⟩
theorem ahS {p:Nat->Bool} {x:Int}: ∀{k:Nat},x∈acv p k-> ∃j:Nat,x=(j:Int)/\j<k/\p j=true
 |0,h=>by unfold acv at h;cases h
 |k+1,h=>by
  unfold acv at h;rcases aau.1 h with h|h
  ·obtain ⟨j,h1,h2,h3⟩:=ahS h;exact ⟨j,h1,by omega,h3⟩
  split at h
  ·rw[aas]at h;exact ⟨k,h,by omega,by assumption⟩
  cases h
theorem ah0 {p:Nat->Bool}: ∀{k j:Nat},j<k->p j=true->(j:Int)∈acv p k
 |0,_,h,_=>by omega
 |k+1,j,h,hp=>by
  unfold acv;rw[aau];by_cases e:j=k
  ·subst e;rw[aaj hp];exact .inr (aas.2 rfl)
  exact .inl (ah0 (by omega) hp)
theorem ah7 {a:cp} (h:dJ a) {k:Nat} {m:gu} (hk:a.ao[k]?=some m) (hr:m.result=0) {who:Nat} (hw:who<a.af.length):
 acw a m.al=true/\decide ((who:Int)∈acR a m.al)=(!(m.ax.getD who 0==0)&&!(lY a m (m.ax.set who 0)==lY a m m.ax))/\T2 a m.al who=true/\m8 a m.al who=cO a (m.ax.set who 0):=by
 have xz:=aic h hk;have hm:=(ahO h hk).2;have hs:acw a m.al=true:=by unfold acw;rw[xz,hm,hr];rfl
 have hM:T2 a m.al who=true:=by
  unfold T2;rw[xz,aaD,dS];omega
 refine ⟨hs,?_,hM,?_⟩
 ·have hl:m.ax.length=a.af.length:=by have:=(gi.1 (h.ok.ao k m hk)).len;omega
  have e:acR a m.al=swM a m:=by unfold acR;rw[aaj hs,hm]
  rw[e];show _=ac7 a m who
  unfold swM;cases hp:ac7 a m who with
  |true=>exact abd (ah0 (by omega) hp)
  |false=>
   refine aba (λhx=>?_);obtain ⟨j,hj,_,hq⟩:=ahS hx;have:who=j:=by omega
   subst this;rw[hp]at hq;cases hq
 unfold m8;rw[aaj hM,hm,Int.toNat_natCast]
theorem ahP (vs:List Int) (E:List Int): ∀k,k<=E.length->(cC vs (E.take k)).getD 0 0+(cC vs (E.take k)).getD 1 0+(cC vs (E.take k)).getD 2 0+(cC vs (E.take k)).getD 3 0=(k:Int)
 |0,_=>rfl
 |k+1,hk=>by
  have ih:=ahP vs E k (by omega);have hE:E[k]?=some E[k]:=aag (by omega);have hs:=yE vs E[k];rw[BM vs hE];have hb: ∀j,(uA (cC vs (E.take k)) (fK vs E[k])).getD j 0=if j=fK vs E[k]then (cC vs (E.take k)).getD (fK vs E[k]) 0+1 else (cC vs (E.take k)).getD j 0:=λj=>JK (by rw[fW];exact hs)
  rw[hb 0,hb 1,hb 2,hb 3];generalize fK vs E[k]=s at*;rcases (show s=0\/s=1\/s=2\/s=3 by omega)with rfl|rfl|rfl|rfl
  ·rw[aaj rfl,aah (by decide),aah (by decide),aah (by decide)];push_cast;omega
  ·rw[aah (by decide),aaj rfl,aah (by decide),aah (by decide)];push_cast;omega
  ·rw[aah (by decide),aah (by decide),aaj rfl,aah (by decide)];push_cast;omega
  rw[aah (by decide),aah (by decide),aah (by decide),aaj rfl];push_cast;omega
theorem ahR {vs E:List Int} {who:Nat} (hw:who<vs.length): ∀k,k<=E.length->
 (cC vs (E.take k)).getD 1 0<=(cC (vs.set who 1) (E.take k)).getD 1 0/\(cC (vs.set who 1) (E.take k)).getD 0 0<=(cC vs (E.take k)).getD 0 0/\(cC (vs.set who 1) (E.take k)).getD 3 0=(cC vs (E.take k)).getD 3 0
 |0,_=>⟨by show (0:Int)<=0;omega,by show (0:Int)<=0;omega,rfl⟩
 |k+1,hk=>by
  obtain ⟨i1,i2,i3⟩:=ahR hw (E:=E) k (by omega);have hE:E[k]?=some E[k]:=aag (by omega);have hs:=yE vs E[k];have ht:=yE (vs.set who 1) E[k]
  have CV:fK (vs.set who 1) E[k]=fK vs E[k]\/(fK (vs.set who 1) E[k]=1/\fK vs E[k]≠3):=by
   unfold fK;by_cases h0:E[k]<0
   ·rw[aaj h0,aaj h0];exact .inl rfl
   rw[aah h0,aah h0];by_cases e:who=E[k].toNat
   ·right
    have:(vs.set who 1).getD E[k].toNat 0=1:=by
     rw[<-e,abA,abQ hw];rfl
    rw[this];refine ⟨rfl,?_⟩
    split
    ·omega
    split<;>omega
   left
   have:(vs.set who 1).getD E[k].toNat 0=vs.getD E[k].toNat 0:=by
    rw[abA,abA,abR e]
   rw[this]
  rw[BM vs hE,BM (vs.set who 1) hE];have hb: ∀j,(uA (cC vs (E.take k)) (fK vs E[k])).getD j 0=if j=fK vs E[k]then (cC vs (E.take k)).getD (fK vs E[k]) 0+1 else (cC vs (E.take k)).getD j 0:=λj=>JK (by rw[fW];exact hs)
  have hc: ∀j,(uA (cC (vs.set who 1) (E.take k)) (fK (vs.set who 1) E[k])).getD j 0=if j=fK (vs.set who 1) E[k]then (cC (vs.set who 1) (E.take k)).getD (fK (vs.set who 1) E[k]) 0+1 else (cC (vs.set who 1) (E.take k)).getD j 0:=λj=>JK (by rw[fW];exact ht)
  rw[hb 0,hb 1,hb 3,hc 0,hc 1,hc 3];generalize fK vs E[k]=s at*;generalize fK (vs.set who 1) E[k]=t at*;generalize cC vs (E.take k)=C at*;generalize cC (vs.set who 1) (E.take k)=D at*;rcases CV with rfl|⟨rfl,gm⟩
  ·rcases (show t=0\/t=1\/t=2\/t=3 by omega)with rfl|rfl|rfl|rfl<;>(refine ⟨?_,?_,?_⟩<;>simp+decide only[reduceIte]<;>omega)
  rcases (show s=0\/s=1\/s=2 by omega)with rfl|rfl|rfl<;>(refine ⟨?_,?_,?_⟩<;>simp+decide only[reduceIte]<;>omega)
theorem ahY {vs:List Int} {tr:List (List Int)} {who:Nat} {v:Int} (h:vs.getD who 0≠0) (hv:v≠0):eF (vs.set who v) tr=eF vs tr:=by
 unfold eF;apply List.ext_getElem?;intro i;rw[List.getElem?_zipWith,List.getElem?_zipWith];by_cases e:who=i
 ·subst e;by_cases hl:who<vs.length
  ·rw[abA,aag hl]at h;have h:vs[who]≠0:=h;rw[abQ hl,aag hl];cases tr[who]? with
   |none=>rfl
   |some l=>
    show some (⟨v !=0,l⟩:lW)=some ⟨vs[who] !=0,l⟩
    rw[show (v !=0)=true by simpa using hv,show (vs[who] !=0)=true by simpa using h]
  exact absurd (by rw[abA,abL (by omega)];rfl) h
 rw[abR e]
theorem ah8 {a:cp} (h:dJ a) {k:Nat} {m:gu} (hk:a.ao[k]?=some m) {who:Nat} (hw:who<a.af.length):
 (m.ax.getD who 0=0->(cO a m.ax).getD 0 0+(cO a m.ax).getD 1 0+(cO a m.ax).getD 2 0+(cO a m.ax).getD 3 0=(m.ax.length:Int))/\
 (m.ax.getD who 0≠0->(cO a m.ax).getD 1 0<=(cO a (m.ax.set who 1)).getD 1 0/\(cO a (m.ax.set who 1)).getD 0 0<=(cO a m.ax).getD 0 0/\(cO a (m.ax.set who 1)).getD 3 0=(cO a m.ax).getD 3 0/\
  (lY a m (m.ax.set who 1)=lY a m m.ax\/(lY a m m.ax≠1/\lY a m m.ax≠4))):=by
 have hm:=gi.1 (h.ok.ao k m hk);have hl:m.ax.length=a.af.length:=by have:=hm.len;omega
 have hE:=ZL.of h hl hm.ax;have et: ∀vs:List Int,cO a vs=cC vs (jl (eF vs a.af) a.rule):=λ_=>rfl;have z': ∀L:List Int,L.take L.length=L:=λL=>aaJ (aad _);have s0:=ahP m.ax (jl (eF m.ax a.af) a.rule) _ (aad _);rw[z',hE.le,<-et]at s0;refine ⟨λ_=>by rw[s0,hl],λhz=>?_⟩;have hvs:=ahY (tr:=a.af) (v:=1) hz (by decide);have e1:cO a (m.ax.set who 1)=cC (m.ax.set who 1) (jl (eF m.ax a.af) a.rule):=by rw[et,hvs]
 obtain ⟨q1,q2,q3⟩:=ahR (vs:=m.ax) (E:=jl (eF m.ax a.af) a.rule) (who:=who) (by omega) _ (aad _);have s1:=ahP (m.ax.set who 1) (jl (eF m.ax a.af) a.rule) _ (aad _);rw[z',hE.le,<-e1]at s1;rw[z',<-e1,<-et]at q1 q2 q3;refine ⟨q1,q2,q3,?_⟩;unfold lY;generalize cO a (m.ax.set who 1)=D at*;generalize cO a m.ax=C at*;by_cases h1:2*(C.getD 0 0+C.getD 1 0+C.getD 2 0)<(a.af.length:Int)
 ·rw[aaj h1];right;omega
 by_cases h2:C.getD 1 0<=C.getD 0 0
 ·rw[aah h1,aaj h2];right;omega
 left
 rw[aah h1,aah h2,aah (by omega),aah (by omega)]
theorem ahT {a:cp}: ∀k,(∀j m,j<k->a.ao[j]?=some m->m.aj≠a.day+1)->k<=a.ao.length->kQ a k={a with day:=a.day+1}
 |0,_,_=>rfl
 |k+1,h,hk=>by
  have ih:=ahT k (λj m hj hm=>h j m (by omega) hm) (by omega);have hm:a.ao[k]?=some a.ao[k]:=aag hk;show mh (kQ a k) k=_
  rw[ih];exact pB (a:={a with day:=a.day+1}) hm (h k _ (by omega) hm)
theorem ahU {a:cp} (h:dJ a) {k:Nat} {m:gu} (hm:a.ao[k]?=some m): ∀n,k<n->n<=a.ao.length->(kQ a n).ao[k]?=some (if m.aj=a.day+1 then qW m (lY (kQ a k) m m.ax)else m)
 |0,hn,_=>by omega
 |n+1,hn,hl=>by
  have hI:=uQ h n (by omega);have hb:a.ao[n]?=some a.ao[n]:=aag hl;have IJ:=(hI.rest n (aad _)).trans hb;have aI:n<(kQ a n).ao.length:=by rw[hI.len];omega
  show (mh (kQ a n) n).ao[k]?=_
  by_cases e:k=n
  ·subst e;rw[hm]at hb;injection hb with hb
   rw[<-hb]at IJ;by_cases hc:m.aj=a.day+1
   ·rw[aaj hc,pC IJ (by rw[hI.day];exact hc) rfl];show ((kQ a k).ao.set k _)[k]?=_
    exact abQ aI
   rw[aah hc,pB IJ (by rw[hI.day];exact hc)];exact IJ
  have ih:=ahU h hm n (by omega) (by omega);by_cases hc:(a.ao[n]).aj=(kQ a n).day
  ·rw[pC IJ hc rfl];show ((kQ a n).ao.set n _)[k]?=_
   rw[abR (by omega)];exact ih
  rw[pB IJ hc];exact ih
theorem ah' {a:cp} (h:dJ a) {k:Nat} {m:gu} (hm:a.ao[k]?=some m): ∃r:Int,(pz a).ao[k]?=some (qW m r)/\(m.aj≠a.day+1->r=m.result)/\
 (m.aj=a.day+1->r≠0/\m.result=0/\((∀j q,j<k->a.ao[j]?=some q->q.aj≠a.day+1)->r=lY a m m.ax)):=by
 have hl:=(aal.1 hm).1;have:=ahU h hm a.ao.length hl (aad _);have hd:(pz a).ao[k]?=some (if m.aj=a.day+1 then qW m (lY (kQ a k) m m.ax)else m):=this;by_cases hc:m.aj=a.day+1
 ·rw[aaj hc]at hd;have hr:=wL (kQ a k) m m.ax;refine ⟨_,hd,λe=>absurd hc e,λ_=>⟨by omega,(gi.1 (h.ok.ao k m hm)).Tl.2 (by omega),λhf=>?_⟩⟩;rw[ahT k hf (by omega)];rfl
 rw[aah hc]at hd;exact ⟨m.result,hd,λ_=>rfl,λe=>absurd e hc⟩
theorem ahV:cA ⟨4,0,[],⟨#[]⟩,0,[],0,0,0⟩=true:=by
 rw[Fx (d:=⟨4,0,[],⟨#[]⟩,0,[],0,0,0⟩) rfl,abk];rfl
theorem aia {a:cp} (h:dJ a) (hd:a.day<999):wW a ⟨4,0,[],⟨#[]⟩,0,[],0,0,0⟩=some (pz a):=by
 unfold wW;rw[aaj ⟨h.fI,ahV⟩,zR rfl hd]
theorem aib {a:cp} (h:dJ a) (hd: ¬a.day<999):wW a ⟨4,0,[],⟨#[]⟩,0,[],0,0,0⟩=none:=by
 unfold wW;rw[aaj ⟨h.fI,ahV⟩,zS rfl hd]
end Go.Proofs.YtbcggaldkihcaaaGreat

/- What a deed does to an assembly, plain; what is valid stays valid. -/
import Derived.Test.YtbcggaldkihcaaaGreatDoorYV
import Derived.Test.YtbcggaldkihcaaaGreatDoorZc
namespace Go.Proofs.YtbcggaldkihcaaaGreatDoor
open Tryz
open Go.RowKit Go.Lib
theorem Ck {vs:List Int}:fZ vs=true↔ ∀z∈vs,0<=z/\z<=3:=by
 unfold fZ;rw[eo];constructor
 ·intro h z hz;obtain ⟨k,hk⟩:=List.getElem?_of_mem hz;obtain ⟨hl,rfl⟩:=List.getElem?_eq_some_iff.1 hk;have:=h k hl;rw[List.getD_eq_getElem?_getD,List.getElem?_eq_getElem hl,Option.getD_some,dS]at this;exact this
 intro h k hk;rw[List.getD_eq_getElem?_getD,List.getElem?_eq_getElem hk,Option.getD_some,dS];exact h _ (List.getElem_mem hk)
structure Ka (m:gu) (day n:Int):Prop where
 name:dU m.al.toList=true
 a0:0<=m.br
 a1:m.br<=n-1
 p0:(m.pat.length:Int)≠0
 pat:bF m.pat=true
 span:jd m.a8 m.fin m.aj=true
 len:(m.ax.length:Int)=n
 ax: ∀z∈m.ax,0<=z/\z<=3
 r0:0<=m.result
 r4:m.result<=4
 Tl:m.result=0↔day<m.aj
theorem GY {p q:Prop} [Decidable p] [Decidable q]:(decide p==decide q)=true↔(p↔q):=by
 by_cases hp:p<;>by_cases hq:q<;>simp[hp,hq]
theorem gi {m:gu} {day n:Int}:dD m day n=true↔Ka m day n:=by
 unfold dD;have e:(((m.result==0)==decide (day<m.aj))=true)↔(m.result=0↔day<m.aj):=GY (p:=m.result=0) (q:=day<m.aj);simp only[Bool.and_eq_true,dS,e,Ck,beq_iff_eq,Bool.not_eq_true',beq_eq_false_iff_ne];constructor
 ·rintro ⟨⟨⟨⟨⟨⟨⟨⟨h1,h2⟩,h3⟩,h4⟩,h5⟩,h6⟩,h7⟩,h8⟩,h9⟩;exact ⟨h1,h2.1,h2.2,h3,h4,h5,h6,h7,h8.1,h8.2,h9⟩
 rintro ⟨h1,h2,Og,h3,h4,h5,h6,h7,h8,Zr,h9⟩;exact ⟨⟨⟨⟨⟨⟨⟨⟨h1,h2,Og⟩,h3⟩,h4⟩,h5⟩,h6⟩,h7⟩,h8,Zr⟩,h9⟩
structure dJ (a:cp):Prop where
 ok:pf a
 d0:0<=a.day
 d1:a.day<=999
 two: ∀(i j:Nat) (p q:gu),i<j->a.ao[i]?=some p->a.ao[j]?=some q->(p.al.toList==q.al.toList)=false
 stat:cd a.base=true
 av:bJ a.av=true
 all:eJ a.base a.av
theorem Kb {α:Type} {p:α->Bool} {L:List α} (h:kF p L<0): ∀x∈L,p x=false:=by
 intro x hx;rcases hf:L.findIdx? p with _|k
 ·have:=List.findIdx?_eq_none_iff.1 hf x hx;simpa using this
 have e:kF p L=k:=by unfold kF;rw[hf]
 omega
noncomputable def mh (a:cp) (k:Nat):cp:=
 match a.ao[k]? with
 |none=>a
 |some m=>if m.aj=a.day then {a with av:=(if lY a m m.ax=1 then cI a.av (cM m)else a.av),ao:=a.ao.set k (qW m (lY a m m.ax))}else a
noncomputable def kQ (a:cp):Nat->cp
 |0=>{a with day:=a.day+1}
 |k+1=>mh (kQ a k) k
noncomputable def pz (a:cp):cp:=kQ a a.ao.length
theorem pB {a:cp} {k:Nat} {m:gu} (hm:a.ao[k]?=some m) (h: ¬m.aj=a.day):mh a k=a:=by
 unfold mh;rw[hm];exact if_neg h
theorem pC {a:cp} {k:Nat} {m:gu} (hm:a.ao[k]?=some m) (h:m.aj=a.day) {r:Int} (hr:lY a m m.ax=r):mh a k={a with av:=(if r=1 then cI a.av (cM m)else a.av),ao:=a.ao.set k (qW m r)}:=by
 subst hr;unfold mh;rw[hm];exact if_pos h
theorem wL (a:cp) (m:gu) (vs:List Int):1<=lY a m vs/\lY a m vs<=4:=by
 unfold lY
 split
 ·omega
 split
 ·omega
 split<;>omega
theorem wM {a:cp} {m:gu} {vs:List Int} (h:lY a m vs=1):fi a.base a.av (cM m)=true:=by
 unfold lY at h
 split at h
 ·omega
 split at h
 ·omega
 split at h
 ·assumption
 omega
open Classical in
theorem Cl {S:List bE} {l:List bo} {x:bo} (h:fi S l x=true):l.length<8/\eJ S (cI l x):=by
 unfold fi at h;rw[Bool.and_eq_true,decide_eq_true_eq,decide_eq_true_eq]at h;exact h
structure Eu (a b:cp) (k:Nat):Prop where
 day:b.day=a.day+1
 rule:b.rule=a.rule
 af:b.af=a.af
 base:b.base=a.base
 av:bJ b.av=true
 all:eJ b.base b.av
 len:b.ao.length=a.ao.length
 rest: ∀j,k<=j->b.ao[j]?=a.ao[j]?
 done: ∀(j:Nat) (m:gu),j<k->b.ao[j]?=some m->Ka m (a.day+1) a.af.length
 al: ∀(j:Nat) (m:gu),b.ao[j]?=some m-> ∃q,a.ao[j]?=some q/\q.al=m.al
theorem uQ {a:cp} (h:dJ a): ∀k,k<=a.ao.length->Eu a (kQ a k) k
 |0,_=>⟨rfl,rfl,rfl,rfl,h.av,h.all,rfl,λ_ _=>rfl,λj _ hj=>absurd hj (Nat.not_lt_zero _),λj m hm=>⟨m,hm,rfl⟩⟩
 |k+1,hk=>by
  have ih:=uQ h k (by omega);have hm:a.ao[k]?=some a.ao[k]:=List.getElem?_eq_getElem hk;have hb:=(ih.rest k (Nat.le_refl _)).trans hm;have cy:=gi.1 (h.ok.ao k _ hm);show Eu a (mh (kQ a k) k) (k+1)
  generalize kQ a k=b at*;generalize a.ao[k]=m at*;by_cases hc:m.aj=b.day
  ·have hr:=wL b m m.ax;have he:lY b m m.ax=1->fi b.base b.av (cM m)=true:=wM;rw[pC hb hc rfl];generalize lY b m m.ax=r at*
   have yK:bJ (if r=1 then cI b.av (cM m)else b.av)=true/\eJ b.base (if r=1 then cI b.av (cM m)else b.av):=by
    by_cases h1:r=1
    ·rw[if_pos h1];obtain ⟨q1,q2⟩:=Cl (he h1);exact ⟨jp ih.av (B7 (h.ok.ao k _ hm)) q1,q2⟩
    rw[if_neg h1];exact ⟨ih.av,ih.all⟩
   have aI:k<b.ao.length:=by rw[ih.len];omega
   refine ⟨ih.day,ih.rule,ih.af,ih.base,yK.1,yK.2,by show (b.ao.set k _).length=_;rw[List.length_set];exact ih.len,λj hj=>?_,λj q hj hq=>?_,λj q hq=>?_⟩
   ·show (b.ao.set k _)[j]?=_
    rw[List.getElem?_set_ne (by omega)];exact ih.rest j (by omega)
   ·have hq:(b.ao.set k (qW m r))[j]?=some q:=hq;by_cases e:k=j
    ·subst e;rw[List.getElem?_set_self aI]at hq;injection hq with hq
     subst hq;have:=ih.day;exact ⟨cy.name,cy.a0,cy.a1,cy.p0,cy.pat,cy.span,cy.len,cy.ax,by show 0<=r;omega,by show r<=4;omega,by show r=0↔a.day+1<m.aj;omega⟩
    rw[List.getElem?_set_ne e]at hq;exact ih.done j q (by omega) hq
   have hq:(b.ao.set k (qW m r))[j]?=some q:=hq;by_cases e:k=j
   ·subst e;rw[List.getElem?_set_self aI]at hq;injection hq with hq
    subst hq;exact ⟨m,hm,rfl⟩
   rw[List.getElem?_set_ne e]at hq;exact ih.al j q hq
  rw[pB hb hc];refine ⟨ih.day,ih.rule,ih.af,ih.base,ih.av,ih.all,ih.len,λj hj=>ih.rest j (by omega),λj q hj hq=>?_,ih.al⟩;by_cases e:k=j
  ·subst e;rw[hb]at hq;injection hq with hq
   subst hq;have:=ih.day;have:=cy.Tl;exact ⟨cy.name,cy.a0,cy.a1,cy.p0,cy.pat,cy.span,cy.len,cy.ax,cy.r0,cy.r4,by omega⟩
  exact ih.done j q (by omega) hq
theorem GZ {a:cp} (h:dJ a) (hd:a.day<999):dJ (pz a):=by
 have hI:=uQ h a.ao.length (Nat.le_refl _);show dJ (kQ a a.ao.length)
 generalize kQ a a.ao.length=b at*;have h0:=h.d0;refine ⟨⟨by rw[hI.af];exact h.ok.n1,by rw[hI.af];exact h.ok.n12,by rw[hI.len];exact h.ok.m6,by rw[hI.rule];exact h.ok.rule,λk l hk=>?_,λk m hk=>?_⟩,by rw[hI.day];omega,by rw[hI.day];omega,λi j p q Ip hp hq=>?_,by rw[hI.base];exact h.stat,hI.av,hI.all⟩
 ·rw[hI.af]at hk⊢;exact h.ok.af k l hk
 ·rw[hI.day,hI.af];exact gi.2 (hI.done k m (by have:=(List.getElem?_eq_some_iff.1 hk).1;rw[hI.len]at this;exact this) hk)
 obtain ⟨p',NA,e1⟩:=hI.al i p hp;obtain ⟨q',Im,e2⟩:=hI.al j q hq;rw[<-e1,<-e2];exact h.two i j p' q' Ip NA Im
def pD (d:dr) (n:Nat):gu:=⟨d.al,d.member,d.patch,d.start,d.aB,d.aj,List.replicate n 0,0⟩
noncomputable def mW (a:cp) (d:dr):Option cp:=
 if d.kind=4 then (if a.day<999 then some (pz a)else none)
 else if (a.af.length:Int)<=d.member then none
 else if d.kind=1 then (if cF d.af d.member a.af.length=true then some {a with af:=a.af.set d.member.toNat d.af}else none)
 else if d.kind=2 then (if 0<=fX a.ao d.al/\(jU a d.al).result=0 then some {a with ao:=a.ao.set (fX a.ao d.al).toNat (wK (jU a d.al) d.member.toNat d.bO)}else none)
 else (if fX a.ao d.al<0/\a.ao.length<6/\a.day<d.aj then some {a with ao:=a.ao++[pD d a.af.length]}else none)
theorem zR {a:cp} {d:dr} (hk:d.kind=4) (h:a.day<999):mW a d=some (pz a):=by unfold mW;rw[if_pos hk,if_pos h]
theorem zS {a:cp} {d:dr} (hk:d.kind=4) (h: ¬a.day<999):mW a d=none:=by unfold mW;rw[if_pos hk,if_neg h]
theorem qY {a:cp} {d:dr} (hk: ¬d.kind=4) (h:(a.af.length:Int)<=d.member):mW a d=none:=by unfold mW;rw[if_neg hk,if_pos h]
theorem wN {a:cp} {d:dr} (hk:d.kind=1) (h: ¬(a.af.length:Int)<=d.member) (ht:cF d.af d.member a.af.length=true):mW a d=some {a with af:=a.af.set d.member.toNat d.af}:=by unfold mW;rw[if_neg (by omega),if_neg h,if_pos hk,if_pos ht]
theorem pE {a:cp} {d:dr} (hk:d.kind=1) (h: ¬(a.af.length:Int)<=d.member) (ht:cF d.af d.member a.af.length=false):mW a d=none:=by unfold mW;rw[if_neg (by omega),if_neg h,if_pos hk,if_neg (by rw[ht];simp)]
theorem zT {a:cp} {d:dr} (hk:d.kind=2) (h: ¬(a.af.length:Int)<=d.member) (hf:0<=fX a.ao d.al) (hr:(jU a d.al).result=0):mW a d=some {a with ao:=a.ao.set (fX a.ao d.al).toNat (wK (jU a d.al) d.member.toNat d.bO)}:=by unfold mW;rw[if_neg (by omega),if_neg h,if_neg (by omega),if_pos hk,if_pos ⟨hf,hr⟩]
theorem qZ {a:cp} {d:dr} (hk:d.kind=2) (h: ¬(a.af.length:Int)<=d.member) (hf:fX a.ao d.al<0):mW a d=none:=by unfold mW;rw[if_neg (by omega),if_neg h,if_neg (by omega),if_pos hk,if_neg (by omega)]
theorem tG {a:cp} {d:dr} (hk:d.kind=2) (h: ¬(a.af.length:Int)<=d.member) (hr: ¬(jU a d.al).result=0):mW a d=none:=by unfold mW;rw[if_neg (by omega),if_neg h,if_neg (by omega),if_pos hk,if_neg (λh=>hr h.2)]
theorem q9 {a:cp} {d:dr} (hk:d.kind=3) (h: ¬(a.af.length:Int)<=d.member) (hf:fX a.ao d.al<0) (h6:a.ao.length<6) (hc:a.day<d.aj):mW a d=some {a with ao:=a.ao++[pD d a.af.length]}:=by unfold mW;rw[if_neg (by omega),if_neg h,if_neg (by omega),if_neg (by omega),if_pos ⟨hf,h6,hc⟩]
theorem Ev {a:cp} {d:dr} (hk:d.kind=3) (h: ¬(a.af.length:Int)<=d.member) (hf: ¬(fX a.ao d.al<0/\a.ao.length<6/\a.day<d.aj)):mW a d=none:=by unfold mW;rw[if_neg (by omega),if_neg h,if_neg (by omega),if_neg (by omega),if_neg hf]
theorem pF {a:cp} {t:ByteArray} (h:0<=fX a.ao t): ∃k:Nat,fX a.ao t=k/\k<a.ao.length/\a.ao[k]?=some (jU a t):=by
 obtain ⟨k,hk,e,_⟩:=LH (p:=λm:gu=>m.al.toList==t.toList) (L:=a.ao) h;have e:fX a.ao t=k:=e;refine ⟨k,e,hk,?_⟩;unfold jU;rw[e,Int.toNat_natCast,List.getElem?_eq_getElem hk];rfl
theorem il {d:dr} (h:cA d=true):0<=d.member/\d.member<=11:=by
 unfold cA at h;simp only[Bool.or_eq_true,Bool.and_eq_true,decide_eq_true_eq,dS]at h;rcases h with ((h|h)|h)|h
 ·exact h.1.1.1.1.2
 ·exact h.1.1.1.1.2
 ·exact h.1.1.1.1.2
 have:=h.1.1.1.1.2;omega
theorem tH {d:dr} (h:cA d=true):d.kind=1\/d.kind=2\/d.kind=3\/d.kind=4:=by
 unfold cA at h;simp only[Bool.or_eq_true,Bool.and_eq_true,decide_eq_true_eq,dS]at h;rcases h with ((h|h)|h)|h
 ·exact .inl h.1.1.1.1.1
 ·exact .inr (.inl h.1.1.1.1.1)
 ·exact .inr (.inr (.inl h.1.1.1.1.1))
 exact .inr (.inr (.inr h.1.1.1.1.1))
theorem G0 {d:dr} (h:cA d=true) (hk:d.kind=2):0<=d.bO/\d.bO<=3:=by
 rw[xX hk]at h;simp only[Bool.and_eq_true,dS]at h;exact h.1.2
theorem tI {d:dr} (h:cA d=true) (hk:d.kind=3):dU d.al.toList=true/\(d.patch.length:Int)≠0/\bF d.patch=true/\jd d.start d.aB d.aj=true:=by
 rw[xY hk]at h;simp only[Bool.and_eq_true,dS,decide_eq_true_eq]at h;obtain ⟨⟨⟨⟨⟨⟨_,_⟩,h3⟩,_⟩,h5⟩,h6⟩,h7⟩:=h;exact ⟨h3,by omega,h6,h7⟩
theorem pG {α:Type} {L:List α} {k j:Nat} {x y:α} (h:(L.set k x)[j]?=some y):(j=k/\y=x)\/(j≠k/\L[j]?=some y):=by
 by_cases e:k=j
 ·subst e;have hl:=(List.getElem?_eq_some_iff.1 h).1;rw[List.length_set]at hl;rw[List.getElem?_set_self hl]at h;injection h with h
  exact .inl ⟨rfl,h.symm⟩
 rw[List.getElem?_set_ne e]at h;exact .inr ⟨λq=>e q.symm,h⟩
theorem L0 {a b:cp} {d:dr} (h:dJ a) (hd:cA d=true) (hb:mW a d=some b):dJ b:=by
 have hm:=il hd;have kM:=h.ok.n1;have fD:=h.ok.n12;by_cases k4:d.kind=4
 ·by_cases sy:a.day<999
  ·rw[zR k4 sy]at hb;injection hb with hb
   rw[<-hb];exact GZ h sy
  rw[zS k4 sy]at hb;cases hb
 by_cases hw:(a.af.length:Int)<=d.member
 ·rw[qY k4 hw]at hb;cases hb
 rcases tH hd with k|k|k|k
 ·cases ht:cF d.af d.member a.af.length with
  |false=>rw[pE k hw ht]at hb;cases hb
  |true=>
   rw[wN k hw ht]at hb;injection hb with hb
   rw[<-hb];have el:(a.af.set d.member.toNat d.af).length=a.af.length:=List.length_set;refine ⟨⟨by show 1<=(a.af.set _ _).length;omega,by show (a.af.set _ _).length<=12;omega,h.ok.m6,h.ok.rule,λj l hj=>?_,λj m hj=>?_⟩,h.d0,h.d1,h.two,h.stat,h.av,h.all⟩
   ·show cF l j ((a.af.set d.member.toNat d.af).length:Nat)=true
    rw[el];rcases pG (show (a.af.set d.member.toNat d.af)[j]?=some l from hj)with ⟨e1,e2⟩|⟨_,e2⟩
    ·rw[e1,e2,show ((d.member.toNat:Nat):Int)=d.member by omega];exact ht
    exact h.ok.af j l e2
   show dD m a.day ((a.af.set d.member.toNat d.af).length:Nat)=true
   rw[el];exact h.ok.ao j m hj
 ·by_cases hf:0<=fX a.ao d.al
  ·by_cases hr:(jU a d.al).result=0
   ·obtain ⟨i,hi,Tm,hg⟩:=pF hf;rw[zT k hw hf hr,hi,Int.toNat_natCast]at hb;injection hb with hb
    rw[<-hb];have hv:=G0 hd k;refine ⟨⟨kM,fD,by show (a.ao.set _ _).length<=6;rw[List.length_set];exact h.ok.m6,h.ok.rule,h.ok.af,λj m hj=>?_⟩,h.d0,h.d1,λu v p q U9 hp hq=>?_,h.stat,h.av,h.all⟩
    ·rcases pG (show (a.ao.set i _)[j]?=some m from hj)with ⟨e1,e2⟩|⟨_,e2⟩
     ·have hM:=gi.1 (h.ok.ao i _ hg);refine gi.2 ?_;rw[e2];refine ⟨hM.name,hM.a0,hM.a1,hM.p0,hM.pat,hM.span,by show ((((jU a d.al).ax.set d.member.toNat d.bO).length:Nat):Int)=_;rw[List.length_set];exact hM.len,λz hz=>?_,hM.r0,hM.r4,hM.Tl⟩;rcases List.mem_or_eq_of_mem_set hz with hz|hz
      ·exact hM.ax z hz
      rw[hz];exact hv
     exact h.ok.ao j m e2
    have key: ∀(j:Nat) (m:gu),(a.ao.set i (wK (jU a d.al) d.member.toNat d.bO))[j]?=some m-> ∃q,a.ao[j]?=some q/\q.al=m.al:=λj m hj=>by
     rcases pG hj with ⟨e1,e2⟩|⟨_,e2⟩
     ·exact ⟨_,by rw[e1];exact hg,by rw[e2];rfl⟩
     exact ⟨m,e2,rfl⟩
    obtain ⟨p',NA,e1⟩:=key u p hp;obtain ⟨q',Im,e2⟩:=key v q hq;rw[<-e1,<-e2];exact h.two u v p' q' U9 NA Im
   rw[tG k hw hr]at hb;cases hb
  rw[qZ k hw (by omega)]at hb;cases hb
 ·by_cases hf:fX a.ao d.al<0/\a.ao.length<6/\a.day<d.aj
  ·obtain ⟨f1,f2,f3⟩:=hf;rw[q9 k hw f1 f2 f3]at hb;injection hb with hb
   rw[<-hb];obtain ⟨q1,q2,q3,q4⟩:=tI hd k;have vj:=Kb (p:=λm:gu=>m.al.toList==d.al.toList) (L:=a.ao) f1
   have key: ∀(j:Nat) (m:gu),(a.ao++[pD d a.af.length])[j]?=some m->a.ao[j]?=some m\/(j=a.ao.length/\m=pD d a.af.length):=λj m hj=>by
    rcases Nat.lt_trichotomy j a.ao.length with e|e|e
    ·rw[List.getElem?_append_left e]at hj;exact .inl hj
    ·subst e;rw[List.getElem?_append_right (Nat.le_refl _),Nat.sub_self]at hj;injection hj with hj
     exact .inr ⟨rfl,hj.symm⟩
    rw[List.getElem?_eq_none (by simp;omega)]at hj;cases hj
   refine ⟨⟨kM,fD,by show (a.ao++_).length<=6;simp;omega,h.ok.rule,h.ok.af,λj m hj=>?_⟩,h.d0,h.d1,λu v p q U9 hp hq=>?_,h.stat,h.av,h.all⟩
   ·rcases key j m hj with e|⟨_,e⟩
    ·exact h.ok.ao j m e
    rw[e];exact gi.2 ⟨q1,hm.1,by show d.member<=(a.af.length:Int)-1;omega,q2,q3,q4,by show ((((List.replicate a.af.length (0:Int)).length:Nat)):Int)=_;rw[List.length_replicate],λz hz=>by rw[List.eq_of_mem_replicate hz];omega,by show (0:Int)<=0;omega,by show (0:Int)<=4;omega,by show (0:Int)=0↔a.day<d.aj;omega⟩
   rcases key u p hp with e1|⟨e1,_⟩
   ·rcases key v q hq with e2|⟨_,e2⟩
    ·exact h.two u v p q U9 e1 e2
    rw[e2];exact vj p (List.mem_of_getElem? e1)
   rcases key v q hq with e2|⟨e2,_⟩
   ·have:=(List.getElem?_eq_some_iff.1 e2).1;omega
   omega
  rw[Ev k hw hf]at hb;cases hb
 exact absurd k k4
end Go.Proofs.YtbcggaldkihcaaaGreatDoor

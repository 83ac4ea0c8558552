/- An act entered among acts, plain; parts of acts in memory. -/
import Derived.Test.YtbcggaldkihcaaaGreatYG
import Derived.Test.YtbcggaldkihcaaaGreatQE
import Derived.Test.YtbcggaldkihcaaaGreatZb
import Derived.Test.YtbcggaldkihcaaaGreatQC
import Derived.Test.YtbcggaldkihcaaaGreatZn
set_option maxHeartbeats 8000000
set_option maxRecDepth 100000
namespace Go.Proofs.YtbcggaldkihcaaaGreat
open Tryz
open Go.RowKit Go.Lib
def cG:List bo->Int->Nat
 |[],_=>0
 |a::l,d=>if a.a8<=d then cG l d+1 else 0
theorem nL: ∀(l:List bo) (d:Int),cG l d<=l.length
 |[],_=>aad _
 |a::l,d=>by
  unfold cG
  split
  ·have:=nL l d;simp;omega
  simp
theorem qR: ∀(l:List bo) (d:Int) (k:Nat) (a:bo),l[k]?=some a->k<cG l d->a.a8<=d
 |[],_,_,_,h,_=>by simp at h
 |b::l,d,k,a,h,hk=>by
  unfold cG at hk
  split at hk
  ·rename_i hb;cases k with
   |zero=>simp at h;rw[<-h];exact hb
   |succ k=>exact qR l d k a (by simpa using h) (by omega)
  omega
theorem qS: ∀(l:List bo) (d:Int) (a:bo),l[cG l d]?=some a-> ¬a.a8<=d
 |[],_,_,h=>by simp[cG]at h
 |b::l,d,a,h=>by
  unfold cG at h
  split at h
  ·exact qS l d a (by simpa using h)
  rename_i hb;simp at h;rw[<-h];exact hb
theorem nN {l:List bo} {d:Int} {k:Nat} (hk:k<=l.length) (h: ∀(j:Nat) (a:bo),l[j]?=some a->j<k->a.a8<=d) (hx:k=l.length\/ ∃a,l[k]?=some a/\ ¬a.a8<=d):cG l d=k:=by
 rcases Nat.lt_trichotomy (cG l d) k with e|e|e
 ·have hl:cG l d<l.length:=by omega
  exact absurd (h _ _ (aag hl) e) (qS l d _ (aag hl))
 ·exact e
 rcases hx with hx|⟨a,ha,hn⟩
 ·have:=nL l d;omega
 exact absurd (qR l d k a ha e) hn
def cI (l:List bo) (x:bo):List bo:=l.take (cG l x.a8)++x::l.drop (cG l x.a8)
theorem Ej (l:List bo) (x:bo):(cI l x).length=l.length+1:=by
 have:=nL l x.a8;unfold cI;simp;omega
theorem qT {L:List bo} (h1: ∀a∈L,eV a=true) (h2: ∀(m:Nat) (d a:bo),L[m]?=some d->L[m+1]?=some a->d.a8<=a.a8) (h3:L.length<=8):bJ L=true:=by
 unfold bJ;rw[aay,eo,aaU];refine ⟨λk hk=>?_,h3⟩;have hg:L[k]?=some L[k]:=aag hk;cases k with
 |zero=>exact qF rfl hg (h1 _ (aax hk))
 |succ k=>
  have j5:L[k]?=some L[k]:=aag (by omega);rw[np j5 hg (h1 _ (aax hk)),aaU];exact h2 k _ _ j5 hg
theorem jp {l:List bo} {x:bo} (h:bJ l=true) (hx:eV x=true) (h8:l.length<8):bJ (cI l x)=true:=by
 have hle:=nL l x.a8;refine qT (λa ha=>?_) (λm d a hd ha=>?_) (by rw[Ej];omega)
 ·unfold cI at ha
  have iq: ∀b∈l,eV b=true:=λb hb=>by
   obtain ⟨k,hk⟩:=aa2 hb;exact fj h hk
  rcases aau.1 ha with ha|ha
  ·exact iq a (aby ha)
  rcases aaF.1 ha with rfl|ha
  ·exact hx
  exact iq a (List.mem_of_mem_drop ha)
 have aH: ∀j,(cI l x)[j]?=if j<cG l x.a8 then l[j]? else if j=cG l x.a8 then some x else l[j-1]?:=λj=>by
  unfold cI;have aI:(l.take (cG l x.a8)).length=cG l x.a8:=by rw[aao];omega
  by_cases h1:j<cG l x.a8
  ·rw[aaj h1,aaW (by omega),abP,aaj h1]
  rw[aah h1,aaN (by omega),aI];by_cases h2:j=cG l x.a8
  ·rw[aaj h2,h2,abb];rfl
  rw[aah h2];obtain ⟨i,hi⟩: ∃i,j-cG l x.a8=i+1:=⟨j-cG l x.a8-1,by omega⟩
  rw[hi,List.getElem?_cons_succ,List.getElem?_drop]
  congr 1
  omega
 rw[aH]at hd ha;by_cases c1:m+1<cG l x.a8
 ·rw[aaj c1]at ha;rw[aaj (by omega)]at hd;exact l' h hd ha
 rw[aah c1]at ha;by_cases c2:m+1=cG l x.a8
 ·rw[aaj c2]at ha;rw[aaj (by omega)]at hd;injection ha with ha
  rw[<-ha];exact qR l x.a8 m d hd (by omega)
 rw[aah c2]at ha;by_cases c3:m=cG l x.a8
 ·rw[aah (by omega),aaj c3]at hd;injection hd with hd
  rw[Nat.add_sub_cancel,c3]at ha;have:=qS l x.a8 a ha;rw[<-hd];omega
 rw[aah (by omega),aah c3]at hd;rw[Nat.add_sub_cancel]at ha;have he:m-1+1=m:=by omega
 exact l' h hd (by rw[he];exact ha)
def cM (m:gu):bo:=⟨m.a8,m.fin,m.pat⟩
theorem B7 {m:gu} {day n:Int} (h:dD m day n=true):eV (cM m)=true:=by
 unfold dD at h;simp only[aay]at h;have hp:=h.1.1.1.1.1.2;have hs:=h.1.1.1.1.2;unfold jd at hs;simp only[aay,dS]at hs;exact ep.2 ⟨by show 0<=m.a8;omega,by show m.a8<=1000;omega,by show 0<=m.fin;omega,by show m.fin<=1000;omega,by show m.a8<m.fin;omega,hp⟩
open Classical in
noncomputable def fi (S:List bE) (l:List bo) (x:bo):Bool:=decide (l.length<8)&&decide (eJ S (cI l x))
theorem cz.drop {α:Type} {R:World->Nat->List Value->α->Prop} {size:Nat} {w:World} {B b off n c:Nat} {xs:List α} (h:cz R size w B (.slice (some ⟨b,off,none⟩) n c) xs) (k:Nat) (hk:k<=xs.length):cz R size w B (.slice (some ⟨b,off+k*size,none⟩) (n-k) (c-k)) (xs.drop k):=by
 obtain ⟨A',c',hv,h1,h2,h3⟩:=h;injection hv with e1 e2 e3
 subst e1 e3;refine ⟨_,_,by rw[aaS,e2],by rw[aaS];omega,by omega,λh0=>?_⟩;rw[aaS]at h0;obtain ⟨b',xw,e,hb,hc⟩:=h3 (by omega);injection e with e
 injection e with e1 e2
 subst e1 e2;refine ⟨_,_,rfl,hb,λj x hj=>?_⟩;rw[List.getElem?_drop]at hj;obtain ⟨us,hl,hp,aC⟩:=hc (k+j) x hj;refine ⟨us,hl,hp,λi u hu=>?_⟩;have:=aC i u hu;rw[show off+k*size+j*size+i=off+(k+j)*size+i by rw[Nat.add_mul];omega];exact this
theorem eE.take {w:World} {B n c:Nat} {A:Option Addr} {ls:List bo} (h:eE w B (.slice A n c) ls) (k:Nat) (hk:k<=ls.length):eE w B (.slice A k c) (ls.take k):=by
 obtain ⟨L,rfl,h2,h3⟩:=h;rw[aap]at hk;exact ⟨L.take k,by rw[List.map_take],h2.take k hk,λx hx=>h3 x (aby hx)⟩
theorem eE.drop {w:World} {B b off n c:Nat} {ls:List bo} (h:eE w B (.slice (some ⟨b,off,none⟩) n c) ls) (k:Nat) (hk:k<=ls.length):eE w B (.slice (some ⟨b,off+k*3,none⟩) (n-k) (c-k)) (ls.drop k):=by
 obtain ⟨L,rfl,h2,h3⟩:=h;rw[aap]at hk;exact ⟨L.drop k,by rw[List.map_drop],h2.drop k hk,λx hx=>h3 x (List.mem_of_mem_drop hx)⟩
theorem eE.nil {w:World} {B c:Nat} {A:Option Addr} (hc:c<=maxLen):eE w B (.slice A 0 c) []:=⟨[],rfl,cz.nil _ _ _ _ _ _ hc,λx hx=>by cases hx⟩
theorem GR {w:World} {b base size n:Nat} {e:TypeId} {v:Value} {xs:List Value} (h:w.ownsRow base e size v n xs) (hb:b<=base):w.ownsRow b e size v n xs:=by
 obtain ⟨h1,h2|⟨g',c,kT,e,h3,h4⟩⟩:=h
 ·exact ⟨h1,.inl h2⟩
 exact ⟨h1,.inr ⟨g',c,kT,e,aaB hb h3,h4⟩⟩
theorem fV.less {b base:Nat} {w:World} {g cap:Nat} {L:List bu} (h:fV base w g cap L) (hb:b<=base):fV b w g cap L:=
 ⟨mI _ _,λh=>absurd rfl h,mI _ _,λh=>absurd rfl h,GR h.row hb,λx hx=>⟨(h.nt x hx).1.less hb,(h.nt x hx).2⟩⟩
theorem fV.below {base:Nat} {w w':World} {g cap:Nat} {L:List bu} (h:fV base w g cap L) (hb:Below w.heap.size w w'):fV base w' g cap L:=dL.below h hb
theorem fV.join {base si:Nat} {w w':World} {g cap g2 zM g' fq:Nat} {L M:List bu} (h:fV base w g cap L) (h2:fV si w g2 zM M) (hb:base<=si) (qp:g<si) (hg:w.grownBy w' (some g)) (gd:g'=g\/g'=w.heap.size)
 (bi:w'.ownsRow base 141 3 (.slice (some ⟨g',0,none⟩) (L.length+M.length) fq) (L.length+M.length) (L.flatMap cu++M.flatMap cu)):fV base w' g' fq (L++M):=by
 refine ⟨mI _ _,λh=>absurd rfl h,mI _ _,λh=>absurd rfl h,by rw[aak,abf];exact bi,λx hx=>?_⟩
 have key: ∀(bb:Nat),ay ah x.a.pat bb w x.v->base<=bb->(x.a.pat≠[]->x.v.ownBlock≠some g)->bS x.a.pat->ay ah x.a.pat base w' x.v/\(x.a.pat≠[]->x.v.ownBlock≠some g')/\bS x.a.pat:=λbb ho j7 hn hs=>by
  refine ⟨(ho.less j7).aD (F:=λb=>b=g) (Touch.aW hg (λb hb=>by injection hb with hb;exact hb.symm)) (λb hb e=>hn hb.1 (by rw[hb.2,e])),λh0 e=>?_,hs⟩;rcases gd with e'|e'
  ·rw[e']at e;exact hn h0 e
  obtain ⟨j,hj,h1,h3⟩:=ho.dR h0;rw[hj]at e;injection e with e
  omega
 rcases aau.1 hx with hx|hx
 ·obtain ⟨p1,p2,p3⟩:=h.nt x hx;exact key base p1 (aad _) p2 p3
 obtain ⟨p1,p2,p3⟩:=h2.nt x hx;refine key si p1 hb (λh0 e=>?_) p3;obtain ⟨j,hj,h1,h3⟩:=p1.dR h0;rw[hj]at e;injection e with e
 omega
theorem fV.one {base:Nat} {w:World} {g cap:Nat} {L:List bu} (h:fV base w g cap L): ∀u∈L.flatMap cu,u.oneCell'=true:=λu hu=>by
 obtain ⟨x,hx,hu⟩:=List.mem_flatMap.1 hu;obtain ⟨A,c,hv,_⟩:=(h.nt x hx).1;exact oX hv hu
theorem bM.less {b base:Nat} {w:World} {g cap:Nat} {L:List bu} (h:bM base w g cap L) (hb:b<=base):bM b w g cap L:=⟨fV.less h.st hb,h.two⟩
theorem bM.join {base si:Nat} {w w':World} {g cap g2 zM g' fq:Nat} {L M:List bu} (h:bM base w g cap L) (h2:bM si w g2 zM M) (hb:base<=si) (qp:g<si) (PH: ∀q∈L,∀b,cw.dR q b->b<si) (hg:w.grownBy w' (some g)) (gd:g'=g\/g'=w.heap.size)
 (bi:w'.ownsRow base 141 3 (.slice (some ⟨g',0,none⟩) (L.length+M.length) fq) (L.length+M.length) (L.flatMap cu++M.flatMap cu)):bM base w' g' fq (L++M):=
 ⟨fV.join h.st h2.st hb qp hg gd bi,aaY.2 ⟨h.two,h2.two,λp hp q hq b h1 h3=>by have q1:=PH p hp b h1;have q2:=(h2.dR hq h3).1;omega⟩⟩
theorem ul {l:List bo} (h:bJ l=true) (k:Nat):bJ (l.take k)=true:=by
 refine qT (λa ha=>?_) (λm d a hd ha=>?_) (by have:=eM h;rw[aao];omega)
 ·obtain ⟨j,hj⟩:=aa2 (aby ha);exact fj h hj
 rw[abP]at hd ha
 split at hd
 ·split at ha
  ·exact l' h hd ha
  cases ha
 cases hd
theorem pu {l:List bo} (h:bJ l=true) (k:Nat):bJ (l.drop k)=true:=by
 refine qT (λa ha=>?_) (λm d a hd ha=>?_) (by have:=eM h;rw[aaS];omega)
 ·obtain ⟨j,hj⟩:=aa2 (List.mem_of_mem_drop ha);exact fj h hj
 rw[List.getElem?_drop]at hd ha;exact l' h hd ha
def iB (S:List bE) (ls:List bo) (x:bo) (w:World) (e:Ending) (w':World):Prop:=
 ∃A n c,e= .returned (.tuple #[.slice A n c,.bool (fi S ls x)])/\
  (fi S ls x=true-> ∃L,n=L.length/\L.map (·.a)=cI ls x/\aR cw w.heap.size w' (.slice A n c) L)/\Below w.heap.size w w'
theorem j8 {S:List bE} {ls:List bo} {x:bo} (h8:ls.length<8) (h:eJ S (cI ls x)):fi S ls x=true:=by unfold fi;simp[h8,h]
theorem lN {S:List bE} {ls:List bo} {x:bo} (h: ¬eJ S (cI ls x)):fi S ls x=false:=by unfold fi;simp[h]
theorem um {S:List bE} {ls:List bo} {x:bo} (h: ¬ls.length<8):fi S ls x=false:=by unfold fi;rw[aba h,Bool.false_and]
theorem wA (S:List bE) (ls:List bo) (a:bo) (vs va:Value) (bm om:Nat) (pA:Option Addr) (pc:Nat) (w:World) (hS:iT w w.heap.size vs S) (hA:eE w w.heap.size va ls) (CV:cd S=true) (cy:bJ ls=true) (ha:eV a=true)
 (k2:w.cell? ⟨bm,om+2,none⟩=some (.slice pA a.pat.length pc)) (k3:w.cell? ⟨bm,om+3,none⟩=some (.int .i64 a.a8)) (k4:w.cell? ⟨bm,om+4,none⟩=some (.int .i64 a.fin)) (RA:bg w w.heap.size (.slice pA a.pat.length pc) a.pat):
 Calls prog 184 #[vs,va,.pointer (some ⟨bm,om,none⟩)] w (iB S ls a w):=by
 obtain ⟨A,c,rfl,hc,hm,cn⟩:=dk hA;have IM:=eM cy;have CF:=I (λW (hb:Below w.heap.size w W)=>hA.on hb hb.size);have lE:=I (λW (hb:Below w.heap.size w W)=>(cz.on hS (Pl.stays _) hb hb.size:iT W W.heap.size vs S));have HE:ag (∀W,Below w.heap.size w W->bg W W.heap.size (.slice pA a.pat.length pc) a.pat):=I (λW h=>cz.on RA (Pl.stays _) h h.size);have KU:bm<w.heap.size:=aaL w _ k2;have z2:=λy:ar w=>y.cell k2;have z3:=λy:ar w=>y.cell k3;have z4:=λy:ar w=>y.cell k4;have gH:=I cn;have ii:=I cy;have MZ:=I ha;have OO:=I (lC (ep.1 ha).pat);have oz:=eZ (ep.1 ha).pat;have KV:=I CV;unfold maxLen at hm;obtain ⟨A0,c0',rfl,_⟩:=hS;unfold iB;refine aL λx0=>?_;clear hA cn CV cy ha RA;by_cases h8:ls.length<8
 case neg=>
  have eA:(8:Int)<=(ls.length:Int):=by omega
  have HN:=um (S:=S) (x:=a) h8;rw[HN];clear HN;go_enter func184,ntmps184;go_wp2;go_ret2;exact ⟨_,_,_,rfl,(λh=>by cases h),x0.ok⟩
 have Zi: ¬(8:Int)<=(ls.length:Int):=by omega
 have KP:=I k2;have S6:=I k3;have S7:=I k4;clear k2 k3 k4;go_enter func184,ntmps184;go_wp2;go_loopw [8] (λi wr=> ∃(k:Nat) (y:ar w),k<=ls.length/\i= .int .i64 (k:Int)/\wr=y.val/\(∀j b,ls[j]?=some b->j<k->b.a8<=a.a8)) (λi _=>ls.length-(intOf i).toNat);case atStart=>exact ⟨0,x0,aaf _,rfl,rfl,λj b _ hj=>absurd hj (aa' _)⟩
 case round=>
  obtain ⟨k,y,hk,rfl,rfl,RB⟩:=hrel;have D3:=I RB;clear RB;by_cases aI:k<ls.length
  ·obtain ⟨b,off,hA,hb,aC⟩:=gH.o (by omega);subst hA;have aH:ls[k]?=some ls[k]:=aag aI;obtain ⟨pv,c0,_,_,_⟩:=aC k _ aH;have x1:=λy:ar w=>y.cell c0;have HG:=I aH;have Hl:(k:Int)<(ls.length:Int):=by omega
   clear aH c0 aC;generalize ls[k]=q at*;by_cases hq:q.a8<=a.a8
   ·have hd:decide (q.a8<=a.a8)=true:=by simp[hq]
    have HN:ag (∀j b,ls[j]?=some b->j<k+1->b.a8<=a.a8):=I (λj b hj KI=>by
     by_cases e:j=k
     ·subst e;rw[HG.o]at hj;injection hj with hj
      rw[<-hj];exact hq
     exact D3.o j b hj (by omega))
    go_upto_region 4 with (fail)
    refine ap (by kernel_rfl) (by kernel_rfl) ?_
    repeat (go_big_quiet_step (fail))
    refine aai ?_;rintro _ ⟨u,rfl⟩;go_wp2;go_roundw;case rel=>exact ⟨k+1,u,by omega,by go_num,rfl,HN.o⟩
    case measure=>simp[intOf];omega
   have hd:decide (q.a8<=a.a8)=false:=by simp;omega
   go_upto_region 4 with (fail)
   refine ap (by kernel_rfl) (by kernel_rfl) ?_
   repeat (go_big_quiet_step (fail))
   refine aai ?_;rintro _ ⟨u,rfl⟩;clear x1;have uK:ag (cG ls a.a8=k):=I (nN hk D3.o (Or.inr ⟨q,HG.o,hq⟩));have jh:=I (lk (ls.take k) u.val _ ((CF.o _ u.ok).take k hk) (ul ii.o k));have Zj:(k:Int)<=(c:Int):=by omega
   have jA:(0:Int)<=(k:Int):=by omega
   unfold uk at jh;have uo:=I u.ok;go_wp2_with (fail);refine jh.o.mono ?_;rintro e w3 ⟨g,cap,L,rfl,nJ,hD,dB⟩
   have tf:L.length=k:=by
    have:=congrArg List.length nJ;rw[aap,aao]at this;omega
   have HD:=I (hD.less uo.o.size);have HB:=I (uo.o.trans (dB.mono uo.o.size));have wh:=I nJ;have OP:=(hD.row.lt g rfl).1;have U1:=uo.o.size;have kd:bm≠g:=by omega
   have x0:=(HB.o.cell (p:=⟨bm,om+3,none⟩) KU).trans S6.o;have x1:=(HB.o.cell (p:=⟨bm,om+4,none⟩) KU).trans S7.o;have x2:=(HB.o.cell (p:=⟨bm,om+2,none⟩) KU).trans KP.o;have B5:=HD;have gf:=HB;obtain ⟨i0,hi,dK,rF,ek⟩:=aaq kf;obtain ⟨e0,po,pq,pr,mu⟩:=aaq oG;clear nJ hD dB U1 OP z2 z3 z4;go_wp2_with (fail);have lX:w3.heap.size=w3.heap.size:=by simp
   have Ot:g<w3.heap.size:=by have:=(B5.o.row.lt g rfl).2;rw[lX]at this;exact this
   have Eh:w.heap.size<=w3.heap.size:=by have:=gf.o.size;rw[lX]at this;exact this
   have bw:Below w3.heap.size w3 (w3.alloc (.cells #[] 174)).drew:=((aae _ _).alloc (by rw[lX];exact aad _) _).drew;have wz:w3.heap.size<=(w3.alloc (.cells #[] 174)).drew.heap.size:=by rw[<-lX];exact bw.size
   have da:=I bw;have fe:(w3.alloc (.cells #[] 174)).ownsRow w3.heap.size 174 4 (.slice (some ⟨w3.heap.size,0,none⟩) 0 0) 0 []:=by rw[<-lX];simpa using aaz w3 #[] 0 (aad _) (aaf _) rfl
   have gW:=I fe.drew;have tN:=I (HE.o _ (gf.o.trans (bw.mono Eh)));clear fe bw;have fG:=tf
   try rw[tf]
   go_region_held3 (λw'=>w'.cell? ⟨bm,om+3,none⟩=some (.int .i64 a.a8)/\w'.cell? ⟨bm,om+4,none⟩=some (.int .i64 a.fin)/\w'.cell? ⟨bm,om+2,none⟩=some (.slice pA a.pat.length pc))
    (first|exact ⟨x0,x1,x2⟩|exact fH ⟨x0,x1,x2⟩ ((aae _ _).drew)|exact fH ⟨x0,x1,x2⟩ ((aae _ _).alloc (aad _) _)|exact fH ⟨x0,x1,x2⟩ (((aae _ _).alloc (aad _) _).drew)|exact kD ⟨x0,x1,x2⟩ dy.o lX|exact fH (kD ⟨x0,x1,x2⟩ dy.o lX) ((aae _ _).alloc (aad _) _)|exact Br (fH (kD ⟨x0,x1,x2⟩ dy.o lX) ((aae _ _).alloc (aad _) _)) aA kd kd kd|go_keep)
    (first
     |(refine gL ah (by rfl) _ _ 32 (by rfl) w3.heap.size 174 e0 (.agg #[.int .i64 0,.int .i64 0,.string ⟨#[]⟩,.string ⟨#[]⟩]) 4 48 underlying32 po pq pr mu rfl (by decide) _ _ _ (by rfl) gW.o _ a.pat _ (by rfl) tN.o (λ_=>rfl) (λy u hu=>cJ hu) (by unfold maxLen;omega) (by omega) wz ?_
       intro v2 w2 aY aw cY;have ju:ag (ay ah a.pat w3.heap.size w2 v2):=I (ay.bI ah (size:=4) (λ_=>rfl) (by simpa using aY));have dy:ag (Below w3.heap.size w3 w2):=I (da.o.grown aw wz (λj hj=>(gW.o.lt j hj).1));have Ei:=I (bM.below B5.o (by rw[lX];exact dy.o));have my:=I (gf.o.trans (dy.o.mono Eh))
       have D9:ag (a.pat≠[]->v2.ownBlock≠some g):=I (λh0 e=>by
        obtain ⟨j,hj,h1,_⟩:=ju.o.dR h0;rw[hj]at e;injection e with e
        omega)
       obtain ⟨A2,c2,rfl,_⟩:=ju.o
       have MU:ag (∀b,cx a.pat (.slice A2 a.pat.length c2) b-> ∀q∈L,¬cw.dR q b):=I (λb hb q hq mq=>by
        have q1:=(ay.dw ju.o hb).1;have q2:=(B5.o.dR hq mq).2;rw[lX]at q2;omega)
       have pS:=I (ju.o.less Eh);have ri:Below w2.heap.size w2 (w2.alloc (.cells #[.int .i64 a.a8,.int .i64 a.fin,.slice A2 a.pat.length c2] 141)):=(aae _ _).alloc (aad _) _;have LX:=I (bM.below Ei.o ri);have LY:=I (pS.o.on ri);have fv:=I (Ei.o.row.alloc (.cells #[.int .i64 a.a8,.int .i64 a.fin,.slice A2 a.pat.length c2] 141));rw[fG]at fv;clear aY aw cY ri)
     |(refine er (by rfl) _ _ 26 (by rfl) w.heap.size 141 i0 (.agg #[.int .i64 0,.int .i64 0,.slice none 0 0]) 3 40 underlying26 hi dK rF ek rfl (by decide) _ _ _ (by rfl) fv.o ⟨w2.heap.size,0,none⟩ 1 1 (cu ⟨⟨a.a8,a.fin,a.pat⟩,.slice A2 a.pat.length c2⟩) (by rfl) (by rfl) (λj u hj=>by have:=(Row.new w2 (cu ⟨⟨a.a8,a.fin,a.pat⟩,.slice A2 a.pat.length c2⟩).toArray 141).cell j u (by simpa using hj);rw[aaQ,aan];exact this) (λu hu=>oX rfl hu) (by unfold maxLen;omega) (by omega) (aS my.o.size) ?_
       intro v' w9 aG aA aU gd;obtain ⟨g',fq,rfl,qh,lB⟩:=bG aG (by simpa using aU);clear aU))
   have CJ:=I (LX.o.push (x:=⟨⟨a.a8,a.fin,a.pat⟩,.slice A2 a.pat.length c2⟩) aA (by rcases gd with h|h<;>injection h with h;exact .inl h;exact .inr (by simpa using h)) (by rw[fG];exact aG) LY.o D9.o OO.o MU.o);have iM:=I ((my.o.alloc my.o.size (.cells #[.int .i64 a.a8,.int .i64 a.fin,.slice A2 a.pat.length c2] 141)).grown aA (aS my.o.size) (λj hj=>(fv.o.lt j hj).1));clear aG aA gd;obtain ⟨X,hX⟩: ∃X,X=L++[(⟨⟨a.a8,a.fin,a.pat⟩,.slice A2 a.pat.length c2⟩:bu)]:=⟨_,rfl⟩
   rw[<-hX]at CJ;have Th:ag (X.map (·.a)=ls.take k++[a]):=I (by rw[hX,aaK,wh.o];rfl);have Ao:ag (X.length=k+1):=I (by rw[hX,aak,tf];rfl);clear hX x0 x1 x2 B5 LX LY D9 fv HD Ei ju dy pS my;have EM: ¬c=k:=by omega
   have GU:=I (CF.o w9 iM.o);go_wp2_with (fail);refine (lk (ls.drop k) w9 _ (eE.drop GU.o k hk) (pu ii.o k)).mono ?_;rintro e Ti ⟨g2,zM,M,rfl,hM,uP,wB⟩;have B9:=I (bM.below CJ.o wB);have Ca:=I (iM.o.trans (wB.mono iM.o.size));have pO:=I hM
   have SR:M.length<=8:=by
    have:=congrArg List.length hM;rw[aap,aaS]at this;omega
   have xG:=I uP;have wC:=I B9.o.row;rw[Ao.o]at wC;have KW:=(CJ.o.row.lt g' rfl).2;have RC:=iM.o.size;have Cb:=Ca.o.size;clear hM uP wB GU;go_wp2_with (at_builtin;refine aaH _ rfl _ _ 26 rfl w.heap.size 141 i0 (.agg #[.int .i64 0,.int .i64 0,.slice none 0 0]) 3 40 underlying26 hi dK rF ek rfl (by decide) _ _ _ rfl wC.o ⟨g2,0,none⟩ M.length zM (M.flatMap cu) rfl ?c1 ?c2 ?c5 ?c3 ?c4 Cb ?_);case c1=>exact bp cu (λ_=>rfl) M
   case c2=>exact xG.o.row.cells (g:=g2) rfl
   case c5=>exact fV.one xG.o.st
   case c3=>unfold maxLen;omega
   case c4=>omega
   intro WO KX aG aA aU gd;obtain ⟨g11,M1,rfl,qh,lB⟩:=bG aG (by simpa using aU);have Cc:=I (bM.join B9.o xG.o RC KW (λq hq b mq=>(CJ.o.dR hq mq).2) aA (by rcases gd with h|h<;>injection h with h;exact .inl h;exact .inr h) (by rw[Ao.o];exact aG));have wD:=I (Ca.o.grown aA Cb (λj hj=>(wC.o.lt j hj).1))
   have M2:ag ((X++M).map (·.a)=cI ls a):=I (by
    rw[aaK,Th.o,pO.o];unfold cI;rw[uK.o];simp)
   have J2:ag ((X++M).length=k+1+M.length):=I (by rw[aak,Ao.o]);have yK:=dL.av Cc.o.st;rw[M2.o,J2.o]at yK;have rj:=I (mb S (cI ls a) KX _ _ (lE.o KX wD.o) yK KV.o (jp ii.o MZ.o h8));unfold ff at rj;clear aG aA aU gd yK;go_wp2_with (fail);refine rj.o.mono ?_;rintro e Tj ⟨g12,M3,n12,rfl,kM,aU,sj⟩;have Cd:=I (wD.o.trans (sj.mono wD.o.size));by_cases ol:n12=0
   ·have jS:ag (fi S ls a=true):=I (j8 h8 (aU.1 ol));have J3:=I (bM.below Cc.o sj);subst ol;clear aU sj;go_wp2;go_ret2;exact ⟨_,_,_,by rw[jS.o];rfl,λ_=>⟨X++M,J2.o.symm,M2.o,by have:=J3.o.tree;rw[J2.o]at this;exact this⟩,Cd.o⟩
   have jS:ag (fi S ls a=false):=I (lN (λh=>ol (aU.2 h)));have Hh:(0:Int)<(n12:Int):=by omega
   clear aU sj ol;go_wp2;go_ret2;exact ⟨_,_,_,by rw[jS.o];rfl,(λh=>by rw[jS.o]at h;cases h),Cd.o⟩
  have eA: ¬(k:Int)<(ls.length:Int):=by omega
  go_upto_region 4 with (fail)
  refine ap (by kernel_rfl) (by kernel_rfl) ?_
  repeat (go_big_quiet_step (fail))
  refine aai ?_;rintro _ ⟨u,rfl⟩;have uK:ag (cG ls a.a8=k):=I (nN hk D3.o (Or.inl (by omega)));have jh:=I (lk (ls.take k) u.val _ ((CF.o _ u.ok).take k hk) (ul ii.o k));have Zj:(k:Int)<=(c:Int):=by omega
  have jA:(0:Int)<=(k:Int):=by omega
  unfold uk at jh;have uo:=I u.ok;go_wp2_with (fail);refine jh.o.mono ?_;rintro e w3 ⟨g,cap,L,rfl,nJ,hD,dB⟩
  have tf:L.length=k:=by
   have:=congrArg List.length nJ;rw[aap,aao]at this;omega
  have HD:=I (hD.less uo.o.size);have HB:=I (uo.o.trans (dB.mono uo.o.size));have wh:=I nJ;have OP:=(hD.row.lt g rfl).1;have U1:=uo.o.size;have kd:bm≠g:=by omega
  have x0:=(HB.o.cell (p:=⟨bm,om+3,none⟩) KU).trans S6.o;have x1:=(HB.o.cell (p:=⟨bm,om+4,none⟩) KU).trans S7.o;have x2:=(HB.o.cell (p:=⟨bm,om+2,none⟩) KU).trans KP.o;have B5:=HD;have gf:=HB;obtain ⟨i0,hi,dK,rF,ek⟩:=aaq kf;obtain ⟨e0,po,pq,pr,mu⟩:=aaq oG;clear nJ hD dB U1 OP z2 z3 z4;go_wp2_with (fail);have lX:w3.heap.size=w3.heap.size:=by simp
  have Ot:g<w3.heap.size:=by have:=(B5.o.row.lt g rfl).2;rw[lX]at this;exact this
  have Eh:w.heap.size<=w3.heap.size:=by have:=gf.o.size;rw[lX]at this;exact this
  have bw:Below w3.heap.size w3 (w3.alloc (.cells #[] 174)).drew:=((aae _ _).alloc (by rw[lX];exact aad _) _).drew;have wz:w3.heap.size<=(w3.alloc (.cells #[] 174)).drew.heap.size:=by rw[<-lX];exact bw.size
  have da:=I bw;have fe:(w3.alloc (.cells #[] 174)).ownsRow w3.heap.size 174 4 (.slice (some ⟨w3.heap.size,0,none⟩) 0 0) 0 []:=by rw[<-lX];simpa using aaz w3 #[] 0 (aad _) (aaf _) rfl
  have gW:=I fe.drew;have tN:=I (HE.o _ (gf.o.trans (bw.mono Eh)));clear fe bw;have fG:=tf
  try rw[tf]
  go_region_held3 (λw'=>w'.cell? ⟨bm,om+3,none⟩=some (.int .i64 a.a8)/\w'.cell? ⟨bm,om+4,none⟩=some (.int .i64 a.fin)/\w'.cell? ⟨bm,om+2,none⟩=some (.slice pA a.pat.length pc))
   (first|exact ⟨x0,x1,x2⟩|exact fH ⟨x0,x1,x2⟩ ((aae _ _).drew)|exact fH ⟨x0,x1,x2⟩ ((aae _ _).alloc (aad _) _)|exact fH ⟨x0,x1,x2⟩ (((aae _ _).alloc (aad _) _).drew)|exact kD ⟨x0,x1,x2⟩ dy.o lX|exact fH (kD ⟨x0,x1,x2⟩ dy.o lX) ((aae _ _).alloc (aad _) _)|exact Br (fH (kD ⟨x0,x1,x2⟩ dy.o lX) ((aae _ _).alloc (aad _) _)) aA kd kd kd|go_keep)
   (first
    |(refine gL ah (by rfl) _ _ 32 (by rfl) w3.heap.size 174 e0 (.agg #[.int .i64 0,.int .i64 0,.string ⟨#[]⟩,.string ⟨#[]⟩]) 4 48 underlying32 po pq pr mu rfl (by decide) _ _ _ (by rfl) gW.o _ a.pat _ (by rfl) tN.o (λ_=>rfl) (λy u hu=>cJ hu) (by unfold maxLen;omega) (by omega) wz ?_
      intro v2 w2 aY aw cY;have ju:ag (ay ah a.pat w3.heap.size w2 v2):=I (ay.bI ah (size:=4) (λ_=>rfl) (by simpa using aY));have dy:ag (Below w3.heap.size w3 w2):=I (da.o.grown aw wz (λj hj=>(gW.o.lt j hj).1));have Ei:=I (bM.below B5.o (by rw[lX];exact dy.o));have my:=I (gf.o.trans (dy.o.mono Eh))
      have D9:ag (a.pat≠[]->v2.ownBlock≠some g):=I (λh0 e=>by
       obtain ⟨j,hj,h1,_⟩:=ju.o.dR h0;rw[hj]at e;injection e with e
       omega)
      obtain ⟨A2,c2,rfl,_⟩:=ju.o
      have MU:ag (∀b,cx a.pat (.slice A2 a.pat.length c2) b-> ∀q∈L,¬cw.dR q b):=I (λb hb q hq mq=>by
       have q1:=(ay.dw ju.o hb).1;have q2:=(B5.o.dR hq mq).2;rw[lX]at q2;omega)
      have pS:=I (ju.o.less Eh);have ri:Below w2.heap.size w2 (w2.alloc (.cells #[.int .i64 a.a8,.int .i64 a.fin,.slice A2 a.pat.length c2] 141)):=(aae _ _).alloc (aad _) _;have LX:=I (bM.below Ei.o ri);have LY:=I (pS.o.on ri);have fv:=I (Ei.o.row.alloc (.cells #[.int .i64 a.a8,.int .i64 a.fin,.slice A2 a.pat.length c2] 141));rw[fG]at fv;clear aY aw cY ri)
    |(refine er (by rfl) _ _ 26 (by rfl) w.heap.size 141 i0 (.agg #[.int .i64 0,.int .i64 0,.slice none 0 0]) 3 40 underlying26 hi dK rF ek rfl (by decide) _ _ _ (by rfl) fv.o ⟨w2.heap.size,0,none⟩ 1 1 (cu ⟨⟨a.a8,a.fin,a.pat⟩,.slice A2 a.pat.length c2⟩) (by rfl) (by rfl) (λj u hj=>by have:=(Row.new w2 (cu ⟨⟨a.a8,a.fin,a.pat⟩,.slice A2 a.pat.length c2⟩).toArray 141).cell j u (by simpa using hj);rw[aaQ,aan];exact this) (λu hu=>oX rfl hu) (by unfold maxLen;omega) (by omega) (aS my.o.size) ?_
      intro v' w9 aG aA aU gd;obtain ⟨g',fq,rfl,qh,lB⟩:=bG aG (by simpa using aU);clear aU))
  have CJ:=I (LX.o.push (x:=⟨⟨a.a8,a.fin,a.pat⟩,.slice A2 a.pat.length c2⟩) aA (by rcases gd with h|h<;>injection h with h;exact .inl h;exact .inr (by simpa using h)) (by rw[fG];exact aG) LY.o D9.o OO.o MU.o);have iM:=I ((my.o.alloc my.o.size (.cells #[.int .i64 a.a8,.int .i64 a.fin,.slice A2 a.pat.length c2] 141)).grown aA (aS my.o.size) (λj hj=>(fv.o.lt j hj).1));clear aG aA gd;obtain ⟨X,hX⟩: ∃X,X=L++[(⟨⟨a.a8,a.fin,a.pat⟩,.slice A2 a.pat.length c2⟩:bu)]:=⟨_,rfl⟩
  rw[<-hX]at CJ;have Th:ag (X.map (·.a)=ls.take k++[a]):=I (by rw[hX,aaK,wh.o];rfl);have Ao:ag (X.length=k+1):=I (by rw[hX,aak,tf];rfl);clear hX x0 x1 x2 B5 LX LY D9 fv HD Ei ju dy pS my;have qg:k=ls.length:=by omega
  have CK:ag (ls.drop k=[]):=I (by rw[qg,List.drop_length]);have M4:ls.length-k=0:=by omega
  clear qg;by_cases EM:c=k
  ·have OQ:ag (∀(A:Option Addr) (cc:Nat),cc<=maxLen->eE w9 w9.heap.size (.slice A 0 cc) (ls.drop k)):=I (λA cc CE=>by rw[CK.o];exact eE.nil CE);have GU:=I (CF.o w9 iM.o);go_wp2_with (fail);refine (lk (ls.drop k) w9 _ (OQ.o _ _ (by first|exact aaf _|(unfold maxLen;omega))) (pu ii.o k)).mono ?_;rintro e Ti ⟨g2,zM,M,rfl,hM,uP,wB⟩;have B9:=I (bM.below CJ.o wB);have Ca:=I (iM.o.trans (wB.mono iM.o.size));have pO:=I hM
   have SR:M.length<=8:=by
    have:=congrArg List.length hM;rw[aap,aaS]at this;omega
   have xG:=I uP;have wC:=I B9.o.row;rw[Ao.o]at wC;have KW:=(CJ.o.row.lt g' rfl).2;have RC:=iM.o.size;have Cb:=Ca.o.size;clear hM uP wB GU;go_wp2_with (at_builtin;refine aaH _ rfl _ _ 26 rfl w.heap.size 141 i0 (.agg #[.int .i64 0,.int .i64 0,.slice none 0 0]) 3 40 underlying26 hi dK rF ek rfl (by decide) _ _ _ rfl wC.o ⟨g2,0,none⟩ M.length zM (M.flatMap cu) rfl ?c1 ?c2 ?c5 ?c3 ?c4 Cb ?_);case c1=>exact bp cu (λ_=>rfl) M
   case c2=>exact xG.o.row.cells (g:=g2) rfl
   case c5=>exact fV.one xG.o.st
   case c3=>unfold maxLen;omega
   case c4=>omega
   intro WO KX aG aA aU gd;obtain ⟨g11,M1,rfl,qh,lB⟩:=bG aG (by simpa using aU);have Cc:=I (bM.join B9.o xG.o RC KW (λq hq b mq=>(CJ.o.dR hq mq).2) aA (by rcases gd with h|h<;>injection h with h;exact .inl h;exact .inr h) (by rw[Ao.o];exact aG));have wD:=I (Ca.o.grown aA Cb (λj hj=>(wC.o.lt j hj).1))
   have M2:ag ((X++M).map (·.a)=cI ls a):=I (by
    rw[aaK,Th.o,pO.o];unfold cI;rw[uK.o];simp)
   have J2:ag ((X++M).length=k+1+M.length):=I (by rw[aak,Ao.o]);have yK:=dL.av Cc.o.st;rw[M2.o,J2.o]at yK;have rj:=I (mb S (cI ls a) KX _ _ (lE.o KX wD.o) yK KV.o (jp ii.o MZ.o h8));unfold ff at rj;clear aG aA aU gd yK;go_wp2_with (fail);refine rj.o.mono ?_;rintro e Tj ⟨g12,M3,n12,rfl,kM,aU,sj⟩;have Cd:=I (wD.o.trans (sj.mono wD.o.size));by_cases ol:n12=0
   ·have jS:ag (fi S ls a=true):=I (j8 h8 (aU.1 ol));have J3:=I (bM.below Cc.o sj);subst ol;clear aU sj;go_wp2;go_ret2;exact ⟨_,_,_,by rw[jS.o];rfl,λ_=>⟨X++M,J2.o.symm,M2.o,by have:=J3.o.tree;rw[J2.o]at this;exact this⟩,Cd.o⟩
   have jS:ag (fi S ls a=false):=I (lN (λh=>ol (aU.2 h)));have Hh:(0:Int)<(n12:Int):=by omega
   clear aU sj ol;go_wp2;go_ret2;exact ⟨_,_,_,by rw[jS.o];rfl,(λh=>by rw[jS.o]at h;cases h),Cd.o⟩
  have OQ:ag (∀(A:Option Addr) (cc:Nat),cc<=maxLen->eE w9 w9.heap.size (.slice A 0 cc) (ls.drop k)):=I (λA cc CE=>by rw[CK.o];exact eE.nil CE);have GU:=I (CF.o w9 iM.o);go_wp2_with (fail);refine (lk (ls.drop k) w9 _ (OQ.o _ _ (by first|exact aaf _|(unfold maxLen;omega))) (pu ii.o k)).mono ?_;rintro e Ti ⟨g2,zM,M,rfl,hM,uP,wB⟩;have B9:=I (bM.below CJ.o wB);have Ca:=I (iM.o.trans (wB.mono iM.o.size));have pO:=I hM
  have SR:M.length<=8:=by
   have:=congrArg List.length hM;rw[aap,aaS]at this;omega
  have xG:=I uP;have wC:=I B9.o.row;rw[Ao.o]at wC;have KW:=(CJ.o.row.lt g' rfl).2;have RC:=iM.o.size;have Cb:=Ca.o.size;clear hM uP wB GU;go_wp2_with (at_builtin;refine aaH _ rfl _ _ 26 rfl w.heap.size 141 i0 (.agg #[.int .i64 0,.int .i64 0,.slice none 0 0]) 3 40 underlying26 hi dK rF ek rfl (by decide) _ _ _ rfl wC.o ⟨g2,0,none⟩ M.length zM (M.flatMap cu) rfl ?c1 ?c2 ?c5 ?c3 ?c4 Cb ?_);case c1=>exact bp cu (λ_=>rfl) M
  case c2=>exact xG.o.row.cells (g:=g2) rfl
  case c5=>exact fV.one xG.o.st
  case c3=>unfold maxLen;omega
  case c4=>omega
  intro WO KX aG aA aU gd;obtain ⟨g11,M1,rfl,qh,lB⟩:=bG aG (by simpa using aU);have Cc:=I (bM.join B9.o xG.o RC KW (λq hq b mq=>(CJ.o.dR hq mq).2) aA (by rcases gd with h|h<;>injection h with h;exact .inl h;exact .inr h) (by rw[Ao.o];exact aG));have wD:=I (Ca.o.grown aA Cb (λj hj=>(wC.o.lt j hj).1))
  have M2:ag ((X++M).map (·.a)=cI ls a):=I (by
   rw[aaK,Th.o,pO.o];unfold cI;rw[uK.o];simp)
  have J2:ag ((X++M).length=k+1+M.length):=I (by rw[aak,Ao.o]);have yK:=dL.av Cc.o.st;rw[M2.o,J2.o]at yK;have rj:=I (mb S (cI ls a) KX _ _ (lE.o KX wD.o) yK KV.o (jp ii.o MZ.o h8));unfold ff at rj;clear aG aA aU gd yK;go_wp2_with (fail);refine rj.o.mono ?_;rintro e Tj ⟨g12,M3,n12,rfl,kM,aU,sj⟩;have Cd:=I (wD.o.trans (sj.mono wD.o.size));by_cases ol:n12=0
  ·have jS:ag (fi S ls a=true):=I (j8 h8 (aU.1 ol));have J3:=I (bM.below Cc.o sj);subst ol;clear aU sj;go_wp2;go_ret2;exact ⟨_,_,_,by rw[jS.o];rfl,λ_=>⟨X++M,J2.o.symm,M2.o,by have:=J3.o.tree;rw[J2.o]at this;exact this⟩,Cd.o⟩
  have jS:ag (fi S ls a=false):=I (lN (λh=>ol (aU.2 h)));have Hh:(0:Int)<(n12:Int):=by omega
  clear aU sj ol;go_wp2;go_ret2;exact ⟨_,_,_,by rw[jS.o];rfl,(λh=>by rw[jS.o]at h;cases h),Cd.o⟩
structure qU where
 a8:Int
 fin:Int
 A:Option Addr
 n:Nat
 c:Nat
def aX (x:qU):List Value:=[.int .i64 x.a8,.int .i64 x.fin,.slice x.A x.n x.c]
theorem sk {x:qU} {u:Value} (hu:u∈aX x):u.oneCell'=true:=by
 unfold aX at hu;simp only[aaF,List.not_mem_nil,or_false]at hu;rcases hu with rfl|rfl|rfl<;>rfl
def iO {α:Type} (f:α->List Value) (e:TypeId) (size base g n:Nat) (R:List α) (w:World) (en:Ending) (w':World):Prop:=
 ∃v,en= .returned v/\w'.ownsRow base e size v n (R.flatMap f)/\v≠ .slice none 0 0/\(v.ownBlock=some g\/v.ownBlock=some w.heap.size)/\iJ g w w'
theorem J4 (L:List qU) (a:qU) (base g n cap vb vc:Nat) (w:World) (_hn:L.length=n) (rE:n<=1000000) (cr:w.ownsRow base 141 3 (.slice (some ⟨g,0,none⟩) n cap) n (L.flatMap aX)) (hv:jR w vb 141 (aX a)) (qf:base<=w.heap.size):
 Calls prog 171 #[.slice (some ⟨g,0,none⟩) n cap,.int .i64 n,.slice (some ⟨vb,0,none⟩) 1 vc] w (iO aX 141 3 base g (n+1) (L++[a]) w):=by
 obtain ⟨T,hB,hC,xy,nj,kd,sY⟩:=dH cr;unfold maxLen at nj;have HV:ag (∀j u,(aX a)[j]?=some u->w.cell? ((⟨vb,0,none⟩:Addr).add j)=some u):=I (λj u hj=>by rw[aaQ,hv.cell,aan];exact hj);have eH:=I cr;obtain ⟨i0,hi,dK,ez,ek⟩:=aaq kf;clear hB hC kd sY cr hv _hn;by_cases EM:cap=n
 ·subst EM;go_enter func171,ntmps171;go_wp2_with (at_builtin;refine aaH _ rfl _ _ 26 rfl base 141 i0 (.agg #[.int .i64 0,.int .i64 0,.slice none 0 0]) 3 40 underlying26 hi dK ez ek rfl (by decide) _ _ _ rfl eH.o ⟨vb,0,none⟩ 1 vc (aX a) rfl rfl HV.o (λu hu=>sk hu) ?c3 ?c4 qf ?_);case c3=>unfold maxLen;omega
  case c4=>omega
  intro v' w5 aG aA aU iH;have HO:=I aG;have Da:ag (v'≠ .slice none 0 0):=I (by simpa using aU);have HG:=I aA;have uK:=I iH;clear aG aA aU iH;go_wp2;go_ret;exact ⟨v',rfl,by rw[cq];exact HO.o,Da.o,uK.o,HG.o⟩
 go_enter func171,ntmps171;go_wp2_with (at_builtin;refine aaH _ rfl _ _ 26 rfl base 141 i0 (.agg #[.int .i64 0,.int .i64 0,.slice none 0 0]) 3 40 underlying26 hi dK ez ek rfl (by decide) _ _ _ rfl eH.o ⟨vb,0,none⟩ 1 vc (aX a) rfl rfl HV.o (λu hu=>sk hu) ?c3 ?c4 qf ?_);case c3=>unfold maxLen;omega
 case c4=>omega
 intro v' w5 aG aA aU iH;have HO:=I aG;have Da:ag (v'≠ .slice none 0 0):=I (by simpa using aU);have HG:=I aA;have uK:=I iH;clear aG aA aU iH;go_wp2;go_ret;exact ⟨v',rfl,by rw[cq];exact HO.o,Da.o,uK.o,HG.o⟩
theorem J5 (L:List qU) (a:qU) (i base g n cap vb vc:Nat) (w:World) (hn:L.length=n) (hi:i<n) (l7:cap<n+1) (rE:n<=1000000) (cr:w.ownsRow base 141 3 (.slice (some ⟨g,0,none⟩) n cap) n (L.flatMap aX)) (hv:jR w vb 141 (aX a)) (qf:base<=w.heap.size):
 Calls prog 171 #[.slice (some ⟨g,0,none⟩) n cap,.int .i64 i,.slice (some ⟨vb,0,none⟩) 1 vc] w (iO aX 141 3 base g (n+1) (L.take i++a::L.drop i) w):=by
 obtain ⟨T,hB,hC,xy,nj,kd,sY⟩:=dH cr;unfold maxLen at nj;have jE: ∀x:qU,(aX x).length=3:=λ_=>rfl;have sZ: ∀x:qU,∀v∈aX x,v.oneCell'=true:=λx v hv=>sk hv;obtain ⟨i0,AN,dK,qd,zc⟩:=aaq kf;have ja:(prog.info? 141).map (·.size)=some 3:=by rw[AN];simp[qd]
 have hold:(Builtin.firstCells i0.size i (.slice (some ⟨g,0,none⟩) i cap)).run prog w.drew= .ok ((L.take i).flatMap aX).toArray w.drew:=by
  rw[qd]
  exact run_firstCells_some w.drew 3 i ⟨g,0,none⟩ i cap ((L.take i).flatMap aX) (by rw[bp (k:=3) aX jE,aao,aaP (by omega)]) (λj v hj=>by
   rw[aaQ,hB.drew.cell,aan,gA aX L i,aaI,aaW (aal.1 hj).1];exact hj)
 obtain ⟨G,hG⟩: ∃G,G=grownCap w (n+1) cap 141:=⟨_,rfl⟩
 have TI:n+1<=G:=by rw[hG];exact grownCap_ge w _ _ _
 have Iw:G<=maxLen:=by rw[hG];exact grownCap_le_maxLen w (n+1) cap _ (by unfold maxLen;omega)
 obtain ⟨Z,hZ⟩: ∃Z:List Value,Z=(Builtin.zeroCells (Value.agg #[.int .i64 0,.int .i64 0,.slice none 0 0]).cells (n+1-i)++Builtin.zeroCells (Value.agg #[.int .i64 0,.int .i64 0,.slice none 0 0]).cells (G-(n+1))).toList:=⟨_,rfl⟩
 have Qw:Z.length=(G-i)*3:=by
  rw[hZ];simp[Builtin.zeroCells,Value.cells];omega
 obtain ⟨W1,eG⟩: ∃W1,W1=w.drew.alloc (.cells ((L.take i).flatMap aX++Z).toArray 141):=⟨_,rfl⟩
 have uu:(n:Int)+1-(i:Int)=((n+1-i:Nat):Int):=by omega
 have NE:i+(n+1-i)=n+1:=by omega
 have TJ: ∀ty,(Builtin.append_ #[26,3] ty #[.slice (some ⟨g,0,none⟩) i cap,.int .i64 ((n:Int)+1-(i:Int))]).run prog w= .ok (.slice (some ⟨w.heap.size,0,none⟩) (n+1) G) W1:=λty=>by
  have h:=Lib.run_append_grow_zeros (P:=prog) w 26 3 ty 141 i0 _ .i64 .i64 underlying26 underlying3 AN dK (some ⟨g,0,none⟩) i cap ((L.take i).flatMap aX) hold (n+1-i) (by omega) (by omega) (by omega) (by omega) (by rw[zc];omega) (by rw[zc,NE];exact growslice_fits l7 (by omega));rw[NE,<-hG]at h;rw[uu,h,eG,hZ]
  congr 3
  apply Array.ext';simp
 have kA:jR W1 w.heap.size 141 ((L.take i).flatMap aX++Z):=by
  rw[eG];exact ly w.drew _
 have mE:((L.take i).flatMap aX++Z).length=G*3:=by
  rw[aak,bp (k:=3) aX jE,aao,aaP (by omega),Qw];omega
 have iV:w.grownBy W1 none:=by
  rw[eG];exact ⟨rfl,rfl,rfl,by simp,λk hk _=>heap_alloc_old w.drew _ hk⟩
 have TK:g≠w.heap.size:=by have:=hB.lt;omega
 have XX:vb≠w.heap.size:=by have:=hv.lt;omega
 have Dc:jR W1 vb 141 (aX a):=hv.grown iV (by simp);obtain ⟨W2,im⟩: ∃W2,W2=W1.setCells w.heap.size (i*3) (aX a):=⟨_,rfl⟩
 have NF: ∀ty dc,(Builtin.copy_ #[26,26] ty #[.slice (some ⟨w.heap.size,i*3,none⟩) (n+1-i) dc,.slice (some ⟨vb,0,none⟩) 1 vc]).run prog W1= .ok (goInt 1) W2:=λty dc=>by
  have h:=ic (P:=prog) W1 26 26 ty 141 3 w.heap.size (i*3) (n+1-i) dc ⟨vb,0,none⟩ 1 vc (aX a) underlying26 ja (by rw[jE];simp only[Nat.min_def];split<;>omega)
   (λj v hj=>by rw[aaQ,Dc.cell,aan];exact hj)
   (λj hj=>kA.isSome (by rw[jE]at hj;rw[mE];omega)) (λj hj=>kA.free (by rw[jE]at hj;rw[mE];omega)) (sZ a)
  rw[h,im,show Nat.min 1 (n+1-i)=1 by simp only[Nat.min_def];split<;>omega];rfl
 have nl:=kA.set prog (i*3) (aX a) (by rw[mE,jE];omega) (sZ a);have tO:(splice ((L.take i).flatMap aX++Z) (i*3) (aX a)).length=G*3:=by rw[abx _ _ _ (by rw[mE,jE];omega),mE]
 have j5:=gP prog kA (i*3) (aX a) (by rw[mE,jE];omega) (sZ a);rw[<-im]at nl j5;have ND:jR W2.drew g 141 (L.flatMap aX++T):=((hB.grown iV (by simp)).grown j5 (by simpa using λe=>TK e.symm)).drew;obtain ⟨W3,EN⟩: ∃W3,W3=W2.drew.setCells w.heap.size ((i+1)*3) ((L.drop i).flatMap aX):=⟨_,rfl⟩
 have oy:((L.drop i).flatMap aX).length=(n-i)*3:=by rw[bp (k:=3) aX jE,aaS,hn]
 have NG: ∀ty dc sc,(Builtin.copy_ #[26,26] ty #[.slice (some ⟨w.heap.size,(i+1)*3,none⟩) (n+1-(i+1)) dc,.slice (some ⟨g,i*3,none⟩) (n-i) sc]).run prog W2.drew= .ok (goInt ((n-i:Nat):Int)) W3:=λty dc sc=>by
  have h:=ic (P:=prog) W2.drew 26 26 ty 141 3 w.heap.size ((i+1)*3) (n+1-(i+1)) dc ⟨g,i*3,none⟩ (n-i) sc ((L.drop i).flatMap aX) underlying26 ja (by rw[oy];simp only[Nat.min_def];split<;>omega)
   (λj v hj=>by
    rw[aaQ,ND.cell,gA aX L i,aaI,aaN (by rw[bp (k:=3) aX jE,aao,aaP (by omega)];omega),bp (k:=3) aX jE,aao,aaP (by omega),Nat.add_sub_cancel_left,aaW (aal.1 hj).1];exact hj)
   (λj hj=>nl.drew.isSome (by rw[oy]at hj;rw[tO];omega)) (λj hj=>nl.drew.free (by rw[oy]at hj;rw[tO];omega)) (gJ aX (λx v hv=>sZ x v hv) _)
  rw[h,EN,show Nat.min (n-i) (n+1-(i+1))=n-i by simp only[Nat.min_def];split<;>omega]
 have jQ:iO aX 141 3 base g (n+1) (L.take i++a::L.drop i) w (.returned (.slice (some ⟨w.heap.size,0,none⟩) (n+1) G)) W3:=by
  have Ix:=nl.drew.set prog ((i+1)*3) ((L.drop i).flatMap aX) (by rw[tO,oy];omega) (gJ aX (λx v hv=>sZ x v hv) _);have uI:=gP prog nl.drew ((i+1)*3) ((L.drop i).flatMap aX) (by rw[tO,oy];omega) (gJ aX (λx v hv=>sZ x v hv) _);rw[<-EN]at Ix uI;refine ⟨_,rfl,gz Ix (by rw[abx _ _ _ (by rw[tO,oy];omega),tO]) ?_ ?_ TI Iw qf,by simp,.inr rfl,?_⟩
  ·rw[<-hn];exact qn aX jE L a Z i (by omega)
  ·rw[bp (k:=3) aX jE,aak,List.length_cons,aao,aaS]
   congr 1
   omega
  refine ⟨uI.os.trans (j5.os.trans iV.os),uI.tape.trans (j5.tape.trans iV.tape),uI.output.trans (j5.output.trans iV.output),aaB iV.size (aaB j5.size uI.size),λk hk gm=>?_⟩;have Qx:some k≠some w.heap.size:=λe=>by injection e;omega
  have rF:=iV.size;have Iy:=j5.size;have a1:=iV.block k hk (by simp);have a2:=j5.block k (by omega) Qx;have a3:=uI.block k (by show k<W2.heap.size;omega) Qx;exact a3.trans (a2.trans a1)
 have eB:=I jQ;unfold maxLen at Iw;have CQ:IntKind.i64.wrap ((i:Int)+1)=(i:Int)+1:=by rw[IntKind.wrap_i64];omega
 have Iy: ¬((i:Int)=(n:Int)):=by omega
 have TL:(cap:Int)<(n:Int)+1:=by omega
 have XY: ¬(G=i):=by omega
 have TM: ¬(G=i+1):=by omega
 have XZ: ¬(cap=i):=by omega
 have bw:(0:Int)<=(i:Int)+1:=by omega
 have iq:i<=n:=by omega
 have Ak:((i:Int)+1).toNat=i+1:=by omega
 have dB:(i:Int)<=(n:Int):=by omega
 have l8:(i:Int)+1<=(n:Int)+1:=by omega
 clear uu NE hold hG hZ Qw eG kA mE iV Dc im nl tO j5 ND EN oy jQ hB hC cr hv kd sY hn jE sZ ja AN dK qd zc;go_enter func171,ntmps171
 go_wp2_with (first
  |(at_builtin;refine Lib.wpList_append_run _ rfl _ _ _ _ rfl _ _ rfl rfl _ _ (TJ _) ?_)
  |(at_builtin;refine iu _ rfl _ _ 26 26 rfl _ _ rfl rfl (NF _ _) ?_))
 go_region_law (refine jC rfl _ _ 26 26 rfl (.slice (some ⟨w.heap.size,(i+1)*3,none⟩) (n+1-(i+1)) (G-(i+1))) (.slice (some ⟨g,i*3,none⟩) (n-i) (cap-i)) (by simp[Act.eval,Act.put]) (by simp[Act.eval,Act.put]) (NG _ _ _) ?_);go_wp2;go_ret;exact eB.o
theorem GV (L:List qU) (a:qU) (i base g n cap vb vc:Nat) (w:World) (hn:L.length=n) (hi:i<n) (l7:n+1<=cap) (rE:n<=1000000) (cr:w.ownsRow base 141 3 (.slice (some ⟨g,0,none⟩) n cap) n (L.flatMap aX)) (hv:jR w vb 141 (aX a)) (Lg:vb≠g):
 Calls prog 171 #[.slice (some ⟨g,0,none⟩) n cap,.int .i64 i,.slice (some ⟨vb,0,none⟩) 1 vc] w (iO aX 141 3 base g (n+1) (L.take i++a::L.drop i) w):=by
 obtain ⟨T,hB,hC,xy,nj,kd,sY⟩:=dH cr;have lB:=nj;unfold maxLen at nj;have jE: ∀x:qU,(aX x).length=3:=λ_=>rfl;have sZ: ∀x:qU,∀v∈aX x,v.oneCell'=true:=λx v hv=>sk hv;obtain ⟨i0,AN,dK,qd,zc⟩:=aaq kf;have ja:(prog.info? 141).map (·.size)=some 3:=by rw[AN];simp[qd]
 have Dd:T.length=(cap-n)*3:=by rw[aak,sY]at hC;omega
 have TN: ∀lb cb,(callFunc 196 #[.slice (some ⟨vb,0,none⟩) 1 vc,.slice (some ⟨g,(i+1)*3,none⟩) lb cb]).run prog w= .ok (.value (.bool false)) w:=λlb cb=>by
  rw[run_callFunc_extern func196 (by kernel_rfl) (by kernel_rfl) (by kernel_rfl) (e:=Extern.SlicesOverlaps.overlaps #[26,26] #[4]) (by kernel_rfl),
   Lib.run_overlaps_apart w 26 4 141 underlying26 3 sizeOf141 ⟨vb,0,none⟩ ⟨g,(i+1)*3,none⟩ 1 vc lb cb Lg 141 141 3 (cap*3) (by unfold jR at hv;simp[World.shape?,hv,aX]) (by unfold jR at hB;simp[World.shape?,hB];simpa using hC) (by omega) (hv.free (by rw[jE];omega)) (by unfold jR at hv;simp[World.frozen?,hv])]
  rfl
 have oy:((L.drop i).flatMap aX).length=(n-i)*3:=by rw[bp (k:=3) aX jE,aaS,hn]
 obtain ⟨W1,eG⟩: ∃W1,W1=w.drew.setCells g ((i+1)*3) ((L.drop i).flatMap aX):=⟨_,rfl⟩
 have Lh:=gJ aX (P:=λv=>v.oneCell'=true) (λx v hv=>sZ x v hv) (L.drop i)
 have NH: ∀ty dc sc,(Builtin.copy_ #[26,26] ty #[.slice (some ⟨g,(i+1)*3,none⟩) (n+1-(i+1)) dc,.slice (some ⟨g,i*3,none⟩) (n+1-i) sc]).run prog w.drew= .ok (goInt ((n-i:Nat):Int)) W1:=λty dc sc=>by
  have h:=ic (P:=prog) w.drew 26 26 ty 141 3 g ((i+1)*3) (n+1-(i+1)) dc ⟨g,i*3,none⟩ (n+1-i) sc ((L.drop i).flatMap aX) underlying26 ja (by rw[oy];simp only[Nat.min_def];split<;>omega)
   (λj v hj=>by
    rw[aaQ,hB.drew.cell,gA aX L i,aaI,aaN (by rw[bp (k:=3) aX jE,aao,aaP (by omega)];omega),bp (k:=3) aX jE,aao,aaP (by omega),Nat.add_sub_cancel_left,aaW (aal.1 hj).1];exact hj)
   (λj hj=>hB.drew.isSome (by rw[oy]at hj;rw[hC];omega)) (λj hj=>hB.drew.free (by rw[oy]at hj;rw[hC];omega)) Lh
  rw[h,eG,show Nat.min (n+1-i) (n+1-(i+1))=n-i by simp only[Nat.min_def];split<;>omega]
 have kA:=hB.drew.set prog ((i+1)*3) ((L.drop i).flatMap aX) (by rw[hC,oy];omega) Lh;have mE:(splice (L.flatMap aX++T) ((i+1)*3) ((L.drop i).flatMap aX)).length=cap*3:=by rw[abx _ _ _ (by rw[hC,oy];omega),hC]
 have iV:=gP prog hB.drew ((i+1)*3) ((L.drop i).flatMap aX) (by rw[hC,oy];omega) Lh;rw[<-eG]at kA iV;have Dc:jR W1 vb 141 (aX a):=jR.grown hv.drew iV (by simpa using λe=>Lg e.symm);obtain ⟨W2,im⟩: ∃W2,W2=W1.setCells g (i*3) (aX a):=⟨_,rfl⟩
 have NI: ∀ty dc,(Builtin.copy_ #[26,26] ty #[.slice (some ⟨g,i*3,none⟩) (n+1-i) dc,.slice (some ⟨vb,0,none⟩) 1 vc]).run prog W1= .ok (goInt 1) W2:=λty dc=>by
  have h:=ic (P:=prog) W1 26 26 ty 141 3 g (i*3) (n+1-i) dc ⟨vb,0,none⟩ 1 vc (aX a) underlying26 ja (by rw[jE];simp only[Nat.min_def];split<;>omega)
   (λj v hj=>by rw[aaQ,Dc.cell,aan];exact hj)
   (λj hj=>kA.isSome (by rw[jE]at hj;rw[mE];omega)) (λj hj=>kA.free (by rw[jE]at hj;rw[mE];omega)) (sZ a)
  rw[h,im,show Nat.min 1 (n+1-i)=1 by simp only[Nat.min_def];split<;>omega];rfl
 have jQ:iO aX 141 3 base g (n+1) (L.take i++a::L.drop i) w (.returned (.slice (some ⟨g,0,none⟩) (n+1) cap)) W2:=by
  have nl:=kA.set prog (i*3) (aX a) (by rw[mE,jE];omega) (sZ a);have j5:=gP prog kA (i*3) (aX a) (by rw[mE,jE];omega) (sZ a);rw[<-im]at nl j5;refine ⟨_,rfl,gz nl (by rw[abx _ _ _ (by rw[mE,jE];omega),mE]) ?_ ?_ l7 lB kd,by simp,.inl rfl,?_⟩
  ·rw[<-hn];exact oS aX jE L a T i (by omega) (by omega)
  ·rw[bp (k:=3) aX jE,aak,List.length_cons,aao,aaS]
   congr 1
   omega
  exact ll ⟨iV.os,iV.tape,iV.output,iV.size,iV.block⟩ j5
 have eB:=I jQ;have CQ:IntKind.i64.wrap ((i:Int)+1)=(i:Int)+1:=by rw[IntKind.wrap_i64];omega
 have Iy: ¬((i:Int)=(n:Int)):=by omega
 have TL: ¬((cap:Int)<(n:Int)+1):=by omega
 have bw:(0:Int)<=(i:Int)+1:=by omega
 have iq:i<=n:=by omega
 have TP:i<=n+1:=by omega
 have Ak:((i:Int)+1).toNat=i+1:=by omega
 have cL: ¬(cap=i+1):=by omega
 have dB:(i:Int)+1<=(n:Int)+1:=by omega
 have l8: ¬(cap=i):=by omega
 have zd:(i:Int)<=(n:Int)+1:=by omega
 clear oy eG Lh kA mE iV Dc im jQ hB hC cr hv kd sY hn jE sZ ja AN dK qd zc Dd lB;go_enter func171,ntmps171;go_wp2_with (simp only[TN]);go_region_law (refine jC rfl _ _ 26 26 rfl (.slice (some ⟨g,(i+1)*3,none⟩) (n+1-(i+1)) (cap-(i+1))) (.slice (some ⟨g,i*3,none⟩) (n+1-i) (cap-i)) (by simp[Act.eval,Act.put]) (by simp[Act.eval,Act.put]) (NH _ _ _) ?_);go_wp2_with (at_builtin;refine iu _ rfl _ _ 26 26 rfl _ _ rfl rfl (NI _ _) ?_);go_ret;exact eB.o
theorem sr (L:List qU) (a:qU) (i base g n cap vb vc:Nat) (w:World) (hn:L.length=n) (hi:i<=n) (rE:n<=1000000) (cr:w.ownsRow base 141 3 (.slice (some ⟨g,0,none⟩) n cap) n (L.flatMap aX)) (hv:jR w vb 141 (aX a)) (Lg:vb≠g) (qf:base<=w.heap.size):
 Calls prog 171 #[.slice (some ⟨g,0,none⟩) n cap,.int .i64 i,.slice (some ⟨vb,0,none⟩) 1 vc] w (iO aX 141 3 base g (n+1) (L.take i++a::L.drop i) w):=by
 rcases abo i n with aI|eA
 ·by_cases l7:n+1<=cap
  ·exact GV L a i base g n cap vb vc w hn aI l7 rE cr hv Lg
  exact J5 L a i base g n cap vb vc w hn aI (by omega) rE cr hv qf
 obtain rfl:i=n:=by omega
 have e:L.take i++a::L.drop i=L++[a]:=by rw[aaJ (by omega),abB (by omega)]
 rw[e];exact J4 L a base g i cap vb vc w hn rE cr hv qf
def pw (x:bu):qU:=match x.v with| .slice A n c=>⟨x.a.a8,x.a.fin,A,n,c⟩|_=>⟨x.a.a8,x.a.fin,none,0,0⟩
theorem j9 {x:bu} {A:Option Addr} {n c:Nat} (h:x.v= .slice A n c):aX (pw x)=cu x:=by
 unfold pw aX cu;rw[h]
theorem ss {base:Nat} {w:World} {g cap:Nat} {L:List bu} (h:fV base w g cap L):(L.map pw).flatMap aX=L.flatMap cu:=by
 have key: ∀M:List bu,(∀x∈M,x∈L)->(M.map pw).flatMap aX=M.flatMap cu:=by
  intro M;induction M with
  |nil=>intro _;rfl
  |cons x M ih=>
   intro hm;obtain ⟨A,c,hv,_⟩:=(h.nt x (hm x (aaA ..))).1;rw[aa4,aa0,aa0,j9 hv,ih (λy hy=>hm y (aaR _ hy))]
 exact key L (λx hx=>hx)
theorem p9 {w:World} {b1 b2 s1 s2 n1 n2:Nat} {e1 e2:TypeId} {v1 v2:Value} {x1 x2:List Value} (h1:w.ownsRow b1 e1 s1 v1 n1 x1) (h2:w.ownsRow b2 e2 s2 v2 n2 x2) (he:e1≠e2) {g:Nat} (hv:v1.ownBlock=some g):v2.ownBlock≠some g:=by
 intro Hj;rcases h1.2 with ⟨rfl,_⟩|⟨g1,c1,Zk,rfl,_,k1,_⟩
 ·cases hv
 rcases h2.2 with ⟨rfl,_⟩|⟨g2,c2,Zl,rfl,_,k2,_⟩
 ·cases Hj
 injection hv with hv
 injection Hj with Hj
 have hv:g1=g:=hv;have Hj:g2=g:=Hj;rw[hv]at k1;rw[Hj,k1]at k2;injection k2 with k2
 injection k2 with _ k2
 exact he k2
theorem su {base M6 B0 g n cap k:Nat} {w6 w7:World} {L:List bu} {X:bu} {v7:Value} {A:Option Addr} {nn cc:Nat} (hX:X.v= .slice A nn cc) (h:bM base w6 g cap L) (oU:iJ g w6 w7) (cr:w7.ownsRow M6 141 3 v7 n (((L.map pw).take k++pw X::(L.map pw).drop k).flatMap aX)) (hn:n=(L.take k++X::L.drop k).length)
 (iH:v7.ownBlock=some g\/v7.ownBlock=some w6.heap.size) (h0:B0<=base) (h6:B0<=M6) (hx:ay ah X.a.pat B0 w6 X.v) (QL: ∀b,cx X.a.pat X.v b->b≠g/\ ∀q∈L,¬cw.dR q b):aR cw B0 w7 v7 (L.take k++X::L.drop k):=by
 have J6: ∀y∈L.take k++X::L.drop k,y=X\/y∈L:=λy hy=>by
  rcases aau.1 hy with hy|hy
  ·exact .inr (aby hy)
  rcases aaF.1 hy with hy|hy
  ·exact .inl hy
  exact .inr (List.mem_of_mem_drop hy)
 have Hy:((L.map pw).take k++pw X::(L.map pw).drop k).flatMap aX=(L.take k++X::L.drop k).flatMap cu:=by
  have e:(L.map pw).take k++pw X::(L.map pw).drop k=(L.take k++X::L.drop k).map pw:=by simp
  rw[e]
  have key: ∀M:List bu,(∀y∈M,y=X\/y∈L)->(M.map pw).flatMap aX=M.flatMap cu:=by
   intro M;induction M with
   |nil=>intro _;rfl
   |cons y M ih=>
    intro hm;rw[aa4,aa0,aa0,ih (λz hz=>hm z (aaR _ hz))]
    congr 1
    rcases hm y (aaA ..)with rfl|hy
    ·exact j9 hX
    obtain ⟨A',c',hv,_⟩:=(dL.nt h.st y hy).1;exact j9 hv
  exact key _ J6
 rw[Hy,hn]at cr;have ht:Touch (λb=>b=g) w6 w7:=Touch.aW oU (λb hb=>by injection hb with hb;exact hb.symm)
 have aI: ∀y∈L.take k++X::L.drop k,∀b,cw.dR y b->b≠g/\b<w6.heap.size:=λy hy b hb=>by
  rcases J6 y hy with rfl|hy
  ·exact ⟨(QL b hb).1,(ay.dw hx hb).2⟩
  refine ⟨λe=>?_,(h.dR hy hb).2⟩;have h2:=(dL.nt h.st y hy).2.1 hb.1;rw[hb.2,e]at h2;exact h2 rfl
 refine ⟨(ay.bI cu (size:=3) (λ_=>rfl) cr).less h6,λy hy=>?_,λy hy b hb e=>?_,?_⟩
 ·have ho:ay ah y.a.pat B0 w6 y.v:=by
   rcases J6 y hy with rfl|hy
   ·exact hx
   exact (dL.nt h.st y hy).1.less h0
  exact ho.aD ht (λb hb=>(aI y hy b hb).1)
 ·have q:=aI y hy b hb;rcases iH with e'|e'<;>rw[e']at e<;>injection e with e<;>omega
 have h2:=h.two;rw[<-abG k L,aaY]at h2;rw[aaY,aa9];refine ⟨h2.1,⟨λq hq b h3 h4=>(QL b h3).2 q (List.mem_of_mem_drop hq) h4,h2.2.1⟩,λp hp q hq b h3 h4=>?_⟩;rcases aaF.1 hq with rfl|hq
 ·exact (QL b h4).2 p (aby hp) h3
 exact h2.2.2 p hp q hq b h3 h4
theorem wE (a:cp) (At:Option Addr) (ct:Nat) (Ab:Option Addr) (cb:Nat) (Ac:Option Addr) (cc:Nat) (Am:Option Addr) (cm:Nat) (m:gu) (pA:Option Addr) (pc:Nat) (vA:Option Addr) (vc:Nat) (w:World)
 (hS:iT w w.heap.size (.slice Ab a.base.length cb) a.base) (hA:eE w w.heap.size (.slice Ac a.av.length cc) a.av) (CV:cd a.base=true) (cy:bJ a.av=true) (ha:eV (cM m)=true) (RA:bg w w.heap.size (.slice pA m.pat.length pc) m.pat):
 Calls prog 119 #[.agg #[.int .i64 a.day,.int .i64 a.rule,.slice At a.af.length ct,.slice Ab a.base.length cb,.slice Ac a.av.length cc,.slice Am a.ao.length cm],.agg #[.string m.al,.int .i64 m.br,.slice pA m.pat.length pc,.int .i64 m.a8,.int .i64 m.fin,.int .i64 m.aj,.slice vA m.ax.length vc,.int .i64 m.result]] w (iB a.base a.av (cM m) w):=by
 obtain ⟨A',c',hv,hc,hm,cn⟩:=dk hA;injection hv with e1 _ e3
 subst e1 e3;have IM:=eM cy;obtain ⟨W1,eG⟩: ∃W1:World,W1=w.alloc (.cells #[.int .i64 a.day,.int .i64 a.rule,.slice At a.af.length ct,.slice Ab a.base.length cb,.slice Ac a.av.length cc,.slice Am a.ao.length cm] 29):=⟨_,rfl⟩
 obtain ⟨W,hW⟩: ∃W:World,W=W1.alloc (.cells #[.string m.al,.int .i64 m.br,.slice pA m.pat.length pc,.int .i64 m.a8,.int .i64 m.fin,.int .i64 m.aj,.slice vA m.ax.length vc,.int .i64 m.result] 35):=⟨_,rfl⟩
 have b1:Below w.heap.size w W1:=by rw[eG];exact (aae _ _).alloc (aad _) _
 have s1:W1.heap.size=w.heap.size+1:=by rw[eG];simp
 have b2:Below W1.heap.size W1 W:=by rw[hW];exact (aae _ _).alloc (aad _) _
 have s2:W.heap.size=w.heap.size+2:=by rw[hW];simp[s1]
 have bW:Below w.heap.size w W:=b1.trans (b2.mono b1.size);have r1:Row W1 w.heap.size [.int .i64 a.day,.int .i64 a.rule,.slice At a.af.length ct,.slice Ab a.base.length cb,.slice Ac a.av.length cc,.slice Am a.ao.length cm]:=by rw[eG];exact Row.new w _ _
 have mB:=I (r1.below b2 (by omega));have r2:Row W (w.heap.size+1) [.string m.al,.int .i64 m.br,.slice pA m.pat.length pc,.int .i64 m.a8,.int .i64 m.fin,.int .i64 m.aj,.slice vA m.ax.length vc,.int .i64 m.result]:=by rw[hW,<-s1];exact Row.new W1 _ _
 have gj:=I r2;have Ge:w.heap.size<W.heap.size:=by omega
 have KL:w.heap.size+1<W.heap.size:=by omega
 have gf:=I bW;have CF:=I (λW' (hb:Below W.heap.size W W')=>hA.on (bW.trans (hb.mono bW.size)) (bW.trans (hb.mono bW.size)).size);have lE:=I (λW' (hb:Below W.heap.size W W')=>(cz.on hS (Pl.stays _) (bW.trans (hb.mono bW.size)) (bW.trans (hb.mono bW.size)).size:iT W' W'.heap.size (.slice Ab a.base.length cb) a.base));have HE:ag (∀W',Below W.heap.size W W'->bg W' W'.heap.size (.slice pA m.pat.length pc) m.pat):=I (λW' h=>cz.on RA (Pl.stays _) (bW.trans (h.mono bW.size)) (bW.trans (h.mono bW.size)).size);have z4:=λy:ar W=>y.cell (mB.o.cell 4 _ rfl);have z3:=λy:ar W=>y.cell (gj.o.cell 3 _ rfl);have gH:=I cn;have ii:=I cy;have MZ:=I ha;have se:bF m.pat=true:=(ep.1 ha).pat;have OO:=I (lC se);have oz:=eZ se;have KV:=I CV;unfold maxLen at hm;have lV:=I (show (w.alloc (.cells #[.int .i64 a.day,.int .i64 a.rule,.slice At a.af.length ct,.slice Ab a.base.length cb,.slice Ac a.av.length cc,.slice Am a.ao.length cm] 29)).alloc (.cells #[.string m.al,.int .i64 m.br,.slice pA m.pat.length pc,.int .i64 m.a8,.int .i64 m.fin,.int .i64 m.aj,.slice vA m.ax.length vc,.int .i64 m.result] 35)=W by rw[hW,eG]);have U2:=mB.o.cell 4 _ rfl;unfold iB;obtain ⟨x0,dp⟩: ∃y:ar W,y.val=W:=⟨⟨W,aae _ _⟩,rfl⟩
 have RD:=I dp;clear hA cn CV cy ha RA hS dp hW eG b1 b2 r1 r2 bW se U2 s1;by_cases h8:a.av.length<8
 case neg=>
  have eA:((a.av.length:Int)==8)=true:=by
   have:a.av.length=8:=by omega
   rw[this];rfl
  have HN:=um (S:=a.base) (x:=cM m) h8;rw[HN];clear HN h8 IM;go_enter func119,ntmps119;go_wp2;rw[lV.o];go_ret2;first
  |exact ⟨⟨_,_,_,rfl⟩,gf.o⟩
  |exact ⟨_,_,_,rfl,(λh=>by cases h),gf.o⟩
 have Zm:((a.av.length:Int)==8)=false:=by simp;omega
 go_enter func119,ntmps119;go_wp2;rw[lV.o,<-RD.o];go_loopw [6] (λi wr=> ∃(k:Nat) (y:ar W),k<=a.av.length/\i= .int .i64 (k:Int)/\wr=y.val/\(∀j b,a.av[j]?=some b->j<k->b.a8<=m.a8)) (λi _=>a.av.length-(intOf i).toNat);case atStart=>exact ⟨0,x0,aaf _,rfl,rfl,λj b _ hj=>absurd hj (aa' _)⟩
 case round=>
  obtain ⟨k,y,hk,rfl,rfl,RB⟩:=hrel;have D3:=I RB;clear RB;by_cases aI:k<a.av.length
  ·obtain ⟨b,off,hA,hb,aC⟩:=gH.o (by omega);subst hA;have aH:a.av[k]?=some a.av[k]:=aag aI;obtain ⟨pv,c0,_,_,_⟩:=aC k _ aH;have x1:=λy:ar W=>y.cell ((gf.o.cell (p:=⟨b,off+k*3,none⟩) hb).trans c0);have HG:=I aH;have Hl:(k:Int)<(a.av.length:Int):=by omega
   clear aH c0 aC;generalize a.av[k]=q at*;by_cases hq:q.a8<=m.a8
   ·have hd:decide (q.a8<=m.a8)=true:=by simp[hq]
    have HN:ag (∀j b,a.av[j]?=some b->j<k+1->b.a8<=m.a8):=I (λj b hj KI=>by
     by_cases e:j=k
     ·subst e;rw[HG.o]at hj;injection hj with hj
      rw[<-hj];exact hq
     exact D3.o j b hj (by omega))
    go_upto_region 4 with (fail)
    refine ap (by kernel_rfl) (by kernel_rfl) ?_
    repeat (go_big_quiet_step (fail))
    refine aai ?_;rintro _ ⟨u,rfl⟩;go_wp2;go_roundw;case rel=>exact ⟨k+1,u,by omega,by go_num,rfl,HN.o⟩
    case measure=>simp[intOf];omega
   have hd:decide (q.a8<=m.a8)=false:=by simp;omega
   go_upto_region 4 with (fail)
   refine ap (by kernel_rfl) (by kernel_rfl) ?_
   repeat (go_big_quiet_step (fail))
   refine aai ?_;rintro _ ⟨u,rfl⟩;clear x1;have uK:ag (cG a.av m.a8=k):=I (nN hk D3.o (Or.inr ⟨q,HG.o,hq⟩));have tx:=I (λ(W':World) (hb:Below W.heap.size W W')=>pt a.av W' _ (CF.o W' hb) ii.o);have jA:(0:Int)<=(k:Int):=by omega
   unfold uk at tx;have uo:=I u.ok;obtain ⟨i0,hi,dK,rF,ek⟩:=aaq kf;obtain ⟨e0,po,pq,pr,mu⟩:=aaq oG;go_upto_region 6 with (fail)
   obtain ⟨U,hU⟩: ∃U,U=u.val:=⟨_,rfl⟩
   have jo:Below W.heap.size W U:=by rw[hU];exact u.ok
   rw[<-hU];clear hU;have bX:ag (∀w',Below W.heap.size W w'->w'.cell? ⟨w.heap.size,4,none⟩=some (.slice (some ⟨b,off,none⟩) a.av.length cc)/\w'.cell? ⟨w.heap.size+1,3,none⟩=some (.int .i64 m.a8)/\w'.cell? ⟨w.heap.size+1,4,none⟩=some (.int .i64 m.fin)/\w'.cell? ⟨w.heap.size+1,2,none⟩=some (.slice pA m.pat.length pc)):=I (λX hX=>⟨(mB.o.below hX Ge).cell 4 _ rfl,(gj.o.below hX KL).cell 3 _ rfl,(gj.o.below hX KL).cell 4 _ rfl,(gj.o.below hX KL).cell 2 _ rfl⟩);clear z3 z4;refine abM (S:=λw'=>w'.cell? ⟨w.heap.size,4,none⟩=some (.slice (some ⟨b,off,none⟩) a.av.length cc)/\w'.cell? ⟨w.heap.size+1,3,none⟩=some (.int .i64 m.a8)/\w'.cell? ⟨w.heap.size+1,4,none⟩=some (.int .i64 m.fin)/\w'.cell? ⟨w.heap.size+1,2,none⟩=some (.slice pA m.pat.length pc)) (by kernel_rfl) (bX.o _ jo.drew) (λaE=>?_);refine aZ 0 ?_
   try simp only[Act.put,aK,aM]
   refine aZ 1 ?_
   try simp only[Act.put,aK,aM]
   refine aZ 3 ?_
   try simp only[Act.put,aK,aM]
   refine aZ 4 ?_
   try simp only[Act.put,aK,aM]
   refine aZ 5 ?_
   try simp only[Act.put,aK,aM]
   refine aZ 6 ?_
   try simp only[Act.put,aK,aM]
   refine aZ 7 ?_
   try simp only[Act.put,aK,aM]
   refine aZ 9 ?_
   try simp only[Act.put,aK,aM]
   refine aZ 10 ?_
   try simp only[Act.put,aK,aM]
   have xR:Below W.heap.size W U.drew:=jo.drew;obtain ⟨V,hV⟩: ∃V,V=U.drew:=⟨_,rfl⟩
   rw[<-hV]at xR⊢;clear hV jo;refine aav (rs:=[2,8]) (by kernel_rfl) (by simp) ?_;refine aat rfl (λK hK=>?_) (aat rfl (λK hK=>?_) aaw)
   ·try simp only[aK]
    go_simp;go_at_call 117;refine aaM (tx.o _ xR) ?_;rintro e w3 ⟨g,cap,L,rfl,nJ,hD,dB⟩;have fL:=xR.trans (dB.mono xR.size);refine hK.out _ _ (bX.o _ fL) (λau=>?_);clear hK K aE;have aE:=au;clear au
    try simp only[Act.put,aM]
    refine aav (rs:=[8]) (by kernel_rfl) (by simp) ?_;refine aat rfl (λK hK=>?_) aaw
    try simp only[aK]
    go_simp;have iz:=fL.alloc fL.size (.cells #[] 174);refine hK.out _ _ (bX.o _ iz) (λau=>?_);clear hK K aE;have aE:=au;clear au
    try simp only[Act.put,aM]
    have cN:(w3.alloc (.cells #[] 174)).ownsRow w3.heap.size 174 4 (.slice (some ⟨w3.heap.size,0,none⟩) 0 0) 0 []:=by simpa using aaz w3 #[] 0 (aad _) (aaf _) rfl
    have dY:=I cN;have j7:Below w3.heap.size w3 (w3.alloc (.cells #[] 174)):=(aae _ _).alloc (aad _) _;have U3:=bM.below hD j7;have KY:w3.heap.size<=(w3.alloc (.cells #[] 174)).heap.size:=j7.size;have rK:W.heap.size<=w3.heap.size:=fL.size;obtain ⟨SB,tC⟩: ∃SB,SB=V.heap.size:=⟨_,rfl⟩
    have Ce:W.heap.size<=SB:=by rw[tC];exact xR.size
    rw[<-tC]at U3 hD;clear tC;refine aav (rs:=[11]) (by kernel_rfl) (by simp) ?_;refine aat rfl (λK hK=>?_) aaw
    try simp only[aK]
    refine aQ ah (by rfl) _ _ 32 (by rfl) w3.heap.size 174 e0 (.agg #[.int .i64 0,.int .i64 0,.string ⟨#[]⟩,.string ⟨#[]⟩]) 4 48 underlying32 po pq pr mu rfl (by decide) _ _ _ (by rfl) dY.o _ m.pat _ (by rfl) (HE.o _ iz) (λ_=>rfl) (λy u hu=>cJ hu) (by unfold maxLen;omega) (by omega) KY ?_;intro v2 w5 aY aw cY ci;have ju:ag (ay ah m.pat w3.heap.size w5 v2):=I (ay.bI ah (size:=4) (λ_=>rfl) (by simpa using aY));have Ek:Below W.heap.size W w5:=iz.grown aw iz.size (λj hj=>aaB rK (dY.o.lt j hj).1);have uP:bM SB w5 g cap L:=bM.below hD (j7.grown aw j7.size (λj hj=>(dY.o.lt j hj).1));have Ao:ag (∀b,v2.ownBlock=some b-> ∀q∈L,¬cw.dR q b):=I (λb hb q hq mq=>by have q2:=(hD.dR hq mq).2;have q3:=j7.size;rcases ci with h|h<;>(have e:=h.symm.trans hb;injection e with e;(try (have e:w3.heap.size=b:=e));omega));have CC:ag (v2.ownBlock≠some g):=I (p9 uP.row aY (by decide) rfl);obtain ⟨A2,c2,rfl,_⟩:=ju.o;clear aY aw cY ci;obtain ⟨X,hX⟩: ∃X:bu,X=⟨⟨m.a8,m.fin,m.pat⟩,.slice A2 m.pat.length c2⟩:=⟨_,rfl⟩
    have El:X.v= .slice A2 m.pat.length c2:=by rw[hX]
    have J7:X.a=cM m:=by rw[hX];rfl
    obtain ⟨w6,xj⟩: ∃w6,w6=w5.alloc (.cells #[.int .i64 m.a8,.int .i64 m.fin,.slice A2 m.pat.length c2] 141):=⟨_,rfl⟩
    have En:Below w5.heap.size w5 w6:=by rw[xj];exact (aae _ _).alloc (aad _) _
    have Eo:Below W.heap.size W w6:=Ek.trans (En.mono Ek.size);have zN:ag (bM SB w6 g cap L):=I (bM.below uP En);have zl:ag (ay ah m.pat w3.heap.size w6 (.slice A2 m.pat.length c2)):=I (ju.o.on En);have OS:=zN.o.row.lt g rfl;have U4:=(uP.row.lt g rfl).2;have OT:W.heap.size<=g:=aaB Ce OS.1;have zO:L.length=a.av.length:=by rw[<-aap,nJ]
    have J8:(L.map pw).length=a.av.length:=by rw[aap,zO]
    have px:w6.ownsRow SB 141 3 (.slice (some ⟨g,0,none⟩) a.av.length cap) a.av.length ((L.map pw).flatMap aX):=by rw[ss zN.o.st,<-zO];exact zN.o.row
    have ta:jR w6 w5.heap.size 141 (aX (pw X)):=by rw[j9 El,hX,xj];exact ly _ _
    have qV:SB<=w6.heap.size:=by omega
    have rG:=I (sr (L.map pw) (pw X) k SB g a.av.length cap w5.heap.size 1 w6 J8 hk (by omega) px ta (by omega) qV);unfold iO at rG;have tD:=I (show X.v= .slice A2 m.pat.length c2/\X.a=cM m from ⟨El,J7⟩);have wh:=I (show L.map (·.a)=a.av from nJ);have OU:=I xj;have xP:=I zO;clear xj hX El J7 zO J8 px ta nJ;refine hK.out _ _ (bX.o _ Ek) (λau=>?_);clear hK K aE;have aE:=au;clear au
    try simp only[Act.put,aM]
    refine aZ 12 ?_
    try simp only[Act.put,aK,aM]
    refine aav (rs:=[13]) (by kernel_rfl) (by simp) ?_;refine aat rfl (λK hK=>?_) aaw
    try simp only[aK]
    go_simp;rw[<-OU.o];refine hK.out _ _ (bX.o _ Eo) (λau=>?_);clear hK K aE;have aE:=au;clear au
    try simp only[Act.put,aM]
    refine aav (rs:=[14]) (by kernel_rfl) (by simp) ?_;refine aat rfl (λK hK=>?_) aaw
    try simp only[aK]
    go_simp;rw[xP.o];go_at_call 171;refine aaM (rG.o) ?_;rintro e w7 ⟨v7,rfl,wF,OV,Ep,wG⟩;have wH:Below W.heap.size W w7:=Eo.trans (gx wG OT Eo.size);have Er:a.av.length+1=(L.take k++X::L.drop k).length:=by rw[<-xP.o];simp;omega
    have Es:ag (aR cw W.heap.size w7 v7 (L.take k++X::L.drop k)):=I (by
     refine su tD.o.1 zN.o wG wF Er Ep Ce Ce ?_ (λb hb=>⟨λe=>CC.o ?_,Ao.o b ?_⟩)
     ·rw[tD.o.1,tD.o.2];exact zl.o.less rK
     ·rw[tD.o.1]at hb;rw[hb.2,e]
     rw[tD.o.1]at hb;exact hb.2)
    have wI:ag ((L.take k++X::L.drop k).map (·.a)=cI a.av (cM m)):=I (by
     rw[aaK,aa4,List.map_take,List.map_drop,wh.o,tD.o.2];unfold cI;rw[show cG a.av (cM m).a8=k from uK.o])
    have wJ:ag (eE w7 w7.heap.size v7 (cI a.av (cM m))):=I (by
     have:=Es.o.av;rw[wI.o]at this;exact this)
    obtain ⟨A7,n7,c7,rfl⟩: ∃A n c,v7= .slice A n c:=by
     obtain ⟨A7,c7,OW,_⟩:=dk wJ.o;exact ⟨A7,_,c7,OW⟩
    have OX:ag (n7=(L.take k++X::L.drop k).length):=I (by
     obtain ⟨A8,c8,OY,_⟩:=Es.o.row;injection OY)
    refine hK.out _ _ (bX.o _ wH) (λau=>?_);clear hK K aE;have aE:=au;clear au
    try simp only[Act.put,aM]
    refine aZ 15 ?_
    try simp only[Act.put,aK,aM]
    refine abz (by kernel_rfl) ?_ _;clear aE xR;have rj:=I (jK a.base (cI a.av (cM m)) w7 _ _ (lE.o w7 wH) wJ.o KV.o (jp ii.o MZ.o h8));unfold ff at rj;have z9:=(mB.o.below wH Ge).cell 3 _ rfl;go_wp2_with (fail);refine rj.o.mono ?_;rintro e w8 ⟨g8,OZ,n8,rfl,U5,aU,zP⟩;have kx:=I (wH.trans (zP.mono wH.size));by_cases ol:n8=0
    ·have jS:ag (fi a.base a.av (cM m)=true):=I (j8 h8 (aU.1 ol));subst ol;have O0:=I ((Es.o.below zP).less gf.o.size);clear aU zP;go_wp2;go_ret2;exact ⟨_,_,_,by rw[jS.o];rfl,λ_=>⟨_,OX.o,wI.o,O0.o⟩,(gf.o.trans (kx.o.mono gf.o.size))⟩
    have jS:ag (fi a.base a.av (cM m)=false):=I (lN (λh=>ol (aU.2 h)));have Hh:((n8:Int)==0)=false:=by simp;omega
    clear aU zP ol;go_wp2;go_ret2;exact ⟨_,_,_,by rw[jS.o];rfl,(λh=>by rw[jS.o]at h;cases h),(gf.o.trans (kx.o.mono gf.o.size))⟩
   try simp only[aK]
   go_simp;have gZ:=xR.alloc xR.size (.cells #[] 174);refine hK.out _ _ (bX.o _ gZ) (λau=>?_);clear hK K aE;have aE:=au;clear au
   try simp only[Act.put,aM]
   have gW:=I (show (V.alloc (.cells #[] 174)).ownsRow V.heap.size 174 4 (.slice (some ⟨V.heap.size,0,none⟩) 0 0) 0 [] by simpa using aaz V #[] 0 (aad _) (aaf _) rfl);have aI:V.heap.size<(V.alloc (.cells #[] 174)).heap.size:=by rw[World.size_alloc];omega
   refine aav (rs:=[2]) (by kernel_rfl) (by simp) ?_;refine aat rfl (λK hK=>?_) aaw
   try simp only[aK]
   go_simp;go_at_call 117;refine aaM (tx.o _ gZ) ?_;rintro e w3 ⟨g,cap,L,rfl,nJ,hD,dB⟩;have iz:=gZ.trans (dB.mono gZ.size);refine hK.out _ _ (bX.o _ iz) (λau=>?_);clear hK K aE;have aE:=au;clear au
   try simp only[Act.put,aM]
   have dY:=I (aT gW.o dB);have KY:V.heap.size<=w3.heap.size:=aaB (abi aI) dB.size;have rK:W.heap.size<=V.heap.size:=xR.size;have Ce:W.heap.size<=(V.alloc (.cells #[] 174)).heap.size:=gZ.size;obtain ⟨SB,tC⟩: ∃SB,SB=(V.alloc (.cells #[] 174)).heap.size:=⟨_,rfl⟩
   rw[<-tC]at hD Ce aI;clear tC;refine aav (rs:=[11]) (by kernel_rfl) (by simp) ?_;refine aat rfl (λK hK=>?_) aaw
   try simp only[aK]
   refine aQ ah (by rfl) _ _ 32 (by rfl) V.heap.size 174 e0 (.agg #[.int .i64 0,.int .i64 0,.string ⟨#[]⟩,.string ⟨#[]⟩]) 4 48 underlying32 po pq pr mu rfl (by decide) _ _ _ (by rfl) dY.o _ m.pat _ (by rfl) (HE.o _ iz) (λ_=>rfl) (λy u hu=>cJ hu) (by unfold maxLen;omega) (by omega) KY ?_;intro v2 w5 aY aw cY ci;have ju:ag (ay ah m.pat V.heap.size w5 v2):=I (ay.bI ah (size:=4) (λ_=>rfl) (by simpa using aY));have Ek:Below W.heap.size W w5:=iz.grown aw iz.size (λj hj=>aaB rK (dY.o.lt j hj).1);have uP:bM SB w5 g cap L:=⟨dL.only hD.st aI aw,hD.two⟩
   have Ao:ag (∀b,v2.ownBlock=some b-> ∀q∈L,¬cw.dR q b):=I (λb hb q hq mq=>by have q2:=hD.dR hq mq;rcases ci with h|h<;>(have e:=h.symm.trans hb;injection e with e;(try (have e:V.heap.size=b:=e));omega));have CC:ag (v2.ownBlock≠some g):=I (p9 uP.row aY (by decide) rfl);obtain ⟨A2,c2,rfl,_⟩:=ju.o;clear aY aw cY ci;obtain ⟨X,hX⟩: ∃X:bu,X=⟨⟨m.a8,m.fin,m.pat⟩,.slice A2 m.pat.length c2⟩:=⟨_,rfl⟩
   have El:X.v= .slice A2 m.pat.length c2:=by rw[hX]
   have J7:X.a=cM m:=by rw[hX];rfl
   obtain ⟨w6,xj⟩: ∃w6,w6=w5.alloc (.cells #[.int .i64 m.a8,.int .i64 m.fin,.slice A2 m.pat.length c2] 141):=⟨_,rfl⟩
   have En:Below w5.heap.size w5 w6:=by rw[xj];exact (aae _ _).alloc (aad _) _
   have Eo:Below W.heap.size W w6:=Ek.trans (En.mono Ek.size);have zN:ag (bM SB w6 g cap L):=I (bM.below uP En);have zl:ag (ay ah m.pat V.heap.size w6 (.slice A2 m.pat.length c2)):=I (ju.o.on En);have OS:=zN.o.row.lt g rfl;have U4:=(uP.row.lt g rfl).2;have OT:W.heap.size<=g:=aaB Ce OS.1;have zO:L.length=a.av.length:=by rw[<-aap,nJ]
   have J8:(L.map pw).length=a.av.length:=by rw[aap,zO]
   have px:w6.ownsRow SB 141 3 (.slice (some ⟨g,0,none⟩) a.av.length cap) a.av.length ((L.map pw).flatMap aX):=by rw[ss zN.o.st,<-zO];exact zN.o.row
   have ta:jR w6 w5.heap.size 141 (aX (pw X)):=by rw[j9 El,hX,xj];exact ly _ _
   have qV:SB<=w6.heap.size:=by omega
   have rG:=I (sr (L.map pw) (pw X) k SB g a.av.length cap w5.heap.size 1 w6 J8 hk (by omega) px ta (by omega) qV);unfold iO at rG;have tD:=I (show X.v= .slice A2 m.pat.length c2/\X.a=cM m from ⟨El,J7⟩);have wh:=I (show L.map (·.a)=a.av from nJ);have OU:=I xj;have xP:=I zO;clear xj hX El J7 zO J8 px ta nJ;refine hK.out _ _ (bX.o _ Ek) (λau=>?_);clear hK K aE;have aE:=au;clear au
   try simp only[Act.put,aM]
   refine aZ 12 ?_
   try simp only[Act.put,aK,aM]
   refine aav (rs:=[13]) (by kernel_rfl) (by simp) ?_;refine aat rfl (λK hK=>?_) aaw
   try simp only[aK]
   go_simp;rw[<-OU.o];refine hK.out _ _ (bX.o _ Eo) (λau=>?_);clear hK K aE;have aE:=au;clear au
   try simp only[Act.put,aM]
   refine aav (rs:=[14]) (by kernel_rfl) (by simp) ?_;refine aat rfl (λK hK=>?_) aaw
   try simp only[aK]
   go_simp;rw[xP.o];go_at_call 171;refine aaM (rG.o) ?_;rintro e w7 ⟨v7,rfl,wF,OV,Ep,wG⟩;have wH:Below W.heap.size W w7:=Eo.trans (gx wG OT Eo.size);have Er:a.av.length+1=(L.take k++X::L.drop k).length:=by rw[<-xP.o];simp;omega
   have Es:ag (aR cw W.heap.size w7 v7 (L.take k++X::L.drop k)):=I (by
    refine su tD.o.1 zN.o wG wF Er Ep Ce Ce ?_ (λb hb=>⟨λe=>CC.o ?_,Ao.o b ?_⟩)
    ·rw[tD.o.1,tD.o.2];exact zl.o.less rK
    ·rw[tD.o.1]at hb;rw[hb.2,e]
    rw[tD.o.1]at hb;exact hb.2)
   have wI:ag ((L.take k++X::L.drop k).map (·.a)=cI a.av (cM m)):=I (by
    rw[aaK,aa4,List.map_take,List.map_drop,wh.o,tD.o.2];unfold cI;rw[show cG a.av (cM m).a8=k from uK.o])
   have wJ:ag (eE w7 w7.heap.size v7 (cI a.av (cM m))):=I (by
    have:=Es.o.av;rw[wI.o]at this;exact this)
   obtain ⟨A7,n7,c7,rfl⟩: ∃A n c,v7= .slice A n c:=by
    obtain ⟨A7,c7,OW,_⟩:=dk wJ.o;exact ⟨A7,_,c7,OW⟩
   have OX:ag (n7=(L.take k++X::L.drop k).length):=I (by
    obtain ⟨A8,c8,OY,_⟩:=Es.o.row;injection OY)
   refine hK.out _ _ (bX.o _ wH) (λau=>?_);clear hK K aE;have aE:=au;clear au
   try simp only[Act.put,aM]
   refine aZ 15 ?_
   try simp only[Act.put,aK,aM]
   refine abz (by kernel_rfl) ?_ _;clear aE xR;have rj:=I (jK a.base (cI a.av (cM m)) w7 _ _ (lE.o w7 wH) wJ.o KV.o (jp ii.o MZ.o h8));unfold ff at rj;have z9:=(mB.o.below wH Ge).cell 3 _ rfl;go_wp2_with (fail);refine rj.o.mono ?_;rintro e w8 ⟨g8,OZ,n8,rfl,U5,aU,zP⟩;have kx:=I (wH.trans (zP.mono wH.size));by_cases ol:n8=0
   ·have jS:ag (fi a.base a.av (cM m)=true):=I (j8 h8 (aU.1 ol));subst ol;have O0:=I ((Es.o.below zP).less gf.o.size);clear aU zP;go_wp2;go_ret2;exact ⟨_,_,_,by rw[jS.o];rfl,λ_=>⟨_,OX.o,wI.o,O0.o⟩,(gf.o.trans (kx.o.mono gf.o.size))⟩
   have jS:ag (fi a.base a.av (cM m)=false):=I (lN (λh=>ol (aU.2 h)));have Hh:((n8:Int)==0)=false:=by simp;omega
   clear aU zP ol;go_wp2;go_ret2;exact ⟨_,_,_,by rw[jS.o];rfl,(λh=>by rw[jS.o]at h;cases h),(gf.o.trans (kx.o.mono gf.o.size))⟩
  have eA: ¬(k:Int)<(a.av.length:Int):=by omega
  go_upto_region 4 with (fail)
  refine ap (by kernel_rfl) (by kernel_rfl) ?_
  repeat (go_big_quiet_step (fail))
  refine aai ?_;rintro _ ⟨u,rfl⟩;have uK:ag (cG a.av m.a8=k):=I (nN hk D3.o (Or.inl (by omega)));have tx:=I (λ(W':World) (hb:Below W.heap.size W W')=>pt a.av W' _ (CF.o W' hb) ii.o);have jA:(0:Int)<=(k:Int):=by omega
  unfold uk at tx;have uo:=I u.ok;obtain ⟨i0,hi,dK,rF,ek⟩:=aaq kf;obtain ⟨e0,po,pq,pr,mu⟩:=aaq oG;go_upto_region 6 with (fail)
  obtain ⟨U,hU⟩: ∃U,U=u.val:=⟨_,rfl⟩
  have jo:Below W.heap.size W U:=by rw[hU];exact u.ok
  rw[<-hU];clear hU;have bX:ag (∀w',Below W.heap.size W w'->w'.cell? ⟨w.heap.size,4,none⟩=some (.slice Ac a.av.length cc)/\w'.cell? ⟨w.heap.size+1,3,none⟩=some (.int .i64 m.a8)/\w'.cell? ⟨w.heap.size+1,4,none⟩=some (.int .i64 m.fin)/\w'.cell? ⟨w.heap.size+1,2,none⟩=some (.slice pA m.pat.length pc)):=I (λX hX=>⟨(mB.o.below hX Ge).cell 4 _ rfl,(gj.o.below hX KL).cell 3 _ rfl,(gj.o.below hX KL).cell 4 _ rfl,(gj.o.below hX KL).cell 2 _ rfl⟩);clear z3 z4;refine abM (S:=λw'=>w'.cell? ⟨w.heap.size,4,none⟩=some (.slice Ac a.av.length cc)/\w'.cell? ⟨w.heap.size+1,3,none⟩=some (.int .i64 m.a8)/\w'.cell? ⟨w.heap.size+1,4,none⟩=some (.int .i64 m.fin)/\w'.cell? ⟨w.heap.size+1,2,none⟩=some (.slice pA m.pat.length pc)) (by kernel_rfl) (bX.o _ jo.drew) (λaE=>?_);refine aZ 0 ?_
  try simp only[Act.put,aK,aM]
  refine aZ 1 ?_
  try simp only[Act.put,aK,aM]
  refine aZ 3 ?_
  try simp only[Act.put,aK,aM]
  refine aZ 4 ?_
  try simp only[Act.put,aK,aM]
  refine aZ 5 ?_
  try simp only[Act.put,aK,aM]
  refine aZ 6 ?_
  try simp only[Act.put,aK,aM]
  refine aZ 7 ?_
  try simp only[Act.put,aK,aM]
  refine aZ 9 ?_
  try simp only[Act.put,aK,aM]
  refine aZ 10 ?_
  try simp only[Act.put,aK,aM]
  have xR:Below W.heap.size W U.drew:=jo.drew;obtain ⟨V,hV⟩: ∃V,V=U.drew:=⟨_,rfl⟩
  rw[<-hV]at xR⊢;clear hV jo;refine aav (rs:=[2,8]) (by kernel_rfl) (by simp) ?_;refine aat rfl (λK hK=>?_) (aat rfl (λK hK=>?_) aaw)
  ·try simp only[aK]
   go_simp;go_at_call 117;refine aaM (tx.o _ xR) ?_;rintro e w3 ⟨g,cap,L,rfl,nJ,hD,dB⟩;have fL:=xR.trans (dB.mono xR.size);refine hK.out _ _ (bX.o _ fL) (λau=>?_);clear hK K aE;have aE:=au;clear au
   try simp only[Act.put,aM]
   refine aav (rs:=[8]) (by kernel_rfl) (by simp) ?_;refine aat rfl (λK hK=>?_) aaw
   try simp only[aK]
   go_simp;have iz:=fL.alloc fL.size (.cells #[] 174);refine hK.out _ _ (bX.o _ iz) (λau=>?_);clear hK K aE;have aE:=au;clear au
   try simp only[Act.put,aM]
   have cN:(w3.alloc (.cells #[] 174)).ownsRow w3.heap.size 174 4 (.slice (some ⟨w3.heap.size,0,none⟩) 0 0) 0 []:=by simpa using aaz w3 #[] 0 (aad _) (aaf _) rfl
   have dY:=I cN;have j7:Below w3.heap.size w3 (w3.alloc (.cells #[] 174)):=(aae _ _).alloc (aad _) _;have U3:=bM.below hD j7;have KY:w3.heap.size<=(w3.alloc (.cells #[] 174)).heap.size:=j7.size;have rK:W.heap.size<=w3.heap.size:=fL.size;obtain ⟨SB,tC⟩: ∃SB,SB=V.heap.size:=⟨_,rfl⟩
   have Ce:W.heap.size<=SB:=by rw[tC];exact xR.size
   rw[<-tC]at U3 hD;clear tC;refine aav (rs:=[11]) (by kernel_rfl) (by simp) ?_;refine aat rfl (λK hK=>?_) aaw
   try simp only[aK]
   refine aQ ah (by rfl) _ _ 32 (by rfl) w3.heap.size 174 e0 (.agg #[.int .i64 0,.int .i64 0,.string ⟨#[]⟩,.string ⟨#[]⟩]) 4 48 underlying32 po pq pr mu rfl (by decide) _ _ _ (by rfl) dY.o _ m.pat _ (by rfl) (HE.o _ iz) (λ_=>rfl) (λy u hu=>cJ hu) (by unfold maxLen;omega) (by omega) KY ?_;intro v2 w5 aY aw cY ci;have ju:ag (ay ah m.pat w3.heap.size w5 v2):=I (ay.bI ah (size:=4) (λ_=>rfl) (by simpa using aY));have Ek:Below W.heap.size W w5:=iz.grown aw iz.size (λj hj=>aaB rK (dY.o.lt j hj).1);have uP:bM SB w5 g cap L:=bM.below hD (j7.grown aw j7.size (λj hj=>(dY.o.lt j hj).1));have Ao:ag (∀b,v2.ownBlock=some b-> ∀q∈L,¬cw.dR q b):=I (λb hb q hq mq=>by have q2:=(hD.dR hq mq).2;have q3:=j7.size;rcases ci with h|h<;>(have e:=h.symm.trans hb;injection e with e;(try (have e:w3.heap.size=b:=e));omega));have CC:ag (v2.ownBlock≠some g):=I (p9 uP.row aY (by decide) rfl);obtain ⟨A2,c2,rfl,_⟩:=ju.o;clear aY aw cY ci;obtain ⟨X,hX⟩: ∃X:bu,X=⟨⟨m.a8,m.fin,m.pat⟩,.slice A2 m.pat.length c2⟩:=⟨_,rfl⟩
   have El:X.v= .slice A2 m.pat.length c2:=by rw[hX]
   have J7:X.a=cM m:=by rw[hX];rfl
   obtain ⟨w6,xj⟩: ∃w6,w6=w5.alloc (.cells #[.int .i64 m.a8,.int .i64 m.fin,.slice A2 m.pat.length c2] 141):=⟨_,rfl⟩
   have En:Below w5.heap.size w5 w6:=by rw[xj];exact (aae _ _).alloc (aad _) _
   have Eo:Below W.heap.size W w6:=Ek.trans (En.mono Ek.size);have zN:ag (bM SB w6 g cap L):=I (bM.below uP En);have zl:ag (ay ah m.pat w3.heap.size w6 (.slice A2 m.pat.length c2)):=I (ju.o.on En);have OS:=zN.o.row.lt g rfl;have U4:=(uP.row.lt g rfl).2;have OT:W.heap.size<=g:=aaB Ce OS.1;have zO:L.length=a.av.length:=by rw[<-aap,nJ]
   have J8:(L.map pw).length=a.av.length:=by rw[aap,zO]
   have px:w6.ownsRow SB 141 3 (.slice (some ⟨g,0,none⟩) a.av.length cap) a.av.length ((L.map pw).flatMap aX):=by rw[ss zN.o.st,<-zO];exact zN.o.row
   have ta:jR w6 w5.heap.size 141 (aX (pw X)):=by rw[j9 El,hX,xj];exact ly _ _
   have qV:SB<=w6.heap.size:=by omega
   have rG:=I (sr (L.map pw) (pw X) k SB g a.av.length cap w5.heap.size 1 w6 J8 hk (by omega) px ta (by omega) qV);unfold iO at rG;have tD:=I (show X.v= .slice A2 m.pat.length c2/\X.a=cM m from ⟨El,J7⟩);have wh:=I (show L.map (·.a)=a.av from nJ);have OU:=I xj;have xP:=I zO;clear xj hX El J7 zO J8 px ta nJ;refine hK.out _ _ (bX.o _ Ek) (λau=>?_);clear hK K aE;have aE:=au;clear au
   try simp only[Act.put,aM]
   refine aZ 12 ?_
   try simp only[Act.put,aK,aM]
   refine aav (rs:=[13]) (by kernel_rfl) (by simp) ?_;refine aat rfl (λK hK=>?_) aaw
   try simp only[aK]
   go_simp;rw[<-OU.o];refine hK.out _ _ (bX.o _ Eo) (λau=>?_);clear hK K aE;have aE:=au;clear au
   try simp only[Act.put,aM]
   refine aav (rs:=[14]) (by kernel_rfl) (by simp) ?_;refine aat rfl (λK hK=>?_) aaw
   try simp only[aK]
   go_simp;rw[xP.o];go_at_call 171;refine aaM (rG.o) ?_;rintro e w7 ⟨v7,rfl,wF,OV,Ep,wG⟩;have wH:Below W.heap.size W w7:=Eo.trans (gx wG OT Eo.size);have Er:a.av.length+1=(L.take k++X::L.drop k).length:=by rw[<-xP.o];simp;omega
   have Es:ag (aR cw W.heap.size w7 v7 (L.take k++X::L.drop k)):=I (by
    refine su tD.o.1 zN.o wG wF Er Ep Ce Ce ?_ (λb hb=>⟨λe=>CC.o ?_,Ao.o b ?_⟩)
    ·rw[tD.o.1,tD.o.2];exact zl.o.less rK
    ·rw[tD.o.1]at hb;rw[hb.2,e]
    rw[tD.o.1]at hb;exact hb.2)
   have wI:ag ((L.take k++X::L.drop k).map (·.a)=cI a.av (cM m)):=I (by
    rw[aaK,aa4,List.map_take,List.map_drop,wh.o,tD.o.2];unfold cI;rw[show cG a.av (cM m).a8=k from uK.o])
   have wJ:ag (eE w7 w7.heap.size v7 (cI a.av (cM m))):=I (by
    have:=Es.o.av;rw[wI.o]at this;exact this)
   obtain ⟨A7,n7,c7,rfl⟩: ∃A n c,v7= .slice A n c:=by
    obtain ⟨A7,c7,OW,_⟩:=dk wJ.o;exact ⟨A7,_,c7,OW⟩
   have OX:ag (n7=(L.take k++X::L.drop k).length):=I (by
    obtain ⟨A8,c8,OY,_⟩:=Es.o.row;injection OY)
   refine hK.out _ _ (bX.o _ wH) (λau=>?_);clear hK K aE;have aE:=au;clear au
   try simp only[Act.put,aM]
   refine aZ 15 ?_
   try simp only[Act.put,aK,aM]
   refine abz (by kernel_rfl) ?_ _;clear aE xR;have rj:=I (jK a.base (cI a.av (cM m)) w7 _ _ (lE.o w7 wH) wJ.o KV.o (jp ii.o MZ.o h8));unfold ff at rj;have z9:=(mB.o.below wH Ge).cell 3 _ rfl;go_wp2_with (fail);refine rj.o.mono ?_;rintro e w8 ⟨g8,OZ,n8,rfl,U5,aU,zP⟩;have kx:=I (wH.trans (zP.mono wH.size));by_cases ol:n8=0
   ·have jS:ag (fi a.base a.av (cM m)=true):=I (j8 h8 (aU.1 ol));subst ol;have O0:=I ((Es.o.below zP).less gf.o.size);clear aU zP;go_wp2;go_ret2;exact ⟨_,_,_,by rw[jS.o];rfl,λ_=>⟨_,OX.o,wI.o,O0.o⟩,(gf.o.trans (kx.o.mono gf.o.size))⟩
   have jS:ag (fi a.base a.av (cM m)=false):=I (lN (λh=>ol (aU.2 h)));have Hh:((n8:Int)==0)=false:=by simp;omega
   clear aU zP ol;go_wp2;go_ret2;exact ⟨_,_,_,by rw[jS.o];rfl,(λh=>by rw[jS.o]at h;cases h),(gf.o.trans (kx.o.mono gf.o.size))⟩
  try simp only[aK]
  go_simp;have gZ:=xR.alloc xR.size (.cells #[] 174);refine hK.out _ _ (bX.o _ gZ) (λau=>?_);clear hK K aE;have aE:=au;clear au
  try simp only[Act.put,aM]
  have gW:=I (show (V.alloc (.cells #[] 174)).ownsRow V.heap.size 174 4 (.slice (some ⟨V.heap.size,0,none⟩) 0 0) 0 [] by simpa using aaz V #[] 0 (aad _) (aaf _) rfl);have aI:V.heap.size<(V.alloc (.cells #[] 174)).heap.size:=by rw[World.size_alloc];omega
  refine aav (rs:=[2]) (by kernel_rfl) (by simp) ?_;refine aat rfl (λK hK=>?_) aaw
  try simp only[aK]
  go_simp;go_at_call 117;refine aaM (tx.o _ gZ) ?_;rintro e w3 ⟨g,cap,L,rfl,nJ,hD,dB⟩;have iz:=gZ.trans (dB.mono gZ.size);refine hK.out _ _ (bX.o _ iz) (λau=>?_);clear hK K aE;have aE:=au;clear au
  try simp only[Act.put,aM]
  have dY:=I (aT gW.o dB);have KY:V.heap.size<=w3.heap.size:=aaB (abi aI) dB.size;have rK:W.heap.size<=V.heap.size:=xR.size;have Ce:W.heap.size<=(V.alloc (.cells #[] 174)).heap.size:=gZ.size;obtain ⟨SB,tC⟩: ∃SB,SB=(V.alloc (.cells #[] 174)).heap.size:=⟨_,rfl⟩
  rw[<-tC]at hD Ce aI;clear tC;refine aav (rs:=[11]) (by kernel_rfl) (by simp) ?_;refine aat rfl (λK hK=>?_) aaw
  try simp only[aK]
  refine aQ ah (by rfl) _ _ 32 (by rfl) V.heap.size 174 e0 (.agg #[.int .i64 0,.int .i64 0,.string ⟨#[]⟩,.string ⟨#[]⟩]) 4 48 underlying32 po pq pr mu rfl (by decide) _ _ _ (by rfl) dY.o _ m.pat _ (by rfl) (HE.o _ iz) (λ_=>rfl) (λy u hu=>cJ hu) (by unfold maxLen;omega) (by omega) KY ?_;intro v2 w5 aY aw cY ci;have ju:ag (ay ah m.pat V.heap.size w5 v2):=I (ay.bI ah (size:=4) (λ_=>rfl) (by simpa using aY));have Ek:Below W.heap.size W w5:=iz.grown aw iz.size (λj hj=>aaB rK (dY.o.lt j hj).1);have uP:bM SB w5 g cap L:=⟨dL.only hD.st aI aw,hD.two⟩
  have Ao:ag (∀b,v2.ownBlock=some b-> ∀q∈L,¬cw.dR q b):=I (λb hb q hq mq=>by have q2:=hD.dR hq mq;rcases ci with h|h<;>(have e:=h.symm.trans hb;injection e with e;(try (have e:V.heap.size=b:=e));omega));have CC:ag (v2.ownBlock≠some g):=I (p9 uP.row aY (by decide) rfl);obtain ⟨A2,c2,rfl,_⟩:=ju.o;clear aY aw cY ci;obtain ⟨X,hX⟩: ∃X:bu,X=⟨⟨m.a8,m.fin,m.pat⟩,.slice A2 m.pat.length c2⟩:=⟨_,rfl⟩
  have El:X.v= .slice A2 m.pat.length c2:=by rw[hX]
  have J7:X.a=cM m:=by rw[hX];rfl
  obtain ⟨w6,xj⟩: ∃w6,w6=w5.alloc (.cells #[.int .i64 m.a8,.int .i64 m.fin,.slice A2 m.pat.length c2] 141):=⟨_,rfl⟩
  have En:Below w5.heap.size w5 w6:=by rw[xj];exact (aae _ _).alloc (aad _) _
  have Eo:Below W.heap.size W w6:=Ek.trans (En.mono Ek.size);have zN:ag (bM SB w6 g cap L):=I (bM.below uP En);have zl:ag (ay ah m.pat V.heap.size w6 (.slice A2 m.pat.length c2)):=I (ju.o.on En);have OS:=zN.o.row.lt g rfl;have U4:=(uP.row.lt g rfl).2;have OT:W.heap.size<=g:=aaB Ce OS.1;have zO:L.length=a.av.length:=by rw[<-aap,nJ]
  have J8:(L.map pw).length=a.av.length:=by rw[aap,zO]
  have px:w6.ownsRow SB 141 3 (.slice (some ⟨g,0,none⟩) a.av.length cap) a.av.length ((L.map pw).flatMap aX):=by rw[ss zN.o.st,<-zO];exact zN.o.row
  have ta:jR w6 w5.heap.size 141 (aX (pw X)):=by rw[j9 El,hX,xj];exact ly _ _
  have qV:SB<=w6.heap.size:=by omega
  have rG:=I (sr (L.map pw) (pw X) k SB g a.av.length cap w5.heap.size 1 w6 J8 hk (by omega) px ta (by omega) qV);unfold iO at rG;have tD:=I (show X.v= .slice A2 m.pat.length c2/\X.a=cM m from ⟨El,J7⟩);have wh:=I (show L.map (·.a)=a.av from nJ);have OU:=I xj;have xP:=I zO;clear xj hX El J7 zO J8 px ta nJ;refine hK.out _ _ (bX.o _ Ek) (λau=>?_);clear hK K aE;have aE:=au;clear au
  try simp only[Act.put,aM]
  refine aZ 12 ?_
  try simp only[Act.put,aK,aM]
  refine aav (rs:=[13]) (by kernel_rfl) (by simp) ?_;refine aat rfl (λK hK=>?_) aaw
  try simp only[aK]
  go_simp;rw[<-OU.o];refine hK.out _ _ (bX.o _ Eo) (λau=>?_);clear hK K aE;have aE:=au;clear au
  try simp only[Act.put,aM]
  refine aav (rs:=[14]) (by kernel_rfl) (by simp) ?_;refine aat rfl (λK hK=>?_) aaw
  try simp only[aK]
  go_simp;rw[xP.o];go_at_call 171;refine aaM (rG.o) ?_;rintro e w7 ⟨v7,rfl,wF,OV,Ep,wG⟩;have wH:Below W.heap.size W w7:=Eo.trans (gx wG OT Eo.size);have Er:a.av.length+1=(L.take k++X::L.drop k).length:=by rw[<-xP.o];simp;omega
  have Es:ag (aR cw W.heap.size w7 v7 (L.take k++X::L.drop k)):=I (by
   refine su tD.o.1 zN.o wG wF Er Ep Ce Ce ?_ (λb hb=>⟨λe=>CC.o ?_,Ao.o b ?_⟩)
   ·rw[tD.o.1,tD.o.2];exact zl.o.less rK
   ·rw[tD.o.1]at hb;rw[hb.2,e]
   rw[tD.o.1]at hb;exact hb.2)
  have wI:ag ((L.take k++X::L.drop k).map (·.a)=cI a.av (cM m)):=I (by
   rw[aaK,aa4,List.map_take,List.map_drop,wh.o,tD.o.2];unfold cI;rw[show cG a.av (cM m).a8=k from uK.o])
  have wJ:ag (eE w7 w7.heap.size v7 (cI a.av (cM m))):=I (by
   have:=Es.o.av;rw[wI.o]at this;exact this)
  obtain ⟨A7,n7,c7,rfl⟩: ∃A n c,v7= .slice A n c:=by
   obtain ⟨A7,c7,OW,_⟩:=dk wJ.o;exact ⟨A7,_,c7,OW⟩
  have OX:ag (n7=(L.take k++X::L.drop k).length):=I (by
   obtain ⟨A8,c8,OY,_⟩:=Es.o.row;injection OY)
  refine hK.out _ _ (bX.o _ wH) (λau=>?_);clear hK K aE;have aE:=au;clear au
  try simp only[Act.put,aM]
  refine aZ 15 ?_
  try simp only[Act.put,aK,aM]
  refine abz (by kernel_rfl) ?_ _;clear aE xR;have rj:=I (jK a.base (cI a.av (cM m)) w7 _ _ (lE.o w7 wH) wJ.o KV.o (jp ii.o MZ.o h8));unfold ff at rj;have z9:=(mB.o.below wH Ge).cell 3 _ rfl;go_wp2_with (fail);refine rj.o.mono ?_;rintro e w8 ⟨g8,OZ,n8,rfl,U5,aU,zP⟩;have kx:=I (wH.trans (zP.mono wH.size));by_cases ol:n8=0
  ·have jS:ag (fi a.base a.av (cM m)=true):=I (j8 h8 (aU.1 ol));subst ol;have O0:=I ((Es.o.below zP).less gf.o.size);clear aU zP;go_wp2;go_ret2;exact ⟨_,_,_,by rw[jS.o];rfl,λ_=>⟨_,OX.o,wI.o,O0.o⟩,(gf.o.trans (kx.o.mono gf.o.size))⟩
  have jS:ag (fi a.base a.av (cM m)=false):=I (lN (λh=>ol (aU.2 h)));have Hh:((n8:Int)==0)=false:=by simp;omega
  clear aU zP ol;go_wp2;go_ret2;exact ⟨_,_,_,by rw[jS.o];rfl,(λh=>by rw[jS.o]at h;cases h),(gf.o.trans (kx.o.mono gf.o.size))⟩
theorem J9 (V:List lW) (rule:Int):(jl V rule).length<=V.length:=by
 unfold jl
 split
 ·next h=>exact aam h.choose_spec.1
 exact aaf _
theorem iC {a:cp} {vs:List Int} (hl:vs.length=a.af.length) (hn:a.af.length<=12) (j:Nat):0<=(cO a vs).getD j 0/\(cO a vs).getD j 0<=12:=by
 have h1:=eY vs (jl (eF vs a.af) a.rule) j;have h2:=J9 (eF vs a.af) a.rule;rw[ew hl]at h2;unfold cO;omega
open Classical in
noncomputable def lY (a:cp) (m:gu) (vs:List Int):Int:=
 if 2*((cO a vs).getD 0 0+(cO a vs).getD 1 0+(cO a vs).getD 2 0)<(a.af.length:Int)then 3
 else if (cO a vs).getD 1 0<=(cO a vs).getD 0 0 then 2
 else if fi a.base a.av (cM m)=true then 1 else 4
theorem yL {a:cp} {m:gu} {vs:List Int} (h:2*((cO a vs).getD 0 0+(cO a vs).getD 1 0+(cO a vs).getD 2 0)<(a.af.length:Int)):lY a m vs=3:=by unfold lY;rw[aaj h]
theorem Cf {a:cp} {m:gu} {vs:List Int} (h: ¬2*((cO a vs).getD 0 0+(cO a vs).getD 1 0+(cO a vs).getD 2 0)<(a.af.length:Int)) (h2:(cO a vs).getD 1 0<=(cO a vs).getD 0 0):lY a m vs=2:=by unfold lY;rw[aah h,aaj h2]
theorem Ch {a:cp} {m:gu} {vs:List Int} (h: ¬2*((cO a vs).getD 0 0+(cO a vs).getD 1 0+(cO a vs).getD 2 0)<(a.af.length:Int)) (h2: ¬(cO a vs).getD 1 0<=(cO a vs).getD 0 0):lY a m vs=if fi a.base a.av (cM m)=true then 1 else 4:=by unfold lY;rw[aah h,aah h2]
theorem ka {a:cp} {vs:List Int} {base g:Nat} {w:World} (h:ay ak (cO a vs) base w (.slice (some ⟨g,0,none⟩) 4 4)) {j:Nat} (hj:j<4):w.cell? ⟨g,j,none⟩=some (.int .i64 ((cO a vs).getD j 0)):=by
 have hlen:=qM a vs;obtain ⟨A,c,e,h1,h2,h3⟩:=h;injection e with e1 e2 e3
 obtain ⟨g',P0,_,_,hr⟩:=h3 (λe=>by rw[e]at hlen;cases hlen);rw[<-e1]at P0;injection P0 with P0
 injection P0 with P0
 subst P0;rw[je]at hr;exact hr.cell j _ (jM (by omega))
structure yM (a:cp) (m:gu) (vs:List Int) (w:World) (At:Option Addr) (ct:Nat) (Ab:Option Addr) (cb:Nat) (Ac:Option Addr) (cc:Nat) (pA:Option Addr) (pc:Nat) (Av:Option Addr) (cv:Nat):Prop where
 rt:kH w w.heap.size (.slice At a.af.length ct) a.af
 rs:iT w w.heap.size (.slice Ab a.base.length cb) a.base
 ra:eE w w.heap.size (.slice Ac a.av.length cc) a.av
 re:bg w w.heap.size (.slice pA m.pat.length pc) m.pat
 rv:Ints w w.heap.size (.slice Av vs.length cv) vs
 len:vs.length=a.af.length
 ok:pf a
 stat:cd a.base=true
 av:bJ a.av=true
 act:eV (cM m)=true
theorem yM.on {a:cp} {m:gu} {vs:List Int} {w w':World} {At:Option Addr} {ct:Nat} {Ab:Option Addr} {cb:Nat} {Ac:Option Addr} {cc:Nat} {pA:Option Addr} {pc:Nat} {Av:Option Addr} {cv:Nat} (h:yM a m vs w At ct Ab cb Ac cc pA pc Av cv) (hb:Below w.heap.size w w'):yM a m vs w' At ct Ab cb Ac cc pA pc Av cv:=
 ⟨h.rt.on hb hb.size,cz.on h.rs (Pl.stays _) hb hb.size,h.ra.on hb hb.size,cz.on h.re (Pl.stays _) hb hb.size,cz.on h.rv (Pl.stays _) hb hb.size,h.len,h.ok,h.stat,h.av,h.act⟩
theorem Ci (a:cp) (m:gu) (vs:List Int) (At:Option Addr) (ct:Nat) (Ab:Option Addr) (cb:Nat) (Ac:Option Addr) (cc:Nat) (pA:Option Addr) (pc:Nat) (Av:Option Addr) (cv:Nat) (b o bm om:Nat) (w:World) (hI:yM a m vs w At ct Ab cb Ac cc pA pc Av cv)
 (k1:w.cell? ⟨b,o+1,none⟩=some (.int .i64 a.rule)) (k2:w.cell? ⟨b,o+2,none⟩=some (.slice At a.af.length ct)) (k3:w.cell? ⟨b,o+3,none⟩=some (.slice Ab a.base.length cb)) (k4:w.cell? ⟨b,o+4,none⟩=some (.slice Ac a.av.length cc))
 (p2:w.cell? ⟨bm,om+2,none⟩=some (.slice pA m.pat.length pc)) (p3:w.cell? ⟨bm,om+3,none⟩=some (.int .i64 m.a8)) (p4:w.cell? ⟨bm,om+4,none⟩=some (.int .i64 m.fin)):
 Calls prog 183 #[.pointer (some ⟨b,o,none⟩),.pointer (some ⟨bm,om,none⟩),.slice Av vs.length cv] w (bT (.int .i64 (lY a m vs)) w):=by
 have hlen:=hI.len;have fD:=hI.ok.n12;have xu:=iC hlen fD 0;have bw:=iC hlen fD 1;have cL:=iC hlen fD 2;have xf:=I (λy:ar w=>Ed a At ct vs b o Av cv y.val (y.cell k1) (y.cell k2) (hI.on y.ok).rt (hI.on y.ok).rv hI.len hI.ok);have jS:=I (λy:ar w=>wA a.base a.av (cM m) (.slice Ab a.base.length cb) (.slice Ac a.av.length cc) bm om pA pc y.val (hI.on y.ok).rs (hI.on y.ok).ra hI.stat hI.av hI.act (y.cell p2) (y.cell p3) (y.cell p4) (hI.on y.ok).re);unfold lh at xf;unfold iB at jS;have sH:=I (λy:ar w=>y.cell k3);have CG:=I (λy:ar w=>y.cell k4);have BZ:=I (yL (a:=a) (m:=m) (vs:=vs));have M7:=I (Cf (a:=a) (m:=m) (vs:=vs));have P4:=I (Ch (a:=a) (m:=m) (vs:=vs));have WQ:=I hlen;have U6:vs.length<=12:=by omega
 clear k1 k2 k3 k4 p2 p3 p4 hI hlen;refine aL λx0=>?_;go_enter func183,ntmps183;go_wp2_with (fail);refine (xf.o x0).mono ?_;rintro e w3 ⟨g,rfl,Ee,dB⟩;have dB:=x0.ok.trans (dB.mono x0.ok.size);have dI:=I dB;have c0:=ka Ee (j:=0) (by decide);have c1:=ka Ee (j:=1) (by decide);have c2:=ka Ee (j:=2) (by decide);clear Ee;generalize (cO a vs).getD 0 0=n0 at*;generalize (cO a vs).getD 1 0=n1 at*;generalize (cO a vs).getD 2 0=n2 at*;have z0:=λy:ar w3=>y.cell c0;have z1:=λy:ar w3=>y.cell c1;have z2:=λy:ar w3=>y.cell c2;clear c0 c1 c2 dB;go_upto_region 2 with (fail)
 refine yY λx1=>?_;by_cases h3:2*(n0+n1+n2)<(vs.length:Int)
 ·have HV:=I (BZ.o (WQ.o▸h3));refine ap (by kernel_rfl) (by kernel_rfl) ?_
  repeat (go_big_quiet_step (fail))
  refine aai ?_;rintro _ ⟨u,rfl⟩;go_wp2;go_ret;exact ⟨by rw[HV.o];rfl,aJ dI.o u⟩
 have RE:=I (show¬2*(n0+n1+n2)<(a.af.length:Int)from WQ.o▸h3);have U7:decide (2*(n0+n1+n2)<(vs.length:Int))=false:=by simp;omega
 refine ap (by kernel_rfl) (by kernel_rfl) ?_
 repeat (go_big_quiet_step (fail))
 refine aai ?_;rintro _ ⟨u,rfl⟩;go_wp2;clear U7 h3;by_cases h2:n1<=n0
 ·have HV:=I (M7.o RE.o h2);rw[HV.o];go_upto_region 4 with (fail)
  refine ap (by kernel_rfl) (by kernel_rfl) ?_
  repeat (go_big_quiet_step (fail))
  refine aai ?_;rintro _ ⟨u2,rfl⟩;go_wp2;go_ret;exact ⟨by rw[HV.o];rfl,aJ dI.o u2⟩
 have HV:=I (P4.o RE.o (by omega));have Hp:decide (n1<=n0)=false:=by simp;omega
 go_upto_region 4 with (fail)
 refine ap (by kernel_rfl) (by kernel_rfl) ?_
 repeat (go_big_quiet_step (fail))
 refine aai ?_;rintro _ ⟨u2,rfl⟩;clear Hp h2 z0 z1 z2;go_upto_region 6 with (fail)
 obtain ⟨U,hU⟩: ∃U,U=u2.val:=⟨_,rfl⟩
 have jo:Below w3.heap.size w3 U:=by rw[hU];exact u2.ok
 rw[<-hU];clear hU;have bX:ag (∀w',Below w3.heap.size w3 w'->w'.cell? ⟨b,o+3,none⟩=some (.slice Ab a.base.length cb)/\w'.cell? ⟨b,o+4,none⟩=some (.slice Ac a.av.length cc)/\Below w3.heap.size w3 w'):=I (λX hX=>⟨sH.o ⟨X,dI.o.trans (hX.mono dI.o.size)⟩,CG.o ⟨X,dI.o.trans (hX.mono dI.o.size)⟩,hX⟩);have CI:=I (λ(W':World) (h:Below w3.heap.size w3 W')=>jS.o ⟨W',dI.o.trans (h.mono dI.o.size)⟩);obtain ⟨q3,q4,-⟩:=bX.o U jo
 go_region_held3 (λw'=>w'.cell? ⟨b,o+3,none⟩=some (.slice Ab a.base.length cb)/\w'.cell? ⟨b,o+4,none⟩=some (.slice Ac a.av.length cc)/\Below w3.heap.size w3 w')
  (first|exact bX.o _ jo|exact bX.o _ jo.drew|exact bX.o _ ‹_›)
  (first|(go_at_call 184;refine (CI.o _ (by first|exact jo|exact jo.drew|assumption)).mono ?_;rintro e w4 ⟨A4,n4,c4,rfl,_,l8⟩;have iz:Below w3.heap.size w3 w4:=Below.trans (by first|exact jo|exact jo.drew|assumption) (l8.mono (by first|exact jo.size|exact jo.drew.size))))
 all_goals
  have hF:Below w.heap.size w w4:=dI.o.trans (iz.mono dI.o.size);clear iz l8;cases E':fi a.base a.av (cM m)with
  |false=>
   rw[E']at HV;go_wp2;go_ret;exact ⟨by rw[HV.o];rfl,hF⟩
  |true=>
   rw[E']at HV;go_wp2;go_ret;exact ⟨by rw[HV.o];rfl,hF⟩
theorem zQ (a:cp) (m:gu) (vs:List Int) (At:Option Addr) (ct:Nat) (Ab:Option Addr) (cb:Nat) (Ac:Option Addr) (cc:Nat) (Am:Option Addr) (cm:Nat) (pA:Option Addr) (pc:Nat) (vA:Option Addr) (vc:Nat) (Av:Option Addr) (cv:Nat) (w:World) (hI:yM a m vs w At ct Ab cb Ac cc pA pc Av cv):
 Calls prog 56 #[.agg #[.int .i64 a.day,.int .i64 a.rule,.slice At a.af.length ct,.slice Ab a.base.length cb,.slice Ac a.av.length cc,.slice Am a.ao.length cm],.agg #[.string m.al,.int .i64 m.br,.slice pA m.pat.length pc,.int .i64 m.a8,.int .i64 m.fin,.int .i64 m.aj,.slice vA m.ax.length vc,.int .i64 m.result],.slice Av vs.length cv] w (bT (.int .i64 (lY a m vs)) w):=by
 have hlen:=hI.len;have fD:=hI.ok.n12;have xu:=iC hlen fD 0;have bw:=iC hlen fD 1;have cL:=iC hlen fD 2;obtain ⟨W1,eG⟩: ∃W1:World,W1=w.alloc (.cells #[.int .i64 a.day,.int .i64 a.rule,.slice At a.af.length ct,.slice Ab a.base.length cb,.slice Ac a.av.length cc,.slice Am a.ao.length cm] 29):=⟨_,rfl⟩
 obtain ⟨W,hW⟩: ∃W:World,W=W1.alloc (.cells #[.string m.al,.int .i64 m.br,.slice pA m.pat.length pc,.int .i64 m.a8,.int .i64 m.fin,.int .i64 m.aj,.slice vA m.ax.length vc,.int .i64 m.result] 35):=⟨_,rfl⟩
 have b1:Below w.heap.size w W1:=by rw[eG];exact (aae _ _).alloc (aad _) _
 have s1:W1.heap.size=w.heap.size+1:=by rw[eG];simp
 have b2:Below W1.heap.size W1 W:=by rw[hW];exact (aae _ _).alloc (aad _) _
 have s2:W.heap.size=w.heap.size+2:=by rw[hW];simp[s1]
 have bW:Below w.heap.size w W:=b1.trans (b2.mono b1.size);have r1:Row W1 w.heap.size [.int .i64 a.day,.int .i64 a.rule,.slice At a.af.length ct,.slice Ab a.base.length cb,.slice Ac a.av.length cc,.slice Am a.ao.length cm]:=by rw[eG];exact Row.new w _ _
 have mB:=I (r1.below b2 (by omega));have r2:Row W (w.heap.size+1) [.string m.al,.int .i64 m.br,.slice pA m.pat.length pc,.int .i64 m.a8,.int .i64 m.fin,.int .i64 m.aj,.slice vA m.ax.length vc,.int .i64 m.result]:=by rw[hW,<-s1];exact Row.new W1 _ _
 have gj:=I r2;have gf:=I bW;have lV:=I (show (w.alloc (.cells #[.int .i64 a.day,.int .i64 a.rule,.slice At a.af.length ct,.slice Ab a.base.length cb,.slice Ac a.av.length cc,.slice Am a.ao.length cm] 29)).alloc (.cells #[.string m.al,.int .i64 m.br,.slice pA m.pat.length pc,.int .i64 m.a8,.int .i64 m.fin,.int .i64 m.aj,.slice vA m.ax.length vc,.int .i64 m.result] 35)=W by rw[hW,eG]);have Na:=hI.on bW;have xf:=I (λy:ar W=>Eg a At ct Ab cb Ac cc Am cm vs Av cv y.val (Na.on y.ok).rt (Na.on y.ok).rv Na.len Na.ok);have jS:=I (λy:ar W=>wE a At ct Ab cb Ac cc Am cm m pA pc vA vc y.val (Na.on y.ok).rs (Na.on y.ok).ra hI.stat hI.av hI.act (Na.on y.ok).re);unfold lh at xf;unfold iB at jS;have WR:=I (λy:ar W=>y.cell (mB.o.cell 0 _ rfl));have Cj:=I (λy:ar W=>y.cell (mB.o.cell 1 _ rfl));have WS:=I (λy:ar W=>y.cell (mB.o.cell 2 _ rfl));have WT:=I (λy:ar W=>y.cell (mB.o.cell 3 _ rfl));have WU:=I (λy:ar W=>y.cell (mB.o.cell 4 _ rfl));have RF:=I (λy:ar W=>y.cell (mB.o.cell 5 _ rfl));have RG:=I (λy:ar W=>y.cell (gj.o.cell 0 _ rfl));have MB:=I (λy:ar W=>y.cell (gj.o.cell 1 _ rfl));have MC:=I (λy:ar W=>y.cell (gj.o.cell 2 _ rfl));have PP:=I (λy:ar W=>y.cell (gj.o.cell 3 _ rfl));have Lt:=I (λy:ar W=>y.cell (gj.o.cell 4 _ rfl));have Zn:=I (λy:ar W=>y.cell (gj.o.cell 5 _ rfl));have P5:=I (λy:ar W=>y.cell (gj.o.cell 6 _ rfl));have QQ:=I (λy:ar W=>y.cell (gj.o.cell 7 _ rfl));have g0:=WR.o;have g1:=Cj.o;have g2:=WS.o;have g3:=WT.o;have g4:=WU.o;have g5:=RF.o;have BZ:=I (yL (a:=a) (m:=m) (vs:=vs));have M7:=I (Cf (a:=a) (m:=m) (vs:=vs));have P4:=I (Ch (a:=a) (m:=m) (vs:=vs));obtain ⟨x0,dp⟩: ∃y:ar W,y.val=W:=⟨⟨W,aae _ _⟩,rfl⟩
 have RD:=I dp;have U6:vs.length<=12:=by omega
 clear hI Na hlen hW eG b1 b2 r1 r2 bW dp s1 s2;go_enter func56,ntmps56;go_wp2_with (fail);rw[lV.o,<-RD.o];refine (xf.o x0).mono ?_;rintro e w3 ⟨g,rfl,Ee,dB⟩;have O1:=x0.ok.trans (dB.mono x0.ok.size);have dI:=I (gf.o.trans (O1.mono gf.o.size));have jx:=I O1;have CI:=I (λ(W':World) (h:Below w3.heap.size w3 W')=>jS.o ⟨W',jx.o.trans (h.mono jx.o.size)⟩);have c0:=ka Ee (j:=0) (by decide);have c1:=ka Ee (j:=1) (by decide);have c2:=ka Ee (j:=2) (by decide);clear Ee;generalize (cO a vs).getD 0 0=n0 at*;generalize (cO a vs).getD 1 0=n1 at*;generalize (cO a vs).getD 2 0=n2 at*;have z0:=λy:ar w3=>y.cell c0;have z1:=λy:ar w3=>y.cell c1;have z2:=λy:ar w3=>y.cell c2;have a0:=λy:ar w3=>WR.o ⟨y.val,jx.o.trans (y.ok.mono jx.o.size)⟩;have a1:=λy:ar w3=>Cj.o ⟨y.val,jx.o.trans (y.ok.mono jx.o.size)⟩;have a2:=λy:ar w3=>WS.o ⟨y.val,jx.o.trans (y.ok.mono jx.o.size)⟩;have a3:=λy:ar w3=>WT.o ⟨y.val,jx.o.trans (y.ok.mono jx.o.size)⟩;have a4:=λy:ar w3=>WU.o ⟨y.val,jx.o.trans (y.ok.mono jx.o.size)⟩;have a5:=λy:ar w3=>RF.o ⟨y.val,jx.o.trans (y.ok.mono jx.o.size)⟩;have p0:=λy:ar w3=>RG.o ⟨y.val,jx.o.trans (y.ok.mono jx.o.size)⟩;have p1:=λy:ar w3=>MB.o ⟨y.val,jx.o.trans (y.ok.mono jx.o.size)⟩;have p2:=λy:ar w3=>MC.o ⟨y.val,jx.o.trans (y.ok.mono jx.o.size)⟩;have p3:=λy:ar w3=>PP.o ⟨y.val,jx.o.trans (y.ok.mono jx.o.size)⟩;have p4:=λy:ar w3=>Lt.o ⟨y.val,jx.o.trans (y.ok.mono jx.o.size)⟩;have p5:=λy:ar w3=>Zn.o ⟨y.val,jx.o.trans (y.ok.mono jx.o.size)⟩;have p6:=λy:ar w3=>P5.o ⟨y.val,jx.o.trans (y.ok.mono jx.o.size)⟩;have p7:=λy:ar w3=>QQ.o ⟨y.val,jx.o.trans (y.ok.mono jx.o.size)⟩;clear c0 c1 c2 dB O1 jS xf;go_upto_region 2 with (fail)
 refine yY λx1=>?_;by_cases h3:2*(n0+n1+n2)<(a.af.length:Int)
 ·have HV:=I (BZ.o h3);refine ap (by kernel_rfl) (by kernel_rfl) ?_
  repeat (go_big_quiet_step (fail))
  refine aai ?_;rintro _ ⟨u,rfl⟩;go_wp2;go_ret;exact ⟨by rw[HV.o];rfl,aJ dI.o u⟩
 have RE:=I (show¬2*(n0+n1+n2)<(a.af.length:Int)from h3);have U7:decide (2*(n0+n1+n2)<(a.af.length:Int))=false:=by simp;omega
 refine ap (by kernel_rfl) (by kernel_rfl) ?_
 repeat (go_big_quiet_step (fail))
 refine aai ?_;rintro _ ⟨u,rfl⟩;clear U7 h3;go_wp2;by_cases h2:n1<=n0
 ·have HV:=I (M7.o RE.o h2);go_upto_region 4 with (fail)
  refine ap (by kernel_rfl) (by kernel_rfl) ?_
  repeat (go_big_quiet_step (fail))
  refine aai ?_;rintro _ ⟨u2,rfl⟩;go_wp2;go_ret;exact ⟨by rw[HV.o];rfl,aJ dI.o u2⟩
 have HV:=I (P4.o RE.o (by omega));have Hp:decide (n1<=n0)=false:=by simp;omega
 go_upto_region 4 with (fail)
 refine ap (by kernel_rfl) (by kernel_rfl) ?_
 repeat (go_big_quiet_step (fail))
 refine aai ?_;rintro _ ⟨u2,rfl⟩;clear Hp h2 z0 z1 z2;go_wp2_with (fail);refine (CI.o _ u2.ok).mono ?_;rintro e w4 ⟨A4,n4,c4,rfl,_,l8⟩;have hF:Below w.heap.size w w4:=dI.o.trans (u2.ok.trans (l8.mono u2.ok.size)|>.mono dI.o.size);clear l8;cases E':fi a.base a.av (cM m)with
 |false=>
  rw[E']at HV;go_wp2;go_ret;exact ⟨by rw[HV.o];rfl,hF⟩
 |true=>
  rw[E']at HV;go_wp2;go_ret;exact ⟨by rw[HV.o];rfl,hF⟩
end Go.Proofs.YtbcggaldkihcaaaGreat

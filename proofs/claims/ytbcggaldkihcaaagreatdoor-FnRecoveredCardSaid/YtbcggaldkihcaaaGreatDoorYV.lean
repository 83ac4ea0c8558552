/- An act entered among acts, plain; parts of acts in memory. -/
import Derived.Test.YtbcggaldkihcaaaGreatDoorYG
import Derived.Test.YtbcggaldkihcaaaGreatDoorQE
import Derived.Test.YtbcggaldkihcaaaGreatDoorZb
import Derived.Test.YtbcggaldkihcaaaGreatDoorQC
import Derived.Test.YtbcggaldkihcaaaGreatDoorZn
set_option maxHeartbeats 8000000
set_option maxRecDepth 100000
namespace Go.Proofs.YtbcggaldkihcaaaGreatDoor
open Tryz
open Go.RowKit Go.Lib
def cG:List bo->Int->Nat
 |[],_=>0
 |a::l,d=>if a.a8<=d then cG l d+1 else 0
theorem nL: ∀(l:List bo) (d:Int),cG l d<=l.length
 |[],_=>Nat.le_refl _
 |a::l,d=>by
  unfold cG
  split
  ·have:=nL l d;simp;omega
  simp
theorem qR: ∀(l:List bo) (d:Int) (k:Nat) (a:bo),l[k]?=some a->k<cG l d->a.a8<=d
 |[],_,_,_,h,_=>by simp at h
 |b::l,d,k,a,h,hk=>by
  unfold cG at hk
  split at hk
  ·rename_i hb;cases k with
   |zero=>simp at h;rw[<-h];exact hb
   |succ k=>exact qR l d k a (by simpa using h) (by omega)
  omega
theorem qS: ∀(l:List bo) (d:Int) (a:bo),l[cG l d]?=some a-> ¬a.a8<=d
 |[],_,_,h=>by simp[cG]at h
 |b::l,d,a,h=>by
  unfold cG at h
  split at h
  ·exact qS l d a (by simpa using h)
  rename_i hb;simp at h;rw[<-h];exact hb
theorem nN {l:List bo} {d:Int} {k:Nat} (hk:k<=l.length) (h: ∀(j:Nat) (a:bo),l[j]?=some a->j<k->a.a8<=d) (hx:k=l.length\/ ∃a,l[k]?=some a/\ ¬a.a8<=d):cG l d=k:=by
 rcases Nat.lt_trichotomy (cG l d) k with e|e|e
 ·have hl:cG l d<l.length:=by omega
  exact absurd (h _ _ (List.getElem?_eq_getElem hl) e) (qS l d _ (List.getElem?_eq_getElem hl))
 ·exact e
 rcases hx with hx|⟨a,ha,hn⟩
 ·have:=nL l d;omega
 exact absurd (qR l d k a ha e) hn
def cI (l:List bo) (x:bo):List bo:=l.take (cG l x.a8)++x::l.drop (cG l x.a8)
theorem Ej (l:List bo) (x:bo):(cI l x).length=l.length+1:=by
 have:=nL l x.a8;unfold cI;simp;omega
theorem qT {L:List bo} (h1: ∀a∈L,eV a=true) (h2: ∀(m:Nat) (d a:bo),L[m]?=some d->L[m+1]?=some a->d.a8<=a.a8) (h3:L.length<=8):bJ L=true:=by
 unfold bJ;rw[Bool.and_eq_true,eo,decide_eq_true_eq];refine ⟨λk hk=>?_,h3⟩;have hg:L[k]?=some L[k]:=List.getElem?_eq_getElem hk;cases k with
 |zero=>exact qF rfl hg (h1 _ (List.getElem_mem hk))
 |succ k=>
  have j5:L[k]?=some L[k]:=List.getElem?_eq_getElem (by omega);rw[np j5 hg (h1 _ (List.getElem_mem hk)),decide_eq_true_eq];exact h2 k _ _ j5 hg
theorem jp {l:List bo} {x:bo} (h:bJ l=true) (hx:eV x=true) (h8:l.length<8):bJ (cI l x)=true:=by
 have hle:=nL l x.a8;refine qT (λa ha=>?_) (λm d a hd ha=>?_) (by rw[Ej];omega)
 ·unfold cI at ha
  have iq: ∀b∈l,eV b=true:=λb hb=>by
   obtain ⟨k,hk⟩:=List.getElem?_of_mem hb;exact fj h hk
  rcases List.mem_append.1 ha with ha|ha
  ·exact iq a (List.mem_of_mem_take ha)
  rcases List.mem_cons.1 ha with rfl|ha
  ·exact hx
  exact iq a (List.mem_of_mem_drop ha)
 have aH: ∀j,(cI l x)[j]?=if j<cG l x.a8 then l[j]? else if j=cG l x.a8 then some x else l[j-1]?:=λj=>by
  unfold cI;have aI:(l.take (cG l x.a8)).length=cG l x.a8:=by rw[List.length_take];omega
  by_cases h1:j<cG l x.a8
  ·rw[if_pos h1,List.getElem?_append_left (by omega),List.getElem?_take,if_pos h1]
  rw[if_neg h1,List.getElem?_append_right (by omega),aI];by_cases h2:j=cG l x.a8
  ·rw[if_pos h2,h2,Nat.sub_self];rfl
  rw[if_neg h2];obtain ⟨i,hi⟩: ∃i,j-cG l x.a8=i+1:=⟨j-cG l x.a8-1,by omega⟩
  rw[hi,List.getElem?_cons_succ,List.getElem?_drop]
  congr 1
  omega
 rw[aH]at hd ha;by_cases c1:m+1<cG l x.a8
 ·rw[if_pos c1]at ha;rw[if_pos (by omega)]at hd;exact l' h hd ha
 rw[if_neg c1]at ha;by_cases c2:m+1=cG l x.a8
 ·rw[if_pos c2]at ha;rw[if_pos (by omega)]at hd;injection ha with ha
  rw[<-ha];exact qR l x.a8 m d hd (by omega)
 rw[if_neg c2]at ha;by_cases c3:m=cG l x.a8
 ·rw[if_neg (by omega),if_pos c3]at hd;injection hd with hd
  rw[Nat.add_sub_cancel,c3]at ha;have:=qS l x.a8 a ha;rw[<-hd];omega
 rw[if_neg (by omega),if_neg c3]at hd;rw[Nat.add_sub_cancel]at ha;have he:m-1+1=m:=by omega
 exact l' h hd (by rw[he];exact ha)
def cM (m:gu):bo:=⟨m.a8,m.fin,m.pat⟩
theorem B7 {m:gu} {day n:Int} (h:dD m day n=true):eV (cM m)=true:=by
 unfold dD at h;simp only[Bool.and_eq_true]at h;have hp:=h.1.1.1.1.1.2;have hs:=h.1.1.1.1.2;unfold jd at hs;simp only[Bool.and_eq_true,dS]at hs;exact ep.2 ⟨by show 0<=m.a8;omega,by show m.a8<=1000;omega,by show 0<=m.fin;omega,by show m.fin<=1000;omega,by show m.a8<m.fin;omega,hp⟩
open Classical in
noncomputable def fi (S:List bE) (l:List bo) (x:bo):Bool:=decide (l.length<8)&&decide (eJ S (cI l x))
theorem cz.drop {α:Type} {R:World->Nat->List Value->α->Prop} {size:Nat} {w:World} {B b off n c:Nat} {xs:List α} (h:cz R size w B (.slice (some ⟨b,off,none⟩) n c) xs) (k:Nat) (hk:k<=xs.length):cz R size w B (.slice (some ⟨b,off+k*size,none⟩) (n-k) (c-k)) (xs.drop k):=by
 obtain ⟨A',c',hv,h1,h2,h3⟩:=h;injection hv with e1 e2 e3
 subst e1 e3;refine ⟨_,_,by rw[List.length_drop,e2],by rw[List.length_drop];omega,by omega,λh0=>?_⟩;rw[List.length_drop]at h0;obtain ⟨b',xw,e,hb,hc⟩:=h3 (by omega);injection e with e
 injection e with e1 e2
 subst e1 e2;refine ⟨_,_,rfl,hb,λj x hj=>?_⟩;rw[List.getElem?_drop]at hj;obtain ⟨us,hl,hp,aC⟩:=hc (k+j) x hj;refine ⟨us,hl,hp,λi u hu=>?_⟩;have:=aC i u hu;rw[show off+k*size+j*size+i=off+(k+j)*size+i by rw[Nat.add_mul];omega];exact this
theorem eE.take {w:World} {B n c:Nat} {A:Option Addr} {ls:List bo} (h:eE w B (.slice A n c) ls) (k:Nat) (hk:k<=ls.length):eE w B (.slice A k c) (ls.take k):=by
 obtain ⟨L,rfl,h2,h3⟩:=h;rw[List.length_map]at hk;exact ⟨L.take k,by rw[List.map_take],h2.take k hk,λx hx=>h3 x (List.mem_of_mem_take hx)⟩
theorem eE.drop {w:World} {B b off n c:Nat} {ls:List bo} (h:eE w B (.slice (some ⟨b,off,none⟩) n c) ls) (k:Nat) (hk:k<=ls.length):eE w B (.slice (some ⟨b,off+k*3,none⟩) (n-k) (c-k)) (ls.drop k):=by
 obtain ⟨L,rfl,h2,h3⟩:=h;rw[List.length_map]at hk;exact ⟨L.drop k,by rw[List.map_drop],h2.drop k hk,λx hx=>h3 x (List.mem_of_mem_drop hx)⟩
theorem eE.nil {w:World} {B c:Nat} {A:Option Addr} (hc:c<=maxLen):eE w B (.slice A 0 c) []:=⟨[],rfl,cz.nil _ _ _ _ _ _ hc,λx hx=>by cases hx⟩
theorem GR {w:World} {b base size n:Nat} {e:TypeId} {v:Value} {xs:List Value} (h:w.ownsRow base e size v n xs) (hb:b<=base):w.ownsRow b e size v n xs:=by
 obtain ⟨h1,h2|⟨g',c,kT,e,h3,h4⟩⟩:=h
 ·exact ⟨h1,.inl h2⟩
 exact ⟨h1,.inr ⟨g',c,kT,e,Nat.le_trans hb h3,h4⟩⟩
theorem fV.less {b base:Nat} {w:World} {g cap:Nat} {L:List bu} (h:fV base w g cap L) (hb:b<=base):fV b w g cap L:=
 ⟨mI _ _,λh=>absurd rfl h,mI _ _,λh=>absurd rfl h,GR h.row hb,λx hx=>⟨(h.nt x hx).1.less hb,(h.nt x hx).2⟩⟩
theorem fV.below {base:Nat} {w w':World} {g cap:Nat} {L:List bu} (h:fV base w g cap L) (hb:Below w.heap.size w w'):fV base w' g cap L:=dL.below h hb
theorem fV.join {base si:Nat} {w w':World} {g cap g2 zM g' fq:Nat} {L M:List bu} (h:fV base w g cap L) (h2:fV si w g2 zM M) (hb:base<=si) (qp:g<si) (hg:w.grownBy w' (some g)) (gd:g'=g\/g'=w.heap.size)
 (bi:w'.ownsRow base 139 3 (.slice (some ⟨g',0,none⟩) (L.length+M.length) fq) (L.length+M.length) (L.flatMap cu++M.flatMap cu)):fV base w' g' fq (L++M):=by
 refine ⟨mI _ _,λh=>absurd rfl h,mI _ _,λh=>absurd rfl h,by rw[List.length_append,List.flatMap_append];exact bi,λx hx=>?_⟩
 have key: ∀(bb:Nat),ay ah x.a.pat bb w x.v->base<=bb->(x.a.pat≠[]->x.v.ownBlock≠some g)->bS x.a.pat->ay ah x.a.pat base w' x.v/\(x.a.pat≠[]->x.v.ownBlock≠some g')/\bS x.a.pat:=λbb ho j7 hn hs=>by
  refine ⟨(ho.less j7).aD (F:=λb=>b=g) (Touch.aW hg (λb hb=>by injection hb with hb;exact hb.symm)) (λb hb e=>hn hb.1 (by rw[hb.2,e])),λh0 e=>?_,hs⟩;rcases gd with e'|e'
  ·rw[e']at e;exact hn h0 e
  obtain ⟨j,hj,h1,h3⟩:=ho.dR h0;rw[hj]at e;injection e with e
  omega
 rcases List.mem_append.1 hx with hx|hx
 ·obtain ⟨p1,p2,p3⟩:=h.nt x hx;exact key base p1 (Nat.le_refl _) p2 p3
 obtain ⟨p1,p2,p3⟩:=h2.nt x hx;refine key si p1 hb (λh0 e=>?_) p3;obtain ⟨j,hj,h1,h3⟩:=p1.dR h0;rw[hj]at e;injection e with e
 omega
theorem fV.one {base:Nat} {w:World} {g cap:Nat} {L:List bu} (h:fV base w g cap L): ∀u∈L.flatMap cu,u.oneCell'=true:=λu hu=>by
 obtain ⟨x,hx,hu⟩:=List.mem_flatMap.1 hu;obtain ⟨A,c,hv,_⟩:=(h.nt x hx).1;exact oX hv hu
theorem bM.less {b base:Nat} {w:World} {g cap:Nat} {L:List bu} (h:bM base w g cap L) (hb:b<=base):bM b w g cap L:=⟨fV.less h.st hb,h.two⟩
theorem bM.join {base si:Nat} {w w':World} {g cap g2 zM g' fq:Nat} {L M:List bu} (h:bM base w g cap L) (h2:bM si w g2 zM M) (hb:base<=si) (qp:g<si) (PH: ∀q∈L,∀b,cw.dR q b->b<si) (hg:w.grownBy w' (some g)) (gd:g'=g\/g'=w.heap.size)
 (bi:w'.ownsRow base 139 3 (.slice (some ⟨g',0,none⟩) (L.length+M.length) fq) (L.length+M.length) (L.flatMap cu++M.flatMap cu)):bM base w' g' fq (L++M):=
 ⟨fV.join h.st h2.st hb qp hg gd bi,List.pairwise_append.2 ⟨h.two,h2.two,λp hp q hq b h1 h3=>by have q1:=PH p hp b h1;have q2:=(h2.dR hq h3).1;omega⟩⟩
theorem ul {l:List bo} (h:bJ l=true) (k:Nat):bJ (l.take k)=true:=by
 refine qT (λa ha=>?_) (λm d a hd ha=>?_) (by have:=eM h;rw[List.length_take];omega)
 ·obtain ⟨j,hj⟩:=List.getElem?_of_mem (List.mem_of_mem_take ha);exact fj h hj
 rw[List.getElem?_take]at hd ha
 split at hd
 ·split at ha
  ·exact l' h hd ha
  cases ha
 cases hd
theorem pu {l:List bo} (h:bJ l=true) (k:Nat):bJ (l.drop k)=true:=by
 refine qT (λa ha=>?_) (λm d a hd ha=>?_) (by have:=eM h;rw[List.length_drop];omega)
 ·obtain ⟨j,hj⟩:=List.getElem?_of_mem (List.mem_of_mem_drop ha);exact fj h hj
 rw[List.getElem?_drop]at hd ha;exact l' h hd ha
def iB (S:List bE) (ls:List bo) (x:bo) (w:World) (e:Ending) (w':World):Prop:=
 ∃A n c,e= .returned (.tuple #[.slice A n c,.bool (fi S ls x)])/\
  (fi S ls x=true-> ∃L,n=L.length/\L.map (·.a)=cI ls x/\aR cw w.heap.size w' (.slice A n c) L)/\Below w.heap.size w w'
theorem j8 {S:List bE} {ls:List bo} {x:bo} (h8:ls.length<8) (h:eJ S (cI ls x)):fi S ls x=true:=by unfold fi;simp[h8,h]
theorem lN {S:List bE} {ls:List bo} {x:bo} (h: ¬eJ S (cI ls x)):fi S ls x=false:=by unfold fi;simp[h]
theorem um {S:List bE} {ls:List bo} {x:bo} (h: ¬ls.length<8):fi S ls x=false:=by unfold fi;rw[decide_eq_false h,Bool.false_and]
theorem wA (S:List bE) (ls:List bo) (a:bo) (vs va:Value) (bm om:Nat) (pA:Option Addr) (pc:Nat) (w:World) (hS:iT w w.heap.size vs S) (hA:eE w w.heap.size va ls) (CV:cd S=true) (cy:bJ ls=true) (ha:eV a=true)
 (k2:w.cell? ⟨bm,om+2,none⟩=some (.slice pA a.pat.length pc)) (k3:w.cell? ⟨bm,om+3,none⟩=some (.int .i64 a.a8)) (k4:w.cell? ⟨bm,om+4,none⟩=some (.int .i64 a.fin)) (RA:bg w w.heap.size (.slice pA a.pat.length pc) a.pat):
 Calls prog 98 #[vs,va,.pointer (some ⟨bm,om,none⟩)] w (iB S ls a w):=by
 obtain ⟨A,c,rfl,hc,hm,cn⟩:=dk hA;have IM:=eM cy;have CF:=I (λW (hb:Below w.heap.size w W)=>hA.on hb hb.size);have lE:=I (λW (hb:Below w.heap.size w W)=>(cz.on hS (Pl.stays _) hb hb.size:iT W W.heap.size vs S));have HE:ag (∀W,Below w.heap.size w W->bg W W.heap.size (.slice pA a.pat.length pc) a.pat):=I (λW h=>cz.on RA (Pl.stays _) h h.size);have KU:bm<w.heap.size:=World.block_lt_of_cell? w _ k2;have z2:=λy:ar w=>y.cell k2;have z3:=λy:ar w=>y.cell k3;have z4:=λy:ar w=>y.cell k4;have gH:=I cn;have ii:=I cy;have MZ:=I ha;have OO:=I (lC (ep.1 ha).pat);have oz:=eZ (ep.1 ha).pat;have KV:=I CV;unfold maxLen at hm;obtain ⟨A0,c0',rfl,_⟩:=hS;unfold iB;refine aL λx0=>?_;clear hA cn CV cy ha RA;by_cases h8:ls.length<8
 case neg=>
  have eA:(8:Int)<=(ls.length:Int):=by omega
  have HN:=um (S:=S) (x:=a) h8;rw[HN];clear HN;go_enter func98,ntmps98;go_wp2;go_ret2;exact ⟨_,_,_,rfl,(λh=>by cases h),x0.ok⟩
 have Zi: ¬(8:Int)<=(ls.length:Int):=by omega
 have KP:=I k2;have S6:=I k3;have S7:=I k4;clear k2 k3 k4;go_enter func98,ntmps98;go_wp2;go_loopw [8] (λi wr=> ∃(k:Nat) (y:ar w),k<=ls.length/\i= .int .i64 (k:Int)/\wr=y.val/\(∀j b,ls[j]?=some b->j<k->b.a8<=a.a8)) (λi _=>ls.length-(RowKit.intOf i).toNat);case atStart=>exact ⟨0,x0,Nat.zero_le _,rfl,rfl,λj b _ hj=>absurd hj (Nat.not_lt_zero _)⟩
 case round=>
  obtain ⟨k,y,hk,rfl,rfl,RB⟩:=hrel;have D3:=I RB;clear RB;by_cases aI:k<ls.length
  ·obtain ⟨b,off,hA,hb,aC⟩:=gH.o (by omega);subst hA;have aH:ls[k]?=some ls[k]:=List.getElem?_eq_getElem aI;obtain ⟨pv,c0,_,_,_⟩:=aC k _ aH;have x1:=λy:ar w=>y.cell c0;have HG:=I aH;have Hl:(k:Int)<(ls.length:Int):=by omega
   clear aH c0 aC;generalize ls[k]=q at*;by_cases hq:q.a8<=a.a8
   ·have hd:decide (q.a8<=a.a8)=true:=by simp[hq]
    have HN:ag (∀j b,ls[j]?=some b->j<k+1->b.a8<=a.a8):=I (λj b hj KI=>by
     by_cases e:j=k
     ·subst e;rw[HG.o]at hj;injection hj with hj
      rw[<-hj];exact hq
     exact D3.o j b hj (by omega))
    go_upto_region 4 with (fail)
    refine ap (by kernel_rfl) (by kernel_rfl) ?_
    repeat (go_big_quiet_step (fail))
    refine wpQuiet_nil ?_;rintro _ ⟨u,rfl⟩;go_wp2;go_roundw;case rel=>exact ⟨k+1,u,by omega,by go_num,rfl,HN.o⟩
    case measure=>simp[RowKit.intOf];omega
   have hd:decide (q.a8<=a.a8)=false:=by simp;omega
   go_upto_region 4 with (fail)
   refine ap (by kernel_rfl) (by kernel_rfl) ?_
   repeat (go_big_quiet_step (fail))
   refine wpQuiet_nil ?_;rintro _ ⟨u,rfl⟩;clear x1;have uK:ag (cG ls a.a8=k):=I (nN hk D3.o (Or.inr ⟨q,HG.o,hq⟩));have jh:=I (lk (ls.take k) u.val _ ((CF.o _ u.ok).take k hk) (ul ii.o k));have Zj:(k:Int)<=(c:Int):=by omega
   have jA:(0:Int)<=(k:Int):=by omega
   unfold uk at jh;have uo:=I u.ok;go_wp2_with (fail);refine jh.o.mono ?_;rintro e w3 ⟨g,cap,L,rfl,nJ,hD,dB⟩
   have tf:L.length=k:=by
    have:=congrArg List.length nJ;rw[List.length_map,List.length_take]at this;omega
   have HD:=I (hD.less uo.o.size);have HB:=I (uo.o.trans (dB.mono uo.o.size));have wh:=I nJ;have OP:=(hD.row.lt g rfl).1;have U1:=uo.o.size;have kd:bm≠g:=by omega
   have x0:=(HB.o.cell (p:=⟨bm,om+3,none⟩) KU).trans S6.o;have x1:=(HB.o.cell (p:=⟨bm,om+4,none⟩) KU).trans S7.o;have x2:=(HB.o.cell (p:=⟨bm,om+2,none⟩) KU).trans KP.o;have B5:=HD;have gf:=HB;obtain ⟨i0,hi,dK,rF,ek⟩:=info_parts kf;obtain ⟨e0,po,pq,pr,mu⟩:=info_parts oG;clear nJ hD dB U1 OP z2 z3 z4;go_wp2_with (fail);have lX:w3.heap.size=w3.heap.size:=by simp
   have Ot:g<w3.heap.size:=by have:=(B5.o.row.lt g rfl).2;rw[lX]at this;exact this
   have Eh:w.heap.size<=w3.heap.size:=by have:=gf.o.size;rw[lX]at this;exact this
   have bw:Below w3.heap.size w3 (w3.alloc (.cells #[] 93)).drew:=((Below.refl _ _).alloc (by rw[lX];exact Nat.le_refl _) _).drew;have wz:w3.heap.size<=(w3.alloc (.cells #[] 93)).drew.heap.size:=by rw[<-lX];exact bw.size
   have da:=I bw;have fe:(w3.alloc (.cells #[] 93)).ownsRow w3.heap.size 93 4 (.slice (some ⟨w3.heap.size,0,none⟩) 0 0) 0 []:=by rw[<-lX];simpa using World.ownsRow_made w3 #[] 0 (Nat.le_refl _) (Nat.zero_le _) rfl
   have gW:=I fe.drew;have tN:=I (HE.o _ (gf.o.trans (bw.mono Eh)));clear fe bw;have fG:=tf
   try rw[tf]
   go_region_held3 (λw'=>w'.cell? ⟨bm,om+3,none⟩=some (.int .i64 a.a8)/\w'.cell? ⟨bm,om+4,none⟩=some (.int .i64 a.fin)/\w'.cell? ⟨bm,om+2,none⟩=some (.slice pA a.pat.length pc))
    (first|exact ⟨x0,x1,x2⟩|exact fH ⟨x0,x1,x2⟩ ((Below.refl _ _).drew)|exact fH ⟨x0,x1,x2⟩ ((Below.refl _ _).alloc (Nat.le_refl _) _)|exact fH ⟨x0,x1,x2⟩ (((Below.refl _ _).alloc (Nat.le_refl _) _).drew)|exact kD ⟨x0,x1,x2⟩ dy.o lX|exact fH (kD ⟨x0,x1,x2⟩ dy.o lX) ((Below.refl _ _).alloc (Nat.le_refl _) _)|exact Br (fH (kD ⟨x0,x1,x2⟩ dy.o lX) ((Below.refl _ _).alloc (Nat.le_refl _) _)) aA kd kd kd|go_keep)
    (first
     |(refine gL ah (by rfl) _ _ 36 (by rfl) w3.heap.size 93 e0 (.agg #[.int .i64 0,.int .i64 0,.string ⟨#[]⟩,.string ⟨#[]⟩]) 4 48 underlying36 po pq pr mu rfl (by decide) _ _ _ (by rfl) gW.o _ a.pat _ (by rfl) tN.o (λ_=>rfl) (λy u hu=>cJ hu) (by unfold maxLen;omega) (by omega) wz ?_
       intro v2 w2 aY aw cY;have ju:ag (ay ah a.pat w3.heap.size w2 v2):=I (ay.bI ah (size:=4) (λ_=>rfl) (by simpa using aY));have dy:ag (Below w3.heap.size w3 w2):=I (da.o.grown aw wz (λj hj=>(gW.o.lt j hj).1));have Ei:=I (bM.below B5.o (by rw[lX];exact dy.o));have my:=I (gf.o.trans (dy.o.mono Eh))
       have D9:ag (a.pat≠[]->v2.ownBlock≠some g):=I (λh0 e=>by
        obtain ⟨j,hj,h1,_⟩:=ju.o.dR h0;rw[hj]at e;injection e with e
        omega)
       obtain ⟨A2,c2,rfl,_⟩:=ju.o
       have MU:ag (∀b,cx a.pat (.slice A2 a.pat.length c2) b-> ∀q∈L,¬cw.dR q b):=I (λb hb q hq mq=>by
        have q1:=(ay.dw ju.o hb).1;have q2:=(B5.o.dR hq mq).2;rw[lX]at q2;omega)
       have pS:=I (ju.o.less Eh);have ri:Below w2.heap.size w2 (w2.alloc (.cells #[.int .i64 a.a8,.int .i64 a.fin,.slice A2 a.pat.length c2] 139)):=(Below.refl _ _).alloc (Nat.le_refl _) _;have LX:=I (bM.below Ei.o ri);have LY:=I (pS.o.on ri);have fv:=I (Ei.o.row.alloc (.cells #[.int .i64 a.a8,.int .i64 a.fin,.slice A2 a.pat.length c2] 139));rw[fG]at fv;clear aY aw cY ri)
     |(refine er (by rfl) _ _ 26 (by rfl) w.heap.size 139 i0 (.agg #[.int .i64 0,.int .i64 0,.slice none 0 0]) 3 40 underlying26 hi dK rF ek rfl (by decide) _ _ _ (by rfl) fv.o ⟨w2.heap.size,0,none⟩ 1 1 (cu ⟨⟨a.a8,a.fin,a.pat⟩,.slice A2 a.pat.length c2⟩) (by rfl) (by rfl) (λj u hj=>by have:=(Row.new w2 (cu ⟨⟨a.a8,a.fin,a.pat⟩,.slice A2 a.pat.length c2⟩).toArray 139).cell j u (by simpa using hj);rw[Addr.add_lit,Nat.zero_add];exact this) (λu hu=>oX rfl hu) (by unfold maxLen;omega) (by omega) (aS my.o.size) ?_
       intro v' w9 aG aA aU gd;obtain ⟨g',fq,rfl,qh,lB⟩:=bG aG (by simpa using aU);clear aU))
   have CJ:=I (LX.o.push (x:=⟨⟨a.a8,a.fin,a.pat⟩,.slice A2 a.pat.length c2⟩) aA (by rcases gd with h|h<;>injection h with h;exact .inl h;exact .inr (by simpa using h)) (by rw[fG];exact aG) LY.o D9.o OO.o MU.o);have iM:=I ((my.o.alloc my.o.size (.cells #[.int .i64 a.a8,.int .i64 a.fin,.slice A2 a.pat.length c2] 139)).grown aA (aS my.o.size) (λj hj=>(fv.o.lt j hj).1));clear aG aA gd;obtain ⟨X,hX⟩: ∃X,X=L++[(⟨⟨a.a8,a.fin,a.pat⟩,.slice A2 a.pat.length c2⟩:bu)]:=⟨_,rfl⟩
   rw[<-hX]at CJ;have Th:ag (X.map (·.a)=ls.take k++[a]):=I (by rw[hX,List.map_append,wh.o];rfl);have Ao:ag (X.length=k+1):=I (by rw[hX,List.length_append,tf];rfl);clear hX x0 x1 x2 B5 LX LY D9 fv HD Ei ju dy pS my;have EM: ¬c=k:=by omega
   have GU:=I (CF.o w9 iM.o);go_wp2_with (fail);refine (lk (ls.drop k) w9 _ (eE.drop GU.o k hk) (pu ii.o k)).mono ?_;rintro e Ti ⟨g2,zM,M,rfl,hM,uP,wB⟩;have B9:=I (bM.below CJ.o wB);have Ca:=I (iM.o.trans (wB.mono iM.o.size));have pO:=I hM
   have SR:M.length<=8:=by
    have:=congrArg List.length hM;rw[List.length_map,List.length_drop]at this;omega
   have xG:=I uP;have wC:=I B9.o.row;rw[Ao.o]at wC;have KW:=(CJ.o.row.lt g' rfl).2;have RC:=iM.o.size;have Cb:=Ca.o.size;clear hM uP wB GU;go_wp2_with (at_builtin;refine wpList_append_own_at _ rfl _ _ 26 rfl w.heap.size 139 i0 (.agg #[.int .i64 0,.int .i64 0,.slice none 0 0]) 3 40 underlying26 hi dK rF ek rfl (by decide) _ _ _ rfl wC.o ⟨g2,0,none⟩ M.length zM (M.flatMap cu) rfl ?c1 ?c2 ?c5 ?c3 ?c4 Cb ?_);case c1=>exact bp cu (λ_=>rfl) M
   case c2=>exact xG.o.row.cells (g:=g2) rfl
   case c5=>exact fV.one xG.o.st
   case c3=>unfold maxLen;omega
   case c4=>omega
   intro WO KX aG aA aU gd;obtain ⟨g11,M1,rfl,qh,lB⟩:=bG aG (by simpa using aU);have Cc:=I (bM.join B9.o xG.o RC KW (λq hq b mq=>(CJ.o.dR hq mq).2) aA (by rcases gd with h|h<;>injection h with h;exact .inl h;exact .inr h) (by rw[Ao.o];exact aG));have wD:=I (Ca.o.grown aA Cb (λj hj=>(wC.o.lt j hj).1))
   have M2:ag ((X++M).map (·.a)=cI ls a):=I (by
    rw[List.map_append,Th.o,pO.o];unfold cI;rw[uK.o];simp)
   have J2:ag ((X++M).length=k+1+M.length):=I (by rw[List.length_append,Ao.o]);have yK:=dL.av Cc.o.st;rw[M2.o,J2.o]at yK;have rj:=I (mb S (cI ls a) KX _ _ (lE.o KX wD.o) yK KV.o (jp ii.o MZ.o h8));unfold ff at rj;clear aG aA aU gd yK;go_wp2_with (fail);refine rj.o.mono ?_;rintro e Tj ⟨g12,M3,n12,rfl,kM,aU,sj⟩;have Cd:=I (wD.o.trans (sj.mono wD.o.size));by_cases ol:n12=0
   ·have jS:ag (fi S ls a=true):=I (j8 h8 (aU.1 ol));have J3:=I (bM.below Cc.o sj);subst ol;clear aU sj;go_wp2;go_ret2;exact ⟨_,_,_,by rw[jS.o];rfl,λ_=>⟨X++M,J2.o.symm,M2.o,by have:=J3.o.tree;rw[J2.o]at this;exact this⟩,Cd.o⟩
   have jS:ag (fi S ls a=false):=I (lN (λh=>ol (aU.2 h)));have Hh:(0:Int)<(n12:Int):=by omega
   clear aU sj ol;go_wp2;go_ret2;exact ⟨_,_,_,by rw[jS.o];rfl,(λh=>by rw[jS.o]at h;cases h),Cd.o⟩
  have eA: ¬(k:Int)<(ls.length:Int):=by omega
  go_upto_region 4 with (fail)
  refine ap (by kernel_rfl) (by kernel_rfl) ?_
  repeat (go_big_quiet_step (fail))
  refine wpQuiet_nil ?_;rintro _ ⟨u,rfl⟩;have uK:ag (cG ls a.a8=k):=I (nN hk D3.o (Or.inl (by omega)));have jh:=I (lk (ls.take k) u.val _ ((CF.o _ u.ok).take k hk) (ul ii.o k));have Zj:(k:Int)<=(c:Int):=by omega
  have jA:(0:Int)<=(k:Int):=by omega
  unfold uk at jh;have uo:=I u.ok;go_wp2_with (fail);refine jh.o.mono ?_;rintro e w3 ⟨g,cap,L,rfl,nJ,hD,dB⟩
  have tf:L.length=k:=by
   have:=congrArg List.length nJ;rw[List.length_map,List.length_take]at this;omega
  have HD:=I (hD.less uo.o.size);have HB:=I (uo.o.trans (dB.mono uo.o.size));have wh:=I nJ;have OP:=(hD.row.lt g rfl).1;have U1:=uo.o.size;have kd:bm≠g:=by omega
  have x0:=(HB.o.cell (p:=⟨bm,om+3,none⟩) KU).trans S6.o;have x1:=(HB.o.cell (p:=⟨bm,om+4,none⟩) KU).trans S7.o;have x2:=(HB.o.cell (p:=⟨bm,om+2,none⟩) KU).trans KP.o;have B5:=HD;have gf:=HB;obtain ⟨i0,hi,dK,rF,ek⟩:=info_parts kf;obtain ⟨e0,po,pq,pr,mu⟩:=info_parts oG;clear nJ hD dB U1 OP z2 z3 z4;go_wp2_with (fail);have lX:w3.heap.size=w3.heap.size:=by simp
  have Ot:g<w3.heap.size:=by have:=(B5.o.row.lt g rfl).2;rw[lX]at this;exact this
  have Eh:w.heap.size<=w3.heap.size:=by have:=gf.o.size;rw[lX]at this;exact this
  have bw:Below w3.heap.size w3 (w3.alloc (.cells #[] 93)).drew:=((Below.refl _ _).alloc (by rw[lX];exact Nat.le_refl _) _).drew;have wz:w3.heap.size<=(w3.alloc (.cells #[] 93)).drew.heap.size:=by rw[<-lX];exact bw.size
  have da:=I bw;have fe:(w3.alloc (.cells #[] 93)).ownsRow w3.heap.size 93 4 (.slice (some ⟨w3.heap.size,0,none⟩) 0 0) 0 []:=by rw[<-lX];simpa using World.ownsRow_made w3 #[] 0 (Nat.le_refl _) (Nat.zero_le _) rfl
  have gW:=I fe.drew;have tN:=I (HE.o _ (gf.o.trans (bw.mono Eh)));clear fe bw;have fG:=tf
  try rw[tf]
  go_region_held3 (λw'=>w'.cell? ⟨bm,om+3,none⟩=some (.int .i64 a.a8)/\w'.cell? ⟨bm,om+4,none⟩=some (.int .i64 a.fin)/\w'.cell? ⟨bm,om+2,none⟩=some (.slice pA a.pat.length pc))
   (first|exact ⟨x0,x1,x2⟩|exact fH ⟨x0,x1,x2⟩ ((Below.refl _ _).drew)|exact fH ⟨x0,x1,x2⟩ ((Below.refl _ _).alloc (Nat.le_refl _) _)|exact fH ⟨x0,x1,x2⟩ (((Below.refl _ _).alloc (Nat.le_refl _) _).drew)|exact kD ⟨x0,x1,x2⟩ dy.o lX|exact fH (kD ⟨x0,x1,x2⟩ dy.o lX) ((Below.refl _ _).alloc (Nat.le_refl _) _)|exact Br (fH (kD ⟨x0,x1,x2⟩ dy.o lX) ((Below.refl _ _).alloc (Nat.le_refl _) _)) aA kd kd kd|go_keep)
   (first
    |(refine gL ah (by rfl) _ _ 36 (by rfl) w3.heap.size 93 e0 (.agg #[.int .i64 0,.int .i64 0,.string ⟨#[]⟩,.string ⟨#[]⟩]) 4 48 underlying36 po pq pr mu rfl (by decide) _ _ _ (by rfl) gW.o _ a.pat _ (by rfl) tN.o (λ_=>rfl) (λy u hu=>cJ hu) (by unfold maxLen;omega) (by omega) wz ?_
      intro v2 w2 aY aw cY;have ju:ag (ay ah a.pat w3.heap.size w2 v2):=I (ay.bI ah (size:=4) (λ_=>rfl) (by simpa using aY));have dy:ag (Below w3.heap.size w3 w2):=I (da.o.grown aw wz (λj hj=>(gW.o.lt j hj).1));have Ei:=I (bM.below B5.o (by rw[lX];exact dy.o));have my:=I (gf.o.trans (dy.o.mono Eh))
      have D9:ag (a.pat≠[]->v2.ownBlock≠some g):=I (λh0 e=>by
       obtain ⟨j,hj,h1,_⟩:=ju.o.dR h0;rw[hj]at e;injection e with e
       omega)
      obtain ⟨A2,c2,rfl,_⟩:=ju.o
      have MU:ag (∀b,cx a.pat (.slice A2 a.pat.length c2) b-> ∀q∈L,¬cw.dR q b):=I (λb hb q hq mq=>by
       have q1:=(ay.dw ju.o hb).1;have q2:=(B5.o.dR hq mq).2;rw[lX]at q2;omega)
      have pS:=I (ju.o.less Eh);have ri:Below w2.heap.size w2 (w2.alloc (.cells #[.int .i64 a.a8,.int .i64 a.fin,.slice A2 a.pat.length c2] 139)):=(Below.refl _ _).alloc (Nat.le_refl _) _;have LX:=I (bM.below Ei.o ri);have LY:=I (pS.o.on ri);have fv:=I (Ei.o.row.alloc (.cells #[.int .i64 a.a8,.int .i64 a.fin,.slice A2 a.pat.length c2] 139));rw[fG]at fv;clear aY aw cY ri)
    |(refine er (by rfl) _ _ 26 (by rfl) w.heap.size 139 i0 (.agg #[.int .i64 0,.int .i64 0,.slice none 0 0]) 3 40 underlying26 hi dK rF ek rfl (by decide) _ _ _ (by rfl) fv.o ⟨w2.heap.size,0,none⟩ 1 1 (cu ⟨⟨a.a8,a.fin,a.pat⟩,.slice A2 a.pat.length c2⟩) (by rfl) (by rfl) (λj u hj=>by have:=(Row.new w2 (cu ⟨⟨a.a8,a.fin,a.pat⟩,.slice A2 a.pat.length c2⟩).toArray 139).cell j u (by simpa using hj);rw[Addr.add_lit,Nat.zero_add];exact this) (λu hu=>oX rfl hu) (by unfold maxLen;omega) (by omega) (aS my.o.size) ?_
      intro v' w9 aG aA aU gd;obtain ⟨g',fq,rfl,qh,lB⟩:=bG aG (by simpa using aU);clear aU))
  have CJ:=I (LX.o.push (x:=⟨⟨a.a8,a.fin,a.pat⟩,.slice A2 a.pat.length c2⟩) aA (by rcases gd with h|h<;>injection h with h;exact .inl h;exact .inr (by simpa using h)) (by rw[fG];exact aG) LY.o D9.o OO.o MU.o);have iM:=I ((my.o.alloc my.o.size (.cells #[.int .i64 a.a8,.int .i64 a.fin,.slice A2 a.pat.length c2] 139)).grown aA (aS my.o.size) (λj hj=>(fv.o.lt j hj).1));clear aG aA gd;obtain ⟨X,hX⟩: ∃X,X=L++[(⟨⟨a.a8,a.fin,a.pat⟩,.slice A2 a.pat.length c2⟩:bu)]:=⟨_,rfl⟩
  rw[<-hX]at CJ;have Th:ag (X.map (·.a)=ls.take k++[a]):=I (by rw[hX,List.map_append,wh.o];rfl);have Ao:ag (X.length=k+1):=I (by rw[hX,List.length_append,tf];rfl);clear hX x0 x1 x2 B5 LX LY D9 fv HD Ei ju dy pS my;have qg:k=ls.length:=by omega
  have CK:ag (ls.drop k=[]):=I (by rw[qg,List.drop_length]);have M4:ls.length-k=0:=by omega
  clear qg;by_cases EM:c=k
  ·have OQ:ag (∀(A:Option Addr) (L4:Nat),L4<=maxLen->eE w9 w9.heap.size (.slice A 0 L4) (ls.drop k)):=I (λA L4 CE=>by rw[CK.o];exact eE.nil CE);have GU:=I (CF.o w9 iM.o);go_wp2_with (fail);refine (lk (ls.drop k) w9 _ (OQ.o _ _ (by first|exact Nat.zero_le _|(unfold maxLen;omega))) (pu ii.o k)).mono ?_;rintro e Ti ⟨g2,zM,M,rfl,hM,uP,wB⟩;have B9:=I (bM.below CJ.o wB);have Ca:=I (iM.o.trans (wB.mono iM.o.size));have pO:=I hM
   have SR:M.length<=8:=by
    have:=congrArg List.length hM;rw[List.length_map,List.length_drop]at this;omega
   have xG:=I uP;have wC:=I B9.o.row;rw[Ao.o]at wC;have KW:=(CJ.o.row.lt g' rfl).2;have RC:=iM.o.size;have Cb:=Ca.o.size;clear hM uP wB GU;go_wp2_with (at_builtin;refine wpList_append_own_at _ rfl _ _ 26 rfl w.heap.size 139 i0 (.agg #[.int .i64 0,.int .i64 0,.slice none 0 0]) 3 40 underlying26 hi dK rF ek rfl (by decide) _ _ _ rfl wC.o ⟨g2,0,none⟩ M.length zM (M.flatMap cu) rfl ?c1 ?c2 ?c5 ?c3 ?c4 Cb ?_);case c1=>exact bp cu (λ_=>rfl) M
   case c2=>exact xG.o.row.cells (g:=g2) rfl
   case c5=>exact fV.one xG.o.st
   case c3=>unfold maxLen;omega
   case c4=>omega
   intro WO KX aG aA aU gd;obtain ⟨g11,M1,rfl,qh,lB⟩:=bG aG (by simpa using aU);have Cc:=I (bM.join B9.o xG.o RC KW (λq hq b mq=>(CJ.o.dR hq mq).2) aA (by rcases gd with h|h<;>injection h with h;exact .inl h;exact .inr h) (by rw[Ao.o];exact aG));have wD:=I (Ca.o.grown aA Cb (λj hj=>(wC.o.lt j hj).1))
   have M2:ag ((X++M).map (·.a)=cI ls a):=I (by
    rw[List.map_append,Th.o,pO.o];unfold cI;rw[uK.o];simp)
   have J2:ag ((X++M).length=k+1+M.length):=I (by rw[List.length_append,Ao.o]);have yK:=dL.av Cc.o.st;rw[M2.o,J2.o]at yK;have rj:=I (mb S (cI ls a) KX _ _ (lE.o KX wD.o) yK KV.o (jp ii.o MZ.o h8));unfold ff at rj;clear aG aA aU gd yK;go_wp2_with (fail);refine rj.o.mono ?_;rintro e Tj ⟨g12,M3,n12,rfl,kM,aU,sj⟩;have Cd:=I (wD.o.trans (sj.mono wD.o.size));by_cases ol:n12=0
   ·have jS:ag (fi S ls a=true):=I (j8 h8 (aU.1 ol));have J3:=I (bM.below Cc.o sj);subst ol;clear aU sj;go_wp2;go_ret2;exact ⟨_,_,_,by rw[jS.o];rfl,λ_=>⟨X++M,J2.o.symm,M2.o,by have:=J3.o.tree;rw[J2.o]at this;exact this⟩,Cd.o⟩
   have jS:ag (fi S ls a=false):=I (lN (λh=>ol (aU.2 h)));have Hh:(0:Int)<(n12:Int):=by omega
   clear aU sj ol;go_wp2;go_ret2;exact ⟨_,_,_,by rw[jS.o];rfl,(λh=>by rw[jS.o]at h;cases h),Cd.o⟩
  have OQ:ag (∀(A:Option Addr) (L4:Nat),L4<=maxLen->eE w9 w9.heap.size (.slice A 0 L4) (ls.drop k)):=I (λA L4 CE=>by rw[CK.o];exact eE.nil CE);have GU:=I (CF.o w9 iM.o);go_wp2_with (fail);refine (lk (ls.drop k) w9 _ (OQ.o _ _ (by first|exact Nat.zero_le _|(unfold maxLen;omega))) (pu ii.o k)).mono ?_;rintro e Ti ⟨g2,zM,M,rfl,hM,uP,wB⟩;have B9:=I (bM.below CJ.o wB);have Ca:=I (iM.o.trans (wB.mono iM.o.size));have pO:=I hM
  have SR:M.length<=8:=by
   have:=congrArg List.length hM;rw[List.length_map,List.length_drop]at this;omega
  have xG:=I uP;have wC:=I B9.o.row;rw[Ao.o]at wC;have KW:=(CJ.o.row.lt g' rfl).2;have RC:=iM.o.size;have Cb:=Ca.o.size;clear hM uP wB GU;go_wp2_with (at_builtin;refine wpList_append_own_at _ rfl _ _ 26 rfl w.heap.size 139 i0 (.agg #[.int .i64 0,.int .i64 0,.slice none 0 0]) 3 40 underlying26 hi dK rF ek rfl (by decide) _ _ _ rfl wC.o ⟨g2,0,none⟩ M.length zM (M.flatMap cu) rfl ?c1 ?c2 ?c5 ?c3 ?c4 Cb ?_);case c1=>exact bp cu (λ_=>rfl) M
  case c2=>exact xG.o.row.cells (g:=g2) rfl
  case c5=>exact fV.one xG.o.st
  case c3=>unfold maxLen;omega
  case c4=>omega
  intro WO KX aG aA aU gd;obtain ⟨g11,M1,rfl,qh,lB⟩:=bG aG (by simpa using aU);have Cc:=I (bM.join B9.o xG.o RC KW (λq hq b mq=>(CJ.o.dR hq mq).2) aA (by rcases gd with h|h<;>injection h with h;exact .inl h;exact .inr h) (by rw[Ao.o];exact aG));have wD:=I (Ca.o.grown aA Cb (λj hj=>(wC.o.lt j hj).1))
  have M2:ag ((X++M).map (·.a)=cI ls a):=I (by
   rw[List.map_append,Th.o,pO.o];unfold cI;rw[uK.o];simp)
  have J2:ag ((X++M).length=k+1+M.length):=I (by rw[List.length_append,Ao.o]);have yK:=dL.av Cc.o.st;rw[M2.o,J2.o]at yK;have rj:=I (mb S (cI ls a) KX _ _ (lE.o KX wD.o) yK KV.o (jp ii.o MZ.o h8));unfold ff at rj;clear aG aA aU gd yK;go_wp2_with (fail);refine rj.o.mono ?_;rintro e Tj ⟨g12,M3,n12,rfl,kM,aU,sj⟩;have Cd:=I (wD.o.trans (sj.mono wD.o.size));by_cases ol:n12=0
  ·have jS:ag (fi S ls a=true):=I (j8 h8 (aU.1 ol));have J3:=I (bM.below Cc.o sj);subst ol;clear aU sj;go_wp2;go_ret2;exact ⟨_,_,_,by rw[jS.o];rfl,λ_=>⟨X++M,J2.o.symm,M2.o,by have:=J3.o.tree;rw[J2.o]at this;exact this⟩,Cd.o⟩
  have jS:ag (fi S ls a=false):=I (lN (λh=>ol (aU.2 h)));have Hh:(0:Int)<(n12:Int):=by omega
  clear aU sj ol;go_wp2;go_ret2;exact ⟨_,_,_,by rw[jS.o];rfl,(λh=>by rw[jS.o]at h;cases h),Cd.o⟩
structure qU where
 a8:Int
 fin:Int
 A:Option Addr
 n:Nat
 c:Nat
def aX (x:qU):List Value:=[.int .i64 x.a8,.int .i64 x.fin,.slice x.A x.n x.c]
def iO {α:Type} (f:α->List Value) (e:TypeId) (size base g n:Nat) (R:List α) (w:World) (Eb:Ending) (w':World):Prop:=
 ∃v,Eb= .returned v/\w'.ownsRow base e size v n (R.flatMap f)/\v≠ .slice none 0 0/\(v.ownBlock=some g\/v.ownBlock=some w.heap.size)/\iJ g w w'
def pw (x:bu):qU:=match x.v with| .slice A n c=>⟨x.a.a8,x.a.fin,A,n,c⟩|_=>⟨x.a.a8,x.a.fin,none,0,0⟩
theorem J9 (V:List lW) (rule:Int):(jl V rule).length<=V.length:=by
 unfold jl
 split
 ·next h=>exact Nat.le_of_eq h.choose_spec.1
 exact Nat.zero_le _
theorem iC {a:cp} {vs:List Int} (hl:vs.length=a.af.length) (hn:a.af.length<=12) (j:Nat):0<=(cO a vs).getD j 0/\(cO a vs).getD j 0<=12:=by
 have h1:=eY vs (jl (eF vs a.af) a.rule) j;have h2:=J9 (eF vs a.af) a.rule;rw[ew hl]at h2;unfold cO;omega
open Classical in
noncomputable def lY (a:cp) (m:gu) (vs:List Int):Int:=
 if 2*((cO a vs).getD 0 0+(cO a vs).getD 1 0+(cO a vs).getD 2 0)<(a.af.length:Int)then 3
 else if (cO a vs).getD 1 0<=(cO a vs).getD 0 0 then 2
 else if fi a.base a.av (cM m)=true then 1 else 4
theorem yL {a:cp} {m:gu} {vs:List Int} (h:2*((cO a vs).getD 0 0+(cO a vs).getD 1 0+(cO a vs).getD 2 0)<(a.af.length:Int)):lY a m vs=3:=by unfold lY;rw[if_pos h]
theorem Cf {a:cp} {m:gu} {vs:List Int} (h: ¬2*((cO a vs).getD 0 0+(cO a vs).getD 1 0+(cO a vs).getD 2 0)<(a.af.length:Int)) (h2:(cO a vs).getD 1 0<=(cO a vs).getD 0 0):lY a m vs=2:=by unfold lY;rw[if_neg h,if_pos h2]
theorem Ch {a:cp} {m:gu} {vs:List Int} (h: ¬2*((cO a vs).getD 0 0+(cO a vs).getD 1 0+(cO a vs).getD 2 0)<(a.af.length:Int)) (h2: ¬(cO a vs).getD 1 0<=(cO a vs).getD 0 0):lY a m vs=if fi a.base a.av (cM m)=true then 1 else 4:=by unfold lY;rw[if_neg h,if_neg h2]
theorem ka {a:cp} {vs:List Int} {base g:Nat} {w:World} (h:ay ak (cO a vs) base w (.slice (some ⟨g,0,none⟩) 4 4)) {j:Nat} (hj:j<4):w.cell? ⟨g,j,none⟩=some (.int .i64 ((cO a vs).getD j 0)):=by
 have hlen:=qM a vs;obtain ⟨A,c,e,h1,h2,h3⟩:=h;injection e with e1 e2 e3
 obtain ⟨g',P0,_,_,hr⟩:=h3 (λe=>by rw[e]at hlen;cases hlen);rw[<-e1]at P0;injection P0 with P0
 injection P0 with P0
 subst P0;rw[je]at hr;exact hr.cell j _ (jM (by omega))
structure yM (a:cp) (m:gu) (vs:List Int) (w:World) (At:Option Addr) (ct:Nat) (Ab:Option Addr) (cb:Nat) (Ac:Option Addr) (L4:Nat) (pA:Option Addr) (pc:Nat) (Av:Option Addr) (cv:Nat):Prop where
 rt:kH w w.heap.size (.slice At a.af.length ct) a.af
 rs:iT w w.heap.size (.slice Ab a.base.length cb) a.base
 ra:eE w w.heap.size (.slice Ac a.av.length L4) a.av
 re:bg w w.heap.size (.slice pA m.pat.length pc) m.pat
 rv:aae w w.heap.size (.slice Av vs.length cv) vs
 len:vs.length=a.af.length
 ok:pf a
 stat:cd a.base=true
 av:bJ a.av=true
 act:eV (cM m)=true
theorem yM.on {a:cp} {m:gu} {vs:List Int} {w w':World} {At:Option Addr} {ct:Nat} {Ab:Option Addr} {cb:Nat} {Ac:Option Addr} {L4:Nat} {pA:Option Addr} {pc:Nat} {Av:Option Addr} {cv:Nat} (h:yM a m vs w At ct Ab cb Ac L4 pA pc Av cv) (hb:Below w.heap.size w w'):yM a m vs w' At ct Ab cb Ac L4 pA pc Av cv:=
 ⟨h.rt.on hb hb.size,cz.on h.rs (Pl.stays _) hb hb.size,h.ra.on hb hb.size,cz.on h.re (Pl.stays _) hb hb.size,cz.on h.rv (Pl.stays _) hb hb.size,h.len,h.ok,h.stat,h.av,h.act⟩
theorem Ci (a:cp) (m:gu) (vs:List Int) (At:Option Addr) (ct:Nat) (Ab:Option Addr) (cb:Nat) (Ac:Option Addr) (L4:Nat) (pA:Option Addr) (pc:Nat) (Av:Option Addr) (cv:Nat) (b o bm om:Nat) (w:World) (hI:yM a m vs w At ct Ab cb Ac L4 pA pc Av cv)
 (k1:w.cell? ⟨b,o+1,none⟩=some (.int .i64 a.rule)) (k2:w.cell? ⟨b,o+2,none⟩=some (.slice At a.af.length ct)) (k3:w.cell? ⟨b,o+3,none⟩=some (.slice Ab a.base.length cb)) (k4:w.cell? ⟨b,o+4,none⟩=some (.slice Ac a.av.length L4))
 (p2:w.cell? ⟨bm,om+2,none⟩=some (.slice pA m.pat.length pc)) (p3:w.cell? ⟨bm,om+3,none⟩=some (.int .i64 m.a8)) (p4:w.cell? ⟨bm,om+4,none⟩=some (.int .i64 m.fin)):
 Calls prog 97 #[.pointer (some ⟨b,o,none⟩),.pointer (some ⟨bm,om,none⟩),.slice Av vs.length cv] w (bT (.int .i64 (lY a m vs)) w):=by
 have hlen:=hI.len;have fD:=hI.ok.n12;have xu:=iC hlen fD 0;have bw:=iC hlen fD 1;have cL:=iC hlen fD 2;have xf:=I (λy:ar w=>Ed a At ct vs b o Av cv y.val (y.cell k1) (y.cell k2) (hI.on y.ok).rt (hI.on y.ok).rv hI.len hI.ok);have jS:=I (λy:ar w=>wA a.base a.av (cM m) (.slice Ab a.base.length cb) (.slice Ac a.av.length L4) bm om pA pc y.val (hI.on y.ok).rs (hI.on y.ok).ra hI.stat hI.av hI.act (y.cell p2) (y.cell p3) (y.cell p4) (hI.on y.ok).re);unfold lh at xf;unfold iB at jS;have sH:=I (λy:ar w=>y.cell k3);have CG:=I (λy:ar w=>y.cell k4);have BZ:=I (yL (a:=a) (m:=m) (vs:=vs));have M7:=I (Cf (a:=a) (m:=m) (vs:=vs));have P4:=I (Ch (a:=a) (m:=m) (vs:=vs));have WQ:=I hlen;have U6:vs.length<=12:=by omega
 clear k1 k2 k3 k4 p2 p3 p4 hI hlen;refine aL λx0=>?_;go_enter func97,ntmps97;go_wp2_with (fail);refine (xf.o x0).mono ?_;rintro e w3 ⟨g,rfl,Ee,dB⟩;have dB:=x0.ok.trans (dB.mono x0.ok.size);have dI:=I dB;have c0:=ka Ee (j:=0) (by decide);have c1:=ka Ee (j:=1) (by decide);have c2:=ka Ee (j:=2) (by decide);clear Ee;generalize (cO a vs).getD 0 0=n0 at*;generalize (cO a vs).getD 1 0=n1 at*;generalize (cO a vs).getD 2 0=n2 at*;have z0:=λy:ar w3=>y.cell c0;have z1:=λy:ar w3=>y.cell c1;have z2:=λy:ar w3=>y.cell c2;clear c0 c1 c2 dB;go_upto_region 2 with (fail)
 refine yY λx1=>?_;by_cases h3:2*(n0+n1+n2)<(vs.length:Int)
 ·have HV:=I (BZ.o (WQ.o▸h3));refine ap (by kernel_rfl) (by kernel_rfl) ?_
  repeat (go_big_quiet_step (fail))
  refine wpQuiet_nil ?_;rintro _ ⟨u,rfl⟩;go_wp2;go_ret;exact ⟨by rw[HV.o];rfl,aJ dI.o u⟩
 have RE:=I (show¬2*(n0+n1+n2)<(a.af.length:Int)from WQ.o▸h3);have U7:decide (2*(n0+n1+n2)<(vs.length:Int))=false:=by simp;omega
 refine ap (by kernel_rfl) (by kernel_rfl) ?_
 repeat (go_big_quiet_step (fail))
 refine wpQuiet_nil ?_;rintro _ ⟨u,rfl⟩;go_wp2;clear U7 h3;by_cases h2:n1<=n0
 ·have HV:=I (M7.o RE.o h2);rw[HV.o];go_upto_region 4 with (fail)
  refine ap (by kernel_rfl) (by kernel_rfl) ?_
  repeat (go_big_quiet_step (fail))
  refine wpQuiet_nil ?_;rintro _ ⟨u2,rfl⟩;go_wp2;go_ret;exact ⟨by rw[HV.o];rfl,aJ dI.o u2⟩
 have HV:=I (P4.o RE.o (by omega));have Hp:decide (n1<=n0)=false:=by simp;omega
 go_upto_region 4 with (fail)
 refine ap (by kernel_rfl) (by kernel_rfl) ?_
 repeat (go_big_quiet_step (fail))
 refine wpQuiet_nil ?_;rintro _ ⟨u2,rfl⟩;clear Hp h2 z0 z1 z2;go_upto_region 6 with (fail)
 obtain ⟨U,hU⟩: ∃U,U=u2.val:=⟨_,rfl⟩
 have jo:Below w3.heap.size w3 U:=by rw[hU];exact u2.ok
 rw[<-hU];clear hU;have bX:ag (∀w',Below w3.heap.size w3 w'->w'.cell? ⟨b,o+3,none⟩=some (.slice Ab a.base.length cb)/\w'.cell? ⟨b,o+4,none⟩=some (.slice Ac a.av.length L4)/\Below w3.heap.size w3 w'):=I (λX hX=>⟨sH.o ⟨X,dI.o.trans (hX.mono dI.o.size)⟩,CG.o ⟨X,dI.o.trans (hX.mono dI.o.size)⟩,hX⟩);have CI:=I (λ(W':World) (h:Below w3.heap.size w3 W')=>jS.o ⟨W',dI.o.trans (h.mono dI.o.size)⟩);obtain ⟨q3,q4,-⟩:=bX.o U jo
 go_region_held3 (λw'=>w'.cell? ⟨b,o+3,none⟩=some (.slice Ab a.base.length cb)/\w'.cell? ⟨b,o+4,none⟩=some (.slice Ac a.av.length L4)/\Below w3.heap.size w3 w')
  (first|exact bX.o _ jo|exact bX.o _ jo.drew|exact bX.o _ ‹_›)
  (first|(go_at_call 98;refine (CI.o _ (by first|exact jo|exact jo.drew|assumption)).mono ?_;rintro e w4 ⟨A4,n4,c4,rfl,_,l8⟩;have iz:Below w3.heap.size w3 w4:=Below.trans (by first|exact jo|exact jo.drew|assumption) (l8.mono (by first|exact jo.size|exact jo.drew.size))))
 all_goals
  have hF:Below w.heap.size w w4:=dI.o.trans (iz.mono dI.o.size);clear iz l8;cases E':fi a.base a.av (cM m)with
  |false=>
   rw[E']at HV;go_wp2;go_ret;exact ⟨by rw[HV.o];rfl,hF⟩
  |true=>
   rw[E']at HV;go_wp2;go_ret;exact ⟨by rw[HV.o];rfl,hF⟩
end Go.Proofs.YtbcggaldkihcaaaGreatDoor

/- An act entered among acts, walked: the reference's. -/
import Derived.Test.YtnandbammmcncaaGreatYea
import Derived.Test.YtnandbammmcncaaGreatZb
set_option maxHeartbeats 8000000
set_option maxRecDepth 100000
namespace Go.Proofs.YtnandbammmcncaaGreat
open Tryz
open Go.RowKit Go.Lib
theorem GR {w:World} {b base size n:Nat} {e:TypeId} {v:Value} {xs:List Value} (h:w.ownsRow base e size v n xs) (hb:b<=base):w.ownsRow b e size v n xs:=by
 obtain ⟨h1,h2|⟨g',c,kT,e,h3,h4⟩⟩:=h
 ·exact ⟨h1,.inl h2⟩
 exact ⟨h1,.inr ⟨g',c,kT,e,aaB hb h3,h4⟩⟩
theorem fV.less {b base:Nat} {w:World} {g cap:Nat} {L:List bu} (h:fV base w g cap L) (hb:b<=base):fV b w g cap L:=
 ⟨mI _ _,λh=>absurd rfl h,mI _ _,λh=>absurd rfl h,GR h.row hb,λx hx=>⟨(h.nt x hx).1.less hb,(h.nt x hx).2⟩⟩
theorem fV.below {base:Nat} {w w':World} {g cap:Nat} {L:List bu} (h:fV base w g cap L) (hb:Below w.heap.size w w'):fV base w' g cap L:=dL.below h hb
theorem fV.join {base si:Nat} {w w':World} {g cap g2 zM g' fq:Nat} {L M:List bu} (h:fV base w g cap L) (h2:fV si w g2 zM M) (hb:base<=si) (qp:g<si) (hg:w.grownBy w' (some g)) (gd:g'=g\/g'=w.heap.size)
 (bi:w'.ownsRow base 144 3 (.slice (some ⟨g',0,none⟩) (L.length+M.length) fq) (L.length+M.length) (L.flatMap cu++M.flatMap cu)):fV base w' g' fq (L++M):=by
 refine ⟨mI _ _,λh=>absurd rfl h,mI _ _,λh=>absurd rfl h,by rw[aak,abf];exact bi,λx hx=>?_⟩
 have key: ∀(bb:Nat),ay ah x.a.pat bb w x.v->base<=bb->(x.a.pat≠[]->x.v.ownBlock≠some g)->bS x.a.pat->ay ah x.a.pat base w' x.v/\(x.a.pat≠[]->x.v.ownBlock≠some g')/\bS x.a.pat:=λbb ho j7 hn hs=>by
  refine ⟨(ho.less j7).aD (F:=λb=>b=g) (Touch.aW hg (λb hb=>by injection hb with hb;exact hb.symm)) (λb hb e=>hn hb.1 (by rw[hb.2,e])),λh0 e=>?_,hs⟩;rcases gd with e'|e'
  ·rw[e']at e;exact hn h0 e
  obtain ⟨j,hj,h1,h3⟩:=ho.dR h0;rw[hj]at e;injection e with e
  omega
 rcases aau.1 hx with hx|hx
 ·obtain ⟨p1,p2,p3⟩:=h.nt x hx;exact key base p1 (aad _) p2 p3
 obtain ⟨p1,p2,p3⟩:=h2.nt x hx;refine key si p1 hb (λh0 e=>?_) p3;obtain ⟨j,hj,h1,h3⟩:=p1.dR h0;rw[hj]at e;injection e with e
 omega
theorem fV.one {base:Nat} {w:World} {g cap:Nat} {L:List bu} (h:fV base w g cap L): ∀u∈L.flatMap cu,u.oneCell'=true:=λu hu=>by
 obtain ⟨x,hx,hu⟩:=List.mem_flatMap.1 hu;obtain ⟨A,c,hv,_⟩:=(h.nt x hx).1;exact oX hv hu
theorem bM.less {b base:Nat} {w:World} {g cap:Nat} {L:List bu} (h:bM base w g cap L) (hb:b<=base):bM b w g cap L:=⟨fV.less h.st hb,h.two⟩
theorem bM.join {base si:Nat} {w w':World} {g cap g2 zM g' fq:Nat} {L M:List bu} (h:bM base w g cap L) (h2:bM si w g2 zM M) (hb:base<=si) (qp:g<si) (PH: ∀q∈L,∀b,cw.dR q b->b<si) (hg:w.grownBy w' (some g)) (gd:g'=g\/g'=w.heap.size)
 (bi:w'.ownsRow base 144 3 (.slice (some ⟨g',0,none⟩) (L.length+M.length) fq) (L.length+M.length) (L.flatMap cu++M.flatMap cu)):bM base w' g' fq (L++M):=
 ⟨fV.join h.st h2.st hb qp hg gd bi,aaY.2 ⟨h.two,h2.two,λp hp q hq b h1 h3=>by have q1:=PH p hp b h1;have q2:=(h2.dR hq h3).1;omega⟩⟩
theorem ul {l:List bo} (h:bJ l=true) (k:Nat):bJ (l.take k)=true:=by
 refine qT (λa ha=>?_) (λm d a hd ha=>?_) (by have:=eM h;rw[aao];omega)
 ·obtain ⟨j,hj⟩:=aa2 (aby ha);exact fj h hj
 rw[abP]at hd ha
 split at hd
 ·split at ha
  ·exact l' h hd ha
  cases ha
 cases hd
theorem pu {l:List bo} (h:bJ l=true) (k:Nat):bJ (l.drop k)=true:=by
 refine qT (λa ha=>?_) (λm d a hd ha=>?_) (by have:=eM h;rw[aaS];omega)
 ·obtain ⟨j,hj⟩:=aa2 (ab7 ha);exact fj h hj
 rw[List.getElem?_drop]at hd ha;exact l' h hd ha
def iB (S:List bE) (ls:List bo) (x:bo) (w:World) (e:Ending) (w':World):Prop:=
 ∃A n c,e= .returned (.tuple #[.slice A n c,.bool (fi S ls x)])/\
  (fi S ls x=true-> ∃L,n=L.length/\L.map (·.a)=cI ls x/\aR cw w.heap.size w' (.slice A n c) L)/\Below w.heap.size w w'
theorem j8 {S:List bE} {ls:List bo} {x:bo} (h8:ls.length<8) (h:eJ S (cI ls x)):fi S ls x=true:=by unfold fi;simp[h8,h]
theorem lN {S:List bE} {ls:List bo} {x:bo} (h: ¬eJ S (cI ls x)):fi S ls x=false:=by unfold fi;simp[h]
theorem um {S:List bE} {ls:List bo} {x:bo} (h: ¬ls.length<8):fi S ls x=false:=by unfold fi;rw[aba h,Bool.false_and]
theorem wA (S:List bE) (ls:List bo) (a:bo) (vs va:Value) (bm om:Nat) (pA:Option Addr) (pc:Nat) (w:World) (hS:iT w w.heap.size vs S) (hA:eE w w.heap.size va ls) (CV:cd S=true) (cy:bJ ls=true) (ha:eV a=true)
 (k2:w.cell? ⟨bm,om+2,none⟩=some (.slice pA a.pat.length pc)) (k3:w.cell? ⟨bm,om+3,none⟩=some (.int .i64 a.a8)) (k4:w.cell? ⟨bm,om+4,none⟩=some (.int .i64 a.fin)) (RA:bg w w.heap.size (.slice pA a.pat.length pc) a.pat):
 Calls prog 122 #[vs,va,.pointer (some ⟨bm,om,none⟩)] w (iB S ls a w):=by
 obtain ⟨A,c,rfl,hc,hm,cn⟩:=dk hA;have IM:=eM cy;have CF:=I (λW (hb:Below w.heap.size w W)=>hA.on hb hb.size);have lE:=I (λW (hb:Below w.heap.size w W)=>(cz.on hS (Pl.stays _) hb hb.size:iT W W.heap.size vs S));have HE:ag (∀W,Below w.heap.size w W->bg W W.heap.size (.slice pA a.pat.length pc) a.pat):=I (λW h=>cz.on RA (Pl.stays _) h h.size);have KU:bm<w.heap.size:=aaL w _ k2;have z2:=λy:ar w=>y.cell k2;have z3:=λy:ar w=>y.cell k3;have z4:=λy:ar w=>y.cell k4;have gH:=I cn;have ii:=I cy;have MZ:=I ha;have OO:=I (lC (ep.1 ha).pat);have oz:=eZ (ep.1 ha).pat;have KV:=I CV;unfold maxLen at hm;obtain ⟨A0,c0',rfl,_⟩:=hS;unfold iB;refine aL λx0=>?_;clear hA cn CV cy ha RA;by_cases h8:ls.length<8
 case neg=>
  have eA:(8:Int)<=(ls.length:Int):=by omega
  have HN:=um (S:=S) (x:=a) h8;rw[HN];clear HN;go_enter func122,ntmps122;go_wp2;go_ret2;exact ⟨_,_,_,rfl,(λh=>by cases h),x0.ok⟩
 have Zi: ¬(8:Int)<=(ls.length:Int):=by omega
 have KP:=I k2;have S6:=I k3;have S7:=I k4;clear k2 k3 k4;go_enter func122,ntmps122;go_wp2;go_loopw [8] (λi wr=> ∃(k:Nat) (y:ar w),k<=ls.length/\i= .int .i64 (k:Int)/\wr=y.val/\(∀j b,ls[j]?=some b->j<k->b.a8<=a.a8)) (λi _=>ls.length-(intOf i).toNat);case atStart=>exact ⟨0,x0,aaf _,rfl,rfl,λj b _ hj=>absurd hj (aa' _)⟩
 case round=>
  obtain ⟨k,y,hk,rfl,rfl,RB⟩:=hrel;have D3:=I RB;clear RB;by_cases aI:k<ls.length
  ·obtain ⟨b,off,hA,hb,aC⟩:=gH.o (by omega);subst hA;have aH:ls[k]?=some ls[k]:=aag aI;obtain ⟨pv,c0,_,_,_⟩:=aC k _ aH;have x1:=λy:ar w=>y.cell c0;have HG:=I aH;have Hl:(k:Int)<(ls.length:Int):=by omega
   clear aH c0 aC;generalize ls[k]=q at*;by_cases hq:q.a8<=a.a8
   ·have hd:decide (q.a8<=a.a8)=true:=by simp[hq]
    have HN:ag (∀j b,ls[j]?=some b->j<k+1->b.a8<=a.a8):=I (λj b hj KI=>by
     by_cases e:j=k
     ·subst e;rw[HG.o]at hj;injection hj with hj
      rw[<-hj];exact hq
     exact D3.o j b hj (by omega))
    go_upto_region 4 with (fail)
    refine ap (by kernel_rfl) (by kernel_rfl) ?_
    repeat (go_big_quiet_step (fail))
    refine aai ?_;rintro _ ⟨u,rfl⟩;go_wp2;go_roundw;case rel=>exact ⟨k+1,u,by omega,by go_num,rfl,HN.o⟩
    case measure=>simp[intOf];omega
   have hd:decide (q.a8<=a.a8)=false:=by simp;omega
   go_upto_region 4 with (fail)
   refine ap (by kernel_rfl) (by kernel_rfl) ?_
   repeat (go_big_quiet_step (fail))
   refine aai ?_;rintro _ ⟨u,rfl⟩;clear x1;have uK:ag (cG ls a.a8=k):=I (nN hk D3.o (Or.inr ⟨q,HG.o,hq⟩));have jh:=I (lk (ls.take k) u.val _ ((CF.o _ u.ok).take k hk) (ul ii.o k));have Zj:(k:Int)<=(c:Int):=by omega
   have jA:(0:Int)<=(k:Int):=by omega
   unfold uk at jh;have uo:=I u.ok;go_wp2_with (fail);refine jh.o.mono ?_;rintro e w3 ⟨g,cap,L,rfl,nJ,hD,dB⟩
   have tf:L.length=k:=by
    have:=congrArg List.length nJ;rw[aap,aao]at this;omega
   have HD:=I (hD.less uo.o.size);have HB:=I (uo.o.trans (dB.mono uo.o.size));have wh:=I nJ;have OP:=(hD.row.lt g rfl).1;have U1:=uo.o.size;have kd:bm≠g:=by omega
   have x0:=(HB.o.cell (p:=⟨bm,om+3,none⟩) KU).trans S6.o;have x1:=(HB.o.cell (p:=⟨bm,om+4,none⟩) KU).trans S7.o;have x2:=(HB.o.cell (p:=⟨bm,om+2,none⟩) KU).trans KP.o;have B5:=HD;have gf:=HB;obtain ⟨i0,hi,dK,rF,ek⟩:=aaq kf;obtain ⟨e0,po,pq,pr,mu⟩:=aaq oG;clear nJ hD dB U1 OP z2 z3 z4;go_wp2_with (fail);have lX:w3.heap.size=w3.heap.size:=by simp
   have Ot:g<w3.heap.size:=by have:=(B5.o.row.lt g rfl).2;rw[lX]at this;exact this
   have Eh:w.heap.size<=w3.heap.size:=by have:=gf.o.size;rw[lX]at this;exact this
   have bw:Below w3.heap.size w3 (w3.alloc (.cells #[] 162)).drew:=((aae _ _).alloc (by rw[lX];exact aad _) _).drew;have wz:w3.heap.size<=(w3.alloc (.cells #[] 162)).drew.heap.size:=by rw[<-lX];exact bw.size
   have da:=I bw;have fe:(w3.alloc (.cells #[] 162)).ownsRow w3.heap.size 162 4 (.slice (some ⟨w3.heap.size,0,none⟩) 0 0) 0 []:=by rw[<-lX];simpa using aaz w3 #[] 0 (aad _) (aaf _) rfl
   have gW:=I fe.drew;have tN:=I (HE.o _ (gf.o.trans (bw.mono Eh)));clear fe bw;have fG:=tf
   try rw[tf]
   go_region_held3 (λw'=>w'.cell? ⟨bm,om+3,none⟩=some (.int .i64 a.a8)/\w'.cell? ⟨bm,om+4,none⟩=some (.int .i64 a.fin)/\w'.cell? ⟨bm,om+2,none⟩=some (.slice pA a.pat.length pc))
    (first|exact ⟨x0,x1,x2⟩|exact fH ⟨x0,x1,x2⟩ ((aae _ _).drew)|exact fH ⟨x0,x1,x2⟩ ((aae _ _).alloc (aad _) _)|exact fH ⟨x0,x1,x2⟩ (((aae _ _).alloc (aad _) _).drew)|exact kD ⟨x0,x1,x2⟩ dy.o lX|exact fH (kD ⟨x0,x1,x2⟩ dy.o lX) ((aae _ _).alloc (aad _) _)|exact Br (fH (kD ⟨x0,x1,x2⟩ dy.o lX) ((aae _ _).alloc (aad _) _)) aA kd kd kd|go_keep)
    (first
     |(refine gL ah (by rfl) _ _ 53 (by rfl) w3.heap.size 162 e0 (.agg #[.int .i64 0,.int .i64 0,.string ⟨#[]⟩,.string ⟨#[]⟩]) 4 48 underlying53 po pq pr mu rfl (by decide) _ _ _ (by rfl) gW.o _ a.pat _ (by rfl) tN.o (λ_=>rfl) (λy u hu=>cJ hu) (by unfold maxLen;omega) (by omega) wz ?_
       intro v2 w2 aY aw cY;have ju:ag (ay ah a.pat w3.heap.size w2 v2):=I (ay.bI ah (size:=4) (λ_=>rfl) (by simpa using aY));have dy:ag (Below w3.heap.size w3 w2):=I (da.o.grown aw wz (λj hj=>(gW.o.lt j hj).1));have Ei:=I (bM.below B5.o (by rw[lX];exact dy.o));have my:=I (gf.o.trans (dy.o.mono Eh))
       have D9:ag (a.pat≠[]->v2.ownBlock≠some g):=I (λh0 e=>by
        obtain ⟨j,hj,h1,_⟩:=ju.o.dR h0;rw[hj]at e;injection e with e
        omega)
       obtain ⟨A2,c2,rfl,_⟩:=ju.o
       have MU:ag (∀b,cx a.pat (.slice A2 a.pat.length c2) b-> ∀q∈L,¬cw.dR q b):=I (λb hb q hq mq=>by
        have q1:=(ay.dw ju.o hb).1;have q2:=(B5.o.dR hq mq).2;rw[lX]at q2;omega)
       have pS:=I (ju.o.less Eh);have ri:Below w2.heap.size w2 (w2.alloc (.cells #[.int .i64 a.a8,.int .i64 a.fin,.slice A2 a.pat.length c2] 144)):=(aae _ _).alloc (aad _) _;have LX:=I (bM.below Ei.o ri);have LY:=I (pS.o.on ri);have fv:=I (Ei.o.row.alloc (.cells #[.int .i64 a.a8,.int .i64 a.fin,.slice A2 a.pat.length c2] 144));rw[fG]at fv;clear aY aw cY ri)
     |(refine er (by rfl) _ _ 33 (by rfl) w.heap.size 144 i0 (.agg #[.int .i64 0,.int .i64 0,.slice none 0 0]) 3 40 underlying33 hi dK rF ek rfl (by decide) _ _ _ (by rfl) fv.o ⟨w2.heap.size,0,none⟩ 1 1 (cu ⟨⟨a.a8,a.fin,a.pat⟩,.slice A2 a.pat.length c2⟩) (by rfl) (by rfl) (λj u hj=>by have:=(Row.new w2 (cu ⟨⟨a.a8,a.fin,a.pat⟩,.slice A2 a.pat.length c2⟩).toArray 144).cell j u (by simpa using hj);rw[aaQ,aan];exact this) (λu hu=>oX rfl hu) (by unfold maxLen;omega) (by omega) (aS my.o.size) ?_
       intro v' w9 aG aA aU gd;obtain ⟨g',fq,rfl,qh,lB⟩:=bG aG (by simpa using aU);clear aU))
   have CJ:=I (LX.o.push (x:=⟨⟨a.a8,a.fin,a.pat⟩,.slice A2 a.pat.length c2⟩) aA (by rcases gd with h|h<;>injection h with h;exact .inl h;exact .inr (by simpa using h)) (by rw[fG];exact aG) LY.o D9.o OO.o MU.o);have iM:=I ((my.o.alloc my.o.size (.cells #[.int .i64 a.a8,.int .i64 a.fin,.slice A2 a.pat.length c2] 144)).grown aA (aS my.o.size) (λj hj=>(fv.o.lt j hj).1));clear aG aA gd;obtain ⟨X,hX⟩: ∃X,X=L++[(⟨⟨a.a8,a.fin,a.pat⟩,.slice A2 a.pat.length c2⟩:bu)]:=⟨_,rfl⟩
   rw[<-hX]at CJ;have Th:ag (X.map (·.a)=ls.take k++[a]):=I (by rw[hX,aaK,wh.o];rfl);have Ao:ag (X.length=k+1):=I (by rw[hX,aak,tf];rfl);clear hX x0 x1 x2 B5 LX LY D9 fv HD Ei ju dy pS my;have EM: ¬c=k:=by omega
   have GU:=I (CF.o w9 iM.o);go_wp2_with (fail);refine (lk (ls.drop k) w9 _ (eE.drop GU.o k hk) (pu ii.o k)).mono ?_;rintro e Ti ⟨g2,zM,M,rfl,hM,uP,wB⟩;have B9:=I (bM.below CJ.o wB);have Ca:=I (iM.o.trans (wB.mono iM.o.size));have pO:=I hM
   have SR:M.length<=8:=by
    have:=congrArg List.length hM;rw[aap,aaS]at this;omega
   have xG:=I uP;have wC:=I B9.o.row;rw[Ao.o]at wC;have KW:=(CJ.o.row.lt g' rfl).2;have RC:=iM.o.size;have Cb:=Ca.o.size;clear hM uP wB GU;go_wp2_with (at_builtin;refine aaH _ rfl _ _ 33 rfl w.heap.size 144 i0 (.agg #[.int .i64 0,.int .i64 0,.slice none 0 0]) 3 40 underlying33 hi dK rF ek rfl (by decide) _ _ _ rfl wC.o ⟨g2,0,none⟩ M.length zM (M.flatMap cu) rfl ?c1 ?c2 ?c5 ?c3 ?c4 Cb ?_);case c1=>exact bp cu (λ_=>rfl) M
   case c2=>exact xG.o.row.cells (g:=g2) rfl
   case c5=>exact fV.one xG.o.st
   case c3=>unfold maxLen;omega
   case c4=>omega
   intro WO KX aG aA aU gd;obtain ⟨g11,M1,rfl,qh,lB⟩:=bG aG (by simpa using aU);have Cc:=I (bM.join B9.o xG.o RC KW (λq hq b mq=>(CJ.o.dR hq mq).2) aA (by rcases gd with h|h<;>injection h with h;exact .inl h;exact .inr h) (by rw[Ao.o];exact aG));have wD:=I (Ca.o.grown aA Cb (λj hj=>(wC.o.lt j hj).1))
   have M2:ag ((X++M).map (·.a)=cI ls a):=I (by
    rw[aaK,Th.o,pO.o];unfold cI;rw[uK.o];simp)
   have J2:ag ((X++M).length=k+1+M.length):=I (by rw[aak,Ao.o]);have yK:=dL.av Cc.o.st;rw[M2.o,J2.o]at yK;have rj:=I (mb S (cI ls a) KX _ _ (lE.o KX wD.o) yK KV.o (jp ii.o MZ.o h8));unfold ff at rj;clear aG aA aU gd yK;go_wp2_with (fail);refine rj.o.mono ?_;rintro e Tj ⟨g12,M3,n12,rfl,kM,aU,sj⟩;have Cd:=I (wD.o.trans (sj.mono wD.o.size));by_cases ol:n12=0
   ·have jS:ag (fi S ls a=true):=I (j8 h8 (aU.1 ol));have J3:=I (bM.below Cc.o sj);subst ol;clear aU sj;go_wp2;go_ret2;exact ⟨_,_,_,by rw[jS.o];rfl,λ_=>⟨X++M,J2.o.symm,M2.o,by have:=J3.o.tree;rw[J2.o]at this;exact this⟩,Cd.o⟩
   have jS:ag (fi S ls a=false):=I (lN (λh=>ol (aU.2 h)));have Hh:(0:Int)<(n12:Int):=by omega
   clear aU sj ol;go_wp2;go_ret2;exact ⟨_,_,_,by rw[jS.o];rfl,(λh=>by rw[jS.o]at h;cases h),Cd.o⟩
  have eA: ¬(k:Int)<(ls.length:Int):=by omega
  go_upto_region 4 with (fail)
  refine ap (by kernel_rfl) (by kernel_rfl) ?_
  repeat (go_big_quiet_step (fail))
  refine aai ?_;rintro _ ⟨u,rfl⟩;have uK:ag (cG ls a.a8=k):=I (nN hk D3.o (Or.inl (by omega)));have jh:=I (lk (ls.take k) u.val _ ((CF.o _ u.ok).take k hk) (ul ii.o k));have Zj:(k:Int)<=(c:Int):=by omega
  have jA:(0:Int)<=(k:Int):=by omega
  unfold uk at jh;have uo:=I u.ok;go_wp2_with (fail);refine jh.o.mono ?_;rintro e w3 ⟨g,cap,L,rfl,nJ,hD,dB⟩
  have tf:L.length=k:=by
   have:=congrArg List.length nJ;rw[aap,aao]at this;omega
  have HD:=I (hD.less uo.o.size);have HB:=I (uo.o.trans (dB.mono uo.o.size));have wh:=I nJ;have OP:=(hD.row.lt g rfl).1;have U1:=uo.o.size;have kd:bm≠g:=by omega
  have x0:=(HB.o.cell (p:=⟨bm,om+3,none⟩) KU).trans S6.o;have x1:=(HB.o.cell (p:=⟨bm,om+4,none⟩) KU).trans S7.o;have x2:=(HB.o.cell (p:=⟨bm,om+2,none⟩) KU).trans KP.o;have B5:=HD;have gf:=HB;obtain ⟨i0,hi,dK,rF,ek⟩:=aaq kf;obtain ⟨e0,po,pq,pr,mu⟩:=aaq oG;clear nJ hD dB U1 OP z2 z3 z4;go_wp2_with (fail);have lX:w3.heap.size=w3.heap.size:=by simp
  have Ot:g<w3.heap.size:=by have:=(B5.o.row.lt g rfl).2;rw[lX]at this;exact this
  have Eh:w.heap.size<=w3.heap.size:=by have:=gf.o.size;rw[lX]at this;exact this
  have bw:Below w3.heap.size w3 (w3.alloc (.cells #[] 162)).drew:=((aae _ _).alloc (by rw[lX];exact aad _) _).drew;have wz:w3.heap.size<=(w3.alloc (.cells #[] 162)).drew.heap.size:=by rw[<-lX];exact bw.size
  have da:=I bw;have fe:(w3.alloc (.cells #[] 162)).ownsRow w3.heap.size 162 4 (.slice (some ⟨w3.heap.size,0,none⟩) 0 0) 0 []:=by rw[<-lX];simpa using aaz w3 #[] 0 (aad _) (aaf _) rfl
  have gW:=I fe.drew;have tN:=I (HE.o _ (gf.o.trans (bw.mono Eh)));clear fe bw;have fG:=tf
  try rw[tf]
  go_region_held3 (λw'=>w'.cell? ⟨bm,om+3,none⟩=some (.int .i64 a.a8)/\w'.cell? ⟨bm,om+4,none⟩=some (.int .i64 a.fin)/\w'.cell? ⟨bm,om+2,none⟩=some (.slice pA a.pat.length pc))
   (first|exact ⟨x0,x1,x2⟩|exact fH ⟨x0,x1,x2⟩ ((aae _ _).drew)|exact fH ⟨x0,x1,x2⟩ ((aae _ _).alloc (aad _) _)|exact fH ⟨x0,x1,x2⟩ (((aae _ _).alloc (aad _) _).drew)|exact kD ⟨x0,x1,x2⟩ dy.o lX|exact fH (kD ⟨x0,x1,x2⟩ dy.o lX) ((aae _ _).alloc (aad _) _)|exact Br (fH (kD ⟨x0,x1,x2⟩ dy.o lX) ((aae _ _).alloc (aad _) _)) aA kd kd kd|go_keep)
   (first
    |(refine gL ah (by rfl) _ _ 53 (by rfl) w3.heap.size 162 e0 (.agg #[.int .i64 0,.int .i64 0,.string ⟨#[]⟩,.string ⟨#[]⟩]) 4 48 underlying53 po pq pr mu rfl (by decide) _ _ _ (by rfl) gW.o _ a.pat _ (by rfl) tN.o (λ_=>rfl) (λy u hu=>cJ hu) (by unfold maxLen;omega) (by omega) wz ?_
      intro v2 w2 aY aw cY;have ju:ag (ay ah a.pat w3.heap.size w2 v2):=I (ay.bI ah (size:=4) (λ_=>rfl) (by simpa using aY));have dy:ag (Below w3.heap.size w3 w2):=I (da.o.grown aw wz (λj hj=>(gW.o.lt j hj).1));have Ei:=I (bM.below B5.o (by rw[lX];exact dy.o));have my:=I (gf.o.trans (dy.o.mono Eh))
      have D9:ag (a.pat≠[]->v2.ownBlock≠some g):=I (λh0 e=>by
       obtain ⟨j,hj,h1,_⟩:=ju.o.dR h0;rw[hj]at e;injection e with e
       omega)
      obtain ⟨A2,c2,rfl,_⟩:=ju.o
      have MU:ag (∀b,cx a.pat (.slice A2 a.pat.length c2) b-> ∀q∈L,¬cw.dR q b):=I (λb hb q hq mq=>by
       have q1:=(ay.dw ju.o hb).1;have q2:=(B5.o.dR hq mq).2;rw[lX]at q2;omega)
      have pS:=I (ju.o.less Eh);have ri:Below w2.heap.size w2 (w2.alloc (.cells #[.int .i64 a.a8,.int .i64 a.fin,.slice A2 a.pat.length c2] 144)):=(aae _ _).alloc (aad _) _;have LX:=I (bM.below Ei.o ri);have LY:=I (pS.o.on ri);have fv:=I (Ei.o.row.alloc (.cells #[.int .i64 a.a8,.int .i64 a.fin,.slice A2 a.pat.length c2] 144));rw[fG]at fv;clear aY aw cY ri)
    |(refine er (by rfl) _ _ 33 (by rfl) w.heap.size 144 i0 (.agg #[.int .i64 0,.int .i64 0,.slice none 0 0]) 3 40 underlying33 hi dK rF ek rfl (by decide) _ _ _ (by rfl) fv.o ⟨w2.heap.size,0,none⟩ 1 1 (cu ⟨⟨a.a8,a.fin,a.pat⟩,.slice A2 a.pat.length c2⟩) (by rfl) (by rfl) (λj u hj=>by have:=(Row.new w2 (cu ⟨⟨a.a8,a.fin,a.pat⟩,.slice A2 a.pat.length c2⟩).toArray 144).cell j u (by simpa using hj);rw[aaQ,aan];exact this) (λu hu=>oX rfl hu) (by unfold maxLen;omega) (by omega) (aS my.o.size) ?_
      intro v' w9 aG aA aU gd;obtain ⟨g',fq,rfl,qh,lB⟩:=bG aG (by simpa using aU);clear aU))
  have CJ:=I (LX.o.push (x:=⟨⟨a.a8,a.fin,a.pat⟩,.slice A2 a.pat.length c2⟩) aA (by rcases gd with h|h<;>injection h with h;exact .inl h;exact .inr (by simpa using h)) (by rw[fG];exact aG) LY.o D9.o OO.o MU.o);have iM:=I ((my.o.alloc my.o.size (.cells #[.int .i64 a.a8,.int .i64 a.fin,.slice A2 a.pat.length c2] 144)).grown aA (aS my.o.size) (λj hj=>(fv.o.lt j hj).1));clear aG aA gd;obtain ⟨X,hX⟩: ∃X,X=L++[(⟨⟨a.a8,a.fin,a.pat⟩,.slice A2 a.pat.length c2⟩:bu)]:=⟨_,rfl⟩
  rw[<-hX]at CJ;have Th:ag (X.map (·.a)=ls.take k++[a]):=I (by rw[hX,aaK,wh.o];rfl);have Ao:ag (X.length=k+1):=I (by rw[hX,aak,tf];rfl);clear hX x0 x1 x2 B5 LX LY D9 fv HD Ei ju dy pS my;have qg:k=ls.length:=by omega
  have CK:ag (ls.drop k=[]):=I (by rw[qg,List.drop_length]);have M4:ls.length-k=0:=by omega
  clear qg;by_cases EM:c=k
  ·have OQ:ag (∀(A:Option Addr) (cc:Nat),cc<=maxLen->eE w9 w9.heap.size (.slice A 0 cc) (ls.drop k)):=I (λA cc CE=>by rw[CK.o];exact eE.nil CE);have GU:=I (CF.o w9 iM.o);go_wp2_with (fail);refine (lk (ls.drop k) w9 _ (OQ.o _ _ (by first|exact aaf _|(unfold maxLen;omega))) (pu ii.o k)).mono ?_;rintro e Ti ⟨g2,zM,M,rfl,hM,uP,wB⟩;have B9:=I (bM.below CJ.o wB);have Ca:=I (iM.o.trans (wB.mono iM.o.size));have pO:=I hM
   have SR:M.length<=8:=by
    have:=congrArg List.length hM;rw[aap,aaS]at this;omega
   have xG:=I uP;have wC:=I B9.o.row;rw[Ao.o]at wC;have KW:=(CJ.o.row.lt g' rfl).2;have RC:=iM.o.size;have Cb:=Ca.o.size;clear hM uP wB GU;go_wp2_with (at_builtin;refine aaH _ rfl _ _ 33 rfl w.heap.size 144 i0 (.agg #[.int .i64 0,.int .i64 0,.slice none 0 0]) 3 40 underlying33 hi dK rF ek rfl (by decide) _ _ _ rfl wC.o ⟨g2,0,none⟩ M.length zM (M.flatMap cu) rfl ?c1 ?c2 ?c5 ?c3 ?c4 Cb ?_);case c1=>exact bp cu (λ_=>rfl) M
   case c2=>exact xG.o.row.cells (g:=g2) rfl
   case c5=>exact fV.one xG.o.st
   case c3=>unfold maxLen;omega
   case c4=>omega
   intro WO KX aG aA aU gd;obtain ⟨g11,M1,rfl,qh,lB⟩:=bG aG (by simpa using aU);have Cc:=I (bM.join B9.o xG.o RC KW (λq hq b mq=>(CJ.o.dR hq mq).2) aA (by rcases gd with h|h<;>injection h with h;exact .inl h;exact .inr h) (by rw[Ao.o];exact aG));have wD:=I (Ca.o.grown aA Cb (λj hj=>(wC.o.lt j hj).1))
   have M2:ag ((X++M).map (·.a)=cI ls a):=I (by
    rw[aaK,Th.o,pO.o];unfold cI;rw[uK.o];simp)
   have J2:ag ((X++M).length=k+1+M.length):=I (by rw[aak,Ao.o]);have yK:=dL.av Cc.o.st;rw[M2.o,J2.o]at yK;have rj:=I (mb S (cI ls a) KX _ _ (lE.o KX wD.o) yK KV.o (jp ii.o MZ.o h8));unfold ff at rj;clear aG aA aU gd yK;go_wp2_with (fail);refine rj.o.mono ?_;rintro e Tj ⟨g12,M3,n12,rfl,kM,aU,sj⟩;have Cd:=I (wD.o.trans (sj.mono wD.o.size));by_cases ol:n12=0
   ·have jS:ag (fi S ls a=true):=I (j8 h8 (aU.1 ol));have J3:=I (bM.below Cc.o sj);subst ol;clear aU sj;go_wp2;go_ret2;exact ⟨_,_,_,by rw[jS.o];rfl,λ_=>⟨X++M,J2.o.symm,M2.o,by have:=J3.o.tree;rw[J2.o]at this;exact this⟩,Cd.o⟩
   have jS:ag (fi S ls a=false):=I (lN (λh=>ol (aU.2 h)));have Hh:(0:Int)<(n12:Int):=by omega
   clear aU sj ol;go_wp2;go_ret2;exact ⟨_,_,_,by rw[jS.o];rfl,(λh=>by rw[jS.o]at h;cases h),Cd.o⟩
  have OQ:ag (∀(A:Option Addr) (cc:Nat),cc<=maxLen->eE w9 w9.heap.size (.slice A 0 cc) (ls.drop k)):=I (λA cc CE=>by rw[CK.o];exact eE.nil CE);have GU:=I (CF.o w9 iM.o);go_wp2_with (fail);refine (lk (ls.drop k) w9 _ (OQ.o _ _ (by first|exact aaf _|(unfold maxLen;omega))) (pu ii.o k)).mono ?_;rintro e Ti ⟨g2,zM,M,rfl,hM,uP,wB⟩;have B9:=I (bM.below CJ.o wB);have Ca:=I (iM.o.trans (wB.mono iM.o.size));have pO:=I hM
  have SR:M.length<=8:=by
   have:=congrArg List.length hM;rw[aap,aaS]at this;omega
  have xG:=I uP;have wC:=I B9.o.row;rw[Ao.o]at wC;have KW:=(CJ.o.row.lt g' rfl).2;have RC:=iM.o.size;have Cb:=Ca.o.size;clear hM uP wB GU;go_wp2_with (at_builtin;refine aaH _ rfl _ _ 33 rfl w.heap.size 144 i0 (.agg #[.int .i64 0,.int .i64 0,.slice none 0 0]) 3 40 underlying33 hi dK rF ek rfl (by decide) _ _ _ rfl wC.o ⟨g2,0,none⟩ M.length zM (M.flatMap cu) rfl ?c1 ?c2 ?c5 ?c3 ?c4 Cb ?_);case c1=>exact bp cu (λ_=>rfl) M
  case c2=>exact xG.o.row.cells (g:=g2) rfl
  case c5=>exact fV.one xG.o.st
  case c3=>unfold maxLen;omega
  case c4=>omega
  intro WO KX aG aA aU gd;obtain ⟨g11,M1,rfl,qh,lB⟩:=bG aG (by simpa using aU);have Cc:=I (bM.join B9.o xG.o RC KW (λq hq b mq=>(CJ.o.dR hq mq).2) aA (by rcases gd with h|h<;>injection h with h;exact .inl h;exact .inr h) (by rw[Ao.o];exact aG));have wD:=I (Ca.o.grown aA Cb (λj hj=>(wC.o.lt j hj).1))
  have M2:ag ((X++M).map (·.a)=cI ls a):=I (by
   rw[aaK,Th.o,pO.o];unfold cI;rw[uK.o];simp)
  have J2:ag ((X++M).length=k+1+M.length):=I (by rw[aak,Ao.o]);have yK:=dL.av Cc.o.st;rw[M2.o,J2.o]at yK;have rj:=I (mb S (cI ls a) KX _ _ (lE.o KX wD.o) yK KV.o (jp ii.o MZ.o h8));unfold ff at rj;clear aG aA aU gd yK;go_wp2_with (fail);refine rj.o.mono ?_;rintro e Tj ⟨g12,M3,n12,rfl,kM,aU,sj⟩;have Cd:=I (wD.o.trans (sj.mono wD.o.size));by_cases ol:n12=0
  ·have jS:ag (fi S ls a=true):=I (j8 h8 (aU.1 ol));have J3:=I (bM.below Cc.o sj);subst ol;clear aU sj;go_wp2;go_ret2;exact ⟨_,_,_,by rw[jS.o];rfl,λ_=>⟨X++M,J2.o.symm,M2.o,by have:=J3.o.tree;rw[J2.o]at this;exact this⟩,Cd.o⟩
  have jS:ag (fi S ls a=false):=I (lN (λh=>ol (aU.2 h)));have Hh:(0:Int)<(n12:Int):=by omega
  clear aU sj ol;go_wp2;go_ret2;exact ⟨_,_,_,by rw[jS.o];rfl,(λh=>by rw[jS.o]at h;cases h),Cd.o⟩
end Go.Proofs.YtnandbammmcncaaGreat

/- The day of an assembly of the call's own, walked: the program's. -/
import Derived.Test.YtbcggaldkihcaaaGreatZg
import Derived.Test.YtbcggaldkihcaaaGreatZo
set_option maxHeartbeats 8000000
set_option maxRecDepth 100000
namespace Go.Proofs.YtbcggaldkihcaaaGreat
open Tryz
open Go.RowKit Go.Lib
def Tt (x:cS):Prop:= ∃At n1 ct Ab n2 cb Ac n3 cc Am n4 cm,x=⟨.slice At n1 ct,.slice Ab n2 cb,.slice Ac n3 cc,.slice Am n4 cm⟩
def DoP (_a:cp) (o:Option cp) (base:Nat) (w:World) (e:Ending) (w':World):Prop:=
 ∃b x,e= .returned (.tuple #[eu b x,.bool o.isSome])/\Tt x/\(∀c,o=some c->b=c/\ ∃T C M,dM base w' x c T C M)/\Below base w w'
def iY (Z:Nat->Prop) (w w':World):Prop:= ∀z,Z z-> ∀zs,Row w z zs->Row w' z zs
theorem iY.of {Z:Nat->Prop} {w w':World} (hz: ∀z,Z z->z<w.heap.size) (hb:Below w.heap.size w w'):iY Z w w':=λz h _ hr=>hr.below hb (hz z h)
theorem iY.aD {Z F:Nat->Prop} {w W W':World} (h:iY Z w W) (hz: ∀z,Z z->z<W.heap.size) (ht:Touch F W W') (hF: ∀z,Z z-> ¬F z):iY Z w W':=λz hZ zs hr=>(h z hZ zs hr).aD (hz z hZ) ht (hF z hZ)
theorem iY.below {Z:Nat->Prop} {w W W':World} (h:iY Z w W) (hz: ∀z,Z z->z<W.heap.size) (hb:Below W.heap.size W W'):iY Z w W':=λz hZ zs hr=>(h z hZ zs hr).below hb (hz z hZ)
theorem iY.nP {Z:Nat->Prop} {w W:World} {p:Addr} (h:iY Z w W) (v:Value) (gm: ∀z,Z z->p.block≠z):iY Z w (W.setCell p v):=λz hZ zs hr=>(h z hZ zs hr).nP v (gm z hZ)
def Ks (_a:cp) (o:Option cp) (base:Nat) (Z:Nat->Prop) (w:World) (e:Ending) (w':World):Prop:=
 ∃b x,e= .returned (.tuple #[eu b x,.bool o.isSome])/\Tt x/\(∀c,o=some c->b=c/\ ∃T C M,dM base w' x c T C M/\ ∀b',bz x c T C M b'-> ¬Z b')/\Below base w w'/\iY Z w w'/\w.heap.size<=w'.heap.size
theorem ck.of {base:Nat} {w W:World} {x:cS} {a:cp} {T:List bR} {C:List bu} {M:List bH} (h:dM base w x a T C M) (hb:Below w.heap.size w W) (hr:Row W w.heap.size [.int .i64 a.day,.int .i64 a.rule,x.t,x.b,x.c,x.m]) (aI:w.heap.size<W.heap.size) (j7:base<=w.heap.size):ck base w.heap.size W x a T C M:=
 ⟨hr,h.below hb,aI,λb dF e=>by have:=(h.o.lt dF).2;omega,j7⟩
theorem R7 {m:gu} {day n:Int} (h:Ka m day n) (d':Int) (hd:m.aj=d') (k:Nat):(List.replicate k (qW m 1)).length=k/\ ∀(j:Nat) (q:gu),(List.replicate k (qW m 1))[j]?=some q->dD q d' n=true:=
 ⟨List.length_replicate,λj q hq=>by
  rw[List.eq_of_mem_replicate (aaC hq)];exact gi.2 ⟨h.name,h.a0,h.a1,h.p0,h.pat,h.span,h.len,h.ax,by show (0:Int)<=1;omega,by show (1:Int)<=4;omega,by show (1:Int)=0↔d'<m.aj;omega⟩⟩
theorem G8 (a:cp) (x:cS) (T:List bR) (C:List bu) (M:List bH) (base:Nat) (w:World) (hA:dM base w x a T C M) (hF:dJ a) (dC:base<=w.heap.size) (Z:Nat->Prop) (uR: ∀z,Z z->z<w.heap.size) (xl: ∀b,bz x a T C M b-> ¬Z b):Calls prog 118 #[eu a x] w (Ks a (if a.day<999 then some (pz a)else none) base Z w):=by
 obtain ⟨At,ct,Ab,cb,Ac,cc,Am,cm,rfl⟩:=hA.o.r.slices;have ZO:=hF.d0;have Ho:=hF.d1;have h6:=hF.ok.m6;obtain ⟨W0,ku⟩: ∃W:World,W=w.alloc (.cells #[.int .i64 a.day,.int .i64 a.rule,.slice At a.af.length ct,.slice Ab a.base.length cb,.slice Ac a.av.length cc,.slice Am a.ao.length cm] 29):=⟨_,rfl⟩
 obtain ⟨W,hW⟩: ∃W:World,W=W0.alloc (.cells #[.int .i64 0,.int .i64 0,.slice none 0 0,.slice none 0 0,.slice none 0 0,.slice none 0 0] 29):=⟨_,rfl⟩
 have BQ:Below w.heap.size w W0:=by rw[ku];exact (aae _ _).alloc (aad _) _
 have s0:W0.heap.size=w.heap.size+1:=by rw[ku];simp
 have b1:Below W0.heap.size W0 W:=by rw[hW];exact (aae _ _).alloc (aad _) _
 have bW:Below w.heap.size w W:=BQ.trans (b1.mono BQ.size);have sW:w.heap.size+2<=W.heap.size:=by rw[hW];simp[s0]
 have HZ:ag (Row W (w.heap.size+1) [.int .i64 0,.int .i64 0,.slice none 0 0,.slice none 0 0,.slice none 0 0,.slice none 0 0]):=I (by rw[hW,<-s0];exact Row.new W0 _ _);have xS:ag (ck base w.heap.size W ⟨.slice At a.af.length ct,.slice Ab a.base.length cb,.slice Ac a.av.length cc,.slice Am a.ao.length cm⟩ a T C M):=I (ck.of hA bW ((show Row W0 w.heap.size _ by rw[ku];exact Row.new w _ _).below b1 (by omega)) (by omega) dC);have uG:ag (∀b,bz ⟨.slice At a.af.length ct,.slice Ab a.base.length cb,.slice Ac a.av.length cc,.slice Am a.ao.length cm⟩ a T C M b->b<w.heap.size):=I (λb hb=>(hA.o.lt hb).2);have HV:ag (iY Z w W):=I (iY.of uR bW);have oA:=I uR;clear uR;have G9:=I xl;have gf:=I bW;have HF:=I hF;have lV:=I (show (w.alloc (.cells #[.int .i64 a.day,.int .i64 a.rule,.slice At a.af.length ct,.slice Ab a.base.length cb,.slice Ac a.av.length cc,.slice Am a.ao.length cm] 29)).alloc (.cells #[.int .i64 0,.int .i64 0,.slice none 0 0,.slice none 0 0,.slice none 0 0,.slice none 0 0] 29)=W by rw[hW,ku]);have V7: ¬w.heap.size=w.heap.size+1:=by omega
 clear hA hF hW ku bW BQ b1 s0 xl;unfold eu;have c0:=xS.o.row.cell 0 _ rfl;have ZQ:=xS.o.row.free 0 (by simp);by_cases sy:a.day=999
 case pos=>
  have hq:(a.day==999)=true:=by simp[sy]
  rw[aah (by omega)];clear sy;have r0:=HZ.o.cell 0 _ rfl;have r1:=HZ.o.cell 1 _ rfl;have r2:=HZ.o.cell 2 _ rfl;have r3:=HZ.o.cell 3 _ rfl;have r4:=HZ.o.cell 4 _ rfl;have r5:=HZ.o.cell 5 _ rfl;have s0:=HZ.o.free 0 (by simp);have s1:=HZ.o.free 1 (by simp);have s2:=HZ.o.free 2 (by simp);have s3:=HZ.o.free 3 (by simp);have s4:=HZ.o.free 4 (by simp);have s5:=HZ.o.free 5 (by simp);have q0:=xS.o.row.cell 0 _ rfl;have q1:=xS.o.row.cell 1 _ rfl;have q2:=xS.o.row.cell 2 _ rfl;have q3:=xS.o.row.cell 3 _ rfl;have q4:=xS.o.row.cell 4 _ rfl;have q5:=xS.o.row.cell 5 _ rfl;go_enter func118,ntmps118;go_upto_region 1 with (fail)
  rw[lV.o];go_wp2
  have gD: ∀(ac:Go.Act) (w':World),ac.tmps[2]?=some (.pointer (some ⟨(w.heap.size+1),0,none⟩))->ac.tmps[3]?=some (.bool false)->w'.cell? ⟨(w.heap.size+1),0,none⟩=some (.int .i64 a.day)->w'.cell? ⟨(w.heap.size+1),1,none⟩=some (.int .i64 a.rule)->w'.cell? ⟨(w.heap.size+1),2,none⟩=some (.slice At a.af.length ct)->w'.cell? ⟨(w.heap.size+1),3,none⟩=some (.slice Ab a.base.length cb)->w'.cell? ⟨(w.heap.size+1),4,none⟩=some (.slice Ac a.av.length cc)->w'.cell? ⟨(w.heap.size+1),5,none⟩=some (.slice Am a.ao.length cm)->(results f118 ac.tmps).run prog w'= .ok (.tuple #[.agg #[.int .i64 a.day,.int .i64 a.rule,.slice At a.af.length ct,.slice Ab a.base.length cb,.slice Ac a.av.length cc,.slice Am a.ao.length cm],.bool false]) w':=by
   intro ac w' ha hf nB nC nE ob oc od;simp[results,results118,go_sem,ha,hf,nB,nC,nE,ob,oc,od]
  refine aaT (gD _ _ rfl rfl (by simp[go_sem,r0]) (by simp[go_sem,r1]) (by simp[go_sem,r2]) (by simp[go_sem,r3]) (by simp[go_sem,r4]) (by simp[go_sem,r5])) rfl ?_;refine ⟨a,_,rfl,⟨_,_,_,_,_,_,_,_,_,_,_,_,rfl⟩,(λc h=>by cases h),?_,?_,by simp[World.setCell];omega⟩
  ·refine (gf.o.mono dC).trans (Touch.below (F:=λb=>b=w.heap.size+1) ?_ (by omega) (λb e=>by omega))
   iterate 6 refine Touch.setCell (F:=λb=>b=w.heap.size+1) ?_ rfl _
   exact Touch.refl _ _
  refine HV.o.aD (F:=λb=>b=w.heap.size+1) (λz hz=>by have:=oA.o z hz;omega) ?_ (λz hz e=>by have:=oA.o z hz;omega)
  iterate 6 refine Touch.setCell (F:=λb=>b=w.heap.size+1) ?_ rfl _
  exact Touch.refl _ _
 have hq:(a.day==999)=false:=by simp[sy]
 have oy:a.day<999:=by omega
 rw[aaj oy];clear sy;have jT:ag (ck base w.heap.size (W.setCell ⟨w.heap.size,0,none⟩ (.int .i64 (a.day+1))) ⟨.slice At a.af.length ct,.slice Ab a.base.length cb,.slice Ac a.av.length cc,.slice Am a.ao.length cm⟩ (kQ a 0) T C M):=I (xS.o.Ko (a.day+1));have Kp:ag (Below base w (W.setCell ⟨w.heap.size,0,none⟩ (.int .i64 (a.day+1)))):=I ((gf.o.mono dC).setCell dC _);have Xd:ag (Row (W.setCell ⟨w.heap.size,0,none⟩ (.int .i64 (a.day+1))) (w.heap.size+1) [.int .i64 0,.int .i64 0,.slice none 0 0,.slice none 0 0,.slice none 0 0,.slice none 0 0]):=I (HZ.o.nP _ (by simp));have UU:ag (iY Z w (W.setCell ⟨w.heap.size,0,none⟩ (.int .i64 (a.day+1)))):=I (HV.o.nP _ (λz hz=>by have:=oA.o z hz;show w.heap.size≠z;omega));have c5:=xS.o.row.cell 5 _ rfl;have R8:ag (∀b,bz ⟨.slice At a.af.length ct,.slice Ab a.base.length cb,.slice Ac a.av.length cc,.slice Am a.ao.length cm⟩ (kQ a 0) T C M b->b≠w.heap.size+1):=I (λb hb e=>by have:=uG.o b hb;omega);unfold Ks;go_enter func118,ntmps118;go_upto_region 1 with (fail)
 rw[lV.o];go_wp2;go_loopw [4,5,17] (λ_ _ i wr=> ∃(k:Nat) (x:cS) (T:List bR) (C:List bu) (M:List bH),i= .int .i64 (k:Int)/\k<=a.ao.length/\ck base w.heap.size wr x (kQ a k) T C M/\Below base w wr/\Row wr (w.heap.size+1) [.int .i64 0,.int .i64 0,.slice none 0 0,.slice none 0 0,.slice none 0 0,.slice none 0 0]/\w.heap.size+1<wr.heap.size/\(∀b,bz x (kQ a k) T C M b->b≠w.heap.size+1)/\iY Z w wr/\(∀b,bz x (kQ a k) T C M b-> ¬Z b)) (λ_ _ i _=>a.ao.length-(intOf i).toNat);case atStart=>exact ⟨0,_,_,_,_,rfl,aaf _,jT.o,Kp.o,Xd.o,by simp;omega,R8.o,UU.o,G9.o⟩
 case round=>
  clear c0 ZQ c5 jT Kp Xd R8 UU G9;obtain ⟨k,x,T,C,M,rfl,hk,hB,hb,hZ,Xe,RJ,hv,xl⟩:=hrel;have M7:=I hv;have Hr:=I xl;have mR:=I hZ;have Qb:=I RJ;clear hZ RJ hv xl;have HI:=I (uQ HF.o k hk);have iG:ag (kQ a (k+1)=mh (kQ a k) k):=I rfl;have Vw:ag (k=a.ao.length->pz a=kQ a k):=I (λe=>by unfold pz;rw[e]);generalize kQ a k=b at*;obtain ⟨Bt,dt,Bb,db,Bc,dc,Bm,dm,rfl⟩:=hB.own.o.r.slices;rw[HI.o.len]at hB Qb Hr;have HB:=I hB;have bD:=hB.lt;have Ph:=I hb;have q5:=hB.row.cell 5 _ rfl;by_cases aI:k<a.ao.length
  ·have aH:a.ao[k]?=some a.ao[k]:=aag aI;have wR:b.ao[k]?=some a.ao[k]:=(HI.o.rest k (aad _)).trans aH;obtain ⟨g,cap,y,A1,c1,A2,c2,hM,kd,qp⟩:=hB.ko wR;have HGB:=I qp;have Ol:=I hM.P9;have bi:=hM.row;rw[hB.G5,HI.o.len]at bi;injection bi with e1 _ e3
   subst e1 e3;have pO:=I (hB.G5.trans HI.o.len);have Pj:=hM.p;have Pk:=hM.t;have HG:=I aH;have Kl:=I wR;clear aH wR;generalize a.ao[k]=m at*;obtain ⟨ym,yp,yt⟩:=y;have Kq:ym=m:=Ol.o;subst Kq;have Pj:yp= .slice A1 ym.pat.length c1:=Pj;have Pk:yt= .slice A2 ym.ax.length c2:=Pk;subst Pj Pk;have HM:=I hM;have G':ag (∀W',Below wr.heap.size wr W'-> ∀i u,(cK (⟨ym,.slice A1 ym.pat.length c1,.slice A2 ym.ax.length c2⟩:bH))[i]?=some u->W'.cell? ⟨g,k*8+i,none⟩=some u/\W'.frozen? ⟨g,k*8+i,none⟩=false):=I (λW' dF i u hu=>(HB.o.below dF).sB HM.o.get rfl hu);have P4:=I (λ(W':World) (dF:Below wr.heap.size wr W')=>ck.Xc (HB.o.below dF) HI.o HF.o HG.o rfl rfl rfl (cz.on HM.o.fF (Pl.stays _) dF dF.size) (cz.on HM.o.ints (Pl.stays _) dF dF.size));have rc:(k:Int)<(a.ao.length:Int):=by omega
   have H0:(0:Int)<=(k:Int):=aa8 _;have eT:=I (λy:ar wr=>HB.o.below y.ok);have mS:=I (λy:ar wr=>Ph.o.trans (y.ok.mono (by omega)));have Aq:=I (λy:ar wr=>mR.o.below y.ok Xe);have Xf:=I (λy:ar wr=>M7.o.below (λz hz=>by have:=oA.o z hz;omega) y.ok);have Xg:=I (λy:ar wr=>aar Xe y.ok.size);have p5: ∀y:ar wr,y.val.cell? ⟨g,k*8+5,none⟩=some (.int .i64 ym.aj):=λy=>(G'.o _ y.ok 5 _ rfl).1;have d0:=λy:ar wr=>(eT.o y).row.cell 0 _ rfl;clear hM hB hb qp;go_upto_region 8 with (fail)
   clear q5;refine yY λx1=>?_;by_cases hc:ym.aj=b.day
   case neg=>
    have gm:(ym.aj !=b.day)=true:=by simp[hc]
    have HS:ag (kQ a (k+1)=b):=I (by rw[iG.o];exact pB Kl.o hc);refine ap (by kernel_rfl) (by kernel_rfl) ?_
    repeat (go_big_quiet_step (fail))
    refine aai ?_;rintro _ ⟨u,rfl⟩;clear gm hc;go_wp2;go_roundw;case rel=>exact ⟨k+1,_,_,_,_,by go_num,by omega,by rw[HS.o];exact eT.o u,mS.o u,Aq.o u,Xg.o u,by rw[HS.o];exact Qb.o,Xf.o u,by rw[HS.o];exact Hr.o⟩
    case measure=>simp[intOf];omega
   have gm:(ym.aj !=b.day)=false:=by simp[hc]
   refine ap (by kernel_rfl) (by kernel_rfl) ?_
   repeat (go_big_quiet_step (fail))
   refine aai ?_;rintro _ ⟨u,rfl⟩;clear p5 d0;obtain ⟨r,hr⟩: ∃r,r=lY b ym ym.ax:=⟨_,rfl⟩
   have lE:=I (pC Kl.o hc hr.symm);have Vx:ag (r=1->fi b.base b.av (cM ym)=true):=I (λh=>wM (hr.symm.trans h));have Vz:=I (R7 (gi.1 (HF.o.ok.ao k ym HG.o)) b.day hc a.ao.length)
   have Ts:ag (∀y:ar wr,Calls prog 56 #[.agg #[.int .i64 b.day,.int .i64 b.rule,.slice Bt b.af.length dt,.slice Bb b.base.length db,.slice Bc b.av.length dc,.slice (some ⟨g,0,none⟩) a.ao.length dm],.agg #[.string ym.al,.int .i64 ym.br,.slice A1 ym.pat.length c1,.int .i64 ym.a8,.int .i64 ym.fin,.int .i64 ym.aj,.slice A2 ym.ax.length c2,.int .i64 ym.result],.slice A2 ym.ax.length c2] y.val (bT (.int .i64 r) y.val)):=I (λy=>by
    have v:=P4.o y.val y.ok
    have:=zQ {b with ao:=List.replicate a.ao.length (qW ym 1)} ym ym.ax Bt dt Bb db Bc dc (some ⟨g,0,none⟩) dm A1 c1 A2 c2 A2 c2 y.val ⟨v.rt,v.rs,v.ra,v.re,v.rv,v.len,⟨v.ok.n1,v.ok.n12,by show (List.replicate a.ao.length (qW ym 1)).length<=6;rw[Vz.o.1];omega,v.ok.rule,v.ok.af,λj q hq=>by
     have h9:=Vz.o.2 j q hq;show dD q b.day b.af.length=true
     rw[HI.o.af];exact h9⟩,v.stat,v.av,v.act⟩
    rw[yR,<-hr]at this;have e:(List.replicate a.ao.length (qW ym 1)).length=a.ao.length:=Vz.o.1;have this:Calls prog 56 #[.agg #[.int .i64 b.day,.int .i64 b.rule,.slice Bt b.af.length dt,.slice Bb b.base.length db,.slice Bc b.av.length dc,.slice (some ⟨g,0,none⟩) (List.replicate a.ao.length (qW ym 1)).length dm],.agg #[.string ym.al,.int .i64 ym.br,.slice A1 ym.pat.length c1,.int .i64 ym.a8,.int .i64 ym.fin,.int .i64 ym.aj,.slice A2 ym.ax.length c2,.int .i64 ym.result],.slice A2 ym.ax.length c2] y.val (bT (.int .i64 r) y.val):=this;rw[e]at this;exact this)
   clear hr gm hc;go_upto_region 9 with (fail)
   have dl:ag (∀y:ar wr,(y.val.cell? ⟨w.heap.size,0,none⟩=some (.int .i64 b.day)/\y.val.cell? ⟨w.heap.size,1,none⟩=some (.int .i64 b.rule)/\y.val.cell? ⟨w.heap.size,2,none⟩=some (.slice Bt b.af.length dt)/\y.val.cell? ⟨w.heap.size,3,none⟩=some (.slice Bb b.base.length db)/\y.val.cell? ⟨w.heap.size,4,none⟩=some (.slice Bc b.av.length dc)/\y.val.cell? ⟨w.heap.size,5,none⟩=some (.slice (some ⟨g,0,none⟩) a.ao.length dm))/\
    (y.val.cell? ⟨g,k*8,none⟩=some (.string ym.al)/\y.val.cell? ⟨g,k*8+1,none⟩=some (.int .i64 ym.br)/\y.val.cell? ⟨g,k*8+2,none⟩=some (.slice A1 ym.pat.length c1)/\y.val.cell? ⟨g,k*8+3,none⟩=some (.int .i64 ym.a8)/\y.val.cell? ⟨g,k*8+4,none⟩=some (.int .i64 ym.fin)/\y.val.cell? ⟨g,k*8+5,none⟩=some (.int .i64 ym.aj)/\y.val.cell? ⟨g,k*8+6,none⟩=some (.slice A2 ym.ax.length c2)/\y.val.cell? ⟨g,k*8+7,none⟩=some (.int .i64 ym.result))):=I (λy=>
    have h1:=(eT.o y).row;have h2:=G'.o _ y.ok
    ⟨⟨h1.cell 0 _ rfl,h1.cell 1 _ rfl,h1.cell 2 _ rfl,h1.cell 3 _ rfl,h1.cell 4 _ rfl,h1.cell 5 _ rfl⟩,(h2 0 _ rfl).1,(h2 1 _ rfl).1,(h2 2 _ rfl).1,(h2 3 _ rfl).1,(h2 4 _ rfl).1,(h2 5 _ rfl).1,(h2 6 _ rfl).1,(h2 7 _ rfl).1⟩)
   refine dq 12 (λw'=>(w'.cell? ⟨w.heap.size,0,none⟩=some (.int .i64 b.day)/\w'.cell? ⟨w.heap.size,1,none⟩=some (.int .i64 b.rule)/\w'.cell? ⟨w.heap.size,2,none⟩=some (.slice Bt b.af.length dt)/\w'.cell? ⟨w.heap.size,3,none⟩=some (.slice Bb b.base.length db)/\w'.cell? ⟨w.heap.size,4,none⟩=some (.slice Bc b.av.length dc)/\w'.cell? ⟨w.heap.size,5,none⟩=some (.slice (some ⟨g,0,none⟩) a.ao.length dm))/\
    (w'.cell? ⟨g,k*8,none⟩=some (.string ym.al)/\w'.cell? ⟨g,k*8+1,none⟩=some (.int .i64 ym.br)/\w'.cell? ⟨g,k*8+2,none⟩=some (.slice A1 ym.pat.length c1)/\w'.cell? ⟨g,k*8+3,none⟩=some (.int .i64 ym.a8)/\w'.cell? ⟨g,k*8+4,none⟩=some (.int .i64 ym.fin)/\w'.cell? ⟨g,k*8+5,none⟩=some (.int .i64 ym.aj)/\w'.cell? ⟨g,k*8+6,none⟩=some (.slice A2 ym.ax.length c2)/\w'.cell? ⟨g,k*8+7,none⟩=some (.int .i64 ym.result))) (by kernel_rfl) ?_
   obtain ⟨u3,P'⟩: ∃y:ar wr,y.val=u.val.drew:=⟨⟨u.val.drew,u.ok.drew⟩,rfl⟩
   rw[<-P'];clear P';have aE:=dl.o u3;refine cl 0 ?_
   try simp only[Act.put,aK,aM]
   refine cl 1 ?_
   try simp only[Act.put,aK,aM]
   refine cl 2 ?_
   try simp only[Act.put,aK,aM]
   refine cl 3 ?_
   try simp only[Act.put,aK,aM]
   refine cl 4 ?_
   try simp only[Act.put,aK,aM]
   refine cl 5 ?_
   try simp only[Act.put,aK,aM]
   refine cl 6 ?_
   try simp only[Act.put,aK,aM]
   refine cl 7 ?_
   try simp only[Act.put,aK,aM]
   refine cl 8 ?_
   try simp only[Act.put,aK,aM]
   clear aE;refine cV 9 (λK hK=>?_)
   try simp only[aK]
   go_simp;go_at_call 56;refine (aq (Ts.o u3)).mono ?_;rintro e _ ⟨rfl,u4,rfl⟩;have Nf:=dl.o u4;refine hK.out _ _ (λ_=>Nf) ?_;clear hK K
   try simp only[Act.put,aM]
   refine eS 10 (λ_=>Nf) ?_
   try simp only[Act.put,aK,aM]
   refine eS 11 (λ_=>Nf) ?_
   try simp only[Act.put,aK,aM]
   refine cV 12 (λK hK=>?_)
   try simp only[aK]
   have Kr:=G'.o _ u4.ok 7 _ rfl;have m7:=Kr.1;have K5:=Kr.2;go_simp;refine hK.out _ _ (λh=>by simp at h) ?_;clear hK K
   try simp only[Act.put,aM]
   refine dh (by kernel_rfl) ?_ _;have G7:=I ((eT.o u4).tE HM.o.get (congrArg (λn=>Value.slice (some ⟨g,0,none⟩) n dm) pO.o.symm) r);have Ma:=I (dM.tE (eT.o u4).own HM.o.get (congrArg (λn=>Value.slice (some ⟨g,0,none⟩) n dm) pO.o.symm) r).2;have VA:ag (Below base w (u4.val.setCell ⟨g,k*8+7,none⟩ (.int .i64 r))):=I ((mS.o u4).setCell (p:=⟨g,k*8+7,none⟩) kd _);have ZR:g≠w.heap.size+1:=Qb.o g (.inr (.inr (.inr (HB.o.own.jX rfl))));have VB:ag (Row (u4.val.setCell ⟨g,k*8+7,none⟩ (.int .i64 r)) (w.heap.size+1) [.int .i64 0,.int .i64 0,.slice none 0 0,.slice none 0 0,.slice none 0 0,.slice none 0 0]):=I ((Aq.o u4).nP (p:=⟨g,k*8+7,none⟩) _ ZR);have R9: ¬Z g:=Hr.o g (.inr (.inr (.inr (HB.o.own.jX rfl))));have VC:ag (iY Z w (u4.val.setCell ⟨g,k*8+7,none⟩ (.int .i64 r))):=I ((Xf.o u4).nP (p:=⟨g,k*8+7,none⟩) _ (λz hz e=>R9 (by show Z g;rw[show g=z from e];exact hz)));have VD:w.heap.size+1<(u4.val.setCell ⟨g,k*8+7,none⟩ (.int .i64 r)).heap.size:=by simpa [World.setCell]using Xg.o u4
   obtain ⟨w6,xj⟩: ∃X,X=u4.val.setCell ⟨g,k*8+7,none⟩ (.int .i64 r):=⟨_,rfl⟩
   rw[<-xj]at G7 VA VB VC VD⊢;clear xj m7 K5 Kr Nf;have P5:ag ((M.set k (vR ⟨ym,.slice A1 ym.pat.length c1,.slice A2 ym.ax.length c2⟩ r))[k]?=some (vR ⟨ym,.slice A1 ym.pat.length c1,.slice A2 ym.ax.length c2⟩ r)):=I (abQ (aal.1 HM.o.get).1);have m7:w6.cell? ⟨g,k*8+7,none⟩=some (.int .i64 r):=(G7.o.sB P5.o rfl (i:=7) rfl).1;by_cases h1:r=1
   ·have MY:(r==1)=true:=by simp[h1]
    rw[aaj h1]at lE;have jS:=I (Vx.o h1);have mB:=I h1;clear h1;go_upto_region 11 with (fail)
    have Xh:ag (∀W',Below w6.heap.size w6 W'->(W'.cell? ⟨w.heap.size,0,none⟩=some (.int .i64 b.day)/\W'.cell? ⟨w.heap.size,1,none⟩=some (.int .i64 b.rule)/\W'.cell? ⟨w.heap.size,2,none⟩=some (.slice Bt b.af.length dt)/\W'.cell? ⟨w.heap.size,3,none⟩=some (.slice Bb b.base.length db)/\W'.cell? ⟨w.heap.size,4,none⟩=some (.slice Bc b.av.length dc)/\W'.cell? ⟨w.heap.size,5,none⟩=some (.slice (some ⟨g,0,none⟩) a.ao.length dm))/\
     (W'.cell? ⟨g,k*8,none⟩=some (.string ym.al)/\W'.cell? ⟨g,k*8+1,none⟩=some (.int .i64 ym.br)/\W'.cell? ⟨g,k*8+2,none⟩=some (.slice A1 ym.pat.length c1)/\W'.cell? ⟨g,k*8+3,none⟩=some (.int .i64 ym.a8)/\W'.cell? ⟨g,k*8+4,none⟩=some (.int .i64 ym.fin)/\W'.cell? ⟨g,k*8+5,none⟩=some (.int .i64 ym.aj)/\W'.cell? ⟨g,k*8+6,none⟩=some (.slice A2 ym.ax.length c2)/\W'.cell? ⟨g,k*8+7,none⟩=some (.int .i64 r))):=I (λW' dF=>
     have h0:=G7.o.below dF;have h1:=h0.row;have h2: ∀i u,(cK (vR ⟨ym,.slice A1 ym.pat.length c1,.slice A2 ym.ax.length c2⟩ r))[i]?=some u->W'.cell? ⟨g,k*8+i,none⟩=some u:=λi u hu=>(h0.sB P5.o rfl hu).1
     ⟨⟨h1.cell 0 _ rfl,h1.cell 1 _ rfl,h1.cell 2 _ rfl,h1.cell 3 _ rfl,h1.cell 4 _ rfl,h1.cell 5 _ rfl⟩,h2 0 _ rfl,h2 1 _ rfl,h2 2 _ rfl,h2 3 _ rfl,h2 4 _ rfl,h2 5 _ rfl,h2 6 _ rfl,h2 7 _ rfl⟩)
    refine dq 9 (λw'=>(w'.cell? ⟨w.heap.size,0,none⟩=some (.int .i64 b.day)/\w'.cell? ⟨w.heap.size,1,none⟩=some (.int .i64 b.rule)/\w'.cell? ⟨w.heap.size,2,none⟩=some (.slice Bt b.af.length dt)/\w'.cell? ⟨w.heap.size,3,none⟩=some (.slice Bb b.base.length db)/\w'.cell? ⟨w.heap.size,4,none⟩=some (.slice Bc b.av.length dc)/\w'.cell? ⟨w.heap.size,5,none⟩=some (.slice (some ⟨g,0,none⟩) a.ao.length dm))/\
     (w'.cell? ⟨g,k*8,none⟩=some (.string ym.al)/\w'.cell? ⟨g,k*8+1,none⟩=some (.int .i64 ym.br)/\w'.cell? ⟨g,k*8+2,none⟩=some (.slice A1 ym.pat.length c1)/\w'.cell? ⟨g,k*8+3,none⟩=some (.int .i64 ym.a8)/\w'.cell? ⟨g,k*8+4,none⟩=some (.int .i64 ym.fin)/\w'.cell? ⟨g,k*8+5,none⟩=some (.int .i64 ym.aj)/\w'.cell? ⟨g,k*8+6,none⟩=some (.slice A2 ym.ax.length c2)/\w'.cell? ⟨g,k*8+7,none⟩=some (.int .i64 r))) (by kernel_rfl) ?_
    obtain ⟨w7,VE⟩: ∃X,X=w6.drew:=⟨_,rfl⟩
    have b7:Below w6.heap.size w6 w7:=by rw[VE];exact (aae _ _).drew
    rw[<-VE];clear VE m7;have aE:=Xh.o w7 b7
    have R5:ag (Calls prog 119 #[.agg #[.int .i64 b.day,.int .i64 b.rule,.slice Bt b.af.length dt,.slice Bb b.base.length db,.slice Bc b.av.length dc,.slice (some ⟨g,0,none⟩) a.ao.length dm],.agg #[.string ym.al,.int .i64 ym.br,.slice A1 ym.pat.length c1,.int .i64 ym.a8,.int .i64 ym.fin,.int .i64 ym.aj,.slice A2 ym.ax.length c2,.int .i64 r]] w7 (iB b.base b.av (cM ym) w7)):=I (by
     have Xi:=(G7.o.below b7).own.o.r;have v:=P4.o wr (aae _ _);have iq:=((G7.o.below b7).own.o.m.fa _ (aaC P5.o))
     have he:bg w7 w7.heap.size (.slice A1 ym.pat.length c1) ym.pat:=(show ay ah ym.pat base w7 (.slice A1 ym.pat.length c1)from iq.1).mo (size:=4) λ_=>rfl;have:=wE b Bt dt Bb db Bc dc (some ⟨g,0,none⟩) dm (qW ym r) A1 c1 A2 c2 w7 Xi.b Xi.c v.stat v.av v.act he;rw[HI.o.len]at this;exact this)
    unfold iB at R5;refine cl 0 ?_
    try simp only[Act.put,aK,aM]
    refine cl 1 ?_
    try simp only[Act.put,aK,aM]
    refine cl 2 ?_
    try simp only[Act.put,aK,aM]
    refine cl 3 ?_
    try simp only[Act.put,aK,aM]
    clear aE;refine cV 4 (λK hK=>?_)
    try simp only[aK]
    go_simp;go_at_call 119;refine R5.o.mono ?_;rintro e w8 ⟨A5,n5,c5,rfl,KZ,zd⟩;obtain ⟨L5,rfl,Qa,KZ⟩:=KZ jS.o;have b8:Below w6.heap.size w6 w8:=b7.trans (zd.mono b7.size);have Qc:=Xh.o w8 b8;refine hK.out _ _ (λ_=>Qc) ?_;clear hK K
    try simp only[Act.put,aM]
    refine eS 5 (λ_=>Qc) ?_
    try simp only[Act.put,aK,aM]
    refine eS 6 (λ_=>Qc) ?_
    try simp only[Act.put,aK,aM]
    refine eS 7 (λ_=>Qc) ?_
    try simp only[Act.put,aK,aM]
    refine eS 8 (λ_=>Qc) ?_
    try simp only[Act.put,aK,aM]
    refine cV 9 (λK hK=>?_)
    try simp only[aK]
    have VF:=(G7.o.below b8).row;have g4:=VF.cell 4 _ rfl;have f4:=VF.free 4 (by simp);go_simp;refine hK.out _ _ (λh=>by simp at h) ?_;clear hK K
    try simp only[Act.put,aM]
    refine dh (by kernel_rfl) ?_ _;have ZS:=I ((G7.o.below b7).sx zd KZ Qa);have Xj:=I (dM.sx (G7.o.below b7).own zd KZ Qa (by have:=b7.size;omega)).2;have LR:ag (Below base w (w8.setCell ⟨w.heap.size,4,none⟩ (.slice A5 L5.length c5))):=I ((VA.o.trans (b8.mono (by omega))).setCell (p:=⟨w.heap.size,4,none⟩) dC _);have ZT:ag (Row (w8.setCell ⟨w.heap.size,4,none⟩ (.slice A5 L5.length c5)) (w.heap.size+1) [.int .i64 0,.int .i64 0,.slice none 0 0,.slice none 0 0,.slice none 0 0,.slice none 0 0]):=I ((VB.o.below b8 VD).nP (p:=⟨w.heap.size,4,none⟩) _ (by simp));have ZU:ag (iY Z w (w8.setCell ⟨w.heap.size,4,none⟩ (.slice A5 L5.length c5))):=I ((VC.o.below (λz hz=>by have:=oA.o z hz;omega) b8).nP (p:=⟨w.heap.size,4,none⟩) _ (λz hz=>by have:=oA.o z hz;show w.heap.size≠z;omega));have ZV:w.heap.size+1<(w8.setCell ⟨w.heap.size,4,none⟩ (.slice A5 L5.length c5)).heap.size:=by have:=b8.size;simp[World.setCell];omega
    have e5:w.heap.size+1<w7.heap.size:=by have:=b7.size;omega
    clear Qc VF g4 f4 zd KZ Qa b8;go_wp2;go_roundw
    case rel=>exact ⟨k+1,_,_,_,_,by go_num,by omega,by rw[iG.o,lE.o];exact ZS.o,LR.o,ZT.o,ZV,by
     rw[iG.o,lE.o];intro b' dF;rcases Xj.o b' dF with q|q
     ·exact Qb.o b' ((Ma.o b').1 q)
     ·omega,ZU.o,by
     rw[iG.o,lE.o];intro b' dF;rcases Xj.o b' dF with q|q
     ·exact Hr.o b' ((Ma.o b').1 q)
     exact λhz=>by have:=oA.o b' hz;omega⟩
    case measure=>simp[intOf];omega
   have MY:(r==1)=false:=by simp[h1]
   rw[aah h1]at lE;clear h1;go_wp2;go_roundw;case rel=>exact ⟨k+1,_,_,_,_,by go_num,by omega,by rw[iG.o,lE.o];exact G7.o,VA.o,VB.o,VD,by rw[iG.o,lE.o];exact λb' dF=>Qb.o b' ((Ma.o b').1 dF),VC.o,by rw[iG.o,lE.o];exact λb' dF=>Hr.o b' ((Ma.o b').1 dF)⟩
   case measure=>simp[intOf];omega
  have eA: ¬(k:Int)<(a.ao.length:Int):=by omega
  have Ew:k=a.ao.length:=by omega
  have LW:=I (Vw.o Ew);clear Ew;have r0:=mR.o.cell 0 _ rfl;have r1:=mR.o.cell 1 _ rfl;have r2:=mR.o.cell 2 _ rfl;have r3:=mR.o.cell 3 _ rfl;have r4:=mR.o.cell 4 _ rfl;have r5:=mR.o.cell 5 _ rfl;have s0:=mR.o.free 0 (by simp);have s1:=mR.o.free 1 (by simp);have s2:=mR.o.free 2 (by simp);have s3:=mR.o.free 3 (by simp);have s4:=mR.o.free 4 (by simp);have s5:=mR.o.free 5 (by simp);have q0:=HB.o.row.cell 0 _ rfl;have q1:=HB.o.row.cell 1 _ rfl;have q2:=HB.o.row.cell 2 _ rfl;have q3:=HB.o.row.cell 3 _ rfl;have q4:=HB.o.row.cell 4 _ rfl;have q5:=HB.o.row.cell 5 _ rfl;clear q5;go_wp2
  have gD: ∀(ac:Go.Act) (w':World),ac.tmps[2]?=some (.pointer (some ⟨(w.heap.size+1),0,none⟩))->ac.tmps[3]?=some (.bool true)->w'.cell? ⟨(w.heap.size+1),0,none⟩=some (.int .i64 b.day)->w'.cell? ⟨(w.heap.size+1),1,none⟩=some (.int .i64 b.rule)->w'.cell? ⟨(w.heap.size+1),2,none⟩=some (.slice Bt b.af.length dt)->w'.cell? ⟨(w.heap.size+1),3,none⟩=some (.slice Bb b.base.length db)->w'.cell? ⟨(w.heap.size+1),4,none⟩=some (.slice Bc b.av.length dc)->w'.cell? ⟨(w.heap.size+1),5,none⟩=some (.slice Bm a.ao.length dm)->(results f118 ac.tmps).run prog w'= .ok (.tuple #[.agg #[.int .i64 b.day,.int .i64 b.rule,.slice Bt b.af.length dt,.slice Bb b.base.length db,.slice Bc b.av.length dc,.slice Bm a.ao.length dm],.bool true]) w':=by
   intro ac w' ha hf nB nC nE ob oc od;simp[results,results118,go_sem,ha,hf,nB,nC,nE,ob,oc,od]
  refine aaT (gD _ _ rfl rfl (by simp[go_sem,r0]) (by simp[go_sem,r1]) (by simp[go_sem,r2]) (by simp[go_sem,r3]) (by simp[go_sem,r4]) (by simp[go_sem,r5])) rfl ?_;refine ⟨b,⟨.slice Bt b.af.length dt,.slice Bb b.base.length db,.slice Bc b.av.length dc,.slice Bm a.ao.length dm⟩,rfl,⟨_,_,_,_,_,_,_,_,_,_,_,_,rfl⟩,⟨LW.o.symm,T,C,M,?_,?_⟩,?_,?_,?_⟩
  ·rw[LW.o];refine HB.o.own.aD (F:=λb=>b=w.heap.size+1) ?_ (λb' dF e=>Qb.o b' dF e)
   iterate 6 refine Touch.setCell (F:=λb=>b=w.heap.size+1) ?_ rfl _
   exact Touch.refl _ _
  ·rw[LW.o];exact Hr.o
  ·refine Ph.o.trans (Touch.below (F:=λb=>b=w.heap.size+1) ?_ (by omega) (λb' e=>by omega))
   iterate 6 refine Touch.setCell (F:=λb=>b=w.heap.size+1) ?_ rfl _
   exact Touch.refl _ _
  ·refine M7.o.aD (F:=λb=>b=w.heap.size+1) (λz hz=>by have:=oA.o z hz;omega) ?_ (λz hz e=>by have:=oA.o z hz;omega)
   iterate 6 refine Touch.setCell (F:=λb=>b=w.heap.size+1) ?_ rfl _
   exact Touch.refl _ _
  simp[World.setCell];omega
end Go.Proofs.YtbcggaldkihcaaaGreat

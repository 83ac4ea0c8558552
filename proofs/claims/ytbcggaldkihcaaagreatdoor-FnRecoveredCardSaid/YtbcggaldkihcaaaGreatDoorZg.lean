/- The day of an assembly of the call's own: what is held, store by store; walked: the refe.. -/
import Derived.Test.YtbcggaldkihcaaaGreatDoorZe
import Derived.Test.YtbcggaldkihcaaaGreatDoorZa
import Derived.Test.YtbcggaldkihcaaaGreatDoorZd
import Derived.StillTailTactics
import Derived.Great.Walk
set_option maxHeartbeats 8000000
set_option maxRecDepth 100000
namespace Go.Proofs.YtbcggaldkihcaaaGreatDoor
open Tryz
open Go.RowKit Go.Lib
theorem ck.tE {base ba:Nat} {w:World} {x:cS} {a:cp} {T:List bR} {C:List bu} {M:List bH} (h:ck base ba w x a T C M) {j g cap:Nat} {y:bH} (hy:M[j]?=some y) (hg:x.m= .slice (some ⟨g,0,none⟩) M.length cap) (r:Int):
 ck base ba (w.setCell ⟨g,j*8+7,none⟩ (.int .i64 r)) x {a with ao:=a.ao.set j (qW y.a r)} T C (M.set j (vR y r)):=by
 obtain ⟨q1,q2⟩:=dM.tE h.own hy hg r;have Hq:=h.nf g (.inr (.inr (.inr (h.own.jX (by rw[hg];rfl)))));exact ⟨h.row.nP (p:=⟨g,j*8+7,none⟩) _ Hq,q1,by simpa [World.setCell]using h.lt,λb hb=>h.nf b ((q2 b).1 hb),h.bb⟩
theorem ck.sv {base ba:Nat} {w:World} {x:cS} {a:cp} {T:List bR} {C:List bu} {M:List bH} (h:ck base ba w x a T C M) {j i g c:Nat} {y:bH} (hy:M[j]?=some y) (hg:y.t= .slice (some ⟨g,0,none⟩) y.a.ax.length c) (hi:i<y.a.ax.length) (r:Int):
 ck base ba (w.setCell ⟨g,i,none⟩ (.int .i64 r)) x {a with ao:=a.ao.set j (wK y.a i r)} T C (M.set j (vV y i r)):=by
 obtain ⟨q1,q2⟩:=dM.sv h.own hy hg hi r;have Hq:=h.nf g (.inr (.inr (.inr (.inr ⟨y,List.mem_of_getElem? hy,.inr ⟨λe=>by rw[e]at hi;simp at hi,by rw[hg];rfl⟩⟩))));exact ⟨h.row.nP (p:=⟨g,i,none⟩) _ Hq,q1,by simpa [World.setCell]using h.lt,λb hb=>h.nf b ((q2 b).1 hb),h.bb⟩
theorem ck.py {base ba n:Nat} {w w':World} {x:cS} {a:cp} {T:List bR} {C:List bu} {M:List bH} (h:ck base ba w x a T C M) (hb:Below w.heap.size w w') {j g:Nat} {l:List Int} {y:bR} (hy:T[j]?=some y) (hg:x.t.ownBlock=some g) {u:Value} (hu:ay ak l n w' u) (hn:w.heap.size<=n):
 ck base ba (w'.setCell ⟨g,j,none⟩ u) x {a with af:=a.af.set j l} (T.set j ⟨l,u⟩) C M:=by
 have h':=h.below hb;have aI:=h.lt;have j7:=h.bb;have hT:T≠[]:=λe=>by rw[e]at hy;simp at hy
 obtain ⟨q1,q2⟩:=dM.py h'.own hy hg hu (λb hb=>by have:=(h.own.o.lt hb).2;omega) (by omega) (by have:=(h.own.o.lt (b:=g) (.inl (.inl ⟨hT,hg⟩))).2;omega);have Hq:=h.nf g (.inl (.inl ⟨hT,hg⟩));refine ⟨h'.row.nP (p:=⟨g,j,none⟩) _ Hq,q1,by simpa [World.setCell]using h'.lt,λb hb=>?_,h.bb⟩;rcases q2 b hb with q|q
 ·exact h.nf b q
 have:=(ay.dw hu q).1;omega
theorem ck.sx {base ba:Nat} {w w':World} {x:cS} {a:cp} {T:List bR} {C C':List bu} {M:List bH} (h:ck base ba w x a T C M) {v':Value} {ls:List bo} (hb:Below w.heap.size w w') (t':aR cw w.heap.size w' v' C') (hl:C'.map bu.a=ls):
 ck base ba (w'.setCell ⟨ba,4,none⟩ v') {x with c:=v'} {a with av:=ls} T C' M:=by
 have aI:=h.lt;have j7:=h.bb;obtain ⟨q1,q2⟩:=dM.sx h.own hb t' hl (by omega)
 exact ck.put (h.row.below hb h.lt) q1 (λb hb=>by
  rcases q2 b hb with q|q
  ·exact h.nf b q
  omega) (Nat.lt_of_lt_of_le h.lt hb.size) h.bb (by show 4<6;omega) rfl
theorem ck.Ko {base ba:Nat} {w:World} {x:cS} {a:cp} {T:List bR} {C:List bu} {M:List bH} (h:ck base ba w x a T C M) (d:Int):
 ck base ba (w.setCell ⟨ba,0,none⟩ (.int .i64 d)) x {a with day:=d} T C M:=
 ck.put h.row ⟨⟨h.own.o.tm,h.own.o.L1,h.own.o.mm,h.own.o.t,h.own.o.b,h.own.o.c,h.own.o.m,h.own.o.tb,h.own.o.tc,h.own.o.Bw,h.own.o.L2,h.own.o.bm,h.own.o.EX⟩,h.own.mr,h.own.mn⟩ h.nf h.lt h.bb (by show 0<6;omega) rfl
structure R3 (w:World) (x:cS) (M:List bH) (k:Nat) (m:gu) (g cap:Nat) (y:bH) (A1:Option Addr) (c1:Nat) (A2:Option Addr) (c2:Nat):Prop where
 get:M[k]?=some y
 P9:y.a=m
 row:x.m= .slice (some ⟨g,0,none⟩) M.length cap
 p:y.p= .slice A1 m.pat.length c1
 t:y.t= .slice A2 m.ax.length c2
 c1m:c1<=maxLen
 c2m:c2<=maxLen
 cell: ∀i u,(cK y)[i]?=some u->w.cell? ⟨g,k*8+i,none⟩=some u/\w.frozen? ⟨g,k*8+i,none⟩=false
 lt:g<w.heap.size
 fF:bg w w.heap.size y.p m.pat
 ints:aae w w.heap.size y.t m.ax
theorem ck.G5 {base ba:Nat} {w:World} {x:cS} {a:cp} {T:List bR} {C:List bu} {M:List bH} (h:ck base ba w x a T C M):M.length=a.ao.length:=by rw[<-h.own.o.mm,List.length_map]
theorem ck.ko {base ba:Nat} {w:World} {x:cS} {a:cp} {T:List bR} {C:List bu} {M:List bH} (h:ck base ba w x a T C M) {k:Nat} {m:gu} (hm:a.ao[k]?=some m): ∃g cap y A1 c1 A2 c2,R3 w x M k m g cap y A1 c1 A2 c2/\base<=g/\g≠ba:=by
 have Io:=hm;rw[<-h.own.o.mm,List.getElem?_map]at Io;cases hy:M[k]? with
 |none=>rw[hy]at Io;cases Io
 |some y=>
  rw[hy]at Io;injection Io with Io
  obtain ⟨g,c,hv,_,_,kd,aI,hc⟩:=h.own.o.m.cell hy;have iq:=h.own.o.m.fa y (List.mem_of_getElem? hy);obtain ⟨hp,ht,_⟩:=(show ay ah y.a.pat base w y.p/\ay ak y.a.ax base w y.t/\_ from iq)
  have he:bg w w.heap.size y.p y.a.pat:=hp.mo (size:=4) λ_=>rfl;have hi:aae w w.heap.size y.t y.a.ax:=ht.mo (size:=1) λ_=>rfl;obtain ⟨A1,c1,e1,_,m1⟩:=bg.sl he;obtain ⟨A2,c2,e2,_,m2⟩:=aae.sl hi;subst Io;exact ⟨g,c,y,A1,c1,A2,c2,⟨hy,rfl,hv,e1,e2,m1,m2,λi u hu=>hc i u hu,aI,he,hi⟩,kd,h.nf g (.inr (.inr (.inr (h.own.jX (by rw[hv];rfl)))))⟩
theorem ck.sB {base ba:Nat} {w:World} {x:cS} {a:cp} {T:List bR} {C:List bu} {M:List bH} (h:ck base ba w x a T C M) {k g n cap:Nat} {y:bH} (hy:M[k]?=some y) (hg:x.m= .slice (some ⟨g,0,none⟩) n cap) {i:Nat} {u:Value} (hu:(cK y)[i]?=some u):w.cell? ⟨g,k*8+i,none⟩=some u/\w.frozen? ⟨g,k*8+i,none⟩=false:=by
 obtain ⟨g',c,hv,_,_,_,_,hc⟩:=h.own.o.m.cell hy;rw[hg]at hv;injection hv with e1 _ _
 injection e1 with e1
 injection e1 with e1
 subst e1;exact hc i u hu
theorem ck.Xc {base ba k:Nat} {w:World} {x:cS} {a b:cp} {T:List bR} {C:List bu} {M:List bH} (h:ck base ba w x b T C M) (hI:Eu a b k) (hF:dJ a) {m:gu} (hm:a.ao[k]?=some m) {At:Option Addr} {ct:Nat} {Ab:Option Addr} {cb:Nat} {Ac:Option Addr} {L4:Nat} {A1:Option Addr} {c1:Nat} {A2:Option Addr} {c2:Nat}
 (e1:x.t= .slice At b.af.length ct) (e2:x.b= .slice Ab b.base.length cb) (e3:x.c= .slice Ac b.av.length L4) (he:bg w w.heap.size (.slice A1 m.pat.length c1) m.pat) (hi:aae w w.heap.size (.slice A2 m.ax.length c2) m.ax):yM {b with ao:=[]} m m.ax w At ct Ab cb Ac L4 A1 c1 A2 c2:=by
 have hr:=h.own.o.r;refine ⟨by have:=hr.t;rw[e1]at this;exact this,by have:=hr.b;rw[e2]at this;exact this,by have:=hr.c;rw[e3]at this;exact this,he,hi,?_,⟨?_,?_,Nat.zero_le _,?_,?_,λk m hk=>by cases hk⟩,?_,hI.av,B7 (hF.ok.ao k m hm)⟩
 ·show m.ax.length=b.af.length
  rw[hI.af];exact hF.ok.ax hm
 ·show 1<=b.af.length
  rw[hI.af];exact hF.ok.n1
 ·show b.af.length<=12
  rw[hI.af];exact hF.ok.n12
 ·show 0<=b.rule/\b.rule<=2
  rw[hI.rule];exact hF.ok.rule
 ·show∀(k:Nat) (l:List Int),b.af[k]?=some l->cF l (k:Int) b.af.length=true
  rw[hI.af];exact hF.ok.af
 show cd b.base=true
 rw[hI.base];exact hF.stat
theorem yR (b:cp) (L:List gu) (m:gu) (vs:List Int):lY {b with ao:=L} m vs=lY b m vs:=rfl
def Aa (a:cp) (base ba:Nat) (w:World) (e:Ending) (w':World):Prop:=e= .returned (.tuple #[])/\ ∃x T C M,ck base ba w' x (pz a) T C M/\Below base w w'
theorem G6 (a:cp) (x:cS) (T:List bR) (C:List bu) (M:List bH) (base ba:Nat) (w:World) (hB:ck base ba w x a T C M) (hF:dJ a) (hd:a.day<999):Calls prog 76 #[.pointer (some ⟨ba,0,none⟩)] w (Aa a base ba w):=by
 have ZO:=hF.d0;have c0:=hB.row.cell 0 _ rfl;have f0:=hB.row.free 0 (by simp);have j7:=hB.bb;have jT:ag (ck base ba (w.setCell ⟨ba,0,none⟩ (.int .i64 (a.day+1))) x (kQ a 0) T C M):=I (hB.Ko (a.day+1));have Kp:ag (Below base w (w.setCell ⟨ba,0,none⟩ (.int .i64 (a.day+1)))):=I ((Below.refl _ _).setCell j7 _);have HF:=I hF;have h6:=hF.ok.m6;unfold Aa;clear hB hF;go_enter func76,ntmps76;go_wp2;go_loopw [2] (λi wr=> ∃(k:Nat) (x:cS) (T:List bR) (C:List bu) (M:List bH),i= .int .i64 (k:Int)/\k<=a.ao.length/\ck base ba wr x (kQ a k) T C M/\Below base w wr) (λi _=>a.ao.length-(RowKit.intOf i).toNat);case atStart=>exact ⟨0,x,T,C,M,rfl,Nat.zero_le _,jT.o,Kp.o⟩
 case round=>
  clear c0 f0 jT Kp;obtain ⟨k,x,T,C,M,rfl,hk,hB,hb⟩:=hrel;have HI:=I (uQ HF.o k hk);have iG:ag (kQ a (k+1)=mh (kQ a k) k):=I rfl;have Vw:ag (k=a.ao.length->pz a=kQ a k):=I (λe=>by unfold pz;rw[e]);generalize kQ a k=b at*;obtain ⟨At,ct,Ab,cb,Ac,L4,Am,L1,rfl⟩:=hB.own.o.r.slices;rw[HI.o.len]at hB;have HB:=I hB;have ja:=hb.size;have j7:=hB.bb;have bD:=hB.lt;have Ph:=I hb;have q5:=hB.row.cell 5 _ rfl;by_cases aI:k<a.ao.length
  ·have aH:a.ao[k]?=some a.ao[k]:=List.getElem?_eq_getElem aI;have wR:b.ao[k]?=some a.ao[k]:=(HI.o.rest k (Nat.le_refl _)).trans aH;obtain ⟨g,cap,y,A1,c1,A2,c2,hM,kd,qp⟩:=hB.ko wR;have Ol:=I hM.P9;have bi:=hM.row;rw[hB.G5,HI.o.len]at bi;injection bi with e1 _ e3
   subst e1 e3;have pO:=I (hB.G5.trans HI.o.len);have Pj:=hM.p;have Pk:=hM.t;have J6:=a.ao[k];have HG:=I aH;have Kl:=I wR;clear aH wR J6;generalize a.ao[k]=m at*;obtain ⟨ym,yp,yt⟩:=y;have Kq:ym=m:=Ol.o;subst Kq;have Pj:yp= .slice A1 ym.pat.length c1:=Pj;have Pk:yt= .slice A2 ym.ax.length c2:=Pk;subst Pj Pk;have HM:=I hM;have z0:wr.cell? ⟨g,k*8,none⟩=some (.string ym.al):=(hM.cell 0 _ rfl).1;have z1:=(hM.cell 1 _ rfl).1;have z2:=(hM.cell 2 _ rfl).1;have z3:=(hM.cell 3 _ rfl).1;have z4:=(hM.cell 4 _ rfl).1;have z5:=(hM.cell 5 _ rfl).1;have z6:=(hM.cell 6 _ rfl).1;have z7:=(hM.cell 7 _ rfl).1;have M7:=I (λ(W':World) (dF:Below wr.heap.size wr W')=>ck.Xc (HB.o.below dF) HI.o HF.o HG.o rfl rfl rfl (cz.on HM.o.fF (Pl.stays _) dF dF.size) (cz.on HM.o.ints (Pl.stays _) dF dF.size));have rc:(k:Int)<(a.ao.length:Int):=by omega
   have H0:(0:Int)<=(k:Int):=Int.natCast_nonneg _;clear hM hB hb qp;go_upto_region 5 with (fail)
   obtain ⟨W1,eG⟩: ∃X,X=wr.alloc (.cells #[.string ym.al,.int .i64 ym.br,.slice A1 ym.pat.length c1,.int .i64 ym.a8,.int .i64 ym.fin,.int .i64 ym.aj,.slice A2 ym.ax.length c2,.int .i64 ym.result] 119):=⟨_,rfl⟩
   have gf:ag (Below wr.heap.size wr W1):=I (by rw[eG];exact (Below.refl _ _).alloc (Nat.le_refl _) _);have F7:Row W1 wr.heap.size [.string ym.al,.int .i64 ym.br,.slice A1 ym.pat.length c1,.int .i64 ym.a8,.int .i64 ym.fin,.int .i64 ym.aj,.slice A2 ym.ax.length c2,.int .i64 ym.result]:=by rw[eG];exact Row.new wr _ _
   have kW:=I F7;have da:=I (HB.o.below gf.o);rw[<-eG];clear eG z0 z1 z2 z3 z4 z5 z6 z7 q5;have p5:=λy:ar W1=>y.cell (F7.cell 5 _ rfl);have d0:=λy:ar W1=>y.cell (da.o.row.cell 0 _ rfl);have L9:=I (λy:ar W1=>M7.o y.val (gf.o.trans (y.ok.mono gf.o.size)));have eT:=I (λy:ar W1=>da.o.below y.ok);have mS:=I (λy:ar W1=>Ph.o.trans ((gf.o.trans (y.ok.mono gf.o.size)).mono (by omega)));clear F7;refine yY λx1=>?_;by_cases hc:ym.aj=b.day
   case neg=>
    have gm:(ym.aj !=b.day)=true:=by simp[hc]
    have HS:ag (kQ a (k+1)=b):=I (by rw[iG.o];exact pB Kl.o hc);refine ap (by kernel_rfl) (by kernel_rfl) ?_
    repeat (go_big_quiet_step (fail))
    refine wpQuiet_nil ?_;rintro _ ⟨u,rfl⟩;clear gm hc;go_wp2;go_roundw;case rel=>exact ⟨k+1,_,_,_,_,by go_num,by omega,by rw[HS.o];exact eT.o u,mS.o u⟩
    case measure=>simp[RowKit.intOf];omega
   have gm:(ym.aj !=b.day)=false:=by simp[hc]
   refine ap (by kernel_rfl) (by kernel_rfl) ?_
   repeat (go_big_quiet_step (fail))
   refine wpQuiet_nil ?_;rintro _ ⟨u,rfl⟩;obtain ⟨r,hr⟩: ∃r,r=lY b ym ym.ax:=⟨_,rfl⟩
   have lE:=I (pC Kl.o hc hr.symm);have Ts:=I (λy:ar W1=>Ci {b with ao:=[]} ym ym.ax At ct Ab cb Ac L4 A1 c1 A2 c2 ba 0 wr.heap.size 0 y.val (L9.o y) ((eT.o y).row.cell 1 _ rfl) ((eT.o y).row.cell 2 _ rfl) ((eT.o y).row.cell 3 _ rfl) ((eT.o y).row.cell 4 _ rfl) (y.cell (kW.o.cell 2 _ rfl)) (y.cell (kW.o.cell 3 _ rfl)) (y.cell (kW.o.cell 4 _ rfl)));rw[yR,<-hr]at Ts;have Vx:ag (r=1->fi b.base b.av (cM ym)=true):=I (λh=>wM (hr.symm.trans h));have HRG:ag (1<=r/\r<=4):=I (by rw[hr];exact wL _ _ _);have p6:=λy:ar W1=>y.cell (kW.o.cell 6 _ rfl);clear hr gm hc;go_wp2_with (fail);refine (aq (Ts.o u)).mono ?_;rintro e _ ⟨rfl,u2,rfl⟩;clear d0 p5 p6;by_cases h1:r=1
   ·have MY:(r==1)=true:=by simp[h1]
    rw[if_pos h1]at lE;have jS:=I (Vx.o h1);clear h1;have d3:=(eT.o u2).row.cell 3 _ rfl;have d4:=(eT.o u2).row.cell 4 _ rfl;go_upto_region 8 with (fail)
    obtain ⟨u3,P'⟩: ∃y:ar W1,y.val=u2.val.drew:=⟨⟨u2.val.drew,u2.ok.drew⟩,rfl⟩
    refine wp_region_held_drew (S:=λw'=>w'.cell? ⟨ba,3,none⟩=some (.slice Ab b.base.length cb)/\w'.cell? ⟨ba,4,none⟩=some (.slice Ac b.av.length L4)) (by kernel_rfl) (by rw[<-P'];exact ⟨(eT.o u3).row.cell 3 _ rfl,(eT.o u3).row.cell 4 _ rfl⟩) (λaE=>?_);rw[<-P']at aE⊢;clear P' d3 d4;have R5:=I (wA b.base b.av (cM ym) (.slice Ab b.base.length cb) (.slice Ac b.av.length L4) wr.heap.size 0 A1 c1 u3.val (L9.o u3).rs (L9.o u3).ra (L9.o u3).stat (L9.o u3).av (L9.o u3).act (u3.cell (kW.o.cell 2 _ rfl)) (u3.cell (kW.o.cell 3 _ rfl)) (u3.cell (kW.o.cell 4 _ rfl)) (L9.o u3).re);unfold iB at R5;refine aZ 0 ?_
    try simp only[Act.put,aK,aM]
    refine aZ 1 ?_
    try simp only[Act.put,aK,aM]
    refine aZ 2 ?_
    try simp only[Act.put,aK,aM]
    refine aZ 3 ?_
    try simp only[Act.put,aK,aM]
    refine aZ 4 ?_
    try simp only[Act.put,aK,aM]
    refine aZ 5 ?_
    try simp only[Act.put,aK,aM]
    refine aZ 6 ?_
    try simp only[Act.put,aK,aM]
    refine aZ 7 ?_
    try simp only[Act.put,aK,aM]
    refine wpAnyH_ready (rs:=[8]) (by kernel_rfl) (by simp) ?_;refine AllReadyH.cons rfl (λK hK=>?_) AllReadyH.nil
    try simp only[aK]
    go_simp;go_at_call 98;refine R5.o.mono ?_;rintro e w5 ⟨A5,n5,c5,rfl,KZ,zd⟩;obtain ⟨L5,rfl,Qa,KZ⟩:=KZ jS.o;have R6:=(eT.o u3).row.below zd (eT.o u3).lt;have g4:=R6.cell 4 _ rfl;have f4:=R6.free 4 (by simp);have g5:=R6.cell 5 _ rfl;refine hK.out _ _ ⟨R6.cell 3 _ rfl,g4⟩ (λau=>?_);clear hK K aE;have aE:=au;clear au
    try simp only[Act.put,aM]
    refine aZ 9 ?_
    try simp only[Act.put,aK,aM]
    refine aZ 10 ?_
    try simp only[Act.put,aK,aM]
    refine aZ 11 ?_
    try simp only[Act.put,aK,aM]
    refine aZ 12 ?_
    try simp only[Act.put,aK,aM]
    refine aZ 13 ?_
    try simp only[Act.put,aK,aM]
    refine wpAnyH_done (by kernel_rfl) ?_ _;clear aE;have RF:=I ((eT.o u3).sx zd KZ Qa);have ZP:ag (Below base w (w5.setCell ⟨ba,4,none⟩ (.slice A5 L5.length c5))):=I (((mS.o u3).trans (zd.mono (by have:=(eT.o u3).lt;omega))).setCell (p:=⟨ba,4,none⟩) j7 _);have G7:=I (RF.o.tE HM.o.get (congrArg (λn=>Value.slice (some ⟨g,0,none⟩) n L1) pO.o.symm) r);have Kr:=RF.o.sB HM.o.get rfl (i:=7) rfl;have m7:=Kr.1;have K5:=Kr.2;have Vy:ag (Below base w ((w5.setCell ⟨ba,4,none⟩ (.slice A5 L5.length c5)).setCell ⟨g,k*8+7,none⟩ (.int .i64 r))):=I (ZP.o.setCell (p:=⟨g,k*8+7,none⟩) kd _);clear Kr R6 zd KZ Qa;go_wp2;go_roundw;case rel=>exact ⟨k+1,_,_,_,_,by go_num,by omega,by rw[iG.o,lE.o];exact G7.o,Vy.o⟩
    case measure=>simp[RowKit.intOf];omega
   have MY:(r==1)=false:=by simp[h1]
   rw[if_neg h1]at lE;clear h1;have G7:=I ((eT.o u2).tE HM.o.get (congrArg (λn=>Value.slice (some ⟨g,0,none⟩) n L1) pO.o.symm) r);have Kr:=(eT.o u2).sB HM.o.get rfl (i:=7) rfl;have m7:=Kr.1;have K5:=Kr.2;have g5:=(eT.o u2).row.cell 5 _ rfl;have Vy:ag (Below base w (u2.val.setCell ⟨g,k*8+7,none⟩ (.int .i64 r))):=I ((mS.o u2).setCell (p:=⟨g,k*8+7,none⟩) kd _);clear Kr;go_wp2;go_roundw;case rel=>exact ⟨k+1,_,_,_,_,by go_num,by omega,by rw[iG.o,lE.o];exact G7.o,Vy.o⟩
   case measure=>simp[RowKit.intOf];omega
  have eA: ¬(k:Int)<(a.ao.length:Int):=by omega
  have Ew:k=a.ao.length:=by omega
  have LW:=I (Vw.o Ew);clear Ew;go_wp2;refine Go.Great.bodyPost_end0 rfl rfl ?_;exact ⟨rfl,⟨_,_,_,_,by rw[LW.o];exact HB.o⟩,Ph.o⟩
end Go.Proofs.YtbcggaldkihcaaaGreatDoor

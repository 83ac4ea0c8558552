/- The next day in an assembly of the call's own, with the blocks that stay; walked: the re.. -/
import Derived.Test.YtbcggaldkihcaaaGreatDoorZe
import Derived.Test.YtbcggaldkihcaaaGreatDoorZh
set_option maxHeartbeats 8000000
set_option maxRecDepth 100000
namespace Go.Proofs.YtbcggaldkihcaaaGreatDoor
open Tryz
open Go.RowKit Go.Lib
def W3 (Z:Nat->Prop) (w w':World):Prop:= ∀z,Z z->w'.heap[z]?=w.heap[z]?
theorem W3.of {Z:Nat->Prop} {w w':World} (hz: ∀z,Z z->z<w.heap.size) (hb:Below w.heap.size w w'):W3 Z w w':=λz h=>hb.block z (hz z h)
theorem W3.aD {Z F:Nat->Prop} {w W W':World} (h:W3 Z w W) (hz: ∀z,Z z->z<W.heap.size) (ht:Touch F W W') (hF: ∀z,Z z-> ¬F z):W3 Z w W':=λz hZ=>(ht.block z (hz z hZ) (hF z hZ)).trans (h z hZ)
theorem W3.below {Z:Nat->Prop} {w W W':World} (h:W3 Z w W) (hz: ∀z,Z z->z<W.heap.size) (hb:Below W.heap.size W W'):W3 Z w W':=λz hZ=>(hb.block z (hz z hZ)).trans (h z hZ)
theorem W3.nP {Z:Nat->Prop} {w W:World} {p:Addr} (h:W3 Z w W) (v:Value) (gm: ∀z,Z z->p.block≠z):W3 Z w (W.setCell p v):=λz hZ=>(Below.heap_setCell W p v z (Ne.symm (gm z hZ))).trans (h z hZ)
def aj0 (a:cp) (base ba:Nat) (Z:Nat->Prop) (w:World) (e:Ending) (w':World):Prop:=e= .returned (.tuple #[])/\ ∃x T C M,ck base ba w' x (pz a) T C M/\Below base w w'/\W3 Z w w'/\ ∀b,bz x (pz a) T C M b-> ¬Z b
theorem ab0 (a:cp) (x:cS) (T:List bR) (C:List bu) (M:List bH) (base ba:Nat) (w:World) (hB:ck base ba w x a T C M) (hF:dJ a) (hd:a.day<999) (Z:Nat->Prop) (uR: ∀z,Z z->z<w.heap.size) (zc: ¬Z ba) (xl: ∀b,bz x a T C M b-> ¬Z b):Calls prog 76 #[.pointer (some ⟨ba,0,none⟩)] w (aj0 a base ba Z w):=by
 have ZO:=hF.d0;have c0:=hB.row.cell 0 _ rfl;have f0:=hB.row.free 0 (by simp);have j7:=hB.bb;have jT:ag (ck base ba (w.setCell ⟨ba,0,none⟩ (.int .i64 (a.day+1))) x (kQ a 0) T C M):=I (hB.Ko (a.day+1));have Kp:ag (Below base w (w.setCell ⟨ba,0,none⟩ (.int .i64 (a.day+1)))):=I ((Below.refl _ _).setCell j7 _);have Zu:ag (W3 Z w (w.setCell ⟨ba,0,none⟩ (.int .i64 (a.day+1)))):=I ((W3.of uR (Below.refl _ _)).nP _ (λz hz e=>zc (by show Z ba;rw[show ba=z from e];exact hz)));have G9:=I xl;have oA:=I uR;have HZB:=I zc;clear xl uR zc;have HF:=I hF;have h6:=hF.ok.m6;unfold aj0;clear hB hF;go_enter func76,ntmps76;go_wp2;go_loopw [2] (λi wr=> ∃(k:Nat) (x:cS) (T:List bR) (C:List bu) (M:List bH),i= .int .i64 (k:Int)/\k<=a.ao.length/\ck base ba wr x (kQ a k) T C M/\Below base w wr/\W3 Z w wr/\(∀b,bz x (kQ a k) T C M b-> ¬Z b)/\w.heap.size<=wr.heap.size) (λi _=>a.ao.length-(RowKit.intOf i).toNat);case atStart=>exact ⟨0,x,T,C,M,rfl,Nat.zero_le _,jT.o,Kp.o,Zu.o,G9.o,by simp[World.setCell]⟩
 case round=>
  clear c0 f0 jT Kp Zu G9;obtain ⟨k,x,T,C,M,rfl,hk,hB,hb,Mk,RH,LF⟩:=hrel;have HI:=I (uQ HF.o k hk);have iG:ag (kQ a (k+1)=mh (kQ a k) k):=I rfl;have Vw:ag (k=a.ao.length->pz a=kQ a k):=I (λe=>by unfold pz;rw[e]);generalize kQ a k=b at*;obtain ⟨At,ct,Ab,cb,Ac,L4,Am,L1,rfl⟩:=hB.own.o.r.slices;rw[HI.o.len]at hB;have HB:=I hB;have ja:=hb.size;have j7:=hB.bb;have bD:=hB.lt;have Ph:=I hb;have Kf:=I Mk;rw[HI.o.len]at RH;have UD:=I RH;clear Mk RH;have q5:=hB.row.cell 5 _ rfl;by_cases aI:k<a.ao.length
  ·have aH:a.ao[k]?=some a.ao[k]:=List.getElem?_eq_getElem aI;have wR:b.ao[k]?=some a.ao[k]:=(HI.o.rest k (Nat.le_refl _)).trans aH;obtain ⟨g,cap,y,A1,c1,A2,c2,hM,kd,qp⟩:=hB.ko wR;have Ol:=I hM.P9;have bi:=hM.row;rw[hB.G5,HI.o.len]at bi;injection bi with e1 _ e3
   subst e1 e3;have pO:=I (hB.G5.trans HI.o.len);have Pj:=hM.p;have Pk:=hM.t;have J6:=a.ao[k];have HG:=I aH;have Kl:=I wR;clear aH wR J6;generalize a.ao[k]=m at*;obtain ⟨ym,yp,yt⟩:=y;have Kq:ym=m:=Ol.o;subst Kq;have Pj:yp= .slice A1 ym.pat.length c1:=Pj;have Pk:yt= .slice A2 ym.ax.length c2:=Pk;subst Pj Pk;have HM:=I hM;have z0:wr.cell? ⟨g,k*8,none⟩=some (.string ym.al):=(hM.cell 0 _ rfl).1;have z1:=(hM.cell 1 _ rfl).1;have z2:=(hM.cell 2 _ rfl).1;have z3:=(hM.cell 3 _ rfl).1;have z4:=(hM.cell 4 _ rfl).1;have z5:=(hM.cell 5 _ rfl).1;have z6:=(hM.cell 6 _ rfl).1;have z7:=(hM.cell 7 _ rfl).1;have M7:=I (λ(W':World) (dF:Below wr.heap.size wr W')=>ck.Xc (HB.o.below dF) HI.o HF.o HG.o rfl rfl rfl (cz.on HM.o.fF (Pl.stays _) dF dF.size) (cz.on HM.o.ints (Pl.stays _) dF dF.size));have rc:(k:Int)<(a.ao.length:Int):=by omega
   have H0:(0:Int)<=(k:Int):=Int.natCast_nonneg _;clear hM hB hb qp;go_upto_region 5 with (fail)
   obtain ⟨W1,eG⟩: ∃X,X=wr.alloc (.cells #[.string ym.al,.int .i64 ym.br,.slice A1 ym.pat.length c1,.int .i64 ym.a8,.int .i64 ym.fin,.int .i64 ym.aj,.slice A2 ym.ax.length c2,.int .i64 ym.result] 119):=⟨_,rfl⟩
   have gf:ag (Below wr.heap.size wr W1):=I (by rw[eG];exact (Below.refl _ _).alloc (Nat.le_refl _) _);have F7:Row W1 wr.heap.size [.string ym.al,.int .i64 ym.br,.slice A1 ym.pat.length c1,.int .i64 ym.a8,.int .i64 ym.fin,.int .i64 ym.aj,.slice A2 ym.ax.length c2,.int .i64 ym.result]:=by rw[eG];exact Row.new wr _ _
   have kW:=I F7;have da:=I (HB.o.below gf.o);rw[<-eG];clear eG z0 z1 z2 z3 z4 z5 z6 z7 q5;have p5:=λy:ar W1=>y.cell (F7.cell 5 _ rfl);have d0:=λy:ar W1=>y.cell (da.o.row.cell 0 _ rfl);have L9:=I (λy:ar W1=>M7.o y.val (gf.o.trans (y.ok.mono gf.o.size)));have eT:=I (λy:ar W1=>da.o.below y.ok);have mS:=I (λy:ar W1=>Ph.o.trans ((gf.o.trans (y.ok.mono gf.o.size)).mono (by omega)));have Yu:=I (λy:ar W1=>Kf.o.below (λz hz=>by have:=oA.o z hz;omega) (gf.o.trans (y.ok.mono gf.o.size)));have HSY:ag (∀y:ar W1,w.heap.size<=y.val.heap.size):=I (λy=>by have:=gf.o.size;have:=y.ok.size;omega);have HGZ:ag (¬Z g):=I (UD.o g (.inr (.inr (.inr (HB.o.own.jX rfl)))));clear F7;refine yY λx1=>?_;by_cases hc:ym.aj=b.day
   case neg=>
    have gm:(ym.aj !=b.day)=true:=by simp[hc]
    have HS:ag (kQ a (k+1)=b):=I (by rw[iG.o];exact pB Kl.o hc);refine ap (by kernel_rfl) (by kernel_rfl) ?_
    repeat (go_big_quiet_step (fail))
    refine wpQuiet_nil ?_;rintro _ ⟨u,rfl⟩;clear gm hc;go_wp2;go_roundw;case rel=>exact ⟨k+1,_,_,_,_,by go_num,by omega,by rw[HS.o];exact eT.o u,mS.o u,Yu.o u,by rw[HS.o];exact UD.o,HSY.o u⟩
    case measure=>simp[RowKit.intOf];omega
   have gm:(ym.aj !=b.day)=false:=by simp[hc]
   refine ap (by kernel_rfl) (by kernel_rfl) ?_
   repeat (go_big_quiet_step (fail))
   refine wpQuiet_nil ?_;rintro _ ⟨u,rfl⟩;obtain ⟨r,hr⟩: ∃r,r=lY b ym ym.ax:=⟨_,rfl⟩
   have lE:=I (pC Kl.o hc hr.symm);have Ts:=I (λy:ar W1=>Ci {b with ao:=[]} ym ym.ax At ct Ab cb Ac L4 A1 c1 A2 c2 ba 0 wr.heap.size 0 y.val (L9.o y) ((eT.o y).row.cell 1 _ rfl) ((eT.o y).row.cell 2 _ rfl) ((eT.o y).row.cell 3 _ rfl) ((eT.o y).row.cell 4 _ rfl) (y.cell (kW.o.cell 2 _ rfl)) (y.cell (kW.o.cell 3 _ rfl)) (y.cell (kW.o.cell 4 _ rfl)));rw[yR,<-hr]at Ts;have Vx:ag (r=1->fi b.base b.av (cM ym)=true):=I (λh=>wM (hr.symm.trans h));have HRG:ag (1<=r/\r<=4):=I (by rw[hr];exact wL _ _ _);have p6:=λy:ar W1=>y.cell (kW.o.cell 6 _ rfl);clear hr gm hc;go_wp2_with (fail);refine (aq (Ts.o u)).mono ?_;rintro e _ ⟨rfl,u2,rfl⟩;clear d0 p5 p6;by_cases h1:r=1
   ·have MY:(r==1)=true:=by simp[h1]
    rw[if_pos h1]at lE;have jS:=I (Vx.o h1);clear h1;have d3:=(eT.o u2).row.cell 3 _ rfl;have d4:=(eT.o u2).row.cell 4 _ rfl;go_upto_region 8 with (fail)
    obtain ⟨u3,P'⟩: ∃y:ar W1,y.val=u2.val.drew:=⟨⟨u2.val.drew,u2.ok.drew⟩,rfl⟩
    refine wp_region_held_drew (S:=λw'=>w'.cell? ⟨ba,3,none⟩=some (.slice Ab b.base.length cb)/\w'.cell? ⟨ba,4,none⟩=some (.slice Ac b.av.length L4)) (by kernel_rfl) (by rw[<-P'];exact ⟨(eT.o u3).row.cell 3 _ rfl,(eT.o u3).row.cell 4 _ rfl⟩) (λaE=>?_);rw[<-P']at aE⊢;clear P' d3 d4;have R5:=I (wA b.base b.av (cM ym) (.slice Ab b.base.length cb) (.slice Ac b.av.length L4) wr.heap.size 0 A1 c1 u3.val (L9.o u3).rs (L9.o u3).ra (L9.o u3).stat (L9.o u3).av (L9.o u3).act (u3.cell (kW.o.cell 2 _ rfl)) (u3.cell (kW.o.cell 3 _ rfl)) (u3.cell (kW.o.cell 4 _ rfl)) (L9.o u3).re);unfold iB at R5;refine aZ 0 ?_
    try simp only[Act.put,aK,aM]
    refine aZ 1 ?_
    try simp only[Act.put,aK,aM]
    refine aZ 2 ?_
    try simp only[Act.put,aK,aM]
    refine aZ 3 ?_
    try simp only[Act.put,aK,aM]
    refine aZ 4 ?_
    try simp only[Act.put,aK,aM]
    refine aZ 5 ?_
    try simp only[Act.put,aK,aM]
    refine aZ 6 ?_
    try simp only[Act.put,aK,aM]
    refine aZ 7 ?_
    try simp only[Act.put,aK,aM]
    refine wpAnyH_ready (rs:=[8]) (by kernel_rfl) (by simp) ?_;refine AllReadyH.cons rfl (λK hK=>?_) AllReadyH.nil
    try simp only[aK]
    go_simp;go_at_call 98;refine R5.o.mono ?_;rintro e w5 ⟨A5,n5,c5,rfl,KZ,zd⟩;obtain ⟨L5,rfl,Qa,KZ⟩:=KZ jS.o;have R6:=(eT.o u3).row.below zd (eT.o u3).lt;have g4:=R6.cell 4 _ rfl;have f4:=R6.free 4 (by simp);have g5:=R6.cell 5 _ rfl;refine hK.out _ _ ⟨R6.cell 3 _ rfl,g4⟩ (λau=>?_);clear hK K aE;have aE:=au;clear au
    try simp only[Act.put,aM]
    refine aZ 9 ?_
    try simp only[Act.put,aK,aM]
    refine aZ 10 ?_
    try simp only[Act.put,aK,aM]
    refine aZ 11 ?_
    try simp only[Act.put,aK,aM]
    refine aZ 12 ?_
    try simp only[Act.put,aK,aM]
    refine aZ 13 ?_
    try simp only[Act.put,aK,aM]
    refine wpAnyH_done (by kernel_rfl) ?_ _;clear aE;have RF:=I ((eT.o u3).sx zd KZ Qa);have ZP:ag (Below base w (w5.setCell ⟨ba,4,none⟩ (.slice A5 L5.length c5))):=I (((mS.o u3).trans (zd.mono (by have:=(eT.o u3).lt;omega))).setCell (p:=⟨ba,4,none⟩) j7 _);have G7:=I (RF.o.tE HM.o.get (congrArg (λn=>Value.slice (some ⟨g,0,none⟩) n L1) pO.o.symm) r);have Kr:=RF.o.sB HM.o.get rfl (i:=7) rfl;have m7:=Kr.1;have K5:=Kr.2;have Vy:ag (Below base w ((w5.setCell ⟨ba,4,none⟩ (.slice A5 L5.length c5)).setCell ⟨g,k*8+7,none⟩ (.int .i64 r))):=I (ZP.o.setCell (p:=⟨g,k*8+7,none⟩) kd _);have h35:=zd.size
    have HF5:ag (∀b',bz _ _ _ _ _ b'-> ¬Z b'):=I (λb' dF=>by
     rcases (dM.sx (eT.o u3).own zd KZ Qa (by have:=(eT.o u3).lt;omega)).2 b' dF with q|q
     ·exact UD.o b' q
     exact λhz=>by have q2:=oA.o b' hz;have q3:=HSY.o u3;omega)
    have HF6:ag (∀b',bz _ _ _ _ _ b'-> ¬Z b'):=I (λb' dF=>HF5.o b' (((dM.tE RF.o.own HM.o.get (congrArg (λn=>Value.slice (some ⟨g,0,none⟩) n L1) pO.o.symm) r).2 b').1 dF));have Z2:ag (W3 Z w ((w5.setCell ⟨ba,4,none⟩ (.slice A5 L5.length c5)).setCell ⟨g,k*8+7,none⟩ (.int .i64 r))):=I ((((Yu.o u3).below (λz hz=>by have:=oA.o z hz;have:=HSY.o u3;omega) zd).nP (p:=⟨ba,4,none⟩) _ (λz hz e=>HZB.o (by rw[show ba=z from e];exact hz))).nP (p:=⟨g,k*8+7,none⟩) _ (λz hz e=>HGZ.o (by rw[show g=z from e];exact hz)));have Vd:ag (w.heap.size<=((w5.setCell ⟨ba,4,none⟩ (.slice A5 L5.length c5)).setCell ⟨g,k*8+7,none⟩ (.int .i64 r)).heap.size):=I (by have:=HSY.o u3;simp[World.setCell];omega);clear Kr R6 zd KZ Qa;go_wp2;go_roundw;case rel=>exact ⟨k+1,_,_,_,_,by go_num,by omega,by rw[iG.o,lE.o];exact G7.o,Vy.o,Z2.o,by rw[iG.o,lE.o];exact HF6.o,Vd.o⟩
    case measure=>simp[RowKit.intOf];omega
   have MY:(r==1)=false:=by simp[h1]
   rw[if_neg h1]at lE;clear h1;have G7:=I ((eT.o u2).tE HM.o.get (congrArg (λn=>Value.slice (some ⟨g,0,none⟩) n L1) pO.o.symm) r);have Kr:=(eT.o u2).sB HM.o.get rfl (i:=7) rfl;have m7:=Kr.1;have K5:=Kr.2;have g5:=(eT.o u2).row.cell 5 _ rfl;have Vy:ag (Below base w (u2.val.setCell ⟨g,k*8+7,none⟩ (.int .i64 r))):=I ((mS.o u2).setCell (p:=⟨g,k*8+7,none⟩) kd _);have HF6:ag (∀b',bz _ _ _ _ _ b'-> ¬Z b'):=I (λb' dF=>UD.o b' (((dM.tE (eT.o u2).own HM.o.get (congrArg (λn=>Value.slice (some ⟨g,0,none⟩) n L1) pO.o.symm) r).2 b').1 dF));have Z2:ag (W3 Z w (u2.val.setCell ⟨g,k*8+7,none⟩ (.int .i64 r))):=I ((Yu.o u2).nP (p:=⟨g,k*8+7,none⟩) _ (λz hz e=>HGZ.o (by rw[show g=z from e];exact hz)));have Vd:ag (w.heap.size<=(u2.val.setCell ⟨g,k*8+7,none⟩ (.int .i64 r)).heap.size):=I (by have:=HSY.o u2;simpa [World.setCell]using this);clear Kr;go_wp2;go_roundw;case rel=>exact ⟨k+1,_,_,_,_,by go_num,by omega,by rw[iG.o,lE.o];exact G7.o,Vy.o,Z2.o,by rw[iG.o,lE.o];exact HF6.o,Vd.o⟩
   case measure=>simp[RowKit.intOf];omega
  have eA: ¬(k:Int)<(a.ao.length:Int):=by omega
  have Ew:k=a.ao.length:=by omega
  have LW:=I (Vw.o Ew);clear Ew;go_wp2;refine Go.Great.bodyPost_end0 rfl rfl ?_;exact ⟨rfl,_,_,_,_,by rw[LW.o];exact HB.o,Ph.o,Kf.o,by rw[LW.o];exact UD.o⟩
end Go.Proofs.YtbcggaldkihcaaaGreatDoor

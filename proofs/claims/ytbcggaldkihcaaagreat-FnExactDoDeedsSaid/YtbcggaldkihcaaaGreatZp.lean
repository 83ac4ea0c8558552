/- A motion proposed, walked: the program's. -/
import Derived.Test.YtbcggaldkihcaaaGreatZk
set_option maxHeartbeats 16000000
set_option maxRecDepth 100000
namespace Go.Proofs.YtbcggaldkihcaaaGreat
open Tryz
open Go.RowKit Go.Lib
theorem EE {p:Prop} (h:p:=by
 have Ki:ag (∀b,cx d.patch (.slice A7 d.patch.length c7) b-> ¬cx (List.replicate a.af.length (0:Int)) (.slice (some ⟨nk,0,none⟩) a.af.length a.af.length) b):=I (λb hb cL=>by have q:=uF.o b hb;have e1:some nk=some b:=cL.2;injection e1 with e1;omega);refine eS 20 (λ_=>dl.o _ fL) ?_
 try simp only[Act.put,aK,aM]
 refine cV 21 (λK hK=>?_)
 try simp only[aK]
 go_simp;obtain ⟨V9,Tx⟩: ∃X,X=V3.alloc (.cells #[.string d.al,.int .i64 (j:Int),.slice A7 d.patch.length c7,.int .i64 d.start,.int .i64 d.aB,.int .i64 d.aj,.slice (some ⟨nk,0,none⟩) a.af.length a.af.length,.int .i64 0] 35):=⟨_,rfl⟩
 have b9:Below V3.heap.size V3 V9:=by rw[Tx];exact (aae _ _).alloc (aad _) _
 have Kw:Below U.heap.size U V9:=fL.trans (b9.mono fL.size);have L8:ag (∀j' u,(cK ⟨⟨d.al,(j:Int),d.patch,d.start,d.aB,d.aj,List.replicate a.af.length 0,0⟩,.slice A7 d.patch.length c7,.slice (some ⟨nk,0,none⟩) a.af.length a.af.length⟩)[j']?=some u->V9.cell? ((⟨V3.heap.size,0,none⟩:Addr).add j')=some u):=I (λj' u hj=>by rw[Tx];exact fS hj);rw[<-Tx];clear Tx;have G4:=I (mz.o.below Kw).own.mr;have HI:ag (cX.fa U.heap.size V9 (⟨⟨d.al,(j:Int),d.patch,d.start,d.aB,d.aj,List.replicate a.af.length 0,0⟩,.slice A7 d.patch.length c7,.slice (some ⟨nk,0,none⟩) a.af.length a.af.length⟩:bH)):=I ⟨dz.o.on b9,fz.o.on b9,λb h1 h2=>Ki.o b h1 h2⟩;have aaa:U.heap.size<=V9.heap.size:=Kw.size;refine hK.out _ _ (λ_=>dl.o _ Kw) ?_;clear hK K
 try simp only[Act.put,aM]
 refine cV 22 (λK hK=>?_)
 try simp only[aK]
 refine iA (by rfl) _ _ 27 (by rfl) base 35 m0 (.agg #[.string ⟨#[]⟩,.int .i64 0,.slice none 0 0,.int .i64 0,.int .i64 0,.int .i64 0,.slice none 0 0,.int .i64 0]) 8 104 underlying27 vL An EU EV rfl (by decide) _ _ _ (by rfl) G4.o ⟨V3.heap.size,0,none⟩ 1 1 (cK ⟨⟨d.al,(j:Int),d.patch,d.start,d.aB,d.aj,List.replicate a.af.length 0,0⟩,.slice A7 d.patch.length c7,.slice (some ⟨nk,0,none⟩) a.af.length a.af.length⟩) (by rfl) (by rfl) L8.o (λu hu=>sz rfl rfl hu) (by have q:=pO.o;unfold maxLen;omega) (by have q:=pO.o;omega) (by omega) ?_;intro v' w9 aG aA aU iH;have nm:v'≠ .slice none 0 0:=by simpa using aU
 have HR:ag (ck base w0.heap.size (w9.setCell ⟨w0.heap.size,5,none⟩ v') ⟨.slice At a.af.length ct,.slice Ab a.base.length cb,.slice Ac a.av.length cc,v'⟩ {a with ao:=a.ao++[⟨d.al,(j:Int),d.patch,d.start,d.aB,d.aj,List.replicate a.af.length 0,0⟩]} T C (M++[⟨⟨d.al,(j:Int),d.patch,d.start,d.aB,d.aj,List.replicate a.af.length 0,0⟩,.slice A7 d.patch.length c7,.slice (some ⟨nk,0,none⟩) a.af.length a.af.length⟩])):=I (mz.o.Ng Kw HI.o aA iH aG);have h9:=(dM.push (mz.o.below Kw).own aA iH aG HI.o (λb j7=>mz.o.O6 b j7) (by omega) Kw.size).2
 have Sf:ag (∀b,bz ⟨.slice At a.af.length ct,.slice Ab a.base.length cb,.slice Ac a.av.length cc,v'⟩ {a with ao:=a.ao++[⟨d.al,(j:Int),d.patch,d.start,d.aB,d.aj,List.replicate a.af.length 0,0⟩]} T C (M++[⟨⟨d.al,(j:Int),d.patch,d.start,d.aB,d.aj,List.replicate a.af.length 0,0⟩,.slice A7 d.patch.length c7,.slice (some ⟨nk,0,none⟩) a.af.length a.af.length⟩]) b->b≠w0.heap.size+2):=I (λb hb e=>by
  rcases h9 b hb with q|q
  ·have:=uG.o b q;omega
  omega)
 have Hr:ag (∀b,bz ⟨.slice At a.af.length ct,.slice Ab a.base.length cb,.slice Ac a.av.length cc,v'⟩ {a with ao:=a.ao++[⟨d.al,(j:Int),d.patch,d.start,d.aB,d.aj,List.replicate a.af.length 0,0⟩]} T C (M++[⟨⟨d.al,(j:Int),d.patch,d.start,d.aB,d.aj,List.replicate a.af.length 0,0⟩,.slice A7 d.patch.length c7,.slice (some ⟨nk,0,none⟩) a.af.length a.af.length⟩]) b-> ¬Z b):=I (λb hb e=>by
  rcases h9 b hb with q|q
  ·exact G9.o b q e
  have:=oA.o b e;omega)
 have uC:=mz.o.Cm Kw aA;have S1: ∀b,(Value.slice Am a.ao.length cm).ownBlock=some b->b<w0.heap.size:=λb e=>uG.o b (.inr (.inr (.inr (mz.o.own.jX e))));have Xr: ∀b,(Value.slice Am a.ao.length cm).ownBlock=some b-> ¬Z b:=λb e=>G9.o b (.inr (.inr (.inr (mz.o.own.jX e))));have KW:=Touch.aW (F:=λb=>(Value.slice Am a.ao.length cm).ownBlock=some b) aA (λb hb=>hb);have Xs:Row w9 (w0.heap.size+1) [.int .i64 d.kind,.int .i64 d.member,.slice A1 d.af.length c1,.string d.al,.int .i64 d.bO,.slice A2 d.patch.length c2,.int .i64 d.start,.int .i64 d.aB,.int .i64 d.aj]:=(Xt.o.below Kw (by omega)).aD (by omega) KW (λe=>by have:=S1 _ e;omega);have Xu:Row w9 (w0.heap.size+2) [.int .i64 0,.int .i64 0,.slice none 0 0,.slice none 0 0,.slice none 0 0,.slice none 0 0]:=(HZU.o.below Kw (by omega)).aD (by omega) KW (λe=>by have:=S1 _ e;omega);have Qf:=I (KP.o _ uC Xs);have Sg:ag (iY Z w0 (w9.setCell ⟨w0.heap.size,5,none⟩ v')):=I (((HVU.o.below (λz hz=>by have:=oA.o z hz;omega) Kw).aD (λz hz=>by have:=oA.o z hz;omega) KW (λz hz e=>Xr z e hz)).nP (p:=⟨w0.heap.size,5,none⟩) _ (λz hz=>by have:=oA.o z hz;show w0.heap.size≠z;omega));have nZ:ag (Row (w9.setCell ⟨w0.heap.size,5,none⟩ v') (w0.heap.size+2) [.int .i64 0,.int .i64 0,.slice none 0 0,.slice none 0 0,.slice none 0 0,.slice none 0 0]):=I (Xu.nP (p:=⟨w0.heap.size,5,none⟩) _ (by show w0.heap.size≠_;omega));have HL:ag (Below base w0 (w9.setCell ⟨w0.heap.size,5,none⟩ v')):=I (((VN.o.trans (Kw.mono (by omega))).grown aA (by omega) (λj hj=>by have q:=(G4.o.lt j hj).1;omega)).setCell (by show base<=w0.heap.size;omega) _);have Hd:w.heap.size<=(w9.setCell ⟨w0.heap.size,5,none⟩ v').heap.size:=by have q:=aA.size;simp[World.setCell];omega
 have s5:=uC.cell 5 _ rfl;have f5:=uC.free 5 (by simp);obtain ⟨g9,gM,rfl,_,_⟩:=bG aG nm;clear aG aA aU iH nm uC Xs Xu h9 KW S1 Xr;refine hK.out _ _ (λ_=>Qf.o) ?_;clear hK K
 try simp only[Act.put,aM]
 refine eS 23 (λ_=>Qf.o) ?_
 try simp only[Act.put,aK,aM]
 refine cV 24 (λK hK=>?_)
 try simp only[aK]
 go_simp;refine hK.out _ _ (λh=>by simp at h) ?_;clear hK K
 try simp only[Act.put,aM]
 clear s5 f5;refine dh (by kernel_rfl) ?_ _;have r0:=nZ.o.cell 0 _ rfl;have r1:=nZ.o.cell 1 _ rfl;have r2:=nZ.o.cell 2 _ rfl;have r3:=nZ.o.cell 3 _ rfl;have r4:=nZ.o.cell 4 _ rfl;have r5:=nZ.o.cell 5 _ rfl;have s0:=nZ.o.free 0 (by simp);have s1:=nZ.o.free 1 (by simp);have s2:=nZ.o.free 2 (by simp);have s3:=nZ.o.free 3 (by simp);have s4:=nZ.o.free 4 (by simp);have s5:=nZ.o.free 5 (by simp);have q0:=HR.o.row.cell 0 _ rfl;have q1:=HR.o.row.cell 1 _ rfl;have q2:=HR.o.row.cell 2 _ rfl;have q3:=HR.o.row.cell 3 _ rfl;have q4:=HR.o.row.cell 4 _ rfl;have q5:=HR.o.row.cell 5 _ rfl;go_wp2
 have gD: ∀(ac:Go.Act) (w':World),ac.tmps[4]?=some (.pointer (some ⟨(w0.heap.size+2),0,none⟩))->ac.tmps[5]?=some (.bool true)->w'.cell? ⟨(w0.heap.size+2),0,none⟩=some (.int .i64 a.day)->w'.cell? ⟨(w0.heap.size+2),1,none⟩=some (.int .i64 a.rule)->w'.cell? ⟨(w0.heap.size+2),2,none⟩=some (.slice At a.af.length ct)->w'.cell? ⟨(w0.heap.size+2),3,none⟩=some (.slice Ab a.base.length cb)->w'.cell? ⟨(w0.heap.size+2),4,none⟩=some (.slice Ac a.av.length cc)->w'.cell? ⟨(w0.heap.size+2),5,none⟩=some (.slice (some ⟨g9,0,none⟩) (M.length+1) gM)->(results f55 ac.tmps).run prog w'= .ok (.tuple #[.agg #[.int .i64 a.day,.int .i64 a.rule,.slice At a.af.length ct,.slice Ab a.base.length cb,.slice Ac a.av.length cc,.slice (some ⟨g9,0,none⟩) (M.length+1) gM],.bool true]) w':=by
  intro ac w' ha hf nB nC nE ob oc od;simp[results,results55,go_sem,ha,hf,nB,nC,nE,ob,oc,od]
 refine aaT (gD _ _ rfl rfl (by simp[go_sem,r0]) (by simp[go_sem,r1]) (by simp[go_sem,r2]) (by simp[go_sem,r3]) (by simp[go_sem,r4]) (by simp[go_sem,r5])) rfl ?_;refine ⟨{a with ao:=a.ao++[⟨d.al,(j:Int),d.patch,d.start,d.aB,d.aj,List.replicate a.af.length 0,0⟩]},⟨.slice At a.af.length ct,.slice Ab a.base.length cb,.slice Ac a.av.length cc,.slice (some ⟨g9,0,none⟩) (M.length+1) gM⟩,rfl,⟨_,_,_,_,_,_,_,_,_,_,_,_,rfl⟩,?_,?_,?_,by simp[World.setCell]at Hd⊢;omega⟩
 ·intro c hc;injection hc with hc
  subst hc;refine ⟨rfl,_,_,_,HR.o.own.aD (F:=λb=>b=w0.heap.size+2) ?_ (λb hb e=>Sf.o b hb e),Hr.o⟩
  iterate 6 refine Touch.setCell (F:=λb=>b=w0.heap.size+2) ?_ rfl _
  exact Touch.refl _ _
 ·refine HL.o.trans (Touch.below (F:=λb=>b=w0.heap.size+2) ?_ (by omega) (λb e=>by omega))
  iterate 6 refine Touch.setCell (F:=λb=>b=w0.heap.size+2) ?_ rfl _
  exact Touch.refl _ _
 ·refine Sg.o.aD (F:=λb=>b=w0.heap.size+2) (λz hz=>by have:=oA.o z hz;omega) ?_ (λz hz e=>by have:=oA.o z hz;omega)
  iterate 6 refine Touch.setCell (F:=λb=>b=w0.heap.size+2) ?_ rfl _
  exact Touch.refl _ _
 ):p:=h
theorem Pv (a:cp) (d:dr) (x:cS) (T:List bR) (C:List bu) (M:List bH) (base:Nat) (A1:Option Addr) (c1:Nat) (A2:Option Addr) (c2:Nat) (w0:World) (hA:dM base w0 x a T C M) (hF:dJ a) (dC:base<=w0.heap.size) (hd:cA d=true)
 (hT:Ints w0 w0.heap.size (.slice A1 d.af.length c1) d.af) (hP:bg w0 w0.heap.size (.slice A2 d.patch.length c2) d.patch) (hS:bS d.patch) (kJ:d.al.size<=maxLen) (Z:Nat->Prop) (uR: ∀z,Z z->z<w0.heap.size) (xl: ∀b,bz x a T C M b-> ¬Z b) (hk:d.kind=3):
 Calls prog 55 #[eu a x,gw d A1 c1 A2 c2] w0 (Ks a (mW a d) base Z w0):=by
 have sG:=eZ (tI hd hk).2.2.1;have oz:=I sG;clear sG;obtain ⟨At,ct,Ab,cb,Ac,cc,Am,cm,rfl⟩:=hA.o.r.slices;obtain ⟨W0,ku⟩: ∃W:World,W=w0.alloc (.cells #[.int .i64 a.day,.int .i64 a.rule,.slice At a.af.length ct,.slice Ab a.base.length cb,.slice Ac a.av.length cc,.slice Am a.ao.length cm] 29):=⟨_,rfl⟩
 obtain ⟨W1,eG⟩: ∃W:World,W=W0.alloc (.cells #[.int .i64 d.kind,.int .i64 d.member,.slice A1 d.af.length c1,.string d.al,.int .i64 d.bO,.slice A2 d.patch.length c2,.int .i64 d.start,.int .i64 d.aB,.int .i64 d.aj] 48):=⟨_,rfl⟩
 obtain ⟨w,hW⟩: ∃W:World,W=W1.alloc (.cells #[.int .i64 0,.int .i64 0,.slice none 0 0,.slice none 0 0,.slice none 0 0,.slice none 0 0] 29):=⟨_,rfl⟩
 have b0:Below w0.heap.size w0 W0:=by rw[ku];exact (aae _ _).alloc (aad _) _
 have s0:W0.heap.size=w0.heap.size+1:=by rw[ku];simp
 have b1:Below W0.heap.size W0 W1:=by rw[eG];exact (aae _ _).alloc (aad _) _
 have s1:W1.heap.size=w0.heap.size+2:=by rw[eG];simp[s0]
 have b2:Below W1.heap.size W1 w:=by rw[hW];exact (aae _ _).alloc (aad _) _
 have s2:w.heap.size=w0.heap.size+3:=by rw[hW];simp[s1]
 have tM:Below W0.heap.size W0 w:=b1.trans (b2.mono b1.size);have bW:Below w0.heap.size w0 w:=b0.trans (tM.mono b0.size);have HZ:ag (Row w (w0.heap.size+2) [.int .i64 0,.int .i64 0,.slice none 0 0,.slice none 0 0,.slice none 0 0,.slice none 0 0]):=I (by rw[hW,<-s1];exact Row.new W1 _ _);have hB:ck base w0.heap.size w ⟨.slice At a.af.length ct,.slice Ab a.base.length cb,.slice Ac a.av.length cc,.slice Am a.ao.length cm⟩ a T C M:=ck.of hA bW ((show Row W0 w0.heap.size _ by rw[ku];exact Row.new w0 _ _).below tM (by omega)) (by omega) dC;have hD:fp w (w0.heap.size+1) 0 d A1 c1 A2 c2:=fp.row ((show Row W1 (w0.heap.size+1) _ by rw[eG,<-s0];exact Row.new W0 _ _).below b2 (by omega)) (hT.on (Pl.stays _) bW bW.size) (hP.on (Pl.stays _) bW bW.size) hS kJ;have CK:ag (Row w (w0.heap.size+1) [.int .i64 d.kind,.int .i64 d.member,.slice A1 d.af.length c1,.string d.al,.int .i64 d.bO,.slice A2 d.patch.length c2,.int .i64 d.start,.int .i64 d.aB,.int .i64 d.aj]):=I ((show Row W1 (w0.heap.size+1) _ by rw[eG,<-s0];exact Row.new W0 _ _).below b2 (by omega));have uG:ag (∀b,bz ⟨.slice At a.af.length ct,.slice Ab a.base.length cb,.slice Ac a.av.length cc,.slice Am a.ao.length cm⟩ a T C M b->b<w0.heap.size):=I (λb hb=>(hA.o.lt hb).2);have Mi:ag (iY Z w0 w):=I (iY.of uR bW);have oA:=I uR;have G9:=I xl;have Tv:=I (hA.below bW);have gf:=I bW;have lV:=I (show ((w0.alloc (.cells #[.int .i64 a.day,.int .i64 a.rule,.slice At a.af.length ct,.slice Ab a.base.length cb,.slice Ac a.av.length cc,.slice Am a.ao.length cm] 29)).alloc (.cells #[.int .i64 d.kind,.int .i64 d.member,.slice A1 d.af.length c1,.string d.al,.int .i64 d.bO,.slice A2 d.patch.length c2,.int .i64 d.start,.int .i64 d.aB,.int .i64 d.aj] 48)).alloc (.cells #[.int .i64 0,.int .i64 0,.slice none 0 0,.slice none 0 0,.slice none 0 0,.slice none 0 0] 29)=w by rw[hW,eG,ku]);have lr:=I s2;clear uR xl hA hT hP hS kJ hW ku eG b0 b1 b2 tM bW s0 s1;have sw:w0.heap.size+3<=w.heap.size:=by omega
 clear s2;unfold eu gw;obtain ⟨j,hj⟩: ∃j:Nat,d.member=(j:Int):=⟨d.member.toNat,by have:=il hd;omega⟩
 have j7:=hB.bb;have bD:=hB.lt;have fD:=hF.ok.n12;have kM:=hF.ok.n1;have Cv:=hF.d0;have Cw:=hF.d1;have HJ:=I hj;have HB:=I hB;have HF:=I hF;have ii:=I hd;have eT:=I (λy:ar w=>hB.below y.ok);have mS:=I (λy:ar w=>(gf.o.mono dC).trans (aaV y.ok (by omega):Below base w y.val));have fC:=I (λy:ar w=>hD.km y);have Aq:=I (λy:ar w=>HZ.o.below y.ok (by omega));have k0: ∀y:ar w,y.val.cell? ⟨w0.heap.size+1,0,none⟩=some (.int .i64 d.kind):=λy=>(fC.o y).k0;have k1: ∀y:ar w,y.val.cell? ⟨w0.heap.size+1,1,none⟩=some (.int .i64 (j:Int)):=λy=>by have:=(fC.o y).k1;rw[hj]at this;rw[<-this,aan]
 have k2: ∀y:ar w,y.val.cell? ⟨w0.heap.size+1,2,none⟩=some (.slice A1 d.af.length c1):=λy=>by have:=(fC.o y).k2;rw[<-this,aan]
 have k3: ∀y:ar w,y.val.cell? ⟨w0.heap.size+1,3,none⟩=some (.string d.al):=λy=>by have:=(fC.o y).k3;rw[<-this,aan]
 have k4: ∀y:ar w,y.val.cell? ⟨w0.heap.size+1,4,none⟩=some (.int .i64 d.bO):=λy=>by have:=(fC.o y).k4;rw[<-this,aan]
 have k5: ∀y:ar w,y.val.cell? ⟨w0.heap.size+1,5,none⟩=some (.slice A2 d.patch.length c2):=λy=>by have:=(fC.o y).k5;rw[<-this,aan]
 have k6: ∀y:ar w,y.val.cell? ⟨w0.heap.size+1,6,none⟩=some (.int .i64 d.start):=λy=>by have:=(fC.o y).k6;rw[<-this,aan]
 have k7: ∀y:ar w,y.val.cell? ⟨w0.heap.size+1,7,none⟩=some (.int .i64 d.aB):=λy=>by have:=(fC.o y).k7;rw[<-this,aan]
 have k8: ∀y:ar w,y.val.cell? ⟨w0.heap.size+1,8,none⟩=some (.int .i64 d.aj):=λy=>by have:=(fC.o y).k8;rw[<-this,aan]
 have q0:=λy:ar w=>(eT.o y).row.cell 0 _ rfl;have q1:=λy:ar w=>(eT.o y).row.cell 1 _ rfl;have q2:=λy:ar w=>(eT.o y).row.cell 2 _ rfl;have q3:=λy:ar w=>(eT.o y).row.cell 3 _ rfl;have q4:=λy:ar w=>(eT.o y).row.cell 4 _ rfl;have q5:=λy:ar w=>(eT.o y).row.cell 5 _ rfl;have nH:=I (λy:ar w=>pe a At ct Ab cb Ac cc Am cm d.al y.val (eT.o y).own.o.r.m);clear hB hF hd hD;rw[hk]at k0;have h6m:=HF.o.ok.m6;by_cases hw:(a.af.length:Int)<=d.member
 ·rw[qY (by omega) hw];have Kt:(a.af.length:Int)<=(j:Int):=by rw[<-hj];exact hw
  clear hk hw hj;go_enter func55,ntmps55;go_upto_region 1 with (fail)
  rw[lV.o];obtain ⟨x0,dp⟩: ∃y:ar w,y.val=w:=⟨⟨w,aae _ _⟩,rfl⟩
  rw[<-dp];clear dp;revert x0;intro y;exact ml
 have Kt: ¬(a.af.length:Int)<=(j:Int):=by rw[<-hj];exact hw
 have ED:=I (λh=>Ev (a:=a) hk hw h);have Pq:=I (λh1 h2 h3=>q9 (a:=a) hk hw h1 h2 h3);generalize fX a.ao d.al=f at*;clear hk hw hj;by_cases hf:0<=f
 ·rw[ED.o (λh=>by omega)];have Sb:decide (0<=f)=true:=by simp[hf]
  go_enter func55,ntmps55;go_upto_region 1 with (fail)
  rw[lV.o];obtain ⟨x0,dp⟩: ∃y:ar w,y.val=w:=⟨⟨w,aae _ _⟩,rfl⟩
  rw[<-dp];clear dp;go_wp2_with (fail);refine (aq (nH.o x0)).mono ?_;rintro e _ ⟨rfl,x1,rfl⟩;revert x1;intro y;exact ml
 have Sb:decide (0<=f)=false:=by simp;omega
 by_cases h6:6<=a.ao.length
 ·rw[ED.o (λh=>by omega)];have Sc:((a.ao.length:Int)==6)=true:=by simp;omega
  go_enter func55,ntmps55;go_upto_region 1 with (fail)
  rw[lV.o];obtain ⟨x0,dp⟩: ∃y:ar w,y.val=w:=⟨⟨w,aae _ _⟩,rfl⟩
  rw[<-dp];clear dp;go_wp2_with (fail);refine (aq (nH.o x0)).mono ?_;rintro e _ ⟨rfl,x1,rfl⟩;revert x1;intro y;exact ml
 have Sc:((a.ao.length:Int)==6)=false:=by simp;omega
 by_cases CX:d.aj<=a.day
 ·rw[ED.o (λh=>by omega)];have pQ:decide (d.aj<=a.day)=true:=by simp[CX]
  go_enter func55,ntmps55;go_upto_region 1 with (fail)
  rw[lV.o];obtain ⟨x0,dp⟩: ∃y:ar w,y.val=w:=⟨⟨w,aae _ _⟩,rfl⟩
  rw[<-dp];clear dp;go_wp2_with (fail);refine (aq (nH.o x0)).mono ?_;rintro e _ ⟨rfl,x1,rfl⟩;revert x1;intro y;exact ml
 have pQ:decide (d.aj<=a.day)=false:=by simp;omega
 rw[Pq.o (by omega) (by omega) (by omega)];have CC:pD d a.af.length=⟨d.al,(j:Int),d.patch,d.start,d.aB,d.aj,List.replicate a.af.length 0,0⟩:=by unfold pD;rw[HJ.o]
 rw[CC];clear CC;obtain ⟨d0,po,pq,pr,mu⟩:=aaq oG;obtain ⟨m0,vL,An,EU,EV⟩:=aaq rQ;have pO:=I HB.o.G5;go_enter func55,ntmps55;go_upto_region 1 with (fail)
 rw[lV.o];obtain ⟨x0,dp⟩: ∃y:ar w,y.val=w:=⟨⟨w,aae _ _⟩,rfl⟩
 rw[<-dp];clear dp;go_wp2_with (fail);refine (aq (nH.o x0)).mono ?_;rintro e _ ⟨rfl,x1,rfl⟩;go_upto_region 19 with (fail)
 obtain ⟨U,hU⟩: ∃X,X=x1.val:=⟨_,rfl⟩
 rw[<-hU];have Tu:ag (∀W',Below U.heap.size U W'-> ∃y:ar w,y.val=W'):=I (λW' hb=>⟨⟨W',x1.ok.trans (by rw[hU]at hb;exact hb.mono x1.ok.size)⟩,rfl⟩);have mz:ag (ck base w0.heap.size U ⟨.slice At a.af.length ct,.slice Ab a.base.length cb,.slice Ac a.av.length cc,.slice Am a.ao.length cm⟩ a T C M):=I (by rw[hU];exact eT.o x1);have VN:ag (Below base w0 U):=I (by rw[hU];exact mS.o x1);have Xt:ag (Row U (w0.heap.size+1) [.int .i64 d.kind,.int .i64 d.member,.slice A1 d.af.length c1,.string d.al,.int .i64 d.bO,.slice A2 d.patch.length c2,.int .i64 d.start,.int .i64 d.aB,.int .i64 d.aj]):=I (by rw[hU];exact CK.o.below x1.ok (by omega));have HZU:ag (Row U (w0.heap.size+2) [.int .i64 0,.int .i64 0,.slice none 0 0,.slice none 0 0,.slice none 0 0,.slice none 0 0]):=I (by rw[hU];exact Aq.o x1);have HVU:ag (iY Z w0 U):=I (by rw[hU];exact Mi.o.below (λz hz=>by have:=oA.o z hz;omega) x1.ok);have hsU:w.heap.size<=U.heap.size:=by rw[hU];exact x1.ok.size
 have uJ:ag (∀W',Below U.heap.size U W'->bg W' W'.heap.size (.slice A2 d.patch.length c2) d.patch):=I (λW' hb=>by obtain ⟨y,rfl⟩:=Tu.o W' hb;exact (fC.o y).fF);have KP:ag (∀w',Row w' w0.heap.size [.int .i64 a.day,.int .i64 a.rule,.slice At a.af.length ct,.slice Ab a.base.length cb,.slice Ac a.av.length cc,.slice Am a.ao.length cm]->Row w' (w0.heap.size+1) [.int .i64 d.kind,.int .i64 d.member,.slice A1 d.af.length c1,.string d.al,.int .i64 d.bO,.slice A2 d.patch.length c2,.int .i64 d.start,.int .i64 d.aB,.int .i64 d.aj]->w'.cell? ⟨w0.heap.size,2,none⟩=some (.slice At a.af.length ct)/\w'.cell? ⟨w0.heap.size,5,none⟩=some (.slice Am a.ao.length cm)/\w'.cell? ⟨w0.heap.size+1,1,none⟩=some (.int .i64 (j:Int))/\w'.cell? ⟨w0.heap.size+1,3,none⟩=some (.string d.al)/\w'.cell? ⟨w0.heap.size+1,5,none⟩=some (.slice A2 d.patch.length c2)/\w'.cell? ⟨w0.heap.size+1,6,none⟩=some (.int .i64 d.start)/\w'.cell? ⟨w0.heap.size+1,7,none⟩=some (.int .i64 d.aB)/\w'.cell? ⟨w0.heap.size+1,8,none⟩=some (.int .i64 d.aj)):=I (λw' h1 h2=>⟨h1.cell 2 _ rfl,h1.cell 5 _ rfl,by rw[<-HJ.o];exact h2.cell 1 _ rfl,h2.cell 3 _ rfl,h2.cell 5 _ rfl,h2.cell 6 _ rfl,h2.cell 7 _ rfl,h2.cell 8 _ rfl⟩);have dl:ag (∀w',Below U.heap.size U w'->w'.cell? ⟨w0.heap.size,2,none⟩=some (.slice At a.af.length ct)/\w'.cell? ⟨w0.heap.size,5,none⟩=some (.slice Am a.ao.length cm)/\w'.cell? ⟨w0.heap.size+1,1,none⟩=some (.int .i64 (j:Int))/\w'.cell? ⟨w0.heap.size+1,3,none⟩=some (.string d.al)/\w'.cell? ⟨w0.heap.size+1,5,none⟩=some (.slice A2 d.patch.length c2)/\w'.cell? ⟨w0.heap.size+1,6,none⟩=some (.int .i64 d.start)/\w'.cell? ⟨w0.heap.size+1,7,none⟩=some (.int .i64 d.aB)/\w'.cell? ⟨w0.heap.size+1,8,none⟩=some (.int .i64 d.aj)):=I (λw' hb=>KP.o w' (mz.o.below hb).row (Xt.o.below hb (by omega)));clear hU k0 k1 k2 k3 k4 k5 k6 k7 k8 q0 q1 q2 q3 q4 q5 Sb Sc pQ;refine dq 24 (λw'=>w'.cell? ⟨w0.heap.size,2,none⟩=some (.slice At a.af.length ct)/\w'.cell? ⟨w0.heap.size,5,none⟩=some (.slice Am a.ao.length cm)/\w'.cell? ⟨w0.heap.size+1,1,none⟩=some (.int .i64 (j:Int))/\w'.cell? ⟨w0.heap.size+1,3,none⟩=some (.string d.al)/\w'.cell? ⟨w0.heap.size+1,5,none⟩=some (.slice A2 d.patch.length c2)/\w'.cell? ⟨w0.heap.size+1,6,none⟩=some (.int .i64 d.start)/\w'.cell? ⟨w0.heap.size+1,7,none⟩=some (.int .i64 d.aB)/\w'.cell? ⟨w0.heap.size+1,8,none⟩=some (.int .i64 d.aj)) (by kernel_rfl) ?_;obtain ⟨V0,Kv⟩: ∃X,X=U.drew:=⟨_,rfl⟩
 have jo:Below U.heap.size U V0:=by rw[Kv];exact (aae _ _).drew
 have Xn:U.heap.size<=V0.heap.size:=jo.size;rw[<-Kv];clear Kv;have aE:=dl.o V0 jo;refine cl 0 ?_
 try simp only[Act.put,aK,aM]
 refine cl 1 ?_
 try simp only[Act.put,aK,aM]
 refine cl 2 ?_
 try simp only[Act.put,aK,aM]
 refine cl 3 ?_
 try simp only[Act.put,aK,aM]
 refine cl 4 ?_
 try simp only[Act.put,aK,aM]
 refine cl 5 ?_
 try simp only[Act.put,aK,aM]
 refine cl 7 ?_
 try simp only[Act.put,aK,aM]
 refine cl 8 ?_
 try simp only[Act.put,aK,aM]
 refine cl 10 ?_
 try simp only[Act.put,aK,aM]
 refine cl 11 ?_
 try simp only[Act.put,aK,aM]
 refine cl 12 ?_
 try simp only[Act.put,aK,aM]
 refine cl 13 ?_
 try simp only[Act.put,aK,aM]
 refine cl 14 ?_
 try simp only[Act.put,aK,aM]
 refine cl 15 ?_
 try simp only[Act.put,aK,aM]
 refine cl 16 ?_
 try simp only[Act.put,aK,aM]
 refine cl 17 ?_
 try simp only[Act.put,aK,aM]
 refine cl 18 ?_
 try simp only[Act.put,aK,aM]
 clear aE;refine bZ (rs:=[6,19]) (by kernel_rfl) (by simp) ?_;refine aN.cons rfl (λK hK=>?_) (aN.cons rfl (λK hK=>?_) aN.nil)
 ·try simp only[aK]
  go_simp;have gZ:Below U.heap.size U (V0.alloc (.cells #[] 174)):=jo.alloc jo.size _;have xn:Below V0.heap.size V0 (V0.alloc (.cells #[] 174)):=(aae _ _).alloc (aad _) _;have Pr:V0.heap.size+1<=(V0.alloc (.cells #[] 174)).heap.size:=by simp
  refine hK.out _ _ (λ_=>dl.o _ gZ) ?_;clear hK K
  try simp only[Act.put,aM]
  try replace fz:=I (fz.o.on xn)
  try replace dW:=I (dW.o.below xn (by omega))
  have eQ:ag ((V0.alloc (.cells #[] 174)).ownsRow U.heap.size 174 4 (.slice (some ⟨V0.heap.size,0,none⟩) 0 0) 0 []):=I (by have zz:=jo.size;simpa using aaz (base:=U.heap.size) V0 #[] 0 zz (aaf _) rfl);obtain ⟨V1,pH⟩: ∃X,X=V0.alloc (.cells #[] 174):=⟨_,rfl⟩
  try rw[<-pH]at fz
  try rw[<-pH]at dW
  rw[<-pH]at gZ xn Pr eQ⊢;clear pH;refine bZ (rs:=[9,19]) (by kernel_rfl) (by simp) ?_;refine aN.cons rfl (λK hK=>?_) (aN.cons rfl (λK hK=>?_) aN.nil)
  ·try simp only[aK]
   have zz:=gZ.size;refine aQ ah (by rfl) _ _ 32 (by rfl) U.heap.size 174 d0 (.agg #[.int .i64 0,.int .i64 0,.string ⟨#[]⟩,.string ⟨#[]⟩]) 4 48 underlying32 po pq pr mu rfl (by decide) _ _ _ (by rfl) eQ.o _ d.patch _ (by rfl) (uJ.o _ gZ) (λ_=>rfl) (λy u hu=>cJ hu) (by have q:=oz.o;unfold maxLen;omega) (by have q:=oz.o;omega) zz ?_;intro p' V2 aY aw cY ci;have dz:ag (ay ah d.patch U.heap.size V2 p'):=I (ay.bI ah (size:=4) (λ_=>rfl) (by simpa using aY));have iI:Below U.heap.size U V2:=gZ.grown aw zz (λj hj=>(eQ.o.lt j hj).1);have Ff:V1.heap.size<=V2.heap.size:=aw.size
   have uF:ag (∀b,cx d.patch p' b->(b=V0.heap.size\/b=V1.heap.size)/\b<V2.heap.size):=I (λb hb=>by
    refine ⟨?_,(ay.dw dz.o hb).2⟩;rcases ci with h|h
    ·have e:some V0.heap.size=some b:=h.symm.trans hb.2;injection e with e
     exact .inl e.symm
    have e:some V1.heap.size=some b:=h.symm.trans hb.2;injection e with e
    exact .inr e.symm)
   obtain ⟨A7,c7,rfl,_⟩:=dz.o
   try replace fz:=I (fz.o.aD (F:=λb=>some V0.heap.size=some b) (Touch.aW aw (λb hb=>hb)) (λb hb e=>by have e1:some 0=some b:=hb.2;injection e1 with e1;injection e with e;omega))
   try replace dW:=I (dW.o.aD (F:=λb=>some V0.heap.size=some b) (by omega) (Touch.aW aw (λb hb=>hb)) (λe=>by injection e with e;omega))
   clear aY aw cY ci zz;refine hK.out _ _ (λ_=>dl.o _ iI) ?_;clear hK K
   try simp only[Act.put,aM]
   refine cV 19 (λK hK=>?_)
   try simp only[aK]
   try simp only[aK]
   obtain ⟨V3,qe,ou,lR,Ad⟩:=kG V2 a.af.length (by omega);have fL:Below U.heap.size U V3:=iI.trans (lR.mono iI.size);have fz:ag (ay ak (List.replicate a.af.length (0:Int)) U.heap.size V3 (.slice (some ⟨V2.heap.size,0,none⟩) a.af.length a.af.length)):=I (ou.less iI.size);clear ou;go_simp;clear qe;refine hK.out _ _ (λ_=>dl.o _ fL) ?_;clear hK K
   try simp only[Act.put,aM]
   try replace eQ:=I (aT eQ.o lR)
   try replace dz:=I (dz.o.on lR)
   try replace dW:=I (dW.o.below lR (by omega))
   obtain ⟨nk,gY⟩: ∃n,n=V2.heap.size:=⟨_,rfl⟩
   rw[<-gY]at fz⊢;have kM:=aam gY;have rq:=aam gY.symm;clear gY;exact EE
  try simp only[aK]
  obtain ⟨V2,qe,ou,oB,Ff⟩:=kG V1 a.af.length (by omega);have iI:Below U.heap.size U V2:=gZ.trans (oB.mono gZ.size);have fz:ag (ay ak (List.replicate a.af.length (0:Int)) U.heap.size V2 (.slice (some ⟨V1.heap.size,0,none⟩) a.af.length a.af.length)):=I (ou.less gZ.size);clear ou;go_simp;clear qe;refine hK.out _ _ (λ_=>dl.o _ iI) ?_;clear hK K
  try simp only[Act.put,aM]
  try replace eQ:=I (aT eQ.o oB)
  try replace dz:=I (dz.o.on oB)
  try replace dW:=I (dW.o.below oB (by omega))
  refine cV 9 (λK hK=>?_)
  try simp only[aK]
  try simp only[aK]
  have zz:=iI.size;refine aQ ah (by rfl) _ _ 32 (by rfl) U.heap.size 174 d0 (.agg #[.int .i64 0,.int .i64 0,.string ⟨#[]⟩,.string ⟨#[]⟩]) 4 48 underlying32 po pq pr mu rfl (by decide) _ _ _ (by rfl) eQ.o _ d.patch _ (by rfl) (uJ.o _ iI) (λ_=>rfl) (λy u hu=>cJ hu) (by have q:=oz.o;unfold maxLen;omega) (by have q:=oz.o;omega) zz ?_;intro p' V3 aY aw cY ci;have dz:ag (ay ah d.patch U.heap.size V3 p'):=I (ay.bI ah (size:=4) (λ_=>rfl) (by simpa using aY));have fL:Below U.heap.size U V3:=iI.grown aw zz (λj hj=>(eQ.o.lt j hj).1);have Ad:V2.heap.size<=V3.heap.size:=aw.size
  have uF:ag (∀b,cx d.patch p' b->(b=V0.heap.size\/b=V2.heap.size)/\b<V3.heap.size):=I (λb hb=>by
   refine ⟨?_,(ay.dw dz.o hb).2⟩;rcases ci with h|h
   ·have e:some V0.heap.size=some b:=h.symm.trans hb.2;injection e with e
    exact .inl e.symm
   have e:some V2.heap.size=some b:=h.symm.trans hb.2;injection e with e
   exact .inr e.symm)
  obtain ⟨A7,c7,rfl,_⟩:=dz.o
  try replace fz:=I (fz.o.aD (F:=λb=>some V0.heap.size=some b) (Touch.aW aw (λb hb=>hb)) (λb hb e=>by have e1:some V1.heap.size=some b:=hb.2;injection e1 with e1;injection e with e;omega))
  try replace dW:=I (dW.o.aD (F:=λb=>some V0.heap.size=some b) (by omega) (Touch.aW aw (λb hb=>hb)) (λe=>by injection e with e;omega))
  clear aY aw cY ci zz;refine hK.out _ _ (λ_=>dl.o _ fL) ?_;clear hK K
  try simp only[Act.put,aM]
  obtain ⟨nk,gY⟩: ∃n,n=V1.heap.size:=⟨_,rfl⟩
  rw[<-gY]at fz⊢;have kM:=aam gY;have rq:=aam gY.symm;clear gY;exact EE
 try simp only[aK]
 obtain ⟨V1,qe,ou,xn,Pr⟩:=kG V0 a.af.length (by omega);have gZ:Below U.heap.size U V1:=jo.trans (xn.mono jo.size);have fz:ag (ay ak (List.replicate a.af.length (0:Int)) U.heap.size V1 (.slice (some ⟨V0.heap.size,0,none⟩) a.af.length a.af.length)):=I (ou.less jo.size);clear ou;go_simp;clear qe;refine hK.out _ _ (λ_=>dl.o _ gZ) ?_;clear hK K
 try simp only[Act.put,aM]
 try replace eQ:=I (aT eQ.o xn)
 try replace dz:=I (dz.o.on xn)
 try replace dW:=I (dW.o.below xn (by omega))
 refine cV 6 (λK hK=>?_)
 try simp only[aK]
 try simp only[aK]
 go_simp;have iI:Below U.heap.size U (V1.alloc (.cells #[] 174)):=gZ.alloc gZ.size _;have oB:Below V1.heap.size V1 (V1.alloc (.cells #[] 174)):=(aae _ _).alloc (aad _) _;have Ff:V1.heap.size+1<=(V1.alloc (.cells #[] 174)).heap.size:=by simp
 refine hK.out _ _ (λ_=>dl.o _ iI) ?_;clear hK K
 try simp only[Act.put,aM]
 try replace fz:=I (fz.o.on oB)
 try replace dW:=I (dW.o.below oB (by omega))
 have eQ:ag ((V1.alloc (.cells #[] 174)).ownsRow U.heap.size 174 4 (.slice (some ⟨V1.heap.size,0,none⟩) 0 0) 0 []):=I (by have zz:=gZ.size;simpa using aaz (base:=U.heap.size) V1 #[] 0 zz (aaf _) rfl);obtain ⟨V2,mi⟩: ∃X,X=V1.alloc (.cells #[] 174):=⟨_,rfl⟩
 try rw[<-mi]at fz
 try rw[<-mi]at dW
 rw[<-mi]at iI oB Ff eQ⊢;clear mi;refine cV 9 (λK hK=>?_)
 try simp only[aK]
 try simp only[aK]
 have zz:=iI.size;refine aQ ah (by rfl) _ _ 32 (by rfl) U.heap.size 174 d0 (.agg #[.int .i64 0,.int .i64 0,.string ⟨#[]⟩,.string ⟨#[]⟩]) 4 48 underlying32 po pq pr mu rfl (by decide) _ _ _ (by rfl) eQ.o _ d.patch _ (by rfl) (uJ.o _ iI) (λ_=>rfl) (λy u hu=>cJ hu) (by have q:=oz.o;unfold maxLen;omega) (by have q:=oz.o;omega) zz ?_;intro p' V3 aY aw cY ci;have dz:ag (ay ah d.patch U.heap.size V3 p'):=I (ay.bI ah (size:=4) (λ_=>rfl) (by simpa using aY));have fL:Below U.heap.size U V3:=iI.grown aw zz (λj hj=>(eQ.o.lt j hj).1);have Ad:V2.heap.size<=V3.heap.size:=aw.size
 have uF:ag (∀b,cx d.patch p' b->(b=V1.heap.size\/b=V2.heap.size)/\b<V3.heap.size):=I (λb hb=>by
  refine ⟨?_,(ay.dw dz.o hb).2⟩;rcases ci with h|h
  ·have e:some V1.heap.size=some b:=h.symm.trans hb.2;injection e with e
   exact .inl e.symm
  have e:some V2.heap.size=some b:=h.symm.trans hb.2;injection e with e
  exact .inr e.symm)
 obtain ⟨A7,c7,rfl,_⟩:=dz.o
 try replace fz:=I (fz.o.aD (F:=λb=>some V1.heap.size=some b) (Touch.aW aw (λb hb=>hb)) (λb hb e=>by have e1:some V0.heap.size=some b:=hb.2;injection e1 with e1;injection e with e;omega))
 try replace dW:=I (dW.o.aD (F:=λb=>some V1.heap.size=some b) (by omega) (Touch.aW aw (λb hb=>hb)) (λe=>by injection e with e;omega))
 clear aY aw cY ci zz;refine hK.out _ _ (λ_=>dl.o _ fL) ?_;clear hK K
 try simp only[Act.put,aM]
 obtain ⟨nk,gY⟩: ∃n,n=V0.heap.size:=⟨_,rfl⟩
 rw[<-gY]at fz⊢;have kM:=aam gY;have rq:=aam gY.symm;clear gY;exact EE
end Go.Proofs.YtbcggaldkihcaaaGreat

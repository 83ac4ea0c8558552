/- A deed drawn, walked. -/
import Derived.Test.YtbcggaldkihcaaaGreatDoorZe
import Derived.Test.YtbcggaldkihcaaaGreatDoorGj
set_option maxHeartbeats 60000000
set_option maxRecDepth 100000
namespace Go.Proofs.YtbcggaldkihcaaaGreatDoor
open Tryz
open Go.RowKit Go.Lib
theorem Qh (B b k base ba:Nat) (a:cp) (x:cS) (T:List bR) (C:List bu) (M:List bH) (w:World) (h:Src B w b k) (hk:k<=40000) (hB:ck base ba w x a T C M) (hF:dJ a) (j7:b<base):
 Calls prog 43 #[.pointer (some ⟨b,0,none⟩),.pointer (some ⟨ba,0,none⟩)] w (Qg B w b (k+300)):=by
 obtain ⟨At,ct,Ab,cb,Ac,L4,Am,L1,rfl⟩:=hB.own.o.r.slices;obtain ⟨W0,ku⟩: ∃X,X=w.alloc (.cells #[.int .i64 0,.int .i64 0,.slice none 0 0,.string ⟨#[]⟩,.int .i64 0,.slice none 0 0,.int .i64 0,.int .i64 0,.int .i64 0] 38):=⟨_,rfl⟩
 have Kn:W0.heap.size=w.heap.size+1:=by rw[ku];simp
 have xu:Below w.heap.size w W0:=by rw[ku];exact (Below.refl _ _).alloc (Nat.le_refl _) _
 have yd:Row W0 w.heap.size [.int .i64 0,.int .i64 0,.slice none 0 0,.string ⟨#[]⟩,.int .i64 0,.slice none 0 0,.int .i64 0,.int .i64 0,.int .i64 0]:=by rw[ku];exact Row.new w _ _
 have HB:=I h.lt.1;have Sr:ag (∀W',iJ b W0 W'->Row W' w.heap.size [.int .i64 0,.int .i64 0,.slice none 0 0,.string ⟨#[]⟩,.int .i64 0,.slice none 0 0,.int .i64 0,.int .i64 0,.int .i64 0]):=I (λW' ho=>yd.only (by omega) (by have:=HB.o;omega) ho);have kX:ag (iJ b w W0):=I (m5 xu);have FR:=I (h.below xu h.lt.1);have xS:ag (∀W',iJ b W0 W'->ck base ba W' ⟨.slice At a.af.length ct,.slice Ab a.base.length cb,.slice Ac a.av.length L4,.slice Am a.ao.length L1⟩ a T C M):=I (λW' ho=>(hB.below xu).only j7 ho);have HF:=I hF;have kM:=hF.ok.n1;have fD:=hF.ok.n12;have TB:=hF.ok.m6;have ZO:=hF.d0;have Ho:=hF.d1;obtain ⟨j0,Ip,KJ,PJ,vB⟩:=info_parts iD;clear h xu yd hB hF j7;go_enter func43,ntmps43;go_upto_region 1 with (fail)
 rw[<-ku];have KC:w.heap.size+1<=W0.heap.size:=by omega
 have KD:W0.heap.size<=w.heap.size+1:=by omega
 clear ku Kn;have Ss:ag (iJ b W0 W0):=I ⟨rfl,rfl,rfl,Nat.le_refl _,λ_ _ _=>rfl⟩;have x2:=(xS.o W0 Ss.o).row.cell 2 _ rfl;go_wp2_with (fail);refine (tX B b _ (a.af.length:Int) W0 FR.o (by omega) (by omega) (by omega)).mono ?_;rintro e w1 ⟨x1,ei,rfl,CB,tU⟩;have tN:=I CB;have jh:=I tU;clear CB tU FR Ss x2;go_wp2_with (fail);refine (jb B b _ 20 w1 tN.o (by omega) (by omega) (by omega)).mono ?_;rintro e w2 ⟨y,rfl,wY,CD⟩;have Nr:=I wY;have ju:=I (ll jh.o CD);clear wY CD tN jh;go_upto_if 24 with (fail)
 go_cut [6] (λs6 wx=> ∃z:Int,s6= .int .i64 z/\Src B wx b (k+8)/\iJ b W0 wx)
 case first=>
  cases y with
  |true=>
   go_wp2_with (fail);refine (sE (λ_=>True) B b _ w2.heap.size 4 4 _ (Nr.o.alloc _) (by omega) (by omega) (by omega) (by simp) (by have:=Nr.o.lt.1;omega) (rb _ w2 2 [(a.af.length:Int),11,12,-1] (λ_ _=>trivial))).mono ?_;rintro e w3 ⟨z,-,rfl,W9,PL⟩;have HR:=I (And.intro (W9.more (k':=k+8) (by omega)) (ll ju.o (ll (m5 ((Below.refl w2.heap.size w2).alloc (Nat.le_refl _) _)) PL)));clear W9 PL;go_wp2;go_meet;case rel=>exact ⟨z,rfl,HR.o.1,HR.o.2⟩
  |false=>
   go_wp2;go_meet;case rel=>exact ⟨x1,rfl,Nr.o.more (by omega),ju.o⟩
 case rest=>
  obtain ⟨z,rfl,W9,PL⟩:=hcut;have b0:=I W9;have Ls:=I PL;clear W9 PL Nr ju;go_wp2_with (fail);refine (tX B b _ 9 wc b0.o (by omega) (by omega) (by omega)).mono ?_;rintro e w4 ⟨x4,Xq,rfl,cm,EQ⟩;have bc:=I cm;have QP:=I (ll Ls.o EQ);clear cm EQ b0 Ls;have x5:=(xS.o w4 QP.o).row.cell 5 _ rfl;go_upto_if 36 with (fail)
  go_cut [7] (λs7 wx=> ∃z7:Int,s7= .int .i64 z7/\(a.ao.length=0->z7=2)/\Src B wx b (k+10)/\iJ b W0 wx)
  case first=>
   by_cases h0:a.ao.length=0
   ·have e0:((a.ao.length:Int)==0)=true:=by simp[h0]
    clear h0;go_wp2;go_meet;case rel=>exact ⟨2,rfl,λ_=>rfl,bc.o.more (by omega),QP.o⟩
   have e0:((a.ao.length:Int)==0)=false:=by simpa using h0
   have Ty:=I h0;clear h0;go_wp2;go_meet;case rel=>exact ⟨x4,rfl,λh=>absurd h Ty.o,bc.o.more (by omega),QP.o⟩
  case rest=>
   obtain ⟨z7,rfl,e5,c8,cc⟩:=hcut;obtain ⟨wQ,en⟩: ∃X,X=wc:=⟨_,rfl⟩
   rw[<-en]at c8 cc⊢;have SN:=I c8;have RX:=I cc;have Vr:=I e5;clear c8 cc e5 en bc QP x5;by_cases R0:z7=0
   ·have e0:(z7==0)=true:=by simp[R0]
    clear R0;have gf:ag (b<wQ.heap.size):=I SN.o.lt.1;have Hu:ag ((wQ.alloc (.cells #[] 2)).ownsRow wQ.heap.size 2 1 (.slice (some ⟨wQ.heap.size,0,none⟩) 0 0) 0 []):=I (by simpa using World.ownsRow_made wQ #[] 0 (Nat.le_refl _) (Nat.zero_le _) rfl);go_wp2_with (fail);refine (tX B b _ 3 (wQ.alloc (.cells #[] 2)) (SN.o.alloc _) (by omega) (by omega) (by omega)).mono ?_;rintro e w3 ⟨x,hx,rfl,W9,PL⟩;have Mm:ag (w3.ownsRow wQ.heap.size 2 1 (.slice (some ⟨wQ.heap.size,0,none⟩) 0 0) ([]:List Int).length (([]:List Int).flatMap ak)):=I (Iq Hu.o gf.o PL);have b0:=I W9;have Ls:ag (iJ b wQ w3):=I (ll (m5 ((Below.refl wQ.heap.size wQ).alloc (Nat.le_refl _) _)) PL);clear Hu W9 PL;go_wp2;go_loopw [8,9] (λt c EC=> ∃(zs:List Int) (m:Nat),c= .int .i64 (m:Int)/\zs.length+m<=2/\EC.ownsRow wQ.heap.size 2 1 t zs.length (zs.flatMap ak)/\t≠ .slice none 0 0/\cF zs z (a.af.length:Nat)=true/\Src B EC b ((k+10+2)+2*(2-m))/\iJ b wQ EC) (λ_ c _=>(RowKit.intOf c).toNat);case atStart=>exact ⟨[],x,rfl,by show 0+_<=2;omega,Mm.o,by simp,lP _ _,b0.o.more (by omega),Ls.o⟩
    case round=>
     obtain ⟨zs,m,rfl,Pw,cr,nm,cy,hs,ho⟩:=hrel;obtain ⟨g2,zM,rfl,Mn,Rw⟩:=bG cr nm;unfold maxLen at Rw;have eH:=I cr;have ii:=I cy;have bc:=I hs;have QP:=I ho;clear cr cy hs ho nm;by_cases hm:0<m
     ·obtain ⟨m,rfl⟩: ∃q,m=q+1:=⟨m-1,by omega⟩
      have EU:(0:Int)<((m+1:Nat):Int):=by omega
      go_wp2_with (fail);refine (tX B b _ ((a.af.length:Nat):Int) wr bc.o (by omega) (by omega) (by omega)).mono ?_;rintro e w5 ⟨y,hy,rfl,c8,cc⟩;have Tg:=I (Iq eH.o (by have:=gf.o;omega) cc);have bx:=I c8;have b1:=I (ll QP.o cc);clear c8 cc;by_cases Aj:(y:Int)=z
      ·have e0:((y:Int) !=z)=false:=by simp[Aj]
       clear Aj;go_wp2;go_roundw;case rel=>exact ⟨zs,m,by go_num,by omega,Tg.o,by simp,ii.o,bx.o.more (by omega),b1.o⟩
       case measure=>simp[RowKit.intOf]<;>omega
      have e0:((y:Int) !=z)=true:=by simpa using Aj
      have Mo:=I Aj;clear Aj;obtain ⟨r,hr⟩: ∃r,zs.contains (y:Int)=r:=⟨_,rfl⟩
      have HH:=I (mA zs y w5 (.slice (some ⟨g2,0,none⟩) zs.length zM) r ((ay.bI ak (size:=1) (λ_=>rfl) Tg.o).mo (size:=1) (λ_=>rfl)) hr);have HR:=I hr;clear hr;go_wp2_with (fail);refine (HH.o).mono ?_;rintro e w6 ⟨rfl,En⟩;have q8:=I (aT Tg.o En);have c9:=I (bx.o.below En bx.o.lt.1);have zl:=I (ll b1.o (m5 En));have xj:=zl.o.size;clear En HH;cases r with
      |true=>
       go_wp2;go_roundw;case rel=>exact ⟨zs,m,by go_num,by omega,q8.o,by simp,ii.o,c9.o.more (by omega),zl.o⟩
       case measure=>simp[RowKit.intOf]<;>omega
      |false=>
       go_wp2_with (at_builtin;refine wpList_append_own_at _ rfl _ _ 35 rfl wQ.heap.size 2 j0 (.int .i64 0) 1 8 underlying35 Ip KJ PJ vB rfl (by decide) _ _ _ rfl (q8.o.alloc _) ⟨w6.heap.size,0,none⟩ 1 1 (ak (y:Int)) rfl rfl (λj u hj=>fS hj) (λu hu=>cf _ hu) ?c3 ?c4 (aS xj) ?_);case c3=>unfold maxLen;omega
       case c4=>omega
       intro v' w9 aG aA aU iH;have mF:v'≠ .slice none 0 0:=by simpa using aU
       have zG:=I (fb (bV zl.o (.cells #[.int .i64 (y:Int)] 2)) aA (λj hj=>(q8.o.lt j hj).1));have B8:=I ((c9.o.alloc (.cells #[.int .i64 (y:Int)] 2)).grown aA (λj hj=>by have:=(q8.o.lt j hj).1;have:=gf.o;omega));have jt:ag (w9.ownsRow wQ.heap.size 2 1 v' (zs++[(y:Int)]).length ((zs++[(y:Int)]).flatMap ak)):=I (by rw[cq,List.length_append];exact aG);obtain ⟨g9,gM,rfl,zE,zF⟩:=bG aG mF;have EF:=I (lO ii.o (by omega) (by omega) (by omega) Mo.o HR.o);clear aG aA aU iH mF;go_wp2;go_roundw;case rel=>exact ⟨zs++[(y:Int)],m,by go_num,by rw[List.length_append,List.length_singleton];omega,jt.o,by simp,EF.o,B8.o.more (by omega),zG.o⟩
       case measure=>simp[RowKit.intOf]<;>omega
     obtain rfl:m=0:=by omega
     have EU: ¬(0:Int)<((0:Nat):Int):=by omega
     have SF:=I (ll RX.o QP.o);have HZ:=I (ay.bI ak (size:=1) (λ_=>rfl) eH.o);have M4:=RX.o.size;have kW:=Sr.o wr SF.o;have r0:=kW.cell 0 _ rfl;have r1:=kW.cell 1 _ rfl;have r2:=kW.cell 2 _ rfl;have r3:=kW.cell 3 _ rfl;have r4:=kW.cell 4 _ rfl;have r5:=kW.cell 5 _ rfl;have r6:=kW.cell 6 _ rfl;have r7:=kW.cell 7 _ rfl;have Px:=kW.cell 8 _ rfl;have s0:=kW.free 0 (by simp);have s1:=kW.free 1 (by simp);have s2:=kW.free 2 (by simp);have s3:=kW.free 3 (by simp);have s4:=kW.free 4 (by simp);have s5:=kW.free 5 (by simp);have s6:=kW.free 6 (by simp);have s7:=kW.free 7 (by simp);have Py:=kW.free 8 (by simp);clear kW;go_wp2
     have gD: ∀(ac:Go.Act) (w':World) (v0 v1 v2 v3 v4 v5 v6 v7 v8:Value),ac.tmps[4]?=some (.pointer (some ⟨w.heap.size,0,none⟩))->w'.cell? ⟨w.heap.size,0,none⟩=some v0->w'.cell? ⟨w.heap.size,1,none⟩=some v1->w'.cell? ⟨w.heap.size,2,none⟩=some v2->w'.cell? ⟨w.heap.size,3,none⟩=some v3->w'.cell? ⟨w.heap.size,4,none⟩=some v4->w'.cell? ⟨w.heap.size,5,none⟩=some v5->w'.cell? ⟨w.heap.size,6,none⟩=some v6->w'.cell? ⟨w.heap.size,7,none⟩=some v7->w'.cell? ⟨w.heap.size,8,none⟩=some v8->(results f43 ac.tmps).run prog w'= .ok (.agg #[v0,v1,v2,v3,v4,v5,v6,v7,v8]) w':=by
      intro ac w' v0 v1 v2 v3 v4 v5 v6 v7 v8 ha h0 h1 h2 h3 h4 h5 h6 h7 h8;simp[results,results43,go_sem,ha,h0,h1,h2,h3,h4,h5,h6,h7,h8]
     refine bodyPost_ret (gD _ _ (.int .i64 ((⟨1,z,zs,⟨#[]⟩,0,[],0,0,0⟩:dr)).kind) (.int .i64 ((⟨1,z,zs,⟨#[]⟩,0,[],0,0,0⟩:dr)).member) (.slice (some ⟨g2,0,none⟩) ((⟨1,z,zs,⟨#[]⟩,0,[],0,0,0⟩:dr)).af.length (zM)) (.string ((⟨1,z,zs,⟨#[]⟩,0,[],0,0,0⟩:dr)).al) (.int .i64 ((⟨1,z,zs,⟨#[]⟩,0,[],0,0,0⟩:dr)).bO) (.slice none ((⟨1,z,zs,⟨#[]⟩,0,[],0,0,0⟩:dr)).patch.length (0)) (.int .i64 ((⟨1,z,zs,⟨#[]⟩,0,[],0,0,0⟩:dr)).start) (.int .i64 ((⟨1,z,zs,⟨#[]⟩,0,[],0,0,0⟩:dr)).aB) (.int .i64 ((⟨1,z,zs,⟨#[]⟩,0,[],0,0,0⟩:dr)).aj) rfl (by simp[go_sem,r0]) (by simp[go_sem,r1]) (by simp[go_sem,r2]) (by simp[go_sem,r3]) (by simp[go_sem,r4]) (by simp[go_sem,r5]) (by simp[go_sem,r6]) (by simp[go_sem,r7]) (by simp[go_sem,Px])) rfl ?_;obtain ⟨w9,Ag⟩: ∃X,X=(((((((((wr).setCell ⟨w.heap.size,0,none⟩ (.int .i64 ((⟨1,z,zs,⟨#[]⟩,0,[],0,0,0⟩:dr)).kind)).setCell ⟨w.heap.size,1,none⟩ (.int .i64 ((⟨1,z,zs,⟨#[]⟩,0,[],0,0,0⟩:dr)).member)).setCell ⟨w.heap.size,2,none⟩ (.slice (some ⟨g2,0,none⟩) ((⟨1,z,zs,⟨#[]⟩,0,[],0,0,0⟩:dr)).af.length (zM))).setCell ⟨w.heap.size,3,none⟩ (.string ((⟨1,z,zs,⟨#[]⟩,0,[],0,0,0⟩:dr)).al)).setCell ⟨w.heap.size,4,none⟩ (.int .i64 ((⟨1,z,zs,⟨#[]⟩,0,[],0,0,0⟩:dr)).bO)).setCell ⟨w.heap.size,5,none⟩ (.slice none ((⟨1,z,zs,⟨#[]⟩,0,[],0,0,0⟩:dr)).patch.length (0))).setCell ⟨w.heap.size,6,none⟩ (.int .i64 ((⟨1,z,zs,⟨#[]⟩,0,[],0,0,0⟩:dr)).start)).setCell ⟨w.heap.size,7,none⟩ (.int .i64 ((⟨1,z,zs,⟨#[]⟩,0,[],0,0,0⟩:dr)).aB)).setCell ⟨w.heap.size,8,none⟩ (.int .i64 ((⟨1,z,zs,⟨#[]⟩,0,[],0,0,0⟩:dr)).aj):=⟨_,rfl⟩
     have xo:Touch (λc=>c=w.heap.size) (wr) w9:=by
      rw[Ag]
      iterate 9 refine Touch.setCell (F:=λb=>b=w.heap.size) ?_ rfl _
      exact Touch.refl _ _
     have Sm:=(SF.o).size;refine ⟨(⟨1,z,zs,⟨#[]⟩,0,[],0,0,0⟩:dr),(some ⟨g2,0,none⟩),zM,none,0,rfl,?_,?_,(λe h=>by cases h),(by show (⟨#[]⟩:ByteArray).size<=maxLen;decide),?_,?_⟩
     ·have q:=ay.aD (HZ.o) xo (λc hc e=>by have:=(ay.dw (HZ.o) hc).1;omega);rw[Ag]at q;exact ay.less q (by omega)
     ·have q:=ay.aD (ay.nil ah W0.heap.size wr) xo (λc hc e=>by have:=(ay.dw (ay.nil ah W0.heap.size wr) hc).1;omega);rw[Ag]at q;exact ay.less q (by omega)
     ·have q:=((bc.o).more (k':=k+300) (by omega)).keep (xo.block b (by have:=HB.o;omega) (by have:=HB.o;omega)) (λi hi=>xo.block i (by have:=(bc.o).lt;omega) (by have:=(bc.o).lt;have:=HB.o;omega));rw[Ag]at q;exact q
     have q:=xq (ll kX.o (SF.o)) xo (Nat.le_refl _);rw[Ag]at q;exact q
   by_cases Sl:z7=1
   ·have e0:(z7==0)=false:=by simp[R0]
    have e1:(z7==1)=true:=by simp[Sl]
    clear R0 Sl;have St:=I (ay.nil ak W0.heap.size wQ);have kW:=Sr.o wQ RX.o;have r0:=kW.cell 0 _ rfl;have r1:=kW.cell 1 _ rfl;have r2:=kW.cell 2 _ rfl;have r3:=kW.cell 3 _ rfl;have r4:=kW.cell 4 _ rfl;have r5:=kW.cell 5 _ rfl;have r6:=kW.cell 6 _ rfl;have r7:=kW.cell 7 _ rfl;have Px:=kW.cell 8 _ rfl;have s0:=kW.free 0 (by simp);have s1:=kW.free 1 (by simp);have s2:=kW.free 2 (by simp);have s3:=kW.free 3 (by simp);have s4:=kW.free 4 (by simp);have s5:=kW.free 5 (by simp);have s6:=kW.free 6 (by simp);have s7:=kW.free 7 (by simp);have Py:=kW.free 8 (by simp);clear kW;go_wp2
    have gD: ∀(ac:Go.Act) (w':World) (v0 v1 v2 v3 v4 v5 v6 v7 v8:Value),ac.tmps[4]?=some (.pointer (some ⟨w.heap.size,0,none⟩))->w'.cell? ⟨w.heap.size,0,none⟩=some v0->w'.cell? ⟨w.heap.size,1,none⟩=some v1->w'.cell? ⟨w.heap.size,2,none⟩=some v2->w'.cell? ⟨w.heap.size,3,none⟩=some v3->w'.cell? ⟨w.heap.size,4,none⟩=some v4->w'.cell? ⟨w.heap.size,5,none⟩=some v5->w'.cell? ⟨w.heap.size,6,none⟩=some v6->w'.cell? ⟨w.heap.size,7,none⟩=some v7->w'.cell? ⟨w.heap.size,8,none⟩=some v8->(results f43 ac.tmps).run prog w'= .ok (.agg #[v0,v1,v2,v3,v4,v5,v6,v7,v8]) w':=by
     intro ac w' v0 v1 v2 v3 v4 v5 v6 v7 v8 ha h0 h1 h2 h3 h4 h5 h6 h7 h8;simp[results,results43,go_sem,ha,h0,h1,h2,h3,h4,h5,h6,h7,h8]
    refine bodyPost_ret (gD _ _ (.int .i64 ((⟨4,0,[],⟨#[]⟩,0,[],0,0,0⟩:dr)).kind) (.int .i64 ((⟨4,0,[],⟨#[]⟩,0,[],0,0,0⟩:dr)).member) (.slice none ((⟨4,0,[],⟨#[]⟩,0,[],0,0,0⟩:dr)).af.length (0)) (.string ((⟨4,0,[],⟨#[]⟩,0,[],0,0,0⟩:dr)).al) (.int .i64 ((⟨4,0,[],⟨#[]⟩,0,[],0,0,0⟩:dr)).bO) (.slice none ((⟨4,0,[],⟨#[]⟩,0,[],0,0,0⟩:dr)).patch.length (0)) (.int .i64 ((⟨4,0,[],⟨#[]⟩,0,[],0,0,0⟩:dr)).start) (.int .i64 ((⟨4,0,[],⟨#[]⟩,0,[],0,0,0⟩:dr)).aB) (.int .i64 ((⟨4,0,[],⟨#[]⟩,0,[],0,0,0⟩:dr)).aj) rfl (by simp[go_sem,r0]) (by simp[go_sem,r1]) (by simp[go_sem,r2]) (by simp[go_sem,r3]) (by simp[go_sem,r4]) (by simp[go_sem,r5]) (by simp[go_sem,r6]) (by simp[go_sem,r7]) (by simp[go_sem,Px])) rfl ?_;obtain ⟨w9,Ag⟩: ∃X,X=(((((((((wQ).setCell ⟨w.heap.size,0,none⟩ (.int .i64 ((⟨4,0,[],⟨#[]⟩,0,[],0,0,0⟩:dr)).kind)).setCell ⟨w.heap.size,1,none⟩ (.int .i64 ((⟨4,0,[],⟨#[]⟩,0,[],0,0,0⟩:dr)).member)).setCell ⟨w.heap.size,2,none⟩ (.slice none ((⟨4,0,[],⟨#[]⟩,0,[],0,0,0⟩:dr)).af.length (0))).setCell ⟨w.heap.size,3,none⟩ (.string ((⟨4,0,[],⟨#[]⟩,0,[],0,0,0⟩:dr)).al)).setCell ⟨w.heap.size,4,none⟩ (.int .i64 ((⟨4,0,[],⟨#[]⟩,0,[],0,0,0⟩:dr)).bO)).setCell ⟨w.heap.size,5,none⟩ (.slice none ((⟨4,0,[],⟨#[]⟩,0,[],0,0,0⟩:dr)).patch.length (0))).setCell ⟨w.heap.size,6,none⟩ (.int .i64 ((⟨4,0,[],⟨#[]⟩,0,[],0,0,0⟩:dr)).start)).setCell ⟨w.heap.size,7,none⟩ (.int .i64 ((⟨4,0,[],⟨#[]⟩,0,[],0,0,0⟩:dr)).aB)).setCell ⟨w.heap.size,8,none⟩ (.int .i64 ((⟨4,0,[],⟨#[]⟩,0,[],0,0,0⟩:dr)).aj):=⟨_,rfl⟩
    have xo:Touch (λc=>c=w.heap.size) (wQ) w9:=by
     rw[Ag]
     iterate 9 refine Touch.setCell (F:=λb=>b=w.heap.size) ?_ rfl _
     exact Touch.refl _ _
    have Sm:=(RX.o).size;refine ⟨(⟨4,0,[],⟨#[]⟩,0,[],0,0,0⟩:dr),none,0,none,0,rfl,?_,?_,(λe h=>by cases h),(by show (⟨#[]⟩:ByteArray).size<=maxLen;decide),?_,?_⟩
    ·have q:=ay.aD (St.o) xo (λc hc e=>by have:=(ay.dw (St.o) hc).1;omega);rw[Ag]at q;exact ay.less q (by omega)
    ·have q:=ay.aD (ay.nil ah W0.heap.size wQ) xo (λc hc e=>by have:=(ay.dw (ay.nil ah W0.heap.size wQ) hc).1;omega);rw[Ag]at q;exact ay.less q (by omega)
    ·have q:=((SN.o).more (k':=k+300) (by omega)).keep (xo.block b (by have:=HB.o;omega) (by have:=HB.o;omega)) (λi hi=>xo.block i (by have:=(SN.o).lt;omega) (by have:=(SN.o).lt;have:=HB.o;omega));rw[Ag]at q;exact q
    have q:=xq (ll kX.o (RX.o)) xo (Nat.le_refl _);rw[Ag]at q;exact q
   by_cases Tr:z7=2
   ·have e0:(z7==0)=false:=by simp[R0]
    have e1:(z7==1)=false:=by simp[Sl]
    have e2:(z7==2)=true:=by simp[Tr]
    clear R0 Sl Tr;have EA:ag (∀W',iJ b W0 W'->W'.cell? ⟨ba,3,none⟩=some (.slice Ab a.base.length cb)/\W'.cell? ⟨ba,4,none⟩=some (.slice Ac a.av.length L4)/\W'.cell? ⟨ba,0,none⟩=some (.int .i64 a.day)):=I (λW' ho=>by have r:=(xS.o W' ho).row;exact ⟨r.cell 3 _ rfl,r.cell 4 _ rfl,r.cell 0 _ rfl⟩);go_upto_region 20 with (fail)
    go_cut [11,12] (λTz TA wx=> ∃R A9 R1,Tz= .slice A9 R.length R1/\TA= .bool true/\ay ai R wQ.heap.size wx (.slice A9 R.length R1)/\cd R=true/\Src B wx b (k+10)/\iJ b W0 wx)
    case first=>
     refine wp_region_held_drew (S:=λw'=>w'.cell? ⟨ba,3,none⟩=some (.slice Ab a.base.length cb)/\w'.cell? ⟨ba,4,none⟩=some (.slice Ac a.av.length L4)/\w'.cell? ⟨ba,0,none⟩=some (.int .i64 a.day)) (by kernel_rfl) (EA.o _ (ll RX.o (m5 ((Below.refl _ _).drew)))) (λaE=>?_);obtain ⟨Pz,hX⟩: ∃X,X=(wQ).drew:=⟨_,rfl⟩
     have RZ:ag (Src B Pz b (k+10)):=I (by rw[hX];exact (SN.o).below ((Below.refl _ _).drew) (SN.o).lt.1);have wi:ag (iJ b W0 Pz):=I (by rw[hX];exact ll RX.o (m5 ((Below.refl _ _).drew)));have Vt:(wQ).heap.size<=(Pz).heap.size:=by rw[hX];exact (Below.drew (Below.refl (wQ).heap.size (wQ))).size
     have Gs:ag (iJ b (wQ) Pz):=I (by rw[hX];exact m5 ((Below.refl _ _).drew));rw[<-hX]at aE⊢;clear hX;have Lq:=wi.o.size;refine aZ 0 ?_
     try simp only[Act.put,aK,aM]
     refine aZ 1 ?_
     try simp only[Act.put,aK,aM]
     refine aZ 2 ?_
     try simp only[Act.put,aK,aM]
     refine aZ 3 ?_
     try simp only[Act.put,aK,aM]
     refine aZ 4 ?_
     try simp only[Act.put,aK,aM]
     refine aZ 5 ?_
     try simp only[Act.put,aK,aM]
     refine aZ 6 ?_
     try simp only[Act.put,aK,aM]
     refine aZ 7 ?_
     try simp only[Act.put,aK,aM]
     refine aZ 8 ?_
     try simp only[Act.put,aK,aM]
     refine aZ 9 ?_
     try simp only[Act.put,aK,aM]
     refine aZ 10 ?_
     try simp only[Act.put,aK,aM]
     refine aZ 11 ?_
     try simp only[Act.put,aK,aM]
     refine wpAnyH_ready (rs:=[12]) (by kernel_rfl) (by simp) ?_;refine AllReadyH.cons rfl (λK hK=>?_) AllReadyH.nil
     try simp only[aK]
     go_simp;go_at_call 67;refine (PB a.day 999 Pz (by omega)).mono ?_;rintro e w5 ⟨rfl,SB,rfl⟩;have bd:Below Pz.heap.size Pz (Pz.drewN SB):=below_drewN (Below.refl _ _) SB;obtain ⟨x5,Sn⟩: ∃X,X=Pz.drewN SB:=⟨_,rfl⟩
     rw[<-Sn]at bd⊢;clear Sn
     replace RZ:=I (RZ.o.below bd RZ.o.lt.1)
     replace wi:=I (ll wi.o (m5 bd))
     have Sn:=bd.size;clear bd;refine hK.out _ _ (EA.o _ wi.o) (λau=>?_);clear hK K aE;have aE:=au;clear au
     try simp only[Act.put,aM]
     refine wpAnyH_ready (rs:=[13]) (by kernel_rfl) (by simp) ?_;refine AllReadyH.cons rfl (λK hK=>?_) AllReadyH.nil
     try simp only[aK]
     go_simp;go_at_call 66;refine (Lm a.base a.av a.day x5 _ _ (xS.o _ wi.o).own.o.r.b (xS.o _ wi.o).own.o.r.c HF.o.stat HF.o.av).mono ?_;rintro e w6 ⟨v6,rfl,Sp,⟨A9,n9,R1,rfl⟩,En⟩
     obtain ⟨R,hR⟩: ∃R,nU a.base a.av a.day=some R:=by
      cases h:nU a.base a.av a.day with
      |none=>exact absurd h (HF.o.all a.day ZO Ho)
      |some R=>exact ⟨R,rfl⟩
     obtain ⟨Uk,Sk⟩:=Sp R hR;rw[hR];obtain ⟨A',c',hv,_⟩:=Uk;injection hv with Dc Hj TW
     subst Hj
     replace RZ:=I (RZ.o.below En RZ.o.lt.1)
     replace wi:=I (ll wi.o (m5 En))
     have G7:=I ((Sp R hR).1.less (b:=wQ.heap.size) (by omega));have Sq:=I Sk;clear Sp En hR Sk Dc TW;refine hK.out _ _ (EA.o _ wi.o) (λau=>?_);clear hK K aE;have aE:=au;clear au
     try simp only[Act.put,aM]
     refine aZ 14 ?_
     try simp only[Act.put,aK,aM]
     refine aZ 15 ?_
     try simp only[Act.put,aK,aM]
     refine aZ 16 ?_
     try simp only[Act.put,aK,aM]
     refine aZ 17 ?_
     try simp only[Act.put,aK,aM]
     refine aZ 18 ?_
     try simp only[Act.put,aK,aM]
     refine wpAnyH_done (by kernel_rfl) ?_ _;go_wp2;go_meet;case rel=>exact ⟨R,A9,R1,rfl,rfl,G7.o,Sq.o,RZ.o,wi.o⟩
    case rest=>
     obtain ⟨R,A9,R1,rfl,rfl,uC,Xa,Xv,Xb⟩:=hcut;obtain ⟨wb,Xz⟩: ∃X,X=wc:=⟨_,rfl⟩
     rw[<-Xz]at uC Xv Xb⊢;have XB:=Xb.size;have vD:ag (b<wQ.heap.size):=I SN.o.lt.1;have Sq:=I Xa;have XC:ag (∀W',iJ b wb W'->ay ai R wQ.heap.size W' (.slice A9 R.length R1)):=I (λW' ho=>uC.only vD.o ho);have XA:=I Xv;have jN:=I Xb;clear uC Xa Xv Xb Xz SN;go_upto_region 23 with (fail)
     go_cut [13] (λXD wx=> ∃tL l P Vu Vv,∃VQ:Int,XD= .pointer (some ⟨tL,0,none⟩)/\Row wx tL [.int .i64 3,.int .i64 z,.slice none 0 0,.string ⟨l.toArray⟩,.int .i64 0,.slice Vu P.length Vv,.int .i64 0,.int .i64 0,.int .i64 VQ]/\W0.heap.size<=tL/\tL<wx.heap.size/\b≠tL/\ay ah P W0.heap.size wx (.slice Vu P.length Vv)/\bF P=true/\qa l/\Src B wx b (k+260)/\iJ b W0 wx/\0<=VQ/\VQ<=1100/\(∀c,cx P (.slice Vu P.length Vv) c-> ¬c=tL))
     case first=>
      refine wp_mono (akP _ _ _ _ _ _ _ _ _ _ _ _ _ _ _ _ _ _ _ _ _ _ _ _ _ _ _ _ _ _ _ _ _ _ _ _ _ _ _ _ _ _ _ _ _ _ _ _ _ _ _ _ _ _ _ _ _ _ _ _ _ _ _ _ _ _ _ _ _ _ _ _ _ _ _ _ _ _ _ _ _ _ _ _ _ _ _ _ _ _ _ _ _ _ _ _ _ _ _ _ _ _ _ _ _ _ _ _ _ _ _ _ _ _ _ _ _ _ _ _ _ _ _ _ _ _ _ _ _ _ _ _ _ _ _ _ _ _ _ _ _ _ _ _ _ _ _ _ _ _ _ _ _ _ hk HB KC KD ZO Ho XB RX vD Sq XC XA jN EA) ?_;intro x a' w' hx;cases x<;>first|exact False.elim hx|skip
      obtain ⟨tL,l,P,Vu,Vv,VQ,v96,v97,v98,v99,amn,amo,amp,amq,amr,v105,ams,v107,amt,v109,amu,rfl,Of⟩:=hx;have SI:=I Of;clear Of;go_wp2;go_meet;case rel=>exact ⟨tL,l,P,Vu,Vv,VQ,rfl,SI.o⟩
     case rest=>
      obtain ⟨tL,l,P,Vu,Vv,VQ,rfl,XF,Xy,fG,qp,XG,XJ,Ij,XH,XI,xE,pQ,hpg⟩:=hcut;obtain ⟨wd,Pc⟩: ∃X,X=wc:=⟨_,rfl⟩
      rw[<-Pc]at XF fG XG XH XI⊢;have HA:=I XF;have HP:=I XG;have W8:=I XJ;have J2:=I Ij;have ZC:=I XH;have Si:=I XI;have HPG:=I hpg;have hwz:=Si.o.size;clear XF XG XJ Ij XH XI hpg Pc EA XC Sq XA jN;go_upto_region 24 with (fail)
      go_cut [] (λwx=> ∃XE:Int,Row wx tL [.int .i64 3,.int .i64 z,.slice none 0 0,.string ⟨l.toArray⟩,.int .i64 0,.slice Vu P.length Vv,.int .i64 XE,.int .i64 0,.int .i64 VQ]/\tL<wx.heap.size/\ay ah P W0.heap.size wx (.slice Vu P.length Vv)/\Src B wx b (k+264)/\iJ b W0 wx/\0<=XE/\XE<=1200)
      case first=>
       have kW:ag (∀W',iJ b wd W'->Row W' tL [.int .i64 3,.int .i64 z,.slice none 0 0,.string ⟨l.toArray⟩,.int .i64 0,.slice Vu P.length Vv,.int .i64 0,.int .i64 0,.int .i64 VQ]):=I (λW' ho=>HA.o.only fG (by omega) ho);have EA:ag (∀W',iJ b wd W'->W'.cell? ⟨tL,8,none⟩=some (.int .i64 VQ)):=I (λW' ho=>(kW.o W' ho).cell 8 _ rfl);have aiD:ag (iJ b wd wd):=I ⟨rfl,rfl,rfl,Nat.le_refl _,λ_ _ _=>rfl⟩;refine wp_region_held_drew (S:=λw'=>w'.cell? ⟨tL,8,none⟩=some (.int .i64 VQ)) (by kernel_rfl) (EA.o _ (ll aiD.o (m5 ((Below.refl _ _).drew)))) (λaE=>?_);obtain ⟨Pz,hX⟩: ∃X,X=(wd).drew:=⟨_,rfl⟩
       have RZ:ag (Src B Pz b (k+260)):=I (by rw[hX];exact (ZC.o).below ((Below.refl _ _).drew) (ZC.o).lt.1);have wi:ag (iJ b wd Pz):=I (by rw[hX];exact ll aiD.o (m5 ((Below.refl _ _).drew)));have Vt:(wd).heap.size<=(Pz).heap.size:=by rw[hX];exact (Below.drew (Below.refl (wd).heap.size (wd))).size
       have Gs:ag (iJ b (wd) Pz):=I (by rw[hX];exact m5 ((Below.refl _ _).drew));rw[<-hX]at aE⊢;clear hX;clear Gs aiD;refine aZ 0 ?_
       try simp only[Act.put,aK,aM]
       refine aZ 1 ?_
       try simp only[Act.put,aK,aM]
       refine aZ 2 ?_
       try simp only[Act.put,aK,aM]
       refine wpAnyH_ready (rs:=[3]) (by kernel_rfl) (by simp) ?_;refine AllReadyH.cons rfl (λK hK=>?_) AllReadyH.nil
       try simp only[aK]
       go_simp;go_at_call 17;refine (tX B b _ 3 Pz RZ.o (by omega) (by omega) (by omega)).mono ?_;rintro e VV ⟨xc,Xx,rfl,hs,ho⟩
       replace RZ:=I hs
       replace wi:=I (ll wi.o ho)
       clear hs ho;refine hK.out _ _ (EA.o _ wi.o) (λau=>?_);clear hK K aE;have aE:=au;clear au
       try simp only[Act.put,aM]
       refine aZ 4 ?_
       try simp only[Act.put,aK,aM]
       refine aZ 5 ?_
       try simp only[Act.put,aK,aM]
       refine wpAnyH_ready (rs:=[6]) (by kernel_rfl) (by simp) ?_;refine AllReadyH.cons rfl (λK hK=>?_) AllReadyH.nil
       try simp only[aK]
       have Rz:=kW.o VV wi.o;have q0:=Rz.cell 6 _ rfl;have f0:=Rz.free 6 (by simp);go_simp;rw[(IntWalk.i64_in (VQ+(xc:Int)) (by omega):IntKind.i64.wrap (VQ+(xc:Int))=VQ+(xc:Int))];have W6:=Rz.set 6 (.int .i64 (VQ+(xc:Int))) (by simp);have xo:Touch (λc=>c=tL) VV (VV.setCell ⟨tL,6,none⟩ (.int .i64 (VQ+(xc:Int)))):=Touch.setCell (F:=λc=>c=tL) (Touch.refl _ VV) rfl _;obtain ⟨w9,Ag⟩: ∃X,X=VV.setCell ⟨tL,6,none⟩ (.int .i64 (VQ+(xc:Int))):=⟨_,rfl⟩
       rw[<-Ag]at W6 xo⊢;have VX:iJ b W0 w9:=xq (ll Si.o wi.o) xo Xy;have ja:=wi.o.size;have RC:=RZ.o.keep (xo.block b RZ.o.lt.1 (by have:=HB.o;omega)) (λi hi=>xo.block i (by have:=RZ.o.lt;omega) (by have:=RZ.o.lt;have:=HB.o;omega));have W7:=ay.aD (HP.o.only (by have:=HB.o;omega) wi.o) xo (λc hc e=>HPG.o c hc e);clear Ag q0 f0 Rz;have hc9:w9.cell? ⟨tL,8,none⟩=some (.int .i64 VQ):=W6.cell 8 _ rfl;refine hK.out _ _ (hc9) (λau=>?_);clear hK K aE;have aE:=au;clear au
       try simp only[Act.put,aM]
       refine wpAnyH_done (by kernel_rfl) ?_ _;go_wp2;go_meet;case rel=>exact ⟨VQ+(xc:Int),W6,Nat.lt_of_lt_of_le (Nat.lt_of_lt_of_le fG ja) xo.size,W7,RC.more (by omega),VX,by omega,by omega⟩
      case rest=>
       obtain ⟨XE,I3,aiA,P2,M0,K3,hf0,Sb⟩:=hcut;obtain ⟨wf,hwf⟩: ∃X,X=wc:=⟨_,rfl⟩
       rw[<-hwf]at I3 aiA P2 M0 K3⊢
       replace HA:=I I3
       replace HP:=I P2
       replace ZC:=I M0
       replace Si:=I K3
       replace fG:=aiA
       clear I3 aiA P2 M0 K3 hwf hwz;go_upto_region 25 with (fail)
       go_cut [] (λwx=> ∃aiu:Int,Row wx tL [.int .i64 3,.int .i64 z,.slice none 0 0,.string ⟨l.toArray⟩,.int .i64 0,.slice Vu P.length Vv,.int .i64 XE,.int .i64 aiu,.int .i64 VQ]/\tL<wx.heap.size/\ay ah P W0.heap.size wx (.slice Vu P.length Vv)/\Src B wx b (k+268)/\iJ b W0 wx/\0<=aiu/\aiu<=1300)
       case first=>
        have kW:ag (∀W',iJ b wf W'->Row W' tL [.int .i64 3,.int .i64 z,.slice none 0 0,.string ⟨l.toArray⟩,.int .i64 0,.slice Vu P.length Vv,.int .i64 XE,.int .i64 0,.int .i64 VQ]):=I (λW' ho=>HA.o.only fG (by omega) ho);have EA:ag (∀W',iJ b wf W'->W'.cell? ⟨tL,6,none⟩=some (.int .i64 XE)):=I (λW' ho=>(kW.o W' ho).cell 6 _ rfl);have aiD:ag (iJ b wf wf):=I ⟨rfl,rfl,rfl,Nat.le_refl _,λ_ _ _=>rfl⟩;refine wp_region_held_drew (S:=λw'=>w'.cell? ⟨tL,6,none⟩=some (.int .i64 XE)) (by kernel_rfl) (EA.o _ (ll aiD.o (m5 ((Below.refl _ _).drew)))) (λaE=>?_);obtain ⟨Pz,hX⟩: ∃X,X=(wf).drew:=⟨_,rfl⟩
        have RZ:ag (Src B Pz b (k+264)):=I (by rw[hX];exact (ZC.o).below ((Below.refl _ _).drew) (ZC.o).lt.1);have wi:ag (iJ b wf Pz):=I (by rw[hX];exact ll aiD.o (m5 ((Below.refl _ _).drew)));have Vt:(wf).heap.size<=(Pz).heap.size:=by rw[hX];exact (Below.drew (Below.refl (wf).heap.size (wf))).size
        have Gs:ag (iJ b (wf) Pz):=I (by rw[hX];exact m5 ((Below.refl _ _).drew));rw[<-hX]at aE⊢;clear hX;clear Gs aiD;refine aZ 0 ?_
        try simp only[Act.put,aK,aM]
        refine aZ 1 ?_
        try simp only[Act.put,aK,aM]
        refine aZ 2 ?_
        try simp only[Act.put,aK,aM]
        refine aZ 3 ?_
        try simp only[Act.put,aK,aM]
        refine wpAnyH_ready (rs:=[4]) (by kernel_rfl) (by simp) ?_;refine AllReadyH.cons rfl (λK hK=>?_) AllReadyH.nil
        try simp only[aK]
        go_simp;go_at_call 17;refine (tX B b _ 9 Pz RZ.o (by omega) (by omega) (by omega)).mono ?_;rintro e VV ⟨xc,Xx,rfl,hs,ho⟩
        replace RZ:=I hs
        replace wi:=I (ll wi.o ho)
        clear hs ho;refine hK.out _ _ (EA.o _ wi.o) (λau=>?_);clear hK K aE;have aE:=au;clear au
        try simp only[Act.put,aM]
        refine aZ 5 ?_
        try simp only[Act.put,aK,aM]
        refine aZ 6 ?_
        try simp only[Act.put,aK,aM]
        refine wpAnyH_ready (rs:=[7]) (by kernel_rfl) (by simp) ?_;refine AllReadyH.cons rfl (λK hK=>?_) AllReadyH.nil
        try simp only[aK]
        have Rz:=kW.o VV wi.o;have q0:=Rz.cell 7 _ rfl;have f0:=Rz.free 7 (by simp);go_simp;rw[show IntKind.i64.wrap (IntKind.i64.wrap (XE+1)+(xc:Int))=XE+1+(xc:Int)from by rw[(IntWalk.i64_in (XE+1) (by omega):IntKind.i64.wrap (XE+1)=XE+1),(IntWalk.i64_in (XE+1+(xc:Int)) (by omega):IntKind.i64.wrap (XE+1+(xc:Int))=XE+1+(xc:Int))]];have W6:=Rz.set 7 (.int .i64 (XE+1+(xc:Int))) (by simp);have xo:Touch (λc=>c=tL) VV (VV.setCell ⟨tL,7,none⟩ (.int .i64 (XE+1+(xc:Int)))):=Touch.setCell (F:=λc=>c=tL) (Touch.refl _ VV) rfl _;obtain ⟨w9,Ag⟩: ∃X,X=VV.setCell ⟨tL,7,none⟩ (.int .i64 (XE+1+(xc:Int))):=⟨_,rfl⟩
        rw[<-Ag]at W6 xo⊢;have VX:iJ b W0 w9:=xq (ll Si.o wi.o) xo Xy;have ja:=wi.o.size;have RC:=RZ.o.keep (xo.block b RZ.o.lt.1 (by have:=HB.o;omega)) (λi hi=>xo.block i (by have:=RZ.o.lt;omega) (by have:=RZ.o.lt;have:=HB.o;omega));have W7:=ay.aD (HP.o.only (by have:=HB.o;omega) wi.o) xo (λc hc e=>HPG.o c hc e);clear Ag q0 f0 Rz;have hc9:w9.cell? ⟨tL,6,none⟩=some (.int .i64 XE):=W6.cell 6 _ rfl;refine hK.out _ _ (hc9) (λau=>?_);clear hK K aE;have aE:=au;clear au
        try simp only[Act.put,aM]
        refine wpAnyH_done (by kernel_rfl) ?_ _;go_wp2;go_meet;case rel=>exact ⟨XE+1+(xc:Int),W6,Nat.lt_of_lt_of_le (Nat.lt_of_lt_of_le fG ja) xo.size,W7,RC.more (by omega),VX,by omega,by omega⟩
       case rest=>
        obtain ⟨aiu,I3,aiA,P2,M0,K3,qo,hu1⟩:=hcut;obtain ⟨aiv,hwu⟩: ∃X,X=wc:=⟨_,rfl⟩
        rw[<-hwu]at I3 aiA P2 M0 K3⊢
        replace HA:=I I3
        replace HP:=I P2
        replace ZC:=I M0
        replace Si:=I K3
        replace fG:=aiA
        clear I3 aiA P2 M0 K3 hwu;go_wp2_with (fail);refine (jb B b _ 2 aiv ZC.o (by omega) (by omega) (by omega)).mono ?_;rintro e Ti ⟨y1,rfl,Cb,aiB⟩;have Cj:=I (HA.o.only fG (by omega) aiB);have I5:=I (HP.o.only (by have:=HB.o;omega) aiB);have tN:=I Cb;have jh:=I (ll Si.o aiB);have aiC:=Nat.lt_of_lt_of_le fG aiB.size;clear Cb aiB HA HP ZC Si fG;go_upto_if 125 with (fail)
        go_cut [] (λwx=> ∃aiu:Int,Row wx tL [.int .i64 3,.int .i64 z,.slice none 0 0,.string ⟨l.toArray⟩,.int .i64 0,.slice Vu P.length Vv,.int .i64 XE,.int .i64 aiu,.int .i64 VQ]/\tL<wx.heap.size/\ay ah P W0.heap.size wx (.slice Vu P.length Vv)/\Src B wx b (k+272)/\iJ b W0 wx)
        case first=>
         cases y1 with
         |true=>
          have q0:=Cj.o.cell 7 _ rfl;have f0:=Cj.o.free 7 (by simp);have W6:=Cj.o.set 7 (.int .i64 1000) (by simp);have xo:Touch (λc=>c=tL) Ti (Ti.setCell ⟨tL,7,none⟩ (.int .i64 1000)):=Touch.setCell (F:=λc=>c=tL) (Touch.refl _ Ti) rfl _;have T3:=I (And.intro W6 (And.intro (Nat.lt_of_lt_of_le aiC xo.size) (And.intro (ay.aD I5.o xo (λc hc e=>HPG.o c hc e)) (And.intro (tN.o.keep (xo.block b tN.o.lt.1 (by have:=HB.o;omega)) (λi hi=>xo.block i (by have:=tN.o.lt;omega) (by have:=tN.o.lt;have:=HB.o;omega))) (xq jh.o xo Xy)))));clear W6 xo;go_wp2;go_meet;case rel=>exact ⟨1000,T3.o.1,T3.o.2.1,T3.o.2.2.1,T3.o.2.2.2.1.more (by omega),T3.o.2.2.2.2⟩
         |false=>
          go_wp2;go_meet;case rel=>exact ⟨aiu,Cj.o,aiC,I5.o,tN.o.more (by omega),jh.o⟩
        case rest=>
         obtain ⟨aiu,I3,aiA,P2,M0,K3⟩:=hcut;obtain ⟨aiw,hwy⟩: ∃X,X=wc:=⟨_,rfl⟩
         rw[<-hwy]at I3 aiA P2 M0 K3⊢;have HA:=I I3;have HP:=I P2;have ZC:=I M0;have Si:=I K3;have fG:=aiA;clear I3 aiA P2 M0 K3 hwy Cj I5 tN jh aiC;go_wp2_with (fail);refine (jb B b _ 16 aiw ZC.o (by omega) (by omega) (by omega)).mono ?_;rintro e Ti ⟨y1,rfl,Cb,aiB⟩;have Cj:=I (HA.o.only fG (by omega) aiB);have I5:=I (HP.o.only (by have:=HB.o;omega) aiB);have tN:=I Cb;have jh:=I (ll Si.o aiB);have aiC:=Nat.lt_of_lt_of_le fG aiB.size;clear Cb aiB HA HP ZC Si fG;go_upto_if 128 with (fail)
         go_cut [] (λwx=> ∃XE:Int,Row wx tL [.int .i64 3,.int .i64 z,.slice none 0 0,.string ⟨l.toArray⟩,.int .i64 0,.slice Vu P.length Vv,.int .i64 XE,.int .i64 aiu,.int .i64 VQ]/\tL<wx.heap.size/\ay ah P W0.heap.size wx (.slice Vu P.length Vv)/\Src B wx b (k+276)/\iJ b W0 wx)
         case first=>
          cases y1 with
          |true=>
           go_wp2_with (fail);refine (tX B b _ 4 Ti tN.o (by omega) (by omega) (by omega)).mono ?_;rintro e KX ⟨x11,aiI,rfl,aiF,aiE⟩;have WS:=I (Cj.o.only aiC (by omega) aiE)
           replace I5:=I (I5.o.only (by have:=HB.o;omega) aiE)
           replace tN:=I aiF
           replace jh:=I (ll jh.o aiE)
           replace aiC:=Nat.lt_of_lt_of_le aiC aiE.size
           clear aiF aiE;have q0:=WS.o.cell 6 _ rfl;have f0:=WS.o.free 6 (by simp);have W6:=WS.o.set 6 (.int .i64 (x11:Int)) (by simp);have xo:Touch (λc=>c=tL) KX (KX.setCell ⟨tL,6,none⟩ (.int .i64 (x11:Int))):=Touch.setCell (F:=λc=>c=tL) (Touch.refl _ KX) rfl _;have T3:=I (And.intro W6 (And.intro (Nat.lt_of_lt_of_le aiC xo.size) (And.intro (ay.aD I5.o xo (λc hc e=>HPG.o c hc e)) (And.intro (tN.o.keep (xo.block b tN.o.lt.1 (by have:=HB.o;omega)) (λi hi=>xo.block i (by have:=tN.o.lt;omega) (by have:=tN.o.lt;have:=HB.o;omega))) (xq jh.o xo Xy)))));clear W6 xo;go_wp2;go_meet;case rel=>exact ⟨x11,T3.o.1,T3.o.2.1,T3.o.2.2.1,T3.o.2.2.2.1.more (by omega),T3.o.2.2.2.2⟩
          |false=>
           go_wp2;go_meet;case rel=>exact ⟨XE,Cj.o,aiC,I5.o,tN.o.more (by omega),jh.o⟩
         case rest=>
          obtain ⟨XE,I3,aiA,P2,M0,K3⟩:=hcut;obtain ⟨aix,aiG⟩: ∃X,X=wc:=⟨_,rfl⟩
          rw[<-aiG]at I3 aiA P2 M0 K3⊢;have g0:=I3.cell 0 _ rfl;have g1:=I3.cell 1 _ rfl;have g2:=I3.cell 2 _ rfl;have g3:=I3.cell 3 _ rfl;have g4:=I3.cell 4 _ rfl;have g5:=I3.cell 5 _ rfl;have g6:=I3.cell 6 _ rfl;have g7:=I3.cell 7 _ rfl;have g8:=I3.cell 8 _ rfl;have OO:=I P2;have lr:=I M0;have HOZ:=I K3;have St:=I (ay.nil ak W0.heap.size aix)
          have gQ:ag ((⟨l.toArray⟩:ByteArray).size<=maxLen):=I (by
           have e1:(⟨l.toArray⟩:ByteArray).toList=l:=by rw[ByteArray.toList_eq]
           have hl:=J2.o;rw[ais,e1];unfold qa at hl;unfold maxLen;omega)
          clear I3 aiA P2 M0 K3 aiG Cj I5 tN jh;have kW:=Sr.o aix HOZ.o;have r0:=kW.cell 0 _ rfl;have r1:=kW.cell 1 _ rfl;have r2:=kW.cell 2 _ rfl;have r3:=kW.cell 3 _ rfl;have r4:=kW.cell 4 _ rfl;have r5:=kW.cell 5 _ rfl;have r6:=kW.cell 6 _ rfl;have r7:=kW.cell 7 _ rfl;have Px:=kW.cell 8 _ rfl;have s0:=kW.free 0 (by simp);have s1:=kW.free 1 (by simp);have s2:=kW.free 2 (by simp);have s3:=kW.free 3 (by simp);have s4:=kW.free 4 (by simp);have s5:=kW.free 5 (by simp);have s6:=kW.free 6 (by simp);have s7:=kW.free 7 (by simp);have Py:=kW.free 8 (by simp);clear kW;go_wp2
          have gD: ∀(ac:Go.Act) (w':World) (v0 v1 v2 v3 v4 v5 v6 v7 v8:Value),ac.tmps[4]?=some (.pointer (some ⟨w.heap.size,0,none⟩))->w'.cell? ⟨w.heap.size,0,none⟩=some v0->w'.cell? ⟨w.heap.size,1,none⟩=some v1->w'.cell? ⟨w.heap.size,2,none⟩=some v2->w'.cell? ⟨w.heap.size,3,none⟩=some v3->w'.cell? ⟨w.heap.size,4,none⟩=some v4->w'.cell? ⟨w.heap.size,5,none⟩=some v5->w'.cell? ⟨w.heap.size,6,none⟩=some v6->w'.cell? ⟨w.heap.size,7,none⟩=some v7->w'.cell? ⟨w.heap.size,8,none⟩=some v8->(results f43 ac.tmps).run prog w'= .ok (.agg #[v0,v1,v2,v3,v4,v5,v6,v7,v8]) w':=by
           intro ac w' v0 v1 v2 v3 v4 v5 v6 v7 v8 ha h0 h1 h2 h3 h4 h5 h6 h7 h8;simp[results,results43,go_sem,ha,h0,h1,h2,h3,h4,h5,h6,h7,h8]
          refine bodyPost_ret (gD _ _ (.int .i64 ((⟨3,z,[],⟨l.toArray⟩,0,P,XE,aiu,VQ⟩:dr)).kind) (.int .i64 ((⟨3,z,[],⟨l.toArray⟩,0,P,XE,aiu,VQ⟩:dr)).member) (.slice none ((⟨3,z,[],⟨l.toArray⟩,0,P,XE,aiu,VQ⟩:dr)).af.length (0)) (.string ((⟨3,z,[],⟨l.toArray⟩,0,P,XE,aiu,VQ⟩:dr)).al) (.int .i64 ((⟨3,z,[],⟨l.toArray⟩,0,P,XE,aiu,VQ⟩:dr)).bO) (.slice Vu ((⟨3,z,[],⟨l.toArray⟩,0,P,XE,aiu,VQ⟩:dr)).patch.length (Vv)) (.int .i64 ((⟨3,z,[],⟨l.toArray⟩,0,P,XE,aiu,VQ⟩:dr)).start) (.int .i64 ((⟨3,z,[],⟨l.toArray⟩,0,P,XE,aiu,VQ⟩:dr)).aB) (.int .i64 ((⟨3,z,[],⟨l.toArray⟩,0,P,XE,aiu,VQ⟩:dr)).aj) rfl (by simp[go_sem,r0]) (by simp[go_sem,r1]) (by simp[go_sem,r2]) (by simp[go_sem,r3]) (by simp[go_sem,r4]) (by simp[go_sem,r5]) (by simp[go_sem,r6]) (by simp[go_sem,r7]) (by simp[go_sem,Px])) rfl ?_;obtain ⟨w9,Ag⟩: ∃X,X=(((((((((aix).setCell ⟨w.heap.size,0,none⟩ (.int .i64 ((⟨3,z,[],⟨l.toArray⟩,0,P,XE,aiu,VQ⟩:dr)).kind)).setCell ⟨w.heap.size,1,none⟩ (.int .i64 ((⟨3,z,[],⟨l.toArray⟩,0,P,XE,aiu,VQ⟩:dr)).member)).setCell ⟨w.heap.size,2,none⟩ (.slice none ((⟨3,z,[],⟨l.toArray⟩,0,P,XE,aiu,VQ⟩:dr)).af.length (0))).setCell ⟨w.heap.size,3,none⟩ (.string ((⟨3,z,[],⟨l.toArray⟩,0,P,XE,aiu,VQ⟩:dr)).al)).setCell ⟨w.heap.size,4,none⟩ (.int .i64 ((⟨3,z,[],⟨l.toArray⟩,0,P,XE,aiu,VQ⟩:dr)).bO)).setCell ⟨w.heap.size,5,none⟩ (.slice Vu ((⟨3,z,[],⟨l.toArray⟩,0,P,XE,aiu,VQ⟩:dr)).patch.length (Vv))).setCell ⟨w.heap.size,6,none⟩ (.int .i64 ((⟨3,z,[],⟨l.toArray⟩,0,P,XE,aiu,VQ⟩:dr)).start)).setCell ⟨w.heap.size,7,none⟩ (.int .i64 ((⟨3,z,[],⟨l.toArray⟩,0,P,XE,aiu,VQ⟩:dr)).aB)).setCell ⟨w.heap.size,8,none⟩ (.int .i64 ((⟨3,z,[],⟨l.toArray⟩,0,P,XE,aiu,VQ⟩:dr)).aj):=⟨_,rfl⟩
          have xo:Touch (λc=>c=w.heap.size) (aix) w9:=by
           rw[Ag]
           iterate 9 refine Touch.setCell (F:=λb=>b=w.heap.size) ?_ rfl _
           exact Touch.refl _ _
          have Sm:=(HOZ.o).size;refine ⟨(⟨3,z,[],⟨l.toArray⟩,0,P,XE,aiu,VQ⟩:dr),none,0,Vu,Vv,rfl,?_,?_,lC W8.o,gQ.o,?_,?_⟩
          ·have q:=ay.aD (St.o) xo (λc hc e=>by have:=(ay.dw (St.o) hc).1;omega);rw[Ag]at q;exact ay.less q (by omega)
          ·have q:=ay.aD (OO.o) xo (λc hc e=>by have:=(ay.dw (OO.o) hc).1;omega);rw[Ag]at q;exact ay.less q (by omega)
          ·have q:=((lr.o).more (k':=k+300) (by omega)).keep (xo.block b (by have:=HB.o;omega) (by have:=HB.o;omega)) (λi hi=>xo.block i (by have:=(lr.o).lt;omega) (by have:=(lr.o).lt;have:=HB.o;omega));rw[Ag]at q;exact q
          have q:=xq (ll kX.o (HOZ.o)) xo (Nat.le_refl _);rw[Ag]at q;exact q
   have e0:(z7==0)=false:=by simp[R0]
   have e1:(z7==1)=false:=by simp[Sl]
   have e2:(z7==2)=false:=by simp[Tr]
   have h0:0<a.ao.length:=by
    rcases Nat.eq_zero_or_pos a.ao.length with h|h
    ·exact absurd (Vr.o h) Tr
    exact h
   clear R0 Sl Tr;have M4:=RX.o.size;go_wp2_with (fail);refine (qb B b _ wQ SN.o (by omega)).mono ?_;rintro e w5 ⟨l,hl,rfl,c8,cc⟩;have bx:=I c8;have b1:=I (ll RX.o cc)
   have J2:ag ((⟨l.toArray⟩:ByteArray).size<=maxLen):=I (by
    have e1:(⟨l.toArray⟩:ByteArray).toList=l:=by rw[ByteArray.toList_eq]
    rw[ais,e1];unfold qa at hl;unfold maxLen;omega)
   clear c8 cc hl SN RX;go_wp2_with (fail);refine (jb B b _ 12 w5 bx.o (by omega) (by omega) (by omega)).mono ?_;rintro e w6 ⟨y,rfl,Xv,Xb⟩;have c9:=I Xv;have zl:=I (ll b1.o Xb);clear Xv Xb bx b1;go_upto_if 137 with (fail)
   go_cut [14] (λs14 wx=> ∃t:ByteArray,s14= .string t/\t.size<=maxLen/\Src B wx b (k+30)/\iJ b W0 wx)
   case first=>
    cases y with
    |true=>
     go_wp2;go_meet;case rel=>exact ⟨_,rfl,J2.o,c9.o.more (by omega),zl.o⟩
    |false=>
     obtain ⟨g,cap,y0,B1,d1,B2,d2,hM,qp,WY⟩:=(xS.o w6 zl.o).ko (List.getElem?_eq_getElem h0);have bi:=hM.row;have nQ:=(xS.o w6 zl.o).G5;injection bi with qm aiH MS
     subst qm;have EA:ag (∀W',iJ b W0 W'->W'.cell? ⟨ba,5,none⟩=some (.slice (some ⟨g,0,none⟩) a.ao.length L1)):=I (λW' ho=>(xS.o W' ho).row.cell 5 _ rfl)
     have gQ:ag (∀W' (i:Nat) (m:gu),iJ b W0 W'->a.ao[i]?=some m->W'.cell? ⟨g,i*8,none⟩=some (.string m.al)/\m.al.size<=maxLen):=I (λW' i m ho hm=>by
      obtain ⟨g',fq,y',B1',d1',B2',d2',hM',_,_⟩:=(xS.o W' ho).ko hm;have NB:=hM'.row;injection NB with q1 q2 q3
      injection q1 with q1
      injection q1 with q1
      subst q1;have q:=(hM'.cell 0 _ rfl).1;rw[Nat.add_zero]at q;exact ⟨by rw[q,<-hM'.P9],(HF.o.nn.m m (List.mem_of_getElem? hm)).1⟩)
     clear hM qp WY nQ aiH MS J2;go_upto_region 33 with (fail)
     refine wp_region_held_drew (S:=λw'=>w'.cell? ⟨ba,5,none⟩=some (.slice (some ⟨g,0,none⟩) a.ao.length L1)) (by kernel_rfl) (EA.o _ (ll zl.o (m5 ((Below.refl _ _).drew)))) (λaE=>?_);obtain ⟨Pz,hX⟩: ∃X,X=(w6).drew:=⟨_,rfl⟩
     have RZ:ag (Src B Pz b (k+10+4+2)):=I (by rw[hX];exact (c9.o).below ((Below.refl _ _).drew) (c9.o).lt.1);have wi:ag (iJ b W0 Pz):=I (by rw[hX];exact ll zl.o (m5 ((Below.refl _ _).drew)));have Vt:(w6).heap.size<=(Pz).heap.size:=by rw[hX];exact (Below.drew (Below.refl (w6).heap.size (w6))).size
     have Gs:ag (iJ b (w6) Pz):=I (by rw[hX];exact m5 ((Below.refl _ _).drew));rw[<-hX]at aE⊢;clear hX;clear Gs;refine aZ 0 ?_
     try simp only[Act.put,aK,aM]
     refine aZ 1 ?_
     try simp only[Act.put,aK,aM]
     refine aZ 2 ?_
     try simp only[Act.put,aK,aM]
     refine aZ 3 ?_
     try simp only[Act.put,aK,aM]
     refine aZ 4 ?_
     try simp only[Act.put,aK,aM]
     refine aZ 5 ?_
     try simp only[Act.put,aK,aM]
     refine aZ 6 ?_
     try simp only[Act.put,aK,aM]
     refine aZ 7 ?_
     try simp only[Act.put,aK,aM]
     refine aZ 8 ?_
     try simp only[Act.put,aK,aM]
     refine aZ 9 ?_
     try simp only[Act.put,aK,aM]
     refine wpAnyH_ready (rs:=[10]) (by kernel_rfl) (by simp) ?_;refine AllReadyH.cons rfl (λK hK=>?_) AllReadyH.nil
     try simp only[aK]
     go_simp;go_at_call 17;refine (tX B b _ (a.ao.length:Int) Pz RZ.o (by omega) (by omega) (by omega)).mono ?_;rintro e VV ⟨aiy,hxi,rfl,hs,ho⟩
     replace RZ:=I hs
     replace wi:=I (ll wi.o ho)
     clear hs ho;have sY:aiy<a.ao.length:=by omega
     obtain ⟨x13,H5⟩:=gQ.o VV aiy _ wi.o (List.getElem?_eq_getElem sY);have Lc:=I H5;generalize a.ao[aiy].al=tt at*;clear H5;refine hK.out _ _ (EA.o _ wi.o) (λau=>?_);clear hK K aE;have aE:=au;clear au
     try simp only[Act.put,aM]
     refine aZ 11 ?_
     try simp only[Act.put,aK,aM]
     refine aZ 12 ?_
     try simp only[Act.put,aK,aM]
     refine wpAnyH_ready (rs:=[13]) (by kernel_rfl) (by simp) ?_;refine AllReadyH.cons rfl (λK hK=>?_) AllReadyH.nil
     try simp only[aK]
     go_simp;refine hK.out _ _ (EA.o _ wi.o) (λau=>?_);clear hK K aE;have aE:=au;clear au
     try simp only[Act.put,aM]
     refine aZ 14 ?_
     try simp only[Act.put,aK,aM]
     refine wpAnyH_done (by kernel_rfl) ?_ _;go_wp2;go_meet;case rel=>exact ⟨tt,rfl,Lc.o,RZ.o.more (by omega),wi.o⟩
   case rest=>
    obtain ⟨t,rfl,H5,XH,XI⟩:=hcut;obtain ⟨aiz,hwv⟩: ∃X,X=wc:=⟨_,rfl⟩
    rw[<-hwv]at XH XI⊢;have Lc:=I H5;have T0:=I XH;have Uf:=I XI;clear H5 XH XI hwv c9 zl;go_wp2_with (fail);refine (sE (λ_=>True) B b _ aiz.heap.size 7 7 _ (T0.o.alloc _) (by omega) (by omega) (by omega) (by simp) (by have:=T0.o.lt.1;omega) (rb _ aiz 2 [0,1,1,1,2,2,3] (λ_ _=>trivial))).mono ?_;rintro e w8 ⟨v,-,rfl,M0,K3⟩;have I1:=I M0;have T9:=I (ll Uf.o (ll (m5 ((Below.refl aiz.heap.size aiz).alloc (Nat.le_refl _) _)) K3));have St:=I (ay.nil ak W0.heap.size w8);clear M0 K3 T0 Uf;have kW:=Sr.o w8 T9.o;have r0:=kW.cell 0 _ rfl;have r1:=kW.cell 1 _ rfl;have r2:=kW.cell 2 _ rfl;have r3:=kW.cell 3 _ rfl;have r4:=kW.cell 4 _ rfl;have r5:=kW.cell 5 _ rfl;have r6:=kW.cell 6 _ rfl;have r7:=kW.cell 7 _ rfl;have Px:=kW.cell 8 _ rfl;have s0:=kW.free 0 (by simp);have s1:=kW.free 1 (by simp);have s2:=kW.free 2 (by simp);have s3:=kW.free 3 (by simp);have s4:=kW.free 4 (by simp);have s5:=kW.free 5 (by simp);have s6:=kW.free 6 (by simp);have s7:=kW.free 7 (by simp);have Py:=kW.free 8 (by simp);clear kW;go_wp2
    have gD: ∀(ac:Go.Act) (w':World) (v0 v1 v2 v3 v4 v5 v6 v7 v8:Value),ac.tmps[4]?=some (.pointer (some ⟨w.heap.size,0,none⟩))->w'.cell? ⟨w.heap.size,0,none⟩=some v0->w'.cell? ⟨w.heap.size,1,none⟩=some v1->w'.cell? ⟨w.heap.size,2,none⟩=some v2->w'.cell? ⟨w.heap.size,3,none⟩=some v3->w'.cell? ⟨w.heap.size,4,none⟩=some v4->w'.cell? ⟨w.heap.size,5,none⟩=some v5->w'.cell? ⟨w.heap.size,6,none⟩=some v6->w'.cell? ⟨w.heap.size,7,none⟩=some v7->w'.cell? ⟨w.heap.size,8,none⟩=some v8->(results f43 ac.tmps).run prog w'= .ok (.agg #[v0,v1,v2,v3,v4,v5,v6,v7,v8]) w':=by
     intro ac w' v0 v1 v2 v3 v4 v5 v6 v7 v8 ha h0 h1 h2 h3 h4 h5 h6 h7 h8;simp[results,results43,go_sem,ha,h0,h1,h2,h3,h4,h5,h6,h7,h8]
    refine bodyPost_ret (gD _ _ (.int .i64 ((⟨2,z,[],t,v,[],0,0,0⟩:dr)).kind) (.int .i64 ((⟨2,z,[],t,v,[],0,0,0⟩:dr)).member) (.slice none ((⟨2,z,[],t,v,[],0,0,0⟩:dr)).af.length (0)) (.string ((⟨2,z,[],t,v,[],0,0,0⟩:dr)).al) (.int .i64 ((⟨2,z,[],t,v,[],0,0,0⟩:dr)).bO) (.slice none ((⟨2,z,[],t,v,[],0,0,0⟩:dr)).patch.length (0)) (.int .i64 ((⟨2,z,[],t,v,[],0,0,0⟩:dr)).start) (.int .i64 ((⟨2,z,[],t,v,[],0,0,0⟩:dr)).aB) (.int .i64 ((⟨2,z,[],t,v,[],0,0,0⟩:dr)).aj) rfl (by simp[go_sem,r0]) (by simp[go_sem,r1]) (by simp[go_sem,r2]) (by simp[go_sem,r3]) (by simp[go_sem,r4]) (by simp[go_sem,r5]) (by simp[go_sem,r6]) (by simp[go_sem,r7]) (by simp[go_sem,Px])) rfl ?_;obtain ⟨w9,Ag⟩: ∃X,X=(((((((((w8).setCell ⟨w.heap.size,0,none⟩ (.int .i64 ((⟨2,z,[],t,v,[],0,0,0⟩:dr)).kind)).setCell ⟨w.heap.size,1,none⟩ (.int .i64 ((⟨2,z,[],t,v,[],0,0,0⟩:dr)).member)).setCell ⟨w.heap.size,2,none⟩ (.slice none ((⟨2,z,[],t,v,[],0,0,0⟩:dr)).af.length (0))).setCell ⟨w.heap.size,3,none⟩ (.string ((⟨2,z,[],t,v,[],0,0,0⟩:dr)).al)).setCell ⟨w.heap.size,4,none⟩ (.int .i64 ((⟨2,z,[],t,v,[],0,0,0⟩:dr)).bO)).setCell ⟨w.heap.size,5,none⟩ (.slice none ((⟨2,z,[],t,v,[],0,0,0⟩:dr)).patch.length (0))).setCell ⟨w.heap.size,6,none⟩ (.int .i64 ((⟨2,z,[],t,v,[],0,0,0⟩:dr)).start)).setCell ⟨w.heap.size,7,none⟩ (.int .i64 ((⟨2,z,[],t,v,[],0,0,0⟩:dr)).aB)).setCell ⟨w.heap.size,8,none⟩ (.int .i64 ((⟨2,z,[],t,v,[],0,0,0⟩:dr)).aj):=⟨_,rfl⟩
    have xo:Touch (λc=>c=w.heap.size) (w8) w9:=by
     rw[Ag]
     iterate 9 refine Touch.setCell (F:=λb=>b=w.heap.size) ?_ rfl _
     exact Touch.refl _ _
    have Sm:=(T9.o).size;refine ⟨(⟨2,z,[],t,v,[],0,0,0⟩:dr),none,0,none,0,rfl,?_,?_,(λe h=>by cases h),Lc.o,?_,?_⟩
    ·have q:=ay.aD (St.o) xo (λc hc e=>by have:=(ay.dw (St.o) hc).1;omega);rw[Ag]at q;exact ay.less q (by omega)
    ·have q:=ay.aD (ay.nil ah W0.heap.size w8) xo (λc hc e=>by have:=(ay.dw (ay.nil ah W0.heap.size w8) hc).1;omega);rw[Ag]at q;exact ay.less q (by omega)
    ·have q:=((I1.o).more (k':=k+300) (by omega)).keep (xo.block b (by have:=HB.o;omega) (by have:=HB.o;omega)) (λi hi=>xo.block i (by have:=(I1.o).lt;omega) (by have:=(I1.o).lt;have:=HB.o;omega));rw[Ag]at q;exact q
    have q:=xq (ll kX.o (T9.o)) xo (Nat.le_refl _);rw[Ag]at q;exact q
end Go.Proofs.YtbcggaldkihcaaaGreatDoor

/- slices.Insert at acts, walked: one element comes (as at articles). -/
import Derived.Test.YtnandbammmcncaaGreatQC
import Derived.Test.YtnandbammmcncaaGreatYea
set_option maxHeartbeats 4000000
set_option maxRecDepth 100000
namespace Go.Proofs.YtnandbammmcncaaGreat
open Tryz
open Go.RowKit Go.Lib
structure qU where
 a8:Int
 fin:Int
 A:Option Addr
 n:Nat
 c:Nat
def aX (x:qU):List Value:=[.int .i64 x.a8,.int .i64 x.fin,.slice x.A x.n x.c]
theorem sk {x:qU} {u:Value} (hu:u∈aX x):u.oneCell'=true:=by
 unfold aX at hu;simp only[aaF,List.not_mem_nil,or_false]at hu;rcases hu with rfl|rfl|rfl<;>rfl
def iO {α:Type} (f:α->List Value) (e:TypeId) (size base g n:Nat) (R:List α) (w:World) (en:Ending) (w':World):Prop:=
 ∃v,en= .returned v/\w'.ownsRow base e size v n (R.flatMap f)/\v≠ .slice none 0 0/\(v.ownBlock=some g\/v.ownBlock=some w.heap.size)/\iJ g w w'
theorem J4 (L:List qU) (a:qU) (base g n cap vb vc:Nat) (w:World) (_hn:L.length=n) (rE:n<=1000000) (cr:w.ownsRow base 144 3 (.slice (some ⟨g,0,none⟩) n cap) n (L.flatMap aX)) (hv:jR w vb 144 (aX a)) (qf:base<=w.heap.size):
 Calls prog 165 #[.slice (some ⟨g,0,none⟩) n cap,.int .i64 n,.slice (some ⟨vb,0,none⟩) 1 vc] w (iO aX 144 3 base g (n+1) (L++[a]) w):=by
 obtain ⟨T,hB,hC,xy,nj,kd,sY⟩:=dH cr;unfold maxLen at nj;have HV:ag (∀j u,(aX a)[j]?=some u->w.cell? ((⟨vb,0,none⟩:Addr).add j)=some u):=I (λj u hj=>by rw[aaQ,hv.cell,aan];exact hj);have eH:=I cr;obtain ⟨i0,hi,dK,ez,ek⟩:=aaq kf;clear hB hC kd sY cr hv _hn;by_cases EM:cap=n
 ·subst EM;go_enter func165,ntmps165;go_wp2_with (at_builtin;refine aaH _ rfl _ _ 33 rfl base 144 i0 (.agg #[.int .i64 0,.int .i64 0,.slice none 0 0]) 3 40 underlying33 hi dK ez ek rfl (by decide) _ _ _ rfl eH.o ⟨vb,0,none⟩ 1 vc (aX a) rfl rfl HV.o (λu hu=>sk hu) ?c3 ?c4 qf ?_);case c3=>unfold maxLen;omega
  case c4=>omega
  intro v' w5 aG aA aU iH;have HO:=I aG;have Da:ag (v'≠ .slice none 0 0):=I (by simpa using aU);have HG:=I aA;have uK:=I iH;clear aG aA aU iH;go_wp2;go_ret;exact ⟨v',rfl,by rw[cq];exact HO.o,Da.o,uK.o,HG.o⟩
 go_enter func165,ntmps165;go_wp2_with (at_builtin;refine aaH _ rfl _ _ 33 rfl base 144 i0 (.agg #[.int .i64 0,.int .i64 0,.slice none 0 0]) 3 40 underlying33 hi dK ez ek rfl (by decide) _ _ _ rfl eH.o ⟨vb,0,none⟩ 1 vc (aX a) rfl rfl HV.o (λu hu=>sk hu) ?c3 ?c4 qf ?_);case c3=>unfold maxLen;omega
 case c4=>omega
 intro v' w5 aG aA aU iH;have HO:=I aG;have Da:ag (v'≠ .slice none 0 0):=I (by simpa using aU);have HG:=I aA;have uK:=I iH;clear aG aA aU iH;go_wp2;go_ret;exact ⟨v',rfl,by rw[cq];exact HO.o,Da.o,uK.o,HG.o⟩
theorem J5 (L:List qU) (a:qU) (i base g n cap vb vc:Nat) (w:World) (hn:L.length=n) (hi:i<n) (l7:cap<n+1) (rE:n<=1000000) (cr:w.ownsRow base 144 3 (.slice (some ⟨g,0,none⟩) n cap) n (L.flatMap aX)) (hv:jR w vb 144 (aX a)) (qf:base<=w.heap.size):
 Calls prog 165 #[.slice (some ⟨g,0,none⟩) n cap,.int .i64 i,.slice (some ⟨vb,0,none⟩) 1 vc] w (iO aX 144 3 base g (n+1) (L.take i++a::L.drop i) w):=by
 obtain ⟨T,hB,hC,xy,nj,kd,sY⟩:=dH cr;unfold maxLen at nj;have jE: ∀x:qU,(aX x).length=3:=λ_=>rfl;have sZ: ∀x:qU,∀v∈aX x,v.oneCell'=true:=λx v hv=>sk hv;obtain ⟨i0,AN,dK,qd,zc⟩:=aaq kf;have ja:(prog.info? 144).map (·.size)=some 3:=by rw[AN];simp[qd]
 have hold:(Builtin.firstCells i0.size i (.slice (some ⟨g,0,none⟩) i cap)).run prog w.drew= .ok ((L.take i).flatMap aX).toArray w.drew:=by
  rw[qd]
  exact run_firstCells_some w.drew 3 i ⟨g,0,none⟩ i cap ((L.take i).flatMap aX) (by rw[bp (k:=3) aX jE,aao,aaP (by omega)]) (λj v hj=>by
   rw[aaQ,hB.drew.cell,aan,gA aX L i,aaI,aaW (aal.1 hj).1];exact hj)
 obtain ⟨G,hG⟩: ∃G,G=grownCap w (n+1) cap 144:=⟨_,rfl⟩
 have TI:n+1<=G:=by rw[hG];exact grownCap_ge w _ _ _
 have Iw:G<=maxLen:=by rw[hG];exact grownCap_le_maxLen w (n+1) cap _ (by unfold maxLen;omega)
 obtain ⟨Z,hZ⟩: ∃Z:List Value,Z=(Builtin.zeroCells (Value.agg #[.int .i64 0,.int .i64 0,.slice none 0 0]).cells (n+1-i)++Builtin.zeroCells (Value.agg #[.int .i64 0,.int .i64 0,.slice none 0 0]).cells (G-(n+1))).toList:=⟨_,rfl⟩
 have Qw:Z.length=(G-i)*3:=by
  rw[hZ];simp[Builtin.zeroCells,Value.cells];omega
 obtain ⟨W1,eG⟩: ∃W1,W1=w.drew.alloc (.cells ((L.take i).flatMap aX++Z).toArray 144):=⟨_,rfl⟩
 have uu:(n:Int)+1-(i:Int)=((n+1-i:Nat):Int):=by omega
 have NE:i+(n+1-i)=n+1:=by omega
 have TJ: ∀ty,(Builtin.append_ #[33,3] ty #[.slice (some ⟨g,0,none⟩) i cap,.int .i64 ((n:Int)+1-(i:Int))]).run prog w= .ok (.slice (some ⟨w.heap.size,0,none⟩) (n+1) G) W1:=λty=>by
  have h:=Lib.run_append_grow_zeros (P:=prog) w 33 3 ty 144 i0 _ .i64 .i64 underlying33 underlying3 AN dK (some ⟨g,0,none⟩) i cap ((L.take i).flatMap aX) hold (n+1-i) (by omega) (by omega) (by omega) (by omega) (by rw[zc];omega) (by rw[zc,NE];exact growslice_fits l7 (by omega));rw[NE,<-hG]at h;rw[uu,h,eG,hZ]
  congr 3
  apply Array.ext';simp
 have kA:jR W1 w.heap.size 144 ((L.take i).flatMap aX++Z):=by
  rw[eG];exact ly w.drew _
 have mE:((L.take i).flatMap aX++Z).length=G*3:=by
  rw[aak,bp (k:=3) aX jE,aao,aaP (by omega),Qw];omega
 have iV:w.grownBy W1 none:=by
  rw[eG];exact ⟨rfl,rfl,rfl,by simp,λk hk _=>heap_alloc_old w.drew _ hk⟩
 have TK:g≠w.heap.size:=by have:=hB.lt;omega
 have XX:vb≠w.heap.size:=by have:=hv.lt;omega
 have Dc:jR W1 vb 144 (aX a):=hv.grown iV (by simp);obtain ⟨W2,im⟩: ∃W2,W2=W1.setCells w.heap.size (i*3) (aX a):=⟨_,rfl⟩
 have NF: ∀ty dc,(Builtin.copy_ #[33,33] ty #[.slice (some ⟨w.heap.size,i*3,none⟩) (n+1-i) dc,.slice (some ⟨vb,0,none⟩) 1 vc]).run prog W1= .ok (goInt 1) W2:=λty dc=>by
  have h:=ic (P:=prog) W1 33 33 ty 144 3 w.heap.size (i*3) (n+1-i) dc ⟨vb,0,none⟩ 1 vc (aX a) underlying33 ja (by rw[jE];simp only[Nat.min_def];split<;>omega)
   (λj v hj=>by rw[aaQ,Dc.cell,aan];exact hj)
   (λj hj=>kA.isSome (by rw[jE]at hj;rw[mE];omega)) (λj hj=>kA.free (by rw[jE]at hj;rw[mE];omega)) (sZ a)
  rw[h,im,show Nat.min 1 (n+1-i)=1 by simp only[Nat.min_def];split<;>omega];rfl
 have nl:=kA.set prog (i*3) (aX a) (by rw[mE,jE];omega) (sZ a);have tO:(splice ((L.take i).flatMap aX++Z) (i*3) (aX a)).length=G*3:=by rw[abx _ _ _ (by rw[mE,jE];omega),mE]
 have j5:=gP prog kA (i*3) (aX a) (by rw[mE,jE];omega) (sZ a);rw[<-im]at nl j5;have ND:jR W2.drew g 144 (L.flatMap aX++T):=((hB.grown iV (by simp)).grown j5 (by simpa using λe=>TK e.symm)).drew;obtain ⟨W3,EN⟩: ∃W3,W3=W2.drew.setCells w.heap.size ((i+1)*3) ((L.drop i).flatMap aX):=⟨_,rfl⟩
 have oy:((L.drop i).flatMap aX).length=(n-i)*3:=by rw[bp (k:=3) aX jE,aaS,hn]
 have NG: ∀ty dc sc,(Builtin.copy_ #[33,33] ty #[.slice (some ⟨w.heap.size,(i+1)*3,none⟩) (n+1-(i+1)) dc,.slice (some ⟨g,i*3,none⟩) (n-i) sc]).run prog W2.drew= .ok (goInt ((n-i:Nat):Int)) W3:=λty dc sc=>by
  have h:=ic (P:=prog) W2.drew 33 33 ty 144 3 w.heap.size ((i+1)*3) (n+1-(i+1)) dc ⟨g,i*3,none⟩ (n-i) sc ((L.drop i).flatMap aX) underlying33 ja (by rw[oy];simp only[Nat.min_def];split<;>omega)
   (λj v hj=>by
    rw[aaQ,ND.cell,gA aX L i,aaI,aaN (by rw[bp (k:=3) aX jE,aao,aaP (by omega)];omega),bp (k:=3) aX jE,aao,aaP (by omega),Nat.add_sub_cancel_left,aaW (aal.1 hj).1];exact hj)
   (λj hj=>nl.drew.isSome (by rw[oy]at hj;rw[tO];omega)) (λj hj=>nl.drew.free (by rw[oy]at hj;rw[tO];omega)) (gJ aX (λx v hv=>sZ x v hv) _)
  rw[h,EN,show Nat.min (n-i) (n+1-(i+1))=n-i by simp only[Nat.min_def];split<;>omega]
 have jQ:iO aX 144 3 base g (n+1) (L.take i++a::L.drop i) w (.returned (.slice (some ⟨w.heap.size,0,none⟩) (n+1) G)) W3:=by
  have Ix:=nl.drew.set prog ((i+1)*3) ((L.drop i).flatMap aX) (by rw[tO,oy];omega) (gJ aX (λx v hv=>sZ x v hv) _);have uI:=gP prog nl.drew ((i+1)*3) ((L.drop i).flatMap aX) (by rw[tO,oy];omega) (gJ aX (λx v hv=>sZ x v hv) _);rw[<-EN]at Ix uI;refine ⟨_,rfl,gz Ix (by rw[abx _ _ _ (by rw[tO,oy];omega),tO]) ?_ ?_ TI Iw qf,by simp,.inr rfl,?_⟩
  ·rw[<-hn];exact qn aX jE L a Z i (by omega)
  ·rw[bp (k:=3) aX jE,aak,List.length_cons,aao,aaS]
   congr 1
   omega
  refine ⟨uI.os.trans (j5.os.trans iV.os),uI.tape.trans (j5.tape.trans iV.tape),uI.output.trans (j5.output.trans iV.output),aaB iV.size (aaB j5.size uI.size),λk hk gm=>?_⟩;have Qx:some k≠some w.heap.size:=λe=>by injection e;omega
  have rF:=iV.size;have Iy:=j5.size;have a1:=iV.block k hk (by simp);have a2:=j5.block k (by omega) Qx;have a3:=uI.block k (by show k<W2.heap.size;omega) Qx;exact a3.trans (a2.trans a1)
 have eB:=I jQ;unfold maxLen at Iw;have CQ:IntKind.i64.wrap ((i:Int)+1)=(i:Int)+1:=by rw[IntKind.wrap_i64];omega
 have Iy: ¬((i:Int)=(n:Int)):=by omega
 have TL:(cap:Int)<(n:Int)+1:=by omega
 have XY: ¬(G=i):=by omega
 have TM: ¬(G=i+1):=by omega
 have XZ: ¬(cap=i):=by omega
 have bw:(0:Int)<=(i:Int)+1:=by omega
 have iq:i<=n:=by omega
 have Ak:((i:Int)+1).toNat=i+1:=by omega
 have dB:(i:Int)<=(n:Int):=by omega
 have l8:(i:Int)+1<=(n:Int)+1:=by omega
 clear uu NE hold hG hZ Qw eG kA mE iV Dc im nl tO j5 ND EN oy jQ hB hC cr hv kd sY hn jE sZ ja AN dK qd zc;go_enter func165,ntmps165
 go_wp2_with (first
  |(at_builtin;refine Lib.wpList_append_run _ rfl _ _ _ _ rfl _ _ rfl rfl _ _ (TJ _) ?_)
  |(at_builtin;refine iu _ rfl _ _ 33 33 rfl _ _ rfl rfl (NF _ _) ?_))
 go_region_law (refine jC rfl _ _ 33 33 rfl (.slice (some ⟨w.heap.size,(i+1)*3,none⟩) (n+1-(i+1)) (G-(i+1))) (.slice (some ⟨g,i*3,none⟩) (n-i) (cap-i)) (by simp[Act.eval,Act.put]) (by simp[Act.eval,Act.put]) (NG _ _ _) ?_);go_wp2;go_ret;exact eB.o
theorem GV (L:List qU) (a:qU) (i base g n cap vb vc:Nat) (w:World) (hn:L.length=n) (hi:i<n) (l7:n+1<=cap) (rE:n<=1000000) (cr:w.ownsRow base 144 3 (.slice (some ⟨g,0,none⟩) n cap) n (L.flatMap aX)) (hv:jR w vb 144 (aX a)) (Lg:vb≠g):
 Calls prog 165 #[.slice (some ⟨g,0,none⟩) n cap,.int .i64 i,.slice (some ⟨vb,0,none⟩) 1 vc] w (iO aX 144 3 base g (n+1) (L.take i++a::L.drop i) w):=by
 obtain ⟨T,hB,hC,xy,nj,kd,sY⟩:=dH cr;have lB:=nj;unfold maxLen at nj;have jE: ∀x:qU,(aX x).length=3:=λ_=>rfl;have sZ: ∀x:qU,∀v∈aX x,v.oneCell'=true:=λx v hv=>sk hv;obtain ⟨i0,AN,dK,qd,zc⟩:=aaq kf;have ja:(prog.info? 144).map (·.size)=some 3:=by rw[AN];simp[qd]
 have Dd:T.length=(cap-n)*3:=by rw[aak,sY]at hC;omega
 have TN: ∀lb cb,(callFunc 180 #[.slice (some ⟨vb,0,none⟩) 1 vc,.slice (some ⟨g,(i+1)*3,none⟩) lb cb]).run prog w= .ok (.value (.bool false)) w:=λlb cb=>by
  rw[run_callFunc_extern func180 (by kernel_rfl) (by kernel_rfl) (by kernel_rfl) (e:=Extern.SlicesOverlaps.overlaps #[33,33] #[4]) (by kernel_rfl),
   Lib.run_overlaps_apart w 33 4 144 underlying33 3 sizeOf144 ⟨vb,0,none⟩ ⟨g,(i+1)*3,none⟩ 1 vc lb cb Lg 144 144 3 (cap*3) (by unfold jR at hv;simp[World.shape?,hv,aX]) (by unfold jR at hB;simp[World.shape?,hB];simpa using hC) (by omega) (hv.free (by rw[jE];omega)) (by unfold jR at hv;simp[World.frozen?,hv])]
  rfl
 have oy:((L.drop i).flatMap aX).length=(n-i)*3:=by rw[bp (k:=3) aX jE,aaS,hn]
 obtain ⟨W1,eG⟩: ∃W1,W1=w.drew.setCells g ((i+1)*3) ((L.drop i).flatMap aX):=⟨_,rfl⟩
 have Lh:=gJ aX (P:=λv=>v.oneCell'=true) (λx v hv=>sZ x v hv) (L.drop i)
 have NH: ∀ty dc sc,(Builtin.copy_ #[33,33] ty #[.slice (some ⟨g,(i+1)*3,none⟩) (n+1-(i+1)) dc,.slice (some ⟨g,i*3,none⟩) (n+1-i) sc]).run prog w.drew= .ok (goInt ((n-i:Nat):Int)) W1:=λty dc sc=>by
  have h:=ic (P:=prog) w.drew 33 33 ty 144 3 g ((i+1)*3) (n+1-(i+1)) dc ⟨g,i*3,none⟩ (n+1-i) sc ((L.drop i).flatMap aX) underlying33 ja (by rw[oy];simp only[Nat.min_def];split<;>omega)
   (λj v hj=>by
    rw[aaQ,hB.drew.cell,gA aX L i,aaI,aaN (by rw[bp (k:=3) aX jE,aao,aaP (by omega)];omega),bp (k:=3) aX jE,aao,aaP (by omega),Nat.add_sub_cancel_left,aaW (aal.1 hj).1];exact hj)
   (λj hj=>hB.drew.isSome (by rw[oy]at hj;rw[hC];omega)) (λj hj=>hB.drew.free (by rw[oy]at hj;rw[hC];omega)) Lh
  rw[h,eG,show Nat.min (n+1-i) (n+1-(i+1))=n-i by simp only[Nat.min_def];split<;>omega]
 have kA:=hB.drew.set prog ((i+1)*3) ((L.drop i).flatMap aX) (by rw[hC,oy];omega) Lh;have mE:(splice (L.flatMap aX++T) ((i+1)*3) ((L.drop i).flatMap aX)).length=cap*3:=by rw[abx _ _ _ (by rw[hC,oy];omega),hC]
 have iV:=gP prog hB.drew ((i+1)*3) ((L.drop i).flatMap aX) (by rw[hC,oy];omega) Lh;rw[<-eG]at kA iV;have Dc:jR W1 vb 144 (aX a):=jR.grown hv.drew iV (by simpa using λe=>Lg e.symm);obtain ⟨W2,im⟩: ∃W2,W2=W1.setCells g (i*3) (aX a):=⟨_,rfl⟩
 have NI: ∀ty dc,(Builtin.copy_ #[33,33] ty #[.slice (some ⟨g,i*3,none⟩) (n+1-i) dc,.slice (some ⟨vb,0,none⟩) 1 vc]).run prog W1= .ok (goInt 1) W2:=λty dc=>by
  have h:=ic (P:=prog) W1 33 33 ty 144 3 g (i*3) (n+1-i) dc ⟨vb,0,none⟩ 1 vc (aX a) underlying33 ja (by rw[jE];simp only[Nat.min_def];split<;>omega)
   (λj v hj=>by rw[aaQ,Dc.cell,aan];exact hj)
   (λj hj=>kA.isSome (by rw[jE]at hj;rw[mE];omega)) (λj hj=>kA.free (by rw[jE]at hj;rw[mE];omega)) (sZ a)
  rw[h,im,show Nat.min 1 (n+1-i)=1 by simp only[Nat.min_def];split<;>omega];rfl
 have jQ:iO aX 144 3 base g (n+1) (L.take i++a::L.drop i) w (.returned (.slice (some ⟨g,0,none⟩) (n+1) cap)) W2:=by
  have nl:=kA.set prog (i*3) (aX a) (by rw[mE,jE];omega) (sZ a);have j5:=gP prog kA (i*3) (aX a) (by rw[mE,jE];omega) (sZ a);rw[<-im]at nl j5;refine ⟨_,rfl,gz nl (by rw[abx _ _ _ (by rw[mE,jE];omega),mE]) ?_ ?_ l7 lB kd,by simp,.inl rfl,?_⟩
  ·rw[<-hn];exact oS aX jE L a T i (by omega) (by omega)
  ·rw[bp (k:=3) aX jE,aak,List.length_cons,aao,aaS]
   congr 1
   omega
  exact ll ⟨iV.os,iV.tape,iV.output,iV.size,iV.block⟩ j5
 have eB:=I jQ;have CQ:IntKind.i64.wrap ((i:Int)+1)=(i:Int)+1:=by rw[IntKind.wrap_i64];omega
 have Iy: ¬((i:Int)=(n:Int)):=by omega
 have TL: ¬((cap:Int)<(n:Int)+1):=by omega
 have bw:(0:Int)<=(i:Int)+1:=by omega
 have iq:i<=n:=by omega
 have TP:i<=n+1:=by omega
 have Ak:((i:Int)+1).toNat=i+1:=by omega
 have cL: ¬(cap=i+1):=by omega
 have dB:(i:Int)+1<=(n:Int)+1:=by omega
 have l8: ¬(cap=i):=by omega
 have zd:(i:Int)<=(n:Int)+1:=by omega
 clear oy eG Lh kA mE iV Dc im jQ hB hC cr hv kd sY hn jE sZ ja AN dK qd zc Dd lB;go_enter func165,ntmps165;go_wp2_with (simp only[TN]);go_region_law (refine jC rfl _ _ 33 33 rfl (.slice (some ⟨g,(i+1)*3,none⟩) (n+1-(i+1)) (cap-(i+1))) (.slice (some ⟨g,i*3,none⟩) (n+1-i) (cap-i)) (by simp[Act.eval,Act.put]) (by simp[Act.eval,Act.put]) (NH _ _ _) ?_);go_wp2_with (at_builtin;refine iu _ rfl _ _ 33 33 rfl _ _ rfl rfl (NI _ _) ?_);go_ret;exact eB.o
theorem sr (L:List qU) (a:qU) (i base g n cap vb vc:Nat) (w:World) (hn:L.length=n) (hi:i<=n) (rE:n<=1000000) (cr:w.ownsRow base 144 3 (.slice (some ⟨g,0,none⟩) n cap) n (L.flatMap aX)) (hv:jR w vb 144 (aX a)) (Lg:vb≠g) (qf:base<=w.heap.size):
 Calls prog 165 #[.slice (some ⟨g,0,none⟩) n cap,.int .i64 i,.slice (some ⟨vb,0,none⟩) 1 vc] w (iO aX 144 3 base g (n+1) (L.take i++a::L.drop i) w):=by
 rcases abo i n with aI|eA
 ·by_cases l7:n+1<=cap
  ·exact GV L a i base g n cap vb vc w hn aI l7 rE cr hv Lg
  exact J5 L a i base g n cap vb vc w hn aI (by omega) rE cr hv qf
 obtain rfl:i=n:=by omega
 have e:L.take i++a::L.drop i=L++[a]:=by rw[aaJ (by omega),abB (by omega)]
 rw[e];exact J4 L a base g i cap vb vc w hn rE cr hv qf
end Go.Proofs.YtnandbammmcncaaGreat

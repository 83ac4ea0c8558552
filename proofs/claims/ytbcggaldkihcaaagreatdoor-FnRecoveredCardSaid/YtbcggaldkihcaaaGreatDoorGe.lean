/- An assembly at its beginning, drawn: walked. -/
import Derived.Test.YtbcggaldkihcaaaGreatDoorGd
import Derived.Test.YtbcggaldkihcaaaGreatDoorZd
import Derived.Test.YtbcggaldkihcaaaGreatDoorZh
set_option maxHeartbeats 1500000
set_option maxRecDepth 100000
namespace Go.Proofs.YtbcggaldkihcaaaGreatDoor
open Tryz
open Go.RowKit Go.Lib
theorem xU {b:Nat} {w w':World} (h:iJ b w w'):Touch (λc=>c=b) w w':=⟨h.os,h.tape,h.output,h.size,λi hi hn=>h.block i hi (λe=>hn (by injection e))⟩
theorem xq {b tL:Nat} {w w1 w2:World} (h:iJ b w w1) (ht:Touch (λc=>c=tL) w1 w2) (hg:w.heap.size<=tL):iJ b w w2:=
 ⟨ht.os.trans h.os,ht.tape.trans h.tape,ht.output.trans h.output,Nat.le_trans h.size ht.size,λi hi hn=>(ht.block i (Nat.lt_of_lt_of_le hi h.size) (by omega)).trans (h.block i hi hn)⟩
theorem ck.only {base ba b:Nat} {w w':World} {x:cS} {a:cp} {T:List bR} {C:List bu} {M:List bH} (h:ck base ba w x a T C M) (hb:b<base) (ho:iJ b w w'):ck base ba w' x a T C M:=
 ⟨h.row.only h.lt (by have:=h.bb;omega) ho,h.own.aD (xU ho) (λc hc e=>by have:=(h.own.o.lt hc).1;omega),Nat.lt_of_lt_of_le h.lt ho.size,h.nf,h.bb⟩
theorem kK.only {base g k b:Nat} {w w':World} {a:cp} {vt vb vc:Value} {T:List bR} {C:List bu} (h:kK base g w a k vt vb vc T C) (hb:b<base) (ho:iJ b w w'):kK base g w' a k vt vb vc T C:=⟨h.box.only hb ho,Iq h.tr hb ho,h.tn⟩
theorem kK.Af {base g k n:Nat} {w1 w9:World} {a:cp} {vt vb vc v':Value} {T:List bR} {C:List bu} {y:bR} (h:kK base g w1 a k vt vb vc T C) (hn: ∀b,bz ⟨vt,vb,vc,.slice none 0 0⟩ {a with af:=a.af.take k,ao:=[]} T C [] b->b<n) (Km:g<n) (Zq:n<=w1.heap.size) (hy:dX.fa n w1 y) (hl:a.af[k]?=some y.a) (hg:w1.grownBy w9 vt.ownBlock) (gd:v'.ownBlock=vt.ownBlock\/v'.ownBlock=some w1.heap.size)
 (bi:w9.ownsRow base 35 1 v' (T.length+1) (T.flatMap lH++lH y)) (_nm:v'≠ .slice none 0 0):kK base g (w9.setCell ⟨g,2,none⟩ v') a (k+1) v' vb vc (T++[y]) C:=by
 have zb:=h.box;have kd:=h.box.lt;have qp:=h.box.bb;obtain ⟨hk,Ew⟩:=List.getElem?_eq_some_iff.1 hl;obtain ⟨q1,q2⟩:=dM.RK zb.own h.tn hg gd bi hy hn (by omega) Zq;have e:a.af.take k++[y.a]=a.af.take (k+1):=by rw[List.take_succ_eq_append_getElem hk,Ew]
 have Nb: ∀b,bz ⟨v',vb,vc,.slice none 0 0⟩ {a with af:=a.af.take (k+1),ao:=[]} (T++[y]) C [] b->b≠g:=λb j7=>by
  have j7:bz ⟨v',vb,vc,.slice none 0 0⟩ {a with af:=a.af.take k++[y.a],ao:=[]} (T++[y]) C [] b:=by rw[e];exact j7
  rcases q2 b j7 with q|q
  ·exact h.box.nf b q
  omega
 have WX: ∀b,vt.ownBlock=some b->b≠g:=λb hb=>h.box.nf b (.inl (.inl ⟨(λe=>by rw[h.tn e]at hb;cases hb),hb⟩));have U':Row w9 g [.int .i64 a.day,.int .i64 a.rule,vt,vb,vc,.slice none 0 0]:=zb.row.aD zb.lt (Touch.aW (F:=λb=>vt.ownBlock=some b) hg (λb hb=>hb)) (λe=>WX g e rfl);refine ⟨ck.put U' (by have q:=q1;rw[show a.af.take k++[y.a]=a.af.take (k+1)from e]at q;exact q) Nb (Nat.lt_of_lt_of_le zb.lt hg.size) qp (by show 2<6;omega) rfl,?_,λe=>by simp at e⟩
 have Va: ∀b,v'.ownBlock=some b-> ¬b=g:=λb dF e=>by
  rcases gd with h1|h1
  ·exact WX b (h1▸dF) e
  rw[h1]at dF;injection dF with dF
  omega
 have:=jq bi (Touch.setCell (F:=λb=>b=g) (Touch.refl _ w9) (p:=⟨g,2,none⟩) rfl v') Va;rw[List.length_append,List.flatMap_append];simpa using this
def xp (rule:Int) (L:List (List Int)) (S:List bE):cp:=⟨0,rule,L,S,[],[]⟩
theorem kK.more {base g:Nat} {w:World} {rule:Int} {L:List (List Int)} {S:List bE} {vt vb vc:Value} {T:List bR} {C:List bu} (h:kK base g w (xp rule L S) L.length vt vb vc T C) (z:List Int):kK base g w (xp rule (L++[z]) S) L.length vt vb vc T C:=by
 have e:(L++[z]).take L.length=L.take L.length:=by rw[List.take_append_of_le_length (Nat.le_refl _)]
 obtain ⟨h1,h2,h3⟩:=h;refine ⟨?_,h2,h3⟩;show ck base g w _ ⟨0,rule,(L++[z]).take L.length,S,[],[]⟩ T C []
 rw[e];exact h1
theorem kK.a8 {base g:Nat} {w:World} {rule:Int} {S:List bE} {Ab:Option Addr} {cb:Nat} (bi:Row w g [.int .i64 0,.int .i64 rule,.slice none 0 0,.slice Ab S.length cb,.slice none 0 0,.slice none 0 0]) (hb:ay ai S base w (.slice Ab S.length cb)) (hn: ∀c,cx S (.slice Ab S.length cb) c->c≠g) (hg:g<w.heap.size) (kd:base<=g):
 kK base g w (xp rule [] S) 0 (.slice none 0 0) (.slice Ab S.length cb) (.slice none 0 0) [] []:=by
 have n1: ∀{β:Type} (K:Kind β) (b:Nat),¬bN K (.slice none 0 0) [] b:=λK b hb=>by
  rcases hb with hb|⟨q,hq,_⟩
  ·exact hb.1 rfl
  cases hq
 refine ⟨⟨bi,mT (T:=[]) (aR.nil _ _ _ _ _ (Nat.zero_le _)) (aeW hb) (λb h=>(n1 _ b h).elim),hg,λb dF=>?_,kd⟩,World.ownsRow_nil _ _ _ _,λ_=>rfl⟩;rcases dF with h|h|h|h
 ·exact (n1 _ b h).elim
 ·rcases h with h|⟨q,_,h⟩
  ·exact hn b h
  exact h.elim
 ·exact (n1 _ b h).elim
 exact (n1 _ b h).elim
def zY (B:Nat) (w:World) (b k:Nat) (e:Ending) (w':World):Prop:=
 ∃x a T C M,e= .returned (eu a x)/\Tt x/\dM w.heap.size w' x a T C M/\(∀d:Int,0<=d->d<=999->dJ {a with day:=d})/\dJ a/\Src B w' b k/\iJ b w w'
theorem zZ (B b k:Nat) (w:World) (h:Src B w b k) (hk:k<=40000):
 Calls prog 15 #[.pointer (some ⟨b,0,none⟩)] w (zY B w b (k+220)):=by
 obtain ⟨W0,ku⟩: ∃X,X=w.alloc (.cells #[.int .i64 0,.int .i64 0,.slice none 0 0,.slice none 0 0,.slice none 0 0,.slice none 0 0] 29):=⟨_,rfl⟩
 have Kn:W0.heap.size=w.heap.size+1:=by rw[ku];simp
 have xu:Below w.heap.size w W0:=by rw[ku];exact (Below.refl _ _).alloc (Nat.le_refl _) _
 have DX:ag (Row W0 w.heap.size [.int .i64 0,.int .i64 0,.slice none 0 0,.slice none 0 0,.slice none 0 0,.slice none 0 0]):=I (by rw[ku];exact Row.new w _ _);have HB:=I h.lt.1;have kX:=I (m5 xu:iJ b w W0);have Zy:=I (h.below xu h.lt.1);obtain ⟨j0,Ip,KJ,PJ,vB⟩:=info_parts iD;obtain ⟨t0,hit,KB,Wd,XQ⟩:=info_parts Kc;clear h xu;go_enter func15,ntmps15;go_upto_region 1 with (fail)
 rw[<-ku];have KC:w.heap.size+1<=W0.heap.size:=by omega
 have KD:W0.heap.size<=w.heap.size+1:=by omega
 clear ku Kn;go_wp2_with (fail);refine (tX B b _ 5 W0 Zy.o (by omega) (by omega) (by omega)).mono ?_;rintro e w1 ⟨x1,ei,rfl,CB,tU⟩;have tN:=I CB;have jh:=I tU;clear CB tU;go_wp2_with (fail);refine (jb B b _ 12 w1 tN.o (by omega) (by omega) (by omega)).mono ?_;rintro e w2 ⟨y,rfl,wY,CD⟩;have Nr:=I wY;have ju:=I (ll jh.o CD);clear wY CD tN jh;go_upto_if 13 with (fail)
 go_cut [3] (λs3 wx=> ∃N:Nat,s3= .int .i64 (N:Int)/\1<=N/\N<=12/\Src B wx b (k+6)/\iJ b W0 wx)
 case first=>
  cases y with
  |true=>
   go_wp2_with (fail);refine (sE (λx=>1<=x/\x<=12) B b _ w2.heap.size 2 2 _ (Nr.o.alloc _) (by omega) (by omega) (by omega) (by simp) (by have:=Nr.o.lt.1;omega) (rb _ w2 2 [1,12] (by decide))).mono ?_;rintro e w3 ⟨n,⟨kM,fD⟩,rfl,W9,PL⟩;obtain ⟨N,rfl⟩: ∃N:Nat,n=(N:Int):=⟨n.toNat,by omega⟩
   have HR:=I (And.intro (W9.more (k':=k+6) (by omega)) (ll ju.o (ll (m5 ((Below.refl w2.heap.size w2).alloc (Nat.le_refl _) _)) PL)));clear W9 PL;go_wp2;go_meet;case rel=>exact ⟨N,rfl,by omega,by omega,HR.o.1,HR.o.2⟩
  |false=>
   go_wp2;go_meet;case rel=>exact ⟨2+x1,by go_num,by omega,by omega,Nr.o.more (by omega),ju.o⟩
 case rest=>
  obtain ⟨N,rfl,kM,fD,W9,PL⟩:=hcut;obtain ⟨wQ,en⟩: ∃X,X=wc:=⟨_,rfl⟩
  rw[<-en]at W9 PL⊢;have KF:=I W9;have Dh:=I PL;clear W9 PL Nr ju en;go_wp2_with (fail);refine (tX B b _ 3 wQ KF.o (by omega) (by omega) (by omega)).mono ?_;rintro e w3 ⟨x3,yS,rfl,W9,PL⟩;have b0:=I W9;have Ls:=I (ll Dh.o PL);clear W9 PL;go_wp2_with (fail);refine (afA B b _ w3 b0.o (by omega)).mono ?_;rintro e w4 ⟨vb,S,rfl,Cs,Ah,cm,EQ⟩;have Ct:=Cs;obtain ⟨Ab,cb,rfl,_⟩:=Ct;have Cu:=I Cs;have Cy:=I Ah;have bc:=I cm;have QP:=I (ll Ls.o EQ);clear Cs Ah cm EQ;go_upto_region 5 with (fail)
  obtain ⟨w5,bt⟩: ∃X,X=w4.alloc (.cells #[.int .i64 0,.int .i64 (x3:Int),.slice none 0 0,.slice Ab S.length cb,.slice none 0 0,.slice none 0 0] 29):=⟨_,rfl⟩
  have Fi:Row w5 w4.heap.size [.int .i64 0,.int .i64 (x3:Int),.slice none 0 0,.slice Ab S.length cb,.slice none 0 0,.slice none 0 0]:=by rw[bt];exact Row.new w4 _ _
  have zd:Below w4.heap.size w4 w5:=by rw[bt];exact (Below.refl _ _).alloc (Nat.le_refl _) _
  have KG:w4.heap.size<w5.heap.size:=by rw[bt];simp
  rw[<-bt];clear bt;have afB:=QP.o.size;have I7:ag (kK W0.heap.size w4.heap.size w5 (xp (x3:Int) [] S) 0 (.slice none 0 0) (.slice Ab S.length cb) (.slice none 0 0) [] []):=I (kK.a8 Fi ((Cu.o.on zd).less (Ls.o.size)) (λc hc=>by have:=(ay.dw Cu.o hc).2;omega) KG afB);have bx:=I (bc.o.below zd bc.o.lt.1);have b1:=I (ll QP.o (m5 zd));clear Fi zd Cu b0 Ls bc QP;have CA:b<W0.heap.size:=by have:=HB.o;omega
  go_wp2;go_loopw [5] (λi wr=> ∃(L:List (List Int)) (T:List bR) (At:Option Addr) (ct:Nat),i= .int .i64 (L.length:Int)/\L.length<=N/\T.length=L.length/\(∀(j:Nat) (l:List Int),L[j]?=some l->cF l j N=true)/\kK W0.heap.size w4.heap.size wr (xp (x3:Int) L S) L.length (.slice At T.length ct) (.slice Ab S.length cb) (.slice none 0 0) T []/\Src B wr b (k+90+10*L.length)/\iJ b W0 wr) (λi _=>N-(RowKit.intOf i).toNat);case atStart=>exact ⟨[],[],none,0,rfl,Nat.zero_le _,rfl,(λj l hj=>by simp at hj),I7.o,bx.o.more (by omega),b1.o⟩
  case round=>
   obtain ⟨L,T,At,ct,rfl,Nl,He,Ai,EB,hs,ho⟩:=hrel;obtain ⟨wX,Bo⟩: ∃X,X=wr:=⟨_,rfl⟩
   rw[<-Bo]at EB hs ho⊢;clear Bo;have PM:=I He;clear He;have cT:=I Ai;have I7:=I EB;have FR:=I hs;have SQ:=I ho;have Ml:=ho.size;clear Ai EB hs ho;by_cases aI:L.length<N
   ·have Ey:(L.length:Int)<(N:Int):=by omega
    have gf:ag (b<wX.heap.size):=I (by omega);have Hu:ag ((wX.alloc (.cells #[] 2)).ownsRow wX.heap.size 2 1 (.slice (some ⟨wX.heap.size,0,none⟩) 0 0) 0 []):=I (by simpa using World.ownsRow_made wX #[] 0 (Nat.le_refl _) (Nat.zero_le _) rfl);go_wp2_with (fail);refine (tX B b _ 3 (wX.alloc (.cells #[] 2)) (FR.o.alloc _) (by omega) (by omega) (by omega)).mono ?_;rintro e w3 ⟨x,hx,rfl,W9,PL⟩;have Mm:ag (w3.ownsRow wX.heap.size 2 1 (.slice (some ⟨wX.heap.size,0,none⟩) 0 0) ([]:List Int).length (([]:List Int).flatMap ak)):=I (Iq Hu.o gf.o PL);have b0:=I W9;have Ls:ag (iJ b wX w3):=I (ll (m5 ((Below.refl wX.heap.size wX).alloc (Nat.le_refl _) _)) PL);clear Hu W9 PL FR;go_wp2;go_loopw [6,7] (λt c EC=> ∃(zs:List Int) (m:Nat),c= .int .i64 (m:Int)/\zs.length+m<=2/\EC.ownsRow wX.heap.size 2 1 t zs.length (zs.flatMap ak)/\t≠ .slice none 0 0/\cF zs (L.length:Int) (N:Nat)=true/\Src B EC b ((k+90+10*L.length+2)+2*(2-m))/\iJ b wX EC) (λ_ c _=>(RowKit.intOf c).toNat);case atStart=>exact ⟨[],x,rfl,by show 0+_<=2;omega,Mm.o,by simp,lP _ _,b0.o.more (by omega),Ls.o⟩
    case round=>
     obtain ⟨zs,m,rfl,Pw,cr,nm,cy,hs,ho⟩:=hrel;obtain ⟨g2,zM,rfl,Mn,Rw⟩:=bG cr nm;unfold maxLen at Rw;have eH:=I cr;have ii:=I cy;have bc:=I hs;have QP:=I ho;clear cr cy hs ho nm;by_cases hm:0<m
     ·obtain ⟨m,rfl⟩: ∃q,m=q+1:=⟨m-1,by omega⟩
      have EU:(0:Int)<((m+1:Nat):Int):=by omega
      go_wp2_with (fail);refine (tX B b _ ((N:Nat):Int) wr bc.o (by omega) (by omega) (by omega)).mono ?_;rintro e w5 ⟨y,hy,rfl,c8,cc⟩;have Tg:=I (Iq eH.o (by have:=gf.o;omega) cc);have bx:=I c8;have b1:=I (ll QP.o cc);clear c8 cc;by_cases Aj:(y:Int)=(L.length:Int)
      ·have e0:((y:Int) !=(L.length:Int))=false:=by simp[Aj]
       clear Aj;go_wp2;go_roundw;case rel=>exact ⟨zs,m,by go_num,by omega,Tg.o,by simp,ii.o,bx.o.more (by omega),b1.o⟩
       case measure=>simp[RowKit.intOf]<;>omega
      have e0:((y:Int) !=(L.length:Int))=true:=by simpa using Aj
      have Mo:=I Aj;clear Aj;obtain ⟨r,hr⟩: ∃r,zs.contains (y:Int)=r:=⟨_,rfl⟩
      have HH:=I (mA zs y w5 (.slice (some ⟨g2,0,none⟩) zs.length zM) r ((ay.bI ak (size:=1) (λ_=>rfl) Tg.o).mo (size:=1) (λ_=>rfl)) hr);have HR:=I hr;clear hr;go_wp2_with (fail);refine (HH.o).mono ?_;rintro e w6 ⟨rfl,En⟩;have q8:=I (aT Tg.o En);have c9:=I (bx.o.below En bx.o.lt.1);have zl:=I (ll b1.o (m5 En));have xj:=zl.o.size;clear En HH;cases r with
      |true=>
       go_wp2;go_roundw;case rel=>exact ⟨zs,m,by go_num,by omega,q8.o,by simp,ii.o,c9.o.more (by omega),zl.o⟩
       case measure=>simp[RowKit.intOf]<;>omega
      |false=>
       go_wp2_with (at_builtin;refine wpList_append_own_at _ rfl _ _ 35 rfl wX.heap.size 2 j0 (.int .i64 0) 1 8 underlying35 Ip KJ PJ vB rfl (by decide) _ _ _ rfl (q8.o.alloc _) ⟨w6.heap.size,0,none⟩ 1 1 (ak (y:Int)) rfl rfl (λj u hj=>fS hj) (λu hu=>cf _ hu) ?c3 ?c4 (aS xj) ?_);case c3=>unfold maxLen;omega
       case c4=>omega
       intro v' w9 aG aA aU iH;have mF:v'≠ .slice none 0 0:=by simpa using aU
       have zG:=I (fb (bV zl.o (.cells #[.int .i64 (y:Int)] 2)) aA (λj hj=>(q8.o.lt j hj).1));have B8:=I ((c9.o.alloc (.cells #[.int .i64 (y:Int)] 2)).grown aA (λj hj=>by have:=(q8.o.lt j hj).1;have:=gf.o;omega));have jt:ag (w9.ownsRow wX.heap.size 2 1 v' (zs++[(y:Int)]).length ((zs++[(y:Int)]).flatMap ak)):=I (by rw[cq,List.length_append];exact aG);obtain ⟨g9,gM,rfl,zE,zF⟩:=bG aG mF;have EF:=I (lO ii.o (by omega) (by omega) (by omega) Mo.o HR.o);clear aG aA aU iH mF;go_wp2;go_roundw;case rel=>exact ⟨zs++[(y:Int)],m,by go_num,by rw[List.length_append,List.length_singleton];omega,jt.o,by simp,EF.o,B8.o.more (by omega),zG.o⟩
       case measure=>simp[RowKit.intOf]<;>omega
     obtain rfl:m=0:=by omega
     have EU: ¬(0:Int)<((0:Nat):Int):=by omega
     have I9:=I (I7.o.only CA QP.o);have Rz:=I9.o.box.row;have x2:=Rz.cell 2 _ rfl;have f2:=Rz.free 2 (by simp);have Mp:=QP.o.size;have HZ:=I (ay.bI ak (size:=1) (λ_=>rfl) eH.o);have Ol:=I (I9.o.more zs);clear Rz;go_wp2_with (at_builtin;refine wpList_append_own_at _ rfl _ _ 24 rfl W0.heap.size 35 t0 (.slice none 0 0) 1 24 underlying24 hit KB Wd XQ rfl (by decide) _ _ _ rfl (I9.o.tr.alloc _) ⟨wr.heap.size,0,none⟩ 1 1 (lH ⟨zs,.slice (some ⟨g2,0,none⟩) zs.length zM⟩) rfl rfl (λj u hj=>fS hj) (λu hu=>by rw[List.mem_singleton.1 hu];rfl) ?d3 ?d4 (aS (by omega)) ?_);case d3=>have:=PM.o;unfold maxLen;omega
     case d4=>have:=PM.o;omega
     intro v' w9 aG aA aU iH;have mF:v'≠ .slice none 0 0:=by simpa using aU
     have zP:Below wr.heap.size wr (wr.alloc (.cells #[.slice (some ⟨g2,0,none⟩) zs.length zM] 35)):=(Below.refl _ _).alloc (Nat.le_refl _) _;have lE:=I (kK.Af (n:=wX.heap.size) (y:=⟨zs,.slice (some ⟨g2,0,none⟩) zs.length zM⟩) (Ol.o.below zP) (λc hc=>I7.o.box.O6 c (by have e:(L++[zs]).take L.length=L.take L.length:=List.take_append_of_le_length (Nat.le_refl _);exact (show bz _ (xp _ ((xp (x3:Int) L S).af.take L.length) S) T [] [] c by rw[show (xp (x3:Int) L S).af.take L.length=(L++[zs]).take L.length from e.symm];exact hc))) (I7.o.box.lt) (by simp;omega) (HZ.o.on zP) (by show (L++[zs])[L.length]?=some zs;rw[List.getElem?_append_right (Nat.le_refl _),Nat.sub_self];rfl) aA (by rcases iH with h|h;exact .inl h;exact .inr (by simpa using h)) aG mF);have uC:Row w9 w4.heap.size [.int .i64 0,.int .i64 (x3:Int),.slice At T.length ct,.slice Ab S.length cb,.slice none 0 0,.slice none 0 0]:=(I9.o.below zP).Cm (Below.refl _ _) aA;have s2:=uC.cell 2 _ rfl;have f9:=uC.free 2 (by simp);obtain ⟨g9,gM,rfl,_,_⟩:=bG aG mF;have zG:=I (mX (fb (bV (ll SQ.o QP.o) (.cells #[.slice (some ⟨g2,0,none⟩) zs.length zM] 35)) aA (λj hj=>(I9.o.tr.lt j hj).1)) (p:=⟨w4.heap.size,2,none⟩) (.inr afB) (.slice (some ⟨g9,0,none⟩) (T.length+1) gM));have xo:Touch (λc=>c=w4.heap.size) w9 (w9.setCell ⟨w4.heap.size,2,none⟩ (.slice (some ⟨g9,0,none⟩) (T.length+1) gM)):=Touch.setCell (F:=λc=>c=w4.heap.size) (Touch.refl _ w9) rfl _;have B8:=I (((bc.o.alloc (.cells #[.slice (some ⟨g2,0,none⟩) zs.length zM] 35)).grown aA (λj hj=>by have:=(I9.o.tr.lt j hj).1;omega)).keep (xo.block b (by have:=bc.o.lt.1;have:=aA.size;simp at this;omega) (by omega)) (λi hi=>xo.block i (by have:=bc.o.lt;have:=aA.size;simp at this;omega) (by have:=bc.o.lt.2;omega)))
     have LR:ag (∀(j:Nat) (l:List Int),(L++[zs])[j]?=some l->cF l j N=true):=I (λj l hj=>by
      by_cases yb:j<L.length
      ·rw[List.getElem?_append_left yb]at hj;exact cT.o j l hj
      rw[List.getElem?_append_right (by omega)]at hj
      have h0:j=L.length:=by
       rcases Nat.eq_zero_or_pos (j-L.length)with h0|h0
       ·omega
       rw[List.getElem?_eq_none (by simp;omega)]at hj;cases hj
      rw[h0,Nat.sub_self]at hj;injection hj with hj
      rw[<-hj,h0];exact ii.o)
     clear aG aA aU iH mF uC xo;go_wp2;go_roundw;case rel=>exact ⟨L++[zs],T++[⟨zs,.slice (some ⟨g2,0,none⟩) zs.length zM⟩],some ⟨g9,0,none⟩,gM,by rw[List.length_append];go_num,by rw[List.length_append,List.length_singleton];omega,by rw[List.length_append,List.length_append,PM.o];rfl,LR.o,by rw[List.length_append,List.length_append];exact lE.o,B8.o.more (by rw[List.length_append,List.length_singleton];omega),zG.o⟩
     case measure=>simp[RowKit.intOf];omega
   have eA: ¬(L.length:Int)<(N:Int):=by omega
   obtain rfl:N=L.length:=by omega
   have LP:Row wX w4.heap.size [.int .i64 0,.int .i64 (x3:Int),.slice At T.length ct,.slice Ab S.length cb,.slice none 0 0,.slice none 0 0]:=I7.o.box.row;have hR:=DX.o.only (by have:=HB.o;omega) (by have:=HB.o;omega) SQ.o;have q0:=LP.cell 0 _ rfl;have q1:=LP.cell 1 _ rfl;have q2:=LP.cell 2 _ rfl;have q3:=LP.cell 3 _ rfl;have q4:=LP.cell 4 _ rfl;have q5:=LP.cell 5 _ rfl;have r0:=hR.cell 0 _ rfl;have r1:=hR.cell 1 _ rfl;have r2:=hR.cell 2 _ rfl;have r3:=hR.cell 3 _ rfl;have r4:=hR.cell 4 _ rfl;have r5:=hR.cell 5 _ rfl;have s0:=hR.free 0 (by simp);have s1:=hR.free 1 (by simp);have s2:=hR.free 2 (by simp);have s3:=hR.free 3 (by simp);have s4:=hR.free 4 (by simp);have s5:=hR.free 5 (by simp);clear LP hR;go_wp2
   have gD: ∀(ac:Go.Act) (w':World),ac.tmps[2]?=some (.pointer (some ⟨w.heap.size,0,none⟩))->w'.cell? ⟨w.heap.size,0,none⟩=some (.int .i64 0)->w'.cell? ⟨w.heap.size,1,none⟩=some (.int .i64 (x3:Int))->w'.cell? ⟨w.heap.size,2,none⟩=some (.slice At T.length ct)->w'.cell? ⟨w.heap.size,3,none⟩=some (.slice Ab S.length cb)->w'.cell? ⟨w.heap.size,4,none⟩=some (.slice none 0 0)->w'.cell? ⟨w.heap.size,5,none⟩=some (.slice none 0 0)->(results f15 ac.tmps).run prog w'= .ok (.agg #[.int .i64 0,.int .i64 (x3:Int),.slice At T.length ct,.slice Ab S.length cb,.slice none 0 0,.slice none 0 0]) w':=by
    intro ac w' ha nB nC nE ob oc od;simp[results,results15,go_sem,ha,nB,nC,nE,ob,oc,od]
   refine bodyPost_ret (gD _ _ rfl (by simp[go_sem,r0]) (by simp[go_sem,r1]) (by simp[go_sem,r2]) (by simp[go_sem,r3]) (by simp[go_sem,r4]) (by simp[go_sem,r5])) rfl ?_;have z': ∀d:Int,0<=d->d<=999->dJ ⟨d,(x3:Int),L,S,[],[]⟩:=λd h0 h1=>mj h0 h1 (by rw[dS];omega) (by omega) (by omega) cT.o Cy.o
   have cr:dM W0.heap.size wX ⟨.slice At T.length ct,.slice Ab S.length cb,.slice none 0 0,.slice none 0 0⟩ ⟨0,(x3:Int),L,S,[],[]⟩ T [] []:=by
    have q:=I7.o.box.own;rw[show (xp (x3:Int) L S).af.take L.length=L from List.take_of_length_le (Nat.le_refl _)]at q;exact q
   have Cr:Touch (λc=>c=w.heap.size) wX ((((((wX.setCell ⟨w.heap.size,0,none⟩ (.int .i64 0)).setCell ⟨w.heap.size,1,none⟩ (.int .i64 (x3:Int))).setCell ⟨w.heap.size,2,none⟩ (.slice At T.length ct)).setCell ⟨w.heap.size,3,none⟩ (.slice Ab S.length cb)).setCell ⟨w.heap.size,4,none⟩ (.slice none 0 0)).setCell ⟨w.heap.size,5,none⟩ (.slice none 0 0)):=by
    iterate 6 refine Touch.setCell (F:=λb=>b=w.heap.size) ?_ rfl _
    exact Touch.refl _ _
   refine ⟨⟨.slice At T.length ct,.slice Ab S.length cb,.slice none 0 0,.slice none 0 0⟩,⟨0,(x3:Int),L,S,[],[]⟩,T,[],[],rfl,⟨_,_,_,_,_,_,_,_,_,_,_,_,rfl⟩,(cr.aD Cr (λc hc e=>by have:=(cr.o.lt hc).1;omega)).less (by omega),z',z' 0 (by omega) (by omega),?_,?_⟩
   ·exact (FR.o.more (by omega)).keep (Cr.block b (by omega) (by have:=HB.o;omega)) (λi hi=>Cr.block i (by have:=FR.o.lt;omega) (by have:=FR.o.lt;omega))
   exact xq (ll kX.o SQ.o) Cr (Nat.le_refl _)
end Go.Proofs.YtbcggaldkihcaaaGreatDoor

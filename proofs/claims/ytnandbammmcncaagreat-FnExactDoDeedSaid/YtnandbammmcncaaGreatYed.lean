/- An act entered among acts, walked: the program's. -/
import Derived.Test.YtnandbammmcncaaGreatYeb
import Derived.Test.YtnandbammmcncaaGreatYec
import Derived.Test.YtnandbammmcncaaGreatZn
set_option maxHeartbeats 8000000
set_option maxRecDepth 100000
namespace Go.Proofs.YtnandbammmcncaaGreat
open Tryz
open Go.RowKit Go.Lib
def pw (x:bu):qU:=match x.v with| .slice A n c=>⟨x.a.a8,x.a.fin,A,n,c⟩|_=>⟨x.a.a8,x.a.fin,none,0,0⟩
theorem j9 {x:bu} {A:Option Addr} {n c:Nat} (h:x.v= .slice A n c):aX (pw x)=cu x:=by
 unfold pw aX cu;rw[h]
theorem ss {base:Nat} {w:World} {g cap:Nat} {L:List bu} (h:fV base w g cap L):(L.map pw).flatMap aX=L.flatMap cu:=by
 have key: ∀M:List bu,(∀x∈M,x∈L)->(M.map pw).flatMap aX=M.flatMap cu:=by
  intro M;induction M with
  |nil=>intro _;rfl
  |cons x M ih=>
   intro hm;obtain ⟨A,c,hv,_⟩:=(h.nt x (hm x (aaA ..))).1;rw[aa4,aa0,aa0,j9 hv,ih (λy hy=>hm y (aaR _ hy))]
 exact key L (λx hx=>hx)
theorem p9 {w:World} {b1 b2 s1 s2 n1 n2:Nat} {e1 e2:TypeId} {v1 v2:Value} {x1 x2:List Value} (h1:w.ownsRow b1 e1 s1 v1 n1 x1) (h2:w.ownsRow b2 e2 s2 v2 n2 x2) (he:e1≠e2) {g:Nat} (hv:v1.ownBlock=some g):v2.ownBlock≠some g:=by
 intro Hj;rcases h1.2 with ⟨rfl,_⟩|⟨g1,c1,Zk,rfl,_,k1,_⟩
 ·cases hv
 rcases h2.2 with ⟨rfl,_⟩|⟨g2,c2,Zl,rfl,_,k2,_⟩
 ·cases Hj
 injection hv with hv
 injection Hj with Hj
 have hv:g1=g:=hv;have Hj:g2=g:=Hj;rw[hv]at k1;rw[Hj,k1]at k2;injection k2 with k2
 injection k2 with _ k2
 exact he k2
theorem su {base M6 B0 g n cap k:Nat} {w6 w7:World} {L:List bu} {X:bu} {v7:Value} {A:Option Addr} {nn cc:Nat} (hX:X.v= .slice A nn cc) (h:bM base w6 g cap L) (oU:iJ g w6 w7) (cr:w7.ownsRow M6 144 3 v7 n (((L.map pw).take k++pw X::(L.map pw).drop k).flatMap aX)) (hn:n=(L.take k++X::L.drop k).length)
 (iH:v7.ownBlock=some g\/v7.ownBlock=some w6.heap.size) (h0:B0<=base) (h6:B0<=M6) (hx:ay ah X.a.pat B0 w6 X.v) (QL: ∀b,cx X.a.pat X.v b->b≠g/\ ∀q∈L,¬cw.dR q b):aR cw B0 w7 v7 (L.take k++X::L.drop k):=by
 have J6: ∀y∈L.take k++X::L.drop k,y=X\/y∈L:=λy hy=>by
  rcases aau.1 hy with hy|hy
  ·exact .inr (aby hy)
  rcases aaF.1 hy with hy|hy
  ·exact .inl hy
  exact .inr (ab7 hy)
 have Hy:((L.map pw).take k++pw X::(L.map pw).drop k).flatMap aX=(L.take k++X::L.drop k).flatMap cu:=by
  have e:(L.map pw).take k++pw X::(L.map pw).drop k=(L.take k++X::L.drop k).map pw:=by simp
  rw[e]
  have key: ∀M:List bu,(∀y∈M,y=X\/y∈L)->(M.map pw).flatMap aX=M.flatMap cu:=by
   intro M;induction M with
   |nil=>intro _;rfl
   |cons y M ih=>
    intro hm;rw[aa4,aa0,aa0,ih (λz hz=>hm z (aaR _ hz))]
    congr 1
    rcases hm y (aaA ..)with rfl|hy
    ·exact j9 hX
    obtain ⟨A',c',hv,_⟩:=(dL.nt h.st y hy).1;exact j9 hv
  exact key _ J6
 rw[Hy,hn]at cr;have ht:Touch (λb=>b=g) w6 w7:=Touch.aW oU (λb hb=>by injection hb with hb;exact hb.symm)
 have aI: ∀y∈L.take k++X::L.drop k,∀b,cw.dR y b->b≠g/\b<w6.heap.size:=λy hy b hb=>by
  rcases J6 y hy with rfl|hy
  ·exact ⟨(QL b hb).1,(ay.dw hx hb).2⟩
  refine ⟨λe=>?_,(h.dR hy hb).2⟩;have h2:=(dL.nt h.st y hy).2.1 hb.1;rw[hb.2,e]at h2;exact h2 rfl
 refine ⟨(ay.bI cu (size:=3) (λ_=>rfl) cr).less h6,λy hy=>?_,λy hy b hb e=>?_,?_⟩
 ·have ho:ay ah y.a.pat B0 w6 y.v:=by
   rcases J6 y hy with rfl|hy
   ·exact hx
   exact (dL.nt h.st y hy).1.less h0
  exact ho.aD ht (λb hb=>(aI y hy b hb).1)
 ·have q:=aI y hy b hb;rcases iH with e'|e'<;>rw[e']at e<;>injection e with e<;>omega
 have h2:=h.two;rw[<-abG k L,aaY]at h2;rw[aaY,aa9];refine ⟨h2.1,⟨λq hq b h3 h4=>(QL b h3).2 q (ab7 hq) h4,h2.2.1⟩,λp hp q hq b h3 h4=>?_⟩;rcases aaF.1 hq with rfl|hq
 ·exact (QL b h4).2 p (aby hp) h3
 exact h2.2.2 p hp q hq b h3 h4
theorem wE (a:cp) (At:Option Addr) (ct:Nat) (Ab:Option Addr) (cb:Nat) (Ac:Option Addr) (cc:Nat) (Am:Option Addr) (cm:Nat) (m:gu) (pA:Option Addr) (pc:Nat) (vA:Option Addr) (vc:Nat) (w:World)
 (hS:iT w w.heap.size (.slice Ab a.base.length cb) a.base) (hA:eE w w.heap.size (.slice Ac a.av.length cc) a.av) (CV:cd a.base=true) (cy:bJ a.av=true) (ha:eV (cM m)=true) (RA:bg w w.heap.size (.slice pA m.pat.length pc) m.pat):
 Calls prog 123 #[.agg #[.int .i64 a.day,.int .i64 a.rule,.slice At a.af.length ct,.slice Ab a.base.length cb,.slice Ac a.av.length cc,.slice Am a.ao.length cm],.agg #[.string m.al,.int .i64 m.br,.slice pA m.pat.length pc,.int .i64 m.a8,.int .i64 m.fin,.int .i64 m.aj,.slice vA m.ax.length vc,.int .i64 m.result]] w (iB a.base a.av (cM m) w):=by
 obtain ⟨A',c',hv,hc,hm,cn⟩:=dk hA;injection hv with e1 _ e3
 subst e1 e3;have IM:=eM cy;obtain ⟨W1,eG⟩: ∃W1:World,W1=w.alloc (.cells #[.int .i64 a.day,.int .i64 a.rule,.slice At a.af.length ct,.slice Ab a.base.length cb,.slice Ac a.av.length cc,.slice Am a.ao.length cm] 36):=⟨_,rfl⟩
 obtain ⟨W,hW⟩: ∃W:World,W=W1.alloc (.cells #[.string m.al,.int .i64 m.br,.slice pA m.pat.length pc,.int .i64 m.a8,.int .i64 m.fin,.int .i64 m.aj,.slice vA m.ax.length vc,.int .i64 m.result] 78):=⟨_,rfl⟩
 have b1:Below w.heap.size w W1:=by rw[eG];exact (aae _ _).alloc (aad _) _
 have s1:W1.heap.size=w.heap.size+1:=by rw[eG];simp
 have b2:Below W1.heap.size W1 W:=by rw[hW];exact (aae _ _).alloc (aad _) _
 have s2:W.heap.size=w.heap.size+2:=by rw[hW];simp[s1]
 have bW:Below w.heap.size w W:=b1.trans (b2.mono b1.size);have r1:Row W1 w.heap.size [.int .i64 a.day,.int .i64 a.rule,.slice At a.af.length ct,.slice Ab a.base.length cb,.slice Ac a.av.length cc,.slice Am a.ao.length cm]:=by rw[eG];exact Row.new w _ _
 have mB:=I (r1.below b2 (by omega));have r2:Row W (w.heap.size+1) [.string m.al,.int .i64 m.br,.slice pA m.pat.length pc,.int .i64 m.a8,.int .i64 m.fin,.int .i64 m.aj,.slice vA m.ax.length vc,.int .i64 m.result]:=by rw[hW,<-s1];exact Row.new W1 _ _
 have gj:=I r2;have Ge:w.heap.size<W.heap.size:=by omega
 have KL:w.heap.size+1<W.heap.size:=by omega
 have gf:=I bW;have CF:=I (λW' (hb:Below W.heap.size W W')=>hA.on (bW.trans (hb.mono bW.size)) (bW.trans (hb.mono bW.size)).size);have lE:=I (λW' (hb:Below W.heap.size W W')=>(cz.on hS (Pl.stays _) (bW.trans (hb.mono bW.size)) (bW.trans (hb.mono bW.size)).size:iT W' W'.heap.size (.slice Ab a.base.length cb) a.base));have HE:ag (∀W',Below W.heap.size W W'->bg W' W'.heap.size (.slice pA m.pat.length pc) m.pat):=I (λW' h=>cz.on RA (Pl.stays _) (bW.trans (h.mono bW.size)) (bW.trans (h.mono bW.size)).size);have z4:=λy:ar W=>y.cell (mB.o.cell 4 _ rfl);have z3:=λy:ar W=>y.cell (gj.o.cell 3 _ rfl);have gH:=I cn;have ii:=I cy;have MZ:=I ha;have se:bF m.pat=true:=(ep.1 ha).pat;have OO:=I (lC se);have oz:=eZ se;have KV:=I CV;unfold maxLen at hm;have lV:=I (show (w.alloc (.cells #[.int .i64 a.day,.int .i64 a.rule,.slice At a.af.length ct,.slice Ab a.base.length cb,.slice Ac a.av.length cc,.slice Am a.ao.length cm] 36)).alloc (.cells #[.string m.al,.int .i64 m.br,.slice pA m.pat.length pc,.int .i64 m.a8,.int .i64 m.fin,.int .i64 m.aj,.slice vA m.ax.length vc,.int .i64 m.result] 78)=W by rw[hW,eG]);have U2:=mB.o.cell 4 _ rfl;unfold iB;obtain ⟨x0,dp⟩: ∃y:ar W,y.val=W:=⟨⟨W,aae _ _⟩,rfl⟩
 have RD:=I dp;clear hA cn CV cy ha RA hS dp hW eG b1 b2 r1 r2 bW se U2 s1;by_cases h8:a.av.length<8
 case neg=>
  have eA:((a.av.length:Int)==8)=true:=by
   have:a.av.length=8:=by omega
   rw[this];rfl
  have HN:=um (S:=a.base) (x:=cM m) h8;rw[HN];clear HN h8 IM;go_enter func123,ntmps123;go_wp2;rw[lV.o];go_ret2;first
  |exact ⟨⟨_,_,_,rfl⟩,gf.o⟩
  |exact ⟨_,_,_,rfl,(λh=>by cases h),gf.o⟩
 have Zm:((a.av.length:Int)==8)=false:=by simp;omega
 go_enter func123,ntmps123;go_wp2;rw[lV.o,<-RD.o];go_loopw [6] (λi wr=> ∃(k:Nat) (y:ar W),k<=a.av.length/\i= .int .i64 (k:Int)/\wr=y.val/\(∀j b,a.av[j]?=some b->j<k->b.a8<=m.a8)) (λi _=>a.av.length-(intOf i).toNat);case atStart=>exact ⟨0,x0,aaf _,rfl,rfl,λj b _ hj=>absurd hj (aa' _)⟩
 case round=>
  obtain ⟨k,y,hk,rfl,rfl,RB⟩:=hrel;have D3:=I RB;clear RB;by_cases aI:k<a.av.length
  ·obtain ⟨b,off,hA,hb,aC⟩:=gH.o (by omega);subst hA;have aH:a.av[k]?=some a.av[k]:=aag aI;obtain ⟨pv,c0,_,_,_⟩:=aC k _ aH;have x1:=λy:ar W=>y.cell ((gf.o.cell (p:=⟨b,off+k*3,none⟩) hb).trans c0);have HG:=I aH;have Hl:(k:Int)<(a.av.length:Int):=by omega
   clear aH c0 aC;generalize a.av[k]=q at*;by_cases hq:q.a8<=m.a8
   ·have hd:decide (q.a8<=m.a8)=true:=by simp[hq]
    have HN:ag (∀j b,a.av[j]?=some b->j<k+1->b.a8<=m.a8):=I (λj b hj KI=>by
     by_cases e:j=k
     ·subst e;rw[HG.o]at hj;injection hj with hj
      rw[<-hj];exact hq
     exact D3.o j b hj (by omega))
    go_upto_region 4 with (fail)
    refine ap (by kernel_rfl) (by kernel_rfl) ?_
    repeat (go_big_quiet_step (fail))
    refine aai ?_;rintro _ ⟨u,rfl⟩;go_wp2;go_roundw;case rel=>exact ⟨k+1,u,by omega,by go_num,rfl,HN.o⟩
    case measure=>simp[intOf];omega
   have hd:decide (q.a8<=m.a8)=false:=by simp;omega
   go_upto_region 4 with (fail)
   refine ap (by kernel_rfl) (by kernel_rfl) ?_
   repeat (go_big_quiet_step (fail))
   refine aai ?_;rintro _ ⟨u,rfl⟩;clear x1;have uK:ag (cG a.av m.a8=k):=I (nN hk D3.o (Or.inr ⟨q,HG.o,hq⟩));have tx:=I (λ(W':World) (hb:Below W.heap.size W W')=>pt a.av W' _ (CF.o W' hb) ii.o);have jA:(0:Int)<=(k:Int):=by omega
   unfold uk at tx;have uo:=I u.ok;obtain ⟨i0,hi,dK,rF,ek⟩:=aaq kf;obtain ⟨e0,po,pq,pr,mu⟩:=aaq oG;go_upto_region 6 with (fail)
   obtain ⟨U,hU⟩: ∃U,U=u.val:=⟨_,rfl⟩
   have jo:Below W.heap.size W U:=by rw[hU];exact u.ok
   rw[<-hU];clear hU;have bX:ag (∀w',Below W.heap.size W w'->w'.cell? ⟨w.heap.size,4,none⟩=some (.slice (some ⟨b,off,none⟩) a.av.length cc)/\w'.cell? ⟨w.heap.size+1,3,none⟩=some (.int .i64 m.a8)/\w'.cell? ⟨w.heap.size+1,4,none⟩=some (.int .i64 m.fin)/\w'.cell? ⟨w.heap.size+1,2,none⟩=some (.slice pA m.pat.length pc)):=I (λX hX=>⟨(mB.o.below hX Ge).cell 4 _ rfl,(gj.o.below hX KL).cell 3 _ rfl,(gj.o.below hX KL).cell 4 _ rfl,(gj.o.below hX KL).cell 2 _ rfl⟩);clear z3 z4;refine abM (S:=λw'=>w'.cell? ⟨w.heap.size,4,none⟩=some (.slice (some ⟨b,off,none⟩) a.av.length cc)/\w'.cell? ⟨w.heap.size+1,3,none⟩=some (.int .i64 m.a8)/\w'.cell? ⟨w.heap.size+1,4,none⟩=some (.int .i64 m.fin)/\w'.cell? ⟨w.heap.size+1,2,none⟩=some (.slice pA m.pat.length pc)) (by kernel_rfl) (bX.o _ jo.drew) (λaE=>?_);refine aZ 0 ?_
   try simp only[Act.put,aK,aM]
   refine aZ 1 ?_
   try simp only[Act.put,aK,aM]
   refine aZ 3 ?_
   try simp only[Act.put,aK,aM]
   refine aZ 4 ?_
   try simp only[Act.put,aK,aM]
   refine aZ 5 ?_
   try simp only[Act.put,aK,aM]
   refine aZ 6 ?_
   try simp only[Act.put,aK,aM]
   refine aZ 7 ?_
   try simp only[Act.put,aK,aM]
   refine aZ 9 ?_
   try simp only[Act.put,aK,aM]
   refine aZ 10 ?_
   try simp only[Act.put,aK,aM]
   have xR:Below W.heap.size W U.drew:=jo.drew;obtain ⟨V,hV⟩: ∃V,V=U.drew:=⟨_,rfl⟩
   rw[<-hV]at xR⊢;clear hV jo;refine aav (rs:=[2,8]) (by kernel_rfl) (by simp) ?_;refine aat rfl (λK hK=>?_) (aat rfl (λK hK=>?_) aaw)
   ·try simp only[aK]
    go_simp;go_at_call 145;refine aaM (tx.o _ xR) ?_;rintro e w3 ⟨g,cap,L,rfl,nJ,hD,dB⟩;have fL:=xR.trans (dB.mono xR.size);refine hK.out _ _ (bX.o _ fL) (λau=>?_);clear hK K aE;have aE:=au;clear au
    try simp only[Act.put,aM]
    refine aav (rs:=[8]) (by kernel_rfl) (by simp) ?_;refine aat rfl (λK hK=>?_) aaw
    try simp only[aK]
    go_simp;have iz:=fL.alloc fL.size (.cells #[] 162);refine hK.out _ _ (bX.o _ iz) (λau=>?_);clear hK K aE;have aE:=au;clear au
    try simp only[Act.put,aM]
    have cN:(w3.alloc (.cells #[] 162)).ownsRow w3.heap.size 162 4 (.slice (some ⟨w3.heap.size,0,none⟩) 0 0) 0 []:=by simpa using aaz w3 #[] 0 (aad _) (aaf _) rfl
    have dY:=I cN;have j7:Below w3.heap.size w3 (w3.alloc (.cells #[] 162)):=(aae _ _).alloc (aad _) _;have U3:=bM.below hD j7;have KY:w3.heap.size<=(w3.alloc (.cells #[] 162)).heap.size:=j7.size;have rK:W.heap.size<=w3.heap.size:=fL.size;obtain ⟨SB,tC⟩: ∃SB,SB=V.heap.size:=⟨_,rfl⟩
    have Ce:W.heap.size<=SB:=by rw[tC];exact xR.size
    rw[<-tC]at U3 hD;clear tC;refine aav (rs:=[11]) (by kernel_rfl) (by simp) ?_;refine aat rfl (λK hK=>?_) aaw
    try simp only[aK]
    refine aQ ah (by rfl) _ _ 53 (by rfl) w3.heap.size 162 e0 (.agg #[.int .i64 0,.int .i64 0,.string ⟨#[]⟩,.string ⟨#[]⟩]) 4 48 underlying53 po pq pr mu rfl (by decide) _ _ _ (by rfl) dY.o _ m.pat _ (by rfl) (HE.o _ iz) (λ_=>rfl) (λy u hu=>cJ hu) (by unfold maxLen;omega) (by omega) KY ?_;intro v2 w5 aY aw cY ci;have ju:ag (ay ah m.pat w3.heap.size w5 v2):=I (ay.bI ah (size:=4) (λ_=>rfl) (by simpa using aY));have Ek:Below W.heap.size W w5:=iz.grown aw iz.size (λj hj=>aaB rK (dY.o.lt j hj).1);have uP:bM SB w5 g cap L:=bM.below hD (j7.grown aw j7.size (λj hj=>(dY.o.lt j hj).1));have Ao:ag (∀b,v2.ownBlock=some b-> ∀q∈L,¬cw.dR q b):=I (λb hb q hq mq=>by have q2:=(hD.dR hq mq).2;have q3:=j7.size;rcases ci with h|h<;>(have e:=h.symm.trans hb;injection e with e;(try (have e:w3.heap.size=b:=e));omega));have CC:ag (v2.ownBlock≠some g):=I (p9 uP.row aY (by decide) rfl);obtain ⟨A2,c2,rfl,_⟩:=ju.o;clear aY aw cY ci;obtain ⟨X,hX⟩: ∃X:bu,X=⟨⟨m.a8,m.fin,m.pat⟩,.slice A2 m.pat.length c2⟩:=⟨_,rfl⟩
    have El:X.v= .slice A2 m.pat.length c2:=by rw[hX]
    have J7:X.a=cM m:=by rw[hX];rfl
    obtain ⟨w6,xj⟩: ∃w6,w6=w5.alloc (.cells #[.int .i64 m.a8,.int .i64 m.fin,.slice A2 m.pat.length c2] 144):=⟨_,rfl⟩
    have En:Below w5.heap.size w5 w6:=by rw[xj];exact (aae _ _).alloc (aad _) _
    have Eo:Below W.heap.size W w6:=Ek.trans (En.mono Ek.size);have zN:ag (bM SB w6 g cap L):=I (bM.below uP En);have zl:ag (ay ah m.pat w3.heap.size w6 (.slice A2 m.pat.length c2)):=I (ju.o.on En);have OS:=zN.o.row.lt g rfl;have U4:=(uP.row.lt g rfl).2;have OT:W.heap.size<=g:=aaB Ce OS.1;have zO:L.length=a.av.length:=by rw[<-aap,nJ]
    have J8:(L.map pw).length=a.av.length:=by rw[aap,zO]
    have px:w6.ownsRow SB 144 3 (.slice (some ⟨g,0,none⟩) a.av.length cap) a.av.length ((L.map pw).flatMap aX):=by rw[ss zN.o.st,<-zO];exact zN.o.row
    have ta:jR w6 w5.heap.size 144 (aX (pw X)):=by rw[j9 El,hX,xj];exact ly _ _
    have qV:SB<=w6.heap.size:=by omega
    have rG:=I (sr (L.map pw) (pw X) k SB g a.av.length cap w5.heap.size 1 w6 J8 hk (by omega) px ta (by omega) qV);unfold iO at rG;have tD:=I (show X.v= .slice A2 m.pat.length c2/\X.a=cM m from ⟨El,J7⟩);have wh:=I (show L.map (·.a)=a.av from nJ);have OU:=I xj;have xP:=I zO;clear xj hX El J7 zO J8 px ta nJ;refine hK.out _ _ (bX.o _ Ek) (λau=>?_);clear hK K aE;have aE:=au;clear au
    try simp only[Act.put,aM]
    refine aZ 12 ?_
    try simp only[Act.put,aK,aM]
    refine aav (rs:=[13]) (by kernel_rfl) (by simp) ?_;refine aat rfl (λK hK=>?_) aaw
    try simp only[aK]
    go_simp;rw[<-OU.o];refine hK.out _ _ (bX.o _ Eo) (λau=>?_);clear hK K aE;have aE:=au;clear au
    try simp only[Act.put,aM]
    refine aav (rs:=[14]) (by kernel_rfl) (by simp) ?_;refine aat rfl (λK hK=>?_) aaw
    try simp only[aK]
    go_simp;rw[xP.o];go_at_call 165;refine aaM (rG.o) ?_;rintro e w7 ⟨v7,rfl,wF,OV,Ep,wG⟩;have wH:Below W.heap.size W w7:=Eo.trans (gx wG OT Eo.size);have Er:a.av.length+1=(L.take k++X::L.drop k).length:=by rw[<-xP.o];simp;omega
    have Es:ag (aR cw W.heap.size w7 v7 (L.take k++X::L.drop k)):=I (by
     refine su tD.o.1 zN.o wG wF Er Ep Ce Ce ?_ (λb hb=>⟨λe=>CC.o ?_,Ao.o b ?_⟩)
     ·rw[tD.o.1,tD.o.2];exact zl.o.less rK
     ·rw[tD.o.1]at hb;rw[hb.2,e]
     rw[tD.o.1]at hb;exact hb.2)
    have wI:ag ((L.take k++X::L.drop k).map (·.a)=cI a.av (cM m)):=I (by
     rw[aaK,aa4,List.map_take,List.map_drop,wh.o,tD.o.2];unfold cI;rw[show cG a.av (cM m).a8=k from uK.o])
    have wJ:ag (eE w7 w7.heap.size v7 (cI a.av (cM m))):=I (by
     have:=Es.o.av;rw[wI.o]at this;exact this)
    obtain ⟨A7,n7,c7,rfl⟩: ∃A n c,v7= .slice A n c:=by
     obtain ⟨A7,c7,OW,_⟩:=dk wJ.o;exact ⟨A7,_,c7,OW⟩
    have OX:ag (n7=(L.take k++X::L.drop k).length):=I (by
     obtain ⟨A8,c8,OY,_⟩:=Es.o.row;injection OY)
    refine hK.out _ _ (bX.o _ wH) (λau=>?_);clear hK K aE;have aE:=au;clear au
    try simp only[Act.put,aM]
    refine aZ 15 ?_
    try simp only[Act.put,aK,aM]
    refine abz (by kernel_rfl) ?_ _;clear aE xR;have rj:=I (jK a.base (cI a.av (cM m)) w7 _ _ (lE.o w7 wH) wJ.o KV.o (jp ii.o MZ.o h8));unfold ff at rj;have z9:=(mB.o.below wH Ge).cell 3 _ rfl;go_wp2_with (fail);refine rj.o.mono ?_;rintro e w8 ⟨g8,OZ,n8,rfl,U5,aU,zP⟩;have kx:=I (wH.trans (zP.mono wH.size));by_cases ol:n8=0
    ·have jS:ag (fi a.base a.av (cM m)=true):=I (j8 h8 (aU.1 ol));subst ol;have O0:=I ((Es.o.below zP).less gf.o.size);clear aU zP;go_wp2;go_ret2;exact ⟨_,_,_,by rw[jS.o];rfl,λ_=>⟨_,OX.o,wI.o,O0.o⟩,(gf.o.trans (kx.o.mono gf.o.size))⟩
    have jS:ag (fi a.base a.av (cM m)=false):=I (lN (λh=>ol (aU.2 h)));have Hh:((n8:Int)==0)=false:=by simp;omega
    clear aU zP ol;go_wp2;go_ret2;exact ⟨_,_,_,by rw[jS.o];rfl,(λh=>by rw[jS.o]at h;cases h),(gf.o.trans (kx.o.mono gf.o.size))⟩
   try simp only[aK]
   go_simp;have gZ:=xR.alloc xR.size (.cells #[] 162);refine hK.out _ _ (bX.o _ gZ) (λau=>?_);clear hK K aE;have aE:=au;clear au
   try simp only[Act.put,aM]
   have gW:=I (show (V.alloc (.cells #[] 162)).ownsRow V.heap.size 162 4 (.slice (some ⟨V.heap.size,0,none⟩) 0 0) 0 [] by simpa using aaz V #[] 0 (aad _) (aaf _) rfl);have aI:V.heap.size<(V.alloc (.cells #[] 162)).heap.size:=by rw[World.size_alloc];omega
   refine aav (rs:=[2]) (by kernel_rfl) (by simp) ?_;refine aat rfl (λK hK=>?_) aaw
   try simp only[aK]
   go_simp;go_at_call 145;refine aaM (tx.o _ gZ) ?_;rintro e w3 ⟨g,cap,L,rfl,nJ,hD,dB⟩;have iz:=gZ.trans (dB.mono gZ.size);refine hK.out _ _ (bX.o _ iz) (λau=>?_);clear hK K aE;have aE:=au;clear au
   try simp only[Act.put,aM]
   have dY:=I (aT gW.o dB);have KY:V.heap.size<=w3.heap.size:=aaB (abi aI) dB.size;have rK:W.heap.size<=V.heap.size:=xR.size;have Ce:W.heap.size<=(V.alloc (.cells #[] 162)).heap.size:=gZ.size;obtain ⟨SB,tC⟩: ∃SB,SB=(V.alloc (.cells #[] 162)).heap.size:=⟨_,rfl⟩
   rw[<-tC]at hD Ce aI;clear tC;refine aav (rs:=[11]) (by kernel_rfl) (by simp) ?_;refine aat rfl (λK hK=>?_) aaw
   try simp only[aK]
   refine aQ ah (by rfl) _ _ 53 (by rfl) V.heap.size 162 e0 (.agg #[.int .i64 0,.int .i64 0,.string ⟨#[]⟩,.string ⟨#[]⟩]) 4 48 underlying53 po pq pr mu rfl (by decide) _ _ _ (by rfl) dY.o _ m.pat _ (by rfl) (HE.o _ iz) (λ_=>rfl) (λy u hu=>cJ hu) (by unfold maxLen;omega) (by omega) KY ?_;intro v2 w5 aY aw cY ci;have ju:ag (ay ah m.pat V.heap.size w5 v2):=I (ay.bI ah (size:=4) (λ_=>rfl) (by simpa using aY));have Ek:Below W.heap.size W w5:=iz.grown aw iz.size (λj hj=>aaB rK (dY.o.lt j hj).1);have uP:bM SB w5 g cap L:=⟨dL.only hD.st aI aw,hD.two⟩
   have Ao:ag (∀b,v2.ownBlock=some b-> ∀q∈L,¬cw.dR q b):=I (λb hb q hq mq=>by have q2:=hD.dR hq mq;rcases ci with h|h<;>(have e:=h.symm.trans hb;injection e with e;(try (have e:V.heap.size=b:=e));omega));have CC:ag (v2.ownBlock≠some g):=I (p9 uP.row aY (by decide) rfl);obtain ⟨A2,c2,rfl,_⟩:=ju.o;clear aY aw cY ci;obtain ⟨X,hX⟩: ∃X:bu,X=⟨⟨m.a8,m.fin,m.pat⟩,.slice A2 m.pat.length c2⟩:=⟨_,rfl⟩
   have El:X.v= .slice A2 m.pat.length c2:=by rw[hX]
   have J7:X.a=cM m:=by rw[hX];rfl
   obtain ⟨w6,xj⟩: ∃w6,w6=w5.alloc (.cells #[.int .i64 m.a8,.int .i64 m.fin,.slice A2 m.pat.length c2] 144):=⟨_,rfl⟩
   have En:Below w5.heap.size w5 w6:=by rw[xj];exact (aae _ _).alloc (aad _) _
   have Eo:Below W.heap.size W w6:=Ek.trans (En.mono Ek.size);have zN:ag (bM SB w6 g cap L):=I (bM.below uP En);have zl:ag (ay ah m.pat V.heap.size w6 (.slice A2 m.pat.length c2)):=I (ju.o.on En);have OS:=zN.o.row.lt g rfl;have U4:=(uP.row.lt g rfl).2;have OT:W.heap.size<=g:=aaB Ce OS.1;have zO:L.length=a.av.length:=by rw[<-aap,nJ]
   have J8:(L.map pw).length=a.av.length:=by rw[aap,zO]
   have px:w6.ownsRow SB 144 3 (.slice (some ⟨g,0,none⟩) a.av.length cap) a.av.length ((L.map pw).flatMap aX):=by rw[ss zN.o.st,<-zO];exact zN.o.row
   have ta:jR w6 w5.heap.size 144 (aX (pw X)):=by rw[j9 El,hX,xj];exact ly _ _
   have qV:SB<=w6.heap.size:=by omega
   have rG:=I (sr (L.map pw) (pw X) k SB g a.av.length cap w5.heap.size 1 w6 J8 hk (by omega) px ta (by omega) qV);unfold iO at rG;have tD:=I (show X.v= .slice A2 m.pat.length c2/\X.a=cM m from ⟨El,J7⟩);have wh:=I (show L.map (·.a)=a.av from nJ);have OU:=I xj;have xP:=I zO;clear xj hX El J7 zO J8 px ta nJ;refine hK.out _ _ (bX.o _ Ek) (λau=>?_);clear hK K aE;have aE:=au;clear au
   try simp only[Act.put,aM]
   refine aZ 12 ?_
   try simp only[Act.put,aK,aM]
   refine aav (rs:=[13]) (by kernel_rfl) (by simp) ?_;refine aat rfl (λK hK=>?_) aaw
   try simp only[aK]
   go_simp;rw[<-OU.o];refine hK.out _ _ (bX.o _ Eo) (λau=>?_);clear hK K aE;have aE:=au;clear au
   try simp only[Act.put,aM]
   refine aav (rs:=[14]) (by kernel_rfl) (by simp) ?_;refine aat rfl (λK hK=>?_) aaw
   try simp only[aK]
   go_simp;rw[xP.o];go_at_call 165;refine aaM (rG.o) ?_;rintro e w7 ⟨v7,rfl,wF,OV,Ep,wG⟩;have wH:Below W.heap.size W w7:=Eo.trans (gx wG OT Eo.size);have Er:a.av.length+1=(L.take k++X::L.drop k).length:=by rw[<-xP.o];simp;omega
   have Es:ag (aR cw W.heap.size w7 v7 (L.take k++X::L.drop k)):=I (by
    refine su tD.o.1 zN.o wG wF Er Ep Ce Ce ?_ (λb hb=>⟨λe=>CC.o ?_,Ao.o b ?_⟩)
    ·rw[tD.o.1,tD.o.2];exact zl.o.less rK
    ·rw[tD.o.1]at hb;rw[hb.2,e]
    rw[tD.o.1]at hb;exact hb.2)
   have wI:ag ((L.take k++X::L.drop k).map (·.a)=cI a.av (cM m)):=I (by
    rw[aaK,aa4,List.map_take,List.map_drop,wh.o,tD.o.2];unfold cI;rw[show cG a.av (cM m).a8=k from uK.o])
   have wJ:ag (eE w7 w7.heap.size v7 (cI a.av (cM m))):=I (by
    have:=Es.o.av;rw[wI.o]at this;exact this)
   obtain ⟨A7,n7,c7,rfl⟩: ∃A n c,v7= .slice A n c:=by
    obtain ⟨A7,c7,OW,_⟩:=dk wJ.o;exact ⟨A7,_,c7,OW⟩
   have OX:ag (n7=(L.take k++X::L.drop k).length):=I (by
    obtain ⟨A8,c8,OY,_⟩:=Es.o.row;injection OY)
   refine hK.out _ _ (bX.o _ wH) (λau=>?_);clear hK K aE;have aE:=au;clear au
   try simp only[Act.put,aM]
   refine aZ 15 ?_
   try simp only[Act.put,aK,aM]
   refine abz (by kernel_rfl) ?_ _;clear aE xR;have rj:=I (jK a.base (cI a.av (cM m)) w7 _ _ (lE.o w7 wH) wJ.o KV.o (jp ii.o MZ.o h8));unfold ff at rj;have z9:=(mB.o.below wH Ge).cell 3 _ rfl;go_wp2_with (fail);refine rj.o.mono ?_;rintro e w8 ⟨g8,OZ,n8,rfl,U5,aU,zP⟩;have kx:=I (wH.trans (zP.mono wH.size));by_cases ol:n8=0
   ·have jS:ag (fi a.base a.av (cM m)=true):=I (j8 h8 (aU.1 ol));subst ol;have O0:=I ((Es.o.below zP).less gf.o.size);clear aU zP;go_wp2;go_ret2;exact ⟨_,_,_,by rw[jS.o];rfl,λ_=>⟨_,OX.o,wI.o,O0.o⟩,(gf.o.trans (kx.o.mono gf.o.size))⟩
   have jS:ag (fi a.base a.av (cM m)=false):=I (lN (λh=>ol (aU.2 h)));have Hh:((n8:Int)==0)=false:=by simp;omega
   clear aU zP ol;go_wp2;go_ret2;exact ⟨_,_,_,by rw[jS.o];rfl,(λh=>by rw[jS.o]at h;cases h),(gf.o.trans (kx.o.mono gf.o.size))⟩
  have eA: ¬(k:Int)<(a.av.length:Int):=by omega
  go_upto_region 4 with (fail)
  refine ap (by kernel_rfl) (by kernel_rfl) ?_
  repeat (go_big_quiet_step (fail))
  refine aai ?_;rintro _ ⟨u,rfl⟩;have uK:ag (cG a.av m.a8=k):=I (nN hk D3.o (Or.inl (by omega)));have tx:=I (λ(W':World) (hb:Below W.heap.size W W')=>pt a.av W' _ (CF.o W' hb) ii.o);have jA:(0:Int)<=(k:Int):=by omega
  unfold uk at tx;have uo:=I u.ok;obtain ⟨i0,hi,dK,rF,ek⟩:=aaq kf;obtain ⟨e0,po,pq,pr,mu⟩:=aaq oG;go_upto_region 6 with (fail)
  obtain ⟨U,hU⟩: ∃U,U=u.val:=⟨_,rfl⟩
  have jo:Below W.heap.size W U:=by rw[hU];exact u.ok
  rw[<-hU];clear hU;have bX:ag (∀w',Below W.heap.size W w'->w'.cell? ⟨w.heap.size,4,none⟩=some (.slice Ac a.av.length cc)/\w'.cell? ⟨w.heap.size+1,3,none⟩=some (.int .i64 m.a8)/\w'.cell? ⟨w.heap.size+1,4,none⟩=some (.int .i64 m.fin)/\w'.cell? ⟨w.heap.size+1,2,none⟩=some (.slice pA m.pat.length pc)):=I (λX hX=>⟨(mB.o.below hX Ge).cell 4 _ rfl,(gj.o.below hX KL).cell 3 _ rfl,(gj.o.below hX KL).cell 4 _ rfl,(gj.o.below hX KL).cell 2 _ rfl⟩);clear z3 z4;refine abM (S:=λw'=>w'.cell? ⟨w.heap.size,4,none⟩=some (.slice Ac a.av.length cc)/\w'.cell? ⟨w.heap.size+1,3,none⟩=some (.int .i64 m.a8)/\w'.cell? ⟨w.heap.size+1,4,none⟩=some (.int .i64 m.fin)/\w'.cell? ⟨w.heap.size+1,2,none⟩=some (.slice pA m.pat.length pc)) (by kernel_rfl) (bX.o _ jo.drew) (λaE=>?_);refine aZ 0 ?_
  try simp only[Act.put,aK,aM]
  refine aZ 1 ?_
  try simp only[Act.put,aK,aM]
  refine aZ 3 ?_
  try simp only[Act.put,aK,aM]
  refine aZ 4 ?_
  try simp only[Act.put,aK,aM]
  refine aZ 5 ?_
  try simp only[Act.put,aK,aM]
  refine aZ 6 ?_
  try simp only[Act.put,aK,aM]
  refine aZ 7 ?_
  try simp only[Act.put,aK,aM]
  refine aZ 9 ?_
  try simp only[Act.put,aK,aM]
  refine aZ 10 ?_
  try simp only[Act.put,aK,aM]
  have xR:Below W.heap.size W U.drew:=jo.drew;obtain ⟨V,hV⟩: ∃V,V=U.drew:=⟨_,rfl⟩
  rw[<-hV]at xR⊢;clear hV jo;refine aav (rs:=[2,8]) (by kernel_rfl) (by simp) ?_;refine aat rfl (λK hK=>?_) (aat rfl (λK hK=>?_) aaw)
  ·try simp only[aK]
   go_simp;go_at_call 145;refine aaM (tx.o _ xR) ?_;rintro e w3 ⟨g,cap,L,rfl,nJ,hD,dB⟩;have fL:=xR.trans (dB.mono xR.size);refine hK.out _ _ (bX.o _ fL) (λau=>?_);clear hK K aE;have aE:=au;clear au
   try simp only[Act.put,aM]
   refine aav (rs:=[8]) (by kernel_rfl) (by simp) ?_;refine aat rfl (λK hK=>?_) aaw
   try simp only[aK]
   go_simp;have iz:=fL.alloc fL.size (.cells #[] 162);refine hK.out _ _ (bX.o _ iz) (λau=>?_);clear hK K aE;have aE:=au;clear au
   try simp only[Act.put,aM]
   have cN:(w3.alloc (.cells #[] 162)).ownsRow w3.heap.size 162 4 (.slice (some ⟨w3.heap.size,0,none⟩) 0 0) 0 []:=by simpa using aaz w3 #[] 0 (aad _) (aaf _) rfl
   have dY:=I cN;have j7:Below w3.heap.size w3 (w3.alloc (.cells #[] 162)):=(aae _ _).alloc (aad _) _;have U3:=bM.below hD j7;have KY:w3.heap.size<=(w3.alloc (.cells #[] 162)).heap.size:=j7.size;have rK:W.heap.size<=w3.heap.size:=fL.size;obtain ⟨SB,tC⟩: ∃SB,SB=V.heap.size:=⟨_,rfl⟩
   have Ce:W.heap.size<=SB:=by rw[tC];exact xR.size
   rw[<-tC]at U3 hD;clear tC;refine aav (rs:=[11]) (by kernel_rfl) (by simp) ?_;refine aat rfl (λK hK=>?_) aaw
   try simp only[aK]
   refine aQ ah (by rfl) _ _ 53 (by rfl) w3.heap.size 162 e0 (.agg #[.int .i64 0,.int .i64 0,.string ⟨#[]⟩,.string ⟨#[]⟩]) 4 48 underlying53 po pq pr mu rfl (by decide) _ _ _ (by rfl) dY.o _ m.pat _ (by rfl) (HE.o _ iz) (λ_=>rfl) (λy u hu=>cJ hu) (by unfold maxLen;omega) (by omega) KY ?_;intro v2 w5 aY aw cY ci;have ju:ag (ay ah m.pat w3.heap.size w5 v2):=I (ay.bI ah (size:=4) (λ_=>rfl) (by simpa using aY));have Ek:Below W.heap.size W w5:=iz.grown aw iz.size (λj hj=>aaB rK (dY.o.lt j hj).1);have uP:bM SB w5 g cap L:=bM.below hD (j7.grown aw j7.size (λj hj=>(dY.o.lt j hj).1));have Ao:ag (∀b,v2.ownBlock=some b-> ∀q∈L,¬cw.dR q b):=I (λb hb q hq mq=>by have q2:=(hD.dR hq mq).2;have q3:=j7.size;rcases ci with h|h<;>(have e:=h.symm.trans hb;injection e with e;(try (have e:w3.heap.size=b:=e));omega));have CC:ag (v2.ownBlock≠some g):=I (p9 uP.row aY (by decide) rfl);obtain ⟨A2,c2,rfl,_⟩:=ju.o;clear aY aw cY ci;obtain ⟨X,hX⟩: ∃X:bu,X=⟨⟨m.a8,m.fin,m.pat⟩,.slice A2 m.pat.length c2⟩:=⟨_,rfl⟩
   have El:X.v= .slice A2 m.pat.length c2:=by rw[hX]
   have J7:X.a=cM m:=by rw[hX];rfl
   obtain ⟨w6,xj⟩: ∃w6,w6=w5.alloc (.cells #[.int .i64 m.a8,.int .i64 m.fin,.slice A2 m.pat.length c2] 144):=⟨_,rfl⟩
   have En:Below w5.heap.size w5 w6:=by rw[xj];exact (aae _ _).alloc (aad _) _
   have Eo:Below W.heap.size W w6:=Ek.trans (En.mono Ek.size);have zN:ag (bM SB w6 g cap L):=I (bM.below uP En);have zl:ag (ay ah m.pat w3.heap.size w6 (.slice A2 m.pat.length c2)):=I (ju.o.on En);have OS:=zN.o.row.lt g rfl;have U4:=(uP.row.lt g rfl).2;have OT:W.heap.size<=g:=aaB Ce OS.1;have zO:L.length=a.av.length:=by rw[<-aap,nJ]
   have J8:(L.map pw).length=a.av.length:=by rw[aap,zO]
   have px:w6.ownsRow SB 144 3 (.slice (some ⟨g,0,none⟩) a.av.length cap) a.av.length ((L.map pw).flatMap aX):=by rw[ss zN.o.st,<-zO];exact zN.o.row
   have ta:jR w6 w5.heap.size 144 (aX (pw X)):=by rw[j9 El,hX,xj];exact ly _ _
   have qV:SB<=w6.heap.size:=by omega
   have rG:=I (sr (L.map pw) (pw X) k SB g a.av.length cap w5.heap.size 1 w6 J8 hk (by omega) px ta (by omega) qV);unfold iO at rG;have tD:=I (show X.v= .slice A2 m.pat.length c2/\X.a=cM m from ⟨El,J7⟩);have wh:=I (show L.map (·.a)=a.av from nJ);have OU:=I xj;have xP:=I zO;clear xj hX El J7 zO J8 px ta nJ;refine hK.out _ _ (bX.o _ Ek) (λau=>?_);clear hK K aE;have aE:=au;clear au
   try simp only[Act.put,aM]
   refine aZ 12 ?_
   try simp only[Act.put,aK,aM]
   refine aav (rs:=[13]) (by kernel_rfl) (by simp) ?_;refine aat rfl (λK hK=>?_) aaw
   try simp only[aK]
   go_simp;rw[<-OU.o];refine hK.out _ _ (bX.o _ Eo) (λau=>?_);clear hK K aE;have aE:=au;clear au
   try simp only[Act.put,aM]
   refine aav (rs:=[14]) (by kernel_rfl) (by simp) ?_;refine aat rfl (λK hK=>?_) aaw
   try simp only[aK]
   go_simp;rw[xP.o];go_at_call 165;refine aaM (rG.o) ?_;rintro e w7 ⟨v7,rfl,wF,OV,Ep,wG⟩;have wH:Below W.heap.size W w7:=Eo.trans (gx wG OT Eo.size);have Er:a.av.length+1=(L.take k++X::L.drop k).length:=by rw[<-xP.o];simp;omega
   have Es:ag (aR cw W.heap.size w7 v7 (L.take k++X::L.drop k)):=I (by
    refine su tD.o.1 zN.o wG wF Er Ep Ce Ce ?_ (λb hb=>⟨λe=>CC.o ?_,Ao.o b ?_⟩)
    ·rw[tD.o.1,tD.o.2];exact zl.o.less rK
    ·rw[tD.o.1]at hb;rw[hb.2,e]
    rw[tD.o.1]at hb;exact hb.2)
   have wI:ag ((L.take k++X::L.drop k).map (·.a)=cI a.av (cM m)):=I (by
    rw[aaK,aa4,List.map_take,List.map_drop,wh.o,tD.o.2];unfold cI;rw[show cG a.av (cM m).a8=k from uK.o])
   have wJ:ag (eE w7 w7.heap.size v7 (cI a.av (cM m))):=I (by
    have:=Es.o.av;rw[wI.o]at this;exact this)
   obtain ⟨A7,n7,c7,rfl⟩: ∃A n c,v7= .slice A n c:=by
    obtain ⟨A7,c7,OW,_⟩:=dk wJ.o;exact ⟨A7,_,c7,OW⟩
   have OX:ag (n7=(L.take k++X::L.drop k).length):=I (by
    obtain ⟨A8,c8,OY,_⟩:=Es.o.row;injection OY)
   refine hK.out _ _ (bX.o _ wH) (λau=>?_);clear hK K aE;have aE:=au;clear au
   try simp only[Act.put,aM]
   refine aZ 15 ?_
   try simp only[Act.put,aK,aM]
   refine abz (by kernel_rfl) ?_ _;clear aE xR;have rj:=I (jK a.base (cI a.av (cM m)) w7 _ _ (lE.o w7 wH) wJ.o KV.o (jp ii.o MZ.o h8));unfold ff at rj;have z9:=(mB.o.below wH Ge).cell 3 _ rfl;go_wp2_with (fail);refine rj.o.mono ?_;rintro e w8 ⟨g8,OZ,n8,rfl,U5,aU,zP⟩;have kx:=I (wH.trans (zP.mono wH.size));by_cases ol:n8=0
   ·have jS:ag (fi a.base a.av (cM m)=true):=I (j8 h8 (aU.1 ol));subst ol;have O0:=I ((Es.o.below zP).less gf.o.size);clear aU zP;go_wp2;go_ret2;exact ⟨_,_,_,by rw[jS.o];rfl,λ_=>⟨_,OX.o,wI.o,O0.o⟩,(gf.o.trans (kx.o.mono gf.o.size))⟩
   have jS:ag (fi a.base a.av (cM m)=false):=I (lN (λh=>ol (aU.2 h)));have Hh:((n8:Int)==0)=false:=by simp;omega
   clear aU zP ol;go_wp2;go_ret2;exact ⟨_,_,_,by rw[jS.o];rfl,(λh=>by rw[jS.o]at h;cases h),(gf.o.trans (kx.o.mono gf.o.size))⟩
  try simp only[aK]
  go_simp;have gZ:=xR.alloc xR.size (.cells #[] 162);refine hK.out _ _ (bX.o _ gZ) (λau=>?_);clear hK K aE;have aE:=au;clear au
  try simp only[Act.put,aM]
  have gW:=I (show (V.alloc (.cells #[] 162)).ownsRow V.heap.size 162 4 (.slice (some ⟨V.heap.size,0,none⟩) 0 0) 0 [] by simpa using aaz V #[] 0 (aad _) (aaf _) rfl);have aI:V.heap.size<(V.alloc (.cells #[] 162)).heap.size:=by rw[World.size_alloc];omega
  refine aav (rs:=[2]) (by kernel_rfl) (by simp) ?_;refine aat rfl (λK hK=>?_) aaw
  try simp only[aK]
  go_simp;go_at_call 145;refine aaM (tx.o _ gZ) ?_;rintro e w3 ⟨g,cap,L,rfl,nJ,hD,dB⟩;have iz:=gZ.trans (dB.mono gZ.size);refine hK.out _ _ (bX.o _ iz) (λau=>?_);clear hK K aE;have aE:=au;clear au
  try simp only[Act.put,aM]
  have dY:=I (aT gW.o dB);have KY:V.heap.size<=w3.heap.size:=aaB (abi aI) dB.size;have rK:W.heap.size<=V.heap.size:=xR.size;have Ce:W.heap.size<=(V.alloc (.cells #[] 162)).heap.size:=gZ.size;obtain ⟨SB,tC⟩: ∃SB,SB=(V.alloc (.cells #[] 162)).heap.size:=⟨_,rfl⟩
  rw[<-tC]at hD Ce aI;clear tC;refine aav (rs:=[11]) (by kernel_rfl) (by simp) ?_;refine aat rfl (λK hK=>?_) aaw
  try simp only[aK]
  refine aQ ah (by rfl) _ _ 53 (by rfl) V.heap.size 162 e0 (.agg #[.int .i64 0,.int .i64 0,.string ⟨#[]⟩,.string ⟨#[]⟩]) 4 48 underlying53 po pq pr mu rfl (by decide) _ _ _ (by rfl) dY.o _ m.pat _ (by rfl) (HE.o _ iz) (λ_=>rfl) (λy u hu=>cJ hu) (by unfold maxLen;omega) (by omega) KY ?_;intro v2 w5 aY aw cY ci;have ju:ag (ay ah m.pat V.heap.size w5 v2):=I (ay.bI ah (size:=4) (λ_=>rfl) (by simpa using aY));have Ek:Below W.heap.size W w5:=iz.grown aw iz.size (λj hj=>aaB rK (dY.o.lt j hj).1);have uP:bM SB w5 g cap L:=⟨dL.only hD.st aI aw,hD.two⟩
  have Ao:ag (∀b,v2.ownBlock=some b-> ∀q∈L,¬cw.dR q b):=I (λb hb q hq mq=>by have q2:=hD.dR hq mq;rcases ci with h|h<;>(have e:=h.symm.trans hb;injection e with e;(try (have e:V.heap.size=b:=e));omega));have CC:ag (v2.ownBlock≠some g):=I (p9 uP.row aY (by decide) rfl);obtain ⟨A2,c2,rfl,_⟩:=ju.o;clear aY aw cY ci;obtain ⟨X,hX⟩: ∃X:bu,X=⟨⟨m.a8,m.fin,m.pat⟩,.slice A2 m.pat.length c2⟩:=⟨_,rfl⟩
  have El:X.v= .slice A2 m.pat.length c2:=by rw[hX]
  have J7:X.a=cM m:=by rw[hX];rfl
  obtain ⟨w6,xj⟩: ∃w6,w6=w5.alloc (.cells #[.int .i64 m.a8,.int .i64 m.fin,.slice A2 m.pat.length c2] 144):=⟨_,rfl⟩
  have En:Below w5.heap.size w5 w6:=by rw[xj];exact (aae _ _).alloc (aad _) _
  have Eo:Below W.heap.size W w6:=Ek.trans (En.mono Ek.size);have zN:ag (bM SB w6 g cap L):=I (bM.below uP En);have zl:ag (ay ah m.pat V.heap.size w6 (.slice A2 m.pat.length c2)):=I (ju.o.on En);have OS:=zN.o.row.lt g rfl;have U4:=(uP.row.lt g rfl).2;have OT:W.heap.size<=g:=aaB Ce OS.1;have zO:L.length=a.av.length:=by rw[<-aap,nJ]
  have J8:(L.map pw).length=a.av.length:=by rw[aap,zO]
  have px:w6.ownsRow SB 144 3 (.slice (some ⟨g,0,none⟩) a.av.length cap) a.av.length ((L.map pw).flatMap aX):=by rw[ss zN.o.st,<-zO];exact zN.o.row
  have ta:jR w6 w5.heap.size 144 (aX (pw X)):=by rw[j9 El,hX,xj];exact ly _ _
  have qV:SB<=w6.heap.size:=by omega
  have rG:=I (sr (L.map pw) (pw X) k SB g a.av.length cap w5.heap.size 1 w6 J8 hk (by omega) px ta (by omega) qV);unfold iO at rG;have tD:=I (show X.v= .slice A2 m.pat.length c2/\X.a=cM m from ⟨El,J7⟩);have wh:=I (show L.map (·.a)=a.av from nJ);have OU:=I xj;have xP:=I zO;clear xj hX El J7 zO J8 px ta nJ;refine hK.out _ _ (bX.o _ Ek) (λau=>?_);clear hK K aE;have aE:=au;clear au
  try simp only[Act.put,aM]
  refine aZ 12 ?_
  try simp only[Act.put,aK,aM]
  refine aav (rs:=[13]) (by kernel_rfl) (by simp) ?_;refine aat rfl (λK hK=>?_) aaw
  try simp only[aK]
  go_simp;rw[<-OU.o];refine hK.out _ _ (bX.o _ Eo) (λau=>?_);clear hK K aE;have aE:=au;clear au
  try simp only[Act.put,aM]
  refine aav (rs:=[14]) (by kernel_rfl) (by simp) ?_;refine aat rfl (λK hK=>?_) aaw
  try simp only[aK]
  go_simp;rw[xP.o];go_at_call 165;refine aaM (rG.o) ?_;rintro e w7 ⟨v7,rfl,wF,OV,Ep,wG⟩;have wH:Below W.heap.size W w7:=Eo.trans (gx wG OT Eo.size);have Er:a.av.length+1=(L.take k++X::L.drop k).length:=by rw[<-xP.o];simp;omega
  have Es:ag (aR cw W.heap.size w7 v7 (L.take k++X::L.drop k)):=I (by
   refine su tD.o.1 zN.o wG wF Er Ep Ce Ce ?_ (λb hb=>⟨λe=>CC.o ?_,Ao.o b ?_⟩)
   ·rw[tD.o.1,tD.o.2];exact zl.o.less rK
   ·rw[tD.o.1]at hb;rw[hb.2,e]
   rw[tD.o.1]at hb;exact hb.2)
  have wI:ag ((L.take k++X::L.drop k).map (·.a)=cI a.av (cM m)):=I (by
   rw[aaK,aa4,List.map_take,List.map_drop,wh.o,tD.o.2];unfold cI;rw[show cG a.av (cM m).a8=k from uK.o])
  have wJ:ag (eE w7 w7.heap.size v7 (cI a.av (cM m))):=I (by
   have:=Es.o.av;rw[wI.o]at this;exact this)
  obtain ⟨A7,n7,c7,rfl⟩: ∃A n c,v7= .slice A n c:=by
   obtain ⟨A7,c7,OW,_⟩:=dk wJ.o;exact ⟨A7,_,c7,OW⟩
  have OX:ag (n7=(L.take k++X::L.drop k).length):=I (by
   obtain ⟨A8,c8,OY,_⟩:=Es.o.row;injection OY)
  refine hK.out _ _ (bX.o _ wH) (λau=>?_);clear hK K aE;have aE:=au;clear au
  try simp only[Act.put,aM]
  refine aZ 15 ?_
  try simp only[Act.put,aK,aM]
  refine abz (by kernel_rfl) ?_ _;clear aE xR;have rj:=I (jK a.base (cI a.av (cM m)) w7 _ _ (lE.o w7 wH) wJ.o KV.o (jp ii.o MZ.o h8));unfold ff at rj;have z9:=(mB.o.below wH Ge).cell 3 _ rfl;go_wp2_with (fail);refine rj.o.mono ?_;rintro e w8 ⟨g8,OZ,n8,rfl,U5,aU,zP⟩;have kx:=I (wH.trans (zP.mono wH.size));by_cases ol:n8=0
  ·have jS:ag (fi a.base a.av (cM m)=true):=I (j8 h8 (aU.1 ol));subst ol;have O0:=I ((Es.o.below zP).less gf.o.size);clear aU zP;go_wp2;go_ret2;exact ⟨_,_,_,by rw[jS.o];rfl,λ_=>⟨_,OX.o,wI.o,O0.o⟩,(gf.o.trans (kx.o.mono gf.o.size))⟩
  have jS:ag (fi a.base a.av (cM m)=false):=I (lN (λh=>ol (aU.2 h)));have Hh:((n8:Int)==0)=false:=by simp;omega
  clear aU zP ol;go_wp2;go_ret2;exact ⟨_,_,_,by rw[jS.o];rfl,(λh=>by rw[jS.o]at h;cases h),(gf.o.trans (kx.o.mono gf.o.size))⟩
end Go.Proofs.YtnandbammmcncaaGreat

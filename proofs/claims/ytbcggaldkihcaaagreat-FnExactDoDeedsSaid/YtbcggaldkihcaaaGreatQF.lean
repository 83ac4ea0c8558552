/- Arguments opened: an assembly (a struct of six fields; slices of slices, of articles, of.. -/
import Derived.Test.YtbcggaldkihcaaaGreatQE
import Derived.Test.YtbcggaldkihcaaaGreatQC
import Derived.Test.YtbcggaldkihcaaaGreatQB
import Derived.Deep.RegionHeld3
set_option maxHeartbeats 8000000
set_option maxRecDepth 100000
namespace Go.Proofs.YtbcggaldkihcaaaGreat
open Tryz
open Go.Joins Go.ChangeShapes Go.WideShapes Go.RowKit Go.Deep
theorem aby:type_of% @List.mem_of_mem_take:=@List.mem_of_mem_take
section
variable {H:Type} {enc:TypeId×Value->H} {P:Program} {w:World} {base:Nat} {spare:Nat->Bool} {held:Bool}
theorem Gj {r:Reach} {b0:Nat} {t:TypeId} {f0 f1 f2 f3 f4 f5:Field} {v:Value} {d:DataW H} {p:List MemPlace} (hs:P.underlying t=some (.struct #[f0,f1,f2,f3,f4,f5])) (jJ:oneCellFields P #[f0,f1,f2,f3,f4,f5]=true) (hC:P.cellsOf t=6)
 (hv:Value.okWide P w r b0 t v) (h:DataW.Trod enc P w base spare held t v d p):
 ∃(v0 v1 v2 v3 v4 v5:Value) (y0 y1 y2 y3 y4 y5:DataW H×List MemPlace) (n:Nat),v= .agg #[v0,v1,v2,v3,v4,v5]/\d= .agg [y0.1,y1.1,y2.1,y3.1,y4.1,y5.1]/\p=y0.2++(y1.2++(y2.2++(y3.2++(y4.2++y5.2))))/\
  DataW.trod enc P w base spare held n f0.type [v0]=some y0/\DataW.trod enc P w base spare held n f1.type [v1]=some y1/\DataW.trod enc P w base spare held n f2.type [v2]=some y2/\DataW.trod enc P w base spare held n f3.type [v3]=some y3/\DataW.trod enc P w base spare held n f4.type [v4]=some y4/\DataW.trod enc P w base spare held n f5.type [v5]=some y5:=by
 obtain ⟨cs,rfl,ja⟩:=okWide_struct hs hv;obtain ⟨l⟩:=cs
 match l,ja.trans hC with
 |[c0,c1,c2,c3,c4,c5],_=>
  obtain ⟨dP,hf⟩:=h;obtain ⟨xs,n,_,hx,_,hlen,hg⟩:=DataW.trod_struct hs hf;obtain ⟨o0,k0⟩:=hone_of jJ 0 f0 rfl;obtain ⟨o1,k1⟩:=hone_of jJ 1 f1 rfl;obtain ⟨o2,k2⟩:=hone_of jJ 2 f2 rfl;obtain ⟨o3,k3⟩:=hone_of jJ 3 f3 rfl;obtain ⟨o4,k4⟩:=hone_of jJ 4 f4 rfl;obtain ⟨o5,k5⟩:=hone_of jJ 5 f5 rfl
  match xs,hlen with
  |[y0,y1,y2,y3,y4,y5],_=>
   simp only[Prod.mk.injEq]at hx;exact ⟨c0,c1,c2,c3,c4,c5,y0,y1,y2,y3,y4,y5,n,rfl,by simpa using hx.1,by simpa using hx.2,by simpa [Value.cells,o0,k0]using hg 0 f0 rfl,by simpa [Value.cells,o1,k1]using hg 1 f1 rfl,by simpa [Value.cells,o2,k2]using hg 2 f2 rfl,by simpa [Value.cells,o3,k3]using hg 3 f3 rfl,by simpa [Value.cells,o4,k4]using hg 4 f4 rfl,by simpa [Value.cells,o5,k5]using hg 5 f5 rfl⟩
end
theorem zo {β:Type} {f:β->List Value} {size:Nat} (hf: ∀x,(f x).length=size) (hs:0<size) {Q:β->Prop} {w:World} {a:Addr} {len cap m:Nat} (hl:len<=cap) (hm:cap<=maxLen) (KM:m=cap)
 (H: ∀i,i<m-> ∃q:β,Q q/\ ∀(j:Nat) (u:Value),(f q)[j]?=some u->w.cell? (a.add (i*size+j))=some u):
 ∃L:List β,cz (Pl f) size w w.heap.size (.slice (some a) len cap) L/\(∀x∈L,Q x)/\L.length=len:=by
 by_cases h0:len=0
 ·subst h0;exact ⟨[],cz.nil _ _ _ _ _ _ hm,(λx hx=>by cases hx),rfl⟩
 obtain ⟨q0,S0,xE⟩:=H 0 (by omega)
 obtain ⟨F,hF⟩: ∃F:Nat->β,∀i,i<m->Q (F i)/\ ∀(j:Nat) (u:Value),(f (F i))[j]?=some u->w.cell? (a.add (i*size+j))=some u:=
  ⟨λi=>if h:i<m then Classical.choose (H i h)else q0,λi hi=>by simp only[dif_pos hi];exact Classical.choose_spec (H i hi)⟩
 clear H;have hlen:((List.range len).map F).length=len:=by simp
 have aH: ∀(i:Nat) (d:β),((List.range len).map F)[i]?=some d->i<m/\d=F i:=by
  intro i d hd;have hi:i<len:=by have:=(aal.1 hd).1;omega
  refine ⟨by omega,?_⟩;simp only[aaX,List.getElem?_range hi,Option.map_some,Option.some.injEq]at hd;exact hd.symm
 have Uq:=xE 0 ((f q0)[0]'(by rw[hf];exact hs)) (aag (by rw[hf];exact hs));obtain ⟨b,off,spot⟩:=a;have Gk:spot=none:=by simpa [Addr.add]using tk Uq
 subst Gk;rw[pT]at Uq;refine ⟨(List.range len).map F,⟨some ⟨b,off,none⟩,cap,by rw[hlen],by omega,hm,λ_=>⟨b,off,rfl,vM Uq,λk z hk=>?_⟩⟩,λx hx=>?_,hlen⟩
 ·obtain ⟨Up,rfl⟩:=aH k z hk;refine ⟨f (F k),hf _,rfl,λj u hu=>?_⟩;have:=(hF k Up).2 j u hu;rw[pT]at this;rw[abH];exact this
 obtain ⟨i,hi⟩:=aa2 hx;obtain ⟨vL,rfl⟩:=aH i x hi;exact (hF i vL).1
section
variable {H:Type} {enc:TypeId×Value->H} {P:Program} {w:World} {base dP:Nat} {held:Bool} {x:DataW H×List MemPlace}
theorem Ly {t e ee:TypeId} {v:Value} (ht:P.underlying t=some (.slice e)) (he:P.underlying e=some (.slice ee)) (NY:P.underlying ee=some (.int .i64)) (hC:P.cellsOf e=1) (Yp:P.cellsOf ee=1)
 (h:DataW.trod enc P w base (λ_=>true) held dP t [v]=some x): ∃ls,kH w w.heap.size v ls:=by
 rcases open_slice ht h with ⟨og,_⟩|⟨a,len,cap,m,n,D,SZ,og,_,hl,hm,EZ,_,hi⟩
 ·simp only[List.cons.injEq,aaZ]at og;rw[og];exact ⟨[],[],rfl,cz.nil _ _ _ _ _ _ (aaf _),λx hx=>by cases hx⟩
 simp only[List.cons.injEq,aaZ]at og;have KM:m=cap:=by simpa using EZ
 rw[og]
 obtain ⟨L,h1,h2,h3⟩:=zo (f:=lH) (size:=1) (λ_=>rfl) (by omega) (Q:=λq:bR=>Ints w w.heap.size q.v q.a) (a:=a) hl hm KM (λi vL=>by
  obtain ⟨PR,hc,kv⟩:=hi i vL;rw[hC]at hc;obtain ⟨_,CX,iH⟩:=World.cells?_some hc
  match PR,CX with
  |[c0],_=>
   obtain ⟨A,n',c',zs,rfl,hI⟩:=zn he NY Yp kv;refine ⟨⟨zs,.slice A n' c'⟩,hI,λj u hu=>?_⟩
   match j,hu with
   |0,hu=>
    injection hu with hu
    subst hu;have:=iH 0 (by simp);rw[<-Go.Deep.add_add];exact this)
 exact ⟨L.map (·.a),L,rfl,h1,h2⟩
theorem Lz {t e:TypeId} {v:Value} {fs:Array Field} {f0 f1:Field} (ht:P.underlying t=some (.slice e)) (he:P.underlying e=some (.struct fs)) (Of:fs= #[f0,f1]) (jJ:oneCellFields P fs=true) (hC:P.cellsOf e=fs.size)
 (t0:P.underlying f0.type=some (.int .i64)) (t1:P.underlying f1.type=some .string) (h:DataW.trod enc P w base (λ_=>true) held dP t [v]=some x):
 ∃ls,iT w w.heap.size v ls/\ ∀a∈ls,a.text.size<=maxLen:=by
 rcases gX ht he jJ hC h with ⟨og,_⟩|⟨a,len,cap,m,D,SZ,og,_,hl,hm,EZ,_,hi⟩
 ·simp only[List.cons.injEq,aaZ]at og;rw[og];exact ⟨[],cz.nil _ _ _ _ _ _ (aaf _),λx hx=>by cases hx⟩
 simp only[List.cons.injEq,aaZ]at og;have KM:m=cap:=by simpa using EZ
 rw[og]
 obtain ⟨L,h1,h2,h3⟩:=zo (f:=ai) (size:=2) (λ_=>rfl) (by omega) (Q:=λq:bE=>q.text.size<=maxLen) (a:=a) hl hm KM (λi vL=>by
  obtain ⟨ys,n,_,_,_,hf⟩:=hi i vL;subst Of;obtain ⟨u0,y0,c0,_,r0⟩:=hf 0 f0 rfl;obtain ⟨u1,y1,c1,_,r1⟩:=hf 1 f1 rfl;obtain ⟨k0,e0,_,_⟩:=aa7 t0 r0;obtain ⟨s1,e1,_,l1⟩:=DataW.trod_string t1 r1;simp only[List.cons.injEq,aaZ]at e0 e1;subst e0 e1;refine ⟨⟨k0,s1⟩,l1,λj u hu=>?_⟩
  match j,hu with
  |0,hu=>injection hu with hu;subst hu;exact c0
  |1,hu=>injection hu with hu;subst hu;exact c1)
 exact ⟨L,h1,h2⟩
theorem LA {t e te ee:TypeId} {v:Value} {fs es:Array Field} {f0 f1 f2 g0 g1 g2 g3:Field} (ht:P.underlying t=some (.slice e)) (he:P.underlying e=some (.struct fs)) (Of:fs= #[f0,f1,f2]) (jJ:oneCellFields P fs=true) (hC:P.cellsOf e=fs.size)
 (t0:P.underlying f0.type=some (.int .i64)) (t1:P.underlying f1.type=some (.int .i64)) (h2:f2.type=te) (t2:P.underlying te=some (.slice ee)) (Ur:P.underlying ee=some (.struct es)) (PD:es= #[g0,g1,g2,g3]) (I':oneCellFields P es=true) (Us:P.cellsOf ee=es.size)
 (u0:P.underlying g0.type=some (.int .i64)) (u1:P.underlying g1.type=some (.int .i64)) (u2:P.underlying g2.type=some .string) (u3:P.underlying g3.type=some .string)
 (h:DataW.trod enc P w base (λ_=>true) held dP t [v]=some x): ∃ls,eE w w.heap.size v ls/\ms ls:=by
 rcases gX ht he jJ hC h with ⟨og,_⟩|⟨a,len,cap,m,D,SZ,og,_,hl,hm,EZ,_,hi⟩
 ·simp only[List.cons.injEq,aaZ]at og;rw[og];exact ⟨[],⟨[],rfl,cz.nil _ _ _ _ _ _ (aaf _),λx hx=>by cases hx⟩,λx hx=>by cases hx⟩
 simp only[List.cons.injEq,aaZ]at og;have KM:m=cap:=by simpa using EZ
 rw[og]
 obtain ⟨L,h1,Og,h3⟩:=zo (f:=cu) (size:=3) (λ_=>rfl) (by omega) (Q:=λq:bu=>bg w w.heap.size q.v q.a.pat/\bS q.a.pat) (a:=a) hl hm KM (λi vL=>by
  obtain ⟨ys,n,_,_,_,hf⟩:=hi i vL;subst Of;obtain ⟨w0,y0,c0,_,r0⟩:=hf 0 f0 rfl;obtain ⟨w1,y1,c1,_,r1⟩:=hf 1 f1 rfl;obtain ⟨w2,y2,c2,_,r2⟩:=hf 2 f2 rfl;obtain ⟨k0,e0,_,_⟩:=aa7 t0 r0;obtain ⟨k1,e1,_,_⟩:=aa7 t1 r1;rw[h2]at r2;obtain ⟨A5,n5,d5,ed,rfl,hE,hS⟩:=vN t2 Ur PD I' Us u0 u1 u2 u3 r2;simp only[List.cons.injEq,aaZ]at e0 e1;subst e0 e1;refine ⟨⟨⟨k0,k1,ed⟩,.slice A5 n5 d5⟩,⟨hE,hS⟩,λj u hu=>?_⟩
  match j,hu with
  |0,hu=>injection hu with hu;subst hu;exact c0
  |1,hu=>injection hu with hu;subst hu;exact c1
  |2,hu=>injection hu with hu;subst hu;exact c2)
 exact ⟨L.map (·.a),⟨L,rfl,h1,λx hx=>(Og x hx).1⟩,λy hy=>by
  obtain ⟨x,hx,rfl⟩:=abJ.1 hy;exact (Og x hx).2⟩
theorem LB {t e te ti ie ee:TypeId} {v:Value} {fs es:Array Field} {f0 f1 f2 f3 f4 f5 f6 f7 g0 g1 g2 g3:Field} (ht:P.underlying t=some (.slice e)) (he:P.underlying e=some (.struct fs)) (Of:fs= #[f0,f1,f2,f3,f4,f5,f6,f7]) (jJ:oneCellFields P fs=true) (hC:P.cellsOf e=fs.size)
 (t0:P.underlying f0.type=some .string) (t1:P.underlying f1.type=some (.int .i64)) (h2:f2.type=te) (t2:P.underlying te=some (.slice ee)) (Ur:P.underlying ee=some (.struct es)) (PD:es= #[g0,g1,g2,g3]) (I':oneCellFields P es=true) (Us:P.cellsOf ee=es.size)
 (u0:P.underlying g0.type=some (.int .i64)) (u1:P.underlying g1.type=some (.int .i64)) (u2:P.underlying g2.type=some .string) (u3:P.underlying g3.type=some .string)
 (t3:P.underlying f3.type=some (.int .i64)) (t4:P.underlying f4.type=some (.int .i64)) (t5:P.underlying f5.type=some (.int .i64)) (h6:f6.type=ti) (t6:P.underlying ti=some (.slice ie)) (Yq:P.underlying ie=some (.int .i64)) (Yr:P.cellsOf ie=1) (t7:P.underlying f7.type=some (.int .i64))
 (h:DataW.trod enc P w base (λ_=>true) held dP t [v]=some x): ∃ls,nA w w.heap.size v ls/\ ∀a∈ls,a.al.size<=maxLen/\bS a.pat:=by
 rcases gX ht he jJ hC h with ⟨og,_⟩|⟨a,len,cap,m,D,SZ,og,_,hl,hm,EZ,_,hi⟩
 ·simp only[List.cons.injEq,aaZ]at og;rw[og];exact ⟨[],⟨[],rfl,cz.nil _ _ _ _ _ _ (aaf _),λx hx=>by cases hx⟩,λx hx=>by cases hx⟩
 simp only[List.cons.injEq,aaZ]at og;have KM:m=cap:=by simpa using EZ
 rw[og]
 obtain ⟨L,h1,Og,h3⟩:=zo (f:=cK) (size:=8) (λ_=>rfl) (by omega) (Q:=λq:bH=>(bg w w.heap.size q.p q.a.pat/\Ints w w.heap.size q.t q.a.ax)/\q.a.al.size<=maxLen/\bS q.a.pat) (a:=a) hl hm KM (λi vL=>by
  obtain ⟨ys,n,_,_,_,hf⟩:=hi i vL;subst Of;obtain ⟨w0,y0,c0,_,r0⟩:=hf 0 f0 rfl;obtain ⟨w1,y1,c1,_,r1⟩:=hf 1 f1 rfl;obtain ⟨w2,y2,c2,_,r2⟩:=hf 2 f2 rfl;obtain ⟨w3,y3,c3,_,r3⟩:=hf 3 f3 rfl;obtain ⟨w4,y4,c4,_,r4⟩:=hf 4 f4 rfl;obtain ⟨w5,y5,c5,_,r5⟩:=hf 5 f5 rfl;obtain ⟨w6,y6,c6,_,r6⟩:=hf 6 f6 rfl;obtain ⟨w7,y7,c7,_,r7⟩:=hf 7 f7 rfl;obtain ⟨s0,e0,_,l0⟩:=DataW.trod_string t0 r0;obtain ⟨k1,e1,_,_⟩:=aa7 t1 r1;rw[h2]at r2;obtain ⟨A5,n5,d5,ed,rfl,hE,hS⟩:=vN t2 Ur PD I' Us u0 u1 u2 u3 r2;obtain ⟨k3,e3,_,_⟩:=aa7 t3 r3;obtain ⟨k4,e4,_,_⟩:=aa7 t4 r4;obtain ⟨k5,e5,_,_⟩:=aa7 t5 r5;rw[h6]at r6;obtain ⟨A6,n6,d6,zs,rfl,hI⟩:=zn t6 Yq Yr r6;obtain ⟨k7,e7,_,_⟩:=aa7 t7 r7;simp only[List.cons.injEq,aaZ]at e0 e1 e3 e4 e5 e7;subst e0 e1 e3 e4 e5 e7;refine ⟨⟨⟨s0,k1,ed,k3,k4,k5,zs,k7⟩,.slice A5 n5 d5,.slice A6 n6 d6⟩,⟨⟨hE,hI⟩,l0,hS⟩,λj u hu=>?_⟩
  match j,hu with
  |0,hu=>injection hu with hu;subst hu;exact c0
  |1,hu=>injection hu with hu;subst hu;exact c1
  |2,hu=>injection hu with hu;subst hu;exact c2
  |3,hu=>injection hu with hu;subst hu;exact c3
  |4,hu=>injection hu with hu;subst hu;exact c4
  |5,hu=>injection hu with hu;subst hu;exact c5
  |6,hu=>injection hu with hu;subst hu;exact c6
  |7,hu=>injection hu with hu;subst hu;exact c7)
 exact ⟨L.map (·.a),⟨L,rfl,h1,λx hx=>(Og x hx).1⟩,λy hy=>by
  obtain ⟨x,hx,rfl⟩:=abJ.1 hy;exact (Og x hx).2⟩
end
section
variable {H:Type} {enc:TypeId×Value->H} {w:World} {held:Bool}
theorem Oh {r:Reach} {b0:Nat} {v:Value} {d:DataW H} {p:List MemPlace} (hv:Value.okWide prog w r b0 57 v) (h:DataW.Trod enc prog w 0 (λ_=>true) held 57 v d p):
 ∃x a,v=eu a x/\jv w w.heap.size x a/\ua a:=by
 obtain ⟨v0,v1,v2,v3,v4,v5,y0,y1,y2,y3,y4,y5,n,rfl,rfl,rfl,r0,r1,r2,r3,r4,r5⟩:=Gj underlying57 (by kernel_rfl) (by kernel_rfl) hv h;obtain ⟨k0,e0,_,_⟩:=aa7 (show prog.underlying 2=_ from underlying2) r0;obtain ⟨k1,e1,_,_⟩:=aa7 (show prog.underlying 2=_ from underlying2) r1;obtain ⟨lt,ht⟩:=Ly (t:=24) underlying24 underlying33 underlying2 (by kernel_rfl) (by kernel_rfl) r2;obtain ⟨lb,hb,sb⟩:=Lz (t:=53) underlying53 underlying156 rfl (by kernel_rfl) (by kernel_rfl) underlying2 underlying9 r3;obtain ⟨lc,hc,sc⟩:=LA (t:=54) underlying54 underlying159 rfl (by kernel_rfl) (by kernel_rfl) underlying2 underlying2 rfl underlying99 underlying194 rfl (by kernel_rfl) (by kernel_rfl) underlying2 underlying2 underlying9 underlying9 r4;obtain ⟨lm,hm,sm⟩:=LB (t:=55) underlying55 underlying162 rfl (by kernel_rfl) (by kernel_rfl) underlying9 underlying2 rfl underlying99 underlying194 rfl (by kernel_rfl) (by kernel_rfl) underlying2 underlying2 underlying9 underlying9 underlying2 underlying2 underlying2 rfl underlying33 underlying2 (by kernel_rfl) underlying2 r5;simp only[List.cons.injEq,aaZ]at e0 e1;subst e0 e1;exact ⟨⟨v2,v3,v4,v5⟩,⟨k0,k1,lt,lb,lc,lm⟩,rfl,⟨ht,hb,hc,hm⟩,⟨sb,sc,sm⟩⟩
end
open Go.Lib
theorem Gl (es:List bE) (w:World) (v:Value) (h:iT w w.heap.size v es) (hs: ∀a∈es,a.text.size<=maxLen):
 Calls prog 155 #[v] w (bT (.bool (cd es)) w):=by
 obtain ⟨A,c,rfl,hc,hm,cn⟩:=h;unfold maxLen at hm;have rn:es.length<=9223372036854775807:=by omega
 have gH:=I cn;have HS:=I hs;clear cn hs;refine aL λx0=>?_;go_enter func155,ntmps155;go_wp2;go_loopw [3] (λi wr=> ∃(k:Nat) (x:ar w),k<=es.length/\i= .int .i64 (k:Int)/\cE k (gR es)=true/\wr=x.val) (λi _=>es.length-(intOf i).toNat);case atStart=>exact ⟨0,x0,aaf _,rfl,rfl,rfl⟩
 case round=>
  obtain ⟨k,x,hk,rfl,dn,rfl⟩:=hrel;have HA:=I dn;clear dn;by_cases aI:k<es.length
  ·obtain ⟨b,off,rfl,bD,aC⟩:=gH.o (by omega);have aH:es[k]?=some es[k]:=aag aI;obtain ⟨c0,c1⟩:=ke aC aH;have ja:=HS.o es[k] (aax aI);have z0:=λy:ar w=>y.cell c0;have z1:=λy:ar w=>y.cell c1;have HG:=I aH;have HC:=I aC;clear aH aC c0 c1;generalize es[k]=e at*;cases tU:dO e.id 1 99 with
   |false=>
    have cB:=I (jZ aI (nh HG.o (EI tU)));go_wp2_with (fail);refine ap (by kernel_rfl) (by kernel_rfl) ?_
    repeat (go_big_quiet_step ((first|(go_at_call 98;exact az (aP _ _ _ _ _ ‹_›))|(go_at_call 185;exact az (ir _ _ _ ja ‹_›)))))
    refine aai ?_;rintro _ ⟨y,rfl⟩;go_wp2;go_ret;exact ⟨by rw[cB.o];rfl,y.ok⟩
   |true=>
    cases CD:bP e.text.toList with
    |false=>
     have cB:=I (jZ aI (nh HG.o (EJ CD)));go_wp2_with (fail);refine ap (by kernel_rfl) (by kernel_rfl) ?_
     repeat (go_big_quiet_step ((first|(go_at_call 98;exact az (aP _ _ _ _ _ ‹_›))|(go_at_call 185;exact az (ir _ _ _ ja ‹_›)))))
     refine aai ?_;rintro _ ⟨y,rfl⟩;go_wp2;go_ret;exact ⟨by rw[cB.o];rfl,y.ok⟩
    |true=>
     have HO:=I (EK tU CD);have gN:=cR k (gR es);rw[HA.o,aaD]at gN;have gN:=I gN;by_cases jA:k=0
     ·have HN:ag (cE (k+1) (gR es)=true):=I (gN.o.trans (oL jA HG.o HO.o));have rc:decide ((0:Int)<(k:Int))=false:=by simp;omega
      have H0:decide (0<k)=false:=by simp;omega
      clear jA;go_wp2_with (fail);refine ap (by kernel_rfl) (by kernel_rfl) ?_
      repeat (go_big_quiet_step ((first|(go_at_call 98;exact az (aP _ _ _ _ _ ‹_›))|(go_at_call 185;exact az (ir _ _ _ ja ‹_›)))))
      refine aai ?_;rintro _ ⟨y,rfl⟩;go_wp2;go_roundw;case rel=>exact ⟨k+1,y,by omega,by go_num,HN.o,rfl⟩
      case measure=>simp[intOf];omega
     obtain ⟨m,rfl⟩: ∃m,k=m+1:=⟨k-1,by omega⟩
     have hd:es[m]?=some (es[m]'(by omega)):=aag (by omega);obtain ⟨d1,_⟩:=ke HC.o hd;generalize (es[m]'(by omega))=d at*;have HP:=I (oM hd HG.o HO.o);have z4:=λy:ar w=>y.cell d1;clear hd jA d1;by_cases hid:d.id<e.id
     ·have HN:ag (cE (m+1+1) (gR es)=true):=I (gN.o.trans (HP.o.trans (abd hid)));have uT: ¬(e.id<=d.id):=by omega
      go_wp2_with (fail);refine ap (by kernel_rfl) (by kernel_rfl) ?_
      repeat (go_big_quiet_step ((first|(go_at_call 98;exact az (aP _ _ _ _ _ ‹_›))|(go_at_call 185;exact az (ir _ _ _ ja ‹_›)))))
      refine aai ?_;rintro _ ⟨y,rfl⟩;go_wp2;go_roundw;case rel=>exact ⟨(m+1)+1,y,by omega,by go_num,HN.o,rfl⟩
      case measure=>simp[intOf];omega
     have cB:=I (jZ aI (HP.o.trans (aba hid)));have uT:e.id<=d.id:=by omega
     go_wp2_with (fail);refine ap (by kernel_rfl) (by kernel_rfl) ?_
     repeat (go_big_quiet_step ((first|(go_at_call 98;exact az (aP _ _ _ _ _ ‹_›))|(go_at_call 185;exact az (ir _ _ _ ja ‹_›)))))
     refine aai ?_;rintro _ ⟨y,rfl⟩;go_wp2;go_ret;exact ⟨by rw[cB.o];rfl,y.ok⟩
  have di:k=es.length:=by omega
  have hP:cd es=decide (es.length<=8):=by
   unfold cd;rw[<-di,HA.o,aaD]
  have HP:=I hP;have eA: ¬(k:Int)<(es.length:Int):=by omega
  clear hP di aI;by_cases rp:es.length<=8
  ·have Hg:decide ((es.length:Int)<=8)=true:=by simp;omega
   have uU:=I rp;clear rp;go_wp2;go_ret;exact ⟨by rw[HP.o];simp[uU.o],x.ok⟩
  have Hg:decide ((es.length:Int)<=8)=false:=by simp;omega
  have uU:=I rp;clear rp;go_wp2;go_ret;exact ⟨by rw[HP.o];simp[uU.o],x.ok⟩
theorem Gm {L:List bo} {m:Nat} {d a:bo} (hd:L[m]?=some d) (h:L[m+1]?=some a) (hn: ¬d.a8<=a.a8):jg L (m+1)=false:=by
 unfold jg ES;rw[h];simp[hd,hn]
theorem Gn (ls:List bo) (w:World) (v:Value) (h:eE w w.heap.size v ls) (hs:ms ls):
 Calls prog 46 #[v] w (bT (.bool (bJ ls)) w):=by
 obtain ⟨A,c,rfl,hc,hm,cn⟩:=dk h;unfold maxLen at hm;have rn:ls.length<=9223372036854775807:=by omega
 have gH:=I cn;have HS:=I hs;clear cn hs h;go_enter func46,ntmps46;go_wp2;go_loopw [3,4,7] (λ_ _ i wr=> ∃k:Nat,k<=ls.length/\i= .int .i64 (k:Int)/\cE k (jg ls)=true/\Below w.heap.size w wr) (λ_ _ i _=>ls.length-(intOf i).toNat);case atStart=>exact ⟨0,aaf _,rfl,rfl,aae _ _⟩
 case round=>
  obtain ⟨k,hk,rfl,dn,hb⟩:=hrel;have HA:=I dn;have HB:=I hb;clear dn;by_cases aI:k<ls.length
  ·obtain ⟨b,off,rfl,bD,aC⟩:=gH.o (by omega);have aH:ls[k]?=some ls[k]:=aag aI;obtain ⟨pv,c0,c1,c2,hE⟩:=aC k _ aH;have HE:=I hE;obtain ⟨pA,pc,rfl,_⟩:=hE;have x0:=(hb.cell (p:=⟨b,off+k*3,none⟩) bD).trans c0;have x1:=(hb.cell (p:=⟨b,off+k*3+1,none⟩) bD).trans c1;have x2:=(hb.cell (p:=⟨b,off+k*3+2,none⟩) bD).trans c2;have HG:=I aH;have HC:=I aC;have gU:=HS.o ls[k] (aax aI);clear aH aC c0 c1 c2 hb;generalize ls[k]=a at*;cases tU:dO a.a8 0 1000 with
   |false=>
    have cB:=I (fu aI (iv HG.o (Bd tU)));go_upto_region 4 with (fail)
    obtain ⟨W,hW⟩: ∃W:World,W=wr.alloc (.cells #[.int .i64 a.a8,.int .i64 a.fin,.slice pA a.pat.length pc] 141):=⟨_,rfl⟩
    change Code.wp _ _ _ _ (wr.alloc (.cells #[.int .i64 a.a8,.int .i64 a.fin,.slice pA a.pat.length pc] 141));have bW:Below w.heap.size w W:=by rw[hW];exact HB.o.alloc HB.o.size _
    have y0:W.cell? ⟨wr.heap.size,0,none⟩=some (.int .i64 a.a8):=by rw[hW];simp[go_sem]
    have y1:W.cell? ⟨wr.heap.size,1,none⟩=some (.int .i64 a.fin):=by rw[hW];simp[go_sem]
    have y2:W.cell? ⟨wr.heap.size,2,none⟩=some (.slice pA a.pat.length pc):=by rw[hW];simp[go_sem]
    have ma: ∀y:ar W,bg y.val y.val.heap.size (.slice pA a.pat.length pc) a.pat:=bg.km (cz.on HE.o (Pl.stays _) bW bW.size) (aad _);have rI:=I ma;rw[<-hW];clear hW x0 x1 x2 ma;have z0:=λx:ar W=>x.cell y0;have z1:=λx:ar W=>x.cell y1;have z2:=λx:ar W=>x.cell y2;clear y0 y1 y2;refine bj (by kernel_rfl) (by kernel_rfl) ?_
    repeat (go_big_quiet_step ((first|(go_at_call 40;exact az (dj _ _ _ _ _ ‹_›))|(go_at_call 110;exact aq (ig _ _ _ _ (rI.o _) gU ‹_›)))))
    refine aai ?_;rintro _ ⟨y,rfl⟩;have bY:=bW.trans (y.ok.mono bW.size);go_wp2;go_ret;exact ⟨by rw[cB.o];rfl,bY⟩
   |true=>
    cases CD:dO a.fin 0 1000 with
    |false=>
     have cB:=I (fu aI (iv HG.o (Be CD)));go_upto_region 4 with (fail)
     obtain ⟨W,hW⟩: ∃W:World,W=wr.alloc (.cells #[.int .i64 a.a8,.int .i64 a.fin,.slice pA a.pat.length pc] 141):=⟨_,rfl⟩
     change Code.wp _ _ _ _ (wr.alloc (.cells #[.int .i64 a.a8,.int .i64 a.fin,.slice pA a.pat.length pc] 141));have bW:Below w.heap.size w W:=by rw[hW];exact HB.o.alloc HB.o.size _
     have y0:W.cell? ⟨wr.heap.size,0,none⟩=some (.int .i64 a.a8):=by rw[hW];simp[go_sem]
     have y1:W.cell? ⟨wr.heap.size,1,none⟩=some (.int .i64 a.fin):=by rw[hW];simp[go_sem]
     have y2:W.cell? ⟨wr.heap.size,2,none⟩=some (.slice pA a.pat.length pc):=by rw[hW];simp[go_sem]
     have ma: ∀y:ar W,bg y.val y.val.heap.size (.slice pA a.pat.length pc) a.pat:=bg.km (cz.on HE.o (Pl.stays _) bW bW.size) (aad _);have rI:=I ma;rw[<-hW];clear hW x0 x1 x2 ma;have z0:=λx:ar W=>x.cell y0;have z1:=λx:ar W=>x.cell y1;have z2:=λx:ar W=>x.cell y2;clear y0 y1 y2;refine bj (by kernel_rfl) (by kernel_rfl) ?_
     repeat (go_big_quiet_step ((first|(go_at_call 40;exact az (dj _ _ _ _ _ ‹_›))|(go_at_call 110;exact aq (ig _ _ _ _ (rI.o _) gU ‹_›)))))
     refine aai ?_;rintro _ ⟨y,rfl⟩;have bY:=bW.trans (y.ok.mono bW.size);go_wp2;go_ret;exact ⟨by rw[cB.o];rfl,bY⟩
    |true=>
     by_cases PL:a.a8<a.fin
     ·have NS: ¬a.fin<=a.a8:=by omega
      by_cases jA:k=0
      ·have rc:decide ((0:Int)<(k:Int))=false:=by simp;omega
       have H0:decide (0<k)=false:=by simp;omega
       cases EQ:bF a.pat with
       |false=>
        have cB:=I (fu aI (iv HG.o (vn EQ)));clear jA;go_upto_region 4 with (fail)
        obtain ⟨W,hW⟩: ∃W:World,W=wr.alloc (.cells #[.int .i64 a.a8,.int .i64 a.fin,.slice pA a.pat.length pc] 141):=⟨_,rfl⟩
        change Code.wp _ _ _ _ (wr.alloc (.cells #[.int .i64 a.a8,.int .i64 a.fin,.slice pA a.pat.length pc] 141));have bW:Below w.heap.size w W:=by rw[hW];exact HB.o.alloc HB.o.size _
        have y0:W.cell? ⟨wr.heap.size,0,none⟩=some (.int .i64 a.a8):=by rw[hW];simp[go_sem]
        have y1:W.cell? ⟨wr.heap.size,1,none⟩=some (.int .i64 a.fin):=by rw[hW];simp[go_sem]
        have y2:W.cell? ⟨wr.heap.size,2,none⟩=some (.slice pA a.pat.length pc):=by rw[hW];simp[go_sem]
        have ma: ∀y:ar W,bg y.val y.val.heap.size (.slice pA a.pat.length pc) a.pat:=bg.km (cz.on HE.o (Pl.stays _) bW bW.size) (aad _);have rI:=I ma;rw[<-hW];clear hW x0 x1 x2 ma;have z0:=λx:ar W=>x.cell y0;have z1:=λx:ar W=>x.cell y1;have z2:=λx:ar W=>x.cell y2;clear y0 y1 y2;refine bj (by kernel_rfl) (by kernel_rfl) ?_
        repeat (go_big_quiet_step ((first|(go_at_call 40;exact az (dj _ _ _ _ _ ‹_›))|(go_at_call 110;exact aq (ig _ _ _ _ (rI.o _) gU ‹_›)))))
        refine aai ?_;rintro _ ⟨y,rfl⟩;have bY:=bW.trans (y.ok.mono bW.size);go_wp2;go_ret;exact ⟨by rw[cB.o];rfl,bY⟩
       |true=>
        have gN:=cR k (jg ls);rw[HA.o,aaD]at gN;have HN:ag (cE (k+1) (jg ls)=true):=I (gN.trans (qF jA HG.o (vr tU CD PL EQ)));clear jA gN;go_upto_region 4 with (fail)
        obtain ⟨W,hW⟩: ∃W:World,W=wr.alloc (.cells #[.int .i64 a.a8,.int .i64 a.fin,.slice pA a.pat.length pc] 141):=⟨_,rfl⟩
        change Code.wp _ _ _ _ (wr.alloc (.cells #[.int .i64 a.a8,.int .i64 a.fin,.slice pA a.pat.length pc] 141));have bW:Below w.heap.size w W:=by rw[hW];exact HB.o.alloc HB.o.size _
        have y0:W.cell? ⟨wr.heap.size,0,none⟩=some (.int .i64 a.a8):=by rw[hW];simp[go_sem]
        have y1:W.cell? ⟨wr.heap.size,1,none⟩=some (.int .i64 a.fin):=by rw[hW];simp[go_sem]
        have y2:W.cell? ⟨wr.heap.size,2,none⟩=some (.slice pA a.pat.length pc):=by rw[hW];simp[go_sem]
        have ma: ∀y:ar W,bg y.val y.val.heap.size (.slice pA a.pat.length pc) a.pat:=bg.km (cz.on HE.o (Pl.stays _) bW bW.size) (aad _);have rI:=I ma;rw[<-hW];clear hW x0 x1 x2 ma;have z0:=λx:ar W=>x.cell y0;have z1:=λx:ar W=>x.cell y1;have z2:=λx:ar W=>x.cell y2;clear y0 y1 y2;refine bj (by kernel_rfl) (by kernel_rfl) ?_
        repeat (go_big_quiet_step ((first|(go_at_call 40;exact az (dj _ _ _ _ _ ‹_›))|(go_at_call 110;exact aq (ig _ _ _ _ (rI.o _) gU ‹_›)))))
        refine aai ?_;rintro _ ⟨y,rfl⟩;have bY:=bW.trans (y.ok.mono bW.size);go_wp2;go_roundw;case rel=>exact ⟨k+1,by omega,by go_num,HN.o,bY⟩
        case measure=>simp[intOf];omega
      obtain ⟨m,rfl⟩: ∃m,k=m+1:=⟨k-1,by omega⟩
      have hd:ls[m]?=some (ls[m]'(by omega)):=aag (by omega);obtain ⟨_,d0,_⟩:=HC.o _ _ hd;generalize (ls[m]'(by omega))=d at*;have HD:=I hd;clear hd jA;by_cases hid:d.a8<=a.a8
      ·have uT: ¬(a.a8<d.a8):=by omega
       cases EQ:bF a.pat with
       |false=>
        have cB:=I (fu aI (iv HG.o (vn EQ)));go_upto_region 4 with (fail)
        obtain ⟨W,hW⟩: ∃W:World,W=wr.alloc (.cells #[.int .i64 a.a8,.int .i64 a.fin,.slice pA a.pat.length pc] 141):=⟨_,rfl⟩
        change Code.wp _ _ _ _ (wr.alloc (.cells #[.int .i64 a.a8,.int .i64 a.fin,.slice pA a.pat.length pc] 141));have bW:Below w.heap.size w W:=by rw[hW];exact HB.o.alloc HB.o.size _
        have y0:W.cell? ⟨wr.heap.size,0,none⟩=some (.int .i64 a.a8):=by rw[hW];simp[go_sem]
        have y1:W.cell? ⟨wr.heap.size,1,none⟩=some (.int .i64 a.fin):=by rw[hW];simp[go_sem]
        have y2:W.cell? ⟨wr.heap.size,2,none⟩=some (.slice pA a.pat.length pc):=by rw[hW];simp[go_sem]
        have ma: ∀y:ar W,bg y.val y.val.heap.size (.slice pA a.pat.length pc) a.pat:=bg.km (cz.on HE.o (Pl.stays _) bW bW.size) (aad _);have rI:=I ma;rw[<-hW];clear hW x0 x1 x2 ma;have z0:=λx:ar W=>x.cell y0;have z1:=λx:ar W=>x.cell y1;have z2:=λx:ar W=>x.cell y2;clear y0 y1 y2;have y4:W.cell? ⟨b,off+m*3,none⟩=some (.int .i64 d.a8):=(bW.cell (p:=⟨b,off+m*3,none⟩) bD).trans d0;have z4:=λx:ar W=>x.cell y4;clear d0 y4;refine bj (by kernel_rfl) (by kernel_rfl) ?_
        repeat (go_big_quiet_step ((first|(go_at_call 40;exact az (dj _ _ _ _ _ ‹_›))|(go_at_call 110;exact aq (ig _ _ _ _ (rI.o _) gU ‹_›)))))
        refine aai ?_;rintro _ ⟨y,rfl⟩;have bY:=bW.trans (y.ok.mono bW.size);go_wp2;go_ret;exact ⟨by rw[cB.o];rfl,bY⟩
       |true=>
        have gN:=cR (m+1) (jg ls);rw[HA.o,aaD]at gN;have HN:ag (cE (m+1+1) (jg ls)=true):=I (gN.trans ((np HD.o HG.o (vr tU CD PL EQ)).trans (abd hid)));clear gN;go_upto_region 4 with (fail)
        obtain ⟨W,hW⟩: ∃W:World,W=wr.alloc (.cells #[.int .i64 a.a8,.int .i64 a.fin,.slice pA a.pat.length pc] 141):=⟨_,rfl⟩
        change Code.wp _ _ _ _ (wr.alloc (.cells #[.int .i64 a.a8,.int .i64 a.fin,.slice pA a.pat.length pc] 141));have bW:Below w.heap.size w W:=by rw[hW];exact HB.o.alloc HB.o.size _
        have y0:W.cell? ⟨wr.heap.size,0,none⟩=some (.int .i64 a.a8):=by rw[hW];simp[go_sem]
        have y1:W.cell? ⟨wr.heap.size,1,none⟩=some (.int .i64 a.fin):=by rw[hW];simp[go_sem]
        have y2:W.cell? ⟨wr.heap.size,2,none⟩=some (.slice pA a.pat.length pc):=by rw[hW];simp[go_sem]
        have ma: ∀y:ar W,bg y.val y.val.heap.size (.slice pA a.pat.length pc) a.pat:=bg.km (cz.on HE.o (Pl.stays _) bW bW.size) (aad _);have rI:=I ma;rw[<-hW];clear hW x0 x1 x2 ma;have z0:=λx:ar W=>x.cell y0;have z1:=λx:ar W=>x.cell y1;have z2:=λx:ar W=>x.cell y2;clear y0 y1 y2;have y4:W.cell? ⟨b,off+m*3,none⟩=some (.int .i64 d.a8):=(bW.cell (p:=⟨b,off+m*3,none⟩) bD).trans d0;have z4:=λx:ar W=>x.cell y4;clear d0 y4;refine bj (by kernel_rfl) (by kernel_rfl) ?_
        repeat (go_big_quiet_step ((first|(go_at_call 40;exact az (dj _ _ _ _ _ ‹_›))|(go_at_call 110;exact aq (ig _ _ _ _ (rI.o _) gU ‹_›)))))
        refine aai ?_;rintro _ ⟨y,rfl⟩;have bY:=bW.trans (y.ok.mono bW.size);go_wp2;go_roundw;case rel=>exact ⟨(m+1)+1,by omega,by go_num,HN.o,bY⟩
        case measure=>simp[intOf];omega
      have uT:a.a8<d.a8:=by omega
      have cB:=I (fu aI (Gm HD.o HG.o hid));go_upto_region 4 with (fail)
      obtain ⟨W,hW⟩: ∃W:World,W=wr.alloc (.cells #[.int .i64 a.a8,.int .i64 a.fin,.slice pA a.pat.length pc] 141):=⟨_,rfl⟩
      change Code.wp _ _ _ _ (wr.alloc (.cells #[.int .i64 a.a8,.int .i64 a.fin,.slice pA a.pat.length pc] 141));have bW:Below w.heap.size w W:=by rw[hW];exact HB.o.alloc HB.o.size _
      have y0:W.cell? ⟨wr.heap.size,0,none⟩=some (.int .i64 a.a8):=by rw[hW];simp[go_sem]
      have y1:W.cell? ⟨wr.heap.size,1,none⟩=some (.int .i64 a.fin):=by rw[hW];simp[go_sem]
      have y2:W.cell? ⟨wr.heap.size,2,none⟩=some (.slice pA a.pat.length pc):=by rw[hW];simp[go_sem]
      have ma: ∀y:ar W,bg y.val y.val.heap.size (.slice pA a.pat.length pc) a.pat:=bg.km (cz.on HE.o (Pl.stays _) bW bW.size) (aad _);have rI:=I ma;rw[<-hW];clear hW x0 x1 x2 ma;have z0:=λx:ar W=>x.cell y0;have z1:=λx:ar W=>x.cell y1;have z2:=λx:ar W=>x.cell y2;clear y0 y1 y2;have y4:W.cell? ⟨b,off+m*3,none⟩=some (.int .i64 d.a8):=(bW.cell (p:=⟨b,off+m*3,none⟩) bD).trans d0;have z4:=λx:ar W=>x.cell y4;clear d0 y4;refine bj (by kernel_rfl) (by kernel_rfl) ?_
      repeat (go_big_quiet_step ((first|(go_at_call 40;exact az (dj _ _ _ _ _ ‹_›))|(go_at_call 110;exact aq (ig _ _ _ _ (rI.o _) gU ‹_›)))))
      refine aai ?_;rintro _ ⟨y,rfl⟩;have bY:=bW.trans (y.ok.mono bW.size);go_wp2;go_ret;exact ⟨by rw[cB.o];rfl,bY⟩
     have NS:a.fin<=a.a8:=by omega
     have cB:=I (fu aI (iv HG.o (Bf PL)));go_upto_region 4 with (fail)
     obtain ⟨W,hW⟩: ∃W:World,W=wr.alloc (.cells #[.int .i64 a.a8,.int .i64 a.fin,.slice pA a.pat.length pc] 141):=⟨_,rfl⟩
     change Code.wp _ _ _ _ (wr.alloc (.cells #[.int .i64 a.a8,.int .i64 a.fin,.slice pA a.pat.length pc] 141));have bW:Below w.heap.size w W:=by rw[hW];exact HB.o.alloc HB.o.size _
     have y0:W.cell? ⟨wr.heap.size,0,none⟩=some (.int .i64 a.a8):=by rw[hW];simp[go_sem]
     have y1:W.cell? ⟨wr.heap.size,1,none⟩=some (.int .i64 a.fin):=by rw[hW];simp[go_sem]
     have y2:W.cell? ⟨wr.heap.size,2,none⟩=some (.slice pA a.pat.length pc):=by rw[hW];simp[go_sem]
     have ma: ∀y:ar W,bg y.val y.val.heap.size (.slice pA a.pat.length pc) a.pat:=bg.km (cz.on HE.o (Pl.stays _) bW bW.size) (aad _);have rI:=I ma;rw[<-hW];clear hW x0 x1 x2 ma;have z0:=λx:ar W=>x.cell y0;have z1:=λx:ar W=>x.cell y1;have z2:=λx:ar W=>x.cell y2;clear y0 y1 y2;refine bj (by kernel_rfl) (by kernel_rfl) ?_
     repeat (go_big_quiet_step ((first|(go_at_call 40;exact az (dj _ _ _ _ _ ‹_›))|(go_at_call 110;exact aq (ig _ _ _ _ (rI.o _) gU ‹_›)))))
     refine aai ?_;rintro _ ⟨y,rfl⟩;have bY:=bW.trans (y.ok.mono bW.size);go_wp2;go_ret;exact ⟨by rw[cB.o];rfl,bY⟩
  have di:k=ls.length:=by omega
  have hP:bJ ls=decide (ls.length<=8):=by
   unfold bJ;rw[<-di,HA.o,aaD]
  have HP:=I hP;have eA: ¬(k:Int)<(ls.length:Int):=by omega
  clear hP di aI;by_cases rp:ls.length<=8
  ·have Hg:decide ((ls.length:Int)<=8)=true:=by simp;omega
   have uU:=I rp;clear rp;go_wp2;go_ret;exact ⟨by rw[HP.o];simp[uU.o],hb⟩
  have Hg:decide ((ls.length:Int)<=8)=false:=by simp;omega
  have uU:=I rp;clear rp;go_wp2;go_ret;exact ⟨by rw[HP.o];simp[uU.o],hb⟩
theorem Gp (S:List bE) (ls:List bo) (w:World) (vs va:Value) (hS:iT w w.heap.size vs S) (hA:eE w w.heap.size va ls) (ht: ∀a∈S,a.text.size<=maxLen) (hs:ms ls):
 Calls prog 99 #[vs,va] w (bT (.bool (cd S&&bJ ls)) w):=by
 have H1:=I (Gl S w vs hS ht);have H2:=I (λw' (hb:Below w.heap.size w w')=>FV ls w' va (hA.on hb hb.size) hs);obtain ⟨A,c,rfl,_⟩:=hS;obtain ⟨A2,c2,rfl,_⟩:=dk hA;clear hA;generalize bJ ls=r2 at H2⊢;cases hr:cd S with
 |false=>
  rw[hr]at H1;go_enter func99,ntmps99;go_wp2_with (fail);refine (H1.o).mono ?_;rintro e w1 ⟨rfl,bw⟩;go_wp2;go_ret;exact ⟨by simp,bw⟩
 |true=>
  rw[hr]at H1;go_enter func99,ntmps99;go_wp2_with (fail);refine (H1.o).mono ?_;rintro e w1 ⟨rfl,bw⟩
  replace H2:=I (H2.o w1 bw)
  have HB:=I bw;clear bw;go_wp2_with (fail);refine (H2.o).mono ?_;rintro e w2 ⟨rfl,cL⟩;go_wp2;go_ret;exact ⟨by simp,HB.o.trans (cL.mono HB.o.size)⟩
theorem getD_at {vs:List Int} {k:Nat} (hk:k<vs.length):vs.getD k 0=vs[k]:=by simp[List.getD_eq_getElem?_getD,hk]
theorem By {vs:List Int} {k:Nat} (hk:k<vs.length) (h:dO vs[k] 0 3=false):fZ vs=false:=by
 unfold fZ;exact fN hk (by rw[getD_at hk];exact h)
theorem Oi {m:gu} {day n:Int} (h1:dU m.al.toList=true) (h2:dO m.br 0 (n-1)=true) (h3:((m.pat.length:Int)==0)=false) (h4:bF m.pat=true) (h5:jd m.a8 m.fin m.aj=true) (h6:((m.ax.length:Int)==n)=true):
 dD m day n=(fZ m.ax&&dO m.result 0 4&&((m.result==0)==decide (day<m.aj))):=by
 unfold dD;simp only[h1,h2,h3,h4,h5,h6,aaD,Bool.not_false]
theorem Ja (m:gu) (b o:Nat) (A1:Option Addr) (c1:Nat) (A2:Option Addr) (c2:Nat) (day n:Int) (w:World) (h:Bs w w.heap.size b o m A1 c1 A2 c2) (hb:b<w.heap.size) (hs:m.al.size<=maxLen/\bS m.pat) (n1:1<=n) (n2:n<=1000):
 Calls prog 101 #[.pointer (some ⟨b,o,none⟩),.int .i64 day,.int .i64 n] w (bT (.bool (dD m day n)) w):=by
 have z0:=λy:ar w=>y.cell h.k0;have z1:=λy:ar w=>y.cell h.k1;have z2:=λy:ar w=>y.cell h.k2;have z3:=λy:ar w=>y.cell h.k3;have z4:=λy:ar w=>y.cell h.k4;have z5:=λy:ar w=>y.cell h.k5;have z6:=λy:ar w=>y.cell h.k6;have z7:=λy:ar w=>y.cell h.k7;have HE:=I (λy:ar w=>(h.on y.ok y.ok.size hb).fF);have HI:=I (λy:ar w=>(h.on y.ok y.ok.size hb).ints);have gQ:=I hs.1;have gU:=hs.2;obtain ⟨_,_,Hk⟩:=fB h.ints
 have S1:m.ax.length<=9223372036854775807:=by
  obtain ⟨_,q,_⟩:=fB h.ints;omega
 clear h hs Hk;cases h1:dU m.al.toList with
 |false=>
  have cB:ag (dD m day n=false):=I (by unfold dD;rw[h1];rfl);refine aL λx0=>?_;go_enter func101,ntmps101;go_wp2_with (fail);refine ap (by kernel_rfl) (by kernel_rfl) ?_
  repeat (go_big_quiet_step ((first|(go_at_call 150;exact az (bn _ _ _ gQ.o ‹_›))|(go_at_call 98;exact az (aP _ _ _ _ _ ‹_›))|(go_at_call 151;exact aq (aO _ _ _ _ (HE.o _) gU ‹_›))|(go_at_call 152;exact aq (bl _ _ _ _ _ ‹_›)))))
  refine aai ?_;rintro _ ⟨y,rfl⟩;go_wp2;go_ret;exact ⟨by rw[cB.o];rfl,y.ok⟩
 |true=>
  cases h2:dO m.br 0 (n-1)with
  |false=>
   have cB:ag (dD m day n=false):=I (by unfold dD;rw[h1,h2];rfl);refine aL λx0=>?_;go_enter func101,ntmps101;go_wp2_with (fail);refine ap (by kernel_rfl) (by kernel_rfl) ?_
   repeat (go_big_quiet_step ((first|(go_at_call 150;exact az (bn _ _ _ gQ.o ‹_›))|(go_at_call 98;exact az (aP _ _ _ _ _ ‹_›))|(go_at_call 151;exact aq (aO _ _ _ _ (HE.o _) gU ‹_›))|(go_at_call 152;exact aq (bl _ _ _ _ _ ‹_›)))))
   refine aai ?_;rintro _ ⟨y,rfl⟩;go_wp2;go_ret;exact ⟨by rw[cB.o];rfl,y.ok⟩
  |true=>
   cases h3:((m.pat.length:Int)==0)with
   |true=>
    have cB:ag (dD m day n=false):=I (by unfold dD;rw[h1,h2,h3];rfl);refine aL λx0=>?_;go_enter func101,ntmps101;go_wp2_with (fail);refine ap (by kernel_rfl) (by kernel_rfl) ?_
    repeat (go_big_quiet_step ((first|(go_at_call 150;exact az (bn _ _ _ gQ.o ‹_›))|(go_at_call 98;exact az (aP _ _ _ _ _ ‹_›))|(go_at_call 151;exact aq (aO _ _ _ _ (HE.o _) gU ‹_›))|(go_at_call 152;exact aq (bl _ _ _ _ _ ‹_›)))))
    refine aai ?_;rintro _ ⟨y,rfl⟩;go_wp2;go_ret;exact ⟨by rw[cB.o];rfl,y.ok⟩
   |false=>
    cases h4:bF m.pat with
    |false=>
     have cB:ag (dD m day n=false):=I (by unfold dD;rw[h1,h2,h3,h4];rfl);refine aL λx0=>?_;go_enter func101,ntmps101;go_wp2_with (fail);refine ap (by kernel_rfl) (by kernel_rfl) ?_
     repeat (go_big_quiet_step ((first|(go_at_call 150;exact az (bn _ _ _ gQ.o ‹_›))|(go_at_call 98;exact az (aP _ _ _ _ _ ‹_›))|(go_at_call 151;exact aq (aO _ _ _ _ (HE.o _) gU ‹_›))|(go_at_call 152;exact aq (bl _ _ _ _ _ ‹_›)))))
     refine aai ?_;rintro _ ⟨y,rfl⟩;go_wp2;go_ret;exact ⟨by rw[cB.o];rfl,y.ok⟩
    |true=>
     cases h5:jd m.a8 m.fin m.aj with
     |false=>
      have cB:ag (dD m day n=false):=I (by unfold dD;rw[h1,h2,h3,h4,h5];rfl);refine aL λx0=>?_;go_enter func101,ntmps101;go_wp2_with (fail);refine ap (by kernel_rfl) (by kernel_rfl) ?_
      repeat (go_big_quiet_step ((first|(go_at_call 150;exact az (bn _ _ _ gQ.o ‹_›))|(go_at_call 98;exact az (aP _ _ _ _ _ ‹_›))|(go_at_call 151;exact aq (aO _ _ _ _ (HE.o _) gU ‹_›))|(go_at_call 152;exact aq (bl _ _ _ _ _ ‹_›)))))
      refine aai ?_;rintro _ ⟨y,rfl⟩;go_wp2;go_ret;exact ⟨by rw[cB.o];rfl,y.ok⟩
     |true=>
      cases h6:((m.ax.length:Int)==n)with
      |false=>
       have Ys:((m.ax.length:Int) !=n)=true:=by rw[bne,h6];rfl
       have cB:ag (dD m day n=false):=I (by unfold dD;rw[h1,h2,h3,h4,h5,h6];rfl);refine aL λx0=>?_;go_enter func101,ntmps101;go_wp2_with (fail);refine ap (by kernel_rfl) (by kernel_rfl) ?_
       repeat (go_big_quiet_step ((first|(go_at_call 150;exact az (bn _ _ _ gQ.o ‹_›))|(go_at_call 98;exact az (aP _ _ _ _ _ ‹_›))|(go_at_call 151;exact aq (aO _ _ _ _ (HE.o _) gU ‹_›))|(go_at_call 152;exact aq (bl _ _ _ _ _ ‹_›)))))
       refine aai ?_;rintro _ ⟨y,rfl⟩;go_wp2;go_ret;exact ⟨by rw[cB.o];rfl,y.ok⟩
      |true=>
       have Ys:((m.ax.length:Int) !=n)=false:=by rw[bne,h6];rfl
       have qH:=I (Oi (day:=day) h1 h2 h3 h4 h5 h6);refine aL λx0=>?_;go_enter func101,ntmps101;go_wp2_with (fail);refine ap (by kernel_rfl) (by kernel_rfl) ?_
       repeat (go_big_quiet_step ((first|(go_at_call 150;exact az (bn _ _ _ gQ.o ‹_›))|(go_at_call 98;exact az (aP _ _ _ _ _ ‹_›))|(go_at_call 151;exact aq (aO _ _ _ _ (HE.o _) gU ‹_›))|(go_at_call 152;exact aq (bl _ _ _ _ _ ‹_›)))))
       refine aai ?_;rintro _ ⟨y,rfl⟩;clear h1 h2 h3 h4 h5 h6 gU;go_wp2;go_loopw [7] (λi wr=> ∃(k:Nat) (x:ar w),k<=m.ax.length/\i= .int .i64 (k:Int)/\cE k (λk=>dO (m.ax.getD k 0) 0 3)=true/\wr=x.val) (λi _=>m.ax.length-(intOf i).toNat);case atStart=>exact ⟨0,y,aaf _,rfl,rfl,rfl⟩
       case round=>
        obtain ⟨k,x,hk,rfl,dn,rfl⟩:=hrel;have HA:=I dn;clear dn;by_cases aI:k<m.ax.length
        ·obtain ⟨b',off,rfl,dF,c0⟩:=cZ (HI.o x) (aag aI);have gN:=cR k (λk=>dO (m.ax.getD k 0) 0 3);rw[HA.o,aaD]at gN;have gN:ag (cE (k+1) (λk=>dO (m.ax.getD k 0) 0 3)=dO m.ax[k] 0 3):=I (by rw[gN,getD_at aI]);have cB:=I (λh=>By aI h);generalize m.ax[k]=z at*;cases hz:dO z 0 3 with
         |false=>
          have HB:=I (cB.o hz);go_wp2_with (fail);refine (az (aP _ _ _ _ _ hz)).mono ?_;rintro e _ ⟨rfl,u,rfl⟩;go_wp2;go_ret;exact ⟨by rw[qH.o,HB.o];rfl,u.ok⟩
         |true=>
          have HN:=I (gN.o.trans hz);go_wp2_with (fail);refine (az (aP _ _ _ _ _ hz)).mono ?_;rintro e _ ⟨rfl,u,rfl⟩;go_wp2;go_roundw;case rel=>exact ⟨k+1,u,by omega,by go_num,HN.o,rfl⟩
          case measure=>simp[intOf];omega
        have eA: ¬(k:Int)<(m.ax.length:Int):=by omega
        have di:k=m.ax.length:=by omega
        have HV:ag (fZ m.ax=true):=I (by unfold fZ;rw[<-di];exact HA.o);clear di aI;rw[HV.o,aaD]at qH;cases h7:dO m.result 0 4 with
        |false=>
         rw[h7,Bool.false_and]at qH;go_wp2_with (fail);refine ap (by kernel_rfl) (by kernel_rfl) ?_
         repeat (go_big_quiet_step ((first|(go_at_call 98;exact az (aP _ _ _ _ _ ‹_›)))))
         refine aai ?_;rintro _ ⟨z,rfl⟩;go_wp2;go_ret;exact ⟨by rw[qH.o];rfl,z.ok⟩
        |true=>
         rw[h7,aaD]at qH;cases h8:(m.result==0)with
         |false=>
          rw[h8]at qH;by_cases h9:day<m.aj
          ·have Ie:decide (day<m.aj)=true:=abd h9;rw[Ie]at qH;go_wp2_with (fail);refine ap (by kernel_rfl) (by kernel_rfl) ?_
           repeat (go_big_quiet_step ((first|(go_at_call 98;exact az (aP _ _ _ _ _ ‹_›)))))
           refine aai ?_;rintro _ ⟨z,rfl⟩;go_wp2;go_ret;exact ⟨by rw[qH.o];rfl,z.ok⟩
          have Ie:decide (day<m.aj)=false:=aba h9;rw[Ie]at qH;go_wp2_with (fail);refine ap (by kernel_rfl) (by kernel_rfl) ?_
          repeat (go_big_quiet_step ((first|(go_at_call 98;exact az (aP _ _ _ _ _ ‹_›)))))
          refine aai ?_;rintro _ ⟨z,rfl⟩;go_wp2;go_ret;exact ⟨by rw[qH.o];rfl,z.ok⟩
         |true=>
          rw[h8]at qH;by_cases h9:day<m.aj
          ·have Ie:decide (day<m.aj)=true:=abd h9;rw[Ie]at qH;go_wp2_with (fail);refine ap (by kernel_rfl) (by kernel_rfl) ?_
           repeat (go_big_quiet_step ((first|(go_at_call 98;exact az (aP _ _ _ _ _ ‹_›)))))
           refine aai ?_;rintro _ ⟨z,rfl⟩;go_wp2;go_ret;exact ⟨by rw[qH.o];rfl,z.ok⟩
          have Ie:decide (day<m.aj)=false:=aba h9;rw[Ie]at qH;go_wp2_with (fail);refine ap (by kernel_rfl) (by kernel_rfl) ?_
          repeat (go_big_quiet_step ((first|(go_at_call 98;exact az (aP _ _ _ _ _ ‹_›)))))
          refine aai ?_;rintro _ ⟨z,rfl⟩;go_wp2;go_ret;exact ⟨by rw[qH.o];rfl,z.ok⟩
def kF {α:Type} (p:α->Bool) (L:List α):Int:=match L.findIdx? p with|some k=>(k:Int)|none=> -1
theorem vO {α:Type} {p:α->Bool} {L:List α} {k:Nat} (hk:k<L.length) (h:p L[k]=true) (hn: ∀j (hj:j<k),p (L[j]'(by omega))=false):kF p L=k:=by
 have:L.findIdx? p=some k:=abI.2 ⟨hk,h,λj hj=>by rw[hn j hj];simp⟩;unfold kF;rw[this]
theorem tl {α:Type} {p:α->Bool} {L:List α} (hn: ∀j (hj:j<L.length),p L[j]=false):kF p L= -1:=by
 have:L.findIdx? p=none:=ab2.2 (λx hx=>by
  obtain ⟨j,hj,rfl⟩:=abh.1 hx;exact hn j hj)
 unfold kF;rw[this]
theorem Bz {α:Type} (p:α->Bool) (L:List α):(0<=kF p L↔L.any p=true)/\ -1<=kF p L/\kF p L<=(L.length:Int):=by
 rcases hf:L.findIdx? p with _|k
 ·have h1:=ab2.1 hf;have e:kF p L= -1:=by unfold kF;rw[hf]
  rw[e];refine ⟨⟨λh=>by omega,λh=>?_⟩,by omega,by omega⟩;obtain ⟨x,hx,hp⟩:=List.any_eq_true.1 h;have:=h1 x hx;rw[hp]at this;cases this
 obtain ⟨h1,h2,h3⟩:=abI.1 hf;have e:kF p L=k:=by unfold kF;rw[hf]
 rw[e];exact ⟨⟨λ_=>List.any_eq_true.2 ⟨L[k],aax h1,h2⟩,λ_=>by omega⟩,by omega,by omega⟩
def Jd (g:Nat) (lb:Array Value) (p:Int->Bool) (w:World):Prop:=
 ∀(W:World) (x:Int),Below w.heap.size w W->Calls prog g (#[.int .i64 x]++lb) W (bT (.bool (p x)) W)
def E0 (g:Nat) (lb:Array Value) (p:gu->Bool) (w:World):Prop:=
 ∀(W:World) (m:gu) (v1 v2:Value),Below w.heap.size w W->Calls prog g (#[.agg #[.string m.al,.int .i64 m.br,v1,.int .i64 m.a8,.int .i64 m.fin,.int .i64 m.aj,v2,.int .i64 m.result]]++lb) W (bT (.bool (p m)) W)
theorem DC (L:List Int) (w:World) (A:Option Addr) (c:Nat) (h:Ints w w.heap.size (.slice A L.length c) L) (g:Nat) (lb:Array Value) (p:Int->Bool) (hp:Jd g lb p w) (eg: ∀args w,(callFunc g args).run prog w= .ok (.enter g args) w):
 Calls prog 187 #[.slice A L.length c,.func (.func g) #[] lb] w (bT (.int .i64 (kF p L)) w):=by
 obtain ⟨_,hc,hm⟩:=fB h;have rn:L.length<=9223372036854775807:=by omega
 have HP:=I hp;clear hp;go_enter func187,ntmps187;go_wp2;go_loopw [5,8] (λ_ i wr=> ∃(k:Nat) (x:ar w),k<=L.length/\i= .int .i64 (k:Int)/\(∀j (hj:j<L.length),j<k->p L[j]=false)/\wr=x.val) (λ_ i _=>L.length-(intOf i).toNat);case atStart=>exact ⟨0,⟨w,aae _ _⟩,aaf _,rfl,λj _ hj=>absurd hj (aa' _),rfl⟩
 case round=>
  obtain ⟨k,x,hk,rfl,hn,rfl⟩:=hrel;have HN:=I hn;clear hn;by_cases aI:k<L.length
  ·obtain ⟨b,off,rfl,bD,c0⟩:=cZ h (aag aI);have x0:=x.cell c0;have gn:=HP.o x.val L[k] x.ok;clear c0;cases hq:p L[k]with
   |true=>
    have HQ:=I (vO aI hq (λj hj=>HN.o j (by omega) hj));rw[hq]at gn;have HC:=I gn;generalize L[k]=e at*;clear gn hq;go_wp2_with (go_at_fn g;refine (aq (HC.o)).mono ?_;rintro e' _ ⟨rfl,y,rfl⟩);go_ret;exact ⟨by rw[HQ.o];rfl,y.ok⟩
   |false=>
    have Da:ag (∀j (hj:j<L.length),j<k+1->p L[j]=false):=I (λj hj KI=>by
     by_cases e:j=k
     ·subst e;exact hq
     exact HN.o j hj (by omega))
    rw[hq]at gn;have HC:=I gn;generalize L[k]=e at gn x0 hq HC;clear gn hq;go_wp2_with (go_at_fn g;refine (aq (HC.o)).mono ?_;rintro e' _ ⟨rfl,y,rfl⟩);go_roundw;case rel=>exact ⟨k+1,y,by omega,by go_num,Da.o,rfl⟩
    case measure=>simp[intOf];omega
  have eA: ¬(k:Int)<(L.length:Int):=by omega
  have HQ:=I (tl (p:=p) (L:=L) (λj hj=>HN.o j hj (by omega)));go_wp2;go_ret;exact ⟨by rw[HQ.o];rfl,x.ok⟩
theorem vP (L:List gu) (w:World) (A:Option Addr) (c:Nat) (h:nA w w.heap.size (.slice A L.length c) L) (g:Nat) (lb:Array Value) (p:gu->Bool) (hp:E0 g lb p w) (eg: ∀args w,(callFunc g args).run prog w= .ok (.enter g args) w):
 Calls prog 108 #[.slice A L.length c,.func (.func g) #[] lb] w (bT (.int .i64 (kF p L)) w):=by
 obtain ⟨A',c',hv,hc,hm,cn⟩:=fQ h;injection hv with e1 e2 e3
 subst e1 e3;unfold maxLen at hm;have rn:L.length<=9223372036854775807:=by omega
 have gH:=I cn;clear h cn e2;have HP:=I hp;clear hp;go_enter func108,ntmps108;go_wp2;go_loopw [5,8] (λ_ i wr=> ∃(k:Nat) (x:ar w),k<=L.length/\i= .int .i64 (k:Int)/\(∀j (hj:j<L.length),j<k->p L[j]=false)/\wr=x.val) (λ_ i _=>L.length-(intOf i).toNat);case atStart=>exact ⟨0,⟨w,aae _ _⟩,aaf _,rfl,λj _ hj=>absurd hj (aa' _),rfl⟩
 case round=>
  obtain ⟨k,x,hk,rfl,hn,rfl⟩:=hrel;have HN:=I hn;clear hn;by_cases aI:k<L.length
  ·obtain ⟨b,off,rfl,bD,aC⟩:=gH.o (by omega);obtain ⟨A1,c1,A2,c2,hP⟩:=aC k _ (aag aI);have x0:=x.cell hP.k0;have x1:=x.cell hP.k1;have x2:=x.cell hP.k2;have x3:=x.cell hP.k3;have x4:=x.cell hP.k4;have x5:=x.cell hP.k5;have x6:=x.cell hP.k6;have x7:=x.cell hP.k7;have gn:=HP.o x.val L[k] (.slice A1 L[k].pat.length c1) (.slice A2 L[k].ax.length c2) x.ok;clear aC hP;cases hq:p L[k]with
   |true=>
    have HQ:=I (vO aI hq (λj hj=>HN.o j (by omega) hj));rw[hq]at gn;have HC:=I gn;generalize L[k]=e at*;clear gn hq;go_wp2_with (go_at_fn g;refine (aq (HC.o)).mono ?_;rintro e' _ ⟨rfl,y,rfl⟩);go_ret;exact ⟨by rw[HQ.o];rfl,y.ok⟩
   |false=>
    have Da:ag (∀j (hj:j<L.length),j<k+1->p L[j]=false):=I (λj hj KI=>by
     by_cases e:j=k
     ·subst e;exact hq
     exact HN.o j hj (by omega))
    rw[hq]at gn;have HC:=I gn;generalize L[k]=e at gn x0 x1 x2 x3 x4 x5 x6 x7 hq HC;clear gn hq;go_wp2_with (go_at_fn g;refine (aq (HC.o)).mono ?_;rintro e' _ ⟨rfl,y,rfl⟩);go_roundw;case rel=>exact ⟨k+1,y,by omega,by go_num,Da.o,rfl⟩
    case measure=>simp[intOf];omega
  have eA: ¬(k:Int)<(L.length:Int):=by omega
  have HQ:=I (tl (p:=p) (L:=L) (λj hj=>HN.o j hj (by omega)));go_wp2;go_ret;exact ⟨by rw[HQ.o];rfl,x.ok⟩
theorem xI (L:List Int) (w:World) (A:Option Addr) (c:Nat) (h:Ints w w.heap.size (.slice A L.length c) L) (g:Nat) (lb:Array Value) (p:Int->Bool) (hp:Jd g lb p w) (eg: ∀args w,(callFunc g args).run prog w= .ok (.enter g args) w):
 Calls prog 159 #[.slice A L.length c,.func (.func g) #[] lb] w (bT (.bool (L.any p)) w):=by
 have H:=I (DC L w A c h g lb p hp eg);obtain ⟨_,hc,hm⟩:=fB h;have rn:L.length<=9223372036854775807:=by omega
 clear h hp eg;obtain ⟨aU,h1,h2⟩:=Bz p L;generalize kF p L=n at*;go_enter func159,ntmps159;by_cases hn:0<=n
 ·have hd:decide (0<=n)=true:=by simp;omega
  have HC:=I (aU.1 hn);clear aU;go_wp2_with (fail);refine H.o.mono ?_;rintro e w1 ⟨rfl,hb⟩;go_wp2;go_ret;exact ⟨by rw[HC.o];rfl,hb⟩
 have hd:decide (0<=n)=false:=by simp;omega
 have hc:L.any p=false:=by
  cases hz:L.any p with
  |false=>rfl
  |true=>exact absurd (aU.2 hz) hn
 have HC:=I hc;clear aU hc;go_wp2_with (fail);refine H.o.mono ?_;rintro e w1 ⟨rfl,hb⟩;go_wp2;go_ret;exact ⟨by rw[HC.o];rfl,hb⟩
theorem xJ (L:List gu) (w:World) (A:Option Addr) (c:Nat) (h:nA w w.heap.size (.slice A L.length c) L) (g:Nat) (lb:Array Value) (p:gu->Bool) (hp:E0 g lb p w) (eg: ∀args w,(callFunc g args).run prog w= .ok (.enter g args) w):
 Calls prog 43 #[.slice A L.length c,.func (.func g) #[] lb] w (bT (.bool (L.any p)) w):=by
 have H:=I (vP L w A c h g lb p hp eg);obtain ⟨A',c',hv,hc,hm,_⟩:=fQ h;injection hv with e1 e2 e3
 subst e1 e3;unfold maxLen at hm;have rn:L.length<=9223372036854775807:=by omega
 clear h hp eg e2;obtain ⟨aU,h1,h2⟩:=Bz p L;generalize kF p L=n at*;go_enter func43,ntmps43;by_cases hn:0<=n
 ·have hd:decide (0<=n)=true:=by simp;omega
  have HC:=I (aU.1 hn);clear aU;go_wp2_with (fail);refine H.o.mono ?_;rintro e w1 ⟨rfl,hb⟩;go_wp2;go_ret;exact ⟨by rw[HC.o];rfl,hb⟩
 have hd:decide (0<=n)=false:=by simp;omega
 have hc:L.any p=false:=by
  cases hz:L.any p with
  |false=>rfl
  |true=>exact absurd (aU.2 hz) hn
 have HC:=I hc;clear aU hc;go_wp2_with (fail);refine H.o.mono ?_;rintro e w1 ⟨rfl,hb⟩;go_wp2;go_ret;exact ⟨by rw[HC.o];rfl,hb⟩
theorem DD: ∀args w,(callFunc 160 args).run prog w= .ok (.enter 160 args) w:=enters_of func160 (by kernel_rfl) rfl
theorem BA: ∀args w,(callFunc 107 args).run prog w= .ok (.enter 107 args) w:=enters_of func107 (by kernel_rfl) rfl
theorem zp: ∀args w,(callFunc 44 args).run prog w= .ok (.enter 44 args) w:=enters_of func44 (by kernel_rfl) rfl
theorem Je (B:Nat) (w:World) (hB:B<w.heap.size) (hc:w.cell? ⟨B,0,none⟩=some (.func (.func 107) #[] #[])):Jd 160 #[.pointer (some ⟨B,0,none⟩)] (λz=>!dO z 0 3) w:=by
 intro W x hb;have x0:=(hb.cell (p:=⟨B,0,none⟩) hB).trans hc;have H:=I (xV x W);have ev:=BA;show Calls prog 160 #[.int .i64 x,.pointer (some ⟨B,0,none⟩)] W (bT (.bool (!dO x 0 3)) W)
 generalize dO x 0 3=r at*;clear hb;go_enter func160,ntmps160;go_wp2_with (go_at_fn 107;refine (H.o).mono ?_;rintro e' _ ⟨rfl,k,rfl⟩);go_ret;exact ⟨rfl,below_drewN (aae _ _) _⟩
theorem DE (m:gu) (B:Nat) (w:World) (hB:B<w.heap.size) (hc:w.cell? ⟨B,0,none⟩=some (.string m.al)):E0 44 #[.pointer (some ⟨B,0,none⟩)] (λo=>o.al.toList==m.al.toList) w:=by
 intro W x v1 v2 hb;have x0:=(hb.cell (p:=⟨B,0,none⟩) hB).trans hc;have aI:=aaL W ⟨B,0,none⟩ x0;have y0:=(((aae W.heap.size W).alloc (aad _) (.cells #[.string x.al,.int .i64 x.br,v1,.int .i64 x.a8,.int .i64 x.fin,.int .i64 x.aj,v2,.int .i64 x.result] 35)).cell (p:=⟨B,0,none⟩) aI).trans x0;show Calls prog 44 #[.agg #[.string x.al,.int .i64 x.br,v1,.int .i64 x.a8,.int .i64 x.fin,.int .i64 x.aj,v2,.int .i64 x.result],.pointer (some ⟨B,0,none⟩)] W (bT (.bool (x.al.toList==m.al.toList)) W)
 clear x0 hb;go_enter func44,ntmps44;go_wp2;go_ret;exact ⟨rfl,(aae W.heap.size W).alloc (aad _) _⟩
theorem BB (vs:List Int):(vs.any λz=>!dO z 0 3)=!fZ vs:=by
 have:fZ vs=vs.all (λz=>dO z 0 3):=by
  unfold fZ;rw[Bool.eq_iff_iff,eo,List.all_eq_true];constructor
  ·intro h x hx;obtain ⟨k,hk,rfl⟩:=abh.1 hx;have:=h k hk
   rwa [getD_at hk]at this
  intro h k hk;rw[getD_at hk];exact h _ (aax hk)
 rw[this,List.not_all_eq_any_not]
theorem DF (vs:List Int) (n:Int) (A:Option Addr) (c:Nat) (w:World) (h:Ints w w.heap.size (.slice A vs.length c) vs):
 Calls prog 106 #[.slice A vs.length c,.int .i64 n,.func (.func 107) #[] #[]] w (bT (.bool (((vs.length:Int)==n)&&fZ vs)) w):=by
 have Sz: ∀(fn:Fn) (first cap:Array Value) (w:World),(Instr.makeFunc fn first cap).run prog w= .ok (.func fn first cap) w:=λ_ _ _ _=>rfl;have bW: ∀t,Below w.heap.size w (w.alloc (.cells #[.func (.func 107) #[] #[]] t)):=λt=>(aae w.heap.size w).alloc (aad _) _;have HI:=I (λt=>xI vs (w.alloc (.cells #[.func (.func 107) #[] #[]] t)) A c (cz.on h (Pl.stays _) (bW t) (bW t).size) 160 #[.pointer (some ⟨w.heap.size,0,none⟩)] (λz=>!dO z 0 3) (Je w.heap.size _ (by simp) (by simp[go_sem])) DD);rw[BB]at HI;have HB:=I bW;obtain ⟨_,hc,hm⟩:=fB h;have rn:vs.length<=9223372036854775807:=by omega
 generalize fZ vs=r at*;clear h bW;cases hq:((vs.length:Int)==n)with
 |false=>
  go_enter func106,ntmps106;go_wp2;go_ret;exact ⟨rfl,HB.o _⟩
 |true=>
  go_enter func106,ntmps106;go_wp2_with (fail);refine (HI.o _).mono ?_;rintro e w1 ⟨rfl,bw⟩;have da:=I ((HB.o _).trans (bw.mono (HB.o _).size));clear bw;go_wp2;go_ret;exact ⟨by simp,da.o⟩
theorem Gq (n:Int) (w:World):Calls prog 97 #[.int .i64 n] w (f' (.bool (dO n 0 2)) w):=by
 have H:=I (rl n 0 2 w);generalize dO n 0 2=r at H⊢;go_enter func97,ntmps97;go_wp2_with (fail);refine (H.o).mono ?_;rintro e w1 ⟨rfl,m,rfl⟩;go_wp2;go_ret;exact ⟨rfl,m,rfl⟩
theorem kY (n:Int) (w:World) (r:Bool) (h:dO n 0 2=r):Calls prog 97 #[.int .i64 n] w (f' (.bool r) w):=h▸Gq n w
theorem kZ (n:Int) (w:World) (r:Bool) (h:dO n 0 999=r):Calls prog 96 #[.int .i64 n] w (f' (.bool r) w):=h▸AZ n w
theorem ld (S:List bE) (ls:List bo) (w:World) (vs va:Value) (r:Bool) (hS:iT w w.heap.size vs S) (hA:eE w w.heap.size va ls) (ht: ∀a∈S,a.text.size<=maxLen) (hs:ms ls) (hr:(cd S&&bJ ls)=r):
 Calls prog 99 #[vs,va] w (bT (.bool r) w):=hr▸Gp S ls w vs va hS hA ht hs
theorem BC (m:gu) (b o:Nat) (A1:Option Addr) (c1:Nat) (A2:Option Addr) (c2:Nat) (day n:Int) (w:World) (r:Bool) (h:Bs w w.heap.size b o m A1 c1 A2 c2) (hb:b<w.heap.size) (hs:m.al.size<=maxLen/\bS m.pat) (n1:1<=n) (n2:n<=1000) (hr:dD m day n=r):
 Calls prog 101 #[.pointer (some ⟨b,o,none⟩),.int .i64 day,.int .i64 n] w (bT (.bool r) w):=hr▸Ja m b o A1 c1 A2 c2 day n w h hb hs n1 n2
theorem rR {L:List (List Int)} {n:Int} {k:Nat} (hk:k<L.length):vJ L n k=cF L[k] (k:Int) n:=by unfold vJ;rw[aag hk];rfl
theorem rS {L:List (List Int)} {k:Nat} (hk:k<L.length) (h:cF L[k] (k:Int) L.length=false):ij L=false:=by
 unfold ij;exact fN hk (by rw[rR hk];exact h)
theorem rT {L:List gu} {day n:Int} {k:Nat} (hk:k<L.length):ko L day n k=(dD L[k] day n&&!((L.take k).any (λo=>o.al.toList==L[k].al.toList))):=by unfold ko;rw[aag hk];rfl
theorem vQ {L:List gu} {day n:Int} {k:Nat} (hk:k<L.length) (h:ko L day n k=false):kE L day n=false:=by
 unfold kE;exact fN hk h
theorem ik {a:cp} (h:gS a=false):fI a=false:=by unfold fI;rw[h];rfl
theorem DG {a:cp} (h:(cd a.base&&bJ a.av)=false):fI a=false:=by
 unfold fI;rw[Bool.and_assoc (gS a&&ij a.af&&kE a.ao a.day ↑a.af.length),h,Bool.and_false,Bool.false_and]
theorem rU {a:cp} (h:ij a.af=false):fI a=false:=by unfold fI;rw[h];simp
theorem vS {a:cp} (h:kE a.ao a.day a.af.length=false):fI a=false:=by unfold fI;rw[h];simp
theorem yw {a:cp} (h1:gS a=true) (h2:ij a.af=true) (h3:kE a.ao a.day a.af.length=true) (h4:cd a.base=true) (h5:bJ a.av=true) {n:Nat} (hn:n=0↔eJ a.base a.av):fI a=((n:Int)==0):=by
 unfold fI;rw[h1,h2,h3,h4,h5,Bool.eq_iff_iff];simp only[aaD,aaU,ajZ];rw[<-hn];omega
theorem Jf {b o:Nat} {v3 v4:Value} {w X X':World} (h:X.cell? ⟨b,o+3,none⟩=some v3/\X.cell? ⟨b,o+4,none⟩=some v4/\Below w.heap.size w X) (hb:Below X.heap.size X X'):X'.cell? ⟨b,o+3,none⟩=some v3/\X'.cell? ⟨b,o+4,none⟩=some v4/\Below w.heap.size w X':=
 ⟨(hb.cell (aaL X _ h.1)).trans h.1,(hb.cell (aaL X _ h.2.1)).trans h.2.1,h.2.2.trans (hb.mono h.2.2.size)⟩
theorem Oj (a:cp) (At:Option Addr) (ct:Nat) (Ab:Option Addr) (cb:Nat) (Ac:Option Addr) (cc:Nat) (Am:Option Addr) (cm:Nat) (b o:Nat) (w:World)
 (k0:w.cell? ⟨b,o,none⟩=some (.int .i64 a.day)) (k1:w.cell? ⟨b,o+1,none⟩=some (.int .i64 a.rule)) (k2:w.cell? ⟨b,o+2,none⟩=some (.slice At a.af.length ct)) (k3:w.cell? ⟨b,o+3,none⟩=some (.slice Ab a.base.length cb)) (k4:w.cell? ⟨b,o+4,none⟩=some (.slice Ac a.av.length cc)) (k5:w.cell? ⟨b,o+5,none⟩=some (.slice Am a.ao.length cm))
 (hR:jv w w.heap.size ⟨.slice At a.af.length ct,.slice Ab a.base.length cb,.slice Ac a.av.length cc,.slice Am a.ao.length cm⟩ a) (hs:ua a):
 Calls prog 37 #[.pointer (some ⟨b,o,none⟩)] w (bT (.bool (fI a)) w):=by
 have z0:=λy:ar w=>y.cell k0;have z1:=λy:ar w=>y.cell k1;have z2:=λy:ar w=>y.cell k2;have z3:=λy:ar w=>y.cell k3;have z4:=λy:ar w=>y.cell k4;have z5:=λy:ar w=>y.cell k5;have HR:=I (hR.km (aad _));have HS:=I hs
 have Ut:ag (0<a.ao.length-> ∃b off,Am=some ⟨b,off,none⟩/\b<w.heap.size/\ ∀(k:Nat) (m:gu),a.ao[k]?=some m-> ∃A1 c1 A2 c2,Bs w w.heap.size b (off+k*8) m A1 c1 A2 c2):=I (by
  obtain ⟨A,c,hv,_,_,h⟩:=fQ hR.m;have hv:Value.slice Am a.ao.length cm= .slice A a.ao.length c:=hv;injection hv with e1 e2 e3
  rw[e1];exact h)
 have Yt:a.af.length<=9223372036854775807:=by obtain ⟨A,c,_,q1,q2,_⟩:=fY hR.t;unfold maxLen at q2;omega
 have EZ:a.ao.length<=9223372036854775807:=by obtain ⟨A,c,_,q1,q2,_⟩:=fQ hR.m;unfold maxLen at q2;omega
 clear hR hs k0 k1 k2 k3 k4 k5;cases h1:dO a.day 0 999 with
 |false=>
  have cB:=I (ik (a:=a) (by unfold gS;rw[h1];rfl));refine aL λx0=>?_;go_enter func37,ntmps37;go_wp2_with (fail);refine ap (by kernel_rfl) (by kernel_rfl) ?_
  repeat (go_big_quiet_step ((first|(go_at_call 96;exact az (kZ _ _ _ ‹_›))|(go_at_call 97;exact az (kY _ _ _ ‹_›))|(go_at_call 98;exact az (aP _ _ _ _ _ ‹_›))|(go_at_call 99;exact aq (ld _ _ _ _ _ _ (HR.o _).b (HR.o _).c HS.o.b HS.o.c ‹_›)))))
  refine aai ?_;rintro _ ⟨y,rfl⟩;go_wp2;go_ret;exact ⟨by rw[cB.o];rfl,y.ok⟩
 |true=>
 cases h2:dO a.rule 0 2 with
 |false=>
  have cB:=I (ik (a:=a) (by unfold gS;rw[h2];simp));refine aL λx0=>?_;go_enter func37,ntmps37;go_wp2_with (fail);refine ap (by kernel_rfl) (by kernel_rfl) ?_
  repeat (go_big_quiet_step ((first|(go_at_call 96;exact az (kZ _ _ _ ‹_›))|(go_at_call 97;exact az (kY _ _ _ ‹_›))|(go_at_call 98;exact az (aP _ _ _ _ _ ‹_›))|(go_at_call 99;exact aq (ld _ _ _ _ _ _ (HR.o _).b (HR.o _).c HS.o.b HS.o.c ‹_›)))))
  refine aai ?_;rintro _ ⟨y,rfl⟩;go_wp2;go_ret;exact ⟨by rw[cB.o];rfl,y.ok⟩
 |true=>
 cases h3:dO (a.af.length:Int) 1 12 with
 |false=>
  have cB:=I (ik (a:=a) (by unfold gS;rw[h3];simp));refine aL λx0=>?_;go_enter func37,ntmps37;go_wp2_with (fail);refine ap (by kernel_rfl) (by kernel_rfl) ?_
  repeat (go_big_quiet_step ((first|(go_at_call 96;exact az (kZ _ _ _ ‹_›))|(go_at_call 97;exact az (kY _ _ _ ‹_›))|(go_at_call 98;exact az (aP _ _ _ _ _ ‹_›))|(go_at_call 99;exact aq (ld _ _ _ _ _ _ (HR.o _).b (HR.o _).c HS.o.b HS.o.c ‹_›)))))
  refine aai ?_;rintro _ ⟨y,rfl⟩;go_wp2;go_ret;exact ⟨by rw[cB.o];rfl,y.ok⟩
 |true=>
 cases h4:(cd a.base&&bJ a.av)with
 |false=>
  have cB:=I (DG h4);refine aL λx0=>?_;go_enter func37,ntmps37;go_wp2_with (fail);refine ap (by kernel_rfl) (by kernel_rfl) ?_
  repeat (go_big_quiet_step ((first|(go_at_call 96;exact az (kZ _ _ _ ‹_›))|(go_at_call 97;exact az (kY _ _ _ ‹_›))|(go_at_call 98;exact az (aP _ _ _ _ _ ‹_›))|(go_at_call 99;exact aq (ld _ _ _ _ _ _ (HR.o _).b (HR.o _).c HS.o.b HS.o.c ‹_›)))))
  refine aai ?_;rintro _ ⟨y,rfl⟩;go_wp2;go_ret;exact ⟨by rw[cB.o];rfl,y.ok⟩
 |true=>
 by_cases h5:a.ao.length<=6
 case neg=>
  have h6:decide ((6:Int)<(a.ao.length:Int))=true:=by simp;omega
  have h7:decide (6<a.ao.length)=true:=by simp;omega
  have cB:=I (ik (a:=a) (by unfold gS;simp[h5]));clear h5;refine aL λx0=>?_;go_enter func37,ntmps37;go_wp2_with (fail);refine ap (by kernel_rfl) (by kernel_rfl) ?_
  repeat (go_big_quiet_step ((first|(go_at_call 96;exact az (kZ _ _ _ ‹_›))|(go_at_call 97;exact az (kY _ _ _ ‹_›))|(go_at_call 98;exact az (aP _ _ _ _ _ ‹_›))|(go_at_call 99;exact aq (ld _ _ _ _ _ _ (HR.o _).b (HR.o _).c HS.o.b HS.o.c ‹_›)))))
  refine aai ?_;rintro _ ⟨y,rfl⟩;go_wp2;go_ret;exact ⟨by rw[cB.o];rfl,y.ok⟩
 have h6:decide ((6:Int)<(a.ao.length:Int))=false:=by simp;omega
 have h7:decide (6<a.ao.length)=false:=by simp;omega
 have Jg:ag (gS a=true):=I (by unfold gS;simp[h1,h2,h3,h5]);obtain ⟨kM,fD⟩:=dS.1 h3;obtain ⟨h8,h9⟩:=Bool.and_eq_true_iff.1 h4;have lE:=I h8;have CF:=I h9;have rj:=I (λy:ar w=>mb a.base a.av y.val _ _ (HR.o y).b (HR.o y).c h8 h9);refine aL λx0=>?_;go_enter func37,ntmps37;go_wp2_with (fail);refine ap (by kernel_rfl) (by kernel_rfl) ?_
 repeat (go_big_quiet_step ((first|(go_at_call 96;exact az (kZ _ _ _ ‹_›))|(go_at_call 97;exact az (kY _ _ _ ‹_›))|(go_at_call 98;exact az (aP _ _ _ _ _ ‹_›))|(go_at_call 99;exact aq (ld _ _ _ _ _ _ (HR.o _).b (HR.o _).c HS.o.b HS.o.c ‹_›)))))
 refine aai ?_;rintro _ ⟨y,rfl⟩;clear h1 h2 h3 h4 h6 h7 h8 h9;go_wp2;go_loopw [4] (λi wr=> ∃(k:Nat) (x:ar w),k<=a.af.length/\i= .int .i64 (k:Int)/\cE k (vJ a.af a.af.length)=true/\wr=x.val) (λi _=>a.af.length-(intOf i).toNat);case atStart=>exact ⟨0,y,aaf _,rfl,rfl,rfl⟩
 case round=>
  obtain ⟨k,x,hk,rfl,dn,rfl⟩:=hrel;have HA:=I dn;clear dn;by_cases aI:k<a.af.length
  ·obtain ⟨A',c',hv,_,_,cn⟩:=fY (HR.o x).t;injection hv with e1 e2 e3
   subst e1;obtain ⟨b2,off,rfl,cL,aC⟩:=cn (by omega);obtain ⟨A1,c1,k9,_,hI⟩:=aC k _ (aag aI);have HI:=I hI;have gN:=cR k (vJ a.af a.af.length);rw[HA.o,aaD,rR aI]at gN;have gN:=I gN;have Gs:=I (λh=>rU (a:=a) (rS aI h));clear aC cn hI e2 e3;generalize a.af[k]=l at*;go_wp2_with (fail);refine (aq (uW l (k:Int) (a.af.length:Int) _ _ HI.o (by omega) (by omega))).mono ?_;rintro e _ ⟨rfl,u,rfl⟩;cases hz:cF l (k:Int) a.af.length with
   |false=>
    have cB:=I (Gs.o hz);clear hz k9;go_wp2;go_ret;exact ⟨by rw[cB.o];rfl,u.ok⟩
   |true=>
    have HN:=I (gN.o.trans hz);clear hz k9;go_wp2;go_roundw;case rel=>exact ⟨k+1,u,by omega,by go_num,HN.o,rfl⟩
    case measure=>simp[intOf];omega
  have eA: ¬(k:Int)<(a.af.length:Int):=by omega
  have di:k=a.af.length:=by omega
  have sI:ag (ij a.af=true):=I (by unfold ij;rw[<-di];rw[<-di]at HA;exact HA.o);clear di aI;go_wp2;go_loopw [5,6] (λi _ wr=> ∃(k:Nat) (x:ar w),k<=a.ao.length/\i= .int .i64 (k:Int)/\cE k (ko a.ao a.day a.af.length)=true/\wr=x.val) (λi _ _=>a.ao.length-(intOf i).toNat);case atStart=>exact ⟨0,x,aaf _,rfl,rfl,rfl⟩
  case round=>
   obtain ⟨k,x,hk,rfl,dn,rfl⟩:=hrel;have HA:=I dn;clear dn;by_cases aI:k<a.ao.length
   ·obtain ⟨b2,off,rfl,cL,aC⟩:=Ut.o (by omega);have Q0:=I aC;obtain ⟨A1,c1,A2,c2,hP⟩:=aC k _ (aag aI);have HP:=I (λy:ar w=>hP.on y.ok y.ok.size cL);have I7:=I (λy:ar w=>aar cL y.ok.size);have uK:=I (rT (L:=a.ao) (day:=a.day) (n:=a.af.length) aI);have gN:=cR k (ko a.ao a.day a.af.length);rw[HA.o,aaD]at gN;have gN:=I gN;have Gs:=I (λh=>vS (a:=a) (vQ aI h));have gU:=HS.o.m _ (aax aI);have t1:=λy:ar w=>y.cell hP.k0;clear aC hP;generalize a.ao[k]=m at*;cases hz:dD m a.day a.af.length with
    |false=>
     have cB:=I (Gs.o (uK.o.trans (by rw[hz];rfl)));go_wp2_with (fail);refine ap (by kernel_rfl) (by kernel_rfl) ?_
     repeat (go_big_quiet_step ((first|(go_at_call 101;exact aq (BC m _ _ _ _ _ _ _ _ _ _ (HP.o _) (I7.o _) gU (by omega) (by omega) ‹_›)))))
     refine aai ?_;rintro _ ⟨u,rfl⟩;go_wp2;go_ret;exact ⟨by rw[cB.o];rfl,u.ok⟩
    |true=>
     go_wp2_with (fail);refine ap (by kernel_rfl) (by kernel_rfl) ?_
     repeat (go_big_quiet_step ((first|(go_at_call 101;exact aq (BC m _ _ _ _ _ _ _ _ _ _ (HP.o _) (I7.o _) gU (by omega) (by omega) ‹_›)))))
     refine aai ?_;rintro _ ⟨u,rfl⟩;rw[hz,aaD]at uK;clear hz;go_wp2;go_loopw [6] (λi wr=> ∃(j:Nat) (x:ar w),j<=k/\i= .int .i64 (j:Int)/\(a.ao.take j).any (λo=>o.al.toList==m.al.toList)=false/\wr=x.val) (λi _=>k-(intOf i).toNat);case atStart=>exact ⟨0,u,aaf _,rfl,rfl,rfl⟩
     case round=>
      obtain ⟨j,x,hj,rfl,Q1,rfl⟩:=hrel;have Q2:=I Q1;clear Q1;by_cases KI:j<k
      ·obtain ⟨B1,d1,B2,d2,hQ⟩:=Q0.o j _ (aag (by omega));have t2:=λy:ar w=>y.cell hQ.k0
       have SK:ag ((a.ao.take (j+1)).any (λo=>o.al.toList==m.al.toList)=(a.ao[j].al.toList==m.al.toList)):=I (by
        rw[aaG (by omega),List.any_append,Q2.o];simp)
       have Yu:ag ((a.ao[j].al.toList==m.al.toList)=true->(a.ao.take k).any (λo=>o.al.toList==m.al.toList)=true):=I (λh=>List.any_eq_true.2 ⟨a.ao[j],List.mem_take_iff_getElem.2 ⟨j,by omega,rfl⟩,h⟩);clear hQ;generalize a.ao[j].al=tj at*;cases he:(tj.toList==m.al.toList)with
       |true=>
        have cB:=I (Gs.o (uK.o.trans (by rw[Yu.o he];rfl)));go_wp2_with (fail);refine ap (by kernel_rfl) (by kernel_rfl) ?_
        repeat (go_big_quiet_step (fail))
        refine aai ?_;rintro _ ⟨v,rfl⟩;go_wp2;go_ret;exact ⟨by rw[cB.o];rfl,v.ok⟩
       |false=>
        have HN:=I (SK.o.trans he);go_wp2_with (fail);refine ap (by kernel_rfl) (by kernel_rfl) ?_
        repeat (go_big_quiet_step (fail))
        refine aai ?_;rintro _ ⟨v,rfl⟩;go_wp2;go_roundw;case rel=>exact ⟨j+1,v,by omega,by go_num,HN.o,rfl⟩
        case measure=>simp[intOf];omega
      have sF:j=k:=by omega
      have eA: ¬(j:Int)<(k:Int):=by omega
      have HN:ag (cE (k+1) (ko a.ao a.day a.af.length)=true):=I (by rw[gN.o,uK.o,<-sF,Q2.o];rfl);clear sF;go_wp2;go_roundw;case rel=>exact ⟨k+1,x,by omega,by go_num,HN.o,rfl⟩
      case measure=>simp[intOf];omega
   have eA: ¬(k:Int)<(a.ao.length:Int):=by omega
   have di:k=a.ao.length:=by omega
   have Ol:ag (kE a.ao a.day a.af.length=true):=I (by unfold kE;rw[<-di];exact HA.o);have H8:ag (∀n:Nat,(n=0↔eJ a.base a.av)->fI a=((n:Int)==0)):=I (λn hn=>yw Jg.o sI.o Ol.o lE.o CF.o hn);have u3:=z3 x;have u4:=z4 x;have u5:=z5 x;have bx:=x.ok;have gf:ag (∀W,Below w.heap.size w W->Calls prog 102 #[.slice Ab a.base.length cb,.slice Ac a.av.length cc] W (ff a.base a.av W)):=I (λW hb=>rj.o ⟨W,hb⟩);obtain ⟨W,hW⟩: ∃W,W=x.val:=⟨_,rfl⟩
   rw[<-hW]at u3 u4 u5 bx⊢;clear di aI z0 z1 z2 z3 z4 z5 hW;go_wp2_with (fail)
   go_region_held3 (λw'=>w'.cell? ⟨b,o+3,none⟩=some (.slice Ab a.base.length cb)/\w'.cell? ⟨b,o+4,none⟩=some (.slice Ac a.av.length cc)/\Below w.heap.size w w')
    (first|exact ⟨u3,u4,bx.drew⟩|exact ⟨u3,u4,bx⟩|exact Jf ‹_› ‹_› |exact Jf ⟨u3,u4,bx⟩ ((aae _ _).drew)|exact Jf ‹_› ((aae _ _).drew))
    (first|(go_at_call 102;refine (gf.o _ (And.right (And.right ‹_›))).mono ?_;rintro e w' ⟨g,cap,n,rfl,kM,rq,hb⟩))
   all_goals
    have HF:=I (H8.o n rq);go_wp2;go_ret;exact ⟨by rw[HF.o];rfl,by first|exact bx.drew.trans (hb.mono bx.drew.size)|exact Below.trans (And.right (And.right ‹_›)) (hb.mono (Below.size (And.right (And.right ‹_›))))⟩
theorem LC (a:cp) (x:cS) (b o:Nat) (w:World)
 (k0:w.cell? ⟨b,o,none⟩=some (.int .i64 a.day)) (k1:w.cell? ⟨b,o+1,none⟩=some (.int .i64 a.rule)) (k2:w.cell? ⟨b,o+2,none⟩=some x.t) (k3:w.cell? ⟨b,o+3,none⟩=some x.b) (k4:w.cell? ⟨b,o+4,none⟩=some x.c) (k5:w.cell? ⟨b,o+5,none⟩=some x.m)
 (hR:jv w w.heap.size x a) (hs:ua a):Calls prog 37 #[.pointer (some ⟨b,o,none⟩)] w (bT (.bool (fI a)) w):=by
 obtain ⟨At,ct,Ab,cb,Ac,cc,Am,cm,rfl⟩:=hR.slices;exact Oj a At ct Ab cb Ac cc Am cm b o w k0 k1 k2 k3 k4 k5 hR hs
theorem yx (n:Int) (w:World):Calls prog 39 #[.int .i64 n] w (f' (.bool (dO n 0 2)) w):=by
 have H:=I (lZ n 0 2 w);generalize dO n 0 2=r at H⊢;go_enter func39,ntmps39;go_wp2_with (fail);refine (H.o).mono ?_;rintro e w1 ⟨rfl,m,rfl⟩;go_wp2;go_ret;exact ⟨rfl,m,rfl⟩
theorem mJ (n:Int) (w:World) (r:Bool) (h:dO n 0 2=r):Calls prog 39 #[.int .i64 n] w (f' (.bool r) w):=h▸yx n w
theorem mK (n:Int) (w:World) (r:Bool) (h:dO n 0 999=r):Calls prog 38 #[.int .i64 n] w (f' (.bool r) w):=h▸Ba n w
theorem du (s:ByteArray) (w:World) (r:Bool) (hs:s.size<=maxLen) (h:dU s.toList=r):Calls prog 104 #[.string s] w (f' (.bool r) w):=h▸sP s w hs
theorem ix (es:List aV) (w:World) (v:Value) (aj start aB:Int) (r:Bool) (h:bg w w.heap.size v es) (hs:bS es) (hr:iP es aj start aB=r):
 Calls prog 105 #[v,.int .i64 aj,.int .i64 start,.int .i64 aB] w (bT (.bool r) w):=hr▸xW es w v aj start aB h hs
theorem gE (vs:List Int) (n:Int) (A:Option Addr) (c:Nat) (w:World) (r:Bool) (h:Ints w w.heap.size (.slice A vs.length c) vs) (hr:(((vs.length:Int)==n)&&fZ vs)=r):
 Calls prog 106 #[.slice A vs.length c,.int .i64 n,.func (.func 107) #[] #[]] w (bT (.bool r) w):=hr▸DF vs n A c w h
theorem nF (m:gu) (day n:Int):dD m day n=(dU m.al.toList&&dO m.br 0 (n-1)&&iP m.pat m.aj m.a8 m.fin&&(((m.ax.length:Int)==n)&&fZ m.ax)&&dO m.result 0 4&&((m.result==0)==decide (day<m.aj))):=by
 unfold dD;rw[tP,ib];simp only[Bool.and_assoc]
theorem Jh (a:cp) (At:Option Addr) (ct:Nat) (Ab:Option Addr) (cb:Nat) (Ac:Option Addr) (cc:Nat) (Am:Option Addr) (cm:Nat) (m:gu) (A1:Option Addr) (c1:Nat) (A2:Option Addr) (c2:Nat) (w:World) (hE:bg w w.heap.size (.slice A1 m.pat.length c1) m.pat) (hI:Ints w w.heap.size (.slice A2 m.ax.length c2) m.ax) (hs:m.al.size<=maxLen/\bS m.pat) (n1:1<=a.af.length) (n2:a.af.length<=1000):
 Calls prog 42 #[.agg #[.int .i64 a.day,.int .i64 a.rule,.slice At a.af.length ct,.slice Ab a.base.length cb,.slice Ac a.av.length cc,.slice Am a.ao.length cm],.agg #[.string m.al,.int .i64 m.br,.slice A1 m.pat.length c1,.int .i64 m.a8,.int .i64 m.fin,.int .i64 m.aj,.slice A2 m.ax.length c2,.int .i64 m.result]] w (bT (.bool (dD m a.day a.af.length)) w):=by
 obtain ⟨W,hW⟩: ∃W:World,W=(w.alloc (.cells #[.int .i64 a.day,.int .i64 a.rule,.slice At a.af.length ct,.slice Ab a.base.length cb,.slice Ac a.av.length cc,.slice Am a.ao.length cm] 29)).alloc (.cells #[.string m.al,.int .i64 m.br,.slice A1 m.pat.length c1,.int .i64 m.a8,.int .i64 m.fin,.int .i64 m.aj,.slice A2 m.ax.length c2,.int .i64 m.result] 35):=⟨_,rfl⟩
 have bW:Below w.heap.size w W:=by rw[hW];exact ((aae _ _).alloc (aad _) _).alloc (by simp) _
 have a1:Row W w.heap.size [.int .i64 a.day,.int .i64 a.rule,.slice At a.af.length ct,.slice Ab a.base.length cb,.slice Ac a.av.length cc,.slice Am a.ao.length cm]:=by rw[hW];exact (Row.new w _ _).below ((aae _ _).alloc (aad _) _) (by simp)
 have a2:Row W (w.heap.size+1) [.string m.al,.int .i64 m.br,.slice A1 m.pat.length c1,.int .i64 m.a8,.int .i64 m.fin,.int .i64 m.aj,.slice A2 m.ax.length c2,.int .i64 m.result]:=by rw[hW];simpa using Row.new (w.alloc (.cells #[.int .i64 a.day,.int .i64 a.rule,.slice At a.af.length ct,.slice Ab a.base.length cb,.slice Ac a.av.length cc,.slice Am a.ao.length cm] 29)) #[.string m.al,.int .i64 m.br,.slice A1 m.pat.length c1,.int .i64 m.a8,.int .i64 m.fin,.int .i64 m.aj,.slice A2 m.ax.length c2,.int .i64 m.result] 35
 have z0:=λy:ar W=>y.cell (a1.cell 0 _ rfl);have z2:=λy:ar W=>y.cell (a1.cell 2 _ rfl);have t0:=λy:ar W=>y.cell (a2.cell 0 _ rfl);have t1:=λy:ar W=>y.cell (a2.cell 1 _ rfl);have t2:=λy:ar W=>y.cell (a2.cell 2 _ rfl);have t3:=λy:ar W=>y.cell (a2.cell 3 _ rfl);have t4:=λy:ar W=>y.cell (a2.cell 4 _ rfl);have t5:=λy:ar W=>y.cell (a2.cell 5 _ rfl);have t6:=λy:ar W=>y.cell (a2.cell 6 _ rfl);have t7:=λy:ar W=>y.cell (a2.cell 7 _ rfl);have HE:=I (λy:ar W=>hE.on (Pl.stays _) (aJ bW y) (aJ bW y).size);have HI:=I (λy:ar W=>hI.on (Pl.stays _) (aJ bW y) (aJ bW y).size);have gQ:=I hs.1;have gU:=hs.2;have HW:=I hW;clear hE hI hs hW a1 a2;cases h1:dU m.al.toList with
 |false=>
  have HB:ag (dD m a.day a.af.length=false):=I (by rw[nF,h1];rfl);go_enter func42,ntmps42;go_wp2_with (fail);rw[<-HW.o];obtain ⟨x0,dp⟩: ∃y:ar W,y.val=W:=⟨⟨W,aae _ _⟩,rfl⟩
  rw[<-dp];clear dp;refine (az (du _ _ _ gQ.o ‹_›)).mono ?_;rintro e _ ⟨rfl,y,rfl⟩;go_wp2_with (first|(go_at_call 104;refine (az (du _ _ _ gQ.o ‹_›)).mono ?_;rintro e _ ⟨rfl,y,rfl⟩)|(go_at_call 40;refine (az (dj _ _ _ _ _ ‹_›)).mono ?_;rintro e _ ⟨rfl,y,rfl⟩)|(go_at_call 105;refine (aq (ix _ _ _ _ _ _ _ (HE.o _) gU ‹_›)).mono ?_;rintro e _ ⟨rfl,y,rfl⟩)|(go_at_call 106;refine (aq (gE _ _ _ _ _ _ (HI.o _) ‹_›)).mono ?_;rintro e _ ⟨rfl,y,rfl⟩));go_ret;exact ⟨by rw[HB.o];rfl,aJ bW ‹_›⟩
 |true=>
 cases h2:dO m.br 0 ((a.af.length:Int)-1)with
 |false=>
  have HB:ag (dD m a.day a.af.length=false):=I (by rw[nF,h1,h2];rfl);go_enter func42,ntmps42;go_wp2_with (fail);rw[<-HW.o];obtain ⟨x0,dp⟩: ∃y:ar W,y.val=W:=⟨⟨W,aae _ _⟩,rfl⟩
  rw[<-dp];clear dp;refine (az (du _ _ _ gQ.o ‹_›)).mono ?_;rintro e _ ⟨rfl,y,rfl⟩;go_wp2_with (first|(go_at_call 104;refine (az (du _ _ _ gQ.o ‹_›)).mono ?_;rintro e _ ⟨rfl,y,rfl⟩)|(go_at_call 40;refine (az (dj _ _ _ _ _ ‹_›)).mono ?_;rintro e _ ⟨rfl,y,rfl⟩)|(go_at_call 105;refine (aq (ix _ _ _ _ _ _ _ (HE.o _) gU ‹_›)).mono ?_;rintro e _ ⟨rfl,y,rfl⟩)|(go_at_call 106;refine (aq (gE _ _ _ _ _ _ (HI.o _) ‹_›)).mono ?_;rintro e _ ⟨rfl,y,rfl⟩));go_ret;exact ⟨by rw[HB.o];rfl,aJ bW ‹_›⟩
 |true=>
 cases h3:iP m.pat m.aj m.a8 m.fin with
 |false=>
  have HB:ag (dD m a.day a.af.length=false):=I (by rw[nF,h1,h2,h3];rfl);go_enter func42,ntmps42;go_wp2_with (fail);rw[<-HW.o];obtain ⟨x0,dp⟩: ∃y:ar W,y.val=W:=⟨⟨W,aae _ _⟩,rfl⟩
  rw[<-dp];clear dp;refine (az (du _ _ _ gQ.o ‹_›)).mono ?_;rintro e _ ⟨rfl,y,rfl⟩;go_wp2_with (first|(go_at_call 104;refine (az (du _ _ _ gQ.o ‹_›)).mono ?_;rintro e _ ⟨rfl,y,rfl⟩)|(go_at_call 40;refine (az (dj _ _ _ _ _ ‹_›)).mono ?_;rintro e _ ⟨rfl,y,rfl⟩)|(go_at_call 105;refine (aq (ix _ _ _ _ _ _ _ (HE.o _) gU ‹_›)).mono ?_;rintro e _ ⟨rfl,y,rfl⟩)|(go_at_call 106;refine (aq (gE _ _ _ _ _ _ (HI.o _) ‹_›)).mono ?_;rintro e _ ⟨rfl,y,rfl⟩));go_ret;exact ⟨by rw[HB.o];rfl,aJ bW ‹_›⟩
 |true=>
 cases h4:(((m.ax.length:Int)==(a.af.length:Int))&&fZ m.ax)with
 |false=>
  have HB:ag (dD m a.day a.af.length=false):=I (by rw[nF,h1,h2,h3,h4];rfl);go_enter func42,ntmps42;go_wp2_with (fail);rw[<-HW.o];obtain ⟨x0,dp⟩: ∃y:ar W,y.val=W:=⟨⟨W,aae _ _⟩,rfl⟩
  rw[<-dp];clear dp;refine (az (du _ _ _ gQ.o ‹_›)).mono ?_;rintro e _ ⟨rfl,y,rfl⟩;go_wp2_with (first|(go_at_call 104;refine (az (du _ _ _ gQ.o ‹_›)).mono ?_;rintro e _ ⟨rfl,y,rfl⟩)|(go_at_call 40;refine (az (dj _ _ _ _ _ ‹_›)).mono ?_;rintro e _ ⟨rfl,y,rfl⟩)|(go_at_call 105;refine (aq (ix _ _ _ _ _ _ _ (HE.o _) gU ‹_›)).mono ?_;rintro e _ ⟨rfl,y,rfl⟩)|(go_at_call 106;refine (aq (gE _ _ _ _ _ _ (HI.o _) ‹_›)).mono ?_;rintro e _ ⟨rfl,y,rfl⟩));go_ret;exact ⟨by rw[HB.o];rfl,aJ bW ‹_›⟩
 |true=>
 cases h5:dO m.result 0 4 with
 |false=>
  have HB:ag (dD m a.day a.af.length=false):=I (by rw[nF,h1,h2,h3,h4,h5];rfl);go_enter func42,ntmps42;go_wp2_with (fail);rw[<-HW.o];obtain ⟨x0,dp⟩: ∃y:ar W,y.val=W:=⟨⟨W,aae _ _⟩,rfl⟩
  rw[<-dp];clear dp;refine (az (du _ _ _ gQ.o ‹_›)).mono ?_;rintro e _ ⟨rfl,y,rfl⟩;go_wp2_with (first|(go_at_call 104;refine (az (du _ _ _ gQ.o ‹_›)).mono ?_;rintro e _ ⟨rfl,y,rfl⟩)|(go_at_call 40;refine (az (dj _ _ _ _ _ ‹_›)).mono ?_;rintro e _ ⟨rfl,y,rfl⟩)|(go_at_call 105;refine (aq (ix _ _ _ _ _ _ _ (HE.o _) gU ‹_›)).mono ?_;rintro e _ ⟨rfl,y,rfl⟩)|(go_at_call 106;refine (aq (gE _ _ _ _ _ _ (HI.o _) ‹_›)).mono ?_;rintro e _ ⟨rfl,y,rfl⟩));go_ret;exact ⟨by rw[HB.o];rfl,aJ bW ‹_›⟩
 |true=>
 cases h6:(m.result==0)with
 |false=>
  by_cases h7:a.day<m.aj
  ·have h8:decide (a.day<m.aj)=true:=abd h7;have HB:ag (dD m a.day a.af.length=false):=I (by rw[nF,h1,h2,h3,h4,h5,h6,h8];rfl);go_enter func42,ntmps42;go_wp2_with (fail);rw[<-HW.o];obtain ⟨x0,dp⟩: ∃y:ar W,y.val=W:=⟨⟨W,aae _ _⟩,rfl⟩
   rw[<-dp];clear dp;refine (az (du _ _ _ gQ.o ‹_›)).mono ?_;rintro e _ ⟨rfl,y,rfl⟩;go_wp2_with (first|(go_at_call 104;refine (az (du _ _ _ gQ.o ‹_›)).mono ?_;rintro e _ ⟨rfl,y,rfl⟩)|(go_at_call 40;refine (az (dj _ _ _ _ _ ‹_›)).mono ?_;rintro e _ ⟨rfl,y,rfl⟩)|(go_at_call 105;refine (aq (ix _ _ _ _ _ _ _ (HE.o _) gU ‹_›)).mono ?_;rintro e _ ⟨rfl,y,rfl⟩)|(go_at_call 106;refine (aq (gE _ _ _ _ _ _ (HI.o _) ‹_›)).mono ?_;rintro e _ ⟨rfl,y,rfl⟩));go_ret;exact ⟨by rw[HB.o];rfl,aJ bW ‹_›⟩
  have h8:decide (a.day<m.aj)=false:=aba h7;have HB:ag (dD m a.day a.af.length=true):=I (by rw[nF,h1,h2,h3,h4,h5,h6,h8];rfl);go_enter func42,ntmps42;go_wp2_with (fail);rw[<-HW.o];obtain ⟨x0,dp⟩: ∃y:ar W,y.val=W:=⟨⟨W,aae _ _⟩,rfl⟩
  rw[<-dp];clear dp;refine (az (du _ _ _ gQ.o ‹_›)).mono ?_;rintro e _ ⟨rfl,y,rfl⟩;go_wp2_with (first|(go_at_call 104;refine (az (du _ _ _ gQ.o ‹_›)).mono ?_;rintro e _ ⟨rfl,y,rfl⟩)|(go_at_call 40;refine (az (dj _ _ _ _ _ ‹_›)).mono ?_;rintro e _ ⟨rfl,y,rfl⟩)|(go_at_call 105;refine (aq (ix _ _ _ _ _ _ _ (HE.o _) gU ‹_›)).mono ?_;rintro e _ ⟨rfl,y,rfl⟩)|(go_at_call 106;refine (aq (gE _ _ _ _ _ _ (HI.o _) ‹_›)).mono ?_;rintro e _ ⟨rfl,y,rfl⟩));go_ret;exact ⟨by rw[HB.o];rfl,aJ bW ‹_›⟩
 |true=>
  by_cases h7:a.day<m.aj
  ·have h8:decide (a.day<m.aj)=true:=abd h7;have HB:ag (dD m a.day a.af.length=true):=I (by rw[nF,h1,h2,h3,h4,h5,h6,h8];rfl);go_enter func42,ntmps42;go_wp2_with (fail);rw[<-HW.o];obtain ⟨x0,dp⟩: ∃y:ar W,y.val=W:=⟨⟨W,aae _ _⟩,rfl⟩
   rw[<-dp];clear dp;refine (az (du _ _ _ gQ.o ‹_›)).mono ?_;rintro e _ ⟨rfl,y,rfl⟩;go_wp2_with (first|(go_at_call 104;refine (az (du _ _ _ gQ.o ‹_›)).mono ?_;rintro e _ ⟨rfl,y,rfl⟩)|(go_at_call 40;refine (az (dj _ _ _ _ _ ‹_›)).mono ?_;rintro e _ ⟨rfl,y,rfl⟩)|(go_at_call 105;refine (aq (ix _ _ _ _ _ _ _ (HE.o _) gU ‹_›)).mono ?_;rintro e _ ⟨rfl,y,rfl⟩)|(go_at_call 106;refine (aq (gE _ _ _ _ _ _ (HI.o _) ‹_›)).mono ?_;rintro e _ ⟨rfl,y,rfl⟩));go_ret;exact ⟨by rw[HB.o];rfl,aJ bW ‹_›⟩
  have h8:decide (a.day<m.aj)=false:=aba h7;have HB:ag (dD m a.day a.af.length=false):=I (by rw[nF,h1,h2,h3,h4,h5,h6,h8];rfl);go_enter func42,ntmps42;go_wp2_with (fail);rw[<-HW.o];obtain ⟨x0,dp⟩: ∃y:ar W,y.val=W:=⟨⟨W,aae _ _⟩,rfl⟩
  rw[<-dp];clear dp;refine (az (du _ _ _ gQ.o ‹_›)).mono ?_;rintro e _ ⟨rfl,y,rfl⟩;go_wp2_with (first|(go_at_call 104;refine (az (du _ _ _ gQ.o ‹_›)).mono ?_;rintro e _ ⟨rfl,y,rfl⟩)|(go_at_call 40;refine (az (dj _ _ _ _ _ ‹_›)).mono ?_;rintro e _ ⟨rfl,y,rfl⟩)|(go_at_call 105;refine (aq (ix _ _ _ _ _ _ _ (HE.o _) gU ‹_›)).mono ?_;rintro e _ ⟨rfl,y,rfl⟩)|(go_at_call 106;refine (aq (gE _ _ _ _ _ _ (HI.o _) ‹_›)).mono ?_;rintro e _ ⟨rfl,y,rfl⟩));go_ret;exact ⟨by rw[HB.o];rfl,aJ bW ‹_›⟩
theorem nA.take {w:World} {B:Nat} {A:Option Addr} {n c:Nat} {ls:List gu} (h:nA w B (.slice A n c) ls) (k:Nat) (hk:k<=ls.length):nA w B (.slice A k c) (ls.take k):=by
 obtain ⟨L,rfl,h2,h3⟩:=h;rw[aap]at hk;exact ⟨L.take k,by rw[List.map_take],cz.take h2 k hk,λx hx=>h3 x (aby hx)⟩
theorem vU (zs:List Int) (member n:Int) (w:World) (v:Value) (r:Bool) (h:Ints w w.heap.size v zs) (kM: -1000<=n) (rq:n<=1000) (hr:cF zs member n=r):
 Calls prog 41 #[v,.int .i64 member,.int .i64 n] w (f' (.bool r) w):=hr▸nc zs member n w v h kM rq
theorem BD (a:cp) (At:Option Addr) (ct:Nat) (Ab:Option Addr) (cb:Nat) (Ac:Option Addr) (cc:Nat) (Am:Option Addr) (cm:Nat) (m:gu) (A1:Option Addr) (c1:Nat) (A2:Option Addr) (c2:Nat) (w:World) (r:Bool) (hE:bg w w.heap.size (.slice A1 m.pat.length c1) m.pat) (hI:Ints w w.heap.size (.slice A2 m.ax.length c2) m.ax) (hs:m.al.size<=maxLen/\bS m.pat) (n1:1<=a.af.length) (n2:a.af.length<=1000) (hr:dD m a.day a.af.length=r):
 Calls prog 42 #[.agg #[.int .i64 a.day,.int .i64 a.rule,.slice At a.af.length ct,.slice Ab a.base.length cb,.slice Ac a.av.length cc,.slice Am a.ao.length cm],.agg #[.string m.al,.int .i64 m.br,.slice A1 m.pat.length c1,.int .i64 m.a8,.int .i64 m.fin,.int .i64 m.aj,.slice A2 m.ax.length c2,.int .i64 m.result]] w (bT (.bool r) w):=
 hr▸Jh a At ct Ab cb Ac cc Am cm m A1 c1 A2 c2 w hE hI hs n1 n2
theorem DH {a:cp} (h:cd a.base=false):fI a=false:=by unfold fI;rw[h];simp
theorem DI {a:cp} (h:bJ a.av=false):fI a=false:=by unfold fI;rw[h];simp
theorem Gt (a:cp) (At:Option Addr) (ct:Nat) (Ab:Option Addr) (cb:Nat) (Ac:Option Addr) (cc:Nat) (Am:Option Addr) (cm:Nat) (w:World)
 (hR:jv w w.heap.size ⟨.slice At a.af.length ct,.slice Ab a.base.length cb,.slice Ac a.av.length cc,.slice Am a.ao.length cm⟩ a) (hs:ua a):
 Calls prog 10 #[.agg #[.int .i64 a.day,.int .i64 a.rule,.slice At a.af.length ct,.slice Ab a.base.length cb,.slice Ac a.av.length cc,.slice Am a.ao.length cm]] w (bT (.bool (fI a)) w):=by
 obtain ⟨W,hW⟩: ∃W:World,W=w.alloc (.cells #[.int .i64 a.day,.int .i64 a.rule,.slice At a.af.length ct,.slice Ab a.base.length cb,.slice Ac a.av.length cc,.slice Am a.ao.length cm] 29):=⟨_,rfl⟩
 have bW:Below w.heap.size w W:=by rw[hW];exact (aae _ _).alloc (aad _) _
 have a1:Row W w.heap.size [.int .i64 a.day,.int .i64 a.rule,.slice At a.af.length ct,.slice Ab a.base.length cb,.slice Ac a.av.length cc,.slice Am a.ao.length cm]:=by rw[hW];exact Row.new w _ _
 have z0:=λy:ar W=>y.cell (a1.cell 0 _ rfl);have z1:=λy:ar W=>y.cell (a1.cell 1 _ rfl);have z2:=λy:ar W=>y.cell (a1.cell 2 _ rfl);have z3:=λy:ar W=>y.cell (a1.cell 3 _ rfl);have z4:=λy:ar W=>y.cell (a1.cell 4 _ rfl);have z5:=λy:ar W=>y.cell (a1.cell 5 _ rfl);have F7:=hR.on bW bW.size;have HR:=I (F7.km (aad _));have HS:=I hs
 have Ut:ag (0<a.ao.length-> ∃b off,Am=some ⟨b,off,none⟩/\b<W.heap.size/\ ∀(k:Nat) (m:gu),a.ao[k]?=some m-> ∃A1 c1 A2 c2,Bs W W.heap.size b (off+k*8) m A1 c1 A2 c2):=I (by
  obtain ⟨A,c,hv,_,_,h⟩:=fQ F7.m;have hv:Value.slice Am a.ao.length cm= .slice A a.ao.length c:=hv;injection hv with e1 e2 e3
  rw[e1];exact h)
 have Yt:a.af.length<=9223372036854775807:=by obtain ⟨A,c,_,q1,q2,_⟩:=fY hR.t;unfold maxLen at q2;omega
 obtain ⟨KM,nj⟩:a.ao.length<=cm/\cm<=9223372036854775807:=by
  obtain ⟨A,c,hv,q1,q2,_⟩:=fQ hR.m;have hv:Value.slice Am a.ao.length cm= .slice A a.ao.length c:=hv;injection hv with e1 e2 e3
  unfold maxLen at q2;omega
 have HW:=I hW;clear hR hs a1 F7 hW;cases h1:dO a.day 0 999 with
 |false=>
  have cB:=I (ik (a:=a) (by unfold gS;rw[h1];rfl));go_enter func10,ntmps10;go_wp2_with (fail);rw[<-HW.o];obtain ⟨x0,dp⟩: ∃y:ar W,y.val=W:=⟨⟨W,aae _ _⟩,rfl⟩
  rw[<-dp];clear dp;refine (az (mK _ _ _ ‹_›)).mono ?_;rintro e _ ⟨rfl,y,rfl⟩;go_wp2_with (first|(go_at_call 39;refine (az (mJ _ _ _ ‹_›)).mono ?_;rintro e _ ⟨rfl,y,rfl⟩)|(go_at_call 40;refine (az (dj _ _ _ _ _ ‹_›)).mono ?_;rintro e _ ⟨rfl,y,rfl⟩));go_ret;exact ⟨by rw[cB.o];rfl,aJ bW ‹_›⟩
 |true=>
 cases h2:dO a.rule 0 2 with
 |false=>
  have cB:=I (ik (a:=a) (by unfold gS;rw[h2];simp));go_enter func10,ntmps10;go_wp2_with (fail);rw[<-HW.o];obtain ⟨x0,dp⟩: ∃y:ar W,y.val=W:=⟨⟨W,aae _ _⟩,rfl⟩
  rw[<-dp];clear dp;refine (az (mK _ _ _ ‹_›)).mono ?_;rintro e _ ⟨rfl,y,rfl⟩;go_wp2_with (first|(go_at_call 39;refine (az (mJ _ _ _ ‹_›)).mono ?_;rintro e _ ⟨rfl,y,rfl⟩)|(go_at_call 40;refine (az (dj _ _ _ _ _ ‹_›)).mono ?_;rintro e _ ⟨rfl,y,rfl⟩));go_ret;exact ⟨by rw[cB.o];rfl,aJ bW ‹_›⟩
 |true=>
 cases h3:dO (a.af.length:Int) 1 12 with
 |false=>
  have cB:=I (ik (a:=a) (by unfold gS;rw[h3];simp));go_enter func10,ntmps10;go_wp2_with (fail);rw[<-HW.o];obtain ⟨x0,dp⟩: ∃y:ar W,y.val=W:=⟨⟨W,aae _ _⟩,rfl⟩
  rw[<-dp];clear dp;refine (az (mK _ _ _ ‹_›)).mono ?_;rintro e _ ⟨rfl,y,rfl⟩;go_wp2_with (first|(go_at_call 39;refine (az (mJ _ _ _ ‹_›)).mono ?_;rintro e _ ⟨rfl,y,rfl⟩)|(go_at_call 40;refine (az (dj _ _ _ _ _ ‹_›)).mono ?_;rintro e _ ⟨rfl,y,rfl⟩));go_ret;exact ⟨by rw[cB.o];rfl,aJ bW ‹_›⟩
 |true=>
 by_cases h5:a.ao.length<=6
 case neg=>
  have h6:decide ((6:Int)<(a.ao.length:Int))=true:=by simp;omega
  have h7:decide (6<a.ao.length)=true:=by simp;omega
  have cB:=I (ik (a:=a) (by unfold gS;simp[h5]));clear h5;go_enter func10,ntmps10;go_wp2_with (fail);rw[<-HW.o];obtain ⟨x0,dp⟩: ∃y:ar W,y.val=W:=⟨⟨W,aae _ _⟩,rfl⟩
  rw[<-dp];clear dp;refine (az (mK _ _ _ ‹_›)).mono ?_;rintro e _ ⟨rfl,y,rfl⟩;go_wp2_with (first|(go_at_call 39;refine (az (mJ _ _ _ ‹_›)).mono ?_;rintro e _ ⟨rfl,y,rfl⟩)|(go_at_call 40;refine (az (dj _ _ _ _ _ ‹_›)).mono ?_;rintro e _ ⟨rfl,y,rfl⟩));go_ret;exact ⟨by rw[cB.o];rfl,aJ bW ‹_›⟩
 have h6:decide ((6:Int)<(a.ao.length:Int))=false:=by simp;omega
 have h7:decide (6<a.ao.length)=false:=by simp;omega
 have Jg:ag (gS a=true):=I (by unfold gS;simp[h1,h2,h3,h5]);obtain ⟨kM,fD⟩:=dS.1 h3;go_enter func10,ntmps10;go_wp2_with (fail);rw[<-HW.o];obtain ⟨x0,dp⟩: ∃y:ar W,y.val=W:=⟨⟨W,aae _ _⟩,rfl⟩
 rw[<-dp];clear dp;refine (az (mK _ _ _ ‹_›)).mono ?_;rintro e _ ⟨rfl,y1,rfl⟩;go_wp2_with (fail);refine (az (mJ _ _ _ ‹_›)).mono ?_;rintro e _ ⟨rfl,y2,rfl⟩;go_wp2_with (fail);refine (az (dj _ _ _ _ _ ‹_›)).mono ?_;rintro e _ ⟨rfl,y3,rfl⟩;clear h1 h2 h3;go_wp2;go_loopw [3,4,33] (λ_ _ i wr=> ∃(k:Nat) (x:ar W),k<=a.af.length/\i= .int .i64 (k:Int)/\cE k (vJ a.af a.af.length)=true/\wr=x.val) (λ_ _ i _=>a.af.length-(intOf i).toNat);case atStart=>exact ⟨0,y3,aaf _,rfl,rfl,rfl⟩
 case round=>
  obtain ⟨k,x,hk,rfl,dn,rfl⟩:=hrel;have HA:=I dn;clear dn;by_cases aI:k<a.af.length
  ·obtain ⟨A',c',hv,_,_,cn⟩:=fY (HR.o x).t;injection hv with e1 e2 e3
   subst e1;obtain ⟨b2,off,rfl,cL,aC⟩:=cn (by omega);obtain ⟨A1,c1,k9,_,hI⟩:=aC k _ (aag aI);have HI:=I hI;have gN:=cR k (vJ a.af a.af.length);rw[HA.o,aaD,rR aI]at gN;have gN:=I gN;have Gs:=I (λh=>rU (a:=a) (rS aI h));clear aC cn hI e2 e3;generalize a.af[k]=l at*;cases hz:cF l (k:Int) a.af.length with
   |false=>
    have cB:=I (Gs.o hz);go_wp2_with (fail);refine (az (vU l (k:Int) (a.af.length:Int) _ _ _ HI.o (by omega) (by omega) hz)).mono ?_;rintro e _ ⟨rfl,u,rfl⟩;clear hz k9;go_wp2;go_ret;exact ⟨by rw[cB.o];rfl,aJ bW u⟩
   |true=>
    have HN:=I (gN.o.trans hz);go_wp2_with (fail);refine (az (vU l (k:Int) (a.af.length:Int) _ _ _ HI.o (by omega) (by omega) hz)).mono ?_;rintro e _ ⟨rfl,u,rfl⟩;clear hz k9;go_wp2;go_roundw;case rel=>exact ⟨k+1,u,by omega,by go_num,HN.o,rfl⟩
    case measure=>simp[intOf];omega
  have eA: ¬(k:Int)<(a.af.length:Int):=by omega
  have di:k=a.af.length:=by omega
  have sI:ag (ij a.af=true):=I (by unfold ij;rw[<-di];rw[<-di]at HA;exact HA.o);clear di aI;go_wp2;go_loopw [5,6,49] (λ_ _ i wr=> ∃(k:Nat) (x:ar W),k<=a.ao.length/\i= .int .i64 (k:Int)/\cE k (ko a.ao a.day a.af.length)=true/\wr=x.val) (λ_ _ i _=>a.ao.length-(intOf i).toNat);case atStart=>exact ⟨0,x,aaf _,rfl,rfl,rfl⟩
  case round=>
   obtain ⟨k,x,hk,rfl,dn,rfl⟩:=hrel;have HA:=I dn;clear dn;by_cases aI:k<a.ao.length
   ·obtain ⟨b2,off,rfl,cL,aC⟩:=Ut.o (by omega);obtain ⟨A1,c1,A2,c2,hP⟩:=aC k _ (aag aI);have Q3:=x.cell hP.k0;have Uu:=x.cell hP.k1;have Yv:=x.cell hP.k2;have Yw:=x.cell hP.k3;have Yx:=x.cell hP.k4;have Yy:=x.cell hP.k5;have Yz:=x.cell hP.k6;have YA:=x.cell hP.k7;have HP:=I (λy:ar W=>hP.on y.ok y.ok.size cL);have uK:=I (rT (L:=a.ao) (day:=a.day) (n:=a.af.length) aI);have gN:=cR k (ko a.ao a.day a.af.length);rw[HA.o,aaD]at gN;have gN:=I gN;have Gs:=I (λh=>vS (a:=a) (vQ aI h));have gU:=HS.o.m _ (aax aI);clear aC hP;generalize a.ao[k]=m at*;go_upto_region 12 with (fail)
    obtain ⟨U,hU⟩: ∃U:World,U=x.val.alloc (.cells #[.string m.al,.int .i64 m.br,.slice A1 m.pat.length c1,.int .i64 m.a8,.int .i64 m.fin,.int .i64 m.aj,.slice A2 m.ax.length c2,.int .i64 m.result] 35):=⟨_,rfl⟩
    change Code.wp _ _ _ _ (x.val.alloc (.cells #[.string m.al,.int .i64 m.br,.slice A1 m.pat.length c1,.int .i64 m.a8,.int .i64 m.fin,.int .i64 m.aj,.slice A2 m.ax.length c2,.int .i64 m.result] 35));have bU:Below x.val.heap.size x.val U:=by rw[hU];exact (aae _ _).alloc (aad _) _
    have CH:Below W.heap.size W U:=x.ok.trans (bU.mono x.ok.size);have a2:Row U x.val.heap.size [.string m.al,.int .i64 m.br,.slice A1 m.pat.length c1,.int .i64 m.a8,.int .i64 m.fin,.int .i64 m.aj,.slice A2 m.ax.length c2,.int .i64 m.result]:=by rw[hU];exact Row.new x.val _ _
    have sU:x.val.heap.size<U.heap.size:=by rw[hU];simp
    rw[<-hU];clear hU Q3 Uu Yv Yw Yx Yy Yz YA;have t0:=λy:ar U=>y.cell (a2.cell 0 _ rfl);have t1:=λy:ar U=>y.cell (a2.cell 1 _ rfl);have t2:=λy:ar U=>y.cell (a2.cell 2 _ rfl);have t3:=λy:ar U=>y.cell (a2.cell 3 _ rfl);have t4:=λy:ar U=>y.cell (a2.cell 4 _ rfl);have t5:=λy:ar U=>y.cell (a2.cell 5 _ rfl);have t6:=λy:ar U=>y.cell (a2.cell 6 _ rfl);have t7:=λy:ar U=>y.cell (a2.cell 7 _ rfl);have Uv:=I (λy:ar U=>(⟨⟨y.val,aJ CH y⟩,rfl⟩: ∃t:ar W,t.val=y.val));have w0:=λy:ar U=>(show y.val.cell? ⟨w.heap.size,0,none⟩=some (.int .i64 a.day)from z0 ⟨y.val,aJ CH y⟩);have w1:=λy:ar U=>(show y.val.cell? ⟨w.heap.size,1,none⟩=some (.int .i64 a.rule)from z1 ⟨y.val,aJ CH y⟩);have w2:=λy:ar U=>(show y.val.cell? ⟨w.heap.size,2,none⟩=some (.slice At a.af.length ct)from z2 ⟨y.val,aJ CH y⟩);have w3:=λy:ar U=>(show y.val.cell? ⟨w.heap.size,3,none⟩=some (.slice Ab a.base.length cb)from z3 ⟨y.val,aJ CH y⟩);have w4:=λy:ar U=>(show y.val.cell? ⟨w.heap.size,4,none⟩=some (.slice Ac a.av.length cc)from z4 ⟨y.val,aJ CH y⟩);have w5:=λy:ar U=>(show y.val.cell? ⟨w.heap.size,5,none⟩=some (.slice (some ⟨b2,off,none⟩) a.ao.length cm)from z5 ⟨y.val,aJ CH y⟩);have S2:=I (λy:ar U=>HP.o ⟨y.val,aJ CH y⟩);have YB:=I (λy:ar U=>(HR.o ⟨y.val,aJ CH y⟩).m);have H5:=λy:ar U=>aaL y.val ⟨x.val.heap.size,0,none⟩ (t0 y)
    have Q4:=I (λy:ar U=>xJ (a.ao.take k) y.val (some ⟨b2,off,none⟩) cm (by
     have:=nA.take (YB.o y) k hk
     rwa [show (a.ao.take k).length=k by rw[aao];omega]) 44 #[.pointer (some ⟨x.val.heap.size,0,none⟩)] (λo=>o.al.toList==m.al.toList) (DE m x.val.heap.size y.val (H5 y) (t0 y)) zp)
    rw[show (a.ao.take k).length=k by rw[aao];omega]at Q4;have Sz: ∀(fn:Fn) (first cap:Array Value) (w:World),(Instr.makeFunc fn first cap).run prog w= .ok (.func fn first cap) w:=λ_ _ _ _=>rfl;have rc:(k:Int)<=(cm:Int):=by omega
    have jA:(0:Int)<=(k:Int):=by omega
    obtain ⟨u0,qo⟩: ∃y:ar U,y.val=U:=⟨⟨U,aae _ _⟩,rfl⟩
    rw[<-qo];clear qo a2 bU z0 z1 z2 z3 z4 z5 H5;cases hz:dD m a.day a.af.length with
    |false=>
     have cB:=I (Gs.o (uK.o.trans (by rw[hz];rfl)));go_wp2_with (fail);refine (aq (BD a At ct Ab cb Ac cc _ cm m A1 c1 A2 c2 _ _ (S2.o u0).fF (S2.o u0).ints gU (by omega) (by omega) hz)).mono ?_;rintro e _ ⟨rfl,u1,rfl⟩;go_wp2;go_ret;exact ⟨by rw[cB.o];rfl,aJ (bW.trans (CH.mono bW.size)) u1⟩
    |true=>
     rw[hz,aaD]at uK;go_wp2_with (fail);refine (aq (BD a At ct Ab cb Ac cc _ cm m A1 c1 A2 c2 _ _ (S2.o u0).fF (S2.o u0).ints gU (by omega) (by omega) hz)).mono ?_;rintro e _ ⟨rfl,u1,rfl⟩;clear hz;cases he:((a.ao.take k).any λo=>o.al.toList==m.al.toList)with
     |true=>
      have cB:=I (Gs.o (uK.o.trans (by rw[he];rfl)));rw[he]at Q4;clear he;go_wp2_with (fail);refine (aq (Q4.o u1)).mono ?_;rintro e _ ⟨rfl,u2,rfl⟩;go_wp2;go_ret;exact ⟨by rw[cB.o];rfl,aJ (bW.trans (CH.mono bW.size)) u2⟩
     |false=>
      have HN:ag (cE (k+1) (ko a.ao a.day a.af.length)=true):=I (gN.o.trans (uK.o.trans (by rw[he];rfl)));rw[he]at Q4;clear he;go_wp2_with (fail);refine (aq (Q4.o u1)).mono ?_;rintro e _ ⟨rfl,u2,rfl⟩;obtain ⟨t,ht⟩:=Uv.o u2;have HT:=I ht.symm;go_wp2;go_roundw;case rel=>exact ⟨k+1,t,by omega,by go_num,HN.o,HT.o⟩
      case measure=>simp[intOf];omega
   have eA: ¬(k:Int)<(a.ao.length:Int):=by omega
   have di:k=a.ao.length:=by omega
   have Ol:ag (kE a.ao a.day a.af.length=true):=I (by unfold kE;rw[<-di];exact HA.o);clear di aI;have Ji:=I (λy:ar W=>FJ a.base y.val _ (HR.o y).b HS.o.b);have Jj:=I (λy:ar W=>Gn a.av y.val _ (HR.o y).c HS.o.c);cases h8:cd a.base with
   |false=>
    have cB:=I (DH h8);rw[h8]at Ji;clear h8;go_wp2_with (first|(go_at_call 45;refine (aq (Ji.o _)).mono ?_;rintro e _ ⟨rfl,y,rfl⟩)|(go_at_call 46;refine (aq (Jj.o _)).mono ?_;rintro e _ ⟨rfl,y,rfl⟩));go_ret;exact ⟨by rw[cB.o];rfl,aJ bW ‹_›⟩
   |true=>
   rw[h8]at Ji;cases h9:bJ a.av with
   |false=>
    have cB:=I (DI h9);rw[h9]at Jj;clear h9 h8;go_wp2_with (first|(go_at_call 45;refine (aq (Ji.o _)).mono ?_;rintro e _ ⟨rfl,y,rfl⟩)|(go_at_call 46;refine (aq (Jj.o _)).mono ?_;rintro e _ ⟨rfl,y,rfl⟩));go_ret;exact ⟨by rw[cB.o];rfl,aJ bW ‹_›⟩
   |true=>
    rw[h9]at Jj;have H8:ag (∀n:Nat,(n=0↔eJ a.base a.av)->fI a=((n:Int)==0)):=I (λn hn=>yw Jg.o sI.o Ol.o h8 h9 hn);have rj:=I (λy:ar W=>jK a.base a.av y.val _ _ (HR.o y).b (HR.o y).c h8 h9);clear h8 h9;go_wp2_with (fail);refine (aq (Ji.o x)).mono ?_;rintro e _ ⟨rfl,u1,rfl⟩;go_wp2_with (fail);refine (aq (Jj.o u1)).mono ?_;rintro e _ ⟨rfl,u2,rfl⟩;go_wp2_with (fail);refine ((rj.o u2)).mono ?_;rintro e w9 ⟨g,cap,n,rfl,Q5,rq,wZ⟩;have HF:=I (H8.o n rq);have jQ:=(aJ bW u2).trans (wZ.mono (aJ bW u2).size);clear wZ rq;go_wp2;go_ret;exact ⟨by rw[HF.o];rfl,jQ⟩
theorem DJ (ls:List (List Int)) (v1 v2:Value) (w:World) (h1:kH w w.heap.size v1 ls) (h2:kH w w.heap.size v2 ls):
 Calls prog 73 #[v1,v2] w (bT (.bool true) w):=by
 obtain ⟨A1,c1,rfl,_,m1,g1⟩:=fY h1;obtain ⟨A2,c2,rfl,_,m2,g2⟩:=fY h2;have G1:=I g1;have G2:=I g2;unfold maxLen at m1 m2;have rn:ls.length<=9223372036854775807:=by omega
 clear h1 h2 g1 g2;refine aL λx0=>?_;go_enter func73,ntmps73;go_wp2;go_loopw [5] (λi wr=> ∃(k:Nat) (x:ar w),k<=ls.length/\i= .int .i64 (k:Int)/\wr=x.val) (λi _=>ls.length-(intOf i).toNat);case atStart=>exact ⟨0,x0,aaf _,rfl,rfl⟩
 case round=>
  obtain ⟨k,x,hk,rfl,rfl⟩:=hrel;by_cases aI:k<ls.length
  ·obtain ⟨b,off,rfl,hb,pQ⟩:=G1.o (by omega);obtain ⟨b',xw,rfl,dF,E4⟩:=G2.o (by omega);obtain ⟨B1,d1,c0,_,hI⟩:=pQ k _ (aag aI);obtain ⟨B2,d2,c3,_,hJ⟩:=E4 k _ (aag aI);have z0:=λy:ar w=>y.cell c0;have z1:=λy:ar w=>y.cell c3;have HI:=I (cz.km hI (Pl.stays _) (aad _));have HJ:=I (cz.km hJ (Pl.stays _) (aad _));clear c0 c3 pQ E4 hI hJ;generalize ls[k]=e at*;go_wp2_with (fail);refine ap (by kernel_rfl) (by kernel_rfl) ?_
   repeat (go_big_quiet_step ((first|(go_at_call 135;exact aq (qz e _ _ _ _ _ _ _ (HI.o _) (HJ.o _))))))
   refine aai ?_;rintro _ ⟨y,rfl⟩;go_wp2;go_roundw;case rel=>exact ⟨k+1,y,by omega,by go_num,rfl⟩
   case measure=>simp[intOf];omega
  have eA: ¬(k:Int)<(ls.length:Int):=by omega
  go_wp2;go_ret;exact ⟨rfl,x.ok⟩
theorem Gu (e:bE) (w:World):
 Calls prog 136 #[.agg #[.int .i64 e.id,.string e.text],.agg #[.int .i64 e.id,.string e.text]] w (bT (.bool true) w):=by
 go_enter func136,ntmps136;go_wp2;go_ret;exact ⟨rfl,((aae _ _).alloc (aad _) _).alloc (by simp) _⟩
theorem DK (ls:List bE) (v1 v2:Value) (w:World) (h1:iT w w.heap.size v1 ls) (h2:iT w w.heap.size v2 ls):
 Calls prog 74 #[v1,v2] w (bT (.bool true) w):=by
 obtain ⟨A1,c1,rfl,_,m1,g1⟩:=h1;obtain ⟨A2,c2,rfl,_,m2,g2⟩:=h2;have G1:=I g1;have G2:=I g2;unfold maxLen at m1 m2;have rn:ls.length<=9223372036854775807:=by omega
 clear g1 g2;refine aL λx0=>?_;go_enter func74,ntmps74;go_wp2;go_loopw [5] (λi wr=> ∃(k:Nat) (x:ar w),k<=ls.length/\i= .int .i64 (k:Int)/\wr=x.val) (λi _=>ls.length-(intOf i).toNat);case atStart=>exact ⟨0,x0,aaf _,rfl,rfl⟩
 case round=>
  obtain ⟨k,x,hk,rfl,rfl⟩:=hrel;by_cases aI:k<ls.length
  ·obtain ⟨b,off,rfl,hb,pQ⟩:=G1.o (by omega);obtain ⟨b',xw,rfl,dF,E4⟩:=G2.o (by omega);obtain ⟨c0,Jk⟩:=ke pQ (aag aI);obtain ⟨d0,d1⟩:=ke E4 (aag aI);have z0:=λy:ar w=>y.cell c0;have z1:=λy:ar w=>y.cell Jk;have t0:=λy:ar w=>y.cell d0;have t1:=λy:ar w=>y.cell d1;clear c0 Jk d0 d1 pQ E4;generalize ls[k]=e at*;go_wp2_with (fail);refine ap (by kernel_rfl) (by kernel_rfl) ?_
   repeat (go_big_quiet_step ((first|(go_at_call 136;exact aq (Gu e _)))))
   refine aai ?_;rintro _ ⟨y,rfl⟩;go_wp2;go_roundw;case rel=>exact ⟨k+1,y,by omega,by go_num,rfl⟩
   case measure=>simp[intOf];omega
  have eA: ¬(k:Int)<(ls.length:Int):=by omega
  go_wp2;go_ret;exact ⟨rfl,x.ok⟩
theorem Gv (a:bo) (A1:Option Addr) (c1:Nat) (A2:Option Addr) (c2:Nat) (w:World) (h1:bg w w.heap.size (.slice A1 a.pat.length c1) a.pat) (h2:bg w w.heap.size (.slice A2 a.pat.length c2) a.pat):
 Calls prog 137 #[.agg #[.int .i64 a.a8,.int .i64 a.fin,.slice A1 a.pat.length c1],.agg #[.int .i64 a.a8,.int .i64 a.fin,.slice A2 a.pat.length c2]] w (bT (.bool true) w):=by
 have H:=I (λW (hb:Below w.heap.size w W)=>oE a.pat A1 _ c1 A2 _ c2 W (cz.on h1 (Pl.stays _) hb hb.size) (cz.on h2 (Pl.stays _) hb hb.size));have HB:ag (∀o p,Below w.heap.size w ((w.alloc o).alloc p)):=I (λo p=>((aae _ _).alloc (aad _) o).alloc (by simp) p);clear h1 h2;go_enter func137,ntmps137;go_wp2_with (fail);refine (H.o _ (HB.o _ _)).mono ?_;rintro e w1 ⟨rfl,bw⟩;have j7:=(HB.o (.cells #[.int .i64 a.a8,.int .i64 a.fin,.slice A1 a.pat.length c1] 141) (.cells #[.int .i64 a.a8,.int .i64 a.fin,.slice A2 a.pat.length c2] 141)).trans (bw.mono (HB.o _ _).size);clear bw;go_wp2;go_ret;exact ⟨rfl,j7⟩
theorem DL (ls:List bo) (v1 v2:Value) (w:World) (h1:eE w w.heap.size v1 ls) (h2:eE w w.heap.size v2 ls):
 Calls prog 75 #[v1,v2] w (bT (.bool true) w):=by
 obtain ⟨A1,c1,rfl,_,m1,g1⟩:=dk h1;obtain ⟨A2,c2,rfl,_,m2,g2⟩:=dk h2;have G1:=I g1;have G2:=I g2;unfold maxLen at m1 m2;have rn:ls.length<=9223372036854775807:=by omega
 clear h1 h2 g1 g2;refine aL λx0=>?_;go_enter func75,ntmps75;go_wp2;go_loopw [5] (λi wr=> ∃(k:Nat) (x:ar w),k<=ls.length/\i= .int .i64 (k:Int)/\wr=x.val) (λi _=>ls.length-(intOf i).toNat);case atStart=>exact ⟨0,x0,aaf _,rfl,rfl⟩
 case round=>
  obtain ⟨k,x,hk,rfl,rfl⟩:=hrel;by_cases aI:k<ls.length
  ·obtain ⟨b,off,rfl,hb,pQ⟩:=G1.o (by omega);obtain ⟨b',xw,rfl,dF,E4⟩:=G2.o (by omega);obtain ⟨pv,c0,Jk,Wv,hI⟩:=pQ k _ (aag aI);obtain ⟨qv,d0,d1,d2,hJ⟩:=E4 k _ (aag aI);obtain ⟨B1,e1,rfl,_,_⟩:=bg.sl hI;obtain ⟨B2,e2,rfl,_,_⟩:=bg.sl hJ;have z0:=λy:ar w=>y.cell c0;have z1:=λy:ar w=>y.cell Jk;have z2:=λy:ar w=>y.cell Wv;have t0:=λy:ar w=>y.cell d0;have t1:=λy:ar w=>y.cell d1;have t2:=λy:ar w=>y.cell d2;have HI:=I (cz.km hI (Pl.stays _) (aad _));have HJ:=I (cz.km hJ (Pl.stays _) (aad _));clear c0 Jk Wv d0 d1 d2 pQ E4 hI hJ;generalize ls[k]=e at*;go_wp2_with (fail);refine ap (by kernel_rfl) (by kernel_rfl) ?_
   repeat (go_big_quiet_step ((first|(go_at_call 137;exact aq (Gv e _ _ _ _ _ (HI.o _) (HJ.o _))))))
   refine aai ?_;rintro _ ⟨y,rfl⟩;go_wp2;go_roundw;case rel=>exact ⟨k+1,y,by omega,by go_num,rfl⟩
   case measure=>simp[intOf];omega
  have eA: ¬(k:Int)<(ls.length:Int):=by omega
  go_wp2;go_ret;exact ⟨rfl,x.ok⟩
theorem Gw (m:gu) (A1:Option Addr) (c1:Nat) (A2:Option Addr) (c2:Nat) (A3:Option Addr) (c3:Nat) (A4:Option Addr) (c4:Nat) (w:World) (h1:bg w w.heap.size (.slice A1 m.pat.length c1) m.pat) (h2:Ints w w.heap.size (.slice A2 m.ax.length c2) m.ax) (h3:bg w w.heap.size (.slice A3 m.pat.length c3) m.pat) (h4:Ints w w.heap.size (.slice A4 m.ax.length c4) m.ax):
 Calls prog 138 #[.agg #[.string m.al,.int .i64 m.br,.slice A1 m.pat.length c1,.int .i64 m.a8,.int .i64 m.fin,.int .i64 m.aj,.slice A2 m.ax.length c2,.int .i64 m.result],.agg #[.string m.al,.int .i64 m.br,.slice A3 m.pat.length c3,.int .i64 m.a8,.int .i64 m.fin,.int .i64 m.aj,.slice A4 m.ax.length c4,.int .i64 m.result]] w (bT (.bool true) w):=by
 obtain ⟨W,hW⟩: ∃W:World,W=(w.alloc (.cells #[.string m.al,.int .i64 m.br,.slice A1 m.pat.length c1,.int .i64 m.a8,.int .i64 m.fin,.int .i64 m.aj,.slice A2 m.ax.length c2,.int .i64 m.result] 35)).alloc (.cells #[.string m.al,.int .i64 m.br,.slice A3 m.pat.length c3,.int .i64 m.a8,.int .i64 m.fin,.int .i64 m.aj,.slice A4 m.ax.length c4,.int .i64 m.result] 35):=⟨_,rfl⟩
 have bW:Below w.heap.size w W:=by rw[hW];exact ((aae _ _).alloc (aad _) _).alloc (by simp) _
 have a1:Row W w.heap.size [.string m.al,.int .i64 m.br,.slice A1 m.pat.length c1,.int .i64 m.a8,.int .i64 m.fin,.int .i64 m.aj,.slice A2 m.ax.length c2,.int .i64 m.result]:=by rw[hW];exact (Row.new w _ _).below ((aae _ _).alloc (aad _) _) (by simp)
 have a2:Row W (w.heap.size+1) [.string m.al,.int .i64 m.br,.slice A3 m.pat.length c3,.int .i64 m.a8,.int .i64 m.fin,.int .i64 m.aj,.slice A4 m.ax.length c4,.int .i64 m.result]:=by rw[hW];simpa using Row.new (w.alloc (.cells #[.string m.al,.int .i64 m.br,.slice A1 m.pat.length c1,.int .i64 m.a8,.int .i64 m.fin,.int .i64 m.aj,.slice A2 m.ax.length c2,.int .i64 m.result] 35)) #[.string m.al,.int .i64 m.br,.slice A3 m.pat.length c3,.int .i64 m.a8,.int .i64 m.fin,.int .i64 m.aj,.slice A4 m.ax.length c4,.int .i64 m.result] 35
 have z3:=λy:ar W=>y.cell (a1.cell 3 _ rfl);have z4:=λy:ar W=>y.cell (a1.cell 4 _ rfl);have z5:=λy:ar W=>y.cell (a1.cell 5 _ rfl);have z6:=λy:ar W=>y.cell (a1.cell 6 _ rfl);have z7:=λy:ar W=>y.cell (a1.cell 7 _ rfl);have t3:=λy:ar W=>y.cell (a2.cell 3 _ rfl);have t4:=λy:ar W=>y.cell (a2.cell 4 _ rfl);have t5:=λy:ar W=>y.cell (a2.cell 5 _ rfl);have t6:=λy:ar W=>y.cell (a2.cell 6 _ rfl);have t7:=λy:ar W=>y.cell (a2.cell 7 _ rfl);have H1:=I (λy:ar W=>oE m.pat A1 _ c1 A3 _ c3 y.val (cz.on h1 (Pl.stays _) (aJ bW y) (aJ bW y).size) (cz.on h3 (Pl.stays _) (aJ bW y) (aJ bW y).size));have H2:=I (λy:ar W=>qz m.ax A2 _ c2 A4 _ c4 y.val (cz.on h2 (Pl.stays _) (aJ bW y) (aJ bW y).size) (cz.on h4 (Pl.stays _) (aJ bW y) (aJ bW y).size));have HW:=I hW;clear h1 h2 h3 h4 a1 a2 hW;go_enter func138,ntmps138;go_wp2_with (fail);rw[<-HW.o];obtain ⟨x0,dp⟩: ∃y:ar W,y.val=W:=⟨⟨W,aae _ _⟩,rfl⟩
 rw[<-dp];clear dp;refine (aq (H1.o x0)).mono ?_;rintro e _ ⟨rfl,x1,rfl⟩;go_wp2_with (fail);refine (aq (H2.o x1)).mono ?_;rintro e _ ⟨rfl,x2,rfl⟩;go_wp2;go_ret;exact ⟨rfl,aJ bW x2⟩
theorem DM (ls:List gu) (v1 v2:Value) (w:World) (h1:nA w w.heap.size v1 ls) (h2:nA w w.heap.size v2 ls):
 Calls prog 76 #[v1,v2] w (bT (.bool true) w):=by
 obtain ⟨A1,c1,rfl,_,m1,g1⟩:=fQ h1;obtain ⟨A2,c2,rfl,_,m2,g2⟩:=fQ h2;have G1:=I g1;have G2:=I g2;unfold maxLen at m1 m2;have rn:ls.length<=9223372036854775807:=by omega
 clear h1 h2 g1 g2;refine aL λx0=>?_;go_enter func76,ntmps76;go_wp2;go_loopw [5] (λi wr=> ∃(k:Nat) (x:ar w),k<=ls.length/\i= .int .i64 (k:Int)/\wr=x.val) (λi _=>ls.length-(intOf i).toNat);case atStart=>exact ⟨0,x0,aaf _,rfl,rfl⟩
 case round=>
  obtain ⟨k,x,hk,rfl,rfl⟩:=hrel;by_cases aI:k<ls.length
  ·obtain ⟨b,off,rfl,hb,pQ⟩:=G1.o (by omega);obtain ⟨b',xw,rfl,dF,E4⟩:=G2.o (by omega);obtain ⟨B1,d1,B2,d2,hP⟩:=pQ k _ (aag aI);obtain ⟨B3,d3,B4,d4,hQ⟩:=E4 k _ (aag aI);generalize ls[k]=e at*;have z0:=λy:ar w=>y.cell hP.k0;have z1:=λy:ar w=>y.cell hP.k1;have z2:=λy:ar w=>y.cell hP.k2;have z3:=λy:ar w=>y.cell hP.k3;have z4:=λy:ar w=>y.cell hP.k4;have z5:=λy:ar w=>y.cell hP.k5;have z6:=λy:ar w=>y.cell hP.k6;have z7:=λy:ar w=>y.cell hP.k7;have t0:=λy:ar w=>y.cell hQ.k0;have t1:=λy:ar w=>y.cell hQ.k1;have t2:=λy:ar w=>y.cell hQ.k2;have t3:=λy:ar w=>y.cell hQ.k3;have t4:=λy:ar w=>y.cell hQ.k4;have t5:=λy:ar w=>y.cell hQ.k5;have t6:=λy:ar w=>y.cell hQ.k6;have t7:=λy:ar w=>y.cell hQ.k7;have HP:=I (λy:ar w=>hP.on y.ok y.ok.size hb);have HQ:=I (λy:ar w=>hQ.on y.ok y.ok.size dF);clear hP hQ pQ E4;go_wp2_with (fail);refine ap (by kernel_rfl) (by kernel_rfl) ?_
   repeat (go_big_quiet_step ((first|(go_at_call 138;exact aq (Gw e _ _ _ _ _ _ _ _ _ (HP.o _).fF (HP.o _).ints (HQ.o _).fF (HQ.o _).ints)))))
   refine aai ?_;rintro _ ⟨y,rfl⟩;go_wp2;go_roundw;case rel=>exact ⟨k+1,y,by omega,by go_num,rfl⟩
   case measure=>simp[intOf];omega
  have eA: ¬(k:Int)<(ls.length:Int):=by omega
  go_wp2;go_ret;exact ⟨rfl,x.ok⟩
theorem pU (a:cp) (x y:cS) (w:World) (hx:jv w w.heap.size x a) (hy:jv w w.heap.size y a):
 Calls prog 30 #[eu a x,eu a y] w (bT (.bool true) w):=by
 obtain ⟨A1,c1,A2,c2,A3,c3,A4,c4,rfl⟩:=hx.slices;obtain ⟨B1,d1,B2,d2,B3,d3,B4,d4,rfl⟩:=hy.slices;unfold eu;obtain ⟨W,hW⟩: ∃W:World,W=(w.alloc (.cells #[.int .i64 a.day,.int .i64 a.rule,.slice A1 a.af.length c1,.slice A2 a.base.length c2,.slice A3 a.av.length c3,.slice A4 a.ao.length c4] 29)).alloc (.cells #[.int .i64 a.day,.int .i64 a.rule,.slice B1 a.af.length d1,.slice B2 a.base.length d2,.slice B3 a.av.length d3,.slice B4 a.ao.length d4] 29):=⟨_,rfl⟩
 have bW:Below w.heap.size w W:=by rw[hW];exact ((aae _ _).alloc (aad _) _).alloc (by simp) _
 have a1:Row W w.heap.size [.int .i64 a.day,.int .i64 a.rule,.slice A1 a.af.length c1,.slice A2 a.base.length c2,.slice A3 a.av.length c3,.slice A4 a.ao.length c4]:=by rw[hW];exact (Row.new w _ _).below ((aae _ _).alloc (aad _) _) (by simp)
 have a2:Row W (w.heap.size+1) [.int .i64 a.day,.int .i64 a.rule,.slice B1 a.af.length d1,.slice B2 a.base.length d2,.slice B3 a.av.length d3,.slice B4 a.ao.length d4]:=by rw[hW];simpa using Row.new (w.alloc (.cells #[.int .i64 a.day,.int .i64 a.rule,.slice A1 a.af.length c1,.slice A2 a.base.length c2,.slice A3 a.av.length c3,.slice A4 a.ao.length c4] 29)) #[.int .i64 a.day,.int .i64 a.rule,.slice B1 a.af.length d1,.slice B2 a.base.length d2,.slice B3 a.av.length d3,.slice B4 a.ao.length d4] 29
 have z3:=λy:ar W=>y.cell (a1.cell 3 _ rfl);have z4:=λy:ar W=>y.cell (a1.cell 4 _ rfl);have z5:=λy:ar W=>y.cell (a1.cell 5 _ rfl);have t3:=λy:ar W=>y.cell (a2.cell 3 _ rfl);have t4:=λy:ar W=>y.cell (a2.cell 4 _ rfl);have t5:=λy:ar W=>y.cell (a2.cell 5 _ rfl);have HX:=I (λy:ar W=>hx.on (aJ bW y) (aJ bW y).size);have HY:=I (λy:ar W=>hy.on (aJ bW y) (aJ bW y).size);have HW:=I hW;clear hx hy a1 a2 hW;go_enter func30,ntmps30;go_wp2_with (fail);rw[<-HW.o];obtain ⟨x0,dp⟩: ∃y:ar W,y.val=W:=⟨⟨W,aae _ _⟩,rfl⟩
 rw[<-dp];clear dp;refine (aq (DJ a.af _ _ _ (HX.o x0).t (HY.o x0).t)).mono ?_;rintro e _ ⟨rfl,x1,rfl⟩;go_wp2_with (fail);refine (aq (DK a.base _ _ _ (HX.o x1).b (HY.o x1).b)).mono ?_;rintro e _ ⟨rfl,x2,rfl⟩;go_wp2_with (fail);refine (aq (DL a.av _ _ _ (HX.o x2).c (HY.o x2).c)).mono ?_;rintro e _ ⟨rfl,x3,rfl⟩;go_wp2_with (fail);refine (aq (DM a.ao _ _ _ (HX.o x3).m (HY.o x3).m)).mono ?_;rintro e _ ⟨rfl,x4,rfl⟩;go_wp2;go_ret;exact ⟨rfl,aJ bW x4⟩
end Go.Proofs.YtbcggaldkihcaaaGreat

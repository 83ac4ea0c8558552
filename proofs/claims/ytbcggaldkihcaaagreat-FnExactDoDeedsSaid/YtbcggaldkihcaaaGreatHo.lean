/- A slice of deeds that came in, opened. -/
import Derived.Test.YtbcggaldkihcaaaGreatHz
import Derived.Test.YtbcggaldkihcaaaGreatQE
import Derived.Test.YtbcggaldkihcaaaGreatQF
set_option maxRecDepth 100000
namespace Go.Proofs.YtbcggaldkihcaaaGreat
open Tryz
open Go.Joins Go.ChangeShapes Go.WideShapes Go.RowKit Go.Deep
section
variable {H:Type} {enc:TypeId×Value->H} {P:Program} {w:World} {base dP:Nat} {held:Bool} {x:DataW H×List MemPlace}
theorem anK {t e ti te ie ee:TypeId} {v:Value} {fs es:Array Field} {f0 f1 f2 f3 f4 f5 f6 f7 f8 g0 g1 g2 g3:Field} (ht:P.underlying t=some (.slice e)) (he:P.underlying e=some (.struct fs)) (Of:fs= #[f0,f1,f2,f3,f4,f5,f6,f7,f8]) (jJ:oneCellFields P fs=true) (hC:P.cellsOf e=fs.size)
 (t0:P.underlying f0.type=some (.int .i64)) (t1:P.underlying f1.type=some (.int .i64)) (h2:f2.type=ti) (t2:P.underlying ti=some (.slice ie)) (Ur:P.underlying ie=some (.int .i64)) (t2c:P.cellsOf ie=1) (t3:P.underlying f3.type=some .string) (t4:P.underlying f4.type=some (.int .i64))
 (h5:f5.type=te) (t5:P.underlying te=some (.slice ee)) (t5e:P.underlying ee=some (.struct es)) (PD:es= #[g0,g1,g2,g3]) (an8:oneCellFields P es=true) (hC5:P.cellsOf ee=es.size)
 (u0:P.underlying g0.type=some (.int .i64)) (u1:P.underlying g1.type=some (.int .i64)) (u2:P.underlying g2.type=some .string) (u3:P.underlying g3.type=some .string)
 (t6:P.underlying f6.type=some (.int .i64)) (t7:P.underlying f7.type=some (.int .i64)) (t8:P.underlying f8.type=some (.int .i64))
 (h:DataW.trod enc P w base (λ_=>true) held dP t [v]=some x):
 ∃A n c ds,v= .slice A n c/\ve w w.heap.size (.slice A n c) ds:=by
 rcases gX ht he jJ hC h with ⟨og,_⟩|⟨a,len,cap,m,D,SZ,og,_,hl,hm,EZ,_,hi⟩
 ·simp only[List.cons.injEq,aaZ]at og;exact ⟨none,0,0,[],og,cz.nil _ _ _ _ _ _ (aaf _)⟩
 simp only[List.cons.injEq,aaZ]at og;have KM:m=cap:=by simpa using EZ
 have H: ∀i,i<m-> ∃q:dr×List Value,q.2.length=9/\amA w w.heap.size q.2 q.1/\ ∀(j:Nat) (u:Value),q.2[j]?=some u->w.cell? (a.add (i*9+j))=some u:=by
  intro i vL;obtain ⟨ys,n,_,_,_,hf⟩:=hi i vL;subst Of;obtain ⟨v0,y0,c0,_,r0⟩:=hf 0 f0 rfl;obtain ⟨v1,y1,c1,_,r1⟩:=hf 1 f1 rfl;obtain ⟨v2,y2,c2,_,r2⟩:=hf 2 f2 rfl;obtain ⟨v3,y3,c3,_,r3⟩:=hf 3 f3 rfl;obtain ⟨v4,y4,c4,_,r4⟩:=hf 4 f4 rfl;obtain ⟨v5,y5,c5,_,r5⟩:=hf 5 f5 rfl;obtain ⟨v6,y6,c6,_,r6⟩:=hf 6 f6 rfl;obtain ⟨v7,y7,c7,_,r7⟩:=hf 7 f7 rfl;obtain ⟨v8,y8,c8,_,Px⟩:=hf 8 f8 rfl;obtain ⟨k0,e0,_,_⟩:=aa7 t0 r0;obtain ⟨k1,e1,_,_⟩:=aa7 t1 r1;rw[h2]at r2;obtain ⟨A2,n2,d2,zs,rfl,hI⟩:=zn t2 Ur t2c r2;obtain ⟨s3,e3,_,l3⟩:=DataW.trod_string t3 r3;obtain ⟨k4,e4,_,_⟩:=aa7 t4 r4;rw[h5]at r5;obtain ⟨A5,n5,d5,ed,rfl,hE,hS⟩:=vN t5 t5e PD an8 hC5 u0 u1 u2 u3 r5;obtain ⟨k6,e6,_,_⟩:=aa7 t6 r6;obtain ⟨k7,e7,_,_⟩:=aa7 t7 r7;obtain ⟨k8,e8,_,_⟩:=aa7 t8 Px;simp only[List.cons.injEq,aaZ]at e0 e1 e3 e4 e6 e7 e8;subst e0 e1 e3 e4 e6 e7 e8;obtain ⟨l2,_,_⟩:=fB hI;obtain ⟨l5,_,_⟩:=fB hE;subst l2 l5;refine ⟨(⟨k0,k1,zs,s3,k4,ed,k6,k7,k8⟩,amG ⟨k0,k1,zs,s3,k4,ed,k6,k7,k8⟩ A2 d2 A5 d5),rfl,⟨A2,d2,A5,d5,rfl,hI,hE,hS,l3⟩,λj u hu=>?_⟩
  match j,hu with
  |0,hu=>injection hu with hu;subst hu;exact c0
  |1,hu=>injection hu with hu;subst hu;exact c1
  |2,hu=>injection hu with hu;subst hu;exact c2
  |3,hu=>injection hu with hu;subst hu;exact c3
  |4,hu=>injection hu with hu;subst hu;exact c4
  |5,hu=>injection hu with hu;subst hu;exact c5
  |6,hu=>injection hu with hu;subst hu;exact c6
  |7,hu=>injection hu with hu;subst hu;exact c7
  |8,hu=>injection hu with hu;subst hu;exact c8
 obtain ⟨F,hF⟩: ∃F:Nat->dr×List Value,∀i,i<m->(F i).2.length=9/\amA w w.heap.size (F i).2 (F i).1/\ ∀(j:Nat) (u:Value),(F i).2[j]?=some u->w.cell? (a.add (i*9+j))=some u:=
  ⟨λi=>if h:i<m then Classical.choose (H i h)else (⟨0,0,[],⟨#[]⟩,0,[],0,0,0⟩,[]),λi hi=>by simp only[dif_pos hi];exact Classical.choose_spec (H i hi)⟩
 clear H;have hlen:((List.range len).map λi=>(F i).1).length=len:=by simp
 have aH: ∀(i:Nat) (d:dr),((List.range len).map λi=>(F i).1)[i]?=some d->i<m/\d=(F i).1:=by
  intro i d hd;have hi:i<len:=by have:=(aal.1 hd).1;omega
  refine ⟨by omega,?_⟩;simp only[aaX,List.getElem?_range hi,Option.map_some,Option.some.injEq]at hd;exact hd.symm
 refine ⟨some a,len,cap,(List.range len).map λi=>(F i).1,og,⟨some a,cap,by rw[hlen],by omega,hm,λh0=>?_⟩⟩;obtain ⟨SL,_,c0⟩:=hF 0 (by omega);have Uq:=c0 0 ((F 0).2[0]'(by omega)) (aag (by omega));obtain ⟨b,off,spot⟩:=a;have hs:spot=none:=by simpa [Addr.add]using tk Uq
 subst hs;rw[pT]at Uq;refine ⟨b,off,rfl,vM Uq,λk z hk=>?_⟩;obtain ⟨Up,rfl⟩:=aH k z hk;obtain ⟨hl9,hR,hc⟩:=hF k Up;refine ⟨(F k).2,hl9,hR,λj u hu=>?_⟩;have:=hc j u hu;rw[pT]at this;rw[abH];exact this
theorem anx {r:Go.Reach} {b0:Nat} {v:Value} {d:DataW H} {p:List MemPlace} (hv:Value.okWide prog w r b0 58 v) (h:DataW.Trod enc prog w 0 (λ_=>true) held 58 v d p): ∃A n c ds,v= .slice A n c/\ve w w.heap.size (.slice A n c) ds:=by
 obtain ⟨dP,hf⟩:=h;obtain ⟨A',n',c',rfl⟩:=okWide_slice underlying58 hv
 exact anK underlying58 underlying101 rfl (by kernel_rfl) (by kernel_rfl)
  underlying2 underlying2 rfl underlying33 underlying2 (by kernel_rfl) underlying9 underlying2
  rfl underlying99 underlying194 rfl (by kernel_rfl) (by kernel_rfl) underlying2 underlying2 underlying9 underlying9
  underlying2 underlying2 underlying2 hf
end
end Go.Proofs.YtbcggaldkihcaaaGreat

/- A deed as an argument. -/
import Derived.Test.YtnandbammmcncaaGreatZu
import Derived.Test.YtnandbammmcncaaGreatQF
set_option maxRecDepth 100000
namespace Go.Proofs.YtnandbammmcncaaGreat
open Tryz
open Go.Joins Go.RowKit Go.ChangeShapes Go.WideShapes Go.Deep
section
variable {P:Program} {H:Type} {enc:TypeId×Value->H} {w:World} {base:Nat} {spare:Nat->Bool} {held:Bool} {dP:Nat} {x:DataW H×List MemPlace}
theorem Hf {r:Go.Reach} {b0:Nat} {t:TypeId} {f0 f1 f2 f3 f4 f5 f6 f7 f8:Field} {v:Value} {d:DataW H} {p:List MemPlace} (hs:P.underlying t=some (.struct #[f0,f1,f2,f3,f4,f5,f6,f7,f8])) (jJ:oneCellFields P #[f0,f1,f2,f3,f4,f5,f6,f7,f8]=true) (hC:P.cellsOf t=9)
 (hv:Value.okWide P w r b0 t v) (h:DataW.Trod enc P w base spare held t v d p):
 ∃(v0 v1 v2 v3 v4 v5 v6 v7 v8:Value) (y0 y1 y2 y3 y4 y5 y6 y7 y8:DataW H×List MemPlace) (n:Nat),v= .agg #[v0,v1,v2,v3,v4,v5,v6,v7,v8]/\d= .agg [y0.1,y1.1,y2.1,y3.1,y4.1,y5.1,y6.1,y7.1,y8.1]/\p=y0.2++(y1.2++(y2.2++(y3.2++(y4.2++(y5.2++(y6.2++(y7.2++y8.2)))))))/\
  DataW.trod enc P w base spare held n f0.type [v0]=some y0/\DataW.trod enc P w base spare held n f1.type [v1]=some y1/\DataW.trod enc P w base spare held n f2.type [v2]=some y2/\DataW.trod enc P w base spare held n f3.type [v3]=some y3/\DataW.trod enc P w base spare held n f4.type [v4]=some y4/\DataW.trod enc P w base spare held n f5.type [v5]=some y5/\DataW.trod enc P w base spare held n f6.type [v6]=some y6/\DataW.trod enc P w base spare held n f7.type [v7]=some y7/\DataW.trod enc P w base spare held n f8.type [v8]=some y8:=by
 obtain ⟨cs,rfl,ja⟩:=okWide_struct hs hv;obtain ⟨l⟩:=cs
 match l,ja.trans hC with
 |[c0,c1,c2,c3,c4,c5,c6,c7,c8],_=>
  obtain ⟨dP,hf⟩:=h;obtain ⟨xs,n,_,hx,_,hlen,hg⟩:=DataW.trod_struct hs hf;obtain ⟨o0,k0⟩:=hone_of jJ 0 f0 rfl;obtain ⟨o1,k1⟩:=hone_of jJ 1 f1 rfl;obtain ⟨o2,k2⟩:=hone_of jJ 2 f2 rfl;obtain ⟨o3,k3⟩:=hone_of jJ 3 f3 rfl;obtain ⟨o4,k4⟩:=hone_of jJ 4 f4 rfl;obtain ⟨o5,k5⟩:=hone_of jJ 5 f5 rfl;obtain ⟨o6,k6⟩:=hone_of jJ 6 f6 rfl;obtain ⟨o7,k7⟩:=hone_of jJ 7 f7 rfl;obtain ⟨o8,k8⟩:=hone_of jJ 8 f8 rfl
  match xs,hlen with
  |[y0,y1,y2,y3,y4,y5,y6,y7,y8],_=>
   simp only[Prod.mk.injEq]at hx;exact ⟨c0,c1,c2,c3,c4,c5,c6,c7,c8,y0,y1,y2,y3,y4,y5,y6,y7,y8,n,rfl,by simpa using hx.1,by simpa using hx.2,by simpa [Value.cells,o0,k0]using hg 0 f0 rfl,by simpa [Value.cells,o1,k1]using hg 1 f1 rfl,by simpa [Value.cells,o2,k2]using hg 2 f2 rfl,by simpa [Value.cells,o3,k3]using hg 3 f3 rfl,by simpa [Value.cells,o4,k4]using hg 4 f4 rfl,by simpa [Value.cells,o5,k5]using hg 5 f5 rfl,by simpa [Value.cells,o6,k6]using hg 6 f6 rfl,by simpa [Value.cells,o7,k7]using hg 7 f7 rfl,by simpa [Value.cells,o8,k8]using hg 8 f8 rfl⟩
end
section
variable {H:Type} {enc:TypeId×Value->H} {w:World} {held:Bool}
theorem Mp {r:Go.Reach} {b0:Nat} {v:Value} {d:DataW H} {p:List MemPlace} (hv:Value.okWide prog w r b0 49 v) (h:DataW.Trod enc prog w 0 (λ_=>true) held 49 v d p):
 ∃dd A1 c1 A2 c2,v=gw dd A1 c1 A2 c2/\Ints w w.heap.size (.slice A1 dd.af.length c1) dd.af/\bg w w.heap.size (.slice A2 dd.patch.length c2) dd.patch/\bS dd.patch/\dd.al.size<=maxLen:=by
 obtain ⟨c0,c1,c2,c3,c4,c5,c6,c7,c8,y0,y1,y2,y3,y4,y5,y6,y7,y8,n,rfl,_,_,t0,t1,t2,t3,t4,t5,t6,t7,t8⟩:=Hf underlying49 (by kernel_rfl) (by kernel_rfl) hv h;obtain ⟨z0,e0,_,_⟩:=aa7 (show prog.underlying 2=_ from underlying2) t0;obtain ⟨z1,e1,_,_⟩:=aa7 (show prog.underlying 2=_ from underlying2) t1;obtain ⟨A2,n2,k2,zs,rfl,hI⟩:=zn underlying29 underlying2 (by kernel_rfl) t2;obtain ⟨s3,e3,_,l3⟩:=DataW.trod_string (show prog.underlying 9=_ from underlying9) t3;obtain ⟨z4,e4,_,_⟩:=aa7 (show prog.underlying 2=_ from underlying2) t4;obtain ⟨A5,n5,k5,es,rfl,hE,hSz⟩:=vN underlying47 underlying157 rfl (by kernel_rfl) (by kernel_rfl) underlying2 underlying2 underlying9 underlying9 t5;obtain ⟨z6,e6,_,_⟩:=aa7 (show prog.underlying 2=_ from underlying2) t6;obtain ⟨z7,e7,_,_⟩:=aa7 (show prog.underlying 2=_ from underlying2) t7;obtain ⟨z8,e8,_,_⟩:=aa7 (show prog.underlying 2=_ from underlying2) t8;simp only[List.cons.injEq,aaZ]at e0 e1 e3 e4 e6 e7 e8;subst e0 e1 e3 e4 e6 e7 e8;obtain ⟨rfl,_,_⟩:=fB hI;obtain ⟨rfl,_,_⟩:=fB hE;exact ⟨⟨z0,z1,zs,s3,z4,es,z6,z7,z8⟩,A2,k2,A5,k5,rfl,hI,hE,hSz,l3⟩
end
end Go.Proofs.YtnandbammmcncaaGreat

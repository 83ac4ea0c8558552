/- An assembly of the call's own that may be changed: what is held, and how it stands behin.. -/
import Derived.Test.YtbcggaldkihcaaaGreatDoorZb
import Derived.Test.YtbcggaldkihcaaaGreatDoorZn
import Derived.Test.YtbcggaldkihcaaaGreatDoorQE
namespace Go.Proofs.YtbcggaldkihcaaaGreatDoor
open Tryz
open Go.RowKit Go.Lib
theorem GX {w:World} {b base size n:Nat} {e:TypeId} {v:Value} {xs:List Value} (h:w.ownsRow base e size v n xs) (hb:b<=base):w.ownsRow b e size v n xs:=by
 obtain ⟨h1,h2|⟨g',c,kT,e,h3,h4⟩⟩:=h
 ·exact ⟨h1,.inl h2⟩
 exact ⟨h1,.inr ⟨g',c,kT,e,Nat.le_trans hb h3,h4⟩⟩
theorem kt {w w':World} {p0:Addr} {v0:Value} (h:w.cell? p0=some v0) (hb:Below w.heap.size w w'):w'.cell? p0=some v0:=(hb.cell (World.block_lt_of_cell? w _ h)).trans h
theorem LZ {w:World} {base g n cap size:Nat} {e:TypeId} {xs:List Value} (h:w.ownsRow base e size (.slice (some ⟨g,0,none⟩) n cap) n xs) (i:Nat) (u:Value):(w.setCell ⟨g,i,none⟩ u).ownsRow base e size (.slice (some ⟨g,0,none⟩) n cap) n (xs.set i u):=by
 obtain ⟨hl,h|⟨g',fq,kT,e1,hg,hh,h1,h2,h3,h4⟩⟩:=h
 ·cases h.1
 injection e1 with e1 e2 e3
 injection e1 with e1
 injection e1 with e1
 subst e1 e3;refine ⟨by rw[List.length_set];exact hl,.inr ⟨g,cap,kT.setIfInBounds i u,rfl,hg,heap_setCell_same w g i kT e u hh,h1,h2,by rw[Array.size_setIfInBounds];exact h3,?_⟩⟩;rw[<-h4,Array.toList_setIfInBounds,List.take_set]
theorem jq {w w':World} {base n size:Nat} {e:TypeId} {v:Value} {xs:List Value} {F:Nat->Prop} (h:w.ownsRow base e size v n xs) (ht:Touch F w w') (hF: ∀b,v.ownBlock=some b-> ¬F b):w'.ownsRow base e size v n xs:=by
 obtain ⟨hl,h|⟨g,cap,kT,rfl,hg,hh,hr⟩⟩:=h
 ·exact ⟨hl,.inl h⟩
 have aI:g<w.heap.size:=by
  rcases Nat.lt_or_ge g w.heap.size with aI|eA
  ·exact aI
  rw[Array.getElem?_eq_none eA]at hh;cases hh
 exact ⟨hl,.inr ⟨g,cap,kT,rfl,hg,(ht.block g aI (hF g rfl)).trans hh,hr⟩⟩
theorem yN {β:Type} {R:β->β->Prop}: ∀(L:List β) (j:Nat) (x':β),L.Pairwise R->(∀p∈L,R p x')->(∀p∈L,R x' p)->(L.set j x').Pairwise R
 |[],_,_,h,_,_=>h
 |y::L,0,x',h,h1,h2=>by
  rw[List.pairwise_cons]at h;rw[List.set_cons_zero,List.pairwise_cons];exact ⟨λp hp=>h2 p (List.mem_cons_of_mem _ hp),h.2⟩
 |y::L,j+1,x',h,h1,h2=>by
  rw[List.pairwise_cons]at h;rw[List.set_cons_succ,List.pairwise_cons];refine ⟨λp hp=>?_,yN L j x' h.2 (λp hp=>h1 p (List.mem_cons_of_mem _ hp)) (λp hp=>h2 p (List.mem_cons_of_mem _ hp))⟩;rcases List.mem_or_eq_of_mem_set hp with hm|rfl
  ·exact h.1 p hm
  exact h1 y (List.mem_cons_self ..)
theorem aR.O4 {β:Type} {K:Kind β} {base:Nat} {w:World} {v:Value} {L:List β} (h:aR K base w v L) {j:Nat} {x x':β} (hx:L[j]?=some x) {g:Nat} (hv:v.ownBlock=some g) (i:Nat) (hi:i<K.size) (u:Value) (hc:K.cells x'=(K.cells x).set i u)
 (iq:K.fa base w x') (zm: ∀b,K.dR x' b->b≠g/\ ∀q∈L,¬K.dR q b):aR K base (w.setCell ⟨g,j*K.size+i,none⟩ u) v (L.set j x'):=by
 obtain ⟨A,c,rfl,h1,h2,h3⟩:=h.row;have gm:L≠[]:=λe=>by rw[e]at hx;simp at hx
 obtain ⟨g',rfl,hg,aI,hr⟩:=h3 gm;injection hv with hv
 have hv:g'=g:=hv;subst hv;have PG:=(List.getElem?_eq_some_iff.1 hx).1;have ht:Touch (λb=>b=g') w (w.setCell ⟨g',j*K.size+i,none⟩ u):=Touch.setCell (F:=λb=>b=g') (Touch.refl _ w) rfl u;refine ⟨⟨_,c,by rw[List.length_set],by rw[List.length_set];exact h1,h2,λ_=>⟨g',rfl,hg,by simpa [World.setCell]using aI,?_⟩⟩,λq hq=>?_,λq hq b mq=>?_,?_⟩
 ·rw[<-rA K L j x x' i u hx hi hc];refine hr.set _ u ?_;have:(j+1)*K.size<=L.length*K.size:=Nat.mul_le_mul_right _ PG;rw[Nat.succ_mul]at this;rw[bp K.cells K.len];omega
 ·rcases List.mem_or_eq_of_mem_set hq with hm|rfl
  ·exact K.aD (h.fa q hm) ht (λb dF e=>h.o q hm b dF (by rw[e];rfl))
  exact K.aD iq ht (λb dF e=>(zm b dF).1 e)
 ·rcases List.mem_or_eq_of_mem_set hq with hm|rfl
  ·exact h.o q hm b mq
  intro e;injection e with e
  exact (zm b mq).1 e.symm
 exact yN L j x' h.two (λp hp b h1 h2=>(zm b h2).2 p hp h1) (λp hp b h1 h2=>(zm b h1).2 p hp h2)
theorem aR.push {β:Type} {K:Kind β} {te:TypeId} {base:Nat} {w w':World} {v v':Value} {L:List β} {x:β} (h:aR K base w v L) (hg:w.grownBy w' v.ownBlock) (gd:v'.ownBlock=v.ownBlock\/v'.ownBlock=some w.heap.size)
 (bi:w'.ownsRow base te K.size v' (L.length+1) (L.flatMap K.cells++K.cells x)) (hx:K.fa base w x) (F0: ∀b,K.dR x b->v.ownBlock≠some b/\ ∀q∈L,¬K.dR q b):aR K base w' v' (L++[x]):=by
 have ht:Touch (λb=>v.ownBlock=some b) w w':=Touch.aW hg (λb hb=>hb)
 have aI: ∀y∈L++[x],∀b,K.dR y b->b<w.heap.size/\v.ownBlock≠some b:=λy hy b hb=>by
  rcases List.mem_append.1 hy with hy|hy
  ·exact ⟨(K.lt (h.fa y hy) hb).2,h.o y hy b hb⟩
  rw[List.mem_singleton.1 hy]at hb;exact ⟨(K.lt hx hb).2,(F0 b hb).1⟩
 refine ⟨ay.bI K.cells K.len (by simpa using bi),λy hy=>?_,λy hy b hb e=>?_,?_⟩
 ·have hi:K.fa base w y:=by
   rcases List.mem_append.1 hy with hy|hy
   ·exact h.fa y hy
   rw[List.mem_singleton.1 hy];exact hx
  exact K.aD hi ht (λb hb e=>(aI y hy b hb).2 e)
 ·have q:=aI y hy b hb;rcases gd with e'|e'
  ·rw[e']at e;exact q.2 e
  rw[e']at e;injection e with e;omega
 rw[List.pairwise_append];refine ⟨h.two,List.pairwise_singleton _ _,λp hp q hq b h1 h2=>?_⟩;rw[List.mem_singleton.1 hq]at h2;exact (F0 b h2).2 p hp h1
theorem ji.symm {p q:Nat->Prop} (h:ji p q):ji q p:=λb h1 h2=>h b h2 h1
theorem ji.grow {p p' q:Nat->Prop} {n:Nat} (h:ji p q) (hp: ∀b,p' b->p b\/n<=b) (hq: ∀b,q b->b<n):ji p' q:=λb hb mq=>by
 rcases hp b hb with h1|h1
 ·exact h b h1 mq
 have:=hq b mq;omega
theorem kP.Zo {base:Nat} {w w':World} {x:cS} {a:cp} {T:List bR} {C C':List bu} {M:List bH} {v':Value} {ls:List bo} {F:Nat->Prop} (h:kP base w x a T C M) (ht:Touch F w w') (hF: ∀b,b<w.heap.size->F b->bN cw x.c C b) (t':aR cw base w' v' C') (hl:C'.map bu.a=ls)
 (hf: ∀b,bN cw v' C' b->bN cw x.c C b\/w.heap.size<=b):kP base w' {x with c:=v'} {a with av:=ls} T C' M:=
 ⟨h.tm,hl,h.mm,h.t.aD ht (λb hb hf=>h.tc b hb (hF b (h.t.lt hb).2 hf)),h.b.aD ht (λb hb hf=>h.L2 b hb (hF b (h.b.lt hb).2 hf)),t',h.m.aD ht (λb hb hf=>h.EX b (hF b (h.m.lt hb).2 hf) hb),
  h.tb,(h.tc.symm.grow hf (λ_ hb=>(h.t.lt hb).2)).symm,h.Bw,(h.L2.symm.grow hf (λ_ hb=>(h.b.lt hb).2)).symm,h.bm,h.EX.grow hf (λ_ hb=>(h.m.lt hb).2)⟩
theorem kP.WV {base:Nat} {w w':World} {x:cS} {a:cp} {T:List bR} {C:List bu} {M M':List bH} {v':Value} {ls:List gu} {F:Nat->Prop} (h:kP base w x a T C M) (ht:Touch F w w') (hF: ∀b,b<w.heap.size->F b->bN cX x.m M b) (t':aR cX base w' v' M') (hl:M'.map bH.a=ls)
 (hf: ∀b,bN cX v' M' b->bN cX x.m M b\/w.heap.size<=b):kP base w' {x with m:=v'} {a with ao:=ls} T C M':=
 ⟨h.tm,h.L1,hl,h.t.aD ht (λb hb hf=>h.Bw b hb (hF b (h.t.lt hb).2 hf)),h.b.aD ht (λb hb hf=>h.bm b hb (hF b (h.b.lt hb).2 hf)),h.c.aD ht (λb hb hf=>h.EX b hb (hF b (h.c.lt hb).2 hf)),t',
  h.tb,h.tc,(h.Bw.symm.grow hf (λ_ hb=>(h.t.lt hb).2)).symm,h.L2,(h.bm.symm.grow hf (λ_ hb=>(h.b.lt hb).2)).symm,(h.EX.symm.grow hf (λ_ hb=>(h.c.lt hb).2)).symm⟩
structure dM (base:Nat) (w:World) (x:cS) (a:cp) (T:List bR) (C:List bu) (M:List bH):Prop where
 o:kP base w x a T C M
 mr:w.ownsRow base 119 8 x.m M.length (M.flatMap cK)
 mn:M=[]->x.m= .slice none 0 0
theorem dM.jX {base:Nat} {w:World} {x:cS} {a:cp} {T:List bR} {C:List bu} {M:List bH} (h:dM base w x a T C M) {b:Nat} (hb:x.m.ownBlock=some b):bN cX x.m M b:= .inl ⟨(λe=>by rw[h.mn e]at hb;cases hb),hb⟩
theorem dM.aD {base:Nat} {w w':World} {x:cS} {a:cp} {T:List bR} {C:List bu} {M:List bH} {F:Nat->Prop} (h:dM base w x a T C M) (ht:Touch F w w') (hF: ∀b,bz x a T C M b-> ¬F b):dM base w' x a T C M:=
 ⟨h.o.aD ht hF,jq h.mr ht (λb hb=>hF b (.inr (.inr (.inr (h.jX hb))))),h.mn⟩
theorem dM.below {base:Nat} {w w':World} {x:cS} {a:cp} {T:List bR} {C:List bu} {M:List bH} (h:dM base w x a T C M) (hb:Below w.heap.size w w'):dM base w' x a T C M:=
 h.aD (F:=λ_=>False) (Touch.dV hb) (λ_ _ h=>h)
theorem dM.py {base:Nat} {w:World} {x:cS} {a:cp} {T:List bR} {C:List bu} {M:List bH} (h:dM base w x a T C M) {j n g:Nat} {l:List Int} {y:bR} (hy:T[j]?=some y) (hg:x.t.ownBlock=some g) {u:Value} (hu:ay ak l n w u) (hn: ∀b,bz x a T C M b->b<n) (IJ:base<=n) (Nb:g<n):
 dM base (w.setCell ⟨g,j,none⟩ u) x {a with af:=a.af.set j l} (T.set j ⟨l,u⟩) C M/\(∀b,bz x {a with af:=a.af.set j l} (T.set j ⟨l,u⟩) C M b->bz x a T C M b\/cx l u b):=by
 have zm: ∀b,cx l u b->n<=b/\b<w.heap.size:=λb hb=>ay.dw hu hb;have Hq:bN dX x.t T g:= .inl ⟨λe=>by rw[e]at hy;simp at hy,hg⟩
 have t1:=aR.O4 (x':=(⟨l,u⟩:bR)) h.o.t hy hg 0 (by show 0<1;omega) u rfl (show ay ak l base w u from hu.less IJ) (λb hb=>by
  have:=zm b hb;exact ⟨by omega,λq hq mq=>by have:=hn b (.inl (.inr ⟨q,hq,mq⟩));omega⟩)
 have e0:j*dX.size+0=j:=by show j*1+0=j;omega
 rw[e0]at t1;have ht:Touch (λb=>b=g) w (w.setCell ⟨g,j,none⟩ u):=Touch.setCell (F:=λb=>b=g) (Touch.refl _ w) rfl u
 have nX: ∀b,bN dX x.t (T.set j ⟨l,u⟩) b->bN dX x.t T b\/cx l u b:=λb hb=>by
  rcases hb with hb|⟨q,hq,hb⟩
  ·exact .inl (.inl (gK hb (by simp)))
  rcases List.mem_or_eq_of_mem_set hq with hm|rfl
  ·exact .inl (.inr ⟨q,hm,hb⟩)
  exact .inr hb
 have Zp: ∀b,x.m.ownBlock=some b-> ¬b=g:=λb hb e=>h.o.Bw g Hq (e▸h.jX hb)
 refine ⟨⟨⟨by rw[List.map_set,h.o.tm],h.o.L1,h.o.mm,t1,h.o.b.aD ht (λb hb e=>h.o.tb g Hq (e▸hb)),h.o.c.aD ht (λb hb e=>h.o.tc g Hq (e▸hb)),h.o.m.aD ht (λb hb e=>h.o.Bw g Hq (e▸hb)),
  h.o.tb.grow (λb hb=>(nX b hb).imp id (λq=>(zm b q).1)) (λb hb=>hn b (.inr (.inl hb))),h.o.tc.grow (λb hb=>(nX b hb).imp id (λq=>(zm b q).1)) (λb hb=>hn b (.inr (.inr (.inl hb)))),h.o.Bw.grow (λb hb=>(nX b hb).imp id (λq=>(zm b q).1)) (λb hb=>hn b (.inr (.inr (.inr hb)))),h.o.L2,h.o.bm,h.o.EX⟩,jq h.mr ht (λb hb e=>Zp b hb e),h.mn⟩,λb hb=>?_⟩
 rcases hb with hb|hb|hb|hb
 ·exact (nX b hb).imp .inl id
 ·exact .inl (.inr (.inl hb))
 ·exact .inl (.inr (.inr (.inl hb)))
 exact .inl (.inr (.inr (.inr hb)))
def qW (m:gu) (r:Int):gu:={m with result:=r}
def wK (m:gu) (i:Nat) (r:Int):gu:={m with ax:=m.ax.set i r}
def vR (y:bH) (r:Int):bH:=⟨qW y.a r,y.p,y.t⟩
def vV (y:bH) (i:Nat) (r:Int):bH:=⟨wK y.a i r,y.p,y.t⟩
theorem yO {β:Type} {K:Kind β} {v:Value} {L:List β} {j:Nat} {x x':β} (hx:L[j]?=some x) (hb: ∀b,K.dR x' b↔K.dR x b) (b:Nat):bN K v (L.set j x') b↔bN K v L b:=by
 have hm:=List.mem_of_getElem? hx;have PG:=(List.getElem?_eq_some_iff.1 hx).1;unfold bN;constructor
 ·rintro (h|⟨q,hq,h⟩)
  ·exact .inl (gK h (by simp))
  rcases List.mem_or_eq_of_mem_set hq with Io|rfl
  ·exact .inr ⟨q,Io,h⟩
  exact .inr ⟨x,hm,(hb b).1 h⟩
 rintro (h|⟨q,hq,h⟩)
 ·exact .inl (gK h (by simp))
 obtain ⟨i,hi⟩:=List.getElem?_of_mem hq;by_cases e:j=i
 ·subst e;rw[hx]at hi;injection hi with hi
  subst hi;exact .inr ⟨x',List.mem_of_getElem? (List.getElem?_set_self PG),(hb b).2 h⟩
 exact .inr ⟨q,List.mem_of_getElem? (i:=i) (by rw[List.getElem?_set_ne e];exact hi),h⟩
theorem dM.tE {base:Nat} {w:World} {x:cS} {a:cp} {T:List bR} {C:List bu} {M:List bH} (h:dM base w x a T C M) {j g cap:Nat} {y:bH} (hy:M[j]?=some y) (hg:x.m= .slice (some ⟨g,0,none⟩) M.length cap) (r:Int):
 dM base (w.setCell ⟨g,j*8+7,none⟩ (.int .i64 r)) x {a with ao:=a.ao.set j (qW y.a r)} T C (M.set j (vR y r))/\(∀b,bz x {a with ao:=a.ao.set j (qW y.a r)} T C (M.set j (vR y r)) b↔bz x a T C M b):=by
 have hv:x.m.ownBlock=some g:=by rw[hg];rfl
 have Hq:=h.jX hv;have O5: ∀b,cX.dR (vR y r) b↔cX.dR y b:=λb=>Iff.rfl;have t1:=aR.setCell (x':=(vR y r)) h.o.m hy hv 7 (by show 7<8;omega) (.int .i64 r) rfl O5 (λw hw=>hw);have ht:Touch (λb=>b=g) w (w.setCell ⟨g,j*8+7,none⟩ (.int .i64 r)):=Touch.setCell (F:=λb=>b=g) (Touch.refl _ w) rfl _
 have J':(w.setCell ⟨g,j*8+7,none⟩ (.int .i64 r)).ownsRow base 119 8 x.m (M.set j (vR y r)).length ((M.set j (vR y r)).flatMap cK):=by
  have h1:=h.mr;rw[hg]at h1⊢;have e:(M.set j (vR y r)).flatMap cK=(M.flatMap cK).set (j*8+7) (.int .i64 r):=(rA cX M j y (vR y r) 7 (.int .i64 r) hy (by show 7<8;omega) rfl).symm;rw[List.length_set,e];exact LZ h1 _ _
 have RH: ∀b,bN cX x.m (M.set j (vR y r)) b↔bN cX x.m M b:=λb=>yO hy O5 b;refine ⟨⟨kP.WV h.o ht (λb _ e=>e▸Hq) t1 (by rw[List.map_set,h.o.mm];rfl) (λb hb=> .inl ((RH b).1 hb)),J',λe=>?_⟩,λb=>?_⟩
 ·have:=congrArg List.length e;rw[List.length_set]at this;exact h.mn (List.eq_nil_of_length_eq_zero this)
 unfold bz;rw[RH b]
theorem dM.sv {base:Nat} {w:World} {x:cS} {a:cp} {T:List bR} {C:List bu} {M:List bH} (h:dM base w x a T C M) {j i g c:Nat} {y:bH} (hy:M[j]?=some y) (hg:y.t= .slice (some ⟨g,0,none⟩) y.a.ax.length c) (hi:i<y.a.ax.length) (r:Int):
 dM base (w.setCell ⟨g,i,none⟩ (.int .i64 r)) x {a with ao:=a.ao.set j (wK y.a i r)} T C (M.set j (vV y i r))/\(∀b,bz x {a with ao:=a.ao.set j (wK y.a i r)} T C (M.set j (vV y i r)) b↔bz x a T C M b):=by
 have hm:=List.mem_of_getElem? hy;have gm:y.a.ax≠[]:=λe=>by rw[e]at hi;simp at hi
 have Tk:cx y.a.ax y.t g:=⟨gm,by rw[hg];rfl⟩
 have O5: ∀b,cX.dR (vV y i r) b↔cX.dR y b:=λb=>or_congr Iff.rfl ⟨λq=>gK q (by simp[vV,wK]),λq=>gK q (by simp[vV,wK])⟩;have ht:Touch (λb=>b=g) w (w.setCell ⟨g,i,none⟩ (.int .i64 r)):=Touch.setCell (F:=λb=>b=g) (Touch.refl _ w) rfl _;obtain ⟨hp,hv,WW⟩:=(show ay ah y.a.pat base w y.p/\ay ak y.a.ax base w y.t/\ ∀b,cx y.a.pat y.p b-> ¬cx y.a.ax y.t b from h.o.m.fa y hm)
 have Ny:ay ak (y.a.ax.set i r) base (w.setCell ⟨g,i,none⟩ (.int .i64 r)) y.t:=by
  obtain ⟨A,c',e,h1,h2,h3⟩:=hv;obtain ⟨g',e',h4,h5,h6⟩:=h3 gm;rw[e,e']at hg;injection hg with hg
  injection hg with hg
  injection hg with hg
  subst hg;refine ⟨A,c',by rw[List.length_set];exact e,by rw[List.length_set];exact h1,h2,λ_=>⟨g',e',h4,by simpa [World.setCell]using h5,?_⟩⟩;rw[je]at h6⊢;rw[List.map_set];exact h6.set i _ (by rw[List.length_map];exact hi)
 have iq:cX.fa base (w.setCell ⟨g,i,none⟩ (.int .i64 r)) (vV y i r):=
  ⟨hp.aD ht (λb hb e=>WW b hb (e▸Tk)),Ny,λb hb q=>WW b hb (gK q (by simp[vV,wK]))⟩
 have t1:=aR.inner (x':=(vV y i r)) h.o.m hy ht (λb _ e=>e▸ .inr Tk) (by show cK _=cK _;rfl) O5 iq;have RH: ∀b,bN cX x.m (M.set j (vV y i r)) b↔bN cX x.m M b:=λb=>yO hy O5 b
 have J':(w.setCell ⟨g,i,none⟩ (.int .i64 r)).ownsRow base 119 8 x.m (M.set j (vV y i r)).length ((M.set j (vV y i r)).flatMap cK):=by
  have e:(M.set j (vV y i r)).flatMap cK=M.flatMap cK:=by
   obtain ⟨hl,he⟩:=List.getElem?_eq_some_iff.1 hy;rw[List.flatMap_def,List.flatMap_def,List.map_set,show cK (vV y i r)=cK y from rfl,<-List.map_set,<-he,List.set_getElem_self]
  rw[List.length_set,e];exact jq h.mr ht (λb hb e=>h.o.m.o y hm g (.inr Tk) (e▸hb))
 refine ⟨⟨kP.WV h.o ht (λb _ e=>e▸ .inr ⟨y,hm,.inr Tk⟩) t1 (by rw[List.map_set,h.o.mm];rfl) (λb hb=> .inl ((RH b).1 hb)),J',λe=>?_⟩,λb=>?_⟩
 ·have:=congrArg List.length e;rw[List.length_set]at this;exact h.mn (List.eq_nil_of_length_eq_zero this)
 unfold bz;rw[RH b]
theorem dM.push {base:Nat} {w w':World} {x:cS} {a:cp} {T:List bR} {C:List bu} {M:List bH} (h:dM base w x a T C M) {y:bH} {v':Value} (hg:w.grownBy w' x.m.ownBlock) (gd:v'.ownBlock=x.m.ownBlock\/v'.ownBlock=some w.heap.size)
 (bi:w'.ownsRow base 119 8 v' (M.length+1) (M.flatMap cK++cK y)) {n:Nat} (hy:cX.fa n w y) (hn: ∀b,bz x a T C M b->b<n) (IJ:base<=n) (Zq:n<=w.heap.size):
 dM base w' {x with m:=v'} {a with ao:=a.ao++[y.a]} T C (M++[y])/\(∀b,bz {x with m:=v'} {a with ao:=a.ao++[y.a]} T C (M++[y]) b->bz x a T C M b\/n<=b):=by
 have RI: ∀b,cX.dR y b->n<=b:=λb hb=>(cX.lt hy hb).1
 have t1:=aR.push (te:=119) (K:=cX) h.o.m hg gd bi (cX.less hy IJ) (λb hb=>by
  have q1:=RI b hb;exact ⟨λe=>by have:=hn b (.inr (.inr (.inr (h.jX e))));omega,λq hq mq=>by have:=hn b (.inr (.inr (.inr (.inr ⟨q,hq,mq⟩))));omega⟩)
 have ht:Touch (λb=>x.m.ownBlock=some b) w w':=Touch.aW hg (λb hb=>hb)
 have nX: ∀b,bN cX v' (M++[y]) b->bN cX x.m M b\/n<=b:=λb hb=>by
  rcases hb with hb|⟨q,hq,hb⟩
  ·rcases gd with e|e
   ·exact .inl (h.jX (e▸hb.2))
   have:=hb.2;rw[e]at this;injection this with this
   exact .inr (by omega)
  rcases List.mem_append.1 hq with hq|hq
  ·exact .inl (.inr ⟨q,hq,hb⟩)
  rw[List.mem_singleton.1 hq]at hb;exact .inr (RI b hb)
 have U8: ∀{p:Nat->Prop},ji p (bN cX x.m M)->(∀b,p b->b<n)->ji p (bN cX v' (M++[y])):=λha hp=>(ha.symm.grow nX hp).symm
 refine ⟨⟨⟨h.o.tm,h.o.L1,by rw[List.map_append,h.o.mm];rfl,h.o.t.aD ht (λb hb e=>h.o.Bw b hb (h.jX e)),h.o.b.aD ht (λb hb e=>h.o.bm b hb (h.jX e)),h.o.c.aD ht (λb hb e=>h.o.EX b hb (h.jX e)),t1,h.o.tb,h.o.tc,
  U8 h.o.Bw (λb hb=>hn b (.inl hb)),h.o.L2,U8 h.o.bm (λb hb=>hn b (.inr (.inl hb))),U8 h.o.EX (λb hb=>hn b (.inr (.inr (.inl hb))))⟩,by rw[List.length_append,List.flatMap_append];simpa using bi,λe=>by simp at e⟩,λb hb=>?_⟩
 rcases hb with hb|hb|hb|hb
 ·exact .inl (.inl hb)
 ·exact .inl (.inr (.inl hb))
 ·exact .inl (.inr (.inr (.inl hb)))
 exact (nX b hb).imp (λq=> .inr (.inr (.inr q))) id
theorem dM.sx {base:Nat} {w w':World} {x:cS} {a:cp} {T:List bR} {C C':List bu} {M:List bH} (h:dM base w x a T C M) {v':Value} {ls:List bo} (hb:Below w.heap.size w w') (t':aR cw w.heap.size w' v' C') (hl:C'.map bu.a=ls) (qf:base<=w.heap.size):
 dM base w' {x with c:=v'} {a with av:=ls} T C' M/\(∀b,bz {x with c:=v'} {a with av:=ls} T C' M b->bz x a T C M b\/w.heap.size<=b):=by
 have hf: ∀b,bN cw v' C' b->w.heap.size<=b:=λb q=>(t'.lt q).1;refine ⟨⟨kP.Zo h.o (Touch.dV (F:=λ_=>False) hb) (λ_ _ q=>q.elim) (t'.less qf) hl (λb q=> .inr (hf b q)),aT h.mr hb,h.mn⟩,λb hb=>?_⟩;rcases hb with hb|hb|hb|hb
 ·exact .inl (.inl hb)
 ·exact .inl (.inr (.inl hb))
 ·exact .inr (hf b hb)
 exact .inl (.inr (.inr (.inr hb)))
structure ck (base ba:Nat) (w:World) (x:cS) (a:cp) (T:List bR) (C:List bu) (M:List bH):Prop where
 row:Row w ba [.int .i64 a.day,.int .i64 a.rule,x.t,x.b,x.c,x.m]
 own:dM base w x a T C M
 lt:ba<w.heap.size
 nf: ∀b,bz x a T C M b->b≠ba
 bb:base<=ba
theorem ck.below {base ba:Nat} {w w':World} {x:cS} {a:cp} {T:List bR} {C:List bu} {M:List bH} (h:ck base ba w x a T C M) (hb:Below w.heap.size w w'):ck base ba w' x a T C M:=
 ⟨h.row.below hb h.lt,h.own.below hb,Nat.lt_of_lt_of_le h.lt hb.size,h.nf,h.bb⟩
end Go.Proofs.YtbcggaldkihcaaaGreatDoor

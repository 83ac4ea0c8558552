/- An assembly being copied: how it stands behind each member and each motion. -/
import Derived.Test.YtbcggaldkihcaaaGreatDoorZc
namespace Go.Proofs.YtbcggaldkihcaaaGreatDoor
open Tryz
open Go.RowKit Go.Lib
theorem Kc:(prog.info? 35).map (λi=>(i.zero,i.size,i.bytes))=some (some (.slice none 0 0),1,24):=by kernel_rfl
theorem dM.less {b base:Nat} {w:World} {x:cS} {a:cp} {T:List bR} {C:List bu} {M:List bH} (h:dM base w x a T C M) (hb:b<=base):dM b w x a T C M:=
 ⟨⟨h.o.tm,h.o.L1,h.o.mm,h.o.t.less hb,h.o.b.less hb,h.o.c.less hb,h.o.m.less hb,h.o.tb,h.o.tc,h.o.Bw,h.o.L2,h.o.bm,h.o.EX⟩,GX h.mr hb,h.mn⟩
theorem ck.put {base ba i:Nat} {w':World} {x':cS} {a':cp} {T':List bR} {C':List bu} {M':List bH} {dA:List Value} {u:Value} (bi:Row w' ba dA) (h:dM base w' x' a' T' C' M') (RJ: ∀b,bz x' a' T' C' M' b->b≠ba) (aI:ba<w'.heap.size) (j7:base<=ba) (hi:i<dA.length) (he:dA.set i u=[.int .i64 a'.day,.int .i64 a'.rule,x'.t,x'.b,x'.c,x'.m]):ck base ba (w'.setCell ⟨ba,i,none⟩ u) x' a' T' C' M' where
 row:=by rw[<-he];exact bi.set i u hi
 own:=h.aD (Touch.setCell (F:=λb=>b=ba) (Touch.refl _ _) rfl u) (λb hb e=>RJ b hb e)
 lt:=by simpa [World.setCell]using aI
 nf:=RJ
 bb:=j7
theorem dM.RK {base:Nat} {w w':World} {x:cS} {a:cp} {T:List bR} {C:List bu} {M:List bH} (h:dM base w x a T C M) (Ak:T=[]->x.t= .slice none 0 0) {y:bR} {v':Value} (hg:w.grownBy w' x.t.ownBlock) (gd:v'.ownBlock=x.t.ownBlock\/v'.ownBlock=some w.heap.size)
 (bi:w'.ownsRow base 35 1 v' (T.length+1) (T.flatMap lH++lH y)) {n:Nat} (hy:dX.fa n w y) (hn: ∀b,bz x a T C M b->b<n) (IJ:base<=n) (Zq:n<=w.heap.size):
 dM base w' {x with t:=v'} {a with af:=a.af++[y.a]} (T++[y]) C M/\(∀b,bz {x with t:=v'} {a with af:=a.af++[y.a]} (T++[y]) C M b->bz x a T C M b\/n<=b):=by
 have RI: ∀b,dX.dR y b->n<=b:=λb hb=>(dX.lt hy hb).1;have Lp: ∀b,x.t.ownBlock=some b->bN dX x.t T b:=λb hb=> .inl ⟨(λe=>by rw[Ak e]at hb;cases hb),hb⟩
 have t1:=aR.push (te:=35) (K:=dX) h.o.t hg gd bi (dX.less hy IJ) (λb hb=>by
  have q1:=RI b hb;exact ⟨λe=>by have:=hn b (.inl (Lp b e));omega,λq hq mq=>by have:=hn b (.inl (.inr ⟨q,hq,mq⟩));omega⟩)
 have ht:Touch (λb=>x.t.ownBlock=some b) w w':=Touch.aW hg (λb hb=>hb)
 have nX: ∀b,bN dX v' (T++[y]) b->bN dX x.t T b\/n<=b:=λb hb=>by
  rcases hb with hb|⟨q,hq,hb⟩
  ·rcases gd with e|e
   ·exact .inl (Lp b (e▸hb.2))
   have:=hb.2;rw[e]at this;injection this with this
   exact .inr (by omega)
  rcases List.mem_append.1 hq with hq|hq
  ·exact .inl (.inr ⟨q,hq,hb⟩)
  rw[List.mem_singleton.1 hq]at hb;exact .inr (RI b hb)
 refine ⟨⟨⟨by rw[List.map_append,h.o.tm];rfl,h.o.L1,h.o.mm,t1,h.o.b.aD ht (λb hb e=>h.o.tb b (Lp b e) hb),h.o.c.aD ht (λb hb e=>h.o.tc b (Lp b e) hb),h.o.m.aD ht (λb hb e=>h.o.Bw b (Lp b e) hb),
  h.o.tb.grow nX (λb hb=>hn b (.inr (.inl hb))),h.o.tc.grow nX (λb hb=>hn b (.inr (.inr (.inl hb)))),h.o.Bw.grow nX (λb hb=>hn b (.inr (.inr (.inr hb)))),h.o.L2,h.o.bm,h.o.EX⟩,jq h.mr ht (λb hb e=>h.o.Bw b (Lp b e) (h.jX hb)),h.mn⟩,λb hb=>?_⟩
 rcases hb with hb|hb|hb|hb
 ·exact (nX b hb).imp .inl id
 ·exact .inl (.inr (.inl hb))
 ·exact .inl (.inr (.inr (.inl hb)))
 exact .inl (.inr (.inr (.inr hb)))
theorem ck.O6 {base ba:Nat} {w:World} {x:cS} {a:cp} {T:List bR} {C:List bu} {M:List bH} (h:ck base ba w x a T C M): ∀b,bz x a T C M b->b<w.heap.size:=λ_ hb=>(h.own.o.lt hb).2
structure kK (base g:Nat) (w:World) (a:cp) (k:Nat) (vt vb vc:Value) (T:List bR) (C:List bu):Prop where
 box:ck base g w ⟨vt,vb,vc,.slice none 0 0⟩ {a with af:=a.af.take k,ao:=[]} T C []
 tr:w.ownsRow base 35 1 vt T.length (T.flatMap lH)
 tn:T=[]->vt= .slice none 0 0
theorem kK.len {base g k:Nat} {w:World} {a:cp} {vt vb vc:Value} {T:List bR} {C:List bu} (h:kK base g w a k vt vb vc T C) (hk:k<=a.af.length):T.length=k:=by
 have:=congrArg List.length h.box.own.o.tm;rw[List.length_map,List.length_take]at this;omega
theorem kK.below {base g k:Nat} {w w':World} {a:cp} {vt vb vc:Value} {T:List bR} {C:List bu} (h:kK base g w a k vt vb vc T C) (hb:Below w.heap.size w w'):kK base g w' a k vt vb vc T C:=⟨h.box.below hb,aT h.tr hb,h.tn⟩
theorem kK.step {base g k:Nat} {wr w1 w9:World} {a:cp} {vt vb vc v':Value} {T:List bR} {C:List bu} {y:bR} (h:kK base g wr a k vt vb vc T C) (hb:Below wr.heap.size wr w1) (hy:dX.fa wr.heap.size w1 y) (hl:a.af[k]?=some y.a) (hg:w1.grownBy w9 vt.ownBlock) (gd:v'.ownBlock=vt.ownBlock\/v'.ownBlock=some w1.heap.size)
 (bi:w9.ownsRow base 35 1 v' (T.length+1) (T.flatMap lH++lH y)) (_nm:v'≠ .slice none 0 0):kK base g (w9.setCell ⟨g,2,none⟩ v') a (k+1) v' vb vc (T++[y]) C:=by
 have zb:=h.box.below hb;have hn:=λb j7=>h.box.O6 b j7;have kd:=h.box.lt;have qp:=h.box.bb;obtain ⟨hk,Ew⟩:=List.getElem?_eq_some_iff.1 hl;obtain ⟨q1,q2⟩:=dM.RK zb.own h.tn hg gd bi hy hn (by omega) hb.size;have e:a.af.take k++[y.a]=a.af.take (k+1):=by rw[List.take_succ_eq_append_getElem hk,Ew]
 have Nb: ∀b,bz ⟨v',vb,vc,.slice none 0 0⟩ {a with af:=a.af.take (k+1),ao:=[]} (T++[y]) C [] b->b≠g:=λb j7=>by
  have j7:bz ⟨v',vb,vc,.slice none 0 0⟩ {a with af:=a.af.take k++[y.a],ao:=[]} (T++[y]) C [] b:=by rw[e];exact j7
  rcases q2 b j7 with q|q
  ·exact h.box.nf b q
  omega
 have WX: ∀b,vt.ownBlock=some b->b≠g:=λb hb=>h.box.nf b (.inl (.inl ⟨(λe=>by rw[h.tn e]at hb;cases hb),hb⟩));have U':Row w9 g [.int .i64 a.day,.int .i64 a.rule,vt,vb,vc,.slice none 0 0]:=zb.row.aD zb.lt (Touch.aW (F:=λb=>vt.ownBlock=some b) hg (λb hb=>hb)) (λe=>WX g e rfl);refine ⟨ck.put U' (by have q:=q1;rw[show a.af.take k++[y.a]=a.af.take (k+1)from e]at q;exact q) Nb (Nat.lt_of_lt_of_le zb.lt hg.size) qp (by show 2<6;omega) rfl,?_,λe=>by simp at e⟩
 have Va: ∀b,v'.ownBlock=some b-> ¬b=g:=λb dF e=>by
  rcases gd with h1|h1
  ·exact WX b (h1▸dF) e
  rw[h1]at dF;injection dF with dF
  have:=zb.lt;omega
 have:=jq bi (Touch.setCell (F:=λb=>b=g) (Touch.refl _ w9) (p:=⟨g,2,none⟩) rfl v') Va;rw[List.length_append,List.flatMap_append];simpa using this
theorem ck.step {base g k:Nat} {wr w1 w9:World} {a:cp} {vt vb vc vm v':Value} {T:List bR} {C:List bu} {M:List bH} {y:bH} (h:ck base g wr ⟨vt,vb,vc,vm⟩ {a with ao:=a.ao.take k} T C M) (hb:Below wr.heap.size wr w1) (hy:cX.fa wr.heap.size w1 y) (hl:a.ao[k]?=some y.a) (hg:w1.grownBy w9 vm.ownBlock) (gd:v'.ownBlock=vm.ownBlock\/v'.ownBlock=some w1.heap.size)
 (bi:w9.ownsRow base 119 8 v' (M.length+1) (M.flatMap cK++cK y)):ck base g (w9.setCell ⟨g,5,none⟩ v') ⟨vt,vb,vc,v'⟩ {a with ao:=a.ao.take (k+1)} T C (M++[y]):=by
 have zb:=h.below hb;have hn:=λb j7=>h.O6 b j7;have kd:=h.lt;have qp:=h.bb;obtain ⟨hk,Ew⟩:=List.getElem?_eq_some_iff.1 hl;obtain ⟨q1,q2⟩:=dM.push zb.own hg gd bi hy hn (by omega) hb.size;have e:a.ao.take k++[y.a]=a.ao.take (k+1):=by rw[List.take_succ_eq_append_getElem hk,Ew]
 have Nb: ∀b,bz ⟨vt,vb,vc,v'⟩ {a with ao:=a.ao.take (k+1)} T C (M++[y]) b->b≠g:=λb j7=>by
  have j7:bz ⟨vt,vb,vc,v'⟩ {a with ao:=a.ao.take k++[y.a]} T C (M++[y]) b:=by rw[e];exact j7
  rcases q2 b j7 with q|q
  ·exact h.nf b q
  omega
 have U':Row w9 g [.int .i64 a.day,.int .i64 a.rule,vt,vb,vc,vm]:=zb.row.aD zb.lt (Touch.aW (F:=λb=>vm.ownBlock=some b) hg (λb hb=>hb)) (λe=>h.nf g (.inr (.inr (.inr (h.own.jX e)))) rfl);exact ck.put U' (by have q:=q1;rw[show a.ao.take k++[y.a]=a.ao.take (k+1)from e]at q;exact q) Nb (Nat.lt_of_lt_of_le zb.lt hg.size) qp (by show 5<6;omega) rfl
theorem kK.Cm {base g k:Nat} {wr w1 w9:World} {a:cp} {vt vb vc:Value} {T:List bR} {C:List bu} (h:kK base g wr a k vt vb vc T C) (hb:Below wr.heap.size wr w1) (hg:w1.grownBy w9 vt.ownBlock):Row w9 g [.int .i64 a.day,.int .i64 a.rule,vt,vb,vc,.slice none 0 0]:=
 (h.box.below hb).row.aD (h.box.below hb).lt (Touch.aW (F:=λb=>vt.ownBlock=some b) hg (λb hb=>hb)) (λe=>h.box.nf g (.inl (.inl ⟨(λe'=>by rw[h.tn e']at e;cases e),e⟩)) rfl)
theorem ck.Cm {base g:Nat} {wr w1 w9:World} {a:cp} {vt vb vc vm:Value} {T:List bR} {C:List bu} {M:List bH} (h:ck base g wr ⟨vt,vb,vc,vm⟩ a T C M) (hb:Below wr.heap.size wr w1) (hg:w1.grownBy w9 vm.ownBlock):Row w9 g [.int .i64 a.day,.int .i64 a.rule,vt,vb,vc,vm]:=
 (h.below hb).row.aD (h.below hb).lt (Touch.aW (F:=λb=>vm.ownBlock=some b) hg (λ_b hb=>hb)) (λe=>h.nf g (.inr (.inr (.inr (h.own.jX e)))) rfl)
def Cn (a:cp) (w:World) (e:Ending) (w':World):Prop:= ∃x T C M,e= .returned (eu a x)/\dM w.heap.size w' x a T C M/\Below w.heap.size w w'
theorem Cn.of {a:cp} {w wf wg:World} {n nz:Nat} {x:cS} {T:List bR} {C:List bu} {M:List bH} {e:Ending} (he:e= .returned (eu a x)) (h:dM n wf x a T C M) (ht:Touch (λb=>b=nz) wf wg) (hz:w.heap.size<=nz) (hn:nz<n) (hb:Below w.heap.size w wf):Cn a w e wg:=
 ⟨x,T,C,M,he,(h.aD ht (λb dF e=>by have:=(h.o.lt dF).1;omega)).less (by omega),hb.trans (ht.below hb.size (λb e=>by omega))⟩
theorem sz {y:bH} {A1 A2:Option Addr} {n1 n2 c1 c2:Nat} (h1:y.p= .slice A1 n1 c1) (h2:y.t= .slice A2 n2 c2) {u:Value} (hu:u∈cK y):u.oneCell'=true:=by
 unfold cK at hu;rw[h1,h2]at hu;simp only[List.mem_cons,List.not_mem_nil,or_false]at hu;rcases hu with rfl|rfl|rfl|rfl|rfl|rfl|rfl|rfl<;>rfl
theorem Kd {base:Nat} {w:World} {v:Value} {L:List bE} (h:ay ai L base w v):aR iw base w v L:=
 ⟨h,λ_ _=>trivial,λ_ _ _ h=>h.elim,List.pairwise_of_forall (λ_ _ _ h=>h.elim)⟩
theorem ck.start {n0 nD g:Nat} {w:World} {a:cp} {vb:Value} {gc L4:Nat} {C:List bu} {zs:List Value} (hA:Row w g zs) (hb:ay ai a.base n0 w vb) (CV:fV nD w gc L4 C) (Vb:C.Pairwise (λp q=> ∀b,cw.dR p b-> ¬cw.dR q b)) (hn:n0<=nD) (hC:C.map bu.a=a.av) (Zs: ∀b,cx a.base vb b-> ¬bN cw (.slice (some ⟨gc,0,none⟩) C.length L4) C b)
 (qp: ∀b,cx a.base vb b->b≠g) (WY: ∀b,bN cw (.slice (some ⟨gc,0,none⟩) C.length L4) C b->b≠g) (hg:n0<=g) (aI:g<w.heap.size) (hz:zs.length=6:=by rfl):
 ck n0 g ((((((w.setCell ⟨g,0,none⟩ (.int .i64 a.day)).setCell ⟨g,1,none⟩ (.int .i64 a.rule)).setCell ⟨g,2,none⟩ (.slice none 0 0)).setCell ⟨g,3,none⟩ vb).setCell ⟨g,4,none⟩ (.slice (some ⟨gc,0,none⟩) C.length L4)).setCell ⟨g,5,none⟩ (.slice none 0 0)) ⟨.slice none 0 0,vb,.slice (some ⟨gc,0,none⟩) C.length L4,.slice none 0 0⟩ {a with af:=[],ao:=[]} [] C []:=by
 have t6:Touch (λb=>b=g) w ((((((w.setCell ⟨g,0,none⟩ (.int .i64 a.day)).setCell ⟨g,1,none⟩ (.int .i64 a.rule)).setCell ⟨g,2,none⟩ (.slice none 0 0)).setCell ⟨g,3,none⟩ vb).setCell ⟨g,4,none⟩ (.slice (some ⟨gc,0,none⟩) C.length L4)).setCell ⟨g,5,none⟩ (.slice none 0 0)):=by
  iterate 6 refine Touch.setCell (F:=λb=>b=g) ?_ rfl _
  exact Touch.refl _ _
 have nR: ∀b,¬bN dX (.slice none 0 0) [] b:=λb hb=>by
  rcases hb with hb|⟨q,hq,_⟩
  ·exact hb.1 rfl
  cases hq
 have nM: ∀b,¬bN cX (.slice none 0 0) [] b:=λb hb=>by
  rcases hb with hb|⟨q,hq,_⟩
  ·exact hb.1 rfl
  cases hq
 have hB: ∀b,bN iw vb a.base b->cx a.base vb b:=λb hb=>by
  rcases hb with hb|⟨q,_,hq⟩
  ·exact hb
  exact hq.elim
 have hr:Row ((((((w.setCell ⟨g,0,none⟩ (.int .i64 a.day)).setCell ⟨g,1,none⟩ (.int .i64 a.rule)).setCell ⟨g,2,none⟩ (.slice none 0 0)).setCell ⟨g,3,none⟩ vb).setCell ⟨g,4,none⟩ (.slice (some ⟨gc,0,none⟩) C.length L4)).setCell ⟨g,5,none⟩ (.slice none 0 0)) g [.int .i64 a.day,.int .i64 a.rule,.slice none 0 0,vb,.slice (some ⟨gc,0,none⟩) C.length L4,.slice none 0 0]:=by
  match zs,hz,hA with
  |[z0,z1,z2,z3,z4,z5],_,hA=>
   exact (((((hA.set 0 _ (by simp)).set 1 _ (by simp)).set 2 _ (by simp)).set 3 _ (by simp)).set 4 _ (by simp)).set 5 _ (by simp)
 refine ⟨hr,⟨⟨rfl,hC,rfl,aR.nil _ _ _ _ _ (Nat.zero_le _),(Kd hb).aD t6 (λb dF=>qp b (hB b dF)),((bM.tree ⟨CV,Vb⟩).less hn).aD t6 (λb dF=>WY b dF),aR.nil _ _ _ _ _ (Nat.zero_le _),
  λb h1=>(nR b h1).elim,λb h1=>(nR b h1).elim,λb h1=>(nR b h1).elim,λb h1 h2=>Zs b (hB b h1) h2,λb _ h2=>nM b h2,λb _ h2=>nM b h2⟩,World.ownsRow_nil _ _ _ _,λ_=>rfl⟩,Nat.lt_of_lt_of_le aI t6.size,λb dF=>?_,hg⟩
 rcases dF with h|h|h|h
 ·exact (nR b h).elim
 ·exact qp b (hB b h)
 ·exact WY b h
 exact (nM b h).elim
end Go.Proofs.YtbcggaldkihcaaaGreatDoor

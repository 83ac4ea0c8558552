/- An assembly copied, walked: the reference's. -/
import Derived.Test.YtbcggaldkihcaaaGreatDoorZd
import Derived.Test.YtbcggaldkihcaaaGreatDoorQI
import Derived.StillTailTactics
set_option maxHeartbeats 8000000
set_option maxRecDepth 100000
namespace Go.Proofs.YtbcggaldkihcaaaGreatDoor
open Tryz
section
variable {P:Program} {ops:Array Oper} {Q:Exit->Act->World->Prop} {md:Region.Mode} {S:World->Prop} {oi:Oper} {v:Value} {dP:Nat} {listed:Array Bool} {a:Act} {w:World}
theorem aZ (i:Nat) (h:wpAnyH P md ops Q S dP (listed.setIfInBounds i true) (a.put oi.dst v) w) (hi:ops[i]?=some oi:=by exact rfl) (hs:Region.noSelect ops=true:=by kernel_rfl) (hf:Region.free md ops listed i=true:=by kernel_rfl) (hr:(Region.ready md ops listed).contains i=true:=by kernel_rfl)
 (hQ: ∀c a w,Q (.panic c) (a.put oi.dst v) w->Q (.panic c) a w:=by exact λ_ _ _ h=>h) (hS:S w:=by assumption)
 (hy:YieldsIf P ops S oi v a:=by
  refine Or.inl ⟨by rfl,?_⟩;intro w Td
  try dsimp only at Td
  simp only[aK];first|(go_simp;done)|(go_simp;with_reducible rfl)):wpAnyH P md ops Q S (dP+1) listed a w:=
 wpAnyH_take hi hs hf hr hQ hy hS h
theorem fh (i:Nat) (h:wpAnyH P md ops Q S dP (listed.setIfInBounds i true) (a.put oi.dst undef) w) (hi:ops[i]?=some oi:=by exact rfl) (hs:Region.noSelect ops=true:=by kernel_rfl) (hf:Region.free md ops listed i=true:=by kernel_rfl) (hr:(Region.ready md ops listed).contains i=true:=by kernel_rfl)
 (hQ: ∀c a w,Q (.panic c) (a.put oi.dst undef) w->Q (.panic c) a w:=by exact λ_ _ _ h=>h) (hw:Region.wanted oi (yielded ops a.tmps)=false:=by rfl) (hS:S w:=by assumption):wpAnyH P md ops Q S (dP+1) listed a w:=
 wpAnyH_take hi hs hf hr hQ (Or.inr ⟨hw,rfl⟩) hS h
end
open Go.RowKit Go.Lib
theorem O7 {p:Prop} (h:p:=by
 refine wpAnyH_ready (rs:=[11]) (by kernel_rfl) (by simp) ?_;refine AllReadyH.cons rfl (λK hK=>?_) AllReadyH.nil
 try simp only[aK]
 refine iA (by rfl) _ _ 24 (by rfl) W.heap.size 35 r0 (.slice none 0 0) 1 24 underlying24 Vc yd mU mV rfl (by decide) _ _ _ (by rfl) sI.o ⟨w1.heap.size,0,none⟩ 1 1 (lH ⟨l,.slice A3 l.length c3⟩) (by rfl) (by rfl) (λj u hj=>fS hj) (λu hu=>by rw[List.mem_singleton.1 hu];rfl) (by have q:=Ke.o;unfold maxLen;omega) (by have q:=Ke.o;omega) (by have q1:=gf.o.size;have q2:=HB.o.size;have q3:=da.o.size;omega) ?_;intro v' w9 aG aA aU iH;have nm:v'≠ .slice none 0 0:=by simpa using aU
 have HS:ag (kK W.heap.size g (w9.setCell ⟨g,2,none⟩ v') a (k+1) v' (.slice A2 a.base.length c2) (.slice (some ⟨gc,0,none⟩) C.length L4) (T++[⟨l,.slice A3 l.length c3⟩]) C):=I (HT.o.step da.o HO.o HG.o aA iH aG nm);have uC:=HT.o.Cm da.o aA;have xi:ag (Below W.heap.size W (w9.setCell ⟨g,2,none⟩ v')):=I (((HB.o.trans (da.o.mono HB.o.size)).grown aA (Nat.le_trans HB.o.size da.o.size) (λj hj=>by have q:=(sI.o.lt j hj).1;omega)).setCell (by have q:=HT.o.box.bb;show W.heap.size<=g;omega) _);have s2:=uC.cell 2 _ rfl;have f2:=uC.free 2 (by simp);have Tn:=(show w9.cell? ⟨b,o+2,none⟩=some (.slice (some ⟨Rd,ot,none⟩) a.af.length ct)/\w9.cell? ⟨Rd,ot+k,none⟩=some (.slice A1 l.length c1)from ⟨aA.cell (Kf.o _ da.o).1 (λe=>by have q:=(sI.o.lt b e.symm).1;omega),aA.cell (Kf.o _ da.o).2 (λe=>by have q:=(sI.o.lt Rd e.symm).1;omega)⟩)
 obtain ⟨g9,gM,rfl,_,_⟩:=bG aG nm;refine hK.out _ _ Tn (λau=>?_);clear hK K aE aG aA aU iH nm uC;have aE:=au;clear au
 try simp only[Act.put,aM]
 refine aZ 12 ?_
 try simp only[Act.put,aK,aM]
 refine wpAnyH_ready (rs:=[13]) (by kernel_rfl) (by simp) ?_;refine AllReadyH.cons rfl (λK hK=>?_) AllReadyH.nil
 try simp only[aK]
 go_simp;refine hK.out _ _ (⟨(World.cell?_setCell_far _ _ _ _ My.o.1.symm).trans Tn.1,(World.cell?_setCell_far _ _ _ _ My.o.2.symm).trans Tn.2⟩) (λau=>?_);clear hK K aE s2 f2 Tn au;refine wpAnyH_done (by kernel_rfl) ?_ _;go_wp2;go_roundw;case rel=>exact ⟨k+1,_,_,by go_num,by omega,HS.o,xi.o⟩
 case measure=>simp[RowKit.intOf];omega
 ):p:=h
theorem zU {p:Prop} (h:p:=by
 refine wpAnyH_ready (rs:=[21]) (by kernel_rfl) (by simp) ?_;refine AllReadyH.cons rfl (λK hK=>?_) AllReadyH.nil
 try simp only[aK]
 have r0:=HA.o.cell 0 _ rfl;have r1:=HA.o.cell 1 _ rfl;have r2:=HA.o.cell 2 _ rfl;have r3:=HA.o.cell 3 _ rfl;have r4:=HA.o.cell 4 _ rfl;have r5:=HA.o.cell 5 _ rfl;have f0:=HA.o.free 0 (by simp);have f1:=HA.o.free 1 (by simp);have f2:=HA.o.free 2 (by simp);have f3:=HA.o.free 3 (by simp);have f4:=HA.o.free 4 (by simp);have f5:=HA.o.free 5 (by simp);go_simp;have xS:=I (ck.start (a:=a) (n0:=W.heap.size) HA.o (jN.o.less (by omega)) (HD.o.st) HD.o.two (by omega) xh.o FX.o (λb hb=>by have q1:=O8.o b hb;omega) (λb hb=>by have q1:=L6.o b hb;omega) (by omega) (by omega));have O9:=Below.setCell (Below.setCell (Below.setCell (Below.setCell (Below.setCell (Below.setCell kb (p:=⟨gg,0,none⟩) (by show W.heap.size<=gg;omega) (.int .i64 a.day)) (p:=⟨gg,1,none⟩) (by show W.heap.size<=gg;omega) (.int .i64 a.rule)) (p:=⟨gg,2,none⟩) (by show W.heap.size<=gg;omega) (.slice none 0 0)) (p:=⟨gg,3,none⟩) (by show W.heap.size<=gg;omega) (.slice A2 a.base.length c2)) (p:=⟨gg,4,none⟩) (by show W.heap.size<=gg;omega) (.slice (some ⟨gc,0,none⟩) C.length L4)) (p:=⟨gg,5,none⟩) (by show W.heap.size<=gg;omega) (.slice none 0 0);have Vd:=I O9;refine hK.out _ _ (bX.o _ O9) (λau=>?_);clear hK K aE;have aE:=au;clear au
 try simp only[Act.put,aM]
 refine wpAnyH_done (by kernel_rfl) ?_ _;clear aE O9 r0 r1 r2 r3 r4 r5 f0 f1 f2 f3 f4 f5;go_wp2;go_meet;case rel=>exact ⟨_,_,_,_,_,rfl,xS.o,Vd.o⟩
 ):p:=h
theorem G3 (a:cp) (x:cS) (b o:Nat) (w:World) (k0:w.cell? ⟨b,o,none⟩=some (.int .i64 a.day)) (k1:w.cell? ⟨b,o+1,none⟩=some (.int .i64 a.rule)) (k2:w.cell? ⟨b,o+2,none⟩=some x.t) (k3:w.cell? ⟨b,o+3,none⟩=some x.b) (k4:w.cell? ⟨b,o+4,none⟩=some x.c) (k5:w.cell? ⟨b,o+5,none⟩=some x.m)
 (h:jv w w.heap.size x a) (O5:a.base.length<=1048576) (yK:bJ a.av=true) (yh: ∀l∈a.af,l.length<=1048576) (RL: ∀m∈a.ao,m.pat.length<=1048576) (RM: ∀m∈a.ao,m.ax.length<=1048576) (kM:a.af.length<=1048576) (rq:a.ao.length<=1048576):Calls prog 42 #[.pointer (some ⟨b,o,none⟩)] w (Cn a w):=by
 obtain ⟨At,ct,Ab,cb,Ac,Nc,Am,L1,rfl⟩:=h.slices;obtain ⟨W,hW⟩: ∃W:World,W=w.alloc (.cells #[.int .i64 0,.int .i64 0,.slice none 0 0,.slice none 0 0,.slice none 0 0,.slice none 0 0] 29):=⟨_,rfl⟩
 have bW:Below w.heap.size w W:=by rw[hW];exact (Below.refl _ _).alloc (Nat.le_refl _) _
 have sW:w.heap.size+1<=W.heap.size:=by rw[hW];simp
 have Zt:W.heap.size<=w.heap.size+1:=by rw[hW];simp
 have HZ:ag (Row W w.heap.size [.int .i64 0,.int .i64 0,.slice none 0 0,.slice none 0 0,.slice none 0 0,.slice none 0 0]):=I (by rw[hW];exact Row.new w _ _);have gf:=I bW;have DX:=I h;have xT:=I (λ(W':World) (hb:Below W.heap.size W W')=>bW.trans (hb.mono bW.size));have HR:=I (λ(W':World) (hb:Below W.heap.size W W')=>h.on (bW.trans (hb.mono bW.size)) (bW.trans (hb.mono bW.size)).size);have Pa:ag (∀W',Below W.heap.size W W'->iT W' W'.heap.size (.slice Ab a.base.length cb) a.base):=I (λW' hb=>(HR.o W' hb).b);have tx:=I (λ(W':World) (hb:Below W.heap.size W W')=>lk a.av W' _ (HR.o W' hb).c yK);unfold uk at tx;have Zu:=I (λ(W':World) (hb:Below W.heap.size W W')=>kt k0 (bW.trans (hb.mono bW.size)));have xd:=I (λ(W':World) (hb:Below W.heap.size W W')=>kt k1 (bW.trans (hb.mono bW.size)));have jO:=I (λ(W':World) (hb:Below W.heap.size W W')=>kt k2 (bW.trans (hb.mono bW.size)));have sH:=I (λ(W':World) (hb:Below W.heap.size W W')=>kt k3 (bW.trans (hb.mono bW.size)));have CG:=I (λ(W':World) (hb:Below W.heap.size W W')=>kt k4 (bW.trans (hb.mono bW.size)));have Gi:=I (λ(W':World) (hb:Below W.heap.size W W')=>kt k5 (bW.trans (hb.mono bW.size)));have PM:=I yh;have Ve:=I RL;have Vf:=I RM;have lV:=I hW;have qf:b<w.heap.size:=World.block_lt_of_cell? w _ k0;obtain ⟨J,Pb,xu,bw,cL⟩:=info_parts oQ;clear h yK yh RL RM hW k0 k1 k2 k3 k4 k5 bW;go_enter func42,ntmps42;go_upto_region 1 with (fail)
 rw[<-lV.o];go_cut [3] (λs3 wx=> ∃g vb gc L4 C,s3= .pointer (some ⟨g,0,none⟩)/\ck W.heap.size g wx ⟨.slice none 0 0,vb,.slice (some ⟨gc,0,none⟩) C.length L4,.slice none 0 0⟩ {a with af:=[],ao:=[]} [] C []/\Below W.heap.size W wx)
 case first=>
  have RN:Below W.heap.size W W:=Below.refl _ _;have bX:ag (∀w',Below W.heap.size W w'->w'.cell? ⟨b,o,none⟩=some (.int .i64 a.day)/\w'.cell? ⟨b,o+1,none⟩=some (.int .i64 a.rule)/\w'.cell? ⟨b,o+3,none⟩=some (.slice Ab a.base.length cb)/\w'.cell? ⟨b,o+4,none⟩=some (.slice Ac a.av.length Nc)):=I (λX hX=>⟨Zu.o X hX,xd.o X hX,sH.o X hX,CG.o X hX⟩);refine wp_region_held_drew (S:=λw'=>w'.cell? ⟨b,o,none⟩=some (.int .i64 a.day)/\w'.cell? ⟨b,o+1,none⟩=some (.int .i64 a.rule)/\w'.cell? ⟨b,o+3,none⟩=some (.slice Ab a.base.length cb)/\w'.cell? ⟨b,o+4,none⟩=some (.slice Ac a.av.length Nc)) (by kernel_rfl) (bX.o _ RN.drew) (λaE=>?_);refine aZ 0 ?_
  try simp only[Act.put,aK,aM]
  refine aZ 1 ?_
  try simp only[Act.put,aK,aM]
  refine aZ 2 ?_
  try simp only[Act.put,aK,aM]
  refine aZ 3 ?_
  try simp only[Act.put,aK,aM]
  refine aZ 4 ?_
  try simp only[Act.put,aK,aM]
  refine aZ 5 ?_
  try simp only[Act.put,aK,aM]
  refine aZ 6 ?_
  try simp only[Act.put,aK,aM]
  refine aZ 7 ?_
  try simp only[Act.put,aK,aM]
  refine aZ 9 ?_
  try simp only[Act.put,aK,aM]
  refine aZ 10 ?_
  try simp only[Act.put,aK,aM]
  refine aZ 11 ?_
  try simp only[Act.put,aK,aM]
  refine aZ 12 ?_
  try simp only[Act.put,aK,aM]
  refine aZ 14 ?_
  try simp only[Act.put,aK,aM]
  refine aZ 15 ?_
  try simp only[Act.put,aK,aM]
  refine aZ 16 ?_
  try simp only[Act.put,aK,aM]
  refine aZ 17 ?_
  try simp only[Act.put,aK,aM]
  have yP:Below W.heap.size W W.drew:=RN.drew;obtain ⟨V,hV⟩: ∃V,V=W.drew:=⟨_,rfl⟩
  have sV:W.heap.size<=V.heap.size:=by rw[hV];exact Nat.le_refl _
  rw[<-hV]at yP⊢;clear hV;refine wpAnyH_ready (rs:=[8,20]) (by kernel_rfl) (by simp) ?_;refine AllReadyH.cons rfl (λK hK=>?_) (AllReadyH.cons rfl (λK hK=>?_) AllReadyH.nil)
  ·try simp only[aK]
   go_simp;have gl:Below W.heap.size W (V.alloc (.cells #[] 115)):=yP.alloc yP.size _;refine hK.out _ _ (bX.o _ gl) (λau=>?_);clear hK K aE;have aE:=au;clear au
   try simp only[Act.put,aM]
   have xk:Below V.heap.size V (V.alloc (.cells #[] 115)):=(Below.refl _ _).alloc (Nat.le_refl _) _;have Kg:V.heap.size+1<=(V.alloc (.cells #[] 115)).heap.size:=by simp
   have HO:ag ((V.alloc (.cells #[] 115)).ownsRow V.heap.size 115 2 (.slice (some ⟨V.heap.size,0,none⟩) 0 0) 0 []):=I (by simpa using World.ownsRow_made V #[] 0 (Nat.le_refl _) (Nat.zero_le _) rfl);obtain ⟨V1,pH⟩: ∃X,X=V.alloc (.cells #[] 115):=⟨_,rfl⟩
   rw[<-pH]at gl xk Kg HO aE⊢;clear pH
   try replace HA:=I (HA.o.below xk (by omega))
   refine wpAnyH_ready (rs:=[13,20]) (by kernel_rfl) (by simp) ?_;refine AllReadyH.cons rfl (λK hK=>?_) (AllReadyH.cons rfl (λK hK=>?_) AllReadyH.nil)
   ·
    try simp only[aK]
    refine aQ ai (by rfl) _ _ 25 (by rfl) V.heap.size 115 J (.agg #[.int .i64 0,.string ⟨#[]⟩]) 2 24 underlying25 Pb xu bw cL rfl (by decide) _ _ _ (by rfl) HO.o _ a.base _ (by rfl) (Pa.o _ gl) (λ_=>rfl) (λy u hu=>eU hu) (by unfold maxLen;omega) (by omega) (by omega) ?_;intro v2 V2 aY aw cY ci;have jN:ag (ay ai a.base V.heap.size V2 v2):=I (ay.bI ai (size:=2) (λ_=>rfl) (by simpa using aY));have ey:Below W.heap.size W V2:=gl.grown aw gl.size (λj hj=>by have:=(HO.o.lt j hj).1;omega);have Gy:=I (show V1.grownBy V2 (some V.heap.size)from aw)
    have O8:ag (∀b,cx a.base v2 b->(b=V.heap.size\/b=V1.heap.size)/\b<V2.heap.size):=I (λb hb=>by
     refine ⟨?_,(ay.dw jN.o hb).2⟩;rcases ci with h|h
     ·have e:some V.heap.size=some b:=h.symm.trans hb.2;injection e with e
      exact .inl e.symm
     have e:some V1.heap.size=some b:=h.symm.trans hb.2;injection e with e
     exact .inr e.symm)
    have Ex:V1.heap.size<=V2.heap.size:=aw.size;clear aY aw cY ci;obtain ⟨A2,c2,rfl,_⟩:=jN.o
    try replace HA:=I (HA.o.aD (by omega) (Touch.aW (F:=λb=>some V.heap.size=some b) Gy.o (λb hb=>hb)) (λe=>by injection e with e;omega))
    refine hK.out _ _ (bX.o _ ey) (λau=>?_);clear hK K aE;have aE:=au;clear au
    try simp only[Act.put,aM]
    refine wpAnyH_ready (rs:=[18,20]) (by kernel_rfl) (by simp) ?_;refine AllReadyH.cons rfl (λK hK=>?_) (AllReadyH.cons rfl (λK hK=>?_) AllReadyH.nil)
    ·try simp only[aK]
     go_simp;go_at_call 64;refine Calls.mono (tx.o _ ey) ?_;rintro e V3 ⟨gc,L4,C,rfl,wO,hD,tJ⟩;have eh:Below W.heap.size W V3:=ey.trans (tJ.mono ey.size);have Fa:V2.heap.size<=V3.heap.size:=tJ.size;have HD:ag (bM V2.heap.size V3 gc L4 C):=I hD;have xh:ag (C.map bu.a=a.av):=I wO;have L6:ag (∀b,bN cw (.slice (some ⟨gc,0,none⟩) C.length L4) C b->V2.heap.size<=b/\b<V3.heap.size):=I (λb hb=>hD.tree.lt hb);have FX:ag (∀b,cx a.base (.slice A2 a.base.length c2) b-> ¬bN cw (.slice (some ⟨gc,0,none⟩) C.length L4) C b):=I (λb hb hf=>by have q1:=(ay.dw jN.o hb).2;have q2:=(hD.tree.lt hf).1;omega)
     replace jN:=I (jN.o.on tJ)
     try replace HA:=I (HA.o.below tJ (by omega))
     clear hD wO;refine hK.out _ _ (bX.o _ eh) (λau=>?_);clear hK K aE;have aE:=au;clear au
     try simp only[Act.put,aM]
     refine aZ 19 ?_
     try simp only[Act.put,aK,aM]
     refine wpAnyH_ready (rs:=[20]) (by kernel_rfl) (by simp) ?_;refine AllReadyH.cons rfl (λK hK=>?_) AllReadyH.nil
     try simp only[aK]
     go_simp;have kb:Below W.heap.size W (V3.alloc (.cells #[.int .i64 0,.int .i64 0,.slice none 0 0,.slice none 0 0,.slice none 0 0,.slice none 0 0] 29)):=eh.alloc eh.size _;refine hK.out _ _ (bX.o _ kb) (λau=>?_);clear hK K aE;have aE:=au;clear au
     try simp only[Act.put,aM]
     have nO:Below V3.heap.size V3 (V3.alloc (.cells #[.int .i64 0,.int .i64 0,.slice none 0 0,.slice none 0 0,.slice none 0 0,.slice none 0 0] 29)):=(Below.refl _ _).alloc (Nat.le_refl _) _;have L7:V3.heap.size+1<=(V3.alloc (.cells #[.int .i64 0,.int .i64 0,.slice none 0 0,.slice none 0 0,.slice none 0 0,.slice none 0 0] 29)).heap.size:=by simp
     have HA:ag (Row (V3.alloc (.cells #[.int .i64 0,.int .i64 0,.slice none 0 0,.slice none 0 0,.slice none 0 0,.slice none 0 0] 29)) V3.heap.size [.int .i64 0,.int .i64 0,.slice none 0 0,.slice none 0 0,.slice none 0 0,.slice none 0 0]):=I (Row.new V3 _ _);obtain ⟨V4,Fe⟩: ∃X,X=V3.alloc (.cells #[.int .i64 0,.int .i64 0,.slice none 0 0,.slice none 0 0,.slice none 0 0,.slice none 0 0] 29):=⟨_,rfl⟩
     rw[<-Fe]at kb nO L7 HA aE⊢;clear Fe
     try replace HO:=I (aT HO.o nO)
     try replace jN:=I (jN.o.on nO)
     try replace HD:=I (HD.o.below nO)
     obtain ⟨gg,jP⟩: ∃n,n=V3.heap.size:=⟨_,rfl⟩
     rw[<-jP]at HA⊢;have iV:=Nat.le_of_eq jP;have j5:=Nat.le_of_eq jP.symm;clear jP;exact zU
    try simp only[aK]
    go_simp;have eh:Below W.heap.size W (V2.alloc (.cells #[.int .i64 0,.int .i64 0,.slice none 0 0,.slice none 0 0,.slice none 0 0,.slice none 0 0] 29)):=ey.alloc ey.size _;refine hK.out _ _ (bX.o _ eh) (λau=>?_);clear hK K aE;have aE:=au;clear au
    try simp only[Act.put,aM]
    have tJ:Below V2.heap.size V2 (V2.alloc (.cells #[.int .i64 0,.int .i64 0,.slice none 0 0,.slice none 0 0,.slice none 0 0,.slice none 0 0] 29)):=(Below.refl _ _).alloc (Nat.le_refl _) _;have Fa:V2.heap.size+1<=(V2.alloc (.cells #[.int .i64 0,.int .i64 0,.slice none 0 0,.slice none 0 0,.slice none 0 0,.slice none 0 0] 29)).heap.size:=by simp
    have HA:ag (Row (V2.alloc (.cells #[.int .i64 0,.int .i64 0,.slice none 0 0,.slice none 0 0,.slice none 0 0,.slice none 0 0] 29)) V2.heap.size [.int .i64 0,.int .i64 0,.slice none 0 0,.slice none 0 0,.slice none 0 0,.slice none 0 0]):=I (Row.new V2 _ _);obtain ⟨V3,ql⟩: ∃X,X=V2.alloc (.cells #[.int .i64 0,.int .i64 0,.slice none 0 0,.slice none 0 0,.slice none 0 0,.slice none 0 0] 29):=⟨_,rfl⟩
    rw[<-ql]at eh tJ Fa HA aE⊢;clear ql
    try replace HO:=I (aT HO.o tJ)
    try replace jN:=I (jN.o.on tJ)
    try replace HD:=I (HD.o.below tJ)
    refine wpAnyH_ready (rs:=[18]) (by kernel_rfl) (by simp) ?_;refine AllReadyH.cons rfl (λK hK=>?_) AllReadyH.nil
    try simp only[aK]
    go_simp;go_at_call 64;refine Calls.mono (tx.o _ eh) ?_;rintro e V4 ⟨gc,L4,C,rfl,wO,hD,nO⟩;have kb:Below W.heap.size W V4:=eh.trans (nO.mono eh.size);have L7:V3.heap.size<=V4.heap.size:=nO.size;have HD:ag (bM V3.heap.size V4 gc L4 C):=I hD;have xh:ag (C.map bu.a=a.av):=I wO;have L6:ag (∀b,bN cw (.slice (some ⟨gc,0,none⟩) C.length L4) C b->V3.heap.size<=b/\b<V4.heap.size):=I (λb hb=>hD.tree.lt hb);have FX:ag (∀b,cx a.base (.slice A2 a.base.length c2) b-> ¬bN cw (.slice (some ⟨gc,0,none⟩) C.length L4) C b):=I (λb hb hf=>by have q1:=(ay.dw jN.o hb).2;have q2:=(hD.tree.lt hf).1;omega)
    replace jN:=I (jN.o.on nO)
    try replace HA:=I (HA.o.below nO (by omega))
    clear hD wO;refine hK.out _ _ (bX.o _ kb) (λau=>?_);clear hK K aE;have aE:=au;clear au
    try simp only[Act.put,aM]
    refine aZ 19 ?_
    try simp only[Act.put,aK,aM]
    obtain ⟨gg,jP⟩: ∃n,n=V2.heap.size:=⟨_,rfl⟩
    rw[<-jP]at HA⊢;have iV:=Nat.le_of_eq jP;have j5:=Nat.le_of_eq jP.symm;clear jP;exact zU
   try simp only[aK]
   go_simp;have ey:Below W.heap.size W (V1.alloc (.cells #[.int .i64 0,.int .i64 0,.slice none 0 0,.slice none 0 0,.slice none 0 0,.slice none 0 0] 29)):=gl.alloc gl.size _;refine hK.out _ _ (bX.o _ ey) (λau=>?_);clear hK K aE;have aE:=au;clear au
   try simp only[Act.put,aM]
   have tK:Below V1.heap.size V1 (V1.alloc (.cells #[.int .i64 0,.int .i64 0,.slice none 0 0,.slice none 0 0,.slice none 0 0,.slice none 0 0] 29)):=(Below.refl _ _).alloc (Nat.le_refl _) _;have Ex:V1.heap.size+1<=(V1.alloc (.cells #[.int .i64 0,.int .i64 0,.slice none 0 0,.slice none 0 0,.slice none 0 0,.slice none 0 0] 29)).heap.size:=by simp
   have HA:ag (Row (V1.alloc (.cells #[.int .i64 0,.int .i64 0,.slice none 0 0,.slice none 0 0,.slice none 0 0,.slice none 0 0] 29)) V1.heap.size [.int .i64 0,.int .i64 0,.slice none 0 0,.slice none 0 0,.slice none 0 0,.slice none 0 0]):=I (Row.new V1 _ _);obtain ⟨V2,mi⟩: ∃X,X=V1.alloc (.cells #[.int .i64 0,.int .i64 0,.slice none 0 0,.slice none 0 0,.slice none 0 0,.slice none 0 0] 29):=⟨_,rfl⟩
   rw[<-mi]at ey tK Ex HA aE⊢;clear mi
   try replace HO:=I (aT HO.o tK)
   try replace jN:=I (jN.o.on tK)
   try replace HD:=I (HD.o.below tK)
   refine wpAnyH_ready (rs:=[13]) (by kernel_rfl) (by simp) ?_;refine AllReadyH.cons rfl (λK hK=>?_) AllReadyH.nil
   try simp only[aK]
   refine aQ ai (by rfl) _ _ 25 (by rfl) V.heap.size 115 J (.agg #[.int .i64 0,.string ⟨#[]⟩]) 2 24 underlying25 Pb xu bw cL rfl (by decide) _ _ _ (by rfl) HO.o _ a.base _ (by rfl) (Pa.o _ ey) (λ_=>rfl) (λy u hu=>eU hu) (by unfold maxLen;omega) (by omega) (by omega) ?_;intro v2 V3 aY aw cY ci;have jN:ag (ay ai a.base V.heap.size V3 v2):=I (ay.bI ai (size:=2) (λ_=>rfl) (by simpa using aY));have eh:Below W.heap.size W V3:=ey.grown aw ey.size (λj hj=>by have:=(HO.o.lt j hj).1;omega);have Gy:=I (show V2.grownBy V3 (some V.heap.size)from aw)
   have O8:ag (∀b,cx a.base v2 b->(b=V.heap.size\/b=V2.heap.size)/\b<V3.heap.size):=I (λb hb=>by
    refine ⟨?_,(ay.dw jN.o hb).2⟩;rcases ci with h|h
    ·have e:some V.heap.size=some b:=h.symm.trans hb.2;injection e with e
     exact .inl e.symm
    have e:some V2.heap.size=some b:=h.symm.trans hb.2;injection e with e
    exact .inr e.symm)
   have Fa:V2.heap.size<=V3.heap.size:=aw.size;clear aY aw cY ci;obtain ⟨A2,c2,rfl,_⟩:=jN.o
   try replace HA:=I (HA.o.aD (by omega) (Touch.aW (F:=λb=>some V.heap.size=some b) Gy.o (λb hb=>hb)) (λe=>by injection e with e;omega))
   refine hK.out _ _ (bX.o _ eh) (λau=>?_);clear hK K aE;have aE:=au;clear au
   try simp only[Act.put,aM]
   refine wpAnyH_ready (rs:=[18]) (by kernel_rfl) (by simp) ?_;refine AllReadyH.cons rfl (λK hK=>?_) AllReadyH.nil
   try simp only[aK]
   go_simp;go_at_call 64;refine Calls.mono (tx.o _ eh) ?_;rintro e V4 ⟨gc,L4,C,rfl,wO,hD,nO⟩;have kb:Below W.heap.size W V4:=eh.trans (nO.mono eh.size);have L7:V3.heap.size<=V4.heap.size:=nO.size;have HD:ag (bM V3.heap.size V4 gc L4 C):=I hD;have xh:ag (C.map bu.a=a.av):=I wO;have L6:ag (∀b,bN cw (.slice (some ⟨gc,0,none⟩) C.length L4) C b->V3.heap.size<=b/\b<V4.heap.size):=I (λb hb=>hD.tree.lt hb);have FX:ag (∀b,cx a.base (.slice A2 a.base.length c2) b-> ¬bN cw (.slice (some ⟨gc,0,none⟩) C.length L4) C b):=I (λb hb hf=>by have q1:=(ay.dw jN.o hb).2;have q2:=(hD.tree.lt hf).1;omega)
   replace jN:=I (jN.o.on nO)
   try replace HA:=I (HA.o.below nO (by omega))
   clear hD wO;refine hK.out _ _ (bX.o _ kb) (λau=>?_);clear hK K aE;have aE:=au;clear au
   try simp only[Act.put,aM]
   refine aZ 19 ?_
   try simp only[Act.put,aK,aM]
   obtain ⟨gg,jP⟩: ∃n,n=V1.heap.size:=⟨_,rfl⟩
   rw[<-jP]at HA⊢;have iV:=Nat.le_of_eq jP;have j5:=Nat.le_of_eq jP.symm;clear jP;exact zU
  try simp only[aK]
  go_simp;have gl:Below W.heap.size W (V.alloc (.cells #[.int .i64 0,.int .i64 0,.slice none 0 0,.slice none 0 0,.slice none 0 0,.slice none 0 0] 29)):=yP.alloc yP.size _;refine hK.out _ _ (bX.o _ gl) (λau=>?_);clear hK K aE;have aE:=au;clear au
  try simp only[Act.put,aM]
  have xk:Below V.heap.size V (V.alloc (.cells #[.int .i64 0,.int .i64 0,.slice none 0 0,.slice none 0 0,.slice none 0 0,.slice none 0 0] 29)):=(Below.refl _ _).alloc (Nat.le_refl _) _;have Kg:V.heap.size+1<=(V.alloc (.cells #[.int .i64 0,.int .i64 0,.slice none 0 0,.slice none 0 0,.slice none 0 0,.slice none 0 0] 29)).heap.size:=by simp
  have HA:ag (Row (V.alloc (.cells #[.int .i64 0,.int .i64 0,.slice none 0 0,.slice none 0 0,.slice none 0 0,.slice none 0 0] 29)) V.heap.size [.int .i64 0,.int .i64 0,.slice none 0 0,.slice none 0 0,.slice none 0 0,.slice none 0 0]):=I (Row.new V _ _);obtain ⟨V1,pH⟩: ∃X,X=V.alloc (.cells #[.int .i64 0,.int .i64 0,.slice none 0 0,.slice none 0 0,.slice none 0 0,.slice none 0 0] 29):=⟨_,rfl⟩
  rw[<-pH]at gl xk Kg HA aE⊢;clear pH
  try replace HO:=I (aT HO.o xk)
  try replace jN:=I (jN.o.on xk)
  try replace HD:=I (HD.o.below xk)
  refine wpAnyH_ready (rs:=[8]) (by kernel_rfl) (by simp) ?_;refine AllReadyH.cons rfl (λK hK=>?_) AllReadyH.nil
  try simp only[aK]
  go_simp;have ey:Below W.heap.size W (V1.alloc (.cells #[] 115)):=gl.alloc gl.size _;refine hK.out _ _ (bX.o _ ey) (λau=>?_);clear hK K aE;have aE:=au;clear au
  try simp only[Act.put,aM]
  have tK:Below V1.heap.size V1 (V1.alloc (.cells #[] 115)):=(Below.refl _ _).alloc (Nat.le_refl _) _;have Ex:V1.heap.size+1<=(V1.alloc (.cells #[] 115)).heap.size:=by simp
  have HO:ag ((V1.alloc (.cells #[] 115)).ownsRow V1.heap.size 115 2 (.slice (some ⟨V1.heap.size,0,none⟩) 0 0) 0 []):=I (by simpa using World.ownsRow_made V1 #[] 0 (Nat.le_refl _) (Nat.zero_le _) rfl);obtain ⟨V2,mi⟩: ∃X,X=V1.alloc (.cells #[] 115):=⟨_,rfl⟩
  rw[<-mi]at ey tK Ex HO aE⊢;clear mi
  try replace HA:=I (HA.o.below tK (by omega))
  refine wpAnyH_ready (rs:=[13]) (by kernel_rfl) (by simp) ?_;refine AllReadyH.cons rfl (λK hK=>?_) AllReadyH.nil
  try simp only[aK]
  refine aQ ai (by rfl) _ _ 25 (by rfl) V1.heap.size 115 J (.agg #[.int .i64 0,.string ⟨#[]⟩]) 2 24 underlying25 Pb xu bw cL rfl (by decide) _ _ _ (by rfl) HO.o _ a.base _ (by rfl) (Pa.o _ ey) (λ_=>rfl) (λy u hu=>eU hu) (by unfold maxLen;omega) (by omega) (by omega) ?_;intro v2 V3 aY aw cY ci;have jN:ag (ay ai a.base V1.heap.size V3 v2):=I (ay.bI ai (size:=2) (λ_=>rfl) (by simpa using aY));have eh:Below W.heap.size W V3:=ey.grown aw ey.size (λj hj=>by have:=(HO.o.lt j hj).1;omega);have Gy:=I (show V2.grownBy V3 (some V1.heap.size)from aw)
  have O8:ag (∀b,cx a.base v2 b->(b=V1.heap.size\/b=V2.heap.size)/\b<V3.heap.size):=I (λb hb=>by
   refine ⟨?_,(ay.dw jN.o hb).2⟩;rcases ci with h|h
   ·have e:some V1.heap.size=some b:=h.symm.trans hb.2;injection e with e
    exact .inl e.symm
   have e:some V2.heap.size=some b:=h.symm.trans hb.2;injection e with e
   exact .inr e.symm)
  have Fa:V2.heap.size<=V3.heap.size:=aw.size;clear aY aw cY ci;obtain ⟨A2,c2,rfl,_⟩:=jN.o
  try replace HA:=I (HA.o.aD (by omega) (Touch.aW (F:=λb=>some V1.heap.size=some b) Gy.o (λb hb=>hb)) (λe=>by injection e with e;omega))
  refine hK.out _ _ (bX.o _ eh) (λau=>?_);clear hK K aE;have aE:=au;clear au
  try simp only[Act.put,aM]
  refine wpAnyH_ready (rs:=[18]) (by kernel_rfl) (by simp) ?_;refine AllReadyH.cons rfl (λK hK=>?_) AllReadyH.nil
  try simp only[aK]
  go_simp;go_at_call 64;refine Calls.mono (tx.o _ eh) ?_;rintro e V4 ⟨gc,L4,C,rfl,wO,hD,nO⟩;have kb:Below W.heap.size W V4:=eh.trans (nO.mono eh.size);have L7:V3.heap.size<=V4.heap.size:=nO.size;have HD:ag (bM V3.heap.size V4 gc L4 C):=I hD;have xh:ag (C.map bu.a=a.av):=I wO;have L6:ag (∀b,bN cw (.slice (some ⟨gc,0,none⟩) C.length L4) C b->V3.heap.size<=b/\b<V4.heap.size):=I (λb hb=>hD.tree.lt hb);have FX:ag (∀b,cx a.base (.slice A2 a.base.length c2) b-> ¬bN cw (.slice (some ⟨gc,0,none⟩) C.length L4) C b):=I (λb hb hf=>by have q1:=(ay.dw jN.o hb).2;have q2:=(hD.tree.lt hf).1;omega)
  replace jN:=I (jN.o.on nO)
  try replace HA:=I (HA.o.below nO (by omega))
  clear hD wO;refine hK.out _ _ (bX.o _ kb) (λau=>?_);clear hK K aE;have aE:=au;clear au
  try simp only[Act.put,aM]
  refine aZ 19 ?_
  try simp only[Act.put,aK,aM]
  obtain ⟨gg,jP⟩: ∃n,n=V.heap.size:=⟨_,rfl⟩
  rw[<-jP]at HA⊢;have iV:=Nat.le_of_eq jP;have j5:=Nat.le_of_eq jP.symm;clear jP;exact zU
 case rest=>
  obtain ⟨g,vb,gc,L4,C,rfl,hB,LP⟩:=hcut;have Gx:ag (kK W.heap.size g wc a 0 (.slice none 0 0) vb (.slice (some ⟨gc,0,none⟩) C.length L4) [] C):=I ⟨hB,World.ownsRow_nil _ _ _ _,λ_=>rfl⟩;have xS:=I LP;obtain ⟨A2,c2,e2,_⟩:=hB.own.o.b.row;have e2:vb= .slice A2 a.base.length c2:=e2;subst e2;clear hB LP;obtain ⟨r0,Vc,yd,mU,mV⟩:=info_parts Kc;obtain ⟨m0,vL,An,EU,EV⟩:=info_parts rQ;obtain ⟨d0,po,pq,pr,mu⟩:=info_parts oG;go_wp2;go_loopw [4] (λi wr=> ∃(k:Nat) (vt:Value) (T:List bR),i= .int .i64 (k:Int)/\k<=a.af.length/\kK W.heap.size g wr a k vt (.slice A2 a.base.length c2) (.slice (some ⟨gc,0,none⟩) C.length L4) T C/\Below W.heap.size W wr) (λi _=>a.af.length-(RowKit.intOf i).toNat);case atStart=>exact ⟨0,_,_,rfl,Nat.zero_le _,Gx.o,xS.o⟩
  case round=>
   obtain ⟨k,vt,T,rfl,hk,hT,hb⟩:=hrel;have HT:=I hT;have HB:=I hb;have x2:=jO.o wr hb;have Dd:=hT.len hk;by_cases aI:k<a.af.length
   ·obtain ⟨A',c',hv,_,_,cn⟩:=fY DX.o.t;injection hv with e1 _ e3
    subst e1;subst e3;obtain ⟨Rd,ot,rfl,Re,aC⟩:=cn (by omega);have aH:a.af[k]?=some a.af[k]:=List.getElem?_eq_getElem aI;obtain ⟨A1,c1,c0,_,hI⟩:=aC k _ aH
    replace c0:=kt c0 (xT.o wr hb)
    have Rt:=PM.o _ (List.getElem_mem aI);have HG:=I aH;have HI:=I (λ(w':World) (dF:Below wr.heap.size wr w')=>(cz.on hI (Pl.stays _) ((xT.o wr HB.o).trans (dF.mono (xT.o wr HB.o).size)) ((xT.o wr HB.o).trans (dF.mono (xT.o wr HB.o).size)).size:aae w' w'.heap.size _ _));have q2:=hT.box.row.cell 2 _ rfl;have Hl:(k:Int)<(a.af.length:Int):=by omega
    have jA:(0:Int)<=(k:Int):=Int.natCast_nonneg _;have Ke:=I Dd;clear aC hI aH cn hT hb Dd;generalize a.af[k]=l at*;go_upto_region 5 with (fail)
    have jW:=I q2;have Kf:ag (∀w',Below wr.heap.size wr w'->w'.cell? ⟨b,o+2,none⟩=some (.slice (some ⟨Rd,ot,none⟩) a.af.length ct)/\w'.cell? ⟨Rd,ot+k,none⟩=some (.slice A1 l.length c1)):=I (λX hX=>⟨kt x2 hX,kt c0 hX⟩);have My:ag (b≠g/\Rd≠g):=I ⟨by have q:=HT.o.box.bb;omega,by have q:=HT.o.box.bb;omega⟩;have RO:Below wr.heap.size wr wr:=Below.refl _ _;refine wp_region_held_drew (S:=λw'=>w'.cell? ⟨b,o+2,none⟩=some (.slice (some ⟨Rd,ot,none⟩) a.af.length ct)/\w'.cell? ⟨Rd,ot+k,none⟩=some (.slice A1 l.length c1)) (by kernel_rfl) (Kf.o _ RO.drew) (λaE=>?_);obtain ⟨wd,Pc⟩: ∃X,X=wr.drew:=⟨_,rfl⟩
    have P6:Below wr.heap.size wr wd:=by rw[Pc];exact RO.drew
    rw[<-Pc]at aE⊢;clear Pc;have ue:=I (pV l wd _ (HI.o wd P6) Rt);unfold rY at ue;have uD:=I P6;clear q2 c0 x2 P6;refine aZ 0 ?_
    try simp only[Act.put,aK,aM]
    refine aZ 2 ?_
    try simp only[Act.put,aK,aM]
    refine aZ 3 ?_
    try simp only[Act.put,aK,aM]
    refine aZ 4 ?_
    try simp only[Act.put,aK,aM]
    refine aZ 5 ?_
    try simp only[Act.put,aK,aM]
    refine aZ 6 ?_
    try simp only[Act.put,aK,aM]
    refine aZ 7 ?_
    try simp only[Act.put,aK,aM]
    refine aZ 8 ?_
    try simp only[Act.put,aK,aM]
    refine wpAnyH_ready (rs:=[1,9]) (by kernel_rfl) (by simp) ?_;refine AllReadyH.cons rfl (λK hK=>?_) (AllReadyH.cons rfl (λK hK=>?_) AllReadyH.nil)
    ·
     try simp only[aK]
     have mw:=kt jW.o uD.o;go_simp;refine hK.out _ _ ‹_› (λau=>?_);clear hK K aE mw;have aE:=au;clear au
     try simp only[Act.put,aM]
     refine wpAnyH_ready (rs:=[9]) (by kernel_rfl) (by simp) ?_;refine AllReadyH.cons rfl (λK hK=>?_) AllReadyH.nil
     try simp only[aK]
     go_simp;go_at_call 65;refine Calls.mono (ue.o) ?_;rintro e w1 ⟨A3,c3,rfl,hO,bw⟩;have gZ:=uD.o.trans (bw.mono uD.o.size);have da:ag (Below wr.heap.size wr (w1.alloc (.cells #[.slice A3 l.length c3] 35))):=I (gZ.alloc gZ.size _);have HO:ag (dX.fa wr.heap.size (w1.alloc (.cells #[.slice A3 l.length c3] 35)) (⟨l,.slice A3 l.length c3⟩:bR)):=I (show ay ak l _ _ _ from (hO.less uD.o.size).on ((Below.refl _ _).alloc (Nat.le_refl _) _));have sI:=I (aT HT.o.tr da.o);have tN:=I gZ;clear hO bw gZ;refine hK.out _ _ (Kf.o _ tN.o) (λau=>?_);clear hK K aE;have aE:=au;clear au
     try simp only[Act.put,aM]
     refine wpAnyH_ready (rs:=[10]) (by kernel_rfl) (by simp) ?_;refine AllReadyH.cons rfl (λK hK=>?_) AllReadyH.nil
     try simp only[aK]
     go_simp;refine hK.out _ _ (Kf.o _ da.o) (λau=>?_);clear hK K aE;have aE:=au;clear au
     try simp only[Act.put,aM]
     exact O7
    try simp only[aK]
    go_simp;go_at_call 65;refine Calls.mono (ue.o) ?_;rintro e w1 ⟨A3,c3,rfl,hO,bw⟩;have gZ:=uD.o.trans (bw.mono uD.o.size);have da:ag (Below wr.heap.size wr (w1.alloc (.cells #[.slice A3 l.length c3] 35))):=I (gZ.alloc gZ.size _);have HO:ag (dX.fa wr.heap.size (w1.alloc (.cells #[.slice A3 l.length c3] 35)) (⟨l,.slice A3 l.length c3⟩:bR)):=I (show ay ak l _ _ _ from (hO.less uD.o.size).on ((Below.refl _ _).alloc (Nat.le_refl _) _));have sI:=I (aT HT.o.tr da.o);have tN:=I gZ;clear hO bw gZ;refine hK.out _ _ (Kf.o _ tN.o) (λau=>?_);clear hK K aE;have aE:=au;clear au
    try simp only[Act.put,aM]
    refine wpAnyH_ready (rs:=[1,10]) (by kernel_rfl) (by simp) ?_;refine AllReadyH.cons rfl (λK hK=>?_) (AllReadyH.cons rfl (λK hK=>?_) AllReadyH.nil)
    ·
     try simp only[aK]
     have mw:=kt jW.o tN.o;go_simp;refine hK.out _ _ ‹_› (λau=>?_);clear hK K aE mw;have aE:=au;clear au
     try simp only[Act.put,aM]
     refine wpAnyH_ready (rs:=[10]) (by kernel_rfl) (by simp) ?_;refine AllReadyH.cons rfl (λK hK=>?_) AllReadyH.nil
     try simp only[aK]
     go_simp;refine hK.out _ _ (Kf.o _ da.o) (λau=>?_);clear hK K aE;have aE:=au;clear au
     try simp only[Act.put,aM]
     exact O7
    try simp only[aK]
    go_simp;refine hK.out _ _ (Kf.o _ da.o) (λau=>?_);clear hK K aE;have aE:=au;clear au
    try simp only[Act.put,aM]
    refine wpAnyH_ready (rs:=[1]) (by kernel_rfl) (by simp) ?_;refine AllReadyH.cons rfl (λK hK=>?_) AllReadyH.nil
    try simp only[aK]
    have mw:=kt jW.o da.o;go_simp;refine hK.out _ _ ‹_› (λau=>?_);clear hK K aE mw;have aE:=au;clear au
    try simp only[Act.put,aM]
    exact O7
   have eA: ¬(k:Int)<(a.af.length:Int):=by omega
   have Ew:k=a.af.length:=by omega
   have RG:ag (ck W.heap.size g wr ⟨vt,.slice A2 a.base.length c2,.slice (some ⟨gc,0,none⟩) C.length L4,.slice none 0 0⟩ {a with ao:=a.ao.take 0} T C []):=I (by have q:=hT.box;rw[Ew,List.take_length]at q;exact q);obtain ⟨A4,c4,e4,_⟩:=hT.box.own.o.t.row;subst e4;have x5:=Gi.o wr hb;clear hT hb Ew Dd HT;go_wp2;go_loopw [5] (λi wr=> ∃(k:Nat) (vm:Value) (M:List bH),i= .int .i64 (k:Int)/\k<=a.ao.length/\ck W.heap.size g wr ⟨.slice A4 T.length c4,.slice A2 a.base.length c2,.slice (some ⟨gc,0,none⟩) C.length L4,vm⟩ {a with ao:=a.ao.take k} T C M/\Below W.heap.size W wr) (λi _=>a.ao.length-(RowKit.intOf i).toNat);case atStart=>exact ⟨0,_,_,rfl,Nat.zero_le _,RG.o,HB.o⟩
   case round=>
    obtain ⟨k',vm,M,rfl,di,hM,dF⟩:=hrel;have HM:=I hM;have Kh:=I dF;have x5:=Gi.o wr dF
    have pO:ag (M.length=k'):=I (by
     have:=congrArg List.length hM.own.o.mm;rw[List.length_map,List.length_take]at this;omega)
    by_cases Ey:k'<a.ao.length
    ·obtain ⟨A',c',hv,_,_,cn⟩:=fQ DX.o.m;injection hv with e1 _ e3
     subst e1;subst e3;obtain ⟨bm,om,rfl,KU,aC⟩:=cn (by omega);have aH:a.ao[k']?=some a.ao[k']:=List.getElem?_eq_getElem Ey;obtain ⟨A5,c5,A6,c6,RP⟩:=aC k' _ aH;have sG:=Ve.o _ (List.getElem_mem Ey);have Hk:=Vf.o _ (List.getElem_mem Ey);have HG:=I aH;clear aC aH cn;generalize a.ao[k']=m at*;have hP:=RP.on (xT.o wr dF) (xT.o wr dF).size KU;have z0:=hP.k0;have z1:=hP.k1;have z2:=hP.k2;have z3:=hP.k3;have z4:=hP.k4;have z5:=hP.k5;have z6:=hP.k6;have z7:=hP.k7;have uJ:=I (λ(w':World) (dF:Below wr.heap.size wr w')=>(cz.on hP.fF (Pl.stays _) dF dF.size:bg w' w'.heap.size _ _));have tY:=I (λ(w':World) (dF:Below wr.heap.size wr w')=>(cz.on hP.ints (Pl.stays _) dF dF.size:aae w' w'.heap.size _ _));have rc:(k':Int)<(a.ao.length:Int):=by omega
     have H0:(0:Int)<=(k':Int):=Int.natCast_nonneg _;have Mx:=I rq;clear hP RP dF hM;have Vg:ag (Below wr.heap.size wr ((wr.alloc (.cells #[.string m.al,.int .i64 m.br,.slice A5 m.pat.length c5,.int .i64 m.a8,.int .i64 m.fin,.int .i64 m.aj,.slice A6 m.ax.length c6,.int .i64 m.result] 119)).alloc (.cells #[] 93))):=I (((Below.refl _ _).alloc (Nat.le_refl _) _).alloc (by simp) _);have mB:ag (Row ((wr.alloc (.cells #[.string m.al,.int .i64 m.br,.slice A5 m.pat.length c5,.int .i64 m.a8,.int .i64 m.fin,.int .i64 m.aj,.slice A6 m.ax.length c6,.int .i64 m.result] 119)).alloc (.cells #[] 93)) wr.heap.size [.string m.al,.int .i64 m.br,.slice A5 m.pat.length c5,.int .i64 m.a8,.int .i64 m.fin,.int .i64 m.aj,.slice A6 m.ax.length c6,.int .i64 m.result]):=I ((Row.new wr _ _).below ((Below.refl _ _).alloc (Nat.le_refl _) _) (by simp));have eQ:ag (((wr.alloc (.cells #[.string m.al,.int .i64 m.br,.slice A5 m.pat.length c5,.int .i64 m.a8,.int .i64 m.fin,.int .i64 m.aj,.slice A6 m.ax.length c6,.int .i64 m.result] 119)).alloc (.cells #[] 93)).ownsRow (wr.heap.size+1) 93 4 (.slice (some ⟨wr.heap.size+1,0,none⟩) 0 0) 0 []):=I (by simpa using World.ownsRow_made (base:=wr.heap.size+1) (wr.alloc (.cells #[.string m.al,.int .i64 m.br,.slice A5 m.pat.length c5,.int .i64 m.a8,.int .i64 m.fin,.int .i64 m.aj,.slice A6 m.ax.length c6,.int .i64 m.result] 119)) #[] 0 (by simp) (Nat.zero_le _) rfl);have Vh:=I (uJ.o _ Vg.o);go_wp2_with (at_builtin;refine eI ah rfl _ _ 36 rfl (wr.heap.size+1) 93 d0 (.agg #[.int .i64 0,.int .i64 0,.string ⟨#[]⟩,.string ⟨#[]⟩]) 4 48 underlying36 po pq pr mu rfl (by decide) _ _ _ rfl eQ.o _ m.pat _ rfl Vh.o (λ_=>rfl) (λy u hu=>cJ hu) ?c3 ?c4 ?c5 ?_);case c3=>unfold maxLen;omega
     case c4=>omega
     intro p' w1 fe gC uv;have jh:ag (ay ah m.pat (wr.heap.size+1) w1 p'):=I (ay.bI ah (size:=4) (λ_=>rfl) (by simpa using fe));obtain ⟨A7,c7,rfl,_⟩:=jh.o;have da:ag (Below wr.heap.size wr w1):=I (Vg.o.grown gC Vg.o.size (λj hj=>by have q:=(eQ.o.lt j hj).1;omega));have To:ag (Row w1 wr.heap.size [.string m.al,.int .i64 m.br,.slice A5 m.pat.length c5,.int .i64 m.a8,.int .i64 m.fin,.int .i64 m.aj,.slice A6 m.ax.length c6,.int .i64 m.result]):=I (mB.o.aD (by simp;omega) (Touch.aW (F:=λb=>some (wr.heap.size+1)=some b) gC (λb hb=>hb)) (λe=>by injection e with e;omega));have Pd:wr.heap.size+1<w1.heap.size:=by have q:=gC.size;simp at q;omega
     clear fe gC uv z0 z1 z2 z3 z4 z5 z6 z7 x5;have y2:=To.o.cell 2 _ rfl;have Zv:=To.o.free 2 (by simp);have y6:=To.o.cell 6 _ rfl;go_wp2_with (fail);obtain ⟨w2,P7⟩: ∃X,X=w1.setCell ⟨wr.heap.size,2,none⟩ (.slice A7 m.pat.length c7):=⟨_,rfl⟩
     rw[<-P7];have dy:ag (Below wr.heap.size wr w2):=I (by rw[P7];exact da.o.setCell (Nat.le_refl _) _);have Vi:ag (Row w2 wr.heap.size [.string m.al,.int .i64 m.br,.slice A7 m.pat.length c7,.int .i64 m.a8,.int .i64 m.fin,.int .i64 m.aj,.slice A6 m.ax.length c6,.int .i64 m.result]):=I (by rw[P7];exact To.o.set 2 _ (by simp))
     have ju:ag (ay ah m.pat (wr.heap.size+1) w2 (.slice A7 m.pat.length c7)):=I (by
      rw[P7];exact jh.o.aD (F:=λb=>b=wr.heap.size) (Touch.setCell (F:=λb=>b=wr.heap.size) (Touch.refl _ _) rfl _) (λb hb e=>by have q:=(ay.dw jh.o hb).1;omega))
     have qc:wr.heap.size+1<w2.heap.size:=by rw[P7];simpa using Pd
     clear P7 y2 Zv y6;have PN:=I (pV m.ax w2 _ (tY.o w2 dy.o) Hk);unfold rY at PN;refine PN.o.mono ?_;rintro e w3 ⟨A8,n',rfl,KK,dB⟩;have dI:ag (Below wr.heap.size wr w3):=I (dy.o.trans (dB.mono dy.o.size));have oo:=I (Vi.o.below dB (by omega));have Ls:=I KK;have Vj:=I (ju.o.on dB);have I7:=I (show w2.heap.size<=w3.heap.size from dB.size);have Ki:ag (∀b,cx m.pat (.slice A7 m.pat.length c7) b->b<w2.heap.size):=I (λb hb=>(ay.dw ju.o hb).2);clear KK dB;obtain ⟨w4,Ap⟩: ∃X,X=(w3.setCell ⟨wr.heap.size,6,none⟩ (.slice A8 m.ax.length n')).alloc (.cells #[.string m.al,.int .i64 m.br,.slice A7 m.pat.length c7,.int .i64 m.a8,.int .i64 m.fin,.int .i64 m.aj,.slice A8 m.ax.length n',.int .i64 m.result] 119):=⟨_,rfl⟩
     have kC:ag (Below wr.heap.size wr w4):=I (by rw[Ap];exact (dI.o.setCell (Nat.le_refl _) _).alloc (by simpa using dI.o.size) _)
     have t4:Touch (λb=>b=wr.heap.size) w3 w4:=by
      rw[Ap];exact (Touch.setCell (F:=λb=>b=wr.heap.size) (Touch.refl _ _) rfl _).trans (Touch.dV ((Below.refl _ _).alloc (Nat.le_refl _) _))
     have Pe:ag (cX.fa wr.heap.size w4 (⟨m,.slice A7 m.pat.length c7,.slice A8 m.ax.length n'⟩:bH)):=I ⟨(Vj.o.less (Nat.le_succ _)).aD t4 (λb hb e=>by have q:=(ay.dw ju.o hb).1;omega),(Ls.o.less dy.o.size).aD t4 (λb hb e=>by have q:=(ay.dw Ls.o hb).1;omega),λb h1 h2=>by have q1:=Ki.o b h1;have q2:=(ay.dw Ls.o h2).1;omega⟩;have G4:=I (HM.o.below kC.o).own.mr
     have L8:ag (∀j u,(cK ⟨m,.slice A7 m.pat.length c7,.slice A8 m.ax.length n'⟩)[j]?=some u->w4.cell? ((⟨w3.heap.size,0,none⟩:Addr).add j)=some u):=I (λj u hj=>by
      have h:=fS (w:=w3.setCell ⟨wr.heap.size,6,none⟩ (.slice A8 m.ax.length n')) (T:=119) hj;rw[show (w3.setCell ⟨wr.heap.size,6,none⟩ (.slice A8 m.ax.length n')).heap.size=w3.heap.size by simp]at h;rw[Ap];exact h)
     clear t4;have y0:=oo.o.cell 0 _ rfl;have y1:=oo.o.cell 1 _ rfl;have y2:=oo.o.cell 2 _ rfl;have y3:=oo.o.cell 3 _ rfl;have y4:=oo.o.cell 4 _ rfl;have y5:=oo.o.cell 5 _ rfl;have y6:=oo.o.cell 6 _ rfl;have Vk:=oo.o.free 6 (by simp);have y7:=oo.o.cell 7 _ rfl;have g5:=(HM.o.below dI.o).row.cell 5 _ rfl;have RQ:=I Ap;rw[Ap]at G4 L8;clear Ap;go_wp2_with (at_builtin;refine wpList_append_own_at _ rfl _ _ 27 rfl W.heap.size 119 m0 (.agg #[.string ⟨#[]⟩,.int .i64 0,.slice none 0 0,.int .i64 0,.int .i64 0,.int .i64 0,.slice none 0 0,.int .i64 0]) 8 104 underlying27 vL An EU EV rfl (by decide) _ _ _ rfl G4.o ⟨w3.heap.size,0,none⟩ 1 1 (cK ⟨m,.slice A7 m.pat.length c7,.slice A8 m.ax.length n'⟩) rfl rfl (λj u hj=>L8.o j u hj) (λu hu=>sz rfl rfl hu) ?d3 ?d4 ?d5 ?_);case d3=>have q:=pO.o;have q2:=Mx.o;unfold maxLen;omega
     case d4=>have q:=pO.o;have q2:=Mx.o;omega
     case d5=>have q1:=gf.o.size;have q2:=Kh.o.size;have q3:=dI.o.size;simp;omega
     rw[<-RQ.o];intro v' w9 aG aA aU iH;have nm:v'≠ .slice none 0 0:=by simpa using aU
     have HS:=I (HM.o.step kC.o Pe.o HG.o aA (by rw[RQ.o];simpa using iH) aG);have uC:=HM.o.Cm kC.o aA;have xi:ag (Below W.heap.size W (w9.setCell ⟨g,5,none⟩ v')):=I (((Kh.o.trans (kC.o.mono Kh.o.size)).grown aA (Nat.le_trans Kh.o.size kC.o.size) (λj hj=>by have q:=(G4.o.lt j hj).1;omega)).setCell (by have q:=HM.o.bb;show W.heap.size<=g;omega) _);have s5:=uC.cell 5 _ rfl;have f5:=uC.free 5 (by simp);obtain ⟨g9,gM,rfl,_,_⟩:=bG aG nm;clear aG aA aU iH nm uC
     try clear y0 y1 y2 y3 y4 y5 y6 Vk y7 g5
     go_wp2;go_roundw;case rel=>first|exact ⟨k'+1,_,_,by go_num,by omega,HS.o,xi.o⟩|((repeat apply Exists.intro);refine ⟨⟨k'+1,_,_,?_,by omega,HS.o,xi.o⟩,rfl⟩;go_num)
     case measure=>simp[RowKit.intOf];omega
    have Vl: ¬(k':Int)<(a.ao.length:Int):=by omega
    have Kj:k'=a.ao.length:=by omega
    have Co:ag (ck W.heap.size g wr ⟨.slice A4 T.length c4,.slice A2 a.base.length c2,.slice (some ⟨gc,0,none⟩) C.length L4,vm⟩ a T C M):=I (by have q:=hM;rw[Kj,List.take_length]at q;exact q);obtain ⟨A9,R1,e9,_⟩:=hM.own.o.m.row;subst e9;have mR:=HZ.o.below dF (by omega);have q0:=Co.o.row.cell 0 _ rfl;have q1:=Co.o.row.cell 1 _ rfl;have q2:=Co.o.row.cell 2 _ rfl;have q3:=Co.o.row.cell 3 _ rfl;have q4:=Co.o.row.cell 4 _ rfl;have q5:=Co.o.row.cell 5 _ rfl;have r0:=mR.cell 0 _ rfl;have r1:=mR.cell 1 _ rfl;have r2:=mR.cell 2 _ rfl;have r3:=mR.cell 3 _ rfl;have r4:=mR.cell 4 _ rfl;have r5:=mR.cell 5 _ rfl;have s0:=mR.free 0 (by simp);have s1:=mR.free 1 (by simp);have s2:=mR.free 2 (by simp);have s3:=mR.free 3 (by simp);have s4:=mR.free 4 (by simp);have s5:=mR.free 5 (by simp);have Nb:g≠w.heap.size:=by have q:=Co.o.bb;omega
    have RR:=I (xT.o wr dF);clear hM dF Kj mR HM;go_wp2
    have gD: ∀(ac:Go.Act) (w':World),ac.tmps[2]?=some (.pointer (some ⟨w.heap.size,0,none⟩))->w'.cell? ⟨w.heap.size,0,none⟩=some (.int .i64 a.day)->w'.cell? ⟨w.heap.size,1,none⟩=some (.int .i64 a.rule)->w'.cell? ⟨w.heap.size,2,none⟩=some (.slice A4 T.length c4)->w'.cell? ⟨w.heap.size,3,none⟩=some (.slice A2 a.base.length c2)->w'.cell? ⟨w.heap.size,4,none⟩=some (.slice (some ⟨gc,0,none⟩) C.length L4)->w'.cell? ⟨w.heap.size,5,none⟩=some (.slice A9 M.length R1)->(results f42 ac.tmps).run prog w'= .ok (.agg #[.int .i64 a.day,.int .i64 a.rule,.slice A4 T.length c4,.slice A2 a.base.length c2,.slice (some ⟨gc,0,none⟩) C.length L4,.slice A9 M.length R1]) w':=by
     intro ac w' ha nB nC nE ob oc od;simp[results,results42,go_sem,ha,nB,nC,nE,ob,oc,od]
    refine bodyPost_ret (gD _ _ rfl (by simp[go_sem,r0]) (by simp[go_sem,r1]) (by simp[go_sem,r2]) (by simp[go_sem,r3]) (by simp[go_sem,r4]) (by simp[go_sem,r5])) rfl ?_;refine Cn.of (n:=W.heap.size) (nz:=w.heap.size) rfl Co.o.own ?_ (by omega) (by omega) RR.o
    iterate 6 refine Touch.setCell (F:=λb=>b=w.heap.size) ?_ rfl _
    exact Touch.refl _ _
end Go.Proofs.YtbcggaldkihcaaaGreatDoor

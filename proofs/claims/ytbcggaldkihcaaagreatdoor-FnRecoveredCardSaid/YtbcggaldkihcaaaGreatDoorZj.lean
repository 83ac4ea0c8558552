/- A motion proposed in an assembly of the call's own, walked: the reference's. -/
import Derived.Test.YtbcggaldkihcaaaGreatDoorZi
import Derived.Laws.MakeOwn
set_option maxHeartbeats 16000000
set_option maxRecDepth 100000
namespace Go.Proofs.YtbcggaldkihcaaaGreatDoor
open Tryz
open Go.RowKit Go.Lib
theorem kG (w:World) (n:Nat) (hn:n<=1048576): ∃w',(Instr.makeSlice 35 (.int .i64 (n:Int)) (.int .i64 (n:Int))).run prog w= .ok (.slice (some ⟨w.heap.size,0,none⟩) n n) w'/\
 ay ak (List.replicate n (0:Int)) w.heap.size w' (.slice (some ⟨w.heap.size,0,none⟩) n n)/\Below w.heap.size w w'/\w.heap.size+1<=w'.heap.size:=by
 obtain ⟨i,hi,dK,ez,ek⟩:=info_parts iD;have hr:=run_make (P:=prog) w 35 2 i _ underlying35 hi dK .i64 .i64 n n (by omega) (Int.le_refl _) (by rw[ek];omega) (by omega);simp only[Int.toNat_natCast]at hr;refine ⟨_,hr,⟨_,n,by rw[List.length_replicate],by rw[List.length_replicate];exact Nat.le_refl _,by unfold maxLen;omega,λ_=>⟨w.heap.size,rfl,Nat.le_refl _,by simp,?_⟩⟩,(Below.refl _ _).alloc (Nat.le_refl _) _,by simp⟩;have:=Row.new w (madeCells (Value.int .i64 0).cells (n*i.size)) 2
 have e2:(madeCells (Value.int .i64 0).cells (n*i.size)).toList=(List.replicate n (0:Int)).flatMap ak:=by
  rw[ez,Nat.mul_one,je,List.map_replicate];exact toList_madeCells_one _ n
 rw[<-e2];exact this
theorem ck.Ng {base ba:Nat} {wr w1 w9:World} {a:cp} {vt vb vc vm v':Value} {T:List bR} {C:List bu} {M:List bH} {y:bH} (h:ck base ba wr ⟨vt,vb,vc,vm⟩ a T C M) (hb:Below wr.heap.size wr w1) (hy:cX.fa wr.heap.size w1 y) (hg:w1.grownBy w9 vm.ownBlock) (gd:v'.ownBlock=vm.ownBlock\/v'.ownBlock=some w1.heap.size)
 (bi:w9.ownsRow base 119 8 v' (M.length+1) (M.flatMap cK++cK y)):ck base ba (w9.setCell ⟨ba,5,none⟩ v') ⟨vt,vb,vc,v'⟩ {a with ao:=a.ao++[y.a]} T C (M++[y]):=by
 have zb:=h.below hb;have kd:=h.lt;have qp:=h.bb;obtain ⟨q1,q2⟩:=dM.push zb.own hg gd bi hy (λb j7=>h.O6 b j7) (by omega) hb.size
 exact ck.put (h.Cm hb hg) q1 (λb j7=>by
  rcases q2 b j7 with q|q
  ·exact h.nf b q
  omega) (Nat.lt_of_lt_of_le zb.lt hg.size) qp (by show 5<6;omega) rfl
theorem nY {p:Prop} (h:p:=by
 refine cV 30 (λK hK=>?_)
 try simp only[aK]
 have a0:=dW.o.cell 0 _ rfl;have a1:=dW.o.cell 1 _ rfl;have a2:=dW.o.cell 2 _ rfl;have a3:=dW.o.cell 3 _ rfl;have a4:=dW.o.cell 4 _ rfl;have a5:=dW.o.cell 5 _ rfl;have a6:=dW.o.cell 6 _ rfl;have a7:=dW.o.cell 7 _ rfl;have f0:=dW.o.free 0 (by simp);have f1:=dW.o.free 1 (by simp);have f2:=dW.o.free 2 (by simp);have f3:=dW.o.free 3 (by simp);have f4:=dW.o.free 4 (by simp);have f5:=dW.o.free 5 (by simp);have f6:=dW.o.free 6 (by simp);have f7:=dW.o.free 7 (by simp);go_simp
 have RR:ag (Below U.heap.size U ((((((((V4.setCell ⟨na,0,none⟩ (.string d.al)).setCell ⟨na,1,none⟩ (.int .i64 (j:Int))).setCell ⟨na,2,none⟩ (.slice A7 d.patch.length c7)).setCell ⟨na,3,none⟩ (.int .i64 d.start)).setCell ⟨na,4,none⟩ (.int .i64 d.aB)).setCell ⟨na,5,none⟩ (.int .i64 d.aj)).setCell ⟨na,6,none⟩ (.slice (some ⟨nk,0,none⟩) a.af.length a.af.length)).setCell ⟨na,7,none⟩ (.int .i64 0))):=I (by
  iterate 8 refine Below.setCell ?_ (by show U.heap.size<=na;omega) _
  exact iz)
 have Xl:ag (Touch (λb=>b=na) V4 ((((((((V4.setCell ⟨na,0,none⟩ (.string d.al)).setCell ⟨na,1,none⟩ (.int .i64 (j:Int))).setCell ⟨na,2,none⟩ (.slice A7 d.patch.length c7)).setCell ⟨na,3,none⟩ (.int .i64 d.start)).setCell ⟨na,4,none⟩ (.int .i64 d.aB)).setCell ⟨na,5,none⟩ (.int .i64 d.aj)).setCell ⟨na,6,none⟩ (.slice (some ⟨nk,0,none⟩) a.af.length a.af.length)).setCell ⟨na,7,none⟩ (.int .i64 0))):=I (by
  iterate 8 refine Touch.setCell (F:=λb=>b=na) ?_ rfl _
  exact Touch.refl _ _)
 have ZZ:ag (Row ((((((((V4.setCell ⟨na,0,none⟩ (.string d.al)).setCell ⟨na,1,none⟩ (.int .i64 (j:Int))).setCell ⟨na,2,none⟩ (.slice A7 d.patch.length c7)).setCell ⟨na,3,none⟩ (.int .i64 d.start)).setCell ⟨na,4,none⟩ (.int .i64 d.aB)).setCell ⟨na,5,none⟩ (.int .i64 d.aj)).setCell ⟨na,6,none⟩ (.slice (some ⟨nk,0,none⟩) a.af.length a.af.length)).setCell ⟨na,7,none⟩ (.int .i64 0)) na [.string d.al,.int .i64 (j:Int),.slice A7 d.patch.length c7,.int .i64 d.start,.int .i64 d.aB,.int .i64 d.aj,.slice (some ⟨nk,0,none⟩) a.af.length a.af.length,.int .i64 0]):=I ((((((((dW.o.set 0 _ (by simp)).set 1 _ (by simp)).set 2 _ (by simp)).set 3 _ (by simp)).set 4 _ (by simp)).set 5 _ (by simp)).set 6 _ (by simp)).set 7 _ (by simp));have Z1:=I (dz.o.aD Xl.o (λb hb e=>by have q:=uF.o b hb;have e:b=na:=e;omega));have Z2:=I (fz.o.aD Xl.o (λb hb e=>by have e1:some nk=some b:=hb.2;injection e1 with e1;have e:b=na:=e;omega));have Ki:ag (∀b,cx d.patch (.slice A7 d.patch.length c7) b-> ¬cx (List.replicate a.af.length (0:Int)) (.slice (some ⟨nk,0,none⟩) a.af.length a.af.length) b):=I (λb hb cL=>by have q:=uF.o b hb;have e1:some nk=some b:=cL.2;injection e1 with e1;omega);refine hK.out _ _ (λh=>by simp at h) ?_;clear hK K
 try simp only[Act.put,aM]
 refine dh (by kernel_rfl) ?_ _;clear a0 a1 a2 a3 a4 a5 a6 a7 f0 f1 f2 f3 f4 f5 f6 f7;go_wp2;go_meet;case rel=>exact ⟨_,_,_,_,rfl,ZZ.o,Z1.o,Z2.o,Ki.o,RR.o,by simp[World.setCell];omega,by omega⟩
 ):p:=h
theorem Mh (a:cp) (d:dr) (x:cS) (T:List bR) (C:List bu) (M:List bH) (base ba bd So:Nat) (A1:Option Addr) (c1:Nat) (A2:Option Addr) (c2:Nat) (w:World) (hB:ck base ba w x a T C M) (hF:dJ a) (hd:cA d=true) (hD:fp w bd So d A1 c1 A2 c2) (hk:d.kind=3):
 Calls prog 45 #[.pointer (some ⟨ba,0,none⟩),.pointer (some ⟨bd,So,none⟩)] w (Qd a (mW a d) base ba w):=by
 have sG:=eZ (tI hd hk).2.2.1;have oz:=I sG;clear sG;obtain ⟨j,hj⟩: ∃j:Nat,d.member=(j:Int):=⟨d.member.toNat,by have:=il hd;omega⟩
 obtain ⟨At,ct,Ab,cb,Ac,L4,Am,L1,rfl⟩:=hB.own.o.r.slices;have j7:=hB.bb;have bD:=hB.lt;have fD:=hF.ok.n12;have kM:=hF.ok.n1;have Cv:=hF.d0;have Cw:=hF.d1;have HJ:=I hj;have HB:=I hB;have HF:=I hF;have ii:=I hd;have eT:=I (λy:ar w=>hB.below y.ok);have mS:=I (λy:ar w=>(Below.mono y.ok (by omega):Below base w y.val));have fC:=I (λy:ar w=>hD.km y);have k0:=λy:ar w=>(fC.o y).k0;have k1: ∀y:ar w,y.val.cell? ⟨bd,So+1,none⟩=some (.int .i64 (j:Int)):=λy=>by have:=(fC.o y).k1;rw[hj]at this;exact this
 have k2: ∀y:ar w,y.val.cell? ⟨bd,So+2,none⟩=some (.slice A1 d.af.length c1):=λy=>(fC.o y).k2;have k3: ∀y:ar w,y.val.cell? ⟨bd,So+3,none⟩=some (.string d.al):=λy=>(fC.o y).k3;have k4: ∀y:ar w,y.val.cell? ⟨bd,So+4,none⟩=some (.int .i64 d.bO):=λy=>(fC.o y).k4;have k5: ∀y:ar w,y.val.cell? ⟨bd,So+5,none⟩=some (.slice A2 d.patch.length c2):=λy=>(fC.o y).k5;have k6: ∀y:ar w,y.val.cell? ⟨bd,So+6,none⟩=some (.int .i64 d.start):=λy=>(fC.o y).k6;have k7: ∀y:ar w,y.val.cell? ⟨bd,So+7,none⟩=some (.int .i64 d.aB):=λy=>(fC.o y).k7;have k8: ∀y:ar w,y.val.cell? ⟨bd,So+8,none⟩=some (.int .i64 d.aj):=λy=>(fC.o y).k8;have z0:=λy:ar w=>(eT.o y).row.cell 0 _ rfl;have z2:=λy:ar w=>(eT.o y).row.cell 2 _ rfl;have z5:=λy:ar w=>(eT.o y).row.cell 5 _ rfl;have nH:=I (λy:ar w=>qI a ⟨.slice At a.af.length ct,.slice Ab a.base.length cb,.slice Ac a.av.length L4,.slice Am a.ao.length L1⟩ d.al ba 0 y.val ((eT.o y).row.cell 5 _ rfl) (eT.o y).own.o.r.m);clear hB hF hd hD;rw[hk]at k0;refine aL λx0=>?_;by_cases hw:(a.af.length:Int)<=d.member
 ·rw[qY (by omega) hw];have Kt:(a.af.length:Int)<=(j:Int):=by rw[<-hj];exact hw
  clear hk hw hj;go_enter func45,ntmps45;go_wp2;go_ret;exact ⟨rfl,⟨_,T,C,M,eT.o x0⟩,mS.o x0⟩
 have Kt: ¬(a.af.length:Int)<=(j:Int):=by rw[<-hj];exact hw
 have ED:=I (λh=>Ev (a:=a) hk hw h);have Pq:=I (λh1 h2 h3=>q9 (a:=a) hk hw h1 h2 h3);have P5:=I fD;generalize fX a.ao d.al=f at*;clear hk hw hj;by_cases hf:0<=f
 ·rw[ED.o (λh=>by omega)];have Sb:decide (0<=f)=true:=by simp[hf]
  go_enter func45,ntmps45;go_wp2_with (fail);refine (aq (nH.o x0)).mono ?_;rintro e _ ⟨rfl,x1,rfl⟩;go_upto_region 11 with (fail)
  refine ap (by kernel_rfl) (by kernel_rfl) ?_
  repeat (go_big_quiet_step (fail))
  refine wpQuiet_nil ?_;rintro _ ⟨x2,rfl⟩;go_wp2;go_ret;exact ⟨rfl,⟨_,T,C,M,eT.o x2⟩,mS.o x2⟩
 have Sb:decide (0<=f)=false:=by simp;omega
 by_cases h6:6<=a.ao.length
 ·rw[ED.o (λh=>by omega)];have Sc:decide (6<=a.ao.length)=true:=by simp[h6]
  have Xm:decide ((6:Int)<=(a.ao.length:Int))=true:=by simp;omega
  go_enter func45,ntmps45;go_wp2_with (fail);refine (aq (nH.o x0)).mono ?_;rintro e _ ⟨rfl,x1,rfl⟩;go_upto_region 11 with (fail)
  refine ap (by kernel_rfl) (by kernel_rfl) ?_
  repeat (go_big_quiet_step (fail))
  refine wpQuiet_nil ?_;rintro _ ⟨x2,rfl⟩;go_wp2;go_ret;exact ⟨rfl,⟨_,T,C,M,eT.o x2⟩,mS.o x2⟩
 have Sc:decide (6<=a.ao.length)=false:=by simp;omega
 have Xm:decide ((6:Int)<=(a.ao.length:Int))=false:=by simp;omega
 by_cases CX:d.aj<=a.day
 ·rw[ED.o (λh=>by omega)];have pQ:decide (d.aj<=a.day)=true:=by simp[CX]
  go_enter func45,ntmps45;go_wp2_with (fail);refine (aq (nH.o x0)).mono ?_;rintro e _ ⟨rfl,x1,rfl⟩;go_upto_region 11 with (fail)
  refine ap (by kernel_rfl) (by kernel_rfl) ?_
  repeat (go_big_quiet_step (fail))
  refine wpQuiet_nil ?_;rintro _ ⟨x2,rfl⟩;go_wp2;go_ret;exact ⟨rfl,⟨_,T,C,M,eT.o x2⟩,mS.o x2⟩
 have pQ:decide (d.aj<=a.day)=false:=by simp;omega
 rw[Pq.o (by omega) (by omega) (by omega)];obtain ⟨d0,po,pq,pr,mu⟩:=info_parts oG;obtain ⟨m0,vL,An,EU,EV⟩:=info_parts rQ;have pO:=I HB.o.G5;go_enter func45,ntmps45;go_wp2_with (fail);refine (aq (nH.o x0)).mono ?_;rintro e _ ⟨rfl,x1,rfl⟩;go_upto_region 11 with (fail)
 refine ap (by kernel_rfl) (by kernel_rfl) ?_
 repeat (go_big_quiet_step (fail))
 refine wpQuiet_nil ?_;rintro _ ⟨x2,rfl⟩;go_upto_region 13 with (fail)
 obtain ⟨U,hU⟩: ∃X,X=x2.val:=⟨_,rfl⟩
 rw[<-hU];have Tu:ag (∀W',Below U.heap.size U W'-> ∃y:ar w,y.val=W'):=I (λW' hb=>⟨⟨W',x2.ok.trans (by rw[hU]at hb;exact hb.mono x2.ok.size)⟩,rfl⟩);have mz:ag (ck base ba U ⟨.slice At a.af.length ct,.slice Ab a.base.length cb,.slice Ac a.av.length L4,.slice Am a.ao.length L1⟩ a T C M):=I (by rw[hU];exact eT.o x2);have VN:ag (Below base w U):=I (by rw[hU];exact mS.o x2);have uJ:ag (∀W',Below U.heap.size U W'->bg W' W'.heap.size (.slice A2 d.patch.length c2) d.patch):=I (λW' hb=>by obtain ⟨y,rfl⟩:=Tu.o W' hb;exact (fC.o y).fF);have dl:ag (∀W',Below U.heap.size U W'->W'.cell? ⟨bd,So+1,none⟩=some (.int .i64 (j:Int))/\W'.cell? ⟨bd,So+3,none⟩=some (.string d.al)/\W'.cell? ⟨bd,So+5,none⟩=some (.slice A2 d.patch.length c2)/\W'.cell? ⟨bd,So+6,none⟩=some (.int .i64 d.start)/\W'.cell? ⟨bd,So+7,none⟩=some (.int .i64 d.aB)/\W'.cell? ⟨bd,So+8,none⟩=some (.int .i64 d.aj)):=I (λW' hb=>by obtain ⟨y,rfl⟩:=Tu.o W' hb;exact ⟨k1 y,k3 y,k5 y,k6 y,k7 y,k8 y⟩);clear hU k0 k1 k2 k3 k4 k5 k6 k7 k8 z0 z2 z5 Sb Sc Xm pQ
 go_cut [7] (λs7 wx=> ∃na A7 c7 nk,s7= .pointer (some ⟨na,0,none⟩)/\Row wx na [.string d.al,.int .i64 (j:Int),.slice A7 d.patch.length c7,.int .i64 d.start,.int .i64 d.aB,.int .i64 d.aj,.slice (some ⟨nk,0,none⟩) a.af.length a.af.length,.int .i64 0]/\ay ah d.patch U.heap.size wx (.slice A7 d.patch.length c7)/\ay ak (List.replicate a.af.length (0:Int)) U.heap.size wx (.slice (some ⟨nk,0,none⟩) a.af.length a.af.length)/\
  (∀b,cx d.patch (.slice A7 d.patch.length c7) b-> ¬cx (List.replicate a.af.length (0:Int)) (.slice (some ⟨nk,0,none⟩) a.af.length a.af.length) b)/\Below U.heap.size U wx/\na<wx.heap.size/\U.heap.size<=na)
 case first=>
  refine dq 30 (λw'=>w'.cell? ⟨bd,So+1,none⟩=some (.int .i64 (j:Int))/\w'.cell? ⟨bd,So+3,none⟩=some (.string d.al)/\w'.cell? ⟨bd,So+5,none⟩=some (.slice A2 d.patch.length c2)/\w'.cell? ⟨bd,So+6,none⟩=some (.int .i64 d.start)/\w'.cell? ⟨bd,So+7,none⟩=some (.int .i64 d.aB)/\w'.cell? ⟨bd,So+8,none⟩=some (.int .i64 d.aj)) (by kernel_rfl) ?_;obtain ⟨V0,Kv⟩: ∃X,X=U.drew:=⟨_,rfl⟩
  have jo:Below U.heap.size U V0:=by rw[Kv];exact (Below.refl _ _).drew
  have Xn:U.heap.size<=V0.heap.size:=jo.size;rw[<-Kv];clear Kv;have aE:=dl.o V0 jo;refine cl 0 ?_
  try simp only[Act.put,aK,aM]
  refine cl 1 ?_
  try simp only[Act.put,aK,aM]
  refine cl 2 ?_
  try simp only[Act.put,aK,aM]
  refine cl 3 ?_
  try simp only[Act.put,aK,aM]
  refine cl 4 ?_
  try simp only[Act.put,aK,aM]
  refine cl 5 ?_
  try simp only[Act.put,aK,aM]
  refine cl 6 ?_
  try simp only[Act.put,aK,aM]
  refine cl 7 ?_
  try simp only[Act.put,aK,aM]
  refine cl 9 ?_
  try simp only[Act.put,aK,aM]
  refine cl 10 ?_
  try simp only[Act.put,aK,aM]
  refine cl 11 ?_
  try simp only[Act.put,aK,aM]
  refine cl 12 ?_
  try simp only[Act.put,aK,aM]
  refine cl 14 ?_
  try simp only[Act.put,aK,aM]
  refine cl 15 ?_
  try simp only[Act.put,aK,aM]
  refine cl 16 ?_
  try simp only[Act.put,aK,aM]
  refine cl 17 ?_
  try simp only[Act.put,aK,aM]
  refine cl 18 ?_
  try simp only[Act.put,aK,aM]
  refine cl 19 ?_
  try simp only[Act.put,aK,aM]
  refine cl 20 ?_
  try simp only[Act.put,aK,aM]
  refine cl 21 ?_
  try simp only[Act.put,aK,aM]
  refine cl 22 ?_
  try simp only[Act.put,aK,aM]
  refine cl 23 ?_
  try simp only[Act.put,aK,aM]
  refine cl 24 ?_
  try simp only[Act.put,aK,aM]
  refine cl 25 ?_
  try simp only[Act.put,aK,aM]
  refine cl 26 ?_
  try simp only[Act.put,aK,aM]
  clear aE;refine bZ (rs:=[8,27,29]) (by kernel_rfl) (by simp) ?_;refine aN.cons rfl (λK hK=>?_) (aN.cons rfl (λK hK=>?_) (aN.cons rfl (λK hK=>?_) aN.nil))
  ·try simp only[aK]
   go_simp;have gZ:Below U.heap.size U (V0.alloc (.cells #[] 93)):=jo.alloc jo.size _;have xn:Below V0.heap.size V0 (V0.alloc (.cells #[] 93)):=(Below.refl _ _).alloc (Nat.le_refl _) _;have Pr:V0.heap.size+1<=(V0.alloc (.cells #[] 93)).heap.size:=by simp
   refine hK.out _ _ (λ_=>dl.o _ gZ) ?_;clear hK K
   try simp only[Act.put,aM]
   try replace fz:=I (fz.o.on xn)
   try replace dW:=I (dW.o.below xn (by omega))
   have eQ:ag ((V0.alloc (.cells #[] 93)).ownsRow U.heap.size 93 4 (.slice (some ⟨V0.heap.size,0,none⟩) 0 0) 0 []):=I (by have zz:=jo.size;simpa using World.ownsRow_made (base:=U.heap.size) V0 #[] 0 zz (Nat.zero_le _) rfl);obtain ⟨V1,pH⟩: ∃X,X=V0.alloc (.cells #[] 93):=⟨_,rfl⟩
   try rw[<-pH]at fz
   try rw[<-pH]at dW
   rw[<-pH]at gZ xn Pr eQ⊢;clear pH;refine bZ (rs:=[13,27,29]) (by kernel_rfl) (by simp) ?_;refine aN.cons rfl (λK hK=>?_) (aN.cons rfl (λK hK=>?_) (aN.cons rfl (λK hK=>?_) aN.nil))
   ·try simp only[aK]
    have zz:=gZ.size;refine aQ ah (by rfl) _ _ 36 (by rfl) U.heap.size 93 d0 (.agg #[.int .i64 0,.int .i64 0,.string ⟨#[]⟩,.string ⟨#[]⟩]) 4 48 underlying36 po pq pr mu rfl (by decide) _ _ _ (by rfl) eQ.o _ d.patch _ (by rfl) (uJ.o _ gZ) (λ_=>rfl) (λy u hu=>cJ hu) (by have q:=oz.o;unfold maxLen;omega) (by have q:=oz.o;omega) zz ?_;intro p' V2 aY aw cY ci;have dz:ag (ay ah d.patch U.heap.size V2 p'):=I (ay.bI ah (size:=4) (λ_=>rfl) (by simpa using aY));have iI:Below U.heap.size U V2:=gZ.grown aw zz (λj hj=>(eQ.o.lt j hj).1);have Ff:V1.heap.size<=V2.heap.size:=aw.size
    have uF:ag (∀b,cx d.patch p' b->(b=V0.heap.size\/b=V1.heap.size)/\b<V2.heap.size):=I (λb hb=>by
     refine ⟨?_,(ay.dw dz.o hb).2⟩;rcases ci with h|h
     ·have e:some V0.heap.size=some b:=h.symm.trans hb.2;injection e with e
      exact .inl e.symm
     have e:some V1.heap.size=some b:=h.symm.trans hb.2;injection e with e
     exact .inr e.symm)
    obtain ⟨A7,c7,rfl,_⟩:=dz.o
    try replace fz:=I (fz.o.aD (F:=λb=>some V0.heap.size=some b) (Touch.aW aw (λb hb=>hb)) (λb hb e=>by have e1:some 0=some b:=hb.2;injection e1 with e1;injection e with e;omega))
    try replace dW:=I (dW.o.aD (F:=λb=>some V0.heap.size=some b) (by omega) (Touch.aW aw (λb hb=>hb)) (λe=>by injection e with e;omega))
    clear aY aw cY ci zz;refine hK.out _ _ (λ_=>dl.o _ iI) ?_;clear hK K
    try simp only[Act.put,aM]
    refine bZ (rs:=[27,29]) (by kernel_rfl) (by simp) ?_;refine aN.cons rfl (λK hK=>?_) (aN.cons rfl (λK hK=>?_) aN.nil)
    ·try simp only[aK]
     obtain ⟨V3,qe,ou,lR,Ad⟩:=kG V2 a.af.length (by omega);have fL:Below U.heap.size U V3:=iI.trans (lR.mono iI.size);have fz:ag (ay ak (List.replicate a.af.length (0:Int)) U.heap.size V3 (.slice (some ⟨V2.heap.size,0,none⟩) a.af.length a.af.length)):=I (ou.less iI.size);clear ou;go_simp;clear qe;refine hK.out _ _ (λ_=>dl.o _ fL) ?_;clear hK K
     try simp only[Act.put,aM]
     try replace eQ:=I (aT eQ.o lR)
     try replace dz:=I (dz.o.on lR)
     try replace dW:=I (dW.o.below lR (by omega))
     refine eS 28 (λ_=>dl.o _ fL) ?_
     try simp only[Act.put,aK,aM]
     refine cV 29 (λK hK=>?_)
     try simp only[aK]
     try simp only[aK]
     go_simp;have iz:Below U.heap.size U (V3.alloc (.cells #[.string ⟨#[]⟩,.int .i64 0,.slice none 0 0,.int .i64 0,.int .i64 0,.int .i64 0,.slice none 0 0,.int .i64 0] 119)):=fL.alloc fL.size _;have sC:Below V3.heap.size V3 (V3.alloc (.cells #[.string ⟨#[]⟩,.int .i64 0,.slice none 0 0,.int .i64 0,.int .i64 0,.int .i64 0,.slice none 0 0,.int .i64 0] 119)):=(Below.refl _ _).alloc (Nat.le_refl _) _;have Fg:V3.heap.size+1<=(V3.alloc (.cells #[.string ⟨#[]⟩,.int .i64 0,.slice none 0 0,.int .i64 0,.int .i64 0,.int .i64 0,.slice none 0 0,.int .i64 0] 119)).heap.size:=by simp
     refine hK.out _ _ (λ_=>dl.o _ iz) ?_;clear hK K
     try simp only[Act.put,aM]
     have dW:ag (Row (V3.alloc (.cells #[.string ⟨#[]⟩,.int .i64 0,.slice none 0 0,.int .i64 0,.int .i64 0,.int .i64 0,.slice none 0 0,.int .i64 0] 119)) V3.heap.size [.string ⟨#[]⟩,.int .i64 0,.slice none 0 0,.int .i64 0,.int .i64 0,.int .i64 0,.slice none 0 0,.int .i64 0]):=I (Row.new V3 _ _);obtain ⟨V4,Fe⟩: ∃X,X=V3.alloc (.cells #[.string ⟨#[]⟩,.int .i64 0,.slice none 0 0,.int .i64 0,.int .i64 0,.int .i64 0,.slice none 0 0,.int .i64 0] 119):=⟨_,rfl⟩
     rw[<-Fe]at iz sC Fg dW⊢;clear Fe
     try replace eQ:=I (aT eQ.o sC)
     try replace dz:=I (dz.o.on sC)
     try replace fz:=I (fz.o.on sC)
     obtain ⟨na,jy⟩: ∃n,n=V3.heap.size:=⟨_,rfl⟩
     obtain ⟨nk,gY⟩: ∃n,n=V2.heap.size:=⟨_,rfl⟩
     rw[<-jy]at dW⊢;rw[<-gY]at fz⊢;have wS:=Nat.le_of_eq jy;have wT:=Nat.le_of_eq jy.symm;have wU:=Nat.le_of_eq gY;have wV:=Nat.le_of_eq gY.symm;clear jy gY;exact nY
    try simp only[aK]
    go_simp;have fL:Below U.heap.size U (V2.alloc (.cells #[.string ⟨#[]⟩,.int .i64 0,.slice none 0 0,.int .i64 0,.int .i64 0,.int .i64 0,.slice none 0 0,.int .i64 0] 119)):=iI.alloc iI.size _;have lR:Below V2.heap.size V2 (V2.alloc (.cells #[.string ⟨#[]⟩,.int .i64 0,.slice none 0 0,.int .i64 0,.int .i64 0,.int .i64 0,.slice none 0 0,.int .i64 0] 119)):=(Below.refl _ _).alloc (Nat.le_refl _) _;have Ad:V2.heap.size+1<=(V2.alloc (.cells #[.string ⟨#[]⟩,.int .i64 0,.slice none 0 0,.int .i64 0,.int .i64 0,.int .i64 0,.slice none 0 0,.int .i64 0] 119)).heap.size:=by simp
    refine hK.out _ _ (λ_=>dl.o _ fL) ?_;clear hK K
    try simp only[Act.put,aM]
    have dW:ag (Row (V2.alloc (.cells #[.string ⟨#[]⟩,.int .i64 0,.slice none 0 0,.int .i64 0,.int .i64 0,.int .i64 0,.slice none 0 0,.int .i64 0] 119)) V2.heap.size [.string ⟨#[]⟩,.int .i64 0,.slice none 0 0,.int .i64 0,.int .i64 0,.int .i64 0,.slice none 0 0,.int .i64 0]):=I (Row.new V2 _ _);obtain ⟨V3,ql⟩: ∃X,X=V2.alloc (.cells #[.string ⟨#[]⟩,.int .i64 0,.slice none 0 0,.int .i64 0,.int .i64 0,.int .i64 0,.slice none 0 0,.int .i64 0] 119):=⟨_,rfl⟩
    rw[<-ql]at fL lR Ad dW⊢;clear ql
    try replace eQ:=I (aT eQ.o lR)
    try replace dz:=I (dz.o.on lR)
    try replace fz:=I (fz.o.on lR)
    refine cV 27 (λK hK=>?_)
    try simp only[aK]
    try simp only[aK]
    obtain ⟨V4,qe,ou,sC,Fg⟩:=kG V3 a.af.length (by omega);have iz:Below U.heap.size U V4:=fL.trans (sC.mono fL.size);have fz:ag (ay ak (List.replicate a.af.length (0:Int)) U.heap.size V4 (.slice (some ⟨V3.heap.size,0,none⟩) a.af.length a.af.length)):=I (ou.less fL.size);clear ou;go_simp;clear qe;refine hK.out _ _ (λ_=>dl.o _ iz) ?_;clear hK K
    try simp only[Act.put,aM]
    try replace eQ:=I (aT eQ.o sC)
    try replace dz:=I (dz.o.on sC)
    try replace dW:=I (dW.o.below sC (by omega))
    refine eS 28 (λ_=>dl.o _ iz) ?_
    try simp only[Act.put,aK,aM]
    obtain ⟨na,jy⟩: ∃n,n=V2.heap.size:=⟨_,rfl⟩
    obtain ⟨nk,gY⟩: ∃n,n=V3.heap.size:=⟨_,rfl⟩
    rw[<-jy]at dW⊢;rw[<-gY]at fz⊢;have wS:=Nat.le_of_eq jy;have wT:=Nat.le_of_eq jy.symm;have wU:=Nat.le_of_eq gY;have wV:=Nat.le_of_eq gY.symm;clear jy gY;exact nY
   ·try simp only[aK]
    obtain ⟨V2,qe,ou,oB,Ff⟩:=kG V1 a.af.length (by omega);have iI:Below U.heap.size U V2:=gZ.trans (oB.mono gZ.size);have fz:ag (ay ak (List.replicate a.af.length (0:Int)) U.heap.size V2 (.slice (some ⟨V1.heap.size,0,none⟩) a.af.length a.af.length)):=I (ou.less gZ.size);clear ou;go_simp;clear qe;refine hK.out _ _ (λ_=>dl.o _ iI) ?_;clear hK K
    try simp only[Act.put,aM]
    try replace eQ:=I (aT eQ.o oB)
    try replace dz:=I (dz.o.on oB)
    try replace dW:=I (dW.o.below oB (by omega))
    refine bZ (rs:=[13,29]) (by kernel_rfl) (by simp) ?_;refine aN.cons rfl (λK hK=>?_) (aN.cons rfl (λK hK=>?_) aN.nil)
    ·try simp only[aK]
     have zz:=iI.size;refine aQ ah (by rfl) _ _ 36 (by rfl) U.heap.size 93 d0 (.agg #[.int .i64 0,.int .i64 0,.string ⟨#[]⟩,.string ⟨#[]⟩]) 4 48 underlying36 po pq pr mu rfl (by decide) _ _ _ (by rfl) eQ.o _ d.patch _ (by rfl) (uJ.o _ iI) (λ_=>rfl) (λy u hu=>cJ hu) (by have q:=oz.o;unfold maxLen;omega) (by have q:=oz.o;omega) zz ?_;intro p' V3 aY aw cY ci;have dz:ag (ay ah d.patch U.heap.size V3 p'):=I (ay.bI ah (size:=4) (λ_=>rfl) (by simpa using aY));have fL:Below U.heap.size U V3:=iI.grown aw zz (λj hj=>(eQ.o.lt j hj).1);have Ad:V2.heap.size<=V3.heap.size:=aw.size
     have uF:ag (∀b,cx d.patch p' b->(b=V0.heap.size\/b=V2.heap.size)/\b<V3.heap.size):=I (λb hb=>by
      refine ⟨?_,(ay.dw dz.o hb).2⟩;rcases ci with h|h
      ·have e:some V0.heap.size=some b:=h.symm.trans hb.2;injection e with e
       exact .inl e.symm
      have e:some V2.heap.size=some b:=h.symm.trans hb.2;injection e with e
      exact .inr e.symm)
     obtain ⟨A7,c7,rfl,_⟩:=dz.o
     try replace fz:=I (fz.o.aD (F:=λb=>some V0.heap.size=some b) (Touch.aW aw (λb hb=>hb)) (λb hb e=>by have e1:some V1.heap.size=some b:=hb.2;injection e1 with e1;injection e with e;omega))
     try replace dW:=I (dW.o.aD (F:=λb=>some V0.heap.size=some b) (by omega) (Touch.aW aw (λb hb=>hb)) (λe=>by injection e with e;omega))
     clear aY aw cY ci zz;refine hK.out _ _ (λ_=>dl.o _ fL) ?_;clear hK K
     try simp only[Act.put,aM]
     refine eS 28 (λ_=>dl.o _ fL) ?_
     try simp only[Act.put,aK,aM]
     refine cV 29 (λK hK=>?_)
     try simp only[aK]
     try simp only[aK]
     go_simp;have iz:Below U.heap.size U (V3.alloc (.cells #[.string ⟨#[]⟩,.int .i64 0,.slice none 0 0,.int .i64 0,.int .i64 0,.int .i64 0,.slice none 0 0,.int .i64 0] 119)):=fL.alloc fL.size _;have sC:Below V3.heap.size V3 (V3.alloc (.cells #[.string ⟨#[]⟩,.int .i64 0,.slice none 0 0,.int .i64 0,.int .i64 0,.int .i64 0,.slice none 0 0,.int .i64 0] 119)):=(Below.refl _ _).alloc (Nat.le_refl _) _;have Fg:V3.heap.size+1<=(V3.alloc (.cells #[.string ⟨#[]⟩,.int .i64 0,.slice none 0 0,.int .i64 0,.int .i64 0,.int .i64 0,.slice none 0 0,.int .i64 0] 119)).heap.size:=by simp
     refine hK.out _ _ (λ_=>dl.o _ iz) ?_;clear hK K
     try simp only[Act.put,aM]
     have dW:ag (Row (V3.alloc (.cells #[.string ⟨#[]⟩,.int .i64 0,.slice none 0 0,.int .i64 0,.int .i64 0,.int .i64 0,.slice none 0 0,.int .i64 0] 119)) V3.heap.size [.string ⟨#[]⟩,.int .i64 0,.slice none 0 0,.int .i64 0,.int .i64 0,.int .i64 0,.slice none 0 0,.int .i64 0]):=I (Row.new V3 _ _);obtain ⟨V4,Fe⟩: ∃X,X=V3.alloc (.cells #[.string ⟨#[]⟩,.int .i64 0,.slice none 0 0,.int .i64 0,.int .i64 0,.int .i64 0,.slice none 0 0,.int .i64 0] 119):=⟨_,rfl⟩
     rw[<-Fe]at iz sC Fg dW⊢;clear Fe
     try replace eQ:=I (aT eQ.o sC)
     try replace dz:=I (dz.o.on sC)
     try replace fz:=I (fz.o.on sC)
     obtain ⟨na,jy⟩: ∃n,n=V3.heap.size:=⟨_,rfl⟩
     obtain ⟨nk,gY⟩: ∃n,n=V1.heap.size:=⟨_,rfl⟩
     rw[<-jy]at dW⊢;rw[<-gY]at fz⊢;have wS:=Nat.le_of_eq jy;have wT:=Nat.le_of_eq jy.symm;have wU:=Nat.le_of_eq gY;have wV:=Nat.le_of_eq gY.symm;clear jy gY;exact nY
    try simp only[aK]
    go_simp;have fL:Below U.heap.size U (V2.alloc (.cells #[.string ⟨#[]⟩,.int .i64 0,.slice none 0 0,.int .i64 0,.int .i64 0,.int .i64 0,.slice none 0 0,.int .i64 0] 119)):=iI.alloc iI.size _;have lR:Below V2.heap.size V2 (V2.alloc (.cells #[.string ⟨#[]⟩,.int .i64 0,.slice none 0 0,.int .i64 0,.int .i64 0,.int .i64 0,.slice none 0 0,.int .i64 0] 119)):=(Below.refl _ _).alloc (Nat.le_refl _) _;have Ad:V2.heap.size+1<=(V2.alloc (.cells #[.string ⟨#[]⟩,.int .i64 0,.slice none 0 0,.int .i64 0,.int .i64 0,.int .i64 0,.slice none 0 0,.int .i64 0] 119)).heap.size:=by simp
    refine hK.out _ _ (λ_=>dl.o _ fL) ?_;clear hK K
    try simp only[Act.put,aM]
    have dW:ag (Row (V2.alloc (.cells #[.string ⟨#[]⟩,.int .i64 0,.slice none 0 0,.int .i64 0,.int .i64 0,.int .i64 0,.slice none 0 0,.int .i64 0] 119)) V2.heap.size [.string ⟨#[]⟩,.int .i64 0,.slice none 0 0,.int .i64 0,.int .i64 0,.int .i64 0,.slice none 0 0,.int .i64 0]):=I (Row.new V2 _ _);obtain ⟨V3,ql⟩: ∃X,X=V2.alloc (.cells #[.string ⟨#[]⟩,.int .i64 0,.slice none 0 0,.int .i64 0,.int .i64 0,.int .i64 0,.slice none 0 0,.int .i64 0] 119):=⟨_,rfl⟩
    rw[<-ql]at fL lR Ad dW⊢;clear ql
    try replace eQ:=I (aT eQ.o lR)
    try replace dz:=I (dz.o.on lR)
    try replace fz:=I (fz.o.on lR)
    refine cV 13 (λK hK=>?_)
    try simp only[aK]
    try simp only[aK]
    have zz:=fL.size;refine aQ ah (by rfl) _ _ 36 (by rfl) U.heap.size 93 d0 (.agg #[.int .i64 0,.int .i64 0,.string ⟨#[]⟩,.string ⟨#[]⟩]) 4 48 underlying36 po pq pr mu rfl (by decide) _ _ _ (by rfl) eQ.o _ d.patch _ (by rfl) (uJ.o _ fL) (λ_=>rfl) (λy u hu=>cJ hu) (by have q:=oz.o;unfold maxLen;omega) (by have q:=oz.o;omega) zz ?_;intro p' V4 aY aw cY ci;have dz:ag (ay ah d.patch U.heap.size V4 p'):=I (ay.bI ah (size:=4) (λ_=>rfl) (by simpa using aY));have iz:Below U.heap.size U V4:=fL.grown aw zz (λj hj=>(eQ.o.lt j hj).1);have Fg:V3.heap.size<=V4.heap.size:=aw.size
    have uF:ag (∀b,cx d.patch p' b->(b=V0.heap.size\/b=V3.heap.size)/\b<V4.heap.size):=I (λb hb=>by
     refine ⟨?_,(ay.dw dz.o hb).2⟩;rcases ci with h|h
     ·have e:some V0.heap.size=some b:=h.symm.trans hb.2;injection e with e
      exact .inl e.symm
     have e:some V3.heap.size=some b:=h.symm.trans hb.2;injection e with e
     exact .inr e.symm)
    obtain ⟨A7,c7,rfl,_⟩:=dz.o
    try replace fz:=I (fz.o.aD (F:=λb=>some V0.heap.size=some b) (Touch.aW aw (λb hb=>hb)) (λb hb e=>by have e1:some V1.heap.size=some b:=hb.2;injection e1 with e1;injection e with e;omega))
    try replace dW:=I (dW.o.aD (F:=λb=>some V0.heap.size=some b) (by omega) (Touch.aW aw (λb hb=>hb)) (λe=>by injection e with e;omega))
    clear aY aw cY ci zz;refine hK.out _ _ (λ_=>dl.o _ iz) ?_;clear hK K
    try simp only[Act.put,aM]
    refine eS 28 (λ_=>dl.o _ iz) ?_
    try simp only[Act.put,aK,aM]
    obtain ⟨na,jy⟩: ∃n,n=V2.heap.size:=⟨_,rfl⟩
    obtain ⟨nk,gY⟩: ∃n,n=V1.heap.size:=⟨_,rfl⟩
    rw[<-jy]at dW⊢;rw[<-gY]at fz⊢;have wS:=Nat.le_of_eq jy;have wT:=Nat.le_of_eq jy.symm;have wU:=Nat.le_of_eq gY;have wV:=Nat.le_of_eq gY.symm;clear jy gY;exact nY
   try simp only[aK]
   go_simp;have iI:Below U.heap.size U (V1.alloc (.cells #[.string ⟨#[]⟩,.int .i64 0,.slice none 0 0,.int .i64 0,.int .i64 0,.int .i64 0,.slice none 0 0,.int .i64 0] 119)):=gZ.alloc gZ.size _;have oB:Below V1.heap.size V1 (V1.alloc (.cells #[.string ⟨#[]⟩,.int .i64 0,.slice none 0 0,.int .i64 0,.int .i64 0,.int .i64 0,.slice none 0 0,.int .i64 0] 119)):=(Below.refl _ _).alloc (Nat.le_refl _) _;have Ff:V1.heap.size+1<=(V1.alloc (.cells #[.string ⟨#[]⟩,.int .i64 0,.slice none 0 0,.int .i64 0,.int .i64 0,.int .i64 0,.slice none 0 0,.int .i64 0] 119)).heap.size:=by simp
   refine hK.out _ _ (λ_=>dl.o _ iI) ?_;clear hK K
   try simp only[Act.put,aM]
   have dW:ag (Row (V1.alloc (.cells #[.string ⟨#[]⟩,.int .i64 0,.slice none 0 0,.int .i64 0,.int .i64 0,.int .i64 0,.slice none 0 0,.int .i64 0] 119)) V1.heap.size [.string ⟨#[]⟩,.int .i64 0,.slice none 0 0,.int .i64 0,.int .i64 0,.int .i64 0,.slice none 0 0,.int .i64 0]):=I (Row.new V1 _ _);obtain ⟨V2,mi⟩: ∃X,X=V1.alloc (.cells #[.string ⟨#[]⟩,.int .i64 0,.slice none 0 0,.int .i64 0,.int .i64 0,.int .i64 0,.slice none 0 0,.int .i64 0] 119):=⟨_,rfl⟩
   rw[<-mi]at iI oB Ff dW⊢;clear mi
   try replace eQ:=I (aT eQ.o oB)
   try replace dz:=I (dz.o.on oB)
   try replace fz:=I (fz.o.on oB)
   refine bZ (rs:=[13,27]) (by kernel_rfl) (by simp) ?_;refine aN.cons rfl (λK hK=>?_) (aN.cons rfl (λK hK=>?_) aN.nil)
   ·try simp only[aK]
    have zz:=iI.size;refine aQ ah (by rfl) _ _ 36 (by rfl) U.heap.size 93 d0 (.agg #[.int .i64 0,.int .i64 0,.string ⟨#[]⟩,.string ⟨#[]⟩]) 4 48 underlying36 po pq pr mu rfl (by decide) _ _ _ (by rfl) eQ.o _ d.patch _ (by rfl) (uJ.o _ iI) (λ_=>rfl) (λy u hu=>cJ hu) (by have q:=oz.o;unfold maxLen;omega) (by have q:=oz.o;omega) zz ?_;intro p' V3 aY aw cY ci;have dz:ag (ay ah d.patch U.heap.size V3 p'):=I (ay.bI ah (size:=4) (λ_=>rfl) (by simpa using aY));have fL:Below U.heap.size U V3:=iI.grown aw zz (λj hj=>(eQ.o.lt j hj).1);have Ad:V2.heap.size<=V3.heap.size:=aw.size
    have uF:ag (∀b,cx d.patch p' b->(b=V0.heap.size\/b=V2.heap.size)/\b<V3.heap.size):=I (λb hb=>by
     refine ⟨?_,(ay.dw dz.o hb).2⟩;rcases ci with h|h
     ·have e:some V0.heap.size=some b:=h.symm.trans hb.2;injection e with e
      exact .inl e.symm
     have e:some V2.heap.size=some b:=h.symm.trans hb.2;injection e with e
     exact .inr e.symm)
    obtain ⟨A7,c7,rfl,_⟩:=dz.o
    try replace fz:=I (fz.o.aD (F:=λb=>some V0.heap.size=some b) (Touch.aW aw (λb hb=>hb)) (λb hb e=>by have e1:some 0=some b:=hb.2;injection e1 with e1;injection e with e;omega))
    try replace dW:=I (dW.o.aD (F:=λb=>some V0.heap.size=some b) (by omega) (Touch.aW aw (λb hb=>hb)) (λe=>by injection e with e;omega))
    clear aY aw cY ci zz;refine hK.out _ _ (λ_=>dl.o _ fL) ?_;clear hK K
    try simp only[Act.put,aM]
    refine cV 27 (λK hK=>?_)
    try simp only[aK]
    try simp only[aK]
    obtain ⟨V4,qe,ou,sC,Fg⟩:=kG V3 a.af.length (by omega);have iz:Below U.heap.size U V4:=fL.trans (sC.mono fL.size);have fz:ag (ay ak (List.replicate a.af.length (0:Int)) U.heap.size V4 (.slice (some ⟨V3.heap.size,0,none⟩) a.af.length a.af.length)):=I (ou.less fL.size);clear ou;go_simp;clear qe;refine hK.out _ _ (λ_=>dl.o _ iz) ?_;clear hK K
    try simp only[Act.put,aM]
    try replace eQ:=I (aT eQ.o sC)
    try replace dz:=I (dz.o.on sC)
    try replace dW:=I (dW.o.below sC (by omega))
    refine eS 28 (λ_=>dl.o _ iz) ?_
    try simp only[Act.put,aK,aM]
    obtain ⟨na,jy⟩: ∃n,n=V1.heap.size:=⟨_,rfl⟩
    obtain ⟨nk,gY⟩: ∃n,n=V3.heap.size:=⟨_,rfl⟩
    rw[<-jy]at dW⊢;rw[<-gY]at fz⊢;have wS:=Nat.le_of_eq jy;have wT:=Nat.le_of_eq jy.symm;have wU:=Nat.le_of_eq gY;have wV:=Nat.le_of_eq gY.symm;clear jy gY;exact nY
   try simp only[aK]
   obtain ⟨V3,qe,ou,lR,Ad⟩:=kG V2 a.af.length (by omega);have fL:Below U.heap.size U V3:=iI.trans (lR.mono iI.size);have fz:ag (ay ak (List.replicate a.af.length (0:Int)) U.heap.size V3 (.slice (some ⟨V2.heap.size,0,none⟩) a.af.length a.af.length)):=I (ou.less iI.size);clear ou;go_simp;clear qe;refine hK.out _ _ (λ_=>dl.o _ fL) ?_;clear hK K
   try simp only[Act.put,aM]
   try replace eQ:=I (aT eQ.o lR)
   try replace dz:=I (dz.o.on lR)
   try replace dW:=I (dW.o.below lR (by omega))
   refine cV 13 (λK hK=>?_)
   try simp only[aK]
   try simp only[aK]
   have zz:=fL.size;refine aQ ah (by rfl) _ _ 36 (by rfl) U.heap.size 93 d0 (.agg #[.int .i64 0,.int .i64 0,.string ⟨#[]⟩,.string ⟨#[]⟩]) 4 48 underlying36 po pq pr mu rfl (by decide) _ _ _ (by rfl) eQ.o _ d.patch _ (by rfl) (uJ.o _ fL) (λ_=>rfl) (λy u hu=>cJ hu) (by have q:=oz.o;unfold maxLen;omega) (by have q:=oz.o;omega) zz ?_;intro p' V4 aY aw cY ci;have dz:ag (ay ah d.patch U.heap.size V4 p'):=I (ay.bI ah (size:=4) (λ_=>rfl) (by simpa using aY));have iz:Below U.heap.size U V4:=fL.grown aw zz (λj hj=>(eQ.o.lt j hj).1);have Fg:V3.heap.size<=V4.heap.size:=aw.size
   have uF:ag (∀b,cx d.patch p' b->(b=V0.heap.size\/b=V3.heap.size)/\b<V4.heap.size):=I (λb hb=>by
    refine ⟨?_,(ay.dw dz.o hb).2⟩;rcases ci with h|h
    ·have e:some V0.heap.size=some b:=h.symm.trans hb.2;injection e with e
     exact .inl e.symm
    have e:some V3.heap.size=some b:=h.symm.trans hb.2;injection e with e
    exact .inr e.symm)
   obtain ⟨A7,c7,rfl,_⟩:=dz.o
   try replace fz:=I (fz.o.aD (F:=λb=>some V0.heap.size=some b) (Touch.aW aw (λb hb=>hb)) (λb hb e=>by have e1:some V2.heap.size=some b:=hb.2;injection e1 with e1;injection e with e;omega))
   try replace dW:=I (dW.o.aD (F:=λb=>some V0.heap.size=some b) (by omega) (Touch.aW aw (λb hb=>hb)) (λe=>by injection e with e;omega))
   clear aY aw cY ci zz;refine hK.out _ _ (λ_=>dl.o _ iz) ?_;clear hK K
   try simp only[Act.put,aM]
   refine eS 28 (λ_=>dl.o _ iz) ?_
   try simp only[Act.put,aK,aM]
   obtain ⟨na,jy⟩: ∃n,n=V1.heap.size:=⟨_,rfl⟩
   obtain ⟨nk,gY⟩: ∃n,n=V2.heap.size:=⟨_,rfl⟩
   rw[<-jy]at dW⊢;rw[<-gY]at fz⊢;have wS:=Nat.le_of_eq jy;have wT:=Nat.le_of_eq jy.symm;have wU:=Nat.le_of_eq gY;have wV:=Nat.le_of_eq gY.symm;clear jy gY;exact nY
  ·try simp only[aK]
   obtain ⟨V1,qe,ou,xn,Pr⟩:=kG V0 a.af.length (by omega);have gZ:Below U.heap.size U V1:=jo.trans (xn.mono jo.size);have fz:ag (ay ak (List.replicate a.af.length (0:Int)) U.heap.size V1 (.slice (some ⟨V0.heap.size,0,none⟩) a.af.length a.af.length)):=I (ou.less jo.size);clear ou;go_simp;clear qe;refine hK.out _ _ (λ_=>dl.o _ gZ) ?_;clear hK K
   try simp only[Act.put,aM]
   try replace eQ:=I (aT eQ.o xn)
   try replace dz:=I (dz.o.on xn)
   try replace dW:=I (dW.o.below xn (by omega))
   refine bZ (rs:=[8,29]) (by kernel_rfl) (by simp) ?_;refine aN.cons rfl (λK hK=>?_) (aN.cons rfl (λK hK=>?_) aN.nil)
   ·try simp only[aK]
    go_simp;have iI:Below U.heap.size U (V1.alloc (.cells #[] 93)):=gZ.alloc gZ.size _;have oB:Below V1.heap.size V1 (V1.alloc (.cells #[] 93)):=(Below.refl _ _).alloc (Nat.le_refl _) _;have Ff:V1.heap.size+1<=(V1.alloc (.cells #[] 93)).heap.size:=by simp
    refine hK.out _ _ (λ_=>dl.o _ iI) ?_;clear hK K
    try simp only[Act.put,aM]
    try replace fz:=I (fz.o.on oB)
    try replace dW:=I (dW.o.below oB (by omega))
    have eQ:ag ((V1.alloc (.cells #[] 93)).ownsRow U.heap.size 93 4 (.slice (some ⟨V1.heap.size,0,none⟩) 0 0) 0 []):=I (by have zz:=gZ.size;simpa using World.ownsRow_made (base:=U.heap.size) V1 #[] 0 zz (Nat.zero_le _) rfl);obtain ⟨V2,mi⟩: ∃X,X=V1.alloc (.cells #[] 93):=⟨_,rfl⟩
    try rw[<-mi]at fz
    try rw[<-mi]at dW
    rw[<-mi]at iI oB Ff eQ⊢;clear mi;refine bZ (rs:=[13,29]) (by kernel_rfl) (by simp) ?_;refine aN.cons rfl (λK hK=>?_) (aN.cons rfl (λK hK=>?_) aN.nil)
    ·try simp only[aK]
     have zz:=iI.size;refine aQ ah (by rfl) _ _ 36 (by rfl) U.heap.size 93 d0 (.agg #[.int .i64 0,.int .i64 0,.string ⟨#[]⟩,.string ⟨#[]⟩]) 4 48 underlying36 po pq pr mu rfl (by decide) _ _ _ (by rfl) eQ.o _ d.patch _ (by rfl) (uJ.o _ iI) (λ_=>rfl) (λy u hu=>cJ hu) (by have q:=oz.o;unfold maxLen;omega) (by have q:=oz.o;omega) zz ?_;intro p' V3 aY aw cY ci;have dz:ag (ay ah d.patch U.heap.size V3 p'):=I (ay.bI ah (size:=4) (λ_=>rfl) (by simpa using aY));have fL:Below U.heap.size U V3:=iI.grown aw zz (λj hj=>(eQ.o.lt j hj).1);have Ad:V2.heap.size<=V3.heap.size:=aw.size
     have uF:ag (∀b,cx d.patch p' b->(b=V1.heap.size\/b=V2.heap.size)/\b<V3.heap.size):=I (λb hb=>by
      refine ⟨?_,(ay.dw dz.o hb).2⟩;rcases ci with h|h
      ·have e:some V1.heap.size=some b:=h.symm.trans hb.2;injection e with e
       exact .inl e.symm
      have e:some V2.heap.size=some b:=h.symm.trans hb.2;injection e with e
      exact .inr e.symm)
     obtain ⟨A7,c7,rfl,_⟩:=dz.o
     try replace fz:=I (fz.o.aD (F:=λb=>some V1.heap.size=some b) (Touch.aW aw (λb hb=>hb)) (λb hb e=>by have e1:some V0.heap.size=some b:=hb.2;injection e1 with e1;injection e with e;omega))
     try replace dW:=I (dW.o.aD (F:=λb=>some V1.heap.size=some b) (by omega) (Touch.aW aw (λb hb=>hb)) (λe=>by injection e with e;omega))
     clear aY aw cY ci zz;refine hK.out _ _ (λ_=>dl.o _ fL) ?_;clear hK K
     try simp only[Act.put,aM]
     refine eS 28 (λ_=>dl.o _ fL) ?_
     try simp only[Act.put,aK,aM]
     refine cV 29 (λK hK=>?_)
     try simp only[aK]
     try simp only[aK]
     go_simp;have iz:Below U.heap.size U (V3.alloc (.cells #[.string ⟨#[]⟩,.int .i64 0,.slice none 0 0,.int .i64 0,.int .i64 0,.int .i64 0,.slice none 0 0,.int .i64 0] 119)):=fL.alloc fL.size _;have sC:Below V3.heap.size V3 (V3.alloc (.cells #[.string ⟨#[]⟩,.int .i64 0,.slice none 0 0,.int .i64 0,.int .i64 0,.int .i64 0,.slice none 0 0,.int .i64 0] 119)):=(Below.refl _ _).alloc (Nat.le_refl _) _;have Fg:V3.heap.size+1<=(V3.alloc (.cells #[.string ⟨#[]⟩,.int .i64 0,.slice none 0 0,.int .i64 0,.int .i64 0,.int .i64 0,.slice none 0 0,.int .i64 0] 119)).heap.size:=by simp
     refine hK.out _ _ (λ_=>dl.o _ iz) ?_;clear hK K
     try simp only[Act.put,aM]
     have dW:ag (Row (V3.alloc (.cells #[.string ⟨#[]⟩,.int .i64 0,.slice none 0 0,.int .i64 0,.int .i64 0,.int .i64 0,.slice none 0 0,.int .i64 0] 119)) V3.heap.size [.string ⟨#[]⟩,.int .i64 0,.slice none 0 0,.int .i64 0,.int .i64 0,.int .i64 0,.slice none 0 0,.int .i64 0]):=I (Row.new V3 _ _);obtain ⟨V4,Fe⟩: ∃X,X=V3.alloc (.cells #[.string ⟨#[]⟩,.int .i64 0,.slice none 0 0,.int .i64 0,.int .i64 0,.int .i64 0,.slice none 0 0,.int .i64 0] 119):=⟨_,rfl⟩
     rw[<-Fe]at iz sC Fg dW⊢;clear Fe
     try replace eQ:=I (aT eQ.o sC)
     try replace dz:=I (dz.o.on sC)
     try replace fz:=I (fz.o.on sC)
     obtain ⟨na,jy⟩: ∃n,n=V3.heap.size:=⟨_,rfl⟩
     obtain ⟨nk,gY⟩: ∃n,n=V0.heap.size:=⟨_,rfl⟩
     rw[<-jy]at dW⊢;rw[<-gY]at fz⊢;have wS:=Nat.le_of_eq jy;have wT:=Nat.le_of_eq jy.symm;have wU:=Nat.le_of_eq gY;have wV:=Nat.le_of_eq gY.symm;clear jy gY;exact nY
    try simp only[aK]
    go_simp;have fL:Below U.heap.size U (V2.alloc (.cells #[.string ⟨#[]⟩,.int .i64 0,.slice none 0 0,.int .i64 0,.int .i64 0,.int .i64 0,.slice none 0 0,.int .i64 0] 119)):=iI.alloc iI.size _;have lR:Below V2.heap.size V2 (V2.alloc (.cells #[.string ⟨#[]⟩,.int .i64 0,.slice none 0 0,.int .i64 0,.int .i64 0,.int .i64 0,.slice none 0 0,.int .i64 0] 119)):=(Below.refl _ _).alloc (Nat.le_refl _) _;have Ad:V2.heap.size+1<=(V2.alloc (.cells #[.string ⟨#[]⟩,.int .i64 0,.slice none 0 0,.int .i64 0,.int .i64 0,.int .i64 0,.slice none 0 0,.int .i64 0] 119)).heap.size:=by simp
    refine hK.out _ _ (λ_=>dl.o _ fL) ?_;clear hK K
    try simp only[Act.put,aM]
    have dW:ag (Row (V2.alloc (.cells #[.string ⟨#[]⟩,.int .i64 0,.slice none 0 0,.int .i64 0,.int .i64 0,.int .i64 0,.slice none 0 0,.int .i64 0] 119)) V2.heap.size [.string ⟨#[]⟩,.int .i64 0,.slice none 0 0,.int .i64 0,.int .i64 0,.int .i64 0,.slice none 0 0,.int .i64 0]):=I (Row.new V2 _ _);obtain ⟨V3,ql⟩: ∃X,X=V2.alloc (.cells #[.string ⟨#[]⟩,.int .i64 0,.slice none 0 0,.int .i64 0,.int .i64 0,.int .i64 0,.slice none 0 0,.int .i64 0] 119):=⟨_,rfl⟩
    rw[<-ql]at fL lR Ad dW⊢;clear ql
    try replace eQ:=I (aT eQ.o lR)
    try replace dz:=I (dz.o.on lR)
    try replace fz:=I (fz.o.on lR)
    refine cV 13 (λK hK=>?_)
    try simp only[aK]
    try simp only[aK]
    have zz:=fL.size;refine aQ ah (by rfl) _ _ 36 (by rfl) U.heap.size 93 d0 (.agg #[.int .i64 0,.int .i64 0,.string ⟨#[]⟩,.string ⟨#[]⟩]) 4 48 underlying36 po pq pr mu rfl (by decide) _ _ _ (by rfl) eQ.o _ d.patch _ (by rfl) (uJ.o _ fL) (λ_=>rfl) (λy u hu=>cJ hu) (by have q:=oz.o;unfold maxLen;omega) (by have q:=oz.o;omega) zz ?_;intro p' V4 aY aw cY ci;have dz:ag (ay ah d.patch U.heap.size V4 p'):=I (ay.bI ah (size:=4) (λ_=>rfl) (by simpa using aY));have iz:Below U.heap.size U V4:=fL.grown aw zz (λj hj=>(eQ.o.lt j hj).1);have Fg:V3.heap.size<=V4.heap.size:=aw.size
    have uF:ag (∀b,cx d.patch p' b->(b=V1.heap.size\/b=V3.heap.size)/\b<V4.heap.size):=I (λb hb=>by
     refine ⟨?_,(ay.dw dz.o hb).2⟩;rcases ci with h|h
     ·have e:some V1.heap.size=some b:=h.symm.trans hb.2;injection e with e
      exact .inl e.symm
     have e:some V3.heap.size=some b:=h.symm.trans hb.2;injection e with e
     exact .inr e.symm)
    obtain ⟨A7,c7,rfl,_⟩:=dz.o
    try replace fz:=I (fz.o.aD (F:=λb=>some V1.heap.size=some b) (Touch.aW aw (λb hb=>hb)) (λb hb e=>by have e1:some V0.heap.size=some b:=hb.2;injection e1 with e1;injection e with e;omega))
    try replace dW:=I (dW.o.aD (F:=λb=>some V1.heap.size=some b) (by omega) (Touch.aW aw (λb hb=>hb)) (λe=>by injection e with e;omega))
    clear aY aw cY ci zz;refine hK.out _ _ (λ_=>dl.o _ iz) ?_;clear hK K
    try simp only[Act.put,aM]
    refine eS 28 (λ_=>dl.o _ iz) ?_
    try simp only[Act.put,aK,aM]
    obtain ⟨na,jy⟩: ∃n,n=V2.heap.size:=⟨_,rfl⟩
    obtain ⟨nk,gY⟩: ∃n,n=V0.heap.size:=⟨_,rfl⟩
    rw[<-jy]at dW⊢;rw[<-gY]at fz⊢;have wS:=Nat.le_of_eq jy;have wT:=Nat.le_of_eq jy.symm;have wU:=Nat.le_of_eq gY;have wV:=Nat.le_of_eq gY.symm;clear jy gY;exact nY
   try simp only[aK]
   go_simp;have iI:Below U.heap.size U (V1.alloc (.cells #[.string ⟨#[]⟩,.int .i64 0,.slice none 0 0,.int .i64 0,.int .i64 0,.int .i64 0,.slice none 0 0,.int .i64 0] 119)):=gZ.alloc gZ.size _;have oB:Below V1.heap.size V1 (V1.alloc (.cells #[.string ⟨#[]⟩,.int .i64 0,.slice none 0 0,.int .i64 0,.int .i64 0,.int .i64 0,.slice none 0 0,.int .i64 0] 119)):=(Below.refl _ _).alloc (Nat.le_refl _) _;have Ff:V1.heap.size+1<=(V1.alloc (.cells #[.string ⟨#[]⟩,.int .i64 0,.slice none 0 0,.int .i64 0,.int .i64 0,.int .i64 0,.slice none 0 0,.int .i64 0] 119)).heap.size:=by simp
   refine hK.out _ _ (λ_=>dl.o _ iI) ?_;clear hK K
   try simp only[Act.put,aM]
   have dW:ag (Row (V1.alloc (.cells #[.string ⟨#[]⟩,.int .i64 0,.slice none 0 0,.int .i64 0,.int .i64 0,.int .i64 0,.slice none 0 0,.int .i64 0] 119)) V1.heap.size [.string ⟨#[]⟩,.int .i64 0,.slice none 0 0,.int .i64 0,.int .i64 0,.int .i64 0,.slice none 0 0,.int .i64 0]):=I (Row.new V1 _ _);obtain ⟨V2,mi⟩: ∃X,X=V1.alloc (.cells #[.string ⟨#[]⟩,.int .i64 0,.slice none 0 0,.int .i64 0,.int .i64 0,.int .i64 0,.slice none 0 0,.int .i64 0] 119):=⟨_,rfl⟩
   rw[<-mi]at iI oB Ff dW⊢;clear mi
   try replace eQ:=I (aT eQ.o oB)
   try replace dz:=I (dz.o.on oB)
   try replace fz:=I (fz.o.on oB)
   refine cV 8 (λK hK=>?_)
   try simp only[aK]
   try simp only[aK]
   go_simp;have fL:Below U.heap.size U (V2.alloc (.cells #[] 93)):=iI.alloc iI.size _;have lR:Below V2.heap.size V2 (V2.alloc (.cells #[] 93)):=(Below.refl _ _).alloc (Nat.le_refl _) _;have Ad:V2.heap.size+1<=(V2.alloc (.cells #[] 93)).heap.size:=by simp
   refine hK.out _ _ (λ_=>dl.o _ fL) ?_;clear hK K
   try simp only[Act.put,aM]
   try replace fz:=I (fz.o.on lR)
   try replace dW:=I (dW.o.below lR (by omega))
   have eQ:ag ((V2.alloc (.cells #[] 93)).ownsRow U.heap.size 93 4 (.slice (some ⟨V2.heap.size,0,none⟩) 0 0) 0 []):=I (by have zz:=iI.size;simpa using World.ownsRow_made (base:=U.heap.size) V2 #[] 0 zz (Nat.zero_le _) rfl);obtain ⟨V3,ql⟩: ∃X,X=V2.alloc (.cells #[] 93):=⟨_,rfl⟩
   try rw[<-ql]at fz
   try rw[<-ql]at dW
   rw[<-ql]at fL lR Ad eQ⊢;clear ql;refine cV 13 (λK hK=>?_)
   try simp only[aK]
   try simp only[aK]
   have zz:=fL.size;refine aQ ah (by rfl) _ _ 36 (by rfl) U.heap.size 93 d0 (.agg #[.int .i64 0,.int .i64 0,.string ⟨#[]⟩,.string ⟨#[]⟩]) 4 48 underlying36 po pq pr mu rfl (by decide) _ _ _ (by rfl) eQ.o _ d.patch _ (by rfl) (uJ.o _ fL) (λ_=>rfl) (λy u hu=>cJ hu) (by have q:=oz.o;unfold maxLen;omega) (by have q:=oz.o;omega) zz ?_;intro p' V4 aY aw cY ci;have dz:ag (ay ah d.patch U.heap.size V4 p'):=I (ay.bI ah (size:=4) (λ_=>rfl) (by simpa using aY));have iz:Below U.heap.size U V4:=fL.grown aw zz (λj hj=>(eQ.o.lt j hj).1);have Fg:V3.heap.size<=V4.heap.size:=aw.size
   have uF:ag (∀b,cx d.patch p' b->(b=V2.heap.size\/b=V3.heap.size)/\b<V4.heap.size):=I (λb hb=>by
    refine ⟨?_,(ay.dw dz.o hb).2⟩;rcases ci with h|h
    ·have e:some V2.heap.size=some b:=h.symm.trans hb.2;injection e with e
     exact .inl e.symm
    have e:some V3.heap.size=some b:=h.symm.trans hb.2;injection e with e
    exact .inr e.symm)
   obtain ⟨A7,c7,rfl,_⟩:=dz.o
   try replace fz:=I (fz.o.aD (F:=λb=>some V2.heap.size=some b) (Touch.aW aw (λb hb=>hb)) (λb hb e=>by have e1:some V0.heap.size=some b:=hb.2;injection e1 with e1;injection e with e;omega))
   try replace dW:=I (dW.o.aD (F:=λb=>some V2.heap.size=some b) (by omega) (Touch.aW aw (λb hb=>hb)) (λe=>by injection e with e;omega))
   clear aY aw cY ci zz;refine hK.out _ _ (λ_=>dl.o _ iz) ?_;clear hK K
   try simp only[Act.put,aM]
   refine eS 28 (λ_=>dl.o _ iz) ?_
   try simp only[Act.put,aK,aM]
   obtain ⟨na,jy⟩: ∃n,n=V1.heap.size:=⟨_,rfl⟩
   obtain ⟨nk,gY⟩: ∃n,n=V0.heap.size:=⟨_,rfl⟩
   rw[<-jy]at dW⊢;rw[<-gY]at fz⊢;have wS:=Nat.le_of_eq jy;have wT:=Nat.le_of_eq jy.symm;have wU:=Nat.le_of_eq gY;have wV:=Nat.le_of_eq gY.symm;clear jy gY;exact nY
  try simp only[aK]
  go_simp;have gZ:Below U.heap.size U (V0.alloc (.cells #[.string ⟨#[]⟩,.int .i64 0,.slice none 0 0,.int .i64 0,.int .i64 0,.int .i64 0,.slice none 0 0,.int .i64 0] 119)):=jo.alloc jo.size _;have xn:Below V0.heap.size V0 (V0.alloc (.cells #[.string ⟨#[]⟩,.int .i64 0,.slice none 0 0,.int .i64 0,.int .i64 0,.int .i64 0,.slice none 0 0,.int .i64 0] 119)):=(Below.refl _ _).alloc (Nat.le_refl _) _;have Pr:V0.heap.size+1<=(V0.alloc (.cells #[.string ⟨#[]⟩,.int .i64 0,.slice none 0 0,.int .i64 0,.int .i64 0,.int .i64 0,.slice none 0 0,.int .i64 0] 119)).heap.size:=by simp
  refine hK.out _ _ (λ_=>dl.o _ gZ) ?_;clear hK K
  try simp only[Act.put,aM]
  have dW:ag (Row (V0.alloc (.cells #[.string ⟨#[]⟩,.int .i64 0,.slice none 0 0,.int .i64 0,.int .i64 0,.int .i64 0,.slice none 0 0,.int .i64 0] 119)) V0.heap.size [.string ⟨#[]⟩,.int .i64 0,.slice none 0 0,.int .i64 0,.int .i64 0,.int .i64 0,.slice none 0 0,.int .i64 0]):=I (Row.new V0 _ _);obtain ⟨V1,pH⟩: ∃X,X=V0.alloc (.cells #[.string ⟨#[]⟩,.int .i64 0,.slice none 0 0,.int .i64 0,.int .i64 0,.int .i64 0,.slice none 0 0,.int .i64 0] 119):=⟨_,rfl⟩
  rw[<-pH]at gZ xn Pr dW⊢;clear pH
  try replace eQ:=I (aT eQ.o xn)
  try replace dz:=I (dz.o.on xn)
  try replace fz:=I (fz.o.on xn)
  refine bZ (rs:=[8,27]) (by kernel_rfl) (by simp) ?_;refine aN.cons rfl (λK hK=>?_) (aN.cons rfl (λK hK=>?_) aN.nil)
  ·try simp only[aK]
   go_simp;have iI:Below U.heap.size U (V1.alloc (.cells #[] 93)):=gZ.alloc gZ.size _;have oB:Below V1.heap.size V1 (V1.alloc (.cells #[] 93)):=(Below.refl _ _).alloc (Nat.le_refl _) _;have Ff:V1.heap.size+1<=(V1.alloc (.cells #[] 93)).heap.size:=by simp
   refine hK.out _ _ (λ_=>dl.o _ iI) ?_;clear hK K
   try simp only[Act.put,aM]
   try replace fz:=I (fz.o.on oB)
   try replace dW:=I (dW.o.below oB (by omega))
   have eQ:ag ((V1.alloc (.cells #[] 93)).ownsRow U.heap.size 93 4 (.slice (some ⟨V1.heap.size,0,none⟩) 0 0) 0 []):=I (by have zz:=gZ.size;simpa using World.ownsRow_made (base:=U.heap.size) V1 #[] 0 zz (Nat.zero_le _) rfl);obtain ⟨V2,mi⟩: ∃X,X=V1.alloc (.cells #[] 93):=⟨_,rfl⟩
   try rw[<-mi]at fz
   try rw[<-mi]at dW
   rw[<-mi]at iI oB Ff eQ⊢;clear mi;refine bZ (rs:=[13,27]) (by kernel_rfl) (by simp) ?_;refine aN.cons rfl (λK hK=>?_) (aN.cons rfl (λK hK=>?_) aN.nil)
   ·try simp only[aK]
    have zz:=iI.size;refine aQ ah (by rfl) _ _ 36 (by rfl) U.heap.size 93 d0 (.agg #[.int .i64 0,.int .i64 0,.string ⟨#[]⟩,.string ⟨#[]⟩]) 4 48 underlying36 po pq pr mu rfl (by decide) _ _ _ (by rfl) eQ.o _ d.patch _ (by rfl) (uJ.o _ iI) (λ_=>rfl) (λy u hu=>cJ hu) (by have q:=oz.o;unfold maxLen;omega) (by have q:=oz.o;omega) zz ?_;intro p' V3 aY aw cY ci;have dz:ag (ay ah d.patch U.heap.size V3 p'):=I (ay.bI ah (size:=4) (λ_=>rfl) (by simpa using aY));have fL:Below U.heap.size U V3:=iI.grown aw zz (λj hj=>(eQ.o.lt j hj).1);have Ad:V2.heap.size<=V3.heap.size:=aw.size
    have uF:ag (∀b,cx d.patch p' b->(b=V1.heap.size\/b=V2.heap.size)/\b<V3.heap.size):=I (λb hb=>by
     refine ⟨?_,(ay.dw dz.o hb).2⟩;rcases ci with h|h
     ·have e:some V1.heap.size=some b:=h.symm.trans hb.2;injection e with e
      exact .inl e.symm
     have e:some V2.heap.size=some b:=h.symm.trans hb.2;injection e with e
     exact .inr e.symm)
    obtain ⟨A7,c7,rfl,_⟩:=dz.o
    try replace fz:=I (fz.o.aD (F:=λb=>some V1.heap.size=some b) (Touch.aW aw (λb hb=>hb)) (λb hb e=>by have e1:some 0=some b:=hb.2;injection e1 with e1;injection e with e;omega))
    try replace dW:=I (dW.o.aD (F:=λb=>some V1.heap.size=some b) (by omega) (Touch.aW aw (λb hb=>hb)) (λe=>by injection e with e;omega))
    clear aY aw cY ci zz;refine hK.out _ _ (λ_=>dl.o _ fL) ?_;clear hK K
    try simp only[Act.put,aM]
    refine cV 27 (λK hK=>?_)
    try simp only[aK]
    try simp only[aK]
    obtain ⟨V4,qe,ou,sC,Fg⟩:=kG V3 a.af.length (by omega);have iz:Below U.heap.size U V4:=fL.trans (sC.mono fL.size);have fz:ag (ay ak (List.replicate a.af.length (0:Int)) U.heap.size V4 (.slice (some ⟨V3.heap.size,0,none⟩) a.af.length a.af.length)):=I (ou.less fL.size);clear ou;go_simp;clear qe;refine hK.out _ _ (λ_=>dl.o _ iz) ?_;clear hK K
    try simp only[Act.put,aM]
    try replace eQ:=I (aT eQ.o sC)
    try replace dz:=I (dz.o.on sC)
    try replace dW:=I (dW.o.below sC (by omega))
    refine eS 28 (λ_=>dl.o _ iz) ?_
    try simp only[Act.put,aK,aM]
    obtain ⟨na,jy⟩: ∃n,n=V0.heap.size:=⟨_,rfl⟩
    obtain ⟨nk,gY⟩: ∃n,n=V3.heap.size:=⟨_,rfl⟩
    rw[<-jy]at dW⊢;rw[<-gY]at fz⊢;have wS:=Nat.le_of_eq jy;have wT:=Nat.le_of_eq jy.symm;have wU:=Nat.le_of_eq gY;have wV:=Nat.le_of_eq gY.symm;clear jy gY;exact nY
   try simp only[aK]
   obtain ⟨V3,qe,ou,lR,Ad⟩:=kG V2 a.af.length (by omega);have fL:Below U.heap.size U V3:=iI.trans (lR.mono iI.size);have fz:ag (ay ak (List.replicate a.af.length (0:Int)) U.heap.size V3 (.slice (some ⟨V2.heap.size,0,none⟩) a.af.length a.af.length)):=I (ou.less iI.size);clear ou;go_simp;clear qe;refine hK.out _ _ (λ_=>dl.o _ fL) ?_;clear hK K
   try simp only[Act.put,aM]
   try replace eQ:=I (aT eQ.o lR)
   try replace dz:=I (dz.o.on lR)
   try replace dW:=I (dW.o.below lR (by omega))
   refine cV 13 (λK hK=>?_)
   try simp only[aK]
   try simp only[aK]
   have zz:=fL.size;refine aQ ah (by rfl) _ _ 36 (by rfl) U.heap.size 93 d0 (.agg #[.int .i64 0,.int .i64 0,.string ⟨#[]⟩,.string ⟨#[]⟩]) 4 48 underlying36 po pq pr mu rfl (by decide) _ _ _ (by rfl) eQ.o _ d.patch _ (by rfl) (uJ.o _ fL) (λ_=>rfl) (λy u hu=>cJ hu) (by have q:=oz.o;unfold maxLen;omega) (by have q:=oz.o;omega) zz ?_;intro p' V4 aY aw cY ci;have dz:ag (ay ah d.patch U.heap.size V4 p'):=I (ay.bI ah (size:=4) (λ_=>rfl) (by simpa using aY));have iz:Below U.heap.size U V4:=fL.grown aw zz (λj hj=>(eQ.o.lt j hj).1);have Fg:V3.heap.size<=V4.heap.size:=aw.size
   have uF:ag (∀b,cx d.patch p' b->(b=V1.heap.size\/b=V3.heap.size)/\b<V4.heap.size):=I (λb hb=>by
    refine ⟨?_,(ay.dw dz.o hb).2⟩;rcases ci with h|h
    ·have e:some V1.heap.size=some b:=h.symm.trans hb.2;injection e with e
     exact .inl e.symm
    have e:some V3.heap.size=some b:=h.symm.trans hb.2;injection e with e
    exact .inr e.symm)
   obtain ⟨A7,c7,rfl,_⟩:=dz.o
   try replace fz:=I (fz.o.aD (F:=λb=>some V1.heap.size=some b) (Touch.aW aw (λb hb=>hb)) (λb hb e=>by have e1:some V2.heap.size=some b:=hb.2;injection e1 with e1;injection e with e;omega))
   try replace dW:=I (dW.o.aD (F:=λb=>some V1.heap.size=some b) (by omega) (Touch.aW aw (λb hb=>hb)) (λe=>by injection e with e;omega))
   clear aY aw cY ci zz;refine hK.out _ _ (λ_=>dl.o _ iz) ?_;clear hK K
   try simp only[Act.put,aM]
   refine eS 28 (λ_=>dl.o _ iz) ?_
   try simp only[Act.put,aK,aM]
   obtain ⟨na,jy⟩: ∃n,n=V0.heap.size:=⟨_,rfl⟩
   obtain ⟨nk,gY⟩: ∃n,n=V2.heap.size:=⟨_,rfl⟩
   rw[<-jy]at dW⊢;rw[<-gY]at fz⊢;have wS:=Nat.le_of_eq jy;have wT:=Nat.le_of_eq jy.symm;have wU:=Nat.le_of_eq gY;have wV:=Nat.le_of_eq gY.symm;clear jy gY;exact nY
  try simp only[aK]
  obtain ⟨V2,qe,ou,oB,Ff⟩:=kG V1 a.af.length (by omega);have iI:Below U.heap.size U V2:=gZ.trans (oB.mono gZ.size);have fz:ag (ay ak (List.replicate a.af.length (0:Int)) U.heap.size V2 (.slice (some ⟨V1.heap.size,0,none⟩) a.af.length a.af.length)):=I (ou.less gZ.size);clear ou;go_simp;clear qe;refine hK.out _ _ (λ_=>dl.o _ iI) ?_;clear hK K
  try simp only[Act.put,aM]
  try replace eQ:=I (aT eQ.o oB)
  try replace dz:=I (dz.o.on oB)
  try replace dW:=I (dW.o.below oB (by omega))
  refine cV 8 (λK hK=>?_)
  try simp only[aK]
  try simp only[aK]
  go_simp;have fL:Below U.heap.size U (V2.alloc (.cells #[] 93)):=iI.alloc iI.size _;have lR:Below V2.heap.size V2 (V2.alloc (.cells #[] 93)):=(Below.refl _ _).alloc (Nat.le_refl _) _;have Ad:V2.heap.size+1<=(V2.alloc (.cells #[] 93)).heap.size:=by simp
  refine hK.out _ _ (λ_=>dl.o _ fL) ?_;clear hK K
  try simp only[Act.put,aM]
  try replace fz:=I (fz.o.on lR)
  try replace dW:=I (dW.o.below lR (by omega))
  have eQ:ag ((V2.alloc (.cells #[] 93)).ownsRow U.heap.size 93 4 (.slice (some ⟨V2.heap.size,0,none⟩) 0 0) 0 []):=I (by have zz:=iI.size;simpa using World.ownsRow_made (base:=U.heap.size) V2 #[] 0 zz (Nat.zero_le _) rfl);obtain ⟨V3,ql⟩: ∃X,X=V2.alloc (.cells #[] 93):=⟨_,rfl⟩
  try rw[<-ql]at fz
  try rw[<-ql]at dW
  rw[<-ql]at fL lR Ad eQ⊢;clear ql;refine cV 13 (λK hK=>?_)
  try simp only[aK]
  try simp only[aK]
  have zz:=fL.size;refine aQ ah (by rfl) _ _ 36 (by rfl) U.heap.size 93 d0 (.agg #[.int .i64 0,.int .i64 0,.string ⟨#[]⟩,.string ⟨#[]⟩]) 4 48 underlying36 po pq pr mu rfl (by decide) _ _ _ (by rfl) eQ.o _ d.patch _ (by rfl) (uJ.o _ fL) (λ_=>rfl) (λy u hu=>cJ hu) (by have q:=oz.o;unfold maxLen;omega) (by have q:=oz.o;omega) zz ?_;intro p' V4 aY aw cY ci;have dz:ag (ay ah d.patch U.heap.size V4 p'):=I (ay.bI ah (size:=4) (λ_=>rfl) (by simpa using aY));have iz:Below U.heap.size U V4:=fL.grown aw zz (λj hj=>(eQ.o.lt j hj).1);have Fg:V3.heap.size<=V4.heap.size:=aw.size
  have uF:ag (∀b,cx d.patch p' b->(b=V2.heap.size\/b=V3.heap.size)/\b<V4.heap.size):=I (λb hb=>by
   refine ⟨?_,(ay.dw dz.o hb).2⟩;rcases ci with h|h
   ·have e:some V2.heap.size=some b:=h.symm.trans hb.2;injection e with e
    exact .inl e.symm
   have e:some V3.heap.size=some b:=h.symm.trans hb.2;injection e with e
   exact .inr e.symm)
  obtain ⟨A7,c7,rfl,_⟩:=dz.o
  try replace fz:=I (fz.o.aD (F:=λb=>some V2.heap.size=some b) (Touch.aW aw (λb hb=>hb)) (λb hb e=>by have e1:some V1.heap.size=some b:=hb.2;injection e1 with e1;injection e with e;omega))
  try replace dW:=I (dW.o.aD (F:=λb=>some V2.heap.size=some b) (by omega) (Touch.aW aw (λb hb=>hb)) (λe=>by injection e with e;omega))
  clear aY aw cY ci zz;refine hK.out _ _ (λ_=>dl.o _ iz) ?_;clear hK K
  try simp only[Act.put,aM]
  refine eS 28 (λ_=>dl.o _ iz) ?_
  try simp only[Act.put,aK,aM]
  obtain ⟨na,jy⟩: ∃n,n=V0.heap.size:=⟨_,rfl⟩
  obtain ⟨nk,gY⟩: ∃n,n=V1.heap.size:=⟨_,rfl⟩
  rw[<-jy]at dW⊢;rw[<-gY]at fz⊢;have wS:=Nat.le_of_eq jy;have wT:=Nat.le_of_eq jy.symm;have wU:=Nat.le_of_eq gY;have wV:=Nat.le_of_eq gY.symm;clear jy gY;exact nY
 case rest=>
  obtain ⟨na,A7,c7,nk,rfl,hR,hP,ou,Z9,hb,aI,jy⟩:=hcut;have HR:=I hR;have CC:ag (pD d a.af.length=⟨d.al,(j:Int),d.patch,d.start,d.aB,d.aj,List.replicate a.af.length 0,0⟩):=I (by unfold pD;rw[HJ.o]);have hBg:=mz.o.bb;have TS:=mz.o.lt;have KP:ag (∀w',Row w' ba [.int .i64 a.day,.int .i64 a.rule,.slice At a.af.length ct,.slice Ab a.base.length cb,.slice Ac a.av.length L4,.slice Am a.ao.length L1]->Row w' na [.string d.al,.int .i64 (j:Int),.slice A7 d.patch.length c7,.int .i64 d.start,.int .i64 d.aB,.int .i64 d.aj,.slice (some ⟨nk,0,none⟩) a.af.length a.af.length,.int .i64 0]->w'.cell? ⟨ba,5,none⟩=some (.slice Am a.ao.length L1)/\w'.cell? ⟨na,0,none⟩=some (.string d.al)/\w'.cell? ⟨na,1,none⟩=some (.int .i64 (j:Int))/\w'.cell? ⟨na,2,none⟩=some (.slice A7 d.patch.length c7)/\w'.cell? ⟨na,3,none⟩=some (.int .i64 d.start)/\w'.cell? ⟨na,4,none⟩=some (.int .i64 d.aB)/\w'.cell? ⟨na,5,none⟩=some (.int .i64 d.aj)/\w'.cell? ⟨na,6,none⟩=some (.slice (some ⟨nk,0,none⟩) a.af.length a.af.length)/\w'.cell? ⟨na,7,none⟩=some (.int .i64 0)):=I (λw' h1 h2=>⟨h1.cell 5 _ rfl,h2.cell 0 _ rfl,h2.cell 1 _ rfl,h2.cell 2 _ rfl,h2.cell 3 _ rfl,h2.cell 4 _ rfl,h2.cell 5 _ rfl,h2.cell 6 _ rfl,h2.cell 7 _ rfl⟩);have Kf:ag (∀w',Below wc.heap.size wc w'->w'.cell? ⟨ba,5,none⟩=some (.slice Am a.ao.length L1)/\w'.cell? ⟨na,0,none⟩=some (.string d.al)/\w'.cell? ⟨na,1,none⟩=some (.int .i64 (j:Int))/\w'.cell? ⟨na,2,none⟩=some (.slice A7 d.patch.length c7)/\w'.cell? ⟨na,3,none⟩=some (.int .i64 d.start)/\w'.cell? ⟨na,4,none⟩=some (.int .i64 d.aB)/\w'.cell? ⟨na,5,none⟩=some (.int .i64 d.aj)/\w'.cell? ⟨na,6,none⟩=some (.slice (some ⟨nk,0,none⟩) a.af.length a.af.length)/\w'.cell? ⟨na,7,none⟩=some (.int .i64 0)):=I (λw' h=>KP.o w' (mz.o.below (hb.trans (h.mono hb.size))).row (HR.o.below h aI));go_upto_region 14 with (fail)
  refine dq 10 (λw'=>w'.cell? ⟨ba,5,none⟩=some (.slice Am a.ao.length L1)/\w'.cell? ⟨na,0,none⟩=some (.string d.al)/\w'.cell? ⟨na,1,none⟩=some (.int .i64 (j:Int))/\w'.cell? ⟨na,2,none⟩=some (.slice A7 d.patch.length c7)/\w'.cell? ⟨na,3,none⟩=some (.int .i64 d.start)/\w'.cell? ⟨na,4,none⟩=some (.int .i64 d.aB)/\w'.cell? ⟨na,5,none⟩=some (.int .i64 d.aj)/\w'.cell? ⟨na,6,none⟩=some (.slice (some ⟨nk,0,none⟩) a.af.length a.af.length)/\w'.cell? ⟨na,7,none⟩=some (.int .i64 0)) (by kernel_rfl) ?_;obtain ⟨V0,Kv⟩: ∃X,X=wc.drew:=⟨_,rfl⟩
  have jo:Below wc.heap.size wc V0:=by rw[Kv];exact (Below.refl _ _).drew
  have Xn:wc.heap.size<=V0.heap.size:=jo.size;rw[<-Kv];clear Kv hR;have aE:=Kf.o V0 jo;refine cl 0 ?_
  try simp only[Act.put,aK,aM]
  refine cl 1 ?_
  try simp only[Act.put,aK,aM]
  refine cl 2 ?_
  try simp only[Act.put,aK,aM]
  refine cl 3 ?_
  try simp only[Act.put,aK,aM]
  refine cl 4 ?_
  try simp only[Act.put,aK,aM]
  refine cl 5 ?_
  try simp only[Act.put,aK,aM]
  clear aE;refine cV 6 (λK hK=>?_)
  try simp only[aK]
  go_simp;obtain ⟨V1,pH⟩: ∃X,X=V0.alloc (.cells #[.string d.al,.int .i64 (j:Int),.slice A7 d.patch.length c7,.int .i64 d.start,.int .i64 d.aB,.int .i64 d.aj,.slice (some ⟨nk,0,none⟩) a.af.length a.af.length,.int .i64 0] 119):=⟨_,rfl⟩
  have gZ:Below wc.heap.size wc V1:=by rw[pH];exact jo.alloc jo.size _
  have L8:ag (∀j' u,(cK ⟨⟨d.al,(j:Int),d.patch,d.start,d.aB,d.aj,List.replicate a.af.length 0,0⟩,.slice A7 d.patch.length c7,.slice (some ⟨nk,0,none⟩) a.af.length a.af.length⟩)[j']?=some u->V1.cell? ((⟨V0.heap.size,0,none⟩:Addr).add j')=some u):=I (λj' u hj=>by rw[pH];exact fS hj);rw[<-pH];clear pH;have da:ag (Below U.heap.size U V1):=I (hb.trans (gZ.mono hb.size));have G4:=I (mz.o.below da.o).own.mr;have HI:ag (cX.fa U.heap.size V1 (⟨⟨d.al,(j:Int),d.patch,d.start,d.aB,d.aj,List.replicate a.af.length 0,0⟩,.slice A7 d.patch.length c7,.slice (some ⟨nk,0,none⟩) a.af.length a.af.length⟩:bH)):=I ⟨hP.on gZ,ou.on gZ,λb h1 h2=>Z9 b h1 h2⟩;have Ha:wc.heap.size<=V1.heap.size:=gZ.size;have Z':U.heap.size<=wc.heap.size:=hb.size;refine hK.out _ _ (λ_=>Kf.o _ gZ) ?_;clear hK K
  try simp only[Act.put,aM]
  refine cV 7 (λK hK=>?_)
  try simp only[aK]
  refine iA (by rfl) _ _ 27 (by rfl) base 119 m0 (.agg #[.string ⟨#[]⟩,.int .i64 0,.slice none 0 0,.int .i64 0,.int .i64 0,.int .i64 0,.slice none 0 0,.int .i64 0]) 8 104 underlying27 vL An EU EV rfl (by decide) _ _ _ (by rfl) G4.o ⟨V0.heap.size,0,none⟩ 1 1 (cK ⟨⟨d.al,(j:Int),d.patch,d.start,d.aB,d.aj,List.replicate a.af.length 0,0⟩,.slice A7 d.patch.length c7,.slice (some ⟨nk,0,none⟩) a.af.length a.af.length⟩) (by rfl) (by rfl) L8.o (λu hu=>sz rfl rfl hu) (by have q:=pO.o;unfold maxLen;omega) (by have q:=pO.o;omega) (by omega) ?_;intro v' w9 aG aA aU iH;have nm:v'≠ .slice none 0 0:=by simpa using aU
  have HS:ag (ck base ba (w9.setCell ⟨ba,5,none⟩ v') ⟨.slice At a.af.length ct,.slice Ab a.base.length cb,.slice Ac a.av.length L4,v'⟩ {a with ao:=a.ao++[⟨d.al,(j:Int),d.patch,d.start,d.aB,d.aj,List.replicate a.af.length 0,0⟩]} T C (M++[⟨⟨d.al,(j:Int),d.patch,d.start,d.aB,d.aj,List.replicate a.af.length 0,0⟩,.slice A7 d.patch.length c7,.slice (some ⟨nk,0,none⟩) a.af.length a.af.length⟩])):=I (mz.o.Ng da.o HI.o aA iH aG);have uC:=mz.o.Cm da.o aA;have Xo:Row w9 na [.string d.al,.int .i64 (j:Int),.slice A7 d.patch.length c7,.int .i64 d.start,.int .i64 d.aB,.int .i64 d.aj,.slice (some ⟨nk,0,none⟩) a.af.length a.af.length,.int .i64 0]:=(HR.o.below gZ aI).aD (by omega) (Touch.aW (F:=λb=>(Value.slice Am a.ao.length L1).ownBlock=some b) aA (λb hb=>hb)) (λe=>by have q:=mz.o.O6 _ (.inr (.inr (.inr (mz.o.own.jX e))));omega);have HL:ag (Below base w (w9.setCell ⟨ba,5,none⟩ v')):=I (((VN.o.trans (da.o.mono (by omega))).grown aA (by omega) (λj hj=>by have q:=(G4.o.lt j hj).1;omega)).setCell (by show base<=ba;omega) _);have Qf:=I (KP.o _ uC Xo);have s5:=uC.cell 5 _ rfl;have f5:=uC.free 5 (by simp);obtain ⟨g9,gM,rfl,_,_⟩:=bG aG nm;clear aG aA aU iH nm uC Xo;refine hK.out _ _ (λ_=>Qf.o) ?_;clear hK K
  try simp only[Act.put,aM]
  refine eS 8 (λ_=>Qf.o) ?_
  try simp only[Act.put,aK,aM]
  refine eS 9 (λ_=>Qf.o) ?_
  try simp only[Act.put,aK,aM]
  refine cV 10 (λK hK=>?_)
  try simp only[aK]
  go_simp;refine hK.out _ _ (λh=>by simp at h) ?_;clear hK K
  try simp only[Act.put,aM]
  clear s5 f5;refine dh (by kernel_rfl) ?_ _;go_wp2;go_ret;exact ⟨rfl,⟨_,_,_,_,by rw[CC.o];exact HS.o⟩,HL.o⟩
end Go.Proofs.YtbcggaldkihcaaaGreatDoor

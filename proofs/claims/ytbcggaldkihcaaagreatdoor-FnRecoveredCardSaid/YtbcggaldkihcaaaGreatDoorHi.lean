/- A deed done, with the blocks that stay: the next day, trust and votes; walked: the refer.. -/
import Derived.Test.YtbcggaldkihcaaaGreatDoorHg
import Derived.Test.YtbcggaldkihcaaaGreatDoorZi
set_option maxHeartbeats 8000000
set_option maxRecDepth 100000
namespace Go.Proofs.YtbcggaldkihcaaaGreatDoor
open Tryz
open Go.RowKit Go.Lib
def DoK (a:cp) (o:Option cp) (base ba:Nat) (Z:Nat->Prop) (w:World) (e:Ending) (w':World):Prop:=
 e= .returned (.bool o.isSome)/\(∃x T C M,ck base ba w' x (o.getD a) T C M/\ ∀b,bz x (o.getD a) T C M b-> ¬Z b)/\Below base w w'/\W3 Z w w'
theorem amP (a:cp) (d:dr) (x:cS) (T:List bR) (C:List bu) (M:List bH) (base ba bd So:Nat) (A1:Option Addr) (c1:Nat) (A2:Option Addr) (c2:Nat) (w:World) (hB:ck base ba w x a T C M) (hF:dJ a) (hD:fp w bd So d A1 c1 A2 c2) (Z:Nat->Prop) (uR: ∀z,Z z->z<w.heap.size) (zc: ¬Z ba) (xl: ∀b,bz x a T C M b-> ¬Z b) (hk:d.kind=4):
 Calls prog 45 #[.pointer (some ⟨ba,0,none⟩),.pointer (some ⟨bd,So,none⟩)] w (DoK a (mW a d) base ba Z w):=by
 have Ho:=hF.d1;have z0:=hB.row.cell 0 _ rfl;obtain ⟨At,ct,Ab,cb,Ac,L4,Am,L1,rfl⟩:=hB.own.o.r.slices;have z2:=hB.row.cell 2 _ rfl;have k0:=hD.k0;rw[hk]at k0;by_cases sy:a.day<999
 ·rw[zR hk sy];have HC:=I (ab0 a _ T C M base ba w hB hF sy Z uR zc xl);unfold aj0 at HC;have eA: ¬(999:Int)<=a.day:=by omega
  clear hB hF hD hk sy xl uR zc;go_enter func45,ntmps45;go_wp2_with (fail);refine HC.o.mono ?_;rintro e w' ⟨rfl,x',T',C',M',Xk,dF,amL,amM⟩;have Kh:=I (And.intro Xk amM);have Rv:=I (And.intro dF amL);clear Xk dF amL amM z0 z2 k0;go_wp2;go_ret;exact ⟨rfl,⟨x',T',C',M',Kh.o.1,Kh.o.2⟩,Rv.o.1,Rv.o.2⟩
 rw[zS hk sy];have HB:=I hB;have G9:=I xl;have oA:=I uR;have eA:(999:Int)<=a.day:=by omega
 clear hB hF hD hk sy xl uR zc;go_enter func45,ntmps45;go_wp2;go_ret;exact ⟨rfl,⟨_,T,C,M,HB.o,G9.o⟩,Below.refl _ _,W3.of oA.o (Below.refl _ _)⟩
theorem amQ (a:cp) (d:dr) (x:cS) (T:List bR) (C:List bu) (M:List bH) (base ba bd So:Nat) (A1:Option Addr) (c1:Nat) (A2:Option Addr) (c2:Nat) (w:World) (hB:ck base ba w x a T C M) (hF:dJ a) (hd:cA d=true) (hD:fp w bd So d A1 c1 A2 c2) (Z:Nat->Prop) (uR: ∀z,Z z->z<w.heap.size) (zc: ¬Z ba) (xl: ∀b,bz x a T C M b-> ¬Z b) (hk:d.kind=1):
 Calls prog 45 #[.pointer (some ⟨ba,0,none⟩),.pointer (some ⟨bd,So,none⟩)] w (DoK a (mW a d) base ba Z w):=by
 have htr:=hD.ints;obtain ⟨j,hj⟩: ∃j:Nat,d.member=(j:Int):=⟨d.member.toNat,by have:=il hd;omega⟩
 obtain ⟨At,ct,Ab,cb,Ac,L4,Am,L1,rfl⟩:=hB.own.o.r.slices;have j7:=hB.bb;have bD:=hB.lt;have fD:=hF.ok.n12;have kM:=hF.ok.n1;have Cv:=hF.d0;have Cw:=hF.d1;have HJ:=I hj;have HB:=I hB;have HF:=I hF;have ii:=I hd;have eT:=I (λy:ar w=>hB.below y.ok);have mS:=I (λy:ar w=>(Below.mono y.ok (by omega):Below base w y.val));have fC:=I (λy:ar w=>hD.km y);have k0:=λy:ar w=>(fC.o y).k0;have k1: ∀y:ar w,y.val.cell? ⟨bd,So+1,none⟩=some (.int .i64 (j:Int)):=λy=>by have:=(fC.o y).k1;rw[hj]at this;exact this
 have k2: ∀y:ar w,y.val.cell? ⟨bd,So+2,none⟩=some (.slice A1 d.af.length c1):=λy=>(fC.o y).k2;have k3: ∀y:ar w,y.val.cell? ⟨bd,So+3,none⟩=some (.string d.al):=λy=>(fC.o y).k3;have k4: ∀y:ar w,y.val.cell? ⟨bd,So+4,none⟩=some (.int .i64 d.bO):=λy=>(fC.o y).k4;have k5: ∀y:ar w,y.val.cell? ⟨bd,So+5,none⟩=some (.slice A2 d.patch.length c2):=λy=>(fC.o y).k5;have k6: ∀y:ar w,y.val.cell? ⟨bd,So+6,none⟩=some (.int .i64 d.start):=λy=>(fC.o y).k6;have k7: ∀y:ar w,y.val.cell? ⟨bd,So+7,none⟩=some (.int .i64 d.aB):=λy=>(fC.o y).k7;have k8: ∀y:ar w,y.val.cell? ⟨bd,So+8,none⟩=some (.int .i64 d.aj):=λy=>(fC.o y).k8;have z0:=λy:ar w=>(eT.o y).row.cell 0 _ rfl;have z2:=λy:ar w=>(eT.o y).row.cell 2 _ rfl;have z5:=λy:ar w=>(eT.o y).row.cell 5 _ rfl;have nH:=I (λy:ar w=>qI a ⟨.slice At a.af.length ct,.slice Ab a.base.length cb,.slice Ac a.av.length L4,.slice Am a.ao.length L1⟩ d.al ba 0 y.val ((eT.o y).row.cell 5 _ rfl) (eT.o y).own.o.r.m);have G9:=I xl;have oA:=I uR;have HZB:=I zc;clear hB hF hd hD xl uR zc;rw[hk]at k0;have ZW:(d.kind==4)=false:=by rw[hk];rfl
 refine aL λx0=>?_;by_cases hw:(a.af.length:Int)<=d.member
 ·rw[qY (by omega) hw];have Kt:(a.af.length:Int)<=(j:Int):=by rw[<-hj];exact hw
  clear hk hw hj;go_enter func45,ntmps45;go_wp2;go_ret;exact ⟨rfl,⟨_,T,C,M,eT.o x0,G9.o⟩,mS.o x0,W3.of oA.o (x0).ok⟩
 have Kt: ¬(a.af.length:Int)<=(j:Int):=by rw[<-hj];exact hw
 have yb:j<a.af.length:=by omega
 cases ht:cF d.af d.member a.af.length with
 |false=>
  rw[pE hk hw ht];rw[hj]at ht;have HT:=I (λy:ar w=>bh d.af (j:Int) a.af.length y.val _ false (fC.o y).ints (by omega) (by omega) ht);clear hk hw hj ht;go_enter func45,ntmps45;go_wp2_with (fail);refine (aq (nH.o x0)).mono ?_;rintro e _ ⟨rfl,x1,rfl⟩;go_upto_region 16 with (fail)
  refine ap (by kernel_rfl) (by kernel_rfl) ?_
  repeat (go_big_quiet_step ((first|(go_at_call 71;exact aq (HT.o _)))))
  refine wpQuiet_nil ?_;rintro _ ⟨x2,rfl⟩;go_wp2;go_ret;exact ⟨rfl,⟨_,T,C,M,eT.o x2,G9.o⟩,mS.o x2,W3.of oA.o (x2).ok⟩
 |true=>
  rw[wN hk hw ht];rw[hj]at ht
  have yh:d.af.length<=4:=by
   have h:=ht;rw[fo,Bool.and_eq_true]at h;exact of_decide_eq_true h.2
  have HT:=I (λy:ar w=>bh d.af (j:Int) a.af.length y.val _ true (fC.o y).ints (by omega) (by omega) ht);have Ak:(d.member.toNat:Nat)=j:=by rw[hj];omega
  rw[Ak];clear hk hw hj ht;go_enter func45,ntmps45;go_wp2_with (fail);refine (aq (nH.o x0)).mono ?_;rintro e _ ⟨rfl,x1,rfl⟩;go_upto_region 16 with (fail)
  refine ap (by kernel_rfl) (by kernel_rfl) ?_
  repeat (go_big_quiet_step ((first|(go_at_call 71;exact aq (HT.o _)))))
  refine wpQuiet_nil ?_;rintro _ ⟨x2,rfl⟩;go_upto_region 18 with (fail)
  have Dd:T.length=a.af.length:=by rw[<-HB.o.own.o.tm,List.length_map]
  have Md:T[j]?=some (T[j]'(by omega)):=List.getElem?_eq_getElem (by omega);obtain ⟨gT,Et,VG,_,_,Pm,_,_⟩:=HB.o.own.o.t.cell Md;injection VG with e1 e2 e3
  clear e2;subst e1;subst e3;generalize (T[j]'(by omega))=yT at*
  have Sa:ag (∀y:ar w,y.val.cell? ⟨gT,j,none⟩=some yT.v/\y.val.frozen? ⟨gT,j,none⟩=false):=I (λy=>by
   obtain ⟨g',c',hv,_,_,_,_,hc⟩:=(eT.o y).own.o.t.cell Md;injection hv with e1 _ _
   injection e1 with e1
   injection e1 with e1
   have:=hc 0 yT.v rfl;rw[<-e1,show j*dX.size+0=j by show j*1+0=j;omega]at this;exact this)
  have Pn:=I Md;clear Dd Md;have KJ:(0:Int)<=(j:Int):=Int.natCast_nonneg _;have VH:(j:Int)<(a.af.length:Int):=by omega
  refine dq 14 (λw'=>w'.cell? ⟨ba,2,none⟩=some (.slice (some ⟨gT,0,none⟩) a.af.length ct)/\w'.cell? ⟨bd,So+1,none⟩=some (.int .i64 (j:Int))/\w'.cell? ⟨bd,So+2,none⟩=some (.slice A1 d.af.length c1)) (by kernel_rfl) ?_;obtain ⟨x3,yS⟩: ∃y:ar w,y.val=x2.val.drew:=⟨⟨x2.val.drew,x2.ok.drew⟩,rfl⟩
  rw[<-yS];clear yS;have dl:=I (λy:ar w=>(⟨z2 y,k1 y,k2 y⟩:y.val.cell? ⟨ba,2,none⟩=some (.slice (some ⟨gT,0,none⟩) a.af.length ct)/\y.val.cell? ⟨bd,So+1,none⟩=some (.int .i64 (j:Int))/\y.val.cell? ⟨bd,So+2,none⟩=some (.slice A1 d.af.length c1)));have aE:=dl.o x3;clear k0 k1 k2 k3 k4 k5 k6 k7 k8 z0 z2 z5;refine cl 0 ?_
  try simp only[Act.put,aK,aM]
  refine cl 1 ?_
  try simp only[Act.put,aK,aM]
  refine cl 2 ?_
  try simp only[Act.put,aK,aM]
  refine cl 3 ?_
  try simp only[Act.put,aK,aM]
  refine cl 4 ?_
  try simp only[Act.put,aK,aM]
  refine cl 5 ?_
  try simp only[Act.put,aK,aM]
  refine cl 6 ?_
  try simp only[Act.put,aK,aM]
  refine cl 7 ?_
  try simp only[Act.put,aK,aM]
  refine cl 8 ?_
  try simp only[Act.put,aK,aM]
  refine cl 9 ?_
  try simp only[Act.put,aK,aM]
  refine cl 10 ?_
  try simp only[Act.put,aK,aM]
  refine cl 11 ?_
  try simp only[Act.put,aK,aM]
  clear aE;have xf:=I (pV d.af x3.val _ (fC.o x3).ints (by omega));unfold rY at xf;refine cV 12 (λK hK=>?_)
  try simp only[aK]
  go_simp;go_at_call 65;refine xf.o.mono ?_;rintro e w4 ⟨A3,c3,rfl,hO,l8⟩;obtain ⟨x4,rfl⟩: ∃y:ar w,w4=y.val:=⟨⟨w4,x3.ok.trans (l8.mono x3.ok.size)⟩,rfl⟩
  have Nf:=dl.o x4;refine hK.out _ _ (λ_=>Nf) ?_;clear hK K
  try simp only[Act.put,aM]
  refine eS 13 (λ_=>Nf) ?_
  try simp only[Act.put,aK,aM]
  refine cV 14 (λK hK=>?_)
  try simp only[aK]
  have m7:=(Sa.o x4).1;have K5:=(Sa.o x4).2;go_simp;refine hK.out _ _ (λh=>by simp at h) ?_;clear hK K
  try simp only[Act.put,aM]
  refine dh (by kernel_rfl) ?_ _;have HR:=I ((eT.o x3).py l8 Pn.o rfl hO (Nat.le_refl _));have ZR: ¬Z gT:=G9.o gT (.inl (.inl ⟨(λe=>by have h:=Pn.o;rw[e]at h;simp at h),rfl⟩));have Kf:ag (W3 Z w (x4.val.setCell ⟨gT,j,none⟩ (.slice A3 d.af.length c3))):=I ((W3.of oA.o x4.ok).nP (p:=⟨gT,j,none⟩) _ (λz hz e=>ZR (by rw[show gT=z from e];exact hz)))
  have UD:ag (∀b,bz _ _ _ _ _ b-> ¬Z b):=I (λb hb=>by
   rcases (dM.py ((eT.o x3).own.below l8) Pn.o rfl hO (λb j7=>((eT.o x3).own.o.lt j7).2) (by have:=(eT.o x3).lt;omega) ((eT.o x3).own.o.lt (.inl (.inl ⟨(λe=>by have h:=Pn.o;rw[e]at h;simp at h),rfl⟩))).2).2 b hb with q|q
   ·exact G9.o b q
   exact λhz=>by have q2:=(ay.dw hO q).1;have q3:=oA.o b hz;have q4:=x3.ok.size;omega)
  have HL:ag (Below base w (x4.val.setCell ⟨gT,j,none⟩ (.slice A3 d.af.length c3))):=I ((mS.o x4).setCell (p:=⟨gT,j,none⟩) Pm _);clear Nf m7 K5 l8 hO;go_wp2;go_ret;exact ⟨rfl,⟨_,_,_,_,HR.o,UD.o⟩,HL.o,Kf.o⟩
theorem amR (a:cp) (d:dr) (x:cS) (T:List bR) (C:List bu) (M:List bH) (base ba bd So:Nat) (A1:Option Addr) (c1:Nat) (A2:Option Addr) (c2:Nat) (w:World) (hB:ck base ba w x a T C M) (hF:dJ a) (hd:cA d=true) (hD:fp w bd So d A1 c1 A2 c2) (Z:Nat->Prop) (uR: ∀z,Z z->z<w.heap.size) (zc: ¬Z ba) (xl: ∀b,bz x a T C M b-> ¬Z b) (hk:d.kind=2):
 Calls prog 45 #[.pointer (some ⟨ba,0,none⟩),.pointer (some ⟨bd,So,none⟩)] w (DoK a (mW a d) base ba Z w):=by
 obtain ⟨j,hj⟩: ∃j:Nat,d.member=(j:Int):=⟨d.member.toNat,by have:=il hd;omega⟩
 obtain ⟨At,ct,Ab,cb,Ac,L4,Am,L1,rfl⟩:=hB.own.o.r.slices;have j7:=hB.bb;have bD:=hB.lt;have fD:=hF.ok.n12;have kM:=hF.ok.n1;have Cv:=hF.d0;have Cw:=hF.d1;have HJ:=I hj;have HB:=I hB;have HF:=I hF;have ii:=I hd;have eT:=I (λy:ar w=>hB.below y.ok);have mS:=I (λy:ar w=>(Below.mono y.ok (by omega):Below base w y.val));have fC:=I (λy:ar w=>hD.km y);have k0:=λy:ar w=>(fC.o y).k0;have k1: ∀y:ar w,y.val.cell? ⟨bd,So+1,none⟩=some (.int .i64 (j:Int)):=λy=>by have:=(fC.o y).k1;rw[hj]at this;exact this
 have k2: ∀y:ar w,y.val.cell? ⟨bd,So+2,none⟩=some (.slice A1 d.af.length c1):=λy=>(fC.o y).k2;have k3: ∀y:ar w,y.val.cell? ⟨bd,So+3,none⟩=some (.string d.al):=λy=>(fC.o y).k3;have k4: ∀y:ar w,y.val.cell? ⟨bd,So+4,none⟩=some (.int .i64 d.bO):=λy=>(fC.o y).k4;have k5: ∀y:ar w,y.val.cell? ⟨bd,So+5,none⟩=some (.slice A2 d.patch.length c2):=λy=>(fC.o y).k5;have k6: ∀y:ar w,y.val.cell? ⟨bd,So+6,none⟩=some (.int .i64 d.start):=λy=>(fC.o y).k6;have k7: ∀y:ar w,y.val.cell? ⟨bd,So+7,none⟩=some (.int .i64 d.aB):=λy=>(fC.o y).k7;have k8: ∀y:ar w,y.val.cell? ⟨bd,So+8,none⟩=some (.int .i64 d.aj):=λy=>(fC.o y).k8;have z0:=λy:ar w=>(eT.o y).row.cell 0 _ rfl;have z2:=λy:ar w=>(eT.o y).row.cell 2 _ rfl;have z5:=λy:ar w=>(eT.o y).row.cell 5 _ rfl;have nH:=I (λy:ar w=>qI a ⟨.slice At a.af.length ct,.slice Ab a.base.length cb,.slice Ac a.av.length L4,.slice Am a.ao.length L1⟩ d.al ba 0 y.val ((eT.o y).row.cell 5 _ rfl) (eT.o y).own.o.r.m);have G9:=I xl;have oA:=I uR;have HZB:=I zc;clear hB hF hd hD xl uR zc;rw[hk]at k0;refine aL λx0=>?_;by_cases hw:(a.af.length:Int)<=d.member
 ·rw[qY (by omega) hw];have Kt:(a.af.length:Int)<=(j:Int):=by rw[<-hj];exact hw
  clear hk hw hj;go_enter func45,ntmps45;go_wp2;go_ret;exact ⟨rfl,⟨_,T,C,M,eT.o x0,G9.o⟩,mS.o x0,W3.of oA.o (x0).ok⟩
 have Kt: ¬(a.af.length:Int)<=(j:Int):=by rw[<-hj];exact hw
 have yb:j<a.af.length:=by omega
 by_cases hf:0<=fX a.ao d.al
 case neg=>
  rw[qZ hk hw (by omega)];have ZX:fX a.ao d.al<0:=by omega
  generalize fX a.ao d.al=f at*;clear hk hw hj hf;go_enter func45,ntmps45;go_wp2_with (fail);refine (aq (nH.o x0)).mono ?_;rintro e _ ⟨rfl,x1,rfl⟩;go_wp2;go_ret;exact ⟨rfl,⟨_,T,C,M,eT.o x1,G9.o⟩,mS.o x1,W3.of oA.o (x1).ok⟩
 by_cases hr:(jU a d.al).result=0
 case neg=>
  rw[tG hk hw hr];obtain ⟨i,hi,Tm,hg⟩:=pF hf;obtain ⟨g,cap,y,B1,bU,B2,b2,hM,kd,qp⟩:=HB.o.ko hg;have VI:=I hg;rw[hi]at nH;have J':=hM.row;injection J' with e1 e2 e3
  clear e2;subst e1;subst e3;have CL:=I hM.get;have Po:=I hM.P9;have Hk:=HF.o.ok.ax hg;have AN: ¬(i:Int)<0:=by omega
  have VJ:(0:Int)<=(i:Int):=Int.natCast_nonneg _;have VK:(i:Int)<(a.ao.length:Int):=by omega
  have HI:=I hi;have bi:=hM.row;have G':ag (∀y':ar w,∀q u,(cK y)[q]?=some u->y'.val.cell? ⟨g,i*8+q,none⟩=some u/\y'.val.frozen? ⟨g,i*8+q,none⟩=false):=I (λy' q u hu=>(eT.o y').sB CL.o rfl hu);generalize jU a d.al=m at*;obtain ⟨ym,yp,yt⟩:=y;have Kq:ym=m:=Po.o;subst Kq;have hq:(ym.result !=0)=true:=by simp[hr]
  have z7: ∀y':ar w,y'.val.cell? ⟨g,i*8+7,none⟩=some (.int .i64 ym.result):=λy'=>(G'.o y' 7 _ rfl).1;clear hk hw hj hf hr hM qp bi hg hi;go_enter func45,ntmps45;go_wp2_with (fail);refine (aq (nH.o x0)).mono ?_;rintro e _ ⟨rfl,x1,rfl⟩;go_wp2;go_ret;exact ⟨rfl,⟨_,T,C,M,eT.o x1,G9.o⟩,mS.o x1,W3.of oA.o (x1).ok⟩
 rw[zT hk hw hf hr];have Ak:(d.member.toNat:Nat)=j:=by rw[hj];omega
 rw[Ak];obtain ⟨i,hi,Tm,hg⟩:=pF hf;obtain ⟨g,cap,y,B1,bU,B2,b2,hM,kd,qp⟩:=HB.o.ko hg;have VI:=I hg;rw[hi]at nH;have J':=hM.row;injection J' with e1 e2 e3
 clear e2;subst e1;subst e3;have CL:=I hM.get;have Po:=I hM.P9;have Hk:=HF.o.ok.ax hg;have AN: ¬(i:Int)<0:=by omega
 have VJ:(0:Int)<=(i:Int):=Int.natCast_nonneg _;have VK:(i:Int)<(a.ao.length:Int):=by omega
 have HI:=I hi;have bi:=hM.row;have G':ag (∀y':ar w,∀q u,(cK y)[q]?=some u->y'.val.cell? ⟨g,i*8+q,none⟩=some u/\y'.val.frozen? ⟨g,i*8+q,none⟩=false):=I (λy' q u hu=>(eT.o y').sB CL.o rfl hu);generalize jU a d.al=m at*;obtain ⟨ym,yp,yt⟩:=y;have Kq:ym=m:=Po.o;subst Kq;rw[hi,Int.toNat_natCast];have hq:(ym.result !=0)=false:=by simp[hr]
 have Mf:j<ym.ax.length:=by omega
 obtain ⟨gv,cv,Pp,JA⟩:=HB.o.Ku CL.o Mf;have Pp:yt= .slice (some ⟨gv,0,none⟩) ym.ax.length cv:=Pp;subst Pp;have VL:=I (λy':ar w=>(eT.o y').Cx CL.o Mf rfl);have z7: ∀y':ar w,y'.val.cell? ⟨g,i*8+7,none⟩=some (.int .i64 ym.result):=λy'=>(G'.o y' 7 _ rfl).1;have z6: ∀y':ar w,y'.val.cell? ⟨g,i*8+6,none⟩=some (.slice (some ⟨gv,0,none⟩) ym.ax.length cv):=λy'=>(G'.o y' 6 _ rfl).1;have KJ:(0:Int)<=(j:Int):=Int.natCast_nonneg _;have VM:(j:Int)<(ym.ax.length:Int):=by omega
 have Qe:=I Mf;have ZY:=I Hk;clear hk hw hj hf hr hM qp bi hg hi Hk Mf Ak;go_enter func45,ntmps45;go_wp2_with (fail);refine (aq (nH.o x0)).mono ?_;rintro e _ ⟨rfl,x1,rfl⟩;go_upto_region 22 with (fail)
 go_still_tail 16,(by kernel_rfl)
 change wpList _ _ _ _ _ x1.val.drew;obtain ⟨x3,yS⟩: ∃y:ar w,y.val=x1.val.drew:=⟨⟨x1.val.drew,x1.ok.drew⟩,rfl⟩
 rw[<-yS];clear yS;obtain ⟨⟨u7,m7⟩,K5⟩:=VL.o x3;have HR:=I ((eT.o x3).sv CL.o rfl Qe.o d.bO);have ZR: ¬Z gv:=G9.o gv (.inr (.inr (.inr (.inr ⟨_,List.mem_of_getElem? CL.o,.inr ⟨(λe=>by have h:=Qe.o;rw[e]at h;simp at h),rfl⟩⟩))));have Kf:ag (W3 Z w (x3.val.setCell ⟨gv,j,none⟩ (.int .i64 d.bO))):=I ((W3.of oA.o x3.ok).nP (p:=⟨gv,j,none⟩) _ (λz hz e=>ZR (by rw[show gv=z from e];exact hz)));have UD:ag (∀b,bz _ _ _ _ _ b-> ¬Z b):=I (λb hb=>G9.o b (((dM.sv (eT.o x3).own CL.o rfl Qe.o d.bO).2 b).1 hb));have HL:ag (Below base w (x3.val.setCell ⟨gv,j,none⟩ (.int .i64 d.bO))):=I ((mS.o x3).setCell (p:=⟨gv,j,none⟩) JA _);clear k0 k1 k2 k3 k4 k5 k6 k7 k8 z0 z2 z5 z6 z7;go_wp2;go_ret;exact ⟨rfl,⟨_,_,_,_,HR.o,UD.o⟩,HL.o,Kf.o⟩
end Go.Proofs.YtbcggaldkihcaaaGreatDoor

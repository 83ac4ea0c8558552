/- Who is counted for a vote: plain, and walked: the reference's. -/
import Derived.Test.YtbcggaldkihcaaaGreatYG
import Derived.Test.YtbcggaldkihcaaaGreatYC
set_option maxHeartbeats 8000000
set_option maxRecDepth 100000
namespace Go.Proofs.YtbcggaldkihcaaaGreat
open Tryz
open Go.RowKit Go.Lib
def acJ (vs E:List Int) (v:Int) (k:Nat):Bool:=decide (0<=E.getD k 0)&&(vs.getD (E.getD k 0).toNat 0==v)
def acu (vs E:List Int) (v:Int):Nat->List Int
 |0=>[]
 |k+1=>acu vs E v k++(if acJ vs E v k=true then [(k:Int)]else [])
theorem acK (vs E:List Int) (v:Int): ∀k,(acu vs E v k).length<=k
 |0=>aad _
 |k+1=>by
  have:=acK vs E v k;unfold acu;rw[aak]
  split<;>simp<;>omega
theorem aey {vs E:List Int} {v:Int} {k:Nat} (h:acJ vs E v k=true):acu vs E v (k+1)=acu vs E v k++[(k:Int)]:=by rw[acu,aaj h]
theorem adP {vs E:List Int} {v:Int} {k:Nat} (h:acJ vs E v k=false):acu vs E v (k+1)=acu vs E v k:=by rw[acu,aah (by rw[h];simp),abv]
noncomputable def V6 (a:cp) (t:ByteArray) (v:Int):Bool:=Jz a t&&dO v 1 3
noncomputable def forM (a:cp) (vs:List Int) (v:Int):List Int:=acu vs (jl (eF vs a.af) a.rule) v a.af.length
noncomputable def aca (a:cp) (t:ByteArray) (v:Int):List Int:=if V6 a t v=true then forM a (jU a t).ax v else []
theorem acL {a:cp} {t:ByteArray} {v:Int} (h:V6 a t v=false):aca a t v=[]:=by unfold aca;rw[aah (by rw[h];simp)]
theorem acY {a:cp} {t:ByteArray} {v:Int} (h:V6 a t v=true):aca a t v=forM a (jU a t).ax v:=by unfold aca;rw[aaj h]
theorem afL (a:cp) (x:cS) (t:ByteArray) (v:Int) (w:World) (h:jv w w.heap.size x a) (hs:ua a):Calls prog 12 #[eu a x,.string t,.int .i64 v] w (YM (YW (aca a t v)).own (V6 a t v) w):=by
 obtain ⟨At,ct,Ab,cb,Ac,cc,Am,cm,rfl⟩:=h.slices;unfold eu;obtain ⟨W,hW⟩: ∃W:World,W=w.alloc (.cells #[.int .i64 a.day,.int .i64 a.rule,.slice At a.af.length ct,.slice Ab a.base.length cb,.slice Ac a.av.length cc,.slice Am a.ao.length cm] 29):=⟨_,rfl⟩
 have bW:Below w.heap.size w W:=by rw[hW];exact (aae _ _).alloc (aad _) _
 have a1:Row W w.heap.size [.int .i64 a.day,.int .i64 a.rule,.slice At a.af.length ct,.slice Ab a.base.length cb,.slice Ac a.av.length cc,.slice Am a.ao.length cm]:=by rw[hW];exact Row.new w _ _
 have z0:=λy:ar W=>y.cell (a1.cell 0 _ rfl);have z1:=λy:ar W=>y.cell (a1.cell 1 _ rfl);have z2:=λy:ar W=>y.cell (a1.cell 2 _ rfl);have z3:=λy:ar W=>y.cell (a1.cell 3 _ rfl);have z4:=λy:ar W=>y.cell (a1.cell 4 _ rfl);have z5:=λy:ar W=>y.cell (a1.cell 5 _ rfl);have F7:=h.on bW bW.size;have HR:=I (λy:ar W=>h.on (aJ bW y) (aJ bW y).size)
 have Ut:ag (0<a.ao.length-> ∃b off,Am=some ⟨b,off,none⟩/\b<W.heap.size/\ ∀(k:Nat) (m:gu),a.ao[k]?=some m-> ∃A1 c1 A2 c2,Bs W W.heap.size b (off+k*8) m A1 c1 A2 c2):=I (by
  obtain ⟨A,c,hv,_,_,h⟩:=fQ F7.m;have hv:Value.slice Am a.ao.length cm= .slice A a.ao.length c:=hv;injection hv with e1 e2 e3
  rw[e1];exact h)
 have HW:=I hW;have fv:=I a1;have sW:w.heap.size<W.heap.size:=by rw[hW];simp
 obtain ⟨x0,dp⟩: ∃y:ar W,y.val=W:=⟨⟨W,aae _ _⟩,rfl⟩
 have RD:=I dp;have RY:=I (λy:ar W=>kw a At ct Ab cb Ac cc Am cm t y.val (HR.o y) hs);clear h hW a1 dp F7 hs;cases hk:Jz a t with
 |false=>
  have Tn:V6 a t v=false:=by unfold V6;rw[hk];rfl
  have HN:=I (acL Tn);rw[Tn];rw[hk]at RY;clear hk Tn;go_enter func12,ntmps12;go_wp2_with (fail);rw[<-HW.o,<-RD.o];refine (aq (RY.o x0)).mono ?_;rintro e _ ⟨rfl,x1,rfl⟩;go_wp2;go_ret2;exact ⟨_,rfl,by show ay ak (aca a t v) _ _ _;rw[HN.o];exact ay.nil _ _ _,aJ bW x1⟩
 |true=>
  rw[hk]at RY;obtain ⟨hv,k,K0,qg,Up⟩:=j4 hk;have cy:=JC hv;have fD:=cy.n12;rw[K0]at RY;cases hi:dO v 1 3 with
  |false=>
   have Tn:V6 a t v=false:=by unfold V6;rw[hi,Bool.and_false]
   have HN:=I (acL Tn);rw[Tn];have tY:=I hi;clear hv Tn hi cy hk K0 Up;go_enter func12,ntmps12;go_wp2_with (fail);rw[<-HW.o,<-RD.o];refine (aq (RY.o x0)).mono ?_;rintro e _ ⟨rfl,x1,rfl⟩;go_wp2_with (fail);refine (az (dj _ _ _ _ _ tY.o)).mono ?_;rintro e _ ⟨rfl,x2,rfl⟩;go_wp2;go_ret2;exact ⟨_,rfl,by show ay ak (aca a t v) _ _ _;rw[HN.o];exact ay.nil _ _ _,aJ bW x2⟩
  |true=>
   have tY:=I hi;have Tn:V6 a t v=true:=by unfold V6;rw[hk,hi];rfl
   have HY:=I (acY Tn);rw[Tn];have Hk:=cy.ax Up;obtain ⟨b2,off,rfl,cL,aC⟩:=Ut.o (by omega);obtain ⟨A1,c1,A2,c2,hP⟩:=aC k _ Up;have t6:=λy:ar W=>y.cell hP.k6;have HI:=I (λy:ar W=>(hP.on y.ok y.ok.size cL).ints);have jA:(0:Int)<=(k:Int):=by omega
   have Hl:(k:Int)<(a.ao.length:Int):=by omega
   obtain ⟨i0,hi,dK,ez,ek⟩:=aaq iD;generalize jU a t=q at*;have PZ:=cy.Jx Hk;have BZ:=I (λ(W':World) (h:jw W W')=>BH a At ct Ab cb Ac cc (some ⟨b2,off,none⟩) cm q.ax A2 c2 W' (HR.o ⟨W',h⟩).t (HI.o ⟨W',h⟩) Hk (by omega) (λl hl=>aaB (cy.t4 l hl) (by omega)));have Ry:=I (λ(W':World) (vv:Value) (hv:mN W' W'.heap.size vv (eF q.ax a.af))=>BX (eF q.ax a.af) a.rule vv W' cy.rule.1 cy.rule.2 hv PZ);unfold pW at BZ;unfold pn at Ry;have ZY:=I Hk;clear hk hv K0 Up aC hP Hk Tn cy PZ;go_enter func12,ntmps12;go_wp2_with (fail);rw[<-HW.o,<-RD.o];refine (aq (RY.o x0)).mono ?_;rintro e _ ⟨rfl,x1,rfl⟩;go_wp2_with (fail);refine (az (dj _ _ _ _ _ tY.o)).mono ?_;rintro e _ ⟨rfl,x2,rfl⟩;have bX:ag (∀w',jw W w'->w'.cell? ⟨w.heap.size,0,none⟩=some (.int .i64 a.day)/\w'.cell? ⟨w.heap.size,1,none⟩=some (.int .i64 a.rule)/\w'.cell? ⟨w.heap.size,2,none⟩=some (.slice At a.af.length ct)/\w'.cell? ⟨w.heap.size,3,none⟩=some (.slice Ab a.base.length cb)/\w'.cell? ⟨w.heap.size,4,none⟩=some (.slice Ac a.av.length cc)/\w'.cell? ⟨w.heap.size,5,none⟩=some (.slice (some ⟨b2,off,none⟩) a.ao.length cm)/\jw W w'):=I (λX hX=>⟨(fv.o.below hX sW).cell 0 _ rfl,(fv.o.below hX sW).cell 1 _ rfl,(fv.o.below hX sW).cell 2 _ rfl,(fv.o.below hX sW).cell 3 _ rfl,(fv.o.below hX sW).cell 4 _ rfl,(fv.o.below hX sW).cell 5 _ rfl,hX⟩);have OM:ag (∀w',w'.cell? ⟨w.heap.size,0,none⟩=some (.int .i64 a.day)/\w'.cell? ⟨w.heap.size,1,none⟩=some (.int .i64 a.rule)/\w'.cell? ⟨w.heap.size,2,none⟩=some (.slice At a.af.length ct)/\w'.cell? ⟨w.heap.size,3,none⟩=some (.slice Ab a.base.length cb)/\w'.cell? ⟨w.heap.size,4,none⟩=some (.slice Ac a.av.length cc)/\w'.cell? ⟨w.heap.size,5,none⟩=some (.slice (some ⟨b2,off,none⟩) a.ao.length cm)/\jw W w'->jw W w'):=I (λX hX=>hX.2.2.2.2.2.2);go_upto_region 5 with (fail)
   have jo:jw W x2.val:=x2.ok;obtain ⟨U,hU⟩: ∃U,U=x2.val:=⟨_,rfl⟩
   rw[<-hU]at jo⊢;obtain ⟨q0,q1,q2,q3,q4,q5,-⟩:=bX.o U jo;clear hU z0 z1 z2 z3 z4 z5 t6
   go_region_held3 (λw'=>w'.cell? ⟨w.heap.size,0,none⟩=some (.int .i64 a.day)/\w'.cell? ⟨w.heap.size,1,none⟩=some (.int .i64 a.rule)/\w'.cell? ⟨w.heap.size,2,none⟩=some (.slice At a.af.length ct)/\w'.cell? ⟨w.heap.size,3,none⟩=some (.slice Ab a.base.length cb)/\w'.cell? ⟨w.heap.size,4,none⟩=some (.slice Ac a.av.length cc)/\w'.cell? ⟨w.heap.size,5,none⟩=some (.slice (some ⟨b2,off,none⟩) a.ao.length cm)/\jw W w')
    (first|exact bX.o _ fL|exact bX.o _ (jw.go l8 fL)|exact bX.o _ jo|exact bX.o _ jo.draw)
    (first
     |(go_at_call 50;refine aaM (BZ.o _ (OM.o _ ‹_›)) ?_;rintro e w3 ⟨A3,cc3,L3,rfl,MD,Ee,dB⟩;have fL:=jw.go dB (OM.o _ ‹_›))
     |(go_at_call 49;refine aaM (Ry.o w3 _ (MD▸Ee.Jx)) ?_;rintro e w4 ⟨g,cap,rfl,cn,OE,E',l8⟩))
   all_goals
    have iz:jw W w4:=jw.go l8 fL;have kC:=I (bW.trans (aaV iz bW.size));have hY:=I E';have jS:=I OE;have gH:=I (show (jl (eF q.ax a.af) a.rule).length=a.af.length by rw[cn,ew ZY.o]);have HFM:ag (forM a q.ax v=acu q.ax (jl (eF q.ax a.af) a.rule) v a.af.length):=I rfl;have HIV:=I (HI.o ⟨w4,iz⟩);rw[ew ZY.o];clear E' OE l8 MD Ee dB fL cn;generalize jl (eF q.ax a.af) a.rule=E at*;clear q0 q1 q2 q3 q4 q5 jo;have SQ:=I (iX.start w4);have afM:=I ((aae w4.heap.size w4).alloc (aad _) (.cells #[] 2));go_wp2;go_loopw [13,14,15,47] (λvo _ _ i wr=> ∃(k:Nat) (L:List Int) (g2 zM:Nat),k<=a.af.length/\i= .int .i64 (k:Int)/\vo= .slice (some ⟨g2,0,none⟩) L.length zM/\L=acu q.ax E v k/\iX wr w4.heap.size g2 zM L/\Below w4.heap.size w4 wr) (λvo _ _ i _=>a.af.length-(intOf i).toNat);case atStart=>exact ⟨0,[],_,0,aaf _,rfl,rfl,rfl,SQ.o,afM.o⟩
    case round=>
     obtain ⟨k,L,g2,zM,hk,rfl,rfl,tf,ho,hb⟩:=hrel;have HO:=I ho;have HB:=I hb;have cT:=I tf.symm;have Rt:L.length<=k:=by rw[tf];exact acK _ _ _ _
     clear ho tf;by_cases aI:k<a.af.length
     ·have Y8:k<E.length:=by rw[gH.o];exact aI
      have OJ:=jS.o k _ (aag Y8);have x1:=(hb.cell (p:=⟨g,k,none⟩) (hY.o.row.lt g rfl).2).trans (hY.o.at (aag Y8));have xZ:E.getD k 0=E[k]:=by simp[List.getD,Y8]
      rcases uj OJ with he|⟨j,he,hj⟩
      ·have acM:=I (adP (show acJ q.ax E v k=false by unfold acJ;rw[xZ,he];rfl));rw[he]at x1;clear OJ he xZ hb;go_wp2;go_roundw;case rel=>exact ⟨k+1,L,g2,zM,by omega,by go_num,rfl,by rw[acM.o,cT.o],HO.o,HB.o⟩
       case measure=>simp[intOf];omega
      rw[ew ZY.o,<-ZY.o]at hj;obtain ⟨bv,ov,O2,JA,e0⟩:=cZ HIV.o (aag hj);subst O2;have x2:=(hb.cell (p:=⟨bv,ov+j,none⟩) JA).trans e0;have agD:(0:Int)<=(j:Int):=by omega
      have F5:(j:Int)<(q.ax.length:Int):=by omega
      have R9:q.ax.getD (j:Int).toNat 0=q.ax[j]:=by simp[List.getD,hj]
      have hfo:acJ q.ax E v k=(q.ax[j]==v):=by
       unfold acJ;rw[xZ,he,R9];simp
      rw[he]at x1;clear OJ he e0 xZ R9 hb;generalize q.ax[j]=y at*;cases hy:(y==v)with
      |true=>
       have xB:=I (aey (hfo.trans hy));clear hfo;go_wp2_with (at_builtin;refine aaH _ rfl _ _ 33 rfl w4.heap.size 2 i0 (.int .i64 0) 1 8 underlying33 hi dK ez ek rfl (by decide) _ _ _ rfl (HO.o.row.alloc _) ⟨wr.heap.size,0,none⟩ 1 1 (ak (k:Int)) rfl rfl (λj u hj=>fS hj) (λu hu=>cf _ hu) ?c3 ?c4 (aS HB.o.size) ?_);case c3=>unfold maxLen;omega
       case c4=>omega
       intro v' w9 aG aA aU iH;obtain ⟨g9,gM,rfl,zE,zF⟩:=bG aG (by simpa using aU);have iM:=I ((HB.o.alloc HB.o.size (.cells #[.int .i64 (k:Int)] 2)).grown aA (aS HB.o.size) (λj hj=>(HO.o.row.lt j hj).1))
       have zG:ag (iX w9 w4.heap.size g9 gM (L++[(k:Int)])):=I (by
        unfold iX;rw[cq,aak];exact aG)
       clear aG aA aU iH;go_wp2;go_roundw;case rel=>exact ⟨k+1,L++[(k:Int)],g9,gM,by omega,by go_num,by rw[aak];rfl,by rw[xB.o,cT.o],zG.o,iM.o⟩
       case measure=>simp[intOf];omega
      |false=>
       have acM:=I (adP (hfo.trans hy));clear hfo;go_wp2;go_roundw;case rel=>exact ⟨k+1,L,g2,zM,by omega,by go_num,rfl,by rw[acM.o,cT.o],HO.o,HB.o⟩
       case measure=>simp[intOf];omega
     have eA: ¬(k:Int)<(a.af.length:Int):=by omega
     have V8:ag (L=aca a t v):=I (by
      have:k=a.af.length:=by omega
      rw[HY.o,HFM.o,<-this];exact cT.o.symm)
     have xu:=kC.o.trans (hb.mono kC.o.size);have HOO:=I (HO.o.own.less kC.o.size);go_wp2;go_ret2;exact ⟨_,rfl,by show ay ak (aca a t v) _ _ _;rw[<-V8.o];exact HOO.o,xu⟩
end Go.Proofs.YtbcggaldkihcaaaGreat

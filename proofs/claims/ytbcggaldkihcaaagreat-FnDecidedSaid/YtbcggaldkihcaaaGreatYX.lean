/- The verdict on a motion of an assembly, walked: the reference's. -/
import Derived.Test.YtbcggaldkihcaaaGreatYV
set_option maxHeartbeats 4000000
set_option maxRecDepth 100000
namespace Go.Proofs.YtbcggaldkihcaaaGreat
open Tryz
open Go.RowKit Go.Lib
noncomputable def adr (a:cp) (t:ByteArray):Int:=if Jz a t=true then (if (jU a t).result=0 then lY a (jU a t) (jU a t).ax else (jU a t).result)else 0
theorem aeB {a:cp} {t:ByteArray} (h:Jz a t=false):adr a t=0:=by unfold adr;rw[aah (by rw[h];simp)]
theorem ad7 {a:cp} {t:ByteArray} (h:Jz a t=true):adr a t=if (jU a t).result=0 then lY a (jU a t) (jU a t).ax else (jU a t).result:=by unfold adr;rw[aaj h]
theorem aeC (a:cp) (x:cS) (t:ByteArray) (w:World) (h:jv w w.heap.size x a) (hs:ua a):Calls prog 20 #[eu a x,.string t] w (bT (.tuple #[.int .i64 (adr a t),.bool (Jz a t)]) w):=by
 obtain ⟨At,ct,Ab,cb,Ac,cc,Am,cm,rfl⟩:=h.slices;unfold eu;obtain ⟨W,hW⟩: ∃W:World,W=w.alloc (.cells #[.int .i64 a.day,.int .i64 a.rule,.slice At a.af.length ct,.slice Ab a.base.length cb,.slice Ac a.av.length cc,.slice Am a.ao.length cm] 29):=⟨_,rfl⟩
 have bW:Below w.heap.size w W:=by rw[hW];exact (aae _ _).alloc (aad _) _
 have a1:Row W w.heap.size [.int .i64 a.day,.int .i64 a.rule,.slice At a.af.length ct,.slice Ab a.base.length cb,.slice Ac a.av.length cc,.slice Am a.ao.length cm]:=by rw[hW];exact Row.new w _ _
 have z0:=λy:ar W=>y.cell (a1.cell 0 _ rfl);have z1:=λy:ar W=>y.cell (a1.cell 1 _ rfl);have z2:=λy:ar W=>y.cell (a1.cell 2 _ rfl);have z3:=λy:ar W=>y.cell (a1.cell 3 _ rfl);have z4:=λy:ar W=>y.cell (a1.cell 4 _ rfl);have z5:=λy:ar W=>y.cell (a1.cell 5 _ rfl);have F7:=h.on bW bW.size;have HR:=I (λy:ar W=>h.on (aJ bW y) (aJ bW y).size)
 have Ut:ag (0<a.ao.length-> ∃b off,Am=some ⟨b,off,none⟩/\b<W.heap.size/\ ∀(k:Nat) (m:gu),a.ao[k]?=some m-> ∃A1 c1 A2 c2,Bs W W.heap.size b (off+k*8) m A1 c1 A2 c2):=I (by
  obtain ⟨A,c,hv,_,_,h⟩:=fQ F7.m;have hv:Value.slice Am a.ao.length cm= .slice A a.ao.length c:=hv;injection hv with e1 e2 e3
  rw[e1];exact h)
 have HW:=I hW;have fv:=I a1;have sW:w.heap.size<W.heap.size:=by rw[hW];simp
 obtain ⟨x0,dp⟩: ∃y:ar W,y.val=W:=⟨⟨W,aae _ _⟩,rfl⟩
 have RD:=I dp;have RY:=I (λy:ar W=>kw a At ct Ab cb Ac cc Am cm t y.val (HR.o y) hs);clear h hW a1 dp F7 hs;cases hk:Jz a t with
 |false=>
  have HN:=aeB hk;rw[HN];rw[hk]at RY;clear hk HN;go_enter func20,ntmps20;go_wp2_with (fail);rw[<-HW.o,<-RD.o];refine (aq (RY.o x0)).mono ?_;rintro e _ ⟨rfl,x1,rfl⟩;go_wp2;go_ret2;exact ⟨rfl,aJ bW x1⟩
 |true=>
  rw[hk]at RY;obtain ⟨hv,k,K0,qg,Up⟩:=j4 hk;have cy:=JC hv;have ads:=BF hv;have HY:=ad7 hk;rw[HY];have Hk:=cy.ax Up;have adK:=B7 (cy.ao _ _ Up);have fD:=cy.n12;obtain ⟨b2,off,rfl,cL,aC⟩:=Ut.o (by omega);obtain ⟨A1,c1,A2,c2,hP⟩:=aC k _ Up;rw[K0]at RY;have jA:(0:Int)<=(k:Int):=by omega
  have Hl:(k:Int)<(a.ao.length:Int):=by omega
  generalize jU a t=m at*;have HVI:=I (λy:ar W=>(⟨(HR.o y).t,(HR.o y).b,(HR.o y).c,(hP.on y.ok y.ok.size cL).fF,(hP.on y.ok y.ok.size cL).ints,Hk,cy,ads.1,ads.2.1,adK⟩:yM a m m.ax y.val At ct Ab cb Ac cc A1 c1 A2 c2));have t0:=λy:ar W=>y.cell hP.k0;have t1:=λy:ar W=>y.cell hP.k1;have t2:=λy:ar W=>y.cell hP.k2;have t3:=λy:ar W=>y.cell hP.k3;have t4:=λy:ar W=>y.cell hP.k4;have t5:=λy:ar W=>y.cell hP.k5;have t6:=λy:ar W=>y.cell hP.k6;have t7:=λy:ar W=>y.cell hP.k7;have HVD:ag (∀y:ar W,Calls prog 56 #[.agg #[.int .i64 a.day,.int .i64 a.rule,.slice At a.af.length ct,.slice Ab a.base.length cb,.slice Ac a.av.length cc,.slice (some ⟨b2,off,none⟩) a.ao.length cm],.agg #[.string m.al,.int .i64 m.br,.slice A1 m.pat.length c1,.int .i64 m.a8,.int .i64 m.fin,.int .i64 m.aj,.slice A2 m.ax.length c2,.int .i64 m.result],.slice A2 m.ax.length c2] y.val (bT (.int .i64 (lY a m m.ax)) y.val)):=I (λy=>zQ a m m.ax At ct Ab cb Ac cc (some ⟨b2,off,none⟩) cm A1 c1 A2 c2 A2 c2 y.val (HVI.o y));clear hk hv K0 Up aC hP Hk adK ads HY;by_cases yd:m.result=0
  ·rw[aaj yd];have hq:(m.result==0)=true:=by simp[yd]
   clear yd;go_enter func20,ntmps20;go_wp2_with (fail);rw[<-HW.o,<-RD.o];refine (aq (RY.o x0)).mono ?_;rintro e _ ⟨rfl,x1,rfl⟩;go_upto_region 7 with (fail)
   obtain ⟨y1,YS⟩: ∃y:ar W,y.val=x1.val.alloc (.cells #[.string m.al,.int .i64 m.br,.slice A1 m.pat.length c1,.int .i64 m.a8,.int .i64 m.fin,.int .i64 m.aj,.slice A2 m.ax.length c2,.int .i64 m.result] 35):=⟨⟨_,x1.ok.trans (((aae _ _).alloc (aad _) _).mono x1.ok.size)⟩,rfl⟩
   rw[<-YS];clear YS;refine ap (by kernel_rfl) (by kernel_rfl) ?_
   repeat (go_big_quiet_step ((first|(go_at_call 56;exact aq (HVD.o _)))))
   refine aai ?_;rintro _ ⟨y2,rfl⟩;go_wp2;go_ret2;exact ⟨rfl,aJ bW y2⟩
  rw[aah yd];have hq:(m.result==0)=false:=by simp[yd]
  clear yd;go_enter func20,ntmps20;go_wp2_with (fail);rw[<-HW.o,<-RD.o];refine (aq (RY.o x0)).mono ?_;rintro e _ ⟨rfl,x1,rfl⟩;go_wp2;go_ret2;exact ⟨rfl,(aJ bW x1).alloc (aJ bW x1).size _⟩
end Go.Proofs.YtbcggaldkihcaaaGreat

/- The count of a motion, walked: the reference's and the program's. -/
import Derived.Test.YtbcggaldkihcaaaGreatYG
set_option maxHeartbeats 8000000
set_option maxRecDepth 100000
namespace Go.Proofs.YtbcggaldkihcaaaGreat
open Tryz
open Go.RowKit Go.Lib
theorem aeY (a:cp) (x:cS) (t:ByteArray) (w:World) (h:jv w w.heap.size x a) (hs:ua a):Calls prog 13 #[eu a x,.string t] w (YM (YW (S8 a t)).own (Jz a t) w):=by
 obtain ⟨At,ct,Ab,cb,Ac,cc,Am,cm,rfl⟩:=h.slices;unfold eu;obtain ⟨W,hW⟩: ∃W:World,W=w.alloc (.cells #[.int .i64 a.day,.int .i64 a.rule,.slice At a.af.length ct,.slice Ab a.base.length cb,.slice Ac a.av.length cc,.slice Am a.ao.length cm] 29):=⟨_,rfl⟩
 have bW:Below w.heap.size w W:=by rw[hW];exact (aae _ _).alloc (aad _) _
 have a1:Row W w.heap.size [.int .i64 a.day,.int .i64 a.rule,.slice At a.af.length ct,.slice Ab a.base.length cb,.slice Ac a.av.length cc,.slice Am a.ao.length cm]:=by rw[hW];exact Row.new w _ _
 have z0:=λy:ar W=>y.cell (a1.cell 0 _ rfl);have z1:=λy:ar W=>y.cell (a1.cell 1 _ rfl);have z2:=λy:ar W=>y.cell (a1.cell 2 _ rfl);have z3:=λy:ar W=>y.cell (a1.cell 3 _ rfl);have z4:=λy:ar W=>y.cell (a1.cell 4 _ rfl);have z5:=λy:ar W=>y.cell (a1.cell 5 _ rfl);have F7:=h.on bW bW.size;have HR:=I (λy:ar W=>h.on (aJ bW y) (aJ bW y).size)
 have Ut:ag (0<a.ao.length-> ∃b off,Am=some ⟨b,off,none⟩/\b<W.heap.size/\ ∀(k:Nat) (m:gu),a.ao[k]?=some m-> ∃A1 c1 A2 c2,Bs W W.heap.size b (off+k*8) m A1 c1 A2 c2):=I (by
  obtain ⟨A,c,hv,_,_,h⟩:=fQ F7.m;have hv:Value.slice Am a.ao.length cm= .slice A a.ao.length c:=hv;injection hv with e1 e2 e3
  rw[e1];exact h)
 have HW:=I hW;have fv:=I a1;have sW:w.heap.size<W.heap.size:=by rw[hW];simp
 obtain ⟨x0,dp⟩: ∃y:ar W,y.val=W:=⟨⟨W,aae _ _⟩,rfl⟩
 have RD:=I dp;have RY:=I (λy:ar W=>kw a At ct Ab cb Ac cc Am cm t y.val (HR.o y) hs);clear h hW a1 dp F7 hs;cases hk:Jz a t with
 |false=>
  have HN:=I (adH hk);rw[hk]at RY;clear hk;go_enter func13,ntmps13;go_wp2_with (fail);rw[<-HW.o,<-RD.o];refine (aq (RY.o x0)).mono ?_;rintro e _ ⟨rfl,x1,rfl⟩;go_wp2;go_ret2;exact ⟨_,rfl,by show ay ak (S8 a t) _ _ _;rw[HN.o];exact ay.nil _ _ _,aJ bW x1⟩
 |true=>
  rw[hk]at RY;obtain ⟨hv,k,K0,qg,Up⟩:=j4 hk;have cy:=JC hv;have HY:=I (adk hk);have Hk:=cy.ax Up;have fD:=cy.n12;have I9:=I cy.t4;obtain ⟨b2,off,rfl,cL,aC⟩:=Ut.o (by omega);obtain ⟨A1,c1,A2,c2,hP⟩:=aC k _ Up;have HK6:=I (λy:ar W=>y.cell hP.k6);have HI:=I (λy:ar W=>(hP.on y.ok y.ok.size cL).ints);rw[K0]at RY;have jA:(0:Int)<=(k:Int):=by omega
  have Hl:(k:Int)<(a.ao.length:Int):=by omega
  generalize jU a t=m at*;have BZ:=I (λW' (hb:Below W.heap.size W W')=>Eg a At ct Ab cb Ac cc (some ⟨b2,off,none⟩) cm m.ax A2 c2 W' (HR.o ⟨W',hb⟩).t (HI.o ⟨W',hb⟩) Hk cy);unfold lh at BZ;have ZY:=I Hk;clear hk hv K0 Up aC hP Hk;go_enter func13,ntmps13;go_wp2_with (fail);rw[<-HW.o,<-RD.o];refine (aq (RY.o x0)).mono ?_;rintro e _ ⟨rfl,x1,rfl⟩;have bX:ag (∀w',Below W.heap.size W w'->w'.cell? ⟨w.heap.size,0,none⟩=some (.int .i64 a.day)/\w'.cell? ⟨w.heap.size,1,none⟩=some (.int .i64 a.rule)/\w'.cell? ⟨w.heap.size,2,none⟩=some (.slice At a.af.length ct)/\w'.cell? ⟨w.heap.size,3,none⟩=some (.slice Ab a.base.length cb)/\w'.cell? ⟨w.heap.size,4,none⟩=some (.slice Ac a.av.length cc)/\w'.cell? ⟨w.heap.size,5,none⟩=some (.slice (some ⟨b2,off,none⟩) a.ao.length cm)/\w'.cell? ⟨b2,off+k*8+6,none⟩=some (.slice A2 m.ax.length c2)/\Below W.heap.size W w'):=I (λX hX=>⟨(fv.o.below hX sW).cell 0 _ rfl,(fv.o.below hX sW).cell 1 _ rfl,(fv.o.below hX sW).cell 2 _ rfl,(fv.o.below hX sW).cell 3 _ rfl,(fv.o.below hX sW).cell 4 _ rfl,(fv.o.below hX sW).cell 5 _ rfl,HK6.o ⟨X,hX⟩,hX⟩);have OM:ag (∀w',w'.cell? ⟨w.heap.size,0,none⟩=some (.int .i64 a.day)/\w'.cell? ⟨w.heap.size,1,none⟩=some (.int .i64 a.rule)/\w'.cell? ⟨w.heap.size,2,none⟩=some (.slice At a.af.length ct)/\w'.cell? ⟨w.heap.size,3,none⟩=some (.slice Ab a.base.length cb)/\w'.cell? ⟨w.heap.size,4,none⟩=some (.slice Ac a.av.length cc)/\w'.cell? ⟨w.heap.size,5,none⟩=some (.slice (some ⟨b2,off,none⟩) a.ao.length cm)/\w'.cell? ⟨b2,off+k*8+6,none⟩=some (.slice A2 m.ax.length c2)/\Below W.heap.size W w'->Below W.heap.size W w'):=I (λX hX=>hX.2.2.2.2.2.2.2);have bx:=x1.ok;obtain ⟨U,hU⟩: ∃U,U=x1.val:=⟨_,rfl⟩
  rw[<-hU]at bx⊢;have hc:=bX.o U bx;obtain ⟨q0,q1,q2,q3,q4,q5,q6,-⟩:=hc;clear hU z0 z1 z2 z3 z4 z5;go_wp2_with (fail)
  go_region_held3 (λw'=>w'.cell? ⟨w.heap.size,0,none⟩=some (.int .i64 a.day)/\w'.cell? ⟨w.heap.size,1,none⟩=some (.int .i64 a.rule)/\w'.cell? ⟨w.heap.size,2,none⟩=some (.slice At a.af.length ct)/\w'.cell? ⟨w.heap.size,3,none⟩=some (.slice Ab a.base.length cb)/\w'.cell? ⟨w.heap.size,4,none⟩=some (.slice Ac a.av.length cc)/\w'.cell? ⟨w.heap.size,5,none⟩=some (.slice (some ⟨b2,off,none⟩) a.ao.length cm)/\w'.cell? ⟨b2,off+k*8+6,none⟩=some (.slice A2 m.ax.length c2)/\Below W.heap.size W w')
   (first|exact bX.o _ bx|exact bX.o _ bx.drew|exact bX.o _ ((OM.o _ ‹_›).trans (aaV ‹_› (OM.o _ ‹_›).size)))
   (first|(go_at_call 51;refine (BZ.o _ (OM.o _ ‹_›)).mono ?_;rintro e w3 ⟨g3,rfl,hT,dB⟩))
  all_goals
   have wZ:Below W.heap.size W w3:=OM.o _ ‹_›;have HT:=I (hT.less (b:=w.heap.size) (by first|exact aaB bW.size bx.drew.size|exact aaB bW.size bx.size));have j7:=bW.trans (wZ.mono bW.size);clear hT dB;go_wp2;go_ret2;exact ⟨_,rfl,by show ay ak (S8 a t) _ _ _;rw[HY.o];exact HT.o,j7⟩
end Go.Proofs.YtbcggaldkihcaaaGreat

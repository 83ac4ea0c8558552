/- Votes without one, walked; the count without a member, both. -/
import Derived.Test.YtbcggaldkihcaaaGreatYG
set_option maxHeartbeats 8000000
set_option maxRecDepth 100000
namespace Go.Proofs.YtbcggaldkihcaaaGreat
open Tryz
open Go.RowKit Go.Lib
def ac6 (vs:List Int) (m:Nat) (w:World) (e:Ending) (w':World):Prop:=
 ∃g c,e= .returned (.slice (some ⟨g,0,none⟩) vs.length c)/\ay ak (vs.set m 0) w.heap.size w' (.slice (some ⟨g,0,none⟩) vs.length c)/\Below w.heap.size w w'
theorem afO {vs:List Int} {m g c base:Nat} {w:World} (hm:m<vs.length) (hg:base<=g) (hl:g<w.heap.size) (hc:vs.length<=c) (nj:c<=maxLen) (h:Row w g (vs.flatMap ak)):ay ak (vs.set m 0) base (w.setCell ⟨g,m,none⟩ (.int .i64 0)) (.slice (some ⟨g,0,none⟩) vs.length c):=
 ⟨some ⟨g,0,none⟩,c,by rw[aaE],by rw[aaE];exact hc,nj,λ_=>⟨g,rfl,hg,by simpa using hl,by
  rw[je]at h⊢;rw[abD];exact h.set m _ (by rw[aap];exact hm)⟩⟩
theorem adR (vs:List Int) (m:Nat) (ad:Addr) (cv:Nat) (w:World) (hV:Ints w w.heap.size (.slice (some ad) vs.length cv) vs) (hm:m<vs.length) (hl:vs.length<=1048576):
 Calls prog 57 #[.slice (some ad) vs.length cv,.int .i64 (m:Int)] w (ac6 vs m w):=by
 have kX:=I (DZ vs ad cv w hV hl);unfold lf at kX;unfold ac6;clear hV;go_enter func57,ntmps57;go_wp2_with (fail);refine kX.o.mono ?_;rintro e w1 ⟨v9,rfl,cr,bw⟩;have vC:ay ak vs w.heap.size w1 v9:=ay.bI ak (size:=1) (λ_=>rfl) cr;clear cr;obtain ⟨A1,c1,Dc,pQ,EU,iV⟩:=vC;obtain ⟨g1,rfl,qp,fG,mU⟩:=iV (by intro e;rw[e]at hm;simp at hm);subst Dc;have x0:=mU.cell m (.int .i64 vs[m]) (by rw[je,aaX,aag hm];rfl);have f0:=mU.free m (by rw[je,aap];exact hm);have WH:(m:Int)<(vs.length:Int):=by omega
 have HF:=I (afO hm qp fG pQ EU mU);have xi:=I (bw.setCell (p:=⟨g1,m,none⟩) qp (.int .i64 0));clear mU iV bw;generalize vs[m]=dA at*;go_wp2;go_ret;exact ⟨g1,_,rfl,HF.o,xi.o⟩
noncomputable def T2 (a:cp) (t:ByteArray) (m:Int):Bool:=Jz a t&&dO m 0 ((a.af.length:Int)-1)
noncomputable def m8 (a:cp) (t:ByteArray) (m:Int):List Int:=if T2 a t m=true then cO a ((jU a t).ax.set m.toNat 0)else []
theorem acP {a:cp} {t:ByteArray} {m:Int} (h:T2 a t m=false):m8 a t m=[]:=by unfold m8;rw[aah (by rw[h];simp)]
theorem adq {a:cp} {t:ByteArray} {m:Int} (h:T2 a t m=true):m8 a t m=cO a ((jU a t).ax.set m.toNat 0):=by unfold m8;rw[aaj h]
theorem aeZ (a:cp) (x:cS) (t:ByteArray) (m:Int) (w:World) (h:jv w w.heap.size x a) (hs:ua a):Calls prog 23 #[eu a x,.string t,.int .i64 m] w (YM (YW (m8 a t m)).own (T2 a t m) w):=by
 obtain ⟨At,ct,Ab,cb,Ac,cc,Am,cm,rfl⟩:=h.slices;unfold eu;obtain ⟨W,hW⟩: ∃W:World,W=w.alloc (.cells #[.int .i64 a.day,.int .i64 a.rule,.slice At a.af.length ct,.slice Ab a.base.length cb,.slice Ac a.av.length cc,.slice Am a.ao.length cm] 29):=⟨_,rfl⟩
 have bW:Below w.heap.size w W:=by rw[hW];exact (aae _ _).alloc (aad _) _
 have a1:Row W w.heap.size [.int .i64 a.day,.int .i64 a.rule,.slice At a.af.length ct,.slice Ab a.base.length cb,.slice Ac a.av.length cc,.slice Am a.ao.length cm]:=by rw[hW];exact Row.new w _ _
 have z0:=λy:ar W=>y.cell (a1.cell 0 _ rfl);have z1:=λy:ar W=>y.cell (a1.cell 1 _ rfl);have z2:=λy:ar W=>y.cell (a1.cell 2 _ rfl);have z3:=λy:ar W=>y.cell (a1.cell 3 _ rfl);have z4:=λy:ar W=>y.cell (a1.cell 4 _ rfl);have z5:=λy:ar W=>y.cell (a1.cell 5 _ rfl);have F7:=h.on bW bW.size;have HR:=I (λy:ar W=>h.on (aJ bW y) (aJ bW y).size)
 have Ut:ag (0<a.ao.length-> ∃b off,Am=some ⟨b,off,none⟩/\b<W.heap.size/\ ∀(k:Nat) (m:gu),a.ao[k]?=some m-> ∃A1 c1 A2 c2,Bs W W.heap.size b (off+k*8) m A1 c1 A2 c2):=I (by
  obtain ⟨A,c,hv,_,_,h⟩:=fQ F7.m;have hv:Value.slice Am a.ao.length cm= .slice A a.ao.length c:=hv;injection hv with e1 e2 e3
  rw[e1];exact h)
 have HW:=I hW;have fv:=I a1;have sW:w.heap.size<W.heap.size:=by rw[hW];simp
 obtain ⟨x0,dp⟩: ∃y:ar W,y.val=W:=⟨⟨W,aae _ _⟩,rfl⟩
 have RD:=I dp;have RY:=I (λy:ar W=>kw a At ct Ab cb Ac cc Am cm t y.val (HR.o y) hs);clear h hW a1 dp F7 hs;cases hk:Jz a t with
 |false=>
  have Tn:T2 a t m=false:=by unfold T2;rw[hk];rfl
  have HN:=I (acP Tn);rw[Tn];rw[hk]at RY;clear hk Tn;go_enter func23,ntmps23;go_wp2_with (fail);rw[<-HW.o,<-RD.o];refine (aq (RY.o x0)).mono ?_;rintro e _ ⟨rfl,x1,rfl⟩;go_wp2;go_ret2;exact ⟨_,rfl,by show ay ak (m8 a t m) _ _ _;rw[HN.o];exact ay.nil _ _ _,aJ bW x1⟩
 |true=>
  rw[hk]at RY;obtain ⟨hv,k,K0,qg,Up⟩:=j4 hk;have cy:=JC hv;have fD:=cy.n12;have kM:=cy.n1;have hwn:IntKind.i64.wrap ((a.af.length:Int)-1)=(a.af.length:Int)-1:=ajY _ (by omega);rw[K0]at RY;cases hi:dO m 0 ((a.af.length:Int)-1)with
  |false=>
   have Tn:T2 a t m=false:=by unfold T2;rw[hi,Bool.and_false]
   have HN:=I (acP Tn);rw[Tn];have tY:=I hi;clear hv Tn hi cy hk K0 Up;go_enter func23,ntmps23;go_wp2_with (fail);rw[<-HW.o,<-RD.o];refine (aq (RY.o x0)).mono ?_;rintro e _ ⟨rfl,x1,rfl⟩;go_wp2_with (fail);refine (az (dj _ _ _ _ _ tY.o)).mono ?_;rintro e _ ⟨rfl,x2,rfl⟩;go_wp2;go_ret2;exact ⟨_,rfl,by show ay ak (m8 a t m) _ _ _;rw[HN.o];exact ay.nil _ _ _,aJ bW x2⟩
  |true=>
   have tY:=I hi;have An:=dS.1 hi;have Tn:T2 a t m=true:=by unfold T2;rw[hk,hi];rfl
   have HY:=I (adq Tn);rw[Tn];obtain ⟨mm,rfl⟩: ∃mm:Nat,m=(mm:Int):=⟨m.toNat,by omega⟩
   rw[Int.toNat_natCast]at HY;have Hk:=cy.ax Up;obtain ⟨b2,off,rfl,cL,aC⟩:=Ut.o (by omega);obtain ⟨A1,c1,A2,c2,hP⟩:=aC k _ Up;have HK6:=I (λy:ar W=>y.cell hP.k6);have HI:=I (λy:ar W=>(hP.on y.ok y.ok.size cL).ints);have jA:(0:Int)<=(k:Int):=by omega
   have Hl:(k:Int)<(a.ao.length:Int):=by omega
   generalize jU a t=q at*
   obtain ⟨ad2,O2⟩: ∃ad,A2=some ad:=by
    have hg:=hP.ints;obtain ⟨b0,o0,e0,_⟩:=cZ hg (aag (show 0<q.ax.length by omega));exact ⟨_,e0⟩
   subst O2;have IX:=I (λ(W':World) (hb:Below W.heap.size W W')=>adR q.ax mm ad2 c2 W' (HI.o ⟨W',hb⟩) (by omega) (by omega));have xf:=I (λ(W':World) (hb:Below W.heap.size W W') (Av:Option Addr) (cv:Nat) (hv:Ints W' W'.heap.size (.slice Av (q.ax.set mm 0).length cv) (q.ax.set mm 0))=>Eg a At ct Ab cb Ac cc (some ⟨b2,off,none⟩) cm (q.ax.set mm 0) Av cv W' (HR.o ⟨W',hb⟩).t hv (by rw[aaE];exact Hk) cy);rw[aaE]at xf;unfold ac6 at IX;unfold lh at xf;clear hk hv K0 Up aC hP Hk Tn hi cy An;go_enter func23,ntmps23;go_wp2_with (fail);rw[<-HW.o,<-RD.o];refine (aq (RY.o x0)).mono ?_;rintro e _ ⟨rfl,x1,rfl⟩;go_wp2_with (fail);refine (az (dj _ _ _ _ _ tY.o)).mono ?_;rintro e _ ⟨rfl,x2,rfl⟩;have bX:ag (∀w',Below W.heap.size W w'->w'.cell? ⟨w.heap.size,0,none⟩=some (.int .i64 a.day)/\w'.cell? ⟨w.heap.size,1,none⟩=some (.int .i64 a.rule)/\w'.cell? ⟨w.heap.size,2,none⟩=some (.slice At a.af.length ct)/\w'.cell? ⟨w.heap.size,3,none⟩=some (.slice Ab a.base.length cb)/\w'.cell? ⟨w.heap.size,4,none⟩=some (.slice Ac a.av.length cc)/\w'.cell? ⟨w.heap.size,5,none⟩=some (.slice (some ⟨b2,off,none⟩) a.ao.length cm)/\w'.cell? ⟨b2,off+k*8+6,none⟩=some (.slice (some ad2) q.ax.length c2)/\Below W.heap.size W w'):=I (λX hX=>⟨(fv.o.below hX sW).cell 0 _ rfl,(fv.o.below hX sW).cell 1 _ rfl,(fv.o.below hX sW).cell 2 _ rfl,(fv.o.below hX sW).cell 3 _ rfl,(fv.o.below hX sW).cell 4 _ rfl,(fv.o.below hX sW).cell 5 _ rfl,HK6.o ⟨X,hX⟩,hX⟩);have OM:ag (∀w',w'.cell? ⟨w.heap.size,0,none⟩=some (.int .i64 a.day)/\w'.cell? ⟨w.heap.size,1,none⟩=some (.int .i64 a.rule)/\w'.cell? ⟨w.heap.size,2,none⟩=some (.slice At a.af.length ct)/\w'.cell? ⟨w.heap.size,3,none⟩=some (.slice Ab a.base.length cb)/\w'.cell? ⟨w.heap.size,4,none⟩=some (.slice Ac a.av.length cc)/\w'.cell? ⟨w.heap.size,5,none⟩=some (.slice (some ⟨b2,off,none⟩) a.ao.length cm)/\w'.cell? ⟨b2,off+k*8+6,none⟩=some (.slice (some ad2) q.ax.length c2)/\Below W.heap.size W w'->Below W.heap.size W w'):=I (λX hX=>hX.2.2.2.2.2.2.2);have bx:=x2.ok;obtain ⟨U,hU⟩: ∃U,U=x2.val:=⟨_,rfl⟩
   rw[<-hU]at bx⊢;have hc:=bX.o U bx;obtain ⟨q0,q1,q2,q3,q4,q5,q6,-⟩:=hc;clear hU z0 z1 z2 z3 z4 z5;go_wp2_with (fail)
   go_region_held3 (λw'=>w'.cell? ⟨w.heap.size,0,none⟩=some (.int .i64 a.day)/\w'.cell? ⟨w.heap.size,1,none⟩=some (.int .i64 a.rule)/\w'.cell? ⟨w.heap.size,2,none⟩=some (.slice At a.af.length ct)/\w'.cell? ⟨w.heap.size,3,none⟩=some (.slice Ab a.base.length cb)/\w'.cell? ⟨w.heap.size,4,none⟩=some (.slice Ac a.av.length cc)/\w'.cell? ⟨w.heap.size,5,none⟩=some (.slice (some ⟨b2,off,none⟩) a.ao.length cm)/\w'.cell? ⟨b2,off+k*8+6,none⟩=some (.slice (some ad2) q.ax.length c2)/\Below W.heap.size W w')
    (first|exact bX.o _ bx|exact bX.o _ bx.drew|exact bX.o _ ((OM.o _ ‹_›).trans (aaV ‹_› (OM.o _ ‹_›).size)))
    (first|(go_at_call 57;refine aaM (IX.o _ (OM.o _ ‹_›)) ?_;rintro e w3 ⟨g3,c3,rfl,KK,dB⟩)|(go_at_call 51;refine aaM (xf.o w3 (OM.o _ ‹_›) _ c3 (KK.mo (size:=1) (λ_=>rfl))) ?_;rintro e w4 ⟨g4,rfl,hT,l8⟩;have fL:=OM.o w3 ‹_›))
   all_goals
    have wZ:Below W.heap.size W w4:=OM.o _ ‹_›;have HT:=I (hT.less (b:=w.heap.size) (aaB bW.size fL.size));have j7:=bW.trans (wZ.mono bW.size);clear hT l8 KK dB;go_wp2;go_ret2;exact ⟨_,rfl,by show ay ak (m8 a t _) _ _ _;rw[HY.o];exact HT.o,j7⟩
end Go.Proofs.YtbcggaldkihcaaaGreat

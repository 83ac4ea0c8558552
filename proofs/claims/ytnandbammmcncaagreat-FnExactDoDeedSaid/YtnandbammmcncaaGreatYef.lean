/- The verdict on a motion, walked: the program's. -/
import Derived.Test.YtnandbammmcncaaGreatYed
import Derived.Test.YtnandbammmcncaaGreatYee
import Derived.Test.YtnandbammmcncaaGreatYG
set_option maxHeartbeats 8000000
set_option maxRecDepth 100000
namespace Go.Proofs.YtnandbammmcncaaGreat
open Tryz
open Go.RowKit Go.Lib
theorem zQ (a:cp) (m:gu) (vs:List Int) (At:Option Addr) (ct:Nat) (Ab:Option Addr) (cb:Nat) (Ac:Option Addr) (cc:Nat) (Am:Option Addr) (cm:Nat) (pA:Option Addr) (pc:Nat) (vA:Option Addr) (vc:Nat) (Av:Option Addr) (cv:Nat) (w:World) (hI:yM a m vs w At ct Ab cb Ac cc pA pc Av cv):
 Calls prog 69 #[.agg #[.int .i64 a.day,.int .i64 a.rule,.slice At a.af.length ct,.slice Ab a.base.length cb,.slice Ac a.av.length cc,.slice Am a.ao.length cm],.agg #[.string m.al,.int .i64 m.br,.slice pA m.pat.length pc,.int .i64 m.a8,.int .i64 m.fin,.int .i64 m.aj,.slice vA m.ax.length vc,.int .i64 m.result],.slice Av vs.length cv] w (bT (.int .i64 (lY a m vs)) w):=by
 have hlen:=hI.len;have fD:=hI.ok.n12;have xu:=iC hlen fD 0;have bw:=iC hlen fD 1;have cL:=iC hlen fD 2;obtain ⟨W1,eG⟩: ∃W1:World,W1=w.alloc (.cells #[.int .i64 a.day,.int .i64 a.rule,.slice At a.af.length ct,.slice Ab a.base.length cb,.slice Ac a.av.length cc,.slice Am a.ao.length cm] 36):=⟨_,rfl⟩
 obtain ⟨W,hW⟩: ∃W:World,W=W1.alloc (.cells #[.string m.al,.int .i64 m.br,.slice pA m.pat.length pc,.int .i64 m.a8,.int .i64 m.fin,.int .i64 m.aj,.slice vA m.ax.length vc,.int .i64 m.result] 78):=⟨_,rfl⟩
 have b1:Below w.heap.size w W1:=by rw[eG];exact (aae _ _).alloc (aad _) _
 have s1:W1.heap.size=w.heap.size+1:=by rw[eG];simp
 have b2:Below W1.heap.size W1 W:=by rw[hW];exact (aae _ _).alloc (aad _) _
 have s2:W.heap.size=w.heap.size+2:=by rw[hW];simp[s1]
 have bW:Below w.heap.size w W:=b1.trans (b2.mono b1.size);have r1:Row W1 w.heap.size [.int .i64 a.day,.int .i64 a.rule,.slice At a.af.length ct,.slice Ab a.base.length cb,.slice Ac a.av.length cc,.slice Am a.ao.length cm]:=by rw[eG];exact Row.new w _ _
 have mB:=I (r1.below b2 (by omega));have r2:Row W (w.heap.size+1) [.string m.al,.int .i64 m.br,.slice pA m.pat.length pc,.int .i64 m.a8,.int .i64 m.fin,.int .i64 m.aj,.slice vA m.ax.length vc,.int .i64 m.result]:=by rw[hW,<-s1];exact Row.new W1 _ _
 have gj:=I r2;have gf:=I bW;have lV:=I (show (w.alloc (.cells #[.int .i64 a.day,.int .i64 a.rule,.slice At a.af.length ct,.slice Ab a.base.length cb,.slice Ac a.av.length cc,.slice Am a.ao.length cm] 36)).alloc (.cells #[.string m.al,.int .i64 m.br,.slice pA m.pat.length pc,.int .i64 m.a8,.int .i64 m.fin,.int .i64 m.aj,.slice vA m.ax.length vc,.int .i64 m.result] 78)=W by rw[hW,eG]);have Na:=hI.on bW;have xf:=I (λy:ar W=>Eg a At ct Ab cb Ac cc Am cm vs Av cv y.val (Na.on y.ok).rt (Na.on y.ok).rv Na.len Na.ok);have jS:=I (λy:ar W=>wE a At ct Ab cb Ac cc Am cm m pA pc vA vc y.val (Na.on y.ok).rs (Na.on y.ok).ra hI.stat hI.av hI.act (Na.on y.ok).re);unfold lh at xf;unfold iB at jS;have WR:=I (λy:ar W=>y.cell (mB.o.cell 0 _ rfl));have Cj:=I (λy:ar W=>y.cell (mB.o.cell 1 _ rfl));have WS:=I (λy:ar W=>y.cell (mB.o.cell 2 _ rfl));have WT:=I (λy:ar W=>y.cell (mB.o.cell 3 _ rfl));have WU:=I (λy:ar W=>y.cell (mB.o.cell 4 _ rfl));have RF:=I (λy:ar W=>y.cell (mB.o.cell 5 _ rfl));have RG:=I (λy:ar W=>y.cell (gj.o.cell 0 _ rfl));have MB:=I (λy:ar W=>y.cell (gj.o.cell 1 _ rfl));have MC:=I (λy:ar W=>y.cell (gj.o.cell 2 _ rfl));have PP:=I (λy:ar W=>y.cell (gj.o.cell 3 _ rfl));have Lt:=I (λy:ar W=>y.cell (gj.o.cell 4 _ rfl));have Zn:=I (λy:ar W=>y.cell (gj.o.cell 5 _ rfl));have P5:=I (λy:ar W=>y.cell (gj.o.cell 6 _ rfl));have QQ:=I (λy:ar W=>y.cell (gj.o.cell 7 _ rfl));have g0:=WR.o;have g1:=Cj.o;have g2:=WS.o;have g3:=WT.o;have g4:=WU.o;have g5:=RF.o;have BZ:=I (yL (a:=a) (m:=m) (vs:=vs));have M7:=I (Cf (a:=a) (m:=m) (vs:=vs));have P4:=I (Ch (a:=a) (m:=m) (vs:=vs));obtain ⟨x0,dp⟩: ∃y:ar W,y.val=W:=⟨⟨W,aae _ _⟩,rfl⟩
 have RD:=I dp;have U6:vs.length<=12:=by omega
 clear hI Na hlen hW eG b1 b2 r1 r2 bW dp s1 s2;go_enter func69,ntmps69;go_wp2_with (fail);rw[lV.o,<-RD.o];refine (xf.o x0).mono ?_;rintro e w3 ⟨g,rfl,Ee,dB⟩;have O1:=x0.ok.trans (dB.mono x0.ok.size);have dI:=I (gf.o.trans (O1.mono gf.o.size));have jx:=I O1;have CI:=I (λ(W':World) (h:Below w3.heap.size w3 W')=>jS.o ⟨W',jx.o.trans (h.mono jx.o.size)⟩);have c0:=ka Ee (j:=0) (by decide);have c1:=ka Ee (j:=1) (by decide);have c2:=ka Ee (j:=2) (by decide);clear Ee;generalize (cO a vs).getD 0 0=n0 at*;generalize (cO a vs).getD 1 0=n1 at*;generalize (cO a vs).getD 2 0=n2 at*;have z0:=λy:ar w3=>y.cell c0;have z1:=λy:ar w3=>y.cell c1;have z2:=λy:ar w3=>y.cell c2;have a0:=λy:ar w3=>WR.o ⟨y.val,jx.o.trans (y.ok.mono jx.o.size)⟩;have a1:=λy:ar w3=>Cj.o ⟨y.val,jx.o.trans (y.ok.mono jx.o.size)⟩;have a2:=λy:ar w3=>WS.o ⟨y.val,jx.o.trans (y.ok.mono jx.o.size)⟩;have a3:=λy:ar w3=>WT.o ⟨y.val,jx.o.trans (y.ok.mono jx.o.size)⟩;have a4:=λy:ar w3=>WU.o ⟨y.val,jx.o.trans (y.ok.mono jx.o.size)⟩;have a5:=λy:ar w3=>RF.o ⟨y.val,jx.o.trans (y.ok.mono jx.o.size)⟩;have p0:=λy:ar w3=>RG.o ⟨y.val,jx.o.trans (y.ok.mono jx.o.size)⟩;have p1:=λy:ar w3=>MB.o ⟨y.val,jx.o.trans (y.ok.mono jx.o.size)⟩;have p2:=λy:ar w3=>MC.o ⟨y.val,jx.o.trans (y.ok.mono jx.o.size)⟩;have p3:=λy:ar w3=>PP.o ⟨y.val,jx.o.trans (y.ok.mono jx.o.size)⟩;have p4:=λy:ar w3=>Lt.o ⟨y.val,jx.o.trans (y.ok.mono jx.o.size)⟩;have p5:=λy:ar w3=>Zn.o ⟨y.val,jx.o.trans (y.ok.mono jx.o.size)⟩;have p6:=λy:ar w3=>P5.o ⟨y.val,jx.o.trans (y.ok.mono jx.o.size)⟩;have p7:=λy:ar w3=>QQ.o ⟨y.val,jx.o.trans (y.ok.mono jx.o.size)⟩;clear c0 c1 c2 dB O1 jS xf;go_upto_region 2 with (fail)
 refine yY λx1=>?_;by_cases h3:2*(n0+n1+n2)<(a.af.length:Int)
 ·have HV:=I (BZ.o h3);refine ap (by kernel_rfl) (by kernel_rfl) ?_
  repeat (go_big_quiet_step (fail))
  refine aai ?_;rintro _ ⟨u,rfl⟩;go_wp2;go_ret;exact ⟨by rw[HV.o];rfl,aJ dI.o u⟩
 have RE:=I (show¬2*(n0+n1+n2)<(a.af.length:Int)from h3);have U7:decide (2*(n0+n1+n2)<(a.af.length:Int))=false:=by simp;omega
 refine ap (by kernel_rfl) (by kernel_rfl) ?_
 repeat (go_big_quiet_step (fail))
 refine aai ?_;rintro _ ⟨u,rfl⟩;clear U7 h3;go_wp2;by_cases h2:n1<=n0
 ·have HV:=I (M7.o RE.o h2);go_upto_region 4 with (fail)
  refine ap (by kernel_rfl) (by kernel_rfl) ?_
  repeat (go_big_quiet_step (fail))
  refine aai ?_;rintro _ ⟨u2,rfl⟩;go_wp2;go_ret;exact ⟨by rw[HV.o];rfl,aJ dI.o u2⟩
 have HV:=I (P4.o RE.o (by omega));have Hp:decide (n1<=n0)=false:=by simp;omega
 go_upto_region 4 with (fail)
 refine ap (by kernel_rfl) (by kernel_rfl) ?_
 repeat (go_big_quiet_step (fail))
 refine aai ?_;rintro _ ⟨u2,rfl⟩;clear Hp h2 z0 z1 z2;go_wp2_with (fail);refine (CI.o _ u2.ok).mono ?_;rintro e w4 ⟨A4,n4,c4,rfl,_,l8⟩;have hF:Below w.heap.size w w4:=dI.o.trans (u2.ok.trans (l8.mono u2.ok.size)|>.mono dI.o.size);clear l8;cases E':fi a.base a.av (cM m)with
 |false=>
  rw[E']at HV;go_wp2;go_ret;exact ⟨by rw[HV.o];rfl,hF⟩
 |true=>
  rw[E']at HV;go_wp2;go_ret;exact ⟨by rw[HV.o];rfl,hF⟩
end Go.Proofs.YtnandbammmcncaaGreat

/- The verdict on a motion, plain; walked: the reference's. -/
import Derived.Test.YtnandbammmcncaaGreatYeb
import Derived.Test.YtnandbammmcncaaGreatYG
set_option maxHeartbeats 8000000
set_option maxRecDepth 100000
namespace Go.Proofs.YtnandbammmcncaaGreat
open Tryz
open Go.RowKit Go.Lib
theorem J9 (V:List lW) (rule:Int):(jl V rule).length<=V.length:=by
 unfold jl
 split
 ·next h=>exact aam h.choose_spec.1
 exact aaf _
theorem iC {a:cp} {vs:List Int} (hl:vs.length=a.af.length) (hn:a.af.length<=12) (j:Nat):0<=(cO a vs).getD j 0/\(cO a vs).getD j 0<=12:=by
 have h1:=eY vs (jl (eF vs a.af) a.rule) j;have h2:=J9 (eF vs a.af) a.rule;rw[ew hl]at h2;unfold cO;omega
open Classical in
noncomputable def lY (a:cp) (m:gu) (vs:List Int):Int:=
 if 2*((cO a vs).getD 0 0+(cO a vs).getD 1 0+(cO a vs).getD 2 0)<(a.af.length:Int)then 3
 else if (cO a vs).getD 1 0<=(cO a vs).getD 0 0 then 2
 else if fi a.base a.av (cM m)=true then 1 else 4
theorem yL {a:cp} {m:gu} {vs:List Int} (h:2*((cO a vs).getD 0 0+(cO a vs).getD 1 0+(cO a vs).getD 2 0)<(a.af.length:Int)):lY a m vs=3:=by unfold lY;rw[aaj h]
theorem Cf {a:cp} {m:gu} {vs:List Int} (h: ¬2*((cO a vs).getD 0 0+(cO a vs).getD 1 0+(cO a vs).getD 2 0)<(a.af.length:Int)) (h2:(cO a vs).getD 1 0<=(cO a vs).getD 0 0):lY a m vs=2:=by unfold lY;rw[aah h,aaj h2]
theorem Ch {a:cp} {m:gu} {vs:List Int} (h: ¬2*((cO a vs).getD 0 0+(cO a vs).getD 1 0+(cO a vs).getD 2 0)<(a.af.length:Int)) (h2: ¬(cO a vs).getD 1 0<=(cO a vs).getD 0 0):lY a m vs=if fi a.base a.av (cM m)=true then 1 else 4:=by unfold lY;rw[aah h,aah h2]
theorem ka {a:cp} {vs:List Int} {base g:Nat} {w:World} (h:ay ak (cO a vs) base w (.slice (some ⟨g,0,none⟩) 4 4)) {j:Nat} (hj:j<4):w.cell? ⟨g,j,none⟩=some (.int .i64 ((cO a vs).getD j 0)):=by
 have hlen:=qM a vs;obtain ⟨A,c,e,h1,h2,h3⟩:=h;injection e with e1 e2 e3
 obtain ⟨g',P0,_,_,hr⟩:=h3 (λe=>by rw[e]at hlen;cases hlen);rw[<-e1]at P0;injection P0 with P0
 injection P0 with P0
 subst P0;rw[je]at hr;exact hr.cell j _ (jM (by omega))
structure yM (a:cp) (m:gu) (vs:List Int) (w:World) (At:Option Addr) (ct:Nat) (Ab:Option Addr) (cb:Nat) (Ac:Option Addr) (cc:Nat) (pA:Option Addr) (pc:Nat) (Av:Option Addr) (cv:Nat):Prop where
 rt:kH w w.heap.size (.slice At a.af.length ct) a.af
 rs:iT w w.heap.size (.slice Ab a.base.length cb) a.base
 ra:eE w w.heap.size (.slice Ac a.av.length cc) a.av
 re:bg w w.heap.size (.slice pA m.pat.length pc) m.pat
 rv:Ints w w.heap.size (.slice Av vs.length cv) vs
 len:vs.length=a.af.length
 ok:pf a
 stat:cd a.base=true
 av:bJ a.av=true
 act:eV (cM m)=true
theorem yM.on {a:cp} {m:gu} {vs:List Int} {w w':World} {At:Option Addr} {ct:Nat} {Ab:Option Addr} {cb:Nat} {Ac:Option Addr} {cc:Nat} {pA:Option Addr} {pc:Nat} {Av:Option Addr} {cv:Nat} (h:yM a m vs w At ct Ab cb Ac cc pA pc Av cv) (hb:Below w.heap.size w w'):yM a m vs w' At ct Ab cb Ac cc pA pc Av cv:=
 ⟨h.rt.on hb hb.size,cz.on h.rs (Pl.stays _) hb hb.size,h.ra.on hb hb.size,cz.on h.re (Pl.stays _) hb hb.size,cz.on h.rv (Pl.stays _) hb hb.size,h.len,h.ok,h.stat,h.av,h.act⟩
theorem Ci (a:cp) (m:gu) (vs:List Int) (At:Option Addr) (ct:Nat) (Ab:Option Addr) (cb:Nat) (Ac:Option Addr) (cc:Nat) (pA:Option Addr) (pc:Nat) (Av:Option Addr) (cv:Nat) (b o bm om:Nat) (w:World) (hI:yM a m vs w At ct Ab cb Ac cc pA pc Av cv)
 (k1:w.cell? ⟨b,o+1,none⟩=some (.int .i64 a.rule)) (k2:w.cell? ⟨b,o+2,none⟩=some (.slice At a.af.length ct)) (k3:w.cell? ⟨b,o+3,none⟩=some (.slice Ab a.base.length cb)) (k4:w.cell? ⟨b,o+4,none⟩=some (.slice Ac a.av.length cc))
 (p2:w.cell? ⟨bm,om+2,none⟩=some (.slice pA m.pat.length pc)) (p3:w.cell? ⟨bm,om+3,none⟩=some (.int .i64 m.a8)) (p4:w.cell? ⟨bm,om+4,none⟩=some (.int .i64 m.fin)):
 Calls prog 68 #[.pointer (some ⟨b,o,none⟩),.pointer (some ⟨bm,om,none⟩),.slice Av vs.length cv] w (bT (.int .i64 (lY a m vs)) w):=by
 have hlen:=hI.len;have fD:=hI.ok.n12;have xu:=iC hlen fD 0;have bw:=iC hlen fD 1;have cL:=iC hlen fD 2;have xf:=I (λy:ar w=>Ed a At ct vs b o Av cv y.val (y.cell k1) (y.cell k2) (hI.on y.ok).rt (hI.on y.ok).rv hI.len hI.ok);have jS:=I (λy:ar w=>wA a.base a.av (cM m) (.slice Ab a.base.length cb) (.slice Ac a.av.length cc) bm om pA pc y.val (hI.on y.ok).rs (hI.on y.ok).ra hI.stat hI.av hI.act (y.cell p2) (y.cell p3) (y.cell p4) (hI.on y.ok).re);unfold lh at xf;unfold iB at jS;have sH:=I (λy:ar w=>y.cell k3);have CG:=I (λy:ar w=>y.cell k4);have BZ:=I (yL (a:=a) (m:=m) (vs:=vs));have M7:=I (Cf (a:=a) (m:=m) (vs:=vs));have P4:=I (Ch (a:=a) (m:=m) (vs:=vs));have WQ:=I hlen;have U6:vs.length<=12:=by omega
 clear k1 k2 k3 k4 p2 p3 p4 hI hlen;refine aL λx0=>?_;go_enter func68,ntmps68;go_wp2_with (fail);refine (xf.o x0).mono ?_;rintro e w3 ⟨g,rfl,Ee,dB⟩;have dB:=x0.ok.trans (dB.mono x0.ok.size);have dI:=I dB;have c0:=ka Ee (j:=0) (by decide);have c1:=ka Ee (j:=1) (by decide);have c2:=ka Ee (j:=2) (by decide);clear Ee;generalize (cO a vs).getD 0 0=n0 at*;generalize (cO a vs).getD 1 0=n1 at*;generalize (cO a vs).getD 2 0=n2 at*;have z0:=λy:ar w3=>y.cell c0;have z1:=λy:ar w3=>y.cell c1;have z2:=λy:ar w3=>y.cell c2;clear c0 c1 c2 dB;go_upto_region 2 with (fail)
 refine yY λx1=>?_;by_cases h3:2*(n0+n1+n2)<(vs.length:Int)
 ·have HV:=I (BZ.o (WQ.o▸h3));refine ap (by kernel_rfl) (by kernel_rfl) ?_
  repeat (go_big_quiet_step (fail))
  refine aai ?_;rintro _ ⟨u,rfl⟩;go_wp2;go_ret;exact ⟨by rw[HV.o];rfl,aJ dI.o u⟩
 have RE:=I (show¬2*(n0+n1+n2)<(a.af.length:Int)from WQ.o▸h3);have U7:decide (2*(n0+n1+n2)<(vs.length:Int))=false:=by simp;omega
 refine ap (by kernel_rfl) (by kernel_rfl) ?_
 repeat (go_big_quiet_step (fail))
 refine aai ?_;rintro _ ⟨u,rfl⟩;go_wp2;clear U7 h3;by_cases h2:n1<=n0
 ·have HV:=I (M7.o RE.o h2);rw[HV.o];go_upto_region 4 with (fail)
  refine ap (by kernel_rfl) (by kernel_rfl) ?_
  repeat (go_big_quiet_step (fail))
  refine aai ?_;rintro _ ⟨u2,rfl⟩;go_wp2;go_ret;exact ⟨by rw[HV.o];rfl,aJ dI.o u2⟩
 have HV:=I (P4.o RE.o (by omega));have Hp:decide (n1<=n0)=false:=by simp;omega
 go_upto_region 4 with (fail)
 refine ap (by kernel_rfl) (by kernel_rfl) ?_
 repeat (go_big_quiet_step (fail))
 refine aai ?_;rintro _ ⟨u2,rfl⟩;clear Hp h2 z0 z1 z2;go_upto_region 6 with (fail)
 obtain ⟨U,hU⟩: ∃U,U=u2.val:=⟨_,rfl⟩
 have jo:Below w3.heap.size w3 U:=by rw[hU];exact u2.ok
 rw[<-hU];clear hU;have bX:ag (∀w',Below w3.heap.size w3 w'->w'.cell? ⟨b,o+3,none⟩=some (.slice Ab a.base.length cb)/\w'.cell? ⟨b,o+4,none⟩=some (.slice Ac a.av.length cc)/\Below w3.heap.size w3 w'):=I (λX hX=>⟨sH.o ⟨X,dI.o.trans (hX.mono dI.o.size)⟩,CG.o ⟨X,dI.o.trans (hX.mono dI.o.size)⟩,hX⟩);have CI:=I (λ(W':World) (h:Below w3.heap.size w3 W')=>jS.o ⟨W',dI.o.trans (h.mono dI.o.size)⟩);obtain ⟨q3,q4,-⟩:=bX.o U jo
 go_region_held3 (λw'=>w'.cell? ⟨b,o+3,none⟩=some (.slice Ab a.base.length cb)/\w'.cell? ⟨b,o+4,none⟩=some (.slice Ac a.av.length cc)/\Below w3.heap.size w3 w')
  (first|exact bX.o _ jo|exact bX.o _ jo.drew|exact bX.o _ ‹_›)
  (first|(go_at_call 122;refine (CI.o _ (by first|exact jo|exact jo.drew|assumption)).mono ?_;rintro e w4 ⟨A4,n4,c4,rfl,_,l8⟩;have iz:Below w3.heap.size w3 w4:=Below.trans (by first|exact jo|exact jo.drew|assumption) (l8.mono (by first|exact jo.size|exact jo.drew.size))))
 all_goals
  have hF:Below w.heap.size w w4:=dI.o.trans (iz.mono dI.o.size);clear iz l8;cases E':fi a.base a.av (cM m)with
  |false=>
   rw[E']at HV;go_wp2;go_ret;exact ⟨by rw[HV.o];rfl,hF⟩
  |true=>
   rw[E']at HV;go_wp2;go_ret;exact ⟨by rw[HV.o];rfl,hF⟩
end Go.Proofs.YtnandbammmcncaaGreat

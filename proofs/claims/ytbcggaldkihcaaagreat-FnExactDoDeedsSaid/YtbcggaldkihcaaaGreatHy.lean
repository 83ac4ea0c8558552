/- Lists of deeds: sizes, copies, equality; FnExactJournalText, walked. -/
import Derived.Test.YtbcggaldkihcaaaGreatHw
import Derived.Test.YtbcggaldkihcaaaGreatHm
import Derived.Laws.IdiomCopy
set_option maxHeartbeats 4000000
set_option maxRecDepth 100000
namespace Go.Proofs.YtbcggaldkihcaaaGreat
open Tryz
open Go.RowKit Go.Lib
theorem anF {es:List aV} (h: ∀e∈es,yc e):bS es:=λe he=>⟨aaB (h e he).1 (by unfold maxLen;omega),aaB (h e he).2 (by unfold maxLen;omega)⟩
def ant (d:dr):Prop:=d.af.length<=1048576/\d.al.size<=1048576/\d.patch.length<=1048576/\ ∀e∈d.patch,yc e
theorem anh (ds:List dr) (A:Option Addr) (n c:Nat) (left:Int) (w:World) (h:ve w w.heap.size (.slice A n c) ds) (h0:0<=left) (h1:left<=1048576):
 Calls prog 25 #[.slice A n c,.int .i64 left] w (kz (n<=1048576/\ ∀d∈ds,ant d) w):=by
 obtain ⟨hn,hc,hm⟩:=fB h;have HD:=I (cz.km h amA.stays (aad _));have Mq:n<=9223372036854775807:=by omega
 have Ij:n<=ds.length:=by omega
 have hln:ds.length<=n:=by omega
 clear h hn;refine aL λx0=>?_;by_cases aI:left-(n:Int)<0
 ·go_enter func25,ntmps25;go_wp2;go_ret;exact ⟨_,rfl,.inl (by omega),x0.ok⟩
 go_enter func25,ntmps25;go_wp2;go_loopw [1,5] (λl i wr=> ∃(k:Nat) (r:Int) (x:ar w),k<=n/\i= .int .i64 (k:Int)/\l= .int .i64 r/\0<=r/\r<=1048576/\(∀d∈ds.take k,ant d)/\wr=x.val) (λ_ i _=>n-(intOf i).toNat);case atStart=>exact ⟨0,_,x0,aaf _,rfl,rfl,by omega,by omega,by simp,rfl⟩
 case round=>
  obtain ⟨k,r,x,hk,rfl,rfl,yd,mU,dn,rfl⟩:=hrel;have HA:=I dn;clear dn;by_cases xz:k<n
  ·have aH:ds[k]?=some ds[k]:=aag (by omega);obtain ⟨b,off,A1,c1,A2,c2,rfl,hb,hP⟩:=amE (HD.o x) aH;have H5:ds.take (k+1)=ds.take k++[ds[k]]:=by rw[aaG]
   have Lc:=I H5;clear aH H5;generalize ds[k]=d at*;have z0:=hP.k0;have z1:=hP.k1;have z2:=hP.k2;have z3:=hP.k3;have z4:=hP.k4;have z5:=hP.k5;have z6:=hP.k6;have z7:=hP.k7;have z8:=hP.k8;have HP:=I hP;clear hP;go_wp2_with (fail);refine (ank d A1 d.af.length c1 A2 d.patch.length c2 r _ HP.o.ints HP.o.fF HP.o.sizes HP.o.al yd mU).mono ?_;rintro e' w1 ⟨r',rfl,hr,bw⟩;obtain ⟨y,rfl⟩: ∃y:ar w,w1=y.val:=⟨⟨w1,x.ok.trans (bw.mono x.ok.size)⟩,rfl⟩
   clear z0 z1 z2 z3 z4 z5 z6 z7 z8;rcases hr with hr|⟨hf,mV,Ik⟩
   ·go_wp2;go_ret;exact ⟨_,rfl,.inl (by omega),y.ok⟩
   have Nz: ¬r'<0:=by omega
   have HF:=I hf;clear hf;go_wp2;go_roundw;case rel=>exact ⟨k+1,r',y,by omega,by go_num,rfl,mV,Ik,by rw[Lc.o];intro e he;rcases aau.1 he with he|he;exact HA.o e he;rw[aas.1 he];exact HF.o,rfl⟩
   case measure=>simp[intOf];omega
  have eA: ¬(k:Int)<(n:Int):=by omega
  go_wp2;go_ret;refine ⟨_,rfl,.inr ⟨⟨by omega,?_⟩,yd,mU⟩,x.ok⟩;have:=HA.o
  rwa [aaJ (by omega)]at this
theorem ani (ds:List dr) (A:Option Addr) (n c:Nat) (A':Option Addr) (n' c':Nat) (w:World) (h1:ve w w.heap.size (.slice A n c) ds) (h2:ve w w.heap.size (.slice A' n' c') ds):
 Calls prog 31 #[.slice A n c,.slice A' n' c'] w (bT (.bool true) w):=by
 obtain ⟨rfl,e1,g1⟩:=fB h1;obtain ⟨rfl,e2,g2⟩:=fB h2;have H1:=I h1;have H2:=I h2;have rn:ds.length<=9223372036854775807:=by omega
 clear h1 h2;refine aL λx0=>?_;go_enter func31,ntmps31;go_wp2;go_loopw [5] (λi wr=> ∃(k:Nat) (x:ar w),k<=ds.length/\i= .int .i64 (k:Int)/\wr=x.val) (λi _=>ds.length-(intOf i).toNat);case atStart=>exact ⟨0,x0,aaf _,rfl,rfl⟩
 case round=>
  obtain ⟨k,x,hk,rfl,rfl⟩:=hrel;by_cases aI:k<ds.length
  ·have aH:ds[k]?=some ds[k]:=aag aI;obtain ⟨b,off,A1,c1,A2,c2,rfl,hb,hP⟩:=amE H1.o aH;obtain ⟨b',xw,A3,c3,A4,c4,rfl,dF,hQ⟩:=amE H2.o aH;clear aH;generalize ds[k]=d at*;have z0:=λy:ar w=>y.cell hP.k0;have t0:=λy:ar w=>y.cell hQ.k0;have z1:=λy:ar w=>y.cell hP.k1;have t1:=λy:ar w=>y.cell hQ.k1;have z2:=λy:ar w=>y.cell hP.k2;have t2:=λy:ar w=>y.cell hQ.k2;have z3:=λy:ar w=>y.cell hP.k3;have t3:=λy:ar w=>y.cell hQ.k3;have z4:=λy:ar w=>y.cell hP.k4;have t4:=λy:ar w=>y.cell hQ.k4;have z5:=λy:ar w=>y.cell hP.k5;have t5:=λy:ar w=>y.cell hQ.k5;have z6:=λy:ar w=>y.cell hP.k6;have t6:=λy:ar w=>y.cell hQ.k6;have z7:=λy:ar w=>y.cell hP.k7;have t7:=λy:ar w=>y.cell hQ.k7;have z8:=λy:ar w=>y.cell hP.k8;have t8:=λy:ar w=>y.cell hQ.k8;have HP:=I (λy:ar w=>hP.km y);have HQ:=I (λy:ar w=>hQ.km y);clear hP hQ;go_wp2_with (fail);refine ap (by kernel_rfl) (by kernel_rfl) ?_
   repeat (go_big_quiet_step ((first|(go_at_call 77;exact aq (CU d _ _ _ _ _ _ _ _ _ _ _ _ _ (HP.o _).ints (HP.o _).fF (HQ.o _).ints (HQ.o _).fF)))))
   refine aai ?_;rintro _ ⟨y,rfl⟩;go_wp2;go_roundw;case rel=>exact ⟨k+1,y,by omega,by go_num,rfl⟩
   case measure=>simp[intOf];omega
  have eA: ¬(k:Int)<(ds.length:Int):=by omega
  go_wp2;go_ret;exact ⟨rfl,x.ok⟩
def ann (w:World) (g o:Nat) (d:dr):Prop:=
 ∃g1 c1 g2 c2,(∀i u,(amG d (some ⟨g1,0,none⟩) c1 (some ⟨g2,0,none⟩) c2)[i]?=some u->w.cell? ⟨g,o+i,none⟩=some u)/\
  d.af.length<=c1/\c1<=maxLen/\d.patch.length<=c2/\c2<=maxLen/\g<g1/\g1<g2/\g2<w.heap.size/\Row w g1 (d.af.flatMap ak)/\Row w g2 (d.patch.flatMap ah)
theorem ann.below {w w':World} {g o:Nat} {d:dr} (h:ann w g o d) (hb:Below w.heap.size w w'):ann w' g o d:=by
 obtain ⟨g1,c1,g2,c2,h1,h2,h3,h4,h5,h6,h7,h8,h9,Ie⟩:=h;exact ⟨g1,c1,g2,c2,λi u hu=>(hb.cell (p:=⟨g,o+i,none⟩) (by show g<_;omega)).trans (h1 i u hu),h2,h3,h4,h5,h6,h7,aar h8 hb.size,h9.below hb (by omega),Ie.below hb h8⟩
theorem Row.sets {w:World} {g g1 o:Nat} {L vs:List Value} (h:Row w g1 L) (gm:g≠g1):Row (w.setCells g o vs) g1 L:=
 ⟨λj u hj=>by rw[World.cell?_setCells_out _ _ _ _ _ (λe _=>absurd e.symm gm)];exact h.cell j u hj,λj hj=>by rw[World.frozen?_setCells];exact h.free j hj⟩
theorem ann.sets {w:World} {g o o':Nat} {d:dr} {vs:List Value} (h:ann w g o d) (ho:o+9<=o'\/o'+vs.length<=o):ann (w.setCells g o' vs) g o d:=by
 obtain ⟨g1,c1,g2,c2,h1,h2,h3,h4,h5,h6,h7,h8,h9,Ie⟩:=h;refine ⟨g1,c1,g2,c2,λi u hu=>?_,h2,h3,h4,h5,h6,h7,by rw[acT];exact h8,h9.sets (by omega),Ie.sets (by omega)⟩;have hi:i<9:=(aal.1 hu).1;rw[World.cell?_setCells_out _ _ _ _ _ (λ_ _=>by show o+i<o'\/o'+vs.length<=o+i;omega)];exact h1 i u hu
structure amX (w:World) (g n:Nat) (ds:List dr) (k:Nat):Prop where
 free: ∀o,o<n*9->w.frozen? ⟨g,o,none⟩=false
 anG: ∀o,o<n*9->(w.cell? ⟨g,o,none⟩).isSome=true
 got: ∀j d,j<k->ds[j]?=some d->ann w g (j*9) d
theorem amX.below {w w':World} {g n k:Nat} {ds:List dr} (h:amX w g n ds k) (hb:Below w.heap.size w w') (hg:g<w.heap.size):amX w' g n ds k:=
 ⟨λo ho=>(hb.frozen (p:=⟨g,o,none⟩) hg).trans (h.free o ho),λo ho=>by rw[hb.cell (p:=⟨g,o,none⟩) hg];exact h.anG o ho,λj d hj hd=>(h.got j d hj hd).below hb⟩
theorem amX.step {w:World} {g n k:Nat} {ds:List dr} {d:dr} (h:amX w g n ds k) (hk:k<n) (hd:ds[k]?=some d) {g1 c1 g2 c2:Nat}
 (h2:d.af.length<=c1) (h3:c1<=maxLen) (h4:d.patch.length<=c2) (h5:c2<=maxLen) (h6:g<g1) (h7:g1<g2) (h8:g2<w.heap.size) (h9:Row w g1 (d.af.flatMap ak)) (Ie:Row w g2 (d.patch.flatMap ah)):
 amX (w.setCells g (k*9) (amG d (some ⟨g1,0,none⟩) c1 (some ⟨g2,0,none⟩) c2)) g n ds (k+1):=by
 have hl:(amG d (some ⟨g1,0,none⟩) c1 (some ⟨g2,0,none⟩) c2).length=9:=rfl;have iq:=World.cell?_setCells_in g (amG d (some ⟨g1,0,none⟩) c1 (some ⟨g2,0,none⟩) c2) (k*9) w (λj hj=>h.anG _ (by rw[hl]at hj;omega));refine ⟨λo ho=>by rw[World.frozen?_setCells];exact h.free o ho,λo ho=>?_,λj e hj he=>?_⟩
 ·by_cases CD:k*9<=o/\o<k*9+9
  ·have:=iq (o-k*9) (by rw[hl];omega);rw[show k*9+(o-k*9)=o by omega]at this;rw[this];rfl
  rw[World.cell?_setCells_out _ _ _ _ _ (λ_ _=>by show o<k*9\/k*9+9<=o;omega)];exact h.anG o ho
 by_cases e1:j=k
 ·subst e1;rw[hd]at he;injection he with he
  subst he;refine ⟨g1,c1,g2,c2,λi u hu=>?_,h2,h3,h4,h5,h6,h7,by rw[acT];exact h8,h9.sets (by omega),Ie.sets (by omega)⟩;obtain ⟨hi,rfl⟩:=aal.1 hu;exact iq i hi
 exact (h.got j e (by omega) he).sets (by rw[hl];omega)
theorem amX.anO {w:World} {g n c:Nat} {ds:List dr} (h:amX w g n ds n) (hn:n=ds.length) (hg:g<w.heap.size) (hc:n<=c) (hm:c<=maxLen) (hs: ∀d∈ds,bS d.patch/\d.al.size<=maxLen):ve w w.heap.size (.slice (some ⟨g,0,none⟩) n c) ds:=by
 subst hn;refine ⟨_,c,rfl,hc,hm,λh0=>⟨g,0,rfl,hg,λk d hd=>?_⟩⟩;obtain ⟨g1,c1,g2,c2,h1,h2,h3,h4,h5,h6,h7,h8,h9,Ie⟩:=h.got k d (aal.1 hd).1 hd;have hsd:=hs d (aaC hd);exact ⟨amG d (some ⟨g1,0,none⟩) c1 (some ⟨g2,0,none⟩) c2,rfl,⟨_,_,_,_,rfl,cz.CS ak (λ_=>rfl) h9 (by omega) h2 h3,cz.CS ah (λ_=>rfl) Ie h8 h4 h5,hsd.1,hsd.2⟩,λj u hu=>by rw[aan];exact h1 j u hu⟩
theorem anY:(prog.info? 48).map (λi=>(i.zero,i.size,i.bytes))=some (some (.agg #[.int .i64 0,.int .i64 0,.slice none 0 0,.string ⟨#[]⟩,.int .i64 0,.slice none 0 0,.int .i64 0,.int .i64 0,.int .i64 0]),9,112):=by kernel_rfl
def aod (ds:List dr) (w:World) (e:Ending) (w':World):Prop:=
 ∃A c,e= .returned (.slice A ds.length c)/\ve w' w'.heap.size (.slice A ds.length c) ds/\Below w.heap.size w w'
end Go.Proofs.YtbcggaldkihcaaaGreat

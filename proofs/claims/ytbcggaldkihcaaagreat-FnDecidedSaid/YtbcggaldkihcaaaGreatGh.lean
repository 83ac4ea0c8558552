/- What the laws on a drawn assembly share: a number chosen by a byte; the open motions, wa.. -/
import Derived.Test.YtbcggaldkihcaaaGreatGb
import Derived.Test.YtbcggaldkihcaaaGreatGg
import Derived.Test.YtbcggaldkihcaaaGreatQD
import Derived.Test.YtbcggaldkihcaaaGreatYu
import Derived.Test.YtbcggaldkihcaaaGreatYH
import Derived.Test.YtbcggaldkihcaaaGreatYL
import Derived.Test.YtbcggaldkihcaaaGreatZs
import Derived.Test.YtbcggaldkihcaaaGreatYX
set_option maxHeartbeats 4000000
set_option maxRecDepth 100000
namespace Go.Proofs.YtbcggaldkihcaaaGreat
open Tryz
open Go.RowKit Go.Lib
theorem ai3 (A:Option Addr) (n c i:Nat) (m:Int) (w:World) (h:za w w.heap.size A n) (hi:i<=1000) (hm:1<=m) (EV:m<=65536):
 ∃x:Int,0<=x/\x<m/\ ∀y:ar w,Calls prog 11 #[.slice A n c,.int .i64 (i:Int),.int .i64 m] y.val (f' (.int .i64 x) y.val):=by
 by_cases h1:m<=1
 ·refine ⟨0,by omega,by omega,λy=>?_⟩;go_enter func11,ntmps11;go_wp2;go_ret;exact ⟨rfl,0,rfl⟩
 have h1': ¬m<=1:=h1;have h1:1<m:=by omega
 by_cases h2:i<n
 ·have Og:(i:Int)<(n:Int):=by omega
  obtain ⟨b,off,rfl,aI,hc⟩:=h.2 (by omega);obtain ⟨x,hx,x0⟩:=hc i h2;have hn:=h.1;unfold maxLen at hn;clear hc h;refine ⟨(x:Int)% m,Int.emod_nonneg _ (by omega),Int.emod_lt_of_pos _ (by omega),λy=>?_⟩;have x0:=y.cell x0;generalize y.val=W at*;go_enter func11,ntmps11;go_wp2;go_ret;exact ⟨rfl,0,rfl⟩
 have Og: ¬(i:Int)<(n:Int):=by omega
 clear h;refine ⟨((i:Int)*37+11)% m,Int.emod_nonneg _ (by omega),Int.emod_lt_of_pos _ (by omega),λy=>?_⟩;go_enter func11,ntmps11;go_wp2;go_ret;exact ⟨rfl,0,rfl⟩
def aiN (a:cp) (j:Nat):Bool:=match a.ao[j]? with
 |some m=>m.result==0
 |none=>false
def aiL (a:cp):List Int:=Mg (aiN a) a.ao.length
theorem aiM {a:cp} {j:Nat} {m:gu} (h:a.ao[j]?=some m):aiN a j=(m.result==0):=by unfold aiN;rw[h]
theorem aiS {a:cp} {z:Int} (h:z∈aiL a): ∃(k:Nat) (m:gu),z=(k:Int)/\a.ao[k]?=some m/\m.result=0:=by
 obtain ⟨j,rfl,hj,hp⟩:=ZH h;have hg:a.ao[j]?=some a.ao[j]:=aag hj;rw[aiM hg,ajZ]at hp;exact ⟨j,_,rfl,hg,hp⟩
def aiO (a:cp) (w:World) (e:Ending) (w':World):Prop:=
 ∃A c,e= .returned (.slice A (aiL a).length c)/\Ints w' w'.heap.size (.slice A (aiL a).length c) (aiL a)/\Below w.heap.size w w'
theorem aiV (a:cp) (x:cS) (w:World) (h:jv w w.heap.size x a) (h6:a.ao.length<=6):Calls prog 21 #[eu a x] w (aiO a w):=by
 obtain ⟨At,ct,Ab,cb,Ac,cc,Am,cm,rfl⟩:=h.slices;unfold eu;obtain ⟨W,hW⟩: ∃W:World,W=w.alloc (.cells #[.int .i64 a.day,.int .i64 a.rule,.slice At a.af.length ct,.slice Ab a.base.length cb,.slice Ac a.av.length cc,.slice Am a.ao.length cm] 29):=⟨_,rfl⟩
 have bW:Below w.heap.size w W:=by rw[hW];exact (aae _ _).alloc (aad _) _
 have a1:Row W w.heap.size [.int .i64 a.day,.int .i64 a.rule,.slice At a.af.length ct,.slice Ab a.base.length cb,.slice Ac a.av.length cc,.slice Am a.ao.length cm]:=by rw[hW];exact Row.new w _ _
 have z0:=λy:ar W=>y.cell (a1.cell 0 _ rfl);have z1:=λy:ar W=>y.cell (a1.cell 1 _ rfl);have z2:=λy:ar W=>y.cell (a1.cell 2 _ rfl);have z3:=λy:ar W=>y.cell (a1.cell 3 _ rfl);have z4:=λy:ar W=>y.cell (a1.cell 4 _ rfl);have z5:=λy:ar W=>y.cell (a1.cell 5 _ rfl);have F7:=h.on bW bW.size;have HR:=I (λy:ar W=>h.on (aJ bW y) (aJ bW y).size)
 have Ut:ag (0<a.ao.length-> ∃b off,Am=some ⟨b,off,none⟩/\b<W.heap.size/\ ∀(k:Nat) (m:gu),a.ao[k]?=some m-> ∃A1 c1 A2 c2,Bs W W.heap.size b (off+k*8) m A1 c1 A2 c2):=I (by
  obtain ⟨A,c,hv,_,_,h⟩:=fQ F7.m;have hv:Value.slice Am a.ao.length cm= .slice A a.ao.length c:=hv;injection hv with e1 e2 e3
  rw[e1];exact h)
 have HW:=I hW;have fv:=I a1;have sW:w.heap.size<W.heap.size:=by rw[hW];simp
 obtain ⟨x0,dp⟩: ∃y:ar W,y.val=W:=⟨⟨W,aae _ _⟩,rfl⟩
 have RD:=I dp;obtain ⟨i0,hi,dK,ez,ek⟩:=aaq iD;have gf:=I bW;clear h a1 dp F7 z0 z1 z2 z3 z4 hW bW;go_enter func21,ntmps21;go_wp2_with (fail);go_upto_region 2 with (fail)
 rw[<-HW.o];obtain ⟨V,hV⟩: ∃V,V=W.alloc (.cells #[] 2):=⟨_,rfl⟩
 have SQ:ag (iX V W.heap.size (w.heap.size+1) 0 []):=I (by rw[hV,show w.heap.size+1=W.heap.size by rw[HW.o];simp];exact iX.start W);have jT:ag (Below W.heap.size W V):=I (by rw[hV];exact (aae _ _).alloc (aad _) _);rw[<-hV];clear hV;go_wp2;go_loopw [3,4] (λvo i wr=> ∃(k:Nat) (L:List Int) (g2 zM:Nat),k<=a.ao.length/\i= .int .i64 (k:Int)/\vo= .slice (some ⟨g2,0,none⟩) L.length zM/\L=Mg (aiN a) k/\iX wr W.heap.size g2 zM L/\Below W.heap.size W wr) (λ_ i _=>a.ao.length-(intOf i).toNat);case atStart=>exact ⟨0,[],_,0,aaf _,rfl,rfl,rfl,SQ.o,jT.o⟩
 case round=>
  obtain ⟨k,L,g2,zM,hk,rfl,rfl,tf,ho,hb⟩:=hrel;have HO:=I ho;have HB:=I hb;have cT:=I tf.symm;have Rt:L.length<=k:=by rw[tf];exact acq _ _
  have t5:=z5 ⟨wr,hb⟩;clear ho tf;by_cases aI:k<a.ao.length
  ·obtain ⟨b2,off,rfl,cL,aC⟩:=Ut.o (by omega);have aH:a.ao[k]?=some a.ao[k]:=aag aI;obtain ⟨aiJ,d1,aiK,d2,hP⟩:=aC k _ aH;have XN:=aiM aH;have t7:=hb.cell (p:=⟨b2,off+k*8+7,none⟩) cL|>.trans hP.k7
   clear aC hP aH z5;generalize a.ao[k]=m at*;cases hq:(m.result==0)with
   |true=>
    have xB:=I (ad6 (XN.trans hq));clear XN;go_wp2_with (at_builtin;refine aaH _ rfl _ _ 33 rfl W.heap.size 2 i0 (.int .i64 0) 1 8 underlying33 hi dK ez ek rfl (by decide) _ _ _ rfl (HO.o.row.alloc _) ⟨wr.heap.size,0,none⟩ 1 1 (ak (k:Int)) rfl rfl (λj u hj=>fS hj) (λu hu=>cf _ hu) ?c3 ?c4 (aS HB.o.size) ?_);case c3=>unfold maxLen;omega
    case c4=>omega
    intro v' w9 aG aA aU iH;obtain ⟨g9,gM,rfl,zE,zF⟩:=bG aG (by simpa using aU);have iM:=I ((HB.o.alloc HB.o.size (.cells #[.int .i64 (k:Int)] 2)).grown aA (aS HB.o.size) (λj hj=>(HO.o.row.lt j hj).1))
    have zG:ag (iX w9 W.heap.size g9 gM (L++[(k:Int)])):=I (by
     unfold iX;rw[cq,aak];exact aG)
    clear aG aA aU iH;go_wp2;go_roundw;case rel=>exact ⟨k+1,L++[(k:Int)],g9,gM,by omega,by go_num,by rw[aak];rfl,by rw[xB.o,cT.o],zG.o,iM.o⟩
    case measure=>simp[intOf];omega
   |false=>
    have acM:=I (adn (XN.trans hq));clear XN;go_wp2;go_roundw;case rel=>exact ⟨k+1,L,g2,zM,by omega,by go_num,rfl,by rw[acM.o,cT.o],HO.o,HB.o⟩
    case measure=>simp[intOf];omega
  have eA: ¬(k:Int)<(a.ao.length:Int):=by omega
  have V8:ag (L=aiL a):=I (by
   have:k=a.ao.length:=by omega
   unfold aiL;rw[<-this];exact cT.o.symm)
  clear z5;go_wp2;go_ret;refine ⟨some ⟨g2,0,none⟩,zM,by rw[<-V8.o];rfl,?_,gf.o.trans (HB.o.mono gf.o.size)⟩;rw[<-V8.o];exact HO.o.ints
theorem ai1 {a:cp} (hF:dJ a) {k:Nat} {m:gu} (hk:a.ao[k]?=some m) (x:cS) (v:Int) (h1:1<=v) (h3:v<=3) (w:World) (hR:jv w w.heap.size x a):
 Calls prog 12 #[eu a x,.string m.al,.int .i64 v] w (YM (YW (forM a m.ax v)).own true w):=by
 have cy:V6 a m.al v=true:=by
  unfold V6;rw[aic hF hk,aaD,dS];exact ⟨h1,h3⟩
 have h:=afL a x m.al v w hR hF.sz;rw[cy,acY cy,(ahO hF hk).2]at h;exact h
theorem aiT {a:cp} (hF:dJ a) {k:Nat} {m:gu} (hk:a.ao[k]?=some m) (x:cS) (w:World) (hR:jv w w.heap.size x a):
 Calls prog 13 #[eu a x,.string m.al] w (YM (YW (cO a m.ax)).own true w):=by
 have h:=aeY a x m.al w hR hF.sz;rw[aic hF hk,ahX hF hk]at h;exact h
theorem aiQ {a:cp} (hF:dJ a) {k:Nat} {m:gu} (hk:a.ao[k]?=some m) (x:cS) (w:World) (hR:jv w w.heap.size x a):
 Calls prog 14 #[eu a x,.string m.al] w (YM (YU (eF m.ax a.af)).own true w):=by
 have h:=acI a x m.al w hR hF.sz;rw[aic hF hk,Fc (aic hF hk),(ahO hF hk).2]at h;exact h
theorem aiW {a:cp} (hF:dJ a) {k:Nat} {m:gu} (hk:a.ao[k]?=some m) (x:cS) (w:World) (hR:jv w w.heap.size x a):
 Calls prog 16 #[eu a x,.string m.al] w (YM (YW (adQ a m.ax)).own true w):=by
 have h:=afc a x m.al w hR hF.sz;rw[aic hF hk,acO (aic hF hk),(ahO hF hk).2]at h;exact h
theorem aiX {a:cp} (h:dJ a) {k:Nat} {m:gu} (hk:a.ao[k]?=some m):m.al.size<=maxLen:=by
 obtain ⟨_,_,h3⟩:=h.sz;exact (h3 m (aaC hk)).1
theorem aiY {w:World} {B g n c k:Nat} {L:List Int} {z:Int} (h:Ints w B (.slice (some ⟨g,0,none⟩) n c) L) (hk:L[k]?=some z):w.cell? ⟨g,k,none⟩=some (.int .i64 z):=by
 obtain ⟨b,o,e,_,q⟩:=cZ h hk;injection e with e
 injection e with e1 e2 _
 subst e1 e2;rw[aan]at q;exact q
theorem ai4 {L:List Int} {k:Nat} (h:k<L.length):L[k]?=some (L.getD k 0):=by
 rw[abA,aag h];rfl
theorem aiU {w:World} {B n c:Nat} {A:Option Addr} {L:List Int} (h:Ints w B (.slice A n c) L) (hl:L.length=4): ∃b o,A=some ⟨b,o,none⟩/\b<B/\w.cell? ⟨b,o,none⟩=some (.int .i64 (L.getD 0 0))/\w.cell? ⟨b,o+1,none⟩=some (.int .i64 (L.getD 1 0))/\w.cell? ⟨b,o+2,none⟩=some (.int .i64 (L.getD 2 0))/\w.cell? ⟨b,o+3,none⟩=some (.int .i64 (L.getD 3 0)):=by
 obtain ⟨b,o,e,hb,q0⟩:=cZ h (ai4 (show 0<L.length by omega))
 have key: ∀k,k<L.length->w.cell? ⟨b,o+k,none⟩=some (.int .i64 (L.getD k 0)):=λk hk=>by
  obtain ⟨b',o',e',_,q⟩:=cZ h (ai4 hk);rw[e]at e';injection e' with e'
  injection e' with e1 e2 _
  rw[e1,e2];exact q
 exact ⟨b,o,e,hb,q0,key 1 (by omega),key 2 (by omega),key 3 (by omega)⟩
def aiZ (b:cp) (w:World) (e:Ending) (w':World):Prop:= ∃x T C M,e= .returned (.tuple #[eu b x,.bool true])/\Tt x/\dM w.heap.size w' x b T C M/\Below w.heap.size w w'
theorem ai0 {a:cp} (hF:dJ a) {k:Nat} {m:gu} (hk:a.ao[k]?=some m) (hr:m.result=0) {who:Nat} (hw:who<a.af.length) {v:Int} (h0:0<=v) (h3:v<=3) (x:cS) (w:World) (hR:jv w w.heap.size x a) (ht:m.al.size<=maxLen):
 Calls prog 18 #[eu a x,.agg #[.int .i64 2,.int .i64 (who:Int),.slice none 0 0,.string m.al,.int .i64 v,.slice none 0 0,.int .i64 0,.int .i64 0,.int .i64 0]] w (aiZ (ahN a k m who v) w):=by
 have h:=Cz a (ahZ who m.al v) x none 0 none 0 w hR hF.sz (cz.nil _ _ _ _ _ _ (aaf _)) (cz.nil _ _ _ _ _ _ (aaf _)) (λe he=>by cases he) ht;unfold Nh at h;rw[ah3 hF hk hr hw h0 h3]at h;exact h
theorem ai2 {a:cp} (hF:dJ a) {k:Nat} {m:gu} (hk:a.ao[k]?=some m) (hr:m.result=0) (x:cS) (w:World) (hR:jv w w.heap.size x a):
 Calls prog 20 #[eu a x,.string m.al] w (bT (.tuple #[.int .i64 (lY a m m.ax),.bool true]) w):=by
 have h:=aeC a x m.al w hR hF.sz;rw[aic hF hk,ah2 hF hk hr]at h;exact h
theorem aiR {a:cp} (hF:dJ a) {k:Nat} {m:gu} (hk:a.ao[k]?=some m) (hr:m.result=0) {who:Nat} (hw:who<a.af.length) {v:Int} (h0:0<=v) (h3:v<=3) (x:cS) (w:World) (hR:jv w w.heap.size x (ahN a k m who v)):
 Calls prog 20 #[eu (ahN a k m who v) x,.string m.al] w (bT (.tuple #[.int .i64 (lY a m (m.ax.set who v)),.bool true]) w):=by
 obtain ⟨e1,e2,e3⟩:=ah5 hF hk hr hw h0 h3;have h:=aeC _ x m.al w hR (ahW hF hk hr hw h0 h3).sz;rw[e1,e2]at h;exact h
theorem aiP {a:cp} (hF:dJ a) {k:Nat} {m:gu} (hk:a.ao[k]?=some m) (hr:m.result=0) {who:Nat} (hw:who<a.af.length) {v:Int} (h0:0<=v) (h3:v<=3) (x:cS) (w:World) (hR:jv w w.heap.size x (ahN a k m who v)):
 Calls prog 13 #[eu (ahN a k m who v) x,.string m.al] w (YM (YW (cO a (m.ax.set who v))).own true w):=by
 obtain ⟨e1,e2,e3⟩:=ah5 hF hk hr hw h0 h3;have h:=aeY _ x m.al w hR (ahW hF hk hr hw h0 h3).sz;rw[e1,e3]at h;exact h
end Go.Proofs.YtbcggaldkihcaaaGreat

/- The weights of members, walked: the reference's and the program's; the greatest of numbe.. -/
import Derived.Test.YtbcggaldkihcaaaGreatYG
import Derived.Test.YtbcggaldkihcaaaGreatYC
set_option maxHeartbeats 8000000
set_option maxRecDepth 100000
namespace Go.Proofs.YtbcggaldkihcaaaGreat
open Tryz
open Go.RowKit Go.Lib
def b6 (n:Nat) (E:List Int):Nat->List Int
 |0=>List.replicate n 0
 |k+1=>match E[k]? with|some e=>if 0<=e then uA (b6 n E k) e.toNat else b6 n E k|none=>b6 n E k
theorem C9 (n:Nat) (E:List Int): ∀k,(b6 n E k).length=n
 |0=>by unfold b6;simp
 |k+1=>by
  have:=C9 n E k;unfold b6
  split
  ·split
   ·rw[JJ];exact this
   exact this
  exact this
theorem adI {n:Nat} {E:List Int} {k:Nat} {e:Int} (h:E[k]?=some e) (he: ¬0<=e):b6 n E (k+1)=b6 n E k:=by rw[b6,h];exact aah he
theorem adl {n:Nat} {E:List Int} {k j:Nat} (h:E[k]?=some (j:Int)):b6 n E (k+1)=uA (b6 n E k) j:=by rw[b6,h];exact aaj (aa8 j)
theorem Fm (n:Nat) (E:List Int): ∀k j,0<=(b6 n E k).getD j 0/\(b6 n E k).getD j 0<=k
 |0,j=>by
  unfold b6;rw[abA,List.getElem?_replicate]
  split<;>simp
 |k+1,j=>by
  have ih:=Fm n E k;cases hE:E[k]? with
  |none=>
   rw[b6,hE];have:=ih j;simp only;omega
  |some e=>
   rw[b6,hE];simp only;by_cases he:0<=e
   ·rw[aaj he];by_cases hl:e.toNat<(b6 n E k).length
    ·rw[JK hl];have h1:=ih j;have h2:=ih e.toNat
     split<;>omega
    have:uA (b6 n E k) e.toNat=b6 n E k:=by unfold uA;exact List.set_eq_of_length_le (by omega)
    rw[this];have:=ih j;omega
   rw[aah he];have:=ih j;omega
theorem adJ {n:Nat} {E:List Int} {k j:Nat} {w:World} {g:Nat} (hE:E[k]?=some (j:Int)) (hj:j<n) (h:Row w g ((b6 n E k).map (Value.int .i64))):
 Row (w.setCell ⟨g,j,none⟩ (.int .i64 ((b6 n E k).getD j 0+1))) g ((b6 n E (k+1)).map (Value.int .i64)):=by
 rw[adl hE];unfold uA;rw[abD];exact h.set j _ (by rw[aap,C9];exact hj)
theorem adm (n:Nat) (E:List Int):cj (λ_=>0) n=(b6 n E 0).map (Value.int .i64):=by
 rw[D4];unfold b6;simp
noncomputable def kh (V:List lW) (rule:Int):List Int:=b6 V.length (jl V rule) V.length
def agV (V:List lW) (rule:Int) (base:Nat) (w':World) (g:Nat):Prop:=base<=g/\g<w'.heap.size/\Row w' g ((kh V rule).map (Value.int .i64))
def ahl (V:List lW) (rule:Int) (w:World) (e:Ending) (w':World):Prop:=
 ∃g,e= .returned (.slice (some ⟨g,0,none⟩) V.length V.length)/\agV V rule w.heap.size w' g/\Below w.heap.size w w'
def acN (V:List lW) (rule:Int) (w:World) (e:Ending) (w':World):Prop:=
 ∃g,e= .returned (.tuple #[.slice (some ⟨g,0,none⟩) V.length V.length,.bool true])/\agV V rule w.heap.size w' g/\Below w.heap.size w w'
theorem ac5 (V:List lW) (rule:Int) (v:Value) (w:World) (yd:0<=rule) (mV:rule<=2) (hV:mN w w.heap.size v V) (cy:gF V):
 Calls prog 15 #[v,.int .i64 rule] w (acN V rule w):=by
 obtain ⟨i0,hi,dK,ez,ek⟩:=aaq iD;have fD:=cy.n12;have Ry:=I (BX V rule v w yd mV hV cy);obtain ⟨A,c0,rfl,xE,An,_⟩:=jL hV;unfold pn at Ry;unfold acN;clear hV cy;go_enter func15,ntmps15;go_wp2_with (fail);refine Ry.o.mono ?_;rintro e w3 ⟨g,cap,rfl,cn,OE,E',dB⟩;obtain ⟨w4,qe,bi,ow,ox⟩:=tz (P:=prog) w3 33 2 i0 underlying33 hi dK ez V.length (by rw[ek];omega) (by omega);have kC:=I (dB.trans (ox.mono dB.size));rw[adm V.length (jl V rule)]at bi;have yu:=I bi;have hY:=I (E'.below ox);have jS:=I OE;have gH:=I cn;have HWV:ag (kh V rule=b6 V.length (jl V rule) V.length):=I rfl;have fG:=(E'.row.lt g rfl).2;have hg4:=ow;have jP: ¬g=w3.heap.size:=by omega
 have qp:w.heap.size<=w3.heap.size:=dB.size;clear bi E' OE cn dB ox Ry fG hi dK ez ek;generalize jl V rule=E at*;go_wp2;go_loopw [10,24] (λ_ i wr=> ∃k:Nat,k<=V.length/\i= .int .i64 (k:Int)/\Row wr w3.heap.size ((b6 V.length E k).map (Value.int .i64))/\Touch (λc=>c=w3.heap.size) w4 wr) (λ_ i _=>V.length-(intOf i).toNat);case atStart=>exact ⟨0,aaf _,rfl,yu.o,Touch.refl _ _⟩
 case round=>
  obtain ⟨k,hk,rfl,Rz,ht⟩:=hrel;have kW:=I Rz;have HT:=I ht;clear Rz ht;by_cases aI:k<V.length
  ·have Y8:k<E.length:=by rw[gH.o];exact aI
   have OJ:=jS.o k _ (aag Y8);have HE:=I (aag Y8);have x1:=HT.o.cellAt (hY.o.at HE.o) jP;rcases uj OJ with he|⟨j,he,hj⟩
   ·have HN:ag (Row wr w3.heap.size ((b6 V.length E (k+1)).map (Value.int .i64))):=I (by rw[adI HE.o (by omega)];exact kW.o);rw[he]at x1;clear OJ he;go_wp2;go_roundw;case rel=>exact ⟨k+1,by omega,by go_num,HN.o,HT.o⟩
    case measure=>simp[intOf];omega
   have Lk:E[k]?=some (j:Int):=by rw[HE.o,he]
   have F5:(j:Int)<(V.length:Int):=by omega
   have KJ:(0:Int)<=(j:Int):=by omega
   have ur:j<(b6 V.length E k).length:=by rw[C9];exact hj
   have x5:=kW.o.cell j _ (jM ur);have f5:=kW.o.free j (by rw[aap];exact ur);have zc:=Fm V.length E k j;have HN:=I (adJ Lk hj kW.o);have Ef:=I (HT.o.setCell (p:=⟨w3.heap.size,j,none⟩) rfl (.int .i64 ((b6 V.length E k).getD j 0+1)));rw[he]at x1;clear OJ he Lk ur;generalize (b6 V.length E k).getD j 0=z at*;go_wp2;go_roundw;case rel=>exact ⟨k+1,by omega,by go_num,HN.o,Ef.o⟩
   case measure=>simp[intOf];omega
  have eA: ¬(k:Int)<(V.length:Int):=by omega
  have LW:ag (Row wr w3.heap.size ((kh V rule).map (Value.int .i64))):=I (by
   have:k=V.length:=by omega
   rw[HWV.o,<-this];rw[this]at kW⊢;exact kW.o)
  have xi:=I (kC.o.trans (HT.o.below kC.o.size (λb hb=>by rw[hb];exact qp)));have UZ:w3.heap.size<wr.heap.size:=aar hg4 HT.o.size;go_wp2;go_ret2;exact ⟨w3.heap.size,rfl,⟨qp,UZ,LW.o⟩,xi.o⟩
theorem acf: ∀(L:List Int) (m:Int),m<=L.foldl max m/\(∀z∈L,z<=L.foldl max m)/\(L.foldl max m=m\/L.foldl max m∈L)
 |[],m=>⟨Int.le_refl _,(λz hz=>by cases hz),Or.inl rfl⟩
 |x::L,m=>by
  obtain ⟨h1,h2,h3⟩:=acf L (max m x);rw[List.foldl_cons];refine ⟨by omega,λz hz=>?_,?_⟩
  ·rcases aaF.1 hz with rfl|hz
   ·omega
   exact h2 z hz
  rcases h3 with h3|h3
  ·rcases Int.le_total m x with h|h
   ·right
    rw[h3,Int.max_eq_right h];exact aaA ..
   left
   rw[h3,Int.max_eq_left h]
  exact Or.inr (aaR _ h3)
theorem acZ {L:List Int} {m:Int} {k:Nat} (h:k<L.length):(L.take (k+1)).foldl max m=max ((L.take k).foldl max m) L[k]:=by
 rw[aaG h,List.foldl_append];rfl
theorem aez (L:List Int) (v:Value) (w:World) (h:Ints w w.heap.size v L) (h0:0<L.length) (hl:L.length<=1000):Calls prog 52 #[v] w (bT (.int .i64 (L.foldl max (L[0]'h0))) w):=by
 have KT:L[0]?=some (L[0]'h0):=aag h0;have HI:=I h;obtain ⟨A,c,rfl,hc,hm⟩:=h.sl;obtain ⟨b,off,rfl,hb,x0⟩:=cZ h KT;rw[Nat.add_zero]at x0;have HF:ag (max (L[0]'h0) (L[0]'h0)=L[0]'h0):=I (by omega);have UD:ag ((L.take 1).foldl max (L[0]'h0)=L[0]'h0):=I (by rw[acZ h0,List.take_zero];exact Int.max_self _);have h1: ¬(L.length:Int)<1:=by omega
 have SL:(0:Int)<(L.length:Int):=by omega
 obtain ⟨z0,dK⟩: ∃z,z=L[0]'h0:=⟨_,rfl⟩
 rw[<-dK]at UD x0⊢;clear h KT HF dK;go_enter func52,ntmps52;go_wp2;go_loopw [3,4] (λm i wr=> ∃k:Nat,1<=k/\k<=L.length/\i= .int .i64 (k:Int)/\m= .int .i64 ((L.take k).foldl max z0)/\wr=w) (λ_ i _=>L.length-(intOf i).toNat);case atStart=>exact ⟨1,aad _,h0,rfl,by rw[UD.o],by first|rfl|trivial⟩
 case round=>
  obtain ⟨k,rc,hk,rfl,rfl,rfl⟩:=hrel;by_cases aI:k<L.length
  ·obtain ⟨b2,o2,e2,_,x2⟩:=cZ HI.o (aag aI);injection e2 with e2
   injection e2 with e3 e4
   subst e3 e4;have HN:=I (acZ (m:=z0) aI);generalize (L.take k).foldl max z0=m at*;generalize L[k]=z at*;go_wp2;go_roundw;case rel=>exact ⟨k+1,by omega,by omega,by go_num,by rw[HN.o],by first|rfl|trivial⟩
   case measure=>simp[intOf];omega
  have eA: ¬(k:Int)<(L.length:Int):=by omega
  have HN:ag ((L.take k).foldl max z0=L.foldl max z0):=I (by rw[aaJ (by omega)]);generalize (L.take k).foldl max z0=m at*;go_wp2;go_ret;exact ⟨by rw[<-HN.o];rfl,aae _ _⟩
def Mg (p:Nat->Bool):Nat->List Int
 |0=>[]
 |k+1=>Mg p k++(if p k=true then [(k:Int)]else [])
theorem acq (p:Nat->Bool): ∀k,(Mg p k).length<=k
 |0=>aad _
 |k+1=>by
  have:=acq p k;unfold Mg;rw[aak]
  split<;>simp<;>omega
theorem ad6 {p:Nat->Bool} {k:Nat} (h:p k=true):Mg p (k+1)=Mg p k++[(k:Int)]:=by rw[Mg,aaj h]
theorem adn {p:Nat->Bool} {k:Nat} (h:p k=false):Mg p (k+1)=Mg p k:=by rw[Mg,aah (by rw[h];simp),abv]
def ab9 (W:List Int) (k:Nat):Bool:=W.getD k 0==W.foldl max 1
theorem aeA {W:List Int} {k:Nat} (h:k<W.length):ab9 W k=(W[k]==W.foldl max 1):=by unfold ab9;simp[List.getD,h]
theorem agW {W:List Int} (h0:0<W.length) (hz: ∀z∈W,0<=z) {k:Nat} (hk:k<W.length):((W[k]==W.foldl max (W[0]'h0))&&decide (0<W.foldl max (W[0]'h0)))=ab9 W k:=by
 rw[aeA hk];obtain ⟨a1,a2,a3⟩:=acf W 1;obtain ⟨b1,b2,b3⟩:=acf W (W[0]'h0)
 have hb:W.foldl max (W[0]'h0)∈W:=by
  rcases b3 with b3|b3
  ·rw[b3];exact aax h0
  exact b3
 have en:=a2 _ (aax hk);have ahF:=b2 _ (aax hk);have cL:=a2 _ hb;have xu:=hz _ hb;by_cases hp:0<W.foldl max (W[0]'h0)
 ·have e:W.foldl max 1=W.foldl max (W[0]'h0):=by
   rcases a3 with a3|a3
   ·omega
   have:=b2 _ a3;omega
  rw[e,abd hp,Bool.and_true]
 have gm:(W[k]==W.foldl max 1)=false:=by
  simp only[abY,ne_eq];omega
 rw[gm,aba hp,Bool.and_false]
theorem ado {V:List lW} {rule:Int}:(kh V rule).length=V.length:=C9 _ _ _
theorem adp {V:List lW} {rule:Int}: ∀z∈kh V rule,0<=z:=λz hz=>by
 obtain ⟨k,hk,rfl⟩:=abh.1 hz;have:=(Fm V.length (jl V rule) V.length k).1;unfold kh at hk⊢;rw[abA,aag hk]at this;exact this
noncomputable def adQ (a:cp) (vs:List Int):List Int:=Mg (ab9 (kh (eF vs a.af) a.rule)) a.af.length
noncomputable def K4 (a:cp) (t:ByteArray):List Int:=if Jz a t=true then adQ a (jU a t).ax else []
theorem ac0 {a:cp} {t:ByteArray} (h:Jz a t=false):K4 a t=[]:=by unfold K4;rw[aah (by rw[h];simp)]
theorem acO {a:cp} {t:ByteArray} (h:Jz a t=true):K4 a t=adQ a (jU a t).ax:=by unfold K4;rw[aaj h]
theorem afc (a:cp) (x:cS) (t:ByteArray) (w:World) (h:jv w w.heap.size x a) (hs:ua a):Calls prog 16 #[eu a x,.string t] w (YM (YW (K4 a t)).own (Jz a t) w):=by
 obtain ⟨At,ct,Ab,cb,Ac,cc,Am,cm,rfl⟩:=h.slices;unfold eu;obtain ⟨W,hW⟩: ∃W:World,W=w.alloc (.cells #[.int .i64 a.day,.int .i64 a.rule,.slice At a.af.length ct,.slice Ab a.base.length cb,.slice Ac a.av.length cc,.slice Am a.ao.length cm] 29):=⟨_,rfl⟩
 have bW:Below w.heap.size w W:=by rw[hW];exact (aae _ _).alloc (aad _) _
 have a1:Row W w.heap.size [.int .i64 a.day,.int .i64 a.rule,.slice At a.af.length ct,.slice Ab a.base.length cb,.slice Ac a.av.length cc,.slice Am a.ao.length cm]:=by rw[hW];exact Row.new w _ _
 have z0:=λy:ar W=>y.cell (a1.cell 0 _ rfl);have z1:=λy:ar W=>y.cell (a1.cell 1 _ rfl);have z2:=λy:ar W=>y.cell (a1.cell 2 _ rfl);have z3:=λy:ar W=>y.cell (a1.cell 3 _ rfl);have z4:=λy:ar W=>y.cell (a1.cell 4 _ rfl);have z5:=λy:ar W=>y.cell (a1.cell 5 _ rfl);have F7:=h.on bW bW.size;have HR:=I (λy:ar W=>h.on (aJ bW y) (aJ bW y).size)
 have Ut:ag (0<a.ao.length-> ∃b off,Am=some ⟨b,off,none⟩/\b<W.heap.size/\ ∀(k:Nat) (m:gu),a.ao[k]?=some m-> ∃A1 c1 A2 c2,Bs W W.heap.size b (off+k*8) m A1 c1 A2 c2):=I (by
  obtain ⟨A,c,hv,_,_,h⟩:=fQ F7.m;have hv:Value.slice Am a.ao.length cm= .slice A a.ao.length c:=hv;injection hv with e1 e2 e3
  rw[e1];exact h)
 have HW:=I hW;have fv:=I a1;have sW:w.heap.size<W.heap.size:=by rw[hW];simp
 obtain ⟨x0,dp⟩: ∃y:ar W,y.val=W:=⟨⟨W,aae _ _⟩,rfl⟩
 have RD:=I dp;have Sg:=I (λy:ar W=>acI a ⟨.slice At a.af.length ct,.slice Ab a.base.length cb,.slice Ac a.av.length cc,.slice Am a.ao.length cm⟩ t y.val (HR.o y) hs);unfold YM eu at Sg;clear h hW a1 dp F7 hs;cases hk:Jz a t with
 |false=>
  have HN:=I (ac0 hk);rw[hk]at Sg;clear hk;go_enter func16,ntmps16;go_wp2_with (fail);rw[<-HW.o,<-RD.o];refine (Sg.o x0).mono ?_;rintro e w1 ⟨v1,rfl,⟨L1,A1,c1,rfl,_,_⟩,bw⟩;obtain ⟨x1,rfl⟩: ∃y:ar W,w1=y.val:=⟨⟨w1,x0.ok.trans (bw.mono x0.ok.size)⟩,rfl⟩
  clear bw;go_wp2;go_ret2;exact ⟨_,rfl,by show ay ak (K4 a t) _ _ _;rw[HN.o];exact ay.nil _ _ _,aJ bW x1⟩
 |true=>
  rw[hk]at Sg;obtain ⟨hv,k,K0,qg,Up⟩:=j4 hk;have cy:=JC hv;have fD:=cy.n12;have kM:=cy.n1;have HY:=I (acO hk);have Hk:=cy.ax Up;have Xf:=I (Fc hk);obtain ⟨i0,hi,dK,ez,ek⟩:=aaq iD;have PZ:=cy.Jx Hk;rw[Xf.o]at Sg;generalize jU a t=q at*;have Ry:=I (λ(W':World) (vv:Value) (hv:mN W' W'.heap.size vv (eF q.ax a.af))=>ac5 (eF q.ax a.af) a.rule vv W' cy.rule.1 cy.rule.2 hv PZ);unfold acN at Ry;have ZY:=I Hk;clear hk hv K0 Up Hk cy PZ;go_enter func16,ntmps16;go_wp2_with (fail);rw[<-HW.o,<-RD.o];refine (Sg.o x0).mono ?_;rintro e w3 ⟨v3,rfl,⟨L3,A3,c3,rfl,MD,Ee⟩,dB⟩;obtain ⟨x3,rfl⟩: ∃y:ar W,w3=y.val:=⟨⟨w3,x0.ok.trans (dB.mono x0.ok.size)⟩,rfl⟩
  have b0:=I (Ry.o x3.val _ (MD▸Ee.Jx));clear MD Ee dB;go_wp2_with (fail);refine b0.o.mono ?_;rintro e w4 ⟨g,rfl,⟨qp,fG,iK⟩,l8⟩;have kC:=I ((aJ bW x3).trans (l8.mono (aJ bW x3).size));have Xg:ag ((kh (eF q.ax a.af) a.rule).length=a.af.length):=I (by rw[ado,ew ZY.o]);have wh:ag (adQ a q.ax=Mg (ab9 (kh (eF q.ax a.af) a.rule)) a.af.length):=I rfl;have HZP:=I (adp (V:=eF q.ax a.af) (rule:=a.rule));rw[ew ZY.o];have HGR:=I iK;clear l8 iK qp b0;generalize kh (eF q.ax a.af) a.rule=Z at*;have dK:0<Z.length:=by rw[Xg.o];omega
  have b5:=(aae w4.heap.size w4).alloc (aad _) (.cells #[] 2);have hIZ:Ints (w4.alloc (.cells #[] 2)) (w4.alloc (.cells #[] 2)).heap.size (.slice (some ⟨g,0,none⟩) Z.length a.af.length) Z:=cz.CS ak (λ_=>rfl) (by rw[je];exact HGR.o.below b5 fG) (aar fG b5.size) (by rw[Xg.o];exact aad _) (by unfold maxLen;omega);have HMX:=aez Z _ _ hIZ dK (by rw[Xg.o];omega);rw[Xg.o]at HMX;have HMM:ag (∀{j:Nat} (h:j<Z.length),((Z[j]==Z.foldl max (Z[0]'dK))&&decide (0<Z.foldl max (Z[0]'dK)))=ab9 Z j):=I (λh=>agW dK HZP.o h);obtain ⟨mm,EZ⟩: ∃mm,mm=Z.foldl max (Z[0]'dK):=⟨_,rfl⟩
  rw[<-EZ]at HMM HMX;have HMX:=I HMX;have QP:=I ((iX.start w4));have agX:=I b5;clear hIZ EZ dK b5;go_wp2_with (fail);refine HMX.o.mono ?_;rintro e w6 ⟨rfl,En⟩;obtain ⟨w5,bt⟩: ∃w5:World,w5=w4:=⟨_,rfl⟩
  have HB5:ag (Below w.heap.size w w5):=I (by rw[bt];exact kC.o);have U4:g<w5.heap.size:=by rw[bt];exact fG
  have mR:ag (∀(j:Nat) (z:Int),Z[j]?=some z->w5.cell? ⟨g,j,none⟩=some (.int .i64 z)):=I (λj z hj=>by rw[bt];exact HGR.o.cell j _ (by rw[aaX,hj];rfl));have SQ:ag (iX w6 w5.heap.size w4.heap.size 0 []):=I (by rw[bt];exact QP.o.below En);have afM:ag (Below w5.heap.size w5 w6):=I (by rw[bt];exact agX.o.trans (En.mono agX.o.size));clear En bt;go_wp2;go_loopw [10,12,13,34] (λvo _ _ i wr=> ∃(k:Nat) (L:List Int) (g2 zM:Nat),k<=a.af.length/\i= .int .i64 (k:Int)/\vo= .slice (some ⟨g2,0,none⟩) L.length zM/\L=Mg (ab9 Z) k/\iX wr w5.heap.size g2 zM L/\Below w5.heap.size w5 wr) (λvo _ _ i _=>a.af.length-(intOf i).toNat);case atStart=>exact ⟨0,[],_,0,aaf _,rfl,rfl,rfl,SQ.o,afM.o⟩
  case round=>
   obtain ⟨k,L,g2,zM,hk,rfl,rfl,tf,ho,hb⟩:=hrel;have HO:=I ho;have HB:=I hb;have cT:=I tf.symm;have Rt:L.length<=k:=by rw[tf];exact acq _ _
   clear ho tf;by_cases aI:k<a.af.length
   ·have hlZ:k<Z.length:=by rw[Xg.o];exact aI
    have x1:=(hb.cell (p:=⟨g,k,none⟩) U4).trans (mR.o k _ (aag hlZ));have hlp:=HMM.o hlZ;clear hb;generalize Z[k]=z at*;cases hy:(z==mm)with
    |true=>
     cases hp:decide (0<mm)with
     |true=>
      have hp0:=aa3 hp;have xB:=I (ad6 (show ab9 Z k=true by rw[<-hlp,hy,aaD];exact hp));clear hlp hp;go_wp2_with (at_builtin;refine aaH _ rfl _ _ 33 rfl w5.heap.size 2 i0 (.int .i64 0) 1 8 underlying33 hi dK ez ek rfl (by decide) _ _ _ rfl (HO.o.row.alloc _) ⟨wr.heap.size,0,none⟩ 1 1 (ak (k:Int)) rfl rfl (λj u hj=>fS hj) (λu hu=>cf _ hu) ?c3 ?c4 (aS HB.o.size) ?_);case c3=>unfold maxLen;omega
      case c4=>omega
      intro v' w9 aG aA aU iH;obtain ⟨g9,gM,rfl,zE,zF⟩:=bG aG (by simpa using aU);have iM:=I ((HB.o.alloc HB.o.size (.cells #[.int .i64 (k:Int)] 2)).grown aA (aS HB.o.size) (λj hj=>(HO.o.row.lt j hj).1))
      have zG:ag (iX w9 w5.heap.size g9 gM (L++[(k:Int)])):=I (by
       unfold iX;rw[cq,aak];exact aG)
      clear aG aA aU iH;go_wp2;go_roundw;case rel=>exact ⟨k+1,L++[(k:Int)],g9,gM,by omega,by go_num,by rw[aak];rfl,by rw[xB.o,cT.o],zG.o,iM.o⟩
      case measure=>simp[intOf];omega
     |false=>
      have hp0:=of_decide_eq_false hp;have acM:=I (adn (show ab9 Z k=false by rw[<-hlp,hy,aaD];exact hp));clear hlp hp;go_wp2;go_roundw;case rel=>exact ⟨k+1,L,g2,zM,by omega,by go_num,rfl,by rw[acM.o,cT.o],HO.o,HB.o⟩
      case measure=>simp[intOf];omega
    |false=>
     have acM:=I (adn (show ab9 Z k=false by rw[<-hlp,hy];rfl));clear hlp;go_wp2;go_roundw;case rel=>exact ⟨k+1,L,g2,zM,by omega,by go_num,rfl,by rw[acM.o,cT.o],HO.o,HB.o⟩
     case measure=>simp[intOf];omega
   have eA: ¬(k:Int)<(a.af.length:Int):=by omega
   have V8:ag (L=K4 a t):=I (by
    have:k=a.af.length:=by omega
    rw[HY.o,wh.o,<-this];exact cT.o.symm)
   have xu:=HB5.o.trans (hb.mono HB5.o.size);have HOO:=I (HO.o.own.less HB5.o.size);go_wp2;go_ret2;exact ⟨_,rfl,by show ay ak (K4 a t) _ _ _;rw[<-V8.o];exact HOO.o,xu⟩
end Go.Proofs.YtbcggaldkihcaaaGreat

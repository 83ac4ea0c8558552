/- The journals of both sides, walked. (The rows are LawW's and LawX's. -/
import Derived.Test.YtbcggaldkihcaaaGreatDoorQR
import Derived.Test.YtbcggaldkihcaaaGreatDoorShelfB
import Derived.Maps.AppendAt
import Derived.Test.YtbcggaldkihcaaaGreatDoorRK
set_option maxHeartbeats 4000000
set_option maxRecDepth 100000
namespace Go.Proofs.YtbcggaldkihcaaaGreatDoor
open Tryz
open Go.RowKit Go.Lib
theorem IsBuilder.below {T e:TypeId} {B b:Nat} {wa:List Value} {w w':World} (h:Lib.IsBuilder T e B b wa w) (hb:Below w.heap.size w w'):Lib.IsBuilder T e B b wa w':=by
 have H: ∀p,Lib.BuilderAt T e B b p wa w->Lib.BuilderAt T e B b p wa w':=by
  rintro p ⟨h1,v,h2,h3,h4⟩
  have aI:b<w.heap.size:=by
   rcases Nat.lt_or_ge b w.heap.size with aI|eA
   ·exact aI
   rw[Array.getElem?_eq_none eA]at h2;cases h2
  exact ⟨h1,v,by rw[hb.block b aI];exact h2,aT h3 hb,h4⟩
 rcases h with h|h
 ·exact .inl (H _ h)
 exact .inr (H _ h)
theorem abA (B b:Nat) (l:List UInt8) (t:List UInt8) (w:World) (h:Lib.IsBuilder 108 5 B b (Lib.byteCells l) w) (hl:l.length<=1000000) (ht:t.length<=1000000) (hB:B<=w.heap.size):
 Calls prog 61 #[.pointer (some ⟨b,0,none⟩),.string ⟨t.toArray⟩] w λe w'=>e= .returned (.tuple #[.int .i64 t.length,.nilIface])/\Lib.IsBuilder 108 5 B b (Lib.byteCells (l++t)) w'/\Below B w w':=by
 have ja:(⟨t.toArray⟩:ByteArray).size=t.length:=by simp[ByteArray.size]
 have O5:(Lib.byteCells l).length=l.length:=by simp[Lib.byteCells]
 refine (Any.Builder_WriteString lays166h Builder_Extra_M154 B b (Lib.byteCells l) ⟨t.toArray⟩ w h (by rw[O5,ja];omega) hB).mono ?_;rintro e w' ⟨rfl,h1,h2⟩;refine ⟨by rw[ja],.inr ?_,h2⟩;have:Lib.byteCells l++Lib.strCells ⟨t.toArray⟩=Lib.byteCells (l++t):=by simp[Lib.byteCells,Lib.strCells]
 rw[<-this];exact h1
theorem abW (ds:List dr) (A:Option Addr) (n c:Nat) (w:World) (h:aa3 w w.heap.size (.slice A n c) ds) (cy:aaJ ds=true) (hE:Env w.heap.size w):
 Calls prog 36 #[.slice A n c] w (bT (.string ⟨(jrn 7 ds).toArray⟩) w):=by
 obtain ⟨hn,hc,hm⟩:=fB h;rw[abc]at cy;obtain ⟨h40,dn⟩:=cy;have HD:=I (cz.km h abd.stays (Nat.le_refl _));have H8:=I dn;have E:=I hE;have Ij:n<=ds.length:=by omega
 have hln:ds.length<=n:=by omega
 have ang:n<=40:=by omega
 clear h hn dn h40 hE;go_enter func36,ntmps36;go_wp2;go_loopw [4,12] (λl i wr=> ∃k:Nat,k<=n/\i= .int .i64 (k:Int)/\l= .int .i64 ((aaq 7 (ds.take k):Nat):Int)/\Lib.IsBuilder 108 5 w.heap.size w.heap.size (Lib.byteCells (jrn 7 (ds.take k))) wr/\Below w.heap.size w wr) (λ_ i _=>n-(RowKit.intOf i).toNat);case atStart=>exact ⟨0,Nat.zero_le _,rfl,rfl,.inl ⟨Nat.le_refl _,.slice none 0 0,heap_alloc_new w _,World.ownsRow_nil _ _ _ _,by simp[Value.ownBlock]⟩,(Below.refl _ _).alloc (Nat.le_refl _) _⟩
 case round=>
  obtain ⟨k,hk,rfl,rfl,hB,hb⟩:=hrel;obtain ⟨x,rfl⟩: ∃x:ar w,wr=x.val:=⟨⟨wr,hb⟩,rfl⟩
  have HB:=I hB;clear hB;by_cases aI:k<n
  ·have aH:ds[k]?=some ds[k]:=List.getElem?_eq_getElem (by omega);obtain ⟨b,off,A1,c1,A2,c2,rfl,hb,hP⟩:=aa4 (HD.o x) aH;have H5:ds.take (k+1)=ds.take k++[ds[k]]:=by rw[List.take_succ_eq_append_getElem]
   have cy:=H8.o ds[k] (List.getElem_mem (by omega));have yb:=abo (ds.take k) 7 (λd hd=>H8.o d (List.mem_of_mem_take hd));rw[List.length_take]at yb;have Rt:=abb (ds.take k) 7 (by omega);generalize ds[k]=d at*;have tN:ag (aaq 7 (ds.take (k+1))=chk (aaq 7 (ds.take k)) (H6 d)):=I (by rw[H5,aaQ]);have Nr:ag (jrn 7 (ds.take (k+1))=jrn 7 (ds.take k)++(itoa (chk (aaq 7 (ds.take k)) (H6 d):Nat)++32::(H6 d++[10]))):=I (by rw[H5,aba]);generalize jrn 7 (ds.take k)=out at*;generalize aaq 7 (ds.take k)=last at*;have yh:=aam cy;have CX:=aa5 last (H6 d);have HCK:=I (λ(W:World)=>aaR last ⟨(H6 d).toArray⟩ W Rt (by simp[ByteArray.size];omega));have b5:=itoa_length_le (chk last (H6 d):Nat) (by omega) (by omega);obtain ⟨T,hT⟩: ∃T,T=H6 d:=⟨_,rfl⟩
   have xv: ∀o,Below x.val.heap.size x.val (x.val.alloc o):=λo=>(Below.refl _ _).alloc (Nat.le_refl _) _
   have HTX:ag (∀o,Calls prog 7 #[.agg #[.int .i64 d.kind,.int .i64 d.member,.slice A1 d.af.length c1,.string d.al,.int .i64 d.bO,.slice A2 d.patch.length c2,.int .i64 d.start,.int .i64 d.aB,.int .i64 d.aj]] (x.val.alloc o) (bT (.tuple #[.string ⟨T.toArray⟩,.bool true]) (x.val.alloc o))):=I (λo=>by
    have hh:=aai d A1 c1 A2 c2 (x.val.alloc o) (hP.ints.on (Pl.stays _) (xv o) (xv o).size) (hP.fF.on (Pl.stays _) (xv o) (xv o).size) hP.sizes hP.al (aah (E.o.on (x.ok.trans ((xv o).mono x.ok.size))) (Nat.le_trans x.ok.size (xv o).size));rw[afj cy,cy,<-hT]at hh;exact hh)
   rw[<-hT]at yh tN Nr HCK b5 CX;have z0:=hP.k0;have z1:=hP.k1;have z2:=hP.k2;have z3:=hP.k3;have z4:=hP.k4;have z5:=hP.k5;have z6:=hP.k6;have z7:=hP.k7;have z8:=hP.k8;have HX:=I (λo=>x.ok.trans ((xv o).mono x.ok.size));have xS:=I xv;clear hT hP cy H5 aH xv;rw[show (⟨T.toArray⟩:ByteArray).data.toList=T from rfl]at HCK;generalize chk last T=C at*;obtain ⟨b7,e1,n1,q1⟩:=H7 (P:=prog) (itoa (C:Nat)) [32] (by omega) (by simp);simp only[List.length_cons,List.length_nil]at n1;obtain ⟨b8,e2,n2,q2⟩:=H7 (P:=prog) b7 T (by omega) (by omega);obtain ⟨b9,e3,n3,q3⟩:=H7 (P:=prog) b8 [10] (by omega) (by simp);simp only[List.length_cons,List.length_nil]at n3;have M2:ag (out++b9=jrn 7 (ds.take (k+1))):=I (by rw[Nr.o,e3,e2,e1];simp);have x7:out.length<=1000000:=by omega
   have As:b9.length<=1000000:=by omega
   clear e1 e2 e3;go_wp2_with (fail);refine (HTX.o _).mono ?_;rintro e w1 ⟨rfl,bw⟩;have aaF:=(HX.o _).trans (bw.mono (HX.o _).size);have da:=I (IsBuilder.below HB.o ((xS.o _).trans (bw.mono (xS.o _).size)));clear z0 z1 z2 z3 z4 z5 z6 z7 z8 bw;go_wp2_with (fail);refine (HCK.o _).mono ?_;rintro e w2 ⟨rfl,m,rfl⟩;go_wp2_with (fail);refine (aag w.heap.size (C:Nat) _ (E.o.on (below_drewN aaF m)) (by omega) (by omega)).mono ?_;rintro e w3 ⟨rfl,dB⟩;have abv:=(below_drewN aaF m).trans (dB.mono aaF.size);have dI:=I (IsBuilder.below (IsBuilder.below da.o (below_drewN (Below.refl _ _) m)) dB);clear dB aaF;go_wp2_with (fail);refine (abA w.heap.size w.heap.size out b9 _ dI.o x7 As abv.size).mono ?_;rintro e w4 ⟨rfl,h1,h2⟩;have kC:=I h1;have ab5:=abv.trans h2;clear h1 h2;go_wp2;go_roundw;case rel=>exact ⟨k+1,by omega,by go_num,by rw[tN.o],by rw[<-M2.o];exact kC.o,ab5⟩
   case measure=>simp[RowKit.intOf];omega
  have eA: ¬(k:Int)<(n:Int):=by omega
  have jQ:ds.take k=ds:=List.take_of_length_le (by omega);rw[jQ]at HB;clear aI jQ;go_wp2_with (fail);refine (Builder_String_any w.heap.size w.heap.size (jrn 7 ds) _ HB.o x.ok.size).mono ?_;rintro e w4 ⟨rfl,h2⟩;have ab5:=x.ok.trans h2;go_wp2;go_ret;exact ⟨rfl,ab5⟩
noncomputable def aar:Nat->Nat->List (List UInt8)->List dr×Nat
 |_,_,[]=>([],0)
 |last,k,l::ls=>
  open Classical in
  if (V9 (sK 32 l).2).isSome=true/\(sK 32 l).1=itoa (chk last (sK 32 l).2:Nat)/\k<40 then
   ((V9 (sK 32 l).2).getD V6::(aar (chk last (sK 32 l).2) (k+1) ls).1,l.length+1+(aar (chk last (sK 32 l).2) (k+1) ls).2)
  else ([],0)
theorem aaL {last k:Nat} {l:List UInt8} {ls:List (List UInt8)} (h1:(V9 (sK 32 l).2).isSome=true) (h2:(sK 32 l).1=itoa (chk last (sK 32 l).2:Nat)) (h3:k<40):
 aar last k (l::ls)=((V9 (sK 32 l).2).getD V6::(aar (chk last (sK 32 l).2) (k+1) ls).1,l.length+1+(aar (chk last (sK 32 l).2) (k+1) ls).2):=by
 rw[aar,if_pos ⟨h1,h2,h3⟩]
theorem aas {last k:Nat} {l:List UInt8} {ls:List (List UInt8)} (h: ¬((V9 (sK 32 l).2).isSome=true/\(sK 32 l).1=itoa (chk last (sK 32 l).2:Nat)/\k<40)):aar last k (l::ls)=([],0):=by
 rw[aar,if_neg h]
theorem aj1 {last k:Nat} {ls:List (List UInt8)} (h:40<=k):aar last k ls=([],0):=by
 cases ls with
 |nil=>rfl
 |cons l ls=>exact aas (λ⟨_,_,h3⟩=>by omega)
theorem abp: ∀(ls:List (List UInt8)) (last k:Nat),∀d∈(aar last k ls).1,cA d=true
 |[],_,_,d,h=>by cases h
 |l::ls,last,k,d,h=>by
  by_cases hc:(V9 (sK 32 l).2).isSome=true/\(sK 32 l).1=itoa (chk last (sK 32 l).2:Nat)/\k<40
  ·rw[aaL hc.1 hc.2.1 hc.2.2]at h;rcases List.mem_cons.1 h with rfl|h
   ·cases hd:V9 (sK 32 l).2 with
    |none=>rw[hd]at hc;cases hc.1
    |some x=>exact (aee hd).1
   exact abp ls _ _ d h
  rw[aas hc]at h;cases h
theorem abe: ∀(ls:List (List UInt8)) (last k:Nat),(aar last k ls).1.length+k<=max 40 k
 |[],_,_=>by simp[aar];omega
 |l::ls,last,k=>by
  by_cases hc:(V9 (sK 32 l).2).isSome=true/\(sK 32 l).1=itoa (chk last (sK 32 l).2:Nat)/\k<40
  ·have:=abe ls (chk last (sK 32 l).2) (k+1);rw[aaL hc.1 hc.2.1 hc.2.2,List.length_cons];have:=hc.2.2;omega
  rw[aas hc];simp;omega
noncomputable def aaZ (t:List UInt8):List dr×Nat:=aar 7 0 (sL 10 t).dropLast
theorem Row.amE {W W':World} {g:Nat} {L:List Value} (h:Row W g L) (e:W'.heap[g]?=W.heap[g]?):Row W' g L:=
 ⟨λj u hj=>(World.cell?_of_block (a:=⟨g,j,none⟩) e).trans (h.cell j u hj),λj hj=>(World.frozen?_of_block (a:=⟨g,j,none⟩) e).trans (h.free j hj)⟩
structure Bb where
 d:dr
 A1:Option Addr
 c1:Nat
 A2:Option Addr
 c2:Nat
def Bb.cells (q:Bb):List Value:=W2 q.d q.A1 q.c1 q.A2 q.c2
def Bb.blocks (q:Bb) (g:Nat):Prop:=(q.d.af≠[]/\ ∃o,q.A1=some ⟨g,o,none⟩)\/(q.d.patch≠[]/\ ∃o,q.A2=some ⟨g,o,none⟩)
structure Inn (base:Nat) (w:World) (q:Bb):Prop where
 o1:ay ak q.d.af base w (.slice q.A1 q.d.af.length q.c1)
 o2:ay ah q.d.patch base w (.slice q.A2 q.d.patch.length q.c2)
 one:q.d.af=[]\/q.d.patch=[]
 t4:q.d.af.length<=4
 p16:q.d.patch.length<=16
 nn:bS q.d.patch
 ti:q.d.al.size<=maxLen
theorem Inn.below {base:Nat} {w w':World} {q:Bb} (h:Inn base w q) (hb:Below w.heap.size w w'):Inn base w' q:=⟨h.o1.on hb,h.o2.on hb,h.one,h.t4,h.p16,h.nn,h.ti⟩
theorem ay.grown {α:Type} {f:α->List Value} {xs:List α} {base:Nat} {w w':World} {v:Value} {r:Option Nat} (h:ay f xs base w v) (hg:w.grownBy w' r) (hr:xs≠[]-> ∀g,v.ownBlock=some g->r≠some g):ay f xs base w' v:=by
 obtain ⟨A,c,rfl,h1,h2,h3⟩:=h;refine ⟨A,c,rfl,h1,h2,λh0=>?_⟩;obtain ⟨g,rfl,qp,aI,hR⟩:=h3 h0;exact ⟨g,rfl,qp,Nat.lt_of_lt_of_le aI hg.size,hR.amE (hg.block g aI (λe=>hr h0 g rfl e.symm))⟩
theorem Inn.grown {base:Nat} {w w':World} {q:Bb} {r:Option Nat} (h:Inn base w q) (hg:w.grownBy w' r) (hr: ∀g,q.blocks g->r≠some g):Inn base w' q:=by
 refine ⟨h.o1.grown hg (λh0 g hb=>hr g (.inl ⟨h0,?_⟩)),h.o2.grown hg (λh0 g hb=>hr g (.inr ⟨h0,?_⟩)),h.one,h.t4,h.p16,h.nn,h.ti⟩
 ·obtain ⟨A,c,hv,_,_,h3⟩:=h.o1;injection hv with e1 e2 e3
  obtain ⟨g',hA,_⟩:=h3 h0;rw[e1,hA]at hb⊢;injection hb with hb
  have:g'=g:=hb;rw[this];exact ⟨0,rfl⟩
 obtain ⟨A,c,hv,_,_,h3⟩:=h.o2;injection hv with e1 e2 e3
 obtain ⟨g',hA,_⟩:=h3 h0;rw[e1,hA]at hb⊢;injection hb with hb
 have:g'=g:=hb;rw[this];exact ⟨0,rfl⟩
theorem Inn.lt {base:Nat} {w:World} {q:Bb} (h:Inn base w q) {g:Nat} (hb:q.blocks g):base<=g/\g<w.heap.size:=by
 rcases hb with ⟨h0,o,hA⟩|⟨h0,o,hA⟩
 ·obtain ⟨A,c,hv,_,_,h3⟩:=h.o1;injection hv with e1 e2 e3
  obtain ⟨g',Tw,h5,h6,_⟩:=h3 h0;rw[e1,Tw]at hA;injection hA with hA
  injection hA with e4 _
  omega
 obtain ⟨A,c,hv,_,_,h3⟩:=h.o2;injection hv with e1 e2 e3
 obtain ⟨g',Tw,h5,h6,_⟩:=h3 h0;rw[e1,Tw]at hA;injection hA with hA
 injection hA with e4 _
 omega
structure aal (base:Nat) (w:World) (v:Value) (qs:List Bb):Prop where
 row:w.ownsRow base 38 9 v qs.length (qs.flatMap Bb.cells)
 fa: ∀q∈qs,Inn base w q
 o: ∀q∈qs,∀g,q.blocks g->v.ownBlock≠some g
 prs:qs.Pairwise λp q=> ∀g h,p.blocks g->q.blocks h->g<h
theorem aal.below {base:Nat} {w w':World} {v:Value} {qs:List Bb} (h:aal base w v qs) (hb:Below w.heap.size w w'):aal base w' v qs:=
 ⟨aT h.row hb,λq hq=>(h.fa q hq).below hb,h.o,h.prs⟩
theorem aal.push {base:Nat} {w0 w w':World} {v v':Value} {qs:List Bb} {q:Bb} (h:aal base w v qs) (xu:base<=w0.heap.size) (hq:Inn w0.heap.size w q) (am0: ∀p∈qs,∀g,p.blocks g->g<w0.heap.size) (TN: ∀g,v.ownBlock=some g->g<w0.heap.size)
 (bi:w'.ownsRow base 38 9 v' (qs.length+1) (qs.flatMap Bb.cells++q.cells)) (hg:w.grownBy w' v.ownBlock) (iH:v'.ownBlock=v.ownBlock\/v'.ownBlock=some w.heap.size):aal base w' v' (qs++[q]):=by
 have hqv: ∀g,q.blocks g->v.ownBlock≠some g:=λg hbq e=>by have:=TN g e;have:=(hq.lt hbq).1;omega
 refine ⟨by rw[List.length_append,cq];exact bi,λp hp=>?_,λp hp g hbp=>?_,?_⟩
 ·rcases List.mem_append.1 hp with hp|hp
  ·exact (h.fa p hp).grown hg (λg hbp=>h.o p hp g hbp)
  rw[List.mem_singleton]at hp;subst hp;have:=hq.grown hg hqv;exact ⟨this.o1.less xu,this.o2.less xu,this.one,this.t4,this.p16,this.nn,this.ti⟩
 ·rcases iH with e|e
  ·rw[e];rcases List.mem_append.1 hp with hp|hp
   ·exact h.o p hp g hbp
   rw[List.mem_singleton]at hp;subst hp;exact hqv g hbp
  rw[e];intro e2;injection e2 with e2
  rcases List.mem_append.1 hp with hp|hp
  ·have:=((h.fa p hp).lt hbp).2;omega
  rw[List.mem_singleton]at hp;subst hp;have:=(hq.lt hbp).2;omega
 rw[List.pairwise_append];refine ⟨h.prs,List.pairwise_singleton _ _,λp hp x hx g k hbp LP=>?_⟩;rw[List.mem_singleton]at hx;subst hx;have:=am0 p hp g hbp;have:=(hq.lt LP).1;omega
theorem amN {t:List UInt8} {fr k:Nat} (hf:fr<=k) (hk:k<t.length) (hc:t[k]=10) (rf:(10:UInt8)∉(t.take k).drop fr):(sL 10 (t.drop fr)).dropLast=(t.take k).drop fr::(sL 10 (t.drop (k+1))).dropLast:=by
 have e:t.drop fr=(t.take k).drop fr++10::t.drop (k+1):=by
  have h1:t=t.take k++(t[k]::t.drop (k+1)):=by rw[<-List.drop_eq_getElem_cons hk,List.take_append_drop]
  conv=>lhs;rw[h1]
  rw[List.drop_append_of_le_length (by rw[List.length_take];omega),hc]
 rw[e,r8 _ rf];cases hs:sL 10 (t.drop (k+1))with
 |nil=>exact absurd hs (adU _ _)
 |cons a r=>rfl
theorem am1 {t:List UInt8} {fr:Nat} (rf:(10:UInt8)∉t.drop fr):(sL 10 (t.drop fr)).dropLast=[]:=by
 rw[p8 rf];rfl
def am2 (Bc:List dr×Nat) (w:World) (e:Ending) (w':World):Prop:=
 ∃v qs,e= .returned (.tuple #[v,.int .i64 (Bc.2:Int)])/\qs.map Bb.d=Bc.1/\aal w.heap.size w' v qs/\Below w.heap.size w w'
def abq (t:List UInt8):World->Ending->World->Prop:=am2 (aaZ t)
theorem ab6:(prog.info? 38).map (λi=>(i.zero,i.size,i.bytes))=some (some (.agg #[.int .i64 0,.int .i64 0,.slice none 0 0,.string ⟨#[]⟩,.int .i64 0,.slice none 0 0,.int .i64 0,.int .i64 0,.int .i64 0]),9,112):=by kernel_rfl
theorem abL {q:Bb} {u:Value} (h:u∈q.cells):u.oneCell'=true:=by
 simp only[Bb.cells,W2,List.mem_cons,List.not_mem_nil,or_false]at h;rcases h with rfl|rfl|rfl|rfl|rfl|rfl|rfl|rfl|rfl<;>rfl
theorem abl {l:List UInt8}:((V9 l).getD V6).al.size<=maxLen:=by
 cases h:V9 l with
 |none=>exact Nat.zero_le _
 |some d=>
  have ho:=(aee h).1;show d.al.size<=maxLen
  have hz:d.al=⟨#[]⟩->d.al.size<=maxLen:=λe=>by rw[e];exact Nat.zero_le _
  have hn:dU d.al.toList=true->d.al.size<=maxLen:=λh=>by
   unfold dU at h;simp only[Bool.and_eq_true,decide_eq_true_eq]at h;have e1:d.al.size=d.al.toList.length:=by simp[ByteArray.toList_eq]
   unfold maxLen;omega
  rcases aap ho with ⟨_,_,_,_,_,ht,_⟩|⟨_,_,_,ht,_⟩|⟨_,_,_,ht,_⟩|⟨_,_,_,ht,_⟩
  ·exact hz ht
  ·exact hn ht
  ·exact hn ht
  exact hz ht
theorem ab7 {l:List UInt8} {base:Nat} {w:World} {A1:Option Addr} {c1:Nat} {A2:Option Addr} {c2:Nat} (h1:ay ak ((V9 l).getD V6).af base w (.slice A1 ((V9 l).getD V6).af.length c1)) (h2:ay ah ((V9 l).getD V6).patch base w (.slice A2 ((V9 l).getD V6).patch.length c2)):Inn base w ⟨(V9 l).getD V6,A1,c1,A2,c2⟩:=by
 have hf:(((V9 l).getD V6).af=[]\/((V9 l).getD V6).patch=[])/\((V9 l).getD V6).af.length<=4/\((V9 l).getD V6).patch.length<=16/\bS ((V9 l).getD V6).patch:=by
  cases h:V9 l with
  |none=>exact ⟨.inl rfl,Nat.zero_le _,Nat.zero_le _,λe he=>by cases he⟩
  |some d=>
   have ho:=(aee h).1;show (d.af=[]\/d.patch=[])/\d.af.length<=4/\d.patch.length<=16/\bS d.patch
   rcases aap ho with ⟨_,_,_,_,hl,_,_,hp,_⟩|⟨_,_,_,_,_,_,ht,hp,_⟩|⟨_,_,_,_,hp,_,_,_,_,_,ht,_⟩|⟨_,_,ht,_,_,hp,_⟩
   ·exact ⟨.inr hp,hl,by rw[hp];exact Nat.zero_le _,by rw[hp];exact λe he=>by cases he⟩
   ·exact ⟨.inl ht,by rw[ht];exact Nat.zero_le _,by rw[hp];exact Nat.zero_le _,by rw[hp];exact λe he=>by cases he⟩
   ·exact ⟨.inl ht,by rw[ht];exact Nat.zero_le _,eZ hp,λe he=>by
     obtain ⟨k,hk⟩:=List.getElem?_of_mem he;have:=yX (acb hp hk);have e1:e.dA.size=e.dA.toList.length:=by simp[ByteArray.toList_eq]
     have e2:e.new.size=e.new.toList.length:=by simp[ByteArray.toList_eq]
     unfold mY maxLen;omega⟩
   exact ⟨.inl ht,by rw[ht];exact Nat.zero_le _,by rw[hp];exact Nat.zero_le _,by rw[hp];exact λe he=>by cases he⟩
 exact ⟨h1,h2,hf.1,hf.2.1,hf.2.2.1,hf.2.2.2,abl⟩
theorem abX (s:ByteArray) (w:World) (hs:s.size<=65536) (hE:aaG w.heap.size w):Calls prog 37 #[.string s] w (abq s.data.toList w):=by
 have E:=I hE;clear hE;have ja:s.data.toList.length=s.size:=by simp
 have bW:Below w.heap.size w (w.alloc (.cells #[] 38)):=(Below.refl _ _).alloc (Nat.le_refl _) _;have Ot:(w.alloc (.cells #[] 38)).heap.size=w.heap.size+1:=by simp
 have abg:=I (aaH s (w.alloc (.cells #[] 38)) hs ((E.o.on bW).more bW.size))
 have HLQ:ag (∀l∈(sL 10 s.data.toList).dropLast,l.length<=65536):=I (λl hl=>by
  have:=adz 10 s.data.toList l (List.dropLast_subset _ hl);omega)
 have aff:(sL 10 s.data.toList).dropLast.length<=65536:=by have:=adA 10 s.data.toList;rw[List.length_dropLast];omega
 have FT:ag (aaZ s.data.toList=aar 7 0 (sL 10 s.data.toList).dropLast):=I rfl;obtain ⟨i0,hi,dK,ez,ek⟩:=info_parts ab6;unfold abq;unfold aaK at abg;generalize aaZ s.data.toList=Bc at*;generalize (sL 10 s.data.toList).dropLast=ls at*;go_enter func37,ntmps37;go_wp2_with (fail);refine (abg.o).mono ?_;rintro e w1 ⟨c,cs,rfl,ta,og,ur,hc,bw⟩;have da:ag (Below w.heap.size w w1):=I (bW.trans (bw.mono bW.size));have cN:w1.ownsRow w.heap.size 38 9 (.slice (some ⟨w.heap.size,0,none⟩) 0 0) 0 []:=aT (by simpa using World.ownsRow_made w #[] 0 (Nat.le_refl _) (Nat.zero_le _) rfl) bw;rw[Ot]at ta;have abD:=I ta;have KR:=I og;have dY:=I cN;clear ta og bw cN abg;go_wp2;go_loopw [4,5,6,19] (λo Bm f i wr=> ∃(j lst nn:Nat) (qs:List Bb),j<=ls.length/\qs.length=j/\j<=40/\lst<9973/\nn<=j*65537/\i= .int .i64 (j:Int)/\f= .int .i64 (nn:Int)/\Bm= .int .i64 (lst:Int)/\aal w.heap.size wr o qs/\o≠ .slice none 0 0/\Bc=(qs.map Bb.d++(aar lst j (ls.drop j)).1,nn+(aar lst j (ls.drop j)).2)/\wr.heap[w.heap.size+1]?=some (.cells cs 9 (0,0))/\Below w.heap.size w wr) (λ_ _ _ i _=>ls.length-(RowKit.intOf i).toNat)
 case atStart=>
  refine ⟨0,7,0,[],Nat.zero_le _,rfl,by omega,by omega,by omega,rfl,rfl,rfl,⟨dY.o,λq hq=>(by cases hq),λq hq=>(by cases hq),List.Pairwise.nil⟩,by simp,?_,abD.o,da.o⟩;rw[FT.o];simp
 case round=>
  obtain ⟨j,lst,nn,qs,hj,mw,anh,hl9,ani,rfl,rfl,rfl,hds,nm,hrt,ta,hb⟩:=hrel;obtain ⟨g,cap,rfl,SD,nj⟩:=bG hds.row nm;rw[mw]at SD;unfold maxLen at nj;have HDS:=I hds;have abM:=I hrt;have HB:=I hb;have Rj:=I ta;have MX:=I mw;have uw:nn<=3000000:=by omega
  clear hds hrt hb nm;by_cases aI:j<ls.length
  ·have x0:=afs ta (KR.o j _ (List.getElem?_eq_getElem aI));have Rt:=HLQ.o ls[j] (List.getElem_mem aI);have CK:ag (ls.drop j=ls[j]::ls.drop (j+1)):=I (List.drop_eq_getElem_cons aI);obtain ⟨Bt,cb⟩:=acm 32 ls[j];have uB:=I (λ(h1:(V9 (sK 32 ls[j]).2).isSome=true) h2 (h3:j<40)=>aaL (ls:=ls.drop (j+1)) (last:=lst) (k:=j) h1 h2 h3);have lE:=I (λ(h: ¬((V9 (sK 32 ls[j]).2).isSome=true/\(sK 32 ls[j]).1=itoa (chk lst (sK 32 ls[j]).2:Nat)/\j<40))=>aas (ls:=ls.drop (j+1)) h);rw[<-CK.o]at uB lE;have abN:ag (∀W,Below w.heap.size w W->Calls prog 56 #[.string ⟨ls[j].toArray⟩,.string ⟨#[32]⟩] W λe Nn=> ∃ok,e= .returned (.tuple #[.string ⟨(sK 32 ls[j]).1.toArray⟩,.string ⟨(sK 32 ls[j]).2.toArray⟩,.bool ok])/\ ∃k,Nn=W.drewN k):=I (λW eD=>E.o.cut W eD ⟨ls[j].toArray⟩ 32 (by rw[ag'];omega));generalize sK 32 ls[j]=ab at*;generalize ls[j]=line at*;obtain ⟨na,B3⟩:=ab;simp only at Bt cb abN uB lE;have HRD:ag (∀W,Below w.heap.size w W->Calls prog 8 #[.string ⟨B3.toArray⟩] W (aaz B3 W)):=I (λW eD=>ab4 ⟨B3.toArray⟩ W (by rw[ag'];omega) ((E.o.on eD).more eD.size));have Pe:=I (λ(base:Nat) (W:World) A1 c1 A2 c2 h1 h2=>ab7 (l:=B3) (base:=base) (w:=W) (A1:=A1) (c1:=c1) (A2:=A2) (c2:=c2) h1 h2);have HCK:ag (∀W,Calls prog 60 #[.int .i64 (lst:Int),.string ⟨B3.toArray⟩] W (f' (.int .i64 ((chk lst B3:Nat):Int)) W)):=I (λW=>aaR lst ⟨B3.toArray⟩ W hl9 (by rw[ag'];omega));have am3:=aa5 lst B3;unfold aaz aaD at HRD;generalize (V9 B3).getD V6=D at*;generalize chk lst B3=nx at*;obtain ⟨B4,hnb⟩: ∃B4:ByteArray,B4=⟨na.toArray⟩:=⟨_,rfl⟩
   have Ij:B4.toList=na:=by rw[hnb,ByteArray.toList_eq]
   have J2:=I Ij;rw[<-hnb]at abN;obtain ⟨lb,hlb⟩: ∃lb:ByteArray,lb=⟨line.toArray⟩:=⟨_,rfl⟩
   have amF:lb.size=line.length:=by rw[hlb,ag']
   have am4:=I amF;have anj:lb.size<=65536:=by omega
   rw[<-hlb]at abN x0;clear hnb Ij hlb amF ta mw;cases hsm:(V9 B3).isSome with
   |false=>
    rw[hsm]at HRD
    have Xw:ag (Bc=(qs.map Bb.d,nn)):=I (by
     have h:=abM.o;rw[lE.o (λh=>by rw[hsm]at h;cases h.1)]at h;rw[h];simp)
    clear hsm;go_wp2_with (fail);refine (abN.o _ HB.o).mono ?_;rintro e V1 ⟨ok1,rfl,m1,CQ⟩;have bw:Below wr.heap.size wr V1:=by rw[CQ];exact below_drewN (Below.refl _ _) m1
    have aaF:=HB.o.trans (bw.mono HB.o.size);clear CQ;go_wp2_with (fail);refine (HRD.o V1 aaF).mono ?_;rintro e V2 ⟨A1,c1,A2,c2,rfl,o1,o2,cL⟩;have dI:ag (∀o,Below wr.heap.size wr (V2.alloc o)):=I (λo=>(bw.trans (cL.mono bw.size)).alloc (bw.trans (cL.mono bw.size)).size o);clear bw cL o1 o2 aaF;go_wp2_with (fail);refine (HCK.o _).mono ?_;rintro e V4 ⟨rfl,m4,Ap⟩;have kC:ag (Below wr.heap.size wr V4):=I (by rw[Ap];exact below_drewN (dI.o _) m4);clear Ap dI;go_wp2;go_ret2;exact ⟨.slice (some ⟨g,0,none⟩) qs.length cap,qs,by rw[Xw.o];rfl,by rw[Xw.o],HDS.o.below kC.o,HB.o.trans (kC.o.mono HB.o.size)⟩
   |true=>
    rw[hsm]at HRD;have MM:=I hsm;clear hsm;go_wp2_with (fail);refine (abN.o _ HB.o).mono ?_;rintro e V1 ⟨ok1,rfl,m1,CQ⟩;have bw:Below wr.heap.size wr V1:=by rw[CQ];exact below_drewN (Below.refl _ _) m1
    have abm:=I bw;have aaF:=HB.o.trans (bw.mono HB.o.size);clear CQ bw;go_wp2_with (fail);refine (HRD.o V1 aaF).mono ?_;rintro e V2 ⟨A1,c1,A2,c2,rfl,o1,o2,cL⟩;obtain ⟨V3,ql⟩: ∃V:World,V=V2.alloc (.cells #[.int .i64 D.kind,.int .i64 D.member,.slice A1 D.af.length c1,.string D.al,.int .i64 D.bO,.slice A2 D.patch.length c2,.int .i64 D.start,.int .i64 D.aB,.int .i64 D.aj] 38):=⟨_,rfl⟩
    have tJ:Below V2.heap.size V2 V3:=by rw[ql];exact (Below.refl _ _).alloc (Nat.le_refl _) _
    have Fa:V2.heap.size<V3.heap.size:=by rw[ql];simp
    have RV3:Row V3 V2.heap.size (W2 D A1 c1 A2 c2):=by rw[ql];exact Row.new _ _ _
    have jW:=I (Pe.o V1.heap.size V2 A1 c1 A2 c2 o1 o2);have Cd:ag (Below V1.heap.size V1 V2):=I cL;have ab8:=I tJ;have fU:=I RV3;have RE:=I ql;clear o1 o2 cL tJ RV3 ql aaF;go_wp2_with (fail);rw[<-RE.o];refine (HCK.o V3).mono ?_;rintro e V4 ⟨rfl,m4,Ap⟩;have ad2:ag (Below V3.heap.size V3 V4):=I (by rw[Ap];exact below_drewN (Below.refl _ _) m4);have amG:ag (Below wr.heap.size wr V3):=I (abm.o.trans ((Cd.o.trans (ab8.o.mono Cd.o.size)).mono abm.o.size));have am5:ag (Below w.heap.size w V4):=I (HB.o.trans ((amG.o.trans (ad2.o.mono amG.o.size)).mono HB.o.size));clear Ap;go_wp2_with (fail);refine (aag w.heap.size (nx:Int) V4 (E.o.env.on am5.o) (by omega) (by omega)).mono ?_;rintro e ub ⟨rfl,zd⟩;have amH:ag (Below V3.heap.size V3 ub):=I (ad2.o.trans (zd.mono ad2.o.size));have amI:ag (Below V2.heap.size V2 ub):=I (ab8.o.trans (amH.o.mono ab8.o.size));have am6:ag (Below V1.heap.size V1 ub):=I (Cd.o.trans (amI.o.mono Cd.o.size));have abf:ag (Below wr.heap.size wr ub):=I (abm.o.trans (am6.o.mono abm.o.size));clear zd;by_cases heq:na=itoa (nx:Int)
    ·have CB:(B4.toList==itoa (nx:Int))=true:=by rw[J2.o,heq];simp
     by_cases h40:j<40
     ·have Rn:((qs.length:Int)==40)=false:=by have:=MX.o;simp;omega
      have Xw:ag (Bc=((qs++[(⟨D,A1,c1,A2,c2⟩:Bb)]).map Bb.d++(aar nx (j+1) (ls.drop (j+1))).1,(nn+lb.size+1)+(aar nx (j+1) (ls.drop (j+1))).2)):=I (by
       have h:=abM.o;rw[uB.o MM.o heq h40]at h;rw[h,am4.o];simp;omega)
      have R6:=fU.o.below amH.o Fa;have y0:ub.cell? ⟨V2.heap.size,0,none⟩=some (.int .i64 D.kind):=R6.cell 0 _ rfl;have y1:ub.cell? ⟨V2.heap.size,1,none⟩=some (.int .i64 D.member):=R6.cell 1 _ rfl;have y2:ub.cell? ⟨V2.heap.size,2,none⟩=some (.slice A1 D.af.length c1):=R6.cell 2 _ rfl;have y3:ub.cell? ⟨V2.heap.size,3,none⟩=some (.string D.al):=R6.cell 3 _ rfl;have y4:ub.cell? ⟨V2.heap.size,4,none⟩=some (.int .i64 D.bO):=R6.cell 4 _ rfl;have y5:ub.cell? ⟨V2.heap.size,5,none⟩=some (.slice A2 D.patch.length c2):=R6.cell 5 _ rfl;have y6:ub.cell? ⟨V2.heap.size,6,none⟩=some (.int .i64 D.start):=R6.cell 6 _ rfl;have y7:ub.cell? ⟨V2.heap.size,7,none⟩=some (.int .i64 D.aB):=R6.cell 7 _ rfl;have y8:ub.cell? ⟨V2.heap.size,8,none⟩=some (.int .i64 D.aj):=R6.cell 8 _ rfl;have amJ:=I (HDS.o.below abf.o);have cr:=amJ.o.row;have ajY:w.heap.size<=ub.heap.size:=Nat.le_trans HB.o.size abf.o.size;have bx:=I (ae5 abf.o Rj.o);have hqj:qs.length<=40:=by have:=MX.o;omega
      clear R6 heq;go_wp2_with (at_builtin;refine wpList_append_own_at _ rfl _ _ 30 rfl w.heap.size 38 i0 (.agg #[.int .i64 0,.int .i64 0,.slice none 0 0,.string ⟨#[]⟩,.int .i64 0,.slice none 0 0,.int .i64 0,.int .i64 0,.int .i64 0]) 9 112 underlying30 hi dK ez ek rfl (by decide) _ _ _ rfl (cr.alloc _) ⟨ub.heap.size,0,none⟩ 1 1 (Bb.cells ⟨D,A1,c1,A2,c2⟩) rfl rfl (λj u hj=>fS hj) (λu hu=>abL hu) ?c3 ?c4 (aS ajY) ?_);case c3=>unfold maxLen;omega
      case c4=>omega
      intro v' w6 aG aA aU iH;have mF:v'≠ .slice none 0 0:=by simpa using aU
      have En:=((HB.o.trans (abf.o.mono HB.o.size)).alloc ajY _).grown aA (aS ajY) (λj hj=>(cr.lt j hj).1);have Eo:=afr aA bx.o (aho cr bx.o (by decide));have hal: ∀o,Below ub.heap.size ub (ub.alloc o):=λo=>(Below.refl _ _).alloc (Nat.le_refl _) o;have ab1:aal w.heap.size w6 v' (qs++[⟨D,A1,c1,A2,c2⟩]):=aal.push (w0:=V1) (amJ.o.below (hal _)) (Nat.le_trans HB.o.size abm.o.size) ((jW.o.below amI.o).below (hal _)) (λp hp gg hbp=>(((HDS.o.below abm.o).fa p hp).lt hbp).2) (λgg jP=>(((HDS.o.below abm.o).row).lt gg jP).2) aG aA (by rcases iH with e|e;exact .inl e;exact .inr (by rw[e];simp));have HP:=I ab1;have F9:=I En;have c9:=I Eo;clear cr aG aA aU iH ab1 hal En Eo y0 y1 y2 y3 y4 y5 y6 y7 y8;go_wp2_with (fail);refine (HCK.o w6).mono ?_;rintro e B6 ⟨rfl,m7,VE⟩;have ajZ:ag (Below w6.heap.size w6 B6):=I (by rw[VE];exact below_drewN (Below.refl _ _) m7);clear VE;go_wp2;go_roundw;case rel=>exact ⟨j+1,nx,nn+lb.size+1,qs++[⟨D,A1,c1,A2,c2⟩],by omega,by rw[List.length_append,MX.o];rfl,by omega,am3,by omega,by go_num,by go_num,rfl,HP.o.below ajZ.o,mF,Xw.o,ae5 ajZ.o c9.o,F9.o.trans (ajZ.o.mono F9.o.size)⟩
      case measure=>simp[RowKit.intOf];omega
     have Rn:((qs.length:Int)==40)=true:=by have:=MX.o;simp;omega
     have Xw:ag (Bc=(qs.map Bb.d,nn)):=I (by
      have h:=abM.o;rw[lE.o (λh=>h40 h.2.2)]at h;rw[h];simp)
     clear heq;go_wp2;go_ret2;exact ⟨.slice (some ⟨g,0,none⟩) qs.length cap,qs,by rw[Xw.o];rfl,by rw[Xw.o],HDS.o.below abf.o,HB.o.trans (abf.o.mono HB.o.size)⟩
    have CB:(B4.toList==itoa (nx:Int))=false:=by rw[J2.o];simpa using heq
    have Xw:ag (Bc=(qs.map Bb.d,nn)):=I (by
     have h:=abM.o;rw[lE.o (λh=>heq h.2.1)]at h;rw[h];simp)
    clear heq;go_wp2;go_ret2;exact ⟨.slice (some ⟨g,0,none⟩) qs.length cap,qs,by rw[Xw.o];rfl,by rw[Xw.o],HDS.o.below abf.o,HB.o.trans (abf.o.mono HB.o.size)⟩
  have eA: ¬(j:Int)<(ls.length:Int):=by omega
  have Xw:ag (Bc=(qs.map Bb.d,nn)):=I (by
   have h:=abM.o;rw[List.drop_eq_nil_of_le (by omega)]at h;rw[h];simp[aar])
  clear ta mw;go_wp2;go_ret2;exact ⟨.slice (some ⟨g,0,none⟩) qs.length cap,qs,by rw[Xw.o];rfl,by rw[Xw.o],HDS.o,HB.o⟩
theorem aaU (c:UInt8): ∀l:List UInt8,((sL c l).map λp=>p.length+1).sum=l.length+1
 |[]=>rfl
 |x::l=>by
  have ih:=aaU c l;unfold sL
  split
  ·rw[List.map_cons,List.sum_cons,ih,List.length_cons,List.length_nil];omega
  split
  ·rename_i a r h;rw[h,List.map_cons,List.sum_cons]at ih;rw[List.map_cons,List.sum_cons,List.length_cons,List.length_cons];omega
  rename_i h;exact absurd h (adU c l)
theorem aa6 (L:List (List UInt8)):((L.dropLast).map λp=>p.length+1).sum+(if L=[]then 0 else 1)<=(L.map λp=>p.length+1).sum:=by
 rcases List.eq_nil_or_concat L with rfl|⟨xs,x,rfl⟩
 ·simp
 simp
theorem abr: ∀(ls:List (List UInt8)) (last k:Nat),(aar last k ls).2<=(ls.map λp=>p.length+1).sum
 |[],_,_=>by simp[aar]
 |l::ls,last,k=>by
  by_cases hc:(V9 (sK 32 l).2).isSome=true/\(sK 32 l).1=itoa (chk last (sK 32 l).2:Nat)/\k<40
  ·have:=abr ls (chk last (sK 32 l).2) (k+1);rw[aaL hc.1 hc.2.1 hc.2.2,List.map_cons,List.sum_cons];show l.length+1+_<=_
   omega
  rw[aas hc];exact Nat.zero_le _
theorem amO (t:List UInt8):(aaZ t).2<=t.length:=by
 have h1:=abr (sL 10 t).dropLast 7 0;have h2:=aa6 (sL 10 t);rw[aaU,if_neg (adU 10 t)]at h2;unfold aaZ;omega
theorem abY (t:List UInt8): ∀d∈(aaZ t).1,cA d=true:=abp _ _ _
theorem abO (t:List UInt8):(aaZ t).1.length<=40:=by
 have:=abe (sL 10 t).dropLast 7 0;unfold aaZ;omega
theorem aal.ana {base:Nat} {w:World} {v:Value} {qs:List Bb} (h:aal base w v qs):aa3 w w.heap.size v (qs.map Bb.d):=by
 obtain ⟨A,c,hv,h1,h2,h3⟩:=cz.bI Bb.cells (size:=9) (λ_=>rfl) h.row;refine ⟨A,c,by rw[hv,List.length_map],by rw[List.length_map];exact h1,h2,λh0=>?_⟩;rw[List.length_map]at h0;obtain ⟨b,off,hA,hb,hc⟩:=h3 h0;refine ⟨b,off,hA,hb,λk x hx=>?_⟩;rw[List.getElem?_map]at hx;cases hq:qs[k]? with
 |none=>rw[hq]at hx;cases hx
 |some q=>
  rw[hq]at hx;injection hx with hx
  subst hx;obtain ⟨us,hl,U1,aC⟩:=hc k q hq;have am7:us=Bb.cells q:=U1;have hi:=h.fa q (List.mem_of_getElem? hq);exact ⟨us,hl,⟨q.A1,q.c1,q.A2,q.c2,am7,hi.o1.mo (size:=1) λ_=>rfl,hi.o2.mo (size:=4) λ_=>rfl,hi.nn,hi.ti⟩,aC⟩
theorem aal.nil (base:Nat) (w:World):aal base w (.slice none 0 0) []:=⟨⟨rfl,.inl ⟨rfl,rfl⟩⟩,λq hq=>(by cases hq),λq hq=>(by cases hq),List.Pairwise.nil⟩
theorem aal.len {base:Nat} {w:World} {v:Value} {qs:List Bb} (h:aal base w v qs): ∃A c,v= .slice A qs.length c/\qs.length<=c/\c<=maxLen:=rr h.row
noncomputable def abt (t:List UInt8):Option (List dr):=if t.length<=40000/\(aaZ t).2=t.length then some (aaZ t).1 else none
def C5 (o:Option (List dr)) (w:World) (e:Ending) (w':World):Prop:=
 ∃v qs,e= .returned (.tuple #[v,.bool o.isSome])/\qs.map Bb.d=o.getD []/\aal w.heap.size w' v qs/\Below w.heap.size w w'
theorem amK (t:List UInt8):(∀d∈(abt t).getD [],cA d=true)/\((abt t).getD []).length<=40:=by
 unfold abt
 split
 ·exact ⟨abY t,abO t⟩
 exact ⟨λd hd=>(by cases hd),Nat.zero_le _⟩
noncomputable def anb (t:List UInt8):Option (List UInt8):=match abt t with|some ds=>if ds=[]then none else some (jrn 7 (ds.take (ds.length-1)))|none=>none
end Go.Proofs.YtbcggaldkihcaaaGreatDoor

/- Lists of deeds alike: the laws' own test, walked, where they are alike. -/
import Derived.Test.YtbcggaldkihcaaaGreatDoorQR
import Derived.Test.YtbcggaldkihcaaaGreatDoorQD
import Derived.Test.YtbcggaldkihcaaaGreatDoorQC
import Derived.Test.YtbcggaldkihcaaaGreatDoorRZ
import Derived.Test.YtbcggaldkihcaaaGreatDoorLawW
set_option maxHeartbeats 4000000
set_option maxRecDepth 100000
namespace Go.Proofs.YtbcggaldkihcaaaGreatDoor
open Tryz
open Go.RowKit Go.Lib
theorem aoM (L:List Int) (w:World) (v1 v2:Value) (h1:aae w w.heap.size v1 L) (h2:aae w w.heap.size v2 L):Calls prog 28 #[v1,v2] w (bT (.bool true) w):=
 (aeV L L w v1 v2 h1 h2).mono λe w' ⟨r,he,hr,hb⟩=>⟨by rw[he,hr.2 rfl],hb⟩
theorem aoL (L:List aV) (w:World) (v1 v2:Value) (h1:bg w w.heap.size v1 L) (h2:bg w w.heap.size v2 L):Calls prog 29 #[v1,v2] w (bT (.bool true) w):=
 (abQ L L w v1 v2 h1 h2).mono λe w' ⟨r,he,hr,hb⟩=>⟨by rw[he,hr.2 rfl],hb⟩
theorem aoD {w:World} {g c:Nat} {d:dr} {A1:Option Addr} {c1:Nat} {A2:Option Addr} {c2:Nat} (hr:Row w g (W2 d A1 c1 A2 c2)) (hg:g<w.heap.size) (h1:aae w w.heap.size (.slice A1 d.af.length c1) d.af) (h2:bg w w.heap.size (.slice A2 d.patch.length c2) d.patch) (hs:bS d.patch) (ht:d.al.size<=maxLen) (hc:1<=c) (hm:c<=maxLen):aa3 w w.heap.size (.slice (some ⟨g,0,none⟩) 1 c) [d]:=by
 refine ⟨some ⟨g,0,none⟩,c,rfl,hc,hm,λ_=>⟨g,0,rfl,hg,λk x hx=>?_⟩⟩;cases k with
 |succ k=>simp at hx
 |zero=>
  simp at hx;subst hx;exact ⟨W2 d A1 c1 A2 c2,rfl,⟨A1,c1,A2,c2,rfl,h1,h2,hs,ht⟩,λj u hj=>by simpa using hr.cell j u hj⟩
theorem aoE (ds:List dr) (A1:Option Addr) (n1 c1:Nat) (A2:Option Addr) (n2 c2:Nat) (w:World) (h1:aa3 w w.heap.size (.slice A1 n1 c1) ds) (h2:aa3 w w.heap.size (.slice A2 n2 c2) ds):
 Calls prog 9 #[.slice A1 n1 c1,.slice A2 n2 c2] w (bT (.bool true) w):=by
 obtain ⟨rfl,e1,g1⟩:=fB h1;obtain ⟨rfl,e2,g2⟩:=fB h2;have H1:ag (∀x:ar w,aa3 x.val x.val.heap.size (.slice A1 ds.length c1) ds):=I (λx=>cz.on h1 abd.stays x.ok x.ok.size);have H2:ag (∀x:ar w,aa3 x.val x.val.heap.size (.slice A2 ds.length c2) ds):=I (λx=>cz.on h2 abd.stays x.ok x.ok.size);have rn:ds.length<=9223372036854775807:=by unfold maxLen at*;omega
 clear h1 h2;refine aL λx0=>?_;go_enter func9,ntmps9;go_wp2;go_loopw [5] (λi wr=> ∃(k:Nat) (x:ar w),k<=ds.length/\i= .int .i64 (k:Int)/\wr=x.val) (λi _=>ds.length-(RowKit.intOf i).toNat);case atStart=>exact ⟨0,x0,Nat.zero_le _,rfl,rfl⟩
 case round=>
  obtain ⟨k,x,hk,rfl,rfl⟩:=hrel;by_cases aI:k<ds.length
  ·have aH:ds[k]?=some ds[k]:=List.getElem?_eq_getElem aI;generalize ds[k]=d at*;have NN:=I aH;clear aH;obtain ⟨b,off,b7,d1,aoB,q1,rfl,hb,hP⟩:=aa4 (H1.o x) NN.o;have z0:=hP.k0;have z1:=hP.k1;have z2:=hP.k2;have z3:=hP.k3;have z4:=hP.k4;have z5:=hP.k5;have z6:=hP.k6;have z7:=hP.k7;have z8:=hP.k8;have HP:=I hP;clear hP;go_upto_region 7 with (fail)
   clear z0 z1 z2 z3 z4 z5 z6 z7 z8;obtain ⟨w2,P7⟩: ∃X,X=x.val.alloc (.cells #[.int .i64 d.kind,.int .i64 d.member,.slice b7 d.af.length d1,.string d.al,.int .i64 d.bO,.slice aoB d.patch.length q1,.int .i64 d.start,.int .i64 d.aB,.int .i64 d.aj] 38):=⟨_,rfl⟩
   have r2:Row w2 x.val.heap.size (W2 d b7 d1 aoB q1):=by rw[P7];exact Row.new _ _ _
   have b2:Below x.val.heap.size x.val w2:=by rw[P7];exact (Below.refl _ _).alloc (Nat.le_refl _) _
   have s2:x.val.heap.size<w2.heap.size:=by rw[P7];simp
   rw[<-P7];clear P7;obtain ⟨y,hy⟩: ∃y:ar w,w2=y.val:=⟨⟨w2,x.ok.trans (b2.mono x.ok.size)⟩,rfl⟩
   obtain ⟨b',xw,b8,d2,aoK,q2,rfl,dF,hQ⟩:=aa4 (H2.o y) NN.o;rw[<-hy]at hQ;have z0:=hQ.k0;have z1:=hQ.k1;have z2:=hQ.k2;have z3:=hQ.k3;have z4:=hQ.k4;have z5:=hQ.k5;have z6:=hQ.k6;have z7:=hQ.k7;have z8:=hQ.k8;have HQ:=I hQ;have gj:=I r2;have dy:=I b2;clear hQ hy r2 b2;go_upto_region 8 with (fail)
   clear z0 z1 z2 z3 z4 z5 z6 z7 z8;obtain ⟨w3,LV⟩: ∃X,X=w2.alloc (.cells #[.int .i64 d.kind,.int .i64 d.member,.slice b8 d.af.length d2,.string d.al,.int .i64 d.bO,.slice aoK d.patch.length q2,.int .i64 d.start,.int .i64 d.aB,.int .i64 d.aj] 38):=⟨_,rfl⟩
   have r3:Row w3 w2.heap.size (W2 d b8 d2 aoK q2):=by rw[LV];exact Row.new _ _ _
   have b3:Below w2.heap.size w2 w3:=by rw[LV];exact (Below.refl _ _).alloc (Nat.le_refl _) _
   have s3:w2.heap.size<w3.heap.size:=by rw[LV];simp
   rw[<-LV];clear LV;have r2:=gj.o.below b3 s2;have HN:=I (aoM d.af w3 _ _ (HP.o.ints.on (Pl.stays _) (dy.o.trans (b3.mono dy.o.size)) (dy.o.trans (b3.mono dy.o.size)).size) (HQ.o.ints.on (Pl.stays _) b3 b3.size))
   have HE:ag (∀W,Below w3.heap.size w3 W->Calls prog 29 #[.slice aoB d.patch.length q1,.slice aoK d.patch.length q2] W (bT (.bool true) W)):=I (λW hW=>by
    have h13:=dy.o.trans (b3.mono dy.o.size);have bw:=h13.trans (hW.mono h13.size);have cL:=b3.trans (hW.mono b3.size);exact aoL d.patch W _ _ (HP.o.fF.on (Pl.stays _) bw bw.size) (HQ.o.fF.on (Pl.stays _) cL cL.size))
   have dI:=I (x.ok.trans ((dy.o.trans (b3.mono dy.o.size)).mono x.ok.size));have gj:=I r2;have fU:=I r3;have t0:=gj.o.cell 0 _ rfl;have t1:=gj.o.cell 1 _ rfl;have t2:=gj.o.cell 2 _ rfl;have t3:=gj.o.cell 3 _ rfl;have t4:=gj.o.cell 4 _ rfl;have t6:=gj.o.cell 6 _ rfl;have t7:=gj.o.cell 7 _ rfl;have t8:=gj.o.cell 8 _ rfl;have u0:=fU.o.cell 0 _ rfl;have u1:=fU.o.cell 1 _ rfl;have u2:=fU.o.cell 2 _ rfl;have u3:=fU.o.cell 3 _ rfl;have u4:=fU.o.cell 4 _ rfl;have dm:=fU.o.cell 6 _ rfl;have u7:=fU.o.cell 7 _ rfl;have u8:=fU.o.cell 8 _ rfl;clear r2 r3 b3;go_wp2_with (fail);refine HN.o.mono ?_;rintro e w4 ⟨rfl,b4⟩;have t5:=(gj.o.below b4 (by omega)).cell 5 _ rfl;have u5:=(fU.o.below b4 s3).cell 5 _ rfl;clear t0 t1 t2 t3 t4 t6 t7 t8 u0 u1 u2 u3 u4 dm u7 u8;have XM:=I (HE.o w4 b4);go_wp2_with (fail);refine XM.o.mono ?_;rintro e w5 ⟨rfl,aoC⟩;have xv:Below w.heap.size w w5:=dI.o.trans ((b4.trans (aoC.mono b4.size)).mono dI.o.size);obtain ⟨y5,rfl⟩: ∃y:ar w,w5=y.val:=⟨⟨w5,xv⟩,rfl⟩
   go_wp2;go_roundw;case rel=>exact ⟨k+1,y5,by omega,by go_num,rfl⟩
   case measure=>simp[RowKit.intOf];omega
  have eA: ¬(k:Int)<(ds.length:Int):=by omega
  go_wp2;go_ret;exact ⟨rfl,x.ok⟩
end Go.Proofs.YtbcggaldkihcaaaGreatDoor
namespace Go.Proofs.YtbcggaldkihcaaaGreatDoor
open Tryz
open Go.RowKit Go.Lib
theorem aaA {d:dr} (h:cA d=true):V9 (H6 d)=some d:=
 adv (λ_ h1 h2=>(amA h rfl).symm.trans (amA h1 h2)) h rfl
theorem anp (l:List UInt8):(10:UInt8)∉Qi l:=by
 unfold Qi;intro h;obtain ⟨c,_,hc⟩:=List.mem_map.1 h;by_cases Ie:c=10
 ·rw[if_pos Ie]at hc;revert hc;decide
 rw[if_neg Ie]at hc;exact Ie hc
theorem ans (z:Int):(10:UInt8)∉Ql z:=by
 unfold Ql
 split
 ·decide
 split
 ·decide
 split<;>decide
theorem amD {d:dr} (h:cA d=true):(10:UInt8)∉H6 d:=by
 have hi: ∀z:Int,(10:UInt8)∉itoa z:=λz=>ack z (.inl (by decide));have hn: ∀zs:List Int,(10:UInt8)∉Qk zs [44]:=λzs=>abF (.inl (by decide));unfold H6;rcases aap h with ⟨k,_⟩|⟨k,_,_,ht,_⟩|⟨k,_,_,ht,_⟩|⟨k,_⟩
 ·rw[if_pos k]
  split
  ·simp only[List.mem_append,not_or];exact ⟨by decide,hi _⟩
  simp only[List.mem_append,not_or];exact ⟨⟨⟨by decide,hi _⟩,by decide⟩,hn _⟩
 ·rw[if_neg (by omega),if_pos k];simp only[List.mem_append,not_or];exact ⟨⟨⟨⟨⟨by decide,hi _⟩,by decide⟩,agm ht (by decide)⟩,by decide⟩,ans _⟩
 ·rw[if_neg (by omega),if_neg (by omega),if_pos k,aaO];simp only[List.mem_append,List.mem_cons,not_or];exact ⟨⟨⟨⟨⟨⟨⟨by decide,hi _⟩,by decide⟩,agm ht (by decide)⟩,by decide⟩,hi _,by decide,hi _,by decide,hi _⟩,by decide⟩,anp _⟩
 rw[if_neg (by omega),if_neg (by omega),if_neg (by omega)];decide
def abk (b:Nat) (d:dr):List UInt8:=itoa (chk b (H6 d):Nat)++32::H6 d
theorem anq {b:Nat} {d:dr} (h:cA d=true):(10:UInt8)∉abk b d:=by
 unfold abk;simp only[List.mem_append,List.mem_cons,not_or];exact ⟨ack _ (.inl (by decide)),by decide,amD h⟩
theorem ann (b:Nat) (d:dr):sK 32 (abk b d)=(itoa (chk b (H6 d):Nat),H6 d):=C0 _ (ack _ (.inl (by decide)))
theorem ank (b:Nat) (d:dr) (ds:List dr):jrn b (d::ds)=abk b d++10::jrn (chk b (H6 d)) ds:=by
 rw[jrn];unfold abk;simp
theorem aax (c:UInt8): ∀s:List UInt8,∃r,s=(sL c s).dropLast.flatMap (λl=>l++[c])++r/\c∉r/\ ∀l∈(sL c s).dropLast,c∉l
 |[]=>⟨[],by simp[sL],by simp,by simp[sL]⟩
 |x::s=>by
  obtain ⟨r,h1,h2,h3⟩:=aax c s;have gm:=adU c s;rw[sL];by_cases hx:x=c
  ·rw[if_pos hx];generalize sL c s=F at*;cases F with
   |nil=>exact absurd rfl gm
   |cons y ys=>
    rw[List.dropLast_cons_of_ne_nil (by simp)];refine ⟨r,?_,h2,?_⟩
    ·rw[List.flatMap_cons,hx];simp only[List.nil_append,List.cons_append];exact congrArg (c:: ·) h1
    intro l hl;rcases List.mem_cons.1 hl with rfl|hl
    ·simp
    exact h3 l hl
  rw[if_neg hx];generalize sL c s=F at*;cases F with
  |nil=>exact absurd rfl gm
  |cons y ys=>
   cases ys with
   |nil=>
    refine ⟨x::s,by simp,?_,by simp⟩;simp only[List.dropLast_singleton,List.flatMap_nil,List.nil_append]at h1;rw[h1];intro hm;rcases List.mem_cons.1 hm with e|hm
    ·exact hx e.symm
    exact h2 hm
   |cons z zs=>
    rw[List.dropLast_cons_of_ne_nil (by simp)]at h1 h3;refine ⟨r,?_,h2,?_⟩
    ·show x::s=((x::y)::(z::zs).dropLast).flatMap (λl=>l++[c])++r
     rw[List.flatMap_cons]at h1⊢;simp only[List.cons_append];exact congrArg (x:: ·) h1
    intro l hl;have hl:l∈(x::y)::(z::zs).dropLast:=hl;rcases List.mem_cons.1 hl with rfl|hl
    ·intro hm;rcases List.mem_cons.1 hm with e|hm
     ·exact hx e.symm
     exact h3 y (by simp) hm
    exact h3 l (List.mem_cons_of_mem _ hl)
theorem anl {d:dr}:H6 d≠[]:=by
 unfold H6;intro h
 split at h
 ·split at h<;>simp at h
 split at h
 ·simp at h
 split at h<;>simp at h
theorem ano {c:UInt8} {l:List UInt8} (h:c∈l):l=(sK c l).1++c::(sK c l).2:=by
 obtain ⟨a,r,rfl,hn⟩:=List.eq_append_cons_of_mem h;rw[C0 r hn]
theorem anm: ∀(ls:List (List UInt8)) (last k:Nat),∃q,q<=ls.length/\jrn last (aar last k ls).1=(ls.take q).flatMap (λl=>l++[10])/\(aar last k ls).2=((ls.take q).flatMap (λl=>l++[10])).length
 |[],last,k=>⟨0,Nat.le_refl _,by simp[aar,jrn],by simp[aar]⟩
 |l::ls,last,k=>by
  by_cases hc:(V9 (sK 32 l).2).isSome=true/\(sK 32 l).1=itoa (chk last (sK 32 l).2:Nat)/\k<40
  ·obtain ⟨h1,h2,h3⟩:=hc;rw[aaL h1 h2 h3];obtain ⟨q,hq,e1,e2⟩:=anm ls (chk last (sK 32 l).2) (k+1);cases hd:V9 (sK 32 l).2 with
   |none=>rw[hd]at h1;cases h1
   |some d=>
    obtain ⟨ho,ht⟩:=aee hd
    have h32:(32:UInt8)∈l:=by
     apply Decidable.byContradiction;intro hn;rw[adT hn]at ht;exact anl ht
    have hl:l=(sK 32 l).1++32::(sK 32 l).2:=ano h32;refine ⟨q+1,by simpa using hq,?_,?_⟩
    ·show jrn last (d::(aar (chk last (sK 32 l).2) (k+1) ls).1)=_
     rw[ank,List.take_succ_cons,List.flatMap_cons,<-e1]
     have:abk last d=l:=by
      unfold abk;rw[ht,<-h2];exact hl.symm
     rw[this,ht];simp
    rw[List.take_succ_cons,List.flatMap_cons,e2,List.length_append,List.length_append];rfl
  rw[aas hc];exact ⟨0,Nat.zero_le _,by simp[jrn],by simp⟩
theorem anr (s:List UInt8):jrn 7 (aaZ s).1=s.take (aaZ s).2/\(aaZ s).2<=s.length:=by
 obtain ⟨r,h1,_,_⟩:=aax 10 s;unfold aaZ;obtain ⟨q,hq,e1,e2⟩:=anm (sL 10 s).dropLast 7 0;rw[e1,e2];generalize (sL 10 s).dropLast=F at*
 have hs:s=(F.take q).flatMap (λl=>l++[10])++((F.drop q).flatMap (λl=>l++[10])++r):=by
  rw[<-List.append_assoc,<-List.flatMap_append,List.take_append_drop];exact h1
 generalize (F.take q).flatMap (λl=>l++[10])=X at*;generalize (F.drop q).flatMap (λl=>l++[10])++r=Y at*;subst hs;exact ⟨by simp,by simp⟩
theorem abB (X:List (List UInt8)): ∀(ls:List (List UInt8)) (last k:Nat),(aar last k ls).2<=(aar last k (ls++X)).2
 |[],last,k=>by simp[aar]
 |l::ls,last,k=>by
  rw[List.cons_append];by_cases hc:(V9 (sK 32 l).2).isSome=true/\(sK 32 l).1=itoa (chk last (sK 32 l).2:Nat)/\k<40
  ·rw[aaL hc.1 hc.2.1 hc.2.2,aaL hc.1 hc.2.1 hc.2.2];have:=abB X ls (chk last (sK 32 l).2) (k+1);show _+_<=_+_
   omega
  rw[aas hc,aas hc];exact Nat.le_refl _
theorem anu (s r:List UInt8):(aaZ s).2<=(aaZ (s++r)).2:=by
 obtain ⟨r0,h1,_,h3⟩:=aax 10 s
 have e:(sL 10 (s++r)).dropLast=(sL 10 s).dropLast++(sL 10 (r0++r)).dropLast:=by
  conv=>lhs;rw[h1,List.append_assoc]
  have:=Jc 10 (id:List UInt8->List UInt8) (sL 10 s).dropLast (r0++r) h3;have this:sL 10 ((sL 10 s).dropLast.flatMap (λl=>l++[10])++(r0++r))=(sL 10 s).dropLast++sL 10 (r0++r):=by simpa using this
  rw[this,List.dropLast_append_of_ne_nil (adU _ _)]
 unfold aaZ;rw[e];exact abB _ _ _ _
theorem abZ: ∀(ds:List dr) (b k n:Nat),(∀d∈ds,cA d=true)->k+ds.length<=40->
 (aar b k (sL 10 ((jrn b ds).take n)).dropLast).1=ds.take (((jrn b ds).take n).count 10)/\((jrn b ds).take n).count 10<=ds.length
 |[],b,k,n,_,_=>by simp[jrn,sL,aar]
 |d::ds,b,k,n,cy,hk=>by
  have hd:=cy d (by simp);have Ij:=anq (b:=b) hd;have hcut:=ann b d;rw[List.length_cons]at hk;rw[ank];generalize hl:abk b d=l at*;by_cases hn:n<=l.length
  ·rw[List.take_append_of_le_length hn];have rf:(10:UInt8)∉l.take n:=λh=>Ij (List.mem_of_mem_take h);rw[p8 rf,List.count_eq_zero.2 rf];simp[aar]
  obtain ⟨m,rfl⟩: ∃m,n=l.length+(m+1):=⟨n-l.length-1,by omega⟩
  have e:(l++10::jrn (chk b (H6 d)) ds).take (l.length+(m+1))=l++10::(jrn (chk b (H6 d)) ds).take m:=by
   rw[List.take_length_add_append,List.take_succ_cons]
  rw[e,r8 _ Ij];obtain ⟨i1,i2⟩:=abZ ds (chk b (H6 d)) (k+1) m (λx hx=>cy x (by simp[hx])) (by omega);rw[List.dropLast_cons_of_ne_nil (adU _ _)];have hsm:(V9 (sK 32 l).2).isSome=true:=by rw[hcut];show (V9 (H6 d)).isSome=true;rw[aaA hd];rfl
  rw[aaL hsm (by rw[hcut]) (by omega)]
  have aff:(l++10::(jrn (chk b (H6 d)) ds).take m).count 10=((jrn (chk b (H6 d)) ds).take m).count 10+1:=by
   rw[List.count_append,List.count_cons,List.count_eq_zero.2 Ij];simp
  rw[aff,hcut];refine ⟨?_,by rw[List.length_cons];omega⟩;show (V9 (H6 d)).getD V6::(aar (chk b (H6 d)) (k+1) _).1=_
  rw[aaA hd,List.take_succ_cons,i1];rfl
theorem anv {ds:List dr} (cy: ∀d∈ds,cA d=true) (h40:ds.length<=40) (n:Nat) (hn:n<=(jrn 7 ds).length):
 (aaZ ((jrn 7 ds).take n)).1=ds.take (((jrn 7 ds).take n).count 10)/\((jrn 7 ds).take n).count 10<=ds.length/\(aaZ ((jrn 7 ds).take n)).2<=n/\jrn 7 (aaZ ((jrn 7 ds).take n)).1=(jrn 7 ds).take (aaZ ((jrn 7 ds).take n)).2:=by
 obtain ⟨h1,h2⟩:=abZ ds 7 0 n cy (by omega);obtain ⟨h3,h4⟩:=anr ((jrn 7 ds).take n);rw[List.length_take,Nat.min_eq_left hn]at h4;refine ⟨h1,h2,h4,?_⟩;rw[h3,List.take_take,Nat.min_eq_left h4]
theorem ant (s:List UInt8):aaJ (aaZ s).1=true:=by
 rw[abc];have:=abe (sL 10 s).dropLast 7 0;refine ⟨?_,abp _ _ _⟩;have e:(aaZ s).1=(aar 7 0 (sL 10 s).dropLast).1:=rfl;rw[e];omega
end Go.Proofs.YtbcggaldkihcaaaGreatDoor
set_option maxHeartbeats 1000000
namespace Go.Proofs.YtbcggaldkihcaaaGreatDoor
open Tryz
open Go.RowKit Go.Lib
def anz (ds:List dr):List UInt8:=if aaJ ds=true then jrn 7 ds else []
theorem anB {ds:List dr} (h:aaJ ds=false):anz ds=[]:=by unfold anz;rw[if_neg (by rw[h];simp)]
theorem anC {ds:List dr} (h:aaJ ds=true):anz ds=jrn 7 ds:=by unfold anz;rw[if_pos h]
theorem anD (ds:List dr) (A:Option Addr) (n c:Nat) (w:World) (h:aa3 w w.heap.size (.slice A n c) ds) (hE:Env w.heap.size w):
 Calls prog 11 #[.slice A n c] w (bT (.tuple #[.string ⟨(anz ds).toArray⟩,.bool (aaJ ds)]) w):=by
 have HD:=I (cz.km h abd.stays (Nat.le_refl _));have E:=I hE;clear h hE;refine aL λx0=>?_;go_enter func11,ntmps11;go_wp2_with (fail);refine (aq (abP ds A n c _ (HD.o _))).mono ?_;rintro e _ ⟨rfl,x,rfl⟩;cases cy:aaJ ds with
 |false=>
  have HO:=I cy;clear cy;go_wp2;go_ret2;exact ⟨by rw[anB HO.o,HO.o];rfl,x.ok⟩
 |true=>
  have HO:=I cy;clear cy;go_wp2_with (fail);refine (aq (abW ds A n c _ (HD.o _) HO.o (aah (E.o.on x.ok) x.ok.size))).mono ?_;rintro e _ ⟨rfl,y,rfl⟩;go_wp2;go_ret2;exact ⟨by rw[anC HO.o,HO.o];rfl,y.ok⟩
noncomputable def anA (t:List UInt8):List dr×Nat×Bool:=if t.length<=40000 then ((aaZ t).1,(aaZ t).2,true)else ([],0,false)
def RJP (o:List dr×Nat×Bool) (w:World) (e:Ending) (w':World):Prop:=
 ∃v qs,e= .returned (.tuple #[v,.int .i64 (o.2.1:Int),.bool o.2.2])/\qs.map Bb.d=o.1/\aal w.heap.size w' v qs/\Below w.heap.size w w'
theorem anE (s:ByteArray) (w:World) (RC:s.size<=9223372036854775807) (hE:aaG w.heap.size w):Calls prog 13 #[.string s] w (RJP (anA s.data.toList) w):=by
 have E:=I hE;clear hE;have ja:s.data.toList.length=s.size:=by simp
 by_cases h4:s.size<=40000
 ·have HR:=I (λ(W:World) (eD:Below w.heap.size w W)=>abX s W (by omega) ((E.o.on eD).more eD.size));unfold abq at HR;have HD:ag (anA s.data.toList=((aaZ s.data.toList).1,(aaZ s.data.toList).2,true)):=I (by unfold anA;rw[if_pos (by omega)]);generalize anA s.data.toList=O at*;generalize aaZ s.data.toList=Bc at*;obtain ⟨anw,anx⟩:=Bc;obtain rfl:O=(anw,anx,true):=HD.o;clear HD;go_enter func13,ntmps13;go_wp2_with (fail);refine (HR.o w (Below.refl _ _)).mono ?_;rintro e w1 ⟨v,qs,rfl,hqs,hds,hb⟩;have HDS:=I hds;have HQ:=I hqs;clear hqs hds HR;go_wp2;go_ret3;exact ⟨v,qs,rfl,HQ.o,HDS.o,hb⟩
 have HO:ag (anA s.data.toList=([],0,false)):=I (by unfold anA;rw[if_neg (λhh=>h4 (by omega))]);generalize anA s.data.toList=O at*;obtain rfl:O=([],0,false):=HO.o;clear HO;have h4i:(40000:Int)<(s.size:Int):=by omega
 go_enter func13,ntmps13;go_wp2;go_ret3;exact ⟨.slice none 0 0,[],rfl,rfl,aal.nil _ _,Below.refl _ _⟩
end Go.Proofs.YtbcggaldkihcaaaGreatDoor

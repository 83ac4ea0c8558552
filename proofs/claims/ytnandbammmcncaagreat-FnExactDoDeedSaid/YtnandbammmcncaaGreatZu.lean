/- FnExactDoDeed: the law, walked. -/
import Derived.Test.YtnandbammmcncaaGreatZs
import Derived.Test.YtnandbammmcncaaGreatZt
import Derived.Test.YtnandbammmcncaaGreatZl
import Derived.Test.YtnandbammmcncaaGreatZm
set_option maxHeartbeats 16000000
set_option maxRecDepth 100000
namespace Go.Proofs.YtnandbammmcncaaGreat
open Tryz
open Go.RowKit Go.Lib
def KB (d:dr) (w:World) (e:Ending) (w':World):Prop:=
 ∃A1 c1 A2 c2,e= .returned (.agg #[.int .i64 d.kind,.int .i64 d.member,.slice A1 d.af.length c1,.string d.al,.int .i64 d.bO,.slice A2 d.patch.length c2,.int .i64 d.start,.int .i64 d.aB,.int .i64 d.aj])/\ay ak d.af w.heap.size w' (.slice A1 d.af.length c1)/\ay ah d.patch w.heap.size w' (.slice A2 d.patch.length c2)/\(∀b,cx d.af (.slice A1 d.af.length c1) b-> ¬cx d.patch (.slice A2 d.patch.length c2) b)/\Below w.heap.size w w'/\(∀b,(Value.slice A1 d.af.length c1).ownBlock=some b\/(Value.slice A2 d.patch.length c2).ownBlock=some b->w.heap.size<=b/\b<w'.heap.size)
theorem Fi (d:dr) (A1:Option Addr) (c1:Nat) (A2:Option Addr) (c2:Nat) (w:World) (hT:Ints w w.heap.size (.slice A1 d.af.length c1) d.af) (hP:bg w w.heap.size (.slice A2 d.patch.length c2) d.patch) (h1:d.af.length<=1048576) (h2:d.patch.length<=1048576):
 Calls prog 32 #[.agg #[.int .i64 d.kind,.int .i64 d.member,.slice A1 d.af.length c1,.string d.al,.int .i64 d.bO,.slice A2 d.patch.length c2,.int .i64 d.start,.int .i64 d.aB,.int .i64 d.aj]] w (KB d w):=
 (EC d A1 _ c1 A2 _ c2 w hT hP h1 h2).mono λe w' ⟨g1,k1,g2,k2,he,l1,m1,l2,m2,q1,q2,q3,r1,r2,hb⟩=>
  ⟨_,k1,_,k2,he,⟨_,_,rfl,l1,m1,λ_=>⟨g1,rfl,q1,by omega,r1⟩⟩,⟨_,_,rfl,l2,m2,λ_=>⟨g2,rfl,by omega,q3,r2⟩⟩,λb bw cL=>by
   have e1:some g1=some b:=bw.2;have e2:some g2=some b:=cL.2;injection e1 with e1
   injection e2 with e2
   omega,hb,λb hb=>by
   rcases hb with hb|hb
   ·have e:some g1=some b:=hb;injection e with e
    omega
   have e:some g2=some b:=hb;injection e with e
   omega⟩
theorem Mm {a:cp} {T:List bR} {C:List bu} {M:List bH} (h:rX T a.base C M):0<tq 1 a T C M/\tq 1 a T C M<=281474976710656:=by
 have l1:=uL T 1 h.t;have l2:=uM a.base (bs cH 1 T) (λ_ _=>trivial);have l3:=uN C (bs dx (bs cH 1 T) a.base) h.c;have l4:=zw M (bs dQ (bs dx (bs cH 1 T) a.base) C) h.m;have h1:=h.t0;have h2:=h.b0;have h3:=h.c0;have h4:=h.m0;unfold tq;omega
def wX (R:cp) (fl:Bool) (w:World) (e:Ending) (w':World):Prop:=
 ∃x T C M,e= .returned (.tuple #[eu R x,.bool fl])/\Tt x/\dM w.heap.size w' x R T C M/\Below w.heap.size w w'
theorem Ah {p:Prop} (h:p:=by
 have a0:=eP.o.cell 0 _ rfl;have a1:=eP.o.cell 1 _ rfl;have a2:=eP.o.cell 2 _ rfl;have a3:=eP.o.cell 3 _ rfl;have a4:=eP.o.cell 4 _ rfl;have a5:=eP.o.cell 5 _ rfl;have f0:=eP.o.free 0 (by simp);have f1:=eP.o.free 1 (by simp);have f2:=eP.o.free 2 (by simp);have f3:=eP.o.free 3 (by simp);have f4:=eP.o.free 4 (by simp);have f5:=eP.o.free 5 (by simp);refine cV 9 (λK hK=>?_)
 try simp only[aK]
 go_simp;obtain ⟨w9,Ag⟩: ∃X,X=((((((x7).val.setCell ⟨kk,0,none⟩ (.int .i64 R.day)).setCell ⟨kk,1,none⟩ (.int .i64 R.rule)).setCell ⟨kk,2,none⟩ (.slice Et n1 et)).setCell ⟨kk,3,none⟩ (.slice Eb n2 eb)).setCell ⟨kk,4,none⟩ (.slice Ec n3 ec)).setCell ⟨kk,5,none⟩ (.slice Em n4 em):=⟨_,rfl⟩
 have xo:Touch (λb=>b=kk) (x7).val w9:=by
  rw[Ag]
  iterate 6 refine Touch.setCell (F:=λb=>b=kk) ?_ rfl _
  exact Touch.refl _ _
 have CM:Row w9 kk [.int .i64 R.day,.int .i64 R.rule,.slice Et n1 et,.slice Eb n2 eb,.slice Ec n3 ec,.slice Em n4 em]:=by
  rw[Ag];exact (((((eP.o.set 0 _ (by simp)).set 1 _ (by simp)).set 2 _ (by simp)).set 3 _ (by simp)).set 4 _ (by simp)).set 5 _ (by simp)
 have VP:w.heap.size<=kk:=by omega
 have wZ:Below w.heap.size w w9:=(x7).ok.trans (xo.below (x7).ok.size (λb e=>by omega));have hl9:kk<w9.heap.size:=by have:=xo.size;omega
 have hr9:=(qb.o.aD xo (λb hb e=>Nl.o b hb e)).o.r;rw[<-Ag];clear Ag a0 a1 a2 a3 a4 a5 f0 f1 f2 f3 f4 f5 xo;refine hK.out _ _ (λh=>by simp at h) ?_;clear hK K
 try simp only[Act.put,aM]
 refine cV 10 (λK hK=>?_)
 try simp only[aK]
 go_simp;refine hK.out _ _ (λh=>by simp at h) ?_;clear hK K
 try simp only[Act.put,aM]
 refine dh (by kernel_rfl) ?_ _;go_wp2;go_meet;case rel=>exact ⟨kk,_,_,_,_,_,_,_,_,_,_,_,_,rfl,rfl,CM,hr9,wZ,hl9⟩
 ):p:=h
theorem KC {p:Prop} (h:p:=by
 have aE:=dl.o x3;refine cl 0 ?_
 try simp only[Act.put,aK,aM]
 refine cl 2 ?_
 try simp only[Act.put,aK,aM]
 clear aE;have W9:=x3.ok.size;refine bZ (rs:=[1,8]) (by kernel_rfl) (by simp) ?_;refine aN.cons rfl (λK hK=>?_) (aN.cons rfl (λK hK=>?_) aN.nil)
 ·try simp only[aK]
  go_simp;go_at_call 13;refine (Hn.o x3).mono ?_;rintro e w1 ⟨x',T,C,M,rfl,hO,bk⟩;obtain ⟨Bt,dt,Bb,db,Bc,dc,Bm,dm,rfl⟩:=hO.r.slices;have rb:=I hO.r;have Ha:=bk.size
  try replace eP:=I (eP.o.below bk (by omega))
  obtain ⟨x4,rfl⟩: ∃y:ar w,w1=y.val:=⟨⟨w1,(x3).ok.trans (bk.mono (x3).ok.size)⟩,rfl⟩
  clear bk hO;refine hK.out _ _ (λ_=>dl.o x4) ?_;clear hK K
  try simp only[]
  refine bZ (rs:=[3,8]) (by kernel_rfl) (by simp) ?_;refine aN.cons rfl (λK hK=>?_) (aN.cons rfl (λK hK=>?_) aN.nil)
  ·try simp only[aK]
   go_simp;go_at_call 32;refine (Px.o x4).mono ?_;rintro e w1 ⟨G1,e1,G2,e2,rfl,vC,xa,-,bk,-⟩;have F4:=bk.size
   try replace rb:=I (rb.o.on bk bk.size)
   try replace qx:=I (cz.on qx.o (Pl.stays _) bk bk.size)
   try replace jW:=I (cz.on jW.o (Pl.stays _) bk bk.size)
   try replace qb:=I (qb.o.below bk)
   try replace eP:=I (eP.o.below bk (by omega))
   have qx:ag (Ints w1 w1.heap.size (.slice G1 d.af.length e1) d.af):=I (vC.mo (size:=1) λ_=>rfl);have jW:ag (bg w1 w1.heap.size (.slice G2 d.patch.length e2) d.patch):=I (xa.mo (size:=4) λ_=>rfl);obtain ⟨x5,rfl⟩: ∃y:ar w,w1=y.val:=⟨⟨w1,(x4).ok.trans (bk.mono (x4).ok.size)⟩,rfl⟩
   clear bk vC xa;refine hK.out _ _ (λ_=>dl.o x5) ?_;clear hK K
   try simp only[Act.put,aM]
   refine bZ (rs:=[4,8]) (by kernel_rfl) (by simp) ?_;refine aN.cons rfl (λK hK=>?_) (aN.cons rfl (λK hK=>?_) aN.nil)
   ·try simp only[aK]
    go_simp;have sJ:=I (Sk.o (x5).val _ _ _ _ _ rb.o qx.o jW.o);unfold wX eu gw at sJ;first|go_at_call 31|go_at_call 33
    refine sJ.o.mono ?_;rintro e w1 ⟨xv,T5,C5,M5,rfl,⟨Et,n1,et,Eb,n2,eb,Ec,n3,ec,Em,n4,em,rfl⟩,KD,bk⟩;have uw:=bk.size
    try replace rb:=I (rb.o.on bk bk.size)
    try replace qx:=I (cz.on qx.o (Pl.stays _) bk bk.size)
    try replace jW:=I (cz.on jW.o (Pl.stays _) bk bk.size)
    try replace qb:=I (qb.o.below bk)
    try replace eP:=I (eP.o.below bk (by omega))
    have qb:=I KD;obtain ⟨x6,rfl⟩: ∃y:ar w,w1=y.val:=⟨⟨w1,(x5).ok.trans (bk.mono (x5).ok.size)⟩,rfl⟩
    clear bk KD sJ;refine hK.out _ _ (λ_=>dl.o x6) ?_;clear hK K
    try simp only[Act.put,aM]
    refine eS 5 (λ_=>dl.o x6) ?_
    try simp only[Act.put,aK,aM]
    refine eS 6 (λ_=>dl.o x6) ?_
    try simp only[Act.put,aK,aM]
    refine eS 7 (λ_=>dl.o x6) ?_
    try simp only[Act.put,aK,aM]
    refine cV 8 (λK hK=>?_)
    try simp only[aK]
    go_simp;have Nl:ag (∀b,bz ⟨.slice Et n1 et,.slice Eb n2 eb,.slice Ec n3 ec,.slice Em n4 em⟩ R T5 C5 M5 b->b≠x6.val.heap.size):=I (λb hb=>by have:=(qb.o.o.lt hb).2;omega);have bk:Below (x6).val.heap.size (x6).val ((x6).val.alloc (.cells #[.int .i64 0,.int .i64 0,.slice none 0 0,.slice none 0 0,.slice none 0 0,.slice none 0 0] 36)):=(aae _ _).alloc (aad _) _
    try replace rb:=I (rb.o.on bk bk.size)
    try replace qx:=I (cz.on qx.o (Pl.stays _) bk bk.size)
    try replace jW:=I (cz.on jW.o (Pl.stays _) bk bk.size)
    try replace qb:=I (qb.o.below bk)
    try replace eP:=I (eP.o.below bk (by omega))
    have eP:ag (Row ((x6).val.alloc (.cells #[.int .i64 0,.int .i64 0,.slice none 0 0,.slice none 0 0,.slice none 0 0,.slice none 0 0] 36)) (x6).val.heap.size [.int .i64 0,.int .i64 0,.slice none 0 0,.slice none 0 0,.slice none 0 0,.slice none 0 0]):=I (Row.new _ _ _);have qg:(x6).val.heap.size+1<=((x6).val.alloc (.cells #[.int .i64 0,.int .i64 0,.slice none 0 0,.slice none 0 0,.slice none 0 0,.slice none 0 0] 36)).heap.size:=by simp
    skip;obtain ⟨x7,hc⟩: ∃y:ar w,y.val=(x6).val.alloc (.cells #[.int .i64 0,.int .i64 0,.slice none 0 0,.slice none 0 0,.slice none 0 0,.slice none 0 0] 36):=⟨⟨_,(x6).ok.trans (bk.mono (x6).ok.size)⟩,rfl⟩
    rw[<-hc]at eP qg⊢
    try rw[<-hc]at rb
    try rw[<-hc]at qx
    try rw[<-hc]at jW
    try rw[<-hc]at qb
    clear hc bk;have Mk:=(x6).ok.size;refine hK.out _ _ (λ_=>dl.o x7) ?_;clear hK K
    try simp only[Act.put,aM]
    obtain ⟨kk,uu⟩: ∃n,n=x6.val.heap.size:=⟨_,rfl⟩
    rw[<-uu]at eP Nl⊢;have MY:=aam uu;have Tf:=aam uu.symm;clear uu;exact Ah
   try simp only[aK]
   go_simp;skip;have bk:Below (x5).val.heap.size (x5).val ((x5).val.alloc (.cells #[.int .i64 0,.int .i64 0,.slice none 0 0,.slice none 0 0,.slice none 0 0,.slice none 0 0] 36)):=(aae _ _).alloc (aad _) _
   try replace rb:=I (rb.o.on bk bk.size)
   try replace qx:=I (cz.on qx.o (Pl.stays _) bk bk.size)
   try replace jW:=I (cz.on jW.o (Pl.stays _) bk bk.size)
   try replace qb:=I (qb.o.below bk)
   try replace eP:=I (eP.o.below bk (by omega))
   have eP:ag (Row ((x5).val.alloc (.cells #[.int .i64 0,.int .i64 0,.slice none 0 0,.slice none 0 0,.slice none 0 0,.slice none 0 0] 36)) (x5).val.heap.size [.int .i64 0,.int .i64 0,.slice none 0 0,.slice none 0 0,.slice none 0 0,.slice none 0 0]):=I (Row.new _ _ _);have qg:(x5).val.heap.size+1<=((x5).val.alloc (.cells #[.int .i64 0,.int .i64 0,.slice none 0 0,.slice none 0 0,.slice none 0 0,.slice none 0 0] 36)).heap.size:=by simp
   skip;obtain ⟨x6,hc⟩: ∃y:ar w,y.val=(x5).val.alloc (.cells #[.int .i64 0,.int .i64 0,.slice none 0 0,.slice none 0 0,.slice none 0 0,.slice none 0 0] 36):=⟨⟨_,(x5).ok.trans (bk.mono (x5).ok.size)⟩,rfl⟩
   rw[<-hc]at eP qg⊢
   try rw[<-hc]at rb
   try rw[<-hc]at qx
   try rw[<-hc]at jW
   try rw[<-hc]at qb
   clear hc bk;have Mk:=(x5).ok.size;refine hK.out _ _ (λ_=>dl.o x6) ?_;clear hK K
   try simp only[Act.put,aM]
   refine cV 4 (λK hK=>?_)
   try simp only[aK]
   go_simp;have sJ:=I (Sk.o (x6).val _ _ _ _ _ rb.o qx.o jW.o);unfold wX eu gw at sJ;first|go_at_call 31|go_at_call 33
   refine sJ.o.mono ?_;rintro e w1 ⟨xv,T5,C5,M5,rfl,⟨Et,n1,et,Eb,n2,eb,Ec,n3,ec,Em,n4,em,rfl⟩,KD,bk⟩;have uw:=bk.size
   try replace rb:=I (rb.o.on bk bk.size)
   try replace qx:=I (cz.on qx.o (Pl.stays _) bk bk.size)
   try replace jW:=I (cz.on jW.o (Pl.stays _) bk bk.size)
   try replace qb:=I (qb.o.below bk)
   try replace eP:=I (eP.o.below bk (by omega))
   have qb:=I KD;obtain ⟨x7,rfl⟩: ∃y:ar w,w1=y.val:=⟨⟨w1,(x6).ok.trans (bk.mono (x6).ok.size)⟩,rfl⟩
   clear bk KD sJ;refine hK.out _ _ (λ_=>dl.o x7) ?_;clear hK K
   try simp only[Act.put,aM]
   refine eS 5 (λ_=>dl.o x7) ?_
   try simp only[Act.put,aK,aM]
   refine eS 6 (λ_=>dl.o x7) ?_
   try simp only[Act.put,aK,aM]
   refine eS 7 (λ_=>dl.o x7) ?_
   try simp only[Act.put,aK,aM]
   have Nl:ag (∀b,bz ⟨.slice Et n1 et,.slice Eb n2 eb,.slice Ec n3 ec,.slice Em n4 em⟩ R T5 C5 M5 b->b≠x5.val.heap.size):=I (λb hb=>by have:=(qb.o.o.lt hb).1;omega);obtain ⟨kk,uu⟩: ∃n,n=x5.val.heap.size:=⟨_,rfl⟩
   rw[<-uu]at eP Nl⊢;have MY:=aam uu;have Tf:=aam uu.symm;clear uu;exact Ah
  try simp only[aK]
  go_simp;skip;have bk:Below (x4).val.heap.size (x4).val ((x4).val.alloc (.cells #[.int .i64 0,.int .i64 0,.slice none 0 0,.slice none 0 0,.slice none 0 0,.slice none 0 0] 36)):=(aae _ _).alloc (aad _) _
  try replace rb:=I (rb.o.on bk bk.size)
  try replace qx:=I (cz.on qx.o (Pl.stays _) bk bk.size)
  try replace jW:=I (cz.on jW.o (Pl.stays _) bk bk.size)
  try replace qb:=I (qb.o.below bk)
  try replace eP:=I (eP.o.below bk (by omega))
  have eP:ag (Row ((x4).val.alloc (.cells #[.int .i64 0,.int .i64 0,.slice none 0 0,.slice none 0 0,.slice none 0 0,.slice none 0 0] 36)) (x4).val.heap.size [.int .i64 0,.int .i64 0,.slice none 0 0,.slice none 0 0,.slice none 0 0,.slice none 0 0]):=I (Row.new _ _ _);have qg:(x4).val.heap.size+1<=((x4).val.alloc (.cells #[.int .i64 0,.int .i64 0,.slice none 0 0,.slice none 0 0,.slice none 0 0,.slice none 0 0] 36)).heap.size:=by simp
  skip;obtain ⟨x5,hc⟩: ∃y:ar w,y.val=(x4).val.alloc (.cells #[.int .i64 0,.int .i64 0,.slice none 0 0,.slice none 0 0,.slice none 0 0,.slice none 0 0] 36):=⟨⟨_,(x4).ok.trans (bk.mono (x4).ok.size)⟩,rfl⟩
  rw[<-hc]at eP qg⊢
  try rw[<-hc]at rb
  try rw[<-hc]at qx
  try rw[<-hc]at jW
  try rw[<-hc]at qb
  clear hc bk;have Mk:=(x4).ok.size;refine hK.out _ _ (λ_=>dl.o x5) ?_;clear hK K
  try simp only[Act.put,aM]
  refine cV 3 (λK hK=>?_)
  try simp only[aK]
  go_simp;go_at_call 32;refine (Px.o x5).mono ?_;rintro e w1 ⟨G1,e1,G2,e2,rfl,vC,xa,-,bk,-⟩;have F4:=bk.size
  try replace rb:=I (rb.o.on bk bk.size)
  try replace qx:=I (cz.on qx.o (Pl.stays _) bk bk.size)
  try replace jW:=I (cz.on jW.o (Pl.stays _) bk bk.size)
  try replace qb:=I (qb.o.below bk)
  try replace eP:=I (eP.o.below bk (by omega))
  have qx:ag (Ints w1 w1.heap.size (.slice G1 d.af.length e1) d.af):=I (vC.mo (size:=1) λ_=>rfl);have jW:ag (bg w1 w1.heap.size (.slice G2 d.patch.length e2) d.patch):=I (xa.mo (size:=4) λ_=>rfl);obtain ⟨x6,rfl⟩: ∃y:ar w,w1=y.val:=⟨⟨w1,(x5).ok.trans (bk.mono (x5).ok.size)⟩,rfl⟩
  clear bk vC xa;refine hK.out _ _ (λ_=>dl.o x6) ?_;clear hK K
  try simp only[Act.put,aM]
  refine cV 4 (λK hK=>?_)
  try simp only[aK]
  go_simp;have sJ:=I (Sk.o (x6).val _ _ _ _ _ rb.o qx.o jW.o);unfold wX eu gw at sJ;first|go_at_call 31|go_at_call 33
  refine sJ.o.mono ?_;rintro e w1 ⟨xv,T5,C5,M5,rfl,⟨Et,n1,et,Eb,n2,eb,Ec,n3,ec,Em,n4,em,rfl⟩,KD,bk⟩;have uw:=bk.size
  try replace rb:=I (rb.o.on bk bk.size)
  try replace qx:=I (cz.on qx.o (Pl.stays _) bk bk.size)
  try replace jW:=I (cz.on jW.o (Pl.stays _) bk bk.size)
  try replace qb:=I (qb.o.below bk)
  try replace eP:=I (eP.o.below bk (by omega))
  have qb:=I KD;obtain ⟨x7,rfl⟩: ∃y:ar w,w1=y.val:=⟨⟨w1,(x6).ok.trans (bk.mono (x6).ok.size)⟩,rfl⟩
  clear bk KD sJ;refine hK.out _ _ (λ_=>dl.o x7) ?_;clear hK K
  try simp only[Act.put,aM]
  refine eS 5 (λ_=>dl.o x7) ?_
  try simp only[Act.put,aK,aM]
  refine eS 6 (λ_=>dl.o x7) ?_
  try simp only[Act.put,aK,aM]
  refine eS 7 (λ_=>dl.o x7) ?_
  try simp only[Act.put,aK,aM]
  have Nl:ag (∀b,bz ⟨.slice Et n1 et,.slice Eb n2 eb,.slice Ec n3 ec,.slice Em n4 em⟩ R T5 C5 M5 b->b≠x4.val.heap.size):=I (λb hb=>by have:=(qb.o.o.lt hb).1;omega);obtain ⟨kk,uu⟩: ∃n,n=x4.val.heap.size:=⟨_,rfl⟩
  rw[<-uu]at eP Nl⊢;have MY:=aam uu;have Tf:=aam uu.symm;clear uu;exact Ah
 ·try simp only[aK]
  go_simp;skip;have bk:Below (x3).val.heap.size (x3).val ((x3).val.alloc (.cells #[.int .i64 0,.int .i64 0,.slice none 0 0,.slice none 0 0,.slice none 0 0,.slice none 0 0] 36)):=(aae _ _).alloc (aad _) _
  try replace rb:=I (rb.o.on bk bk.size)
  try replace qx:=I (cz.on qx.o (Pl.stays _) bk bk.size)
  try replace jW:=I (cz.on jW.o (Pl.stays _) bk bk.size)
  try replace qb:=I (qb.o.below bk)
  try replace eP:=I (eP.o.below bk (by omega))
  have eP:ag (Row ((x3).val.alloc (.cells #[.int .i64 0,.int .i64 0,.slice none 0 0,.slice none 0 0,.slice none 0 0,.slice none 0 0] 36)) (x3).val.heap.size [.int .i64 0,.int .i64 0,.slice none 0 0,.slice none 0 0,.slice none 0 0,.slice none 0 0]):=I (Row.new _ _ _);have qg:(x3).val.heap.size+1<=((x3).val.alloc (.cells #[.int .i64 0,.int .i64 0,.slice none 0 0,.slice none 0 0,.slice none 0 0,.slice none 0 0] 36)).heap.size:=by simp
  skip;obtain ⟨x4,hc⟩: ∃y:ar w,y.val=(x3).val.alloc (.cells #[.int .i64 0,.int .i64 0,.slice none 0 0,.slice none 0 0,.slice none 0 0,.slice none 0 0] 36):=⟨⟨_,(x3).ok.trans (bk.mono (x3).ok.size)⟩,rfl⟩
  rw[<-hc]at eP qg⊢
  try rw[<-hc]at rb
  try rw[<-hc]at qx
  try rw[<-hc]at jW
  try rw[<-hc]at qb
  clear hc bk;have Mk:=(x3).ok.size;refine hK.out _ _ (λ_=>dl.o x4) ?_;clear hK K
  try simp only[Act.put,aM]
  refine cV 1 (λK hK=>?_)
  try simp only[aK]
  go_simp;go_at_call 13;refine (Hn.o x4).mono ?_;rintro e w1 ⟨x',T,C,M,rfl,hO,bk⟩;obtain ⟨Bt,dt,Bb,db,Bc,dc,Bm,dm,rfl⟩:=hO.r.slices;have rb:=I hO.r;have Ha:=bk.size
  try replace eP:=I (eP.o.below bk (by omega))
  obtain ⟨x5,rfl⟩: ∃y:ar w,w1=y.val:=⟨⟨w1,(x4).ok.trans (bk.mono (x4).ok.size)⟩,rfl⟩
  clear bk hO;refine hK.out _ _ (λ_=>dl.o x5) ?_;clear hK K
  try simp only[Act.put,aM]
  refine cV 3 (λK hK=>?_)
  try simp only[aK]
  go_simp;go_at_call 32;refine (Px.o x5).mono ?_;rintro e w1 ⟨G1,e1,G2,e2,rfl,vC,xa,-,bk,-⟩;have F4:=bk.size
  try replace rb:=I (rb.o.on bk bk.size)
  try replace qx:=I (cz.on qx.o (Pl.stays _) bk bk.size)
  try replace jW:=I (cz.on jW.o (Pl.stays _) bk bk.size)
  try replace qb:=I (qb.o.below bk)
  try replace eP:=I (eP.o.below bk (by omega))
  have qx:ag (Ints w1 w1.heap.size (.slice G1 d.af.length e1) d.af):=I (vC.mo (size:=1) λ_=>rfl);have jW:ag (bg w1 w1.heap.size (.slice G2 d.patch.length e2) d.patch):=I (xa.mo (size:=4) λ_=>rfl);obtain ⟨x6,rfl⟩: ∃y:ar w,w1=y.val:=⟨⟨w1,(x5).ok.trans (bk.mono (x5).ok.size)⟩,rfl⟩
  clear bk vC xa;refine hK.out _ _ (λ_=>dl.o x6) ?_;clear hK K
  try simp only[Act.put,aM]
  refine cV 4 (λK hK=>?_)
  try simp only[aK]
  go_simp;have sJ:=I (Sk.o (x6).val _ _ _ _ _ rb.o qx.o jW.o);unfold wX eu gw at sJ;first|go_at_call 31|go_at_call 33
  refine sJ.o.mono ?_;rintro e w1 ⟨xv,T5,C5,M5,rfl,⟨Et,n1,et,Eb,n2,eb,Ec,n3,ec,Em,n4,em,rfl⟩,KD,bk⟩;have uw:=bk.size
  try replace rb:=I (rb.o.on bk bk.size)
  try replace qx:=I (cz.on qx.o (Pl.stays _) bk bk.size)
  try replace jW:=I (cz.on jW.o (Pl.stays _) bk bk.size)
  try replace qb:=I (qb.o.below bk)
  try replace eP:=I (eP.o.below bk (by omega))
  have qb:=I KD;obtain ⟨x7,rfl⟩: ∃y:ar w,w1=y.val:=⟨⟨w1,(x6).ok.trans (bk.mono (x6).ok.size)⟩,rfl⟩
  clear bk KD sJ;refine hK.out _ _ (λ_=>dl.o x7) ?_;clear hK K
  try simp only[Act.put,aM]
  refine eS 5 (λ_=>dl.o x7) ?_
  try simp only[Act.put,aK,aM]
  refine eS 6 (λ_=>dl.o x7) ?_
  try simp only[Act.put,aK,aM]
  refine eS 7 (λ_=>dl.o x7) ?_
  try simp only[Act.put,aK,aM]
  have Nl:ag (∀b,bz ⟨.slice Et n1 et,.slice Eb n2 eb,.slice Ec n3 ec,.slice Em n4 em⟩ R T5 C5 M5 b->b≠x3.val.heap.size):=I (λb hb=>by have:=(qb.o.o.lt hb).1;omega);obtain ⟨kk,uu⟩: ∃n,n=x3.val.heap.size:=⟨_,rfl⟩
  rw[<-uu]at eP Nl⊢;have MY:=aam uu;have Tf:=aam uu.symm;clear uu;exact Ah
 ):p:=h
theorem He (a:cp) (d:dr) (x:cS) (A1:Option Addr) (c1:Nat) (A2:Option Addr) (c2:Nat) (w0:World) (hR:jv w0 w0.heap.size x a) (hs:ua a)
 (hT:Ints w0 w0.heap.size (.slice A1 d.af.length c1) d.af) (hP:bg w0 w0.heap.size (.slice A2 d.patch.length c2) d.patch) (hS:bS d.patch) (kJ:d.al.size<=maxLen):
 Calls prog 9 #[eu a x,gw d A1 c1 A2 c2] w0 (bT (.bool true) w0):=by
 have Sl:=Ml a d;have HSD:ag (∀W x B1 e1 B2 e2,jv W W.heap.size x a->Ints W W.heap.size (.slice B1 d.af.length e1) d.af->bg W W.heap.size (.slice B2 d.patch.length e2) d.patch->Calls prog 31 #[eu a x,gw d B1 e1 B2 e2] W (wX ((wW a d).getD kS) (wW a d).isSome W)):=I (λW x B1 e1 B2 e2 h1 h2 h3=>Cy a d x B1 e1 B2 e2 W h1 hs h2 h3 hS kJ);have Xv:ag (∀W x B1 e1 B2 e2,jv W W.heap.size x a->Ints W W.heap.size (.slice B1 d.af.length e1) d.af->bg W W.heap.size (.slice B2 d.patch.length e2) d.patch->Calls prog 33 #[eu a x,gw d B1 e1 B2 e2] W (wX ((wW a d).getD kS) (wW a d).isSome W)):=I (λW x B1 e1 B2 e2 h1 h2 h3=>Cz a d x B1 e1 B2 e2 W h1 hs h2 h3 hS kJ);generalize (wW a d).isSome=fl at*;generalize (wW a d).getD kS=R at*;have Jv:=I Sl;have Sm:d.al.size<=9223372036854775807:=by unfold maxLen at kJ;omega
 have gQ:=I Sm;have HAS:=I hs;have KV:=I hS;clear Sl Sm hs;obtain ⟨At,ct,Ab,cb,Ac,cc,Am,cm,rfl⟩:=hR.slices;obtain ⟨W0,ku⟩: ∃W:World,W=w0.alloc (.cells #[.int .i64 a.day,.int .i64 a.rule,.slice At a.af.length ct,.slice Ab a.base.length cb,.slice Ac a.av.length cc,.slice Am a.ao.length cm] 27):=⟨_,rfl⟩
 obtain ⟨w,hW⟩: ∃W:World,W=W0.alloc (.cells #[.int .i64 d.kind,.int .i64 d.member,.slice A1 d.af.length c1,.string d.al,.int .i64 d.bO,.slice A2 d.patch.length c2,.int .i64 d.start,.int .i64 d.aB,.int .i64 d.aj] 49):=⟨_,rfl⟩
 have b0:Below w0.heap.size w0 W0:=by rw[ku];exact (aae _ _).alloc (aad _) _
 have s0:W0.heap.size=w0.heap.size+1:=by rw[ku];simp
 have tM:Below W0.heap.size W0 w:=by rw[hW];exact (aae _ _).alloc (aad _) _
 have s2:w.heap.size=w0.heap.size+2:=by rw[hW];simp[s0]
 have bW:Below w0.heap.size w0 w:=b0.trans (tM.mono b0.size);have rj:ag (Row w w0.heap.size [.int .i64 a.day,.int .i64 a.rule,.slice At a.af.length ct,.slice Ab a.base.length cb,.slice Ac a.av.length cc,.slice Am a.ao.length cm]):=I ((show Row W0 w0.heap.size _ by rw[ku];exact Row.new w0 _ _).below tM (by omega));have CK:ag (Row w (w0.heap.size+1) [.int .i64 d.kind,.int .i64 d.member,.slice A1 d.af.length c1,.string d.al,.int .i64 d.bO,.slice A2 d.patch.length c2,.int .i64 d.start,.int .i64 d.aB,.int .i64 d.aj]):=I (by rw[hW,<-s0];exact Row.new W0 _ _);have Sh:ag (fp w (w0.heap.size+1) 0 d A1 c1 A2 c2):=I (fp.row CK.o (hT.on (Pl.stays _) bW bW.size) (hP.on (Pl.stays _) bW bW.size) hS kJ);have kW:ag (jv w w.heap.size ⟨.slice At a.af.length ct,.slice Ab a.base.length cb,.slice Ac a.av.length cc,.slice Am a.ao.length cm⟩ a):=I (hR.on bW bW.size);have gf:=I bW;have lV:=I (show (w0.alloc (.cells #[.int .i64 a.day,.int .i64 a.rule,.slice At a.af.length ct,.slice Ab a.base.length cb,.slice Ac a.av.length cc,.slice Am a.ao.length cm] 27)).alloc (.cells #[.int .i64 d.kind,.int .i64 d.member,.slice A1 d.af.length c1,.string d.al,.int .i64 d.bO,.slice A2 d.patch.length c2,.int .i64 d.start,.int .i64 d.aB,.int .i64 d.aj] 49)=w by rw[hW,ku]);clear hR hT hP hS kJ hW ku b0 tM bW s0;have sw:w0.heap.size+2<=w.heap.size:=by omega
 clear s2;have Mj:=I (λy:ar w=>kW.o.on y.ok y.ok.size);have uq:=I (λy:ar w=>rj.o.below y.ok (by omega));have yU:=I (λy:ar w=>CK.o.below y.ok (by omega));have fC:=I (λy:ar w=>Sh.o.km y);have mS:=I (λy:ar w=>(gf.o.trans (y.ok.mono (by omega)):Below w0.heap.size w0 y.val));have dl:ag (∀y:ar w,y.val.cell? ⟨w0.heap.size,0,none⟩=some (.int .i64 a.day)/\y.val.cell? ⟨w0.heap.size,1,none⟩=some (.int .i64 a.rule)/\y.val.cell? ⟨w0.heap.size,2,none⟩=some (.slice At a.af.length ct)/\y.val.cell? ⟨w0.heap.size,3,none⟩=some (.slice Ab a.base.length cb)/\y.val.cell? ⟨w0.heap.size,4,none⟩=some (.slice Ac a.av.length cc)/\y.val.cell? ⟨w0.heap.size,5,none⟩=some (.slice Am a.ao.length cm)/\y.val.cell? ⟨w0.heap.size+1,0,none⟩=some (.int .i64 d.kind)/\y.val.cell? ⟨w0.heap.size+1,1,none⟩=some (.int .i64 d.member)/\y.val.cell? ⟨w0.heap.size+1,2,none⟩=some (.slice A1 d.af.length c1)/\y.val.cell? ⟨w0.heap.size+1,3,none⟩=some (.string d.al)/\y.val.cell? ⟨w0.heap.size+1,4,none⟩=some (.int .i64 d.bO)/\y.val.cell? ⟨w0.heap.size+1,5,none⟩=some (.slice A2 d.patch.length c2)/\y.val.cell? ⟨w0.heap.size+1,6,none⟩=some (.int .i64 d.start)/\y.val.cell? ⟨w0.heap.size+1,7,none⟩=some (.int .i64 d.aB)/\y.val.cell? ⟨w0.heap.size+1,8,none⟩=some (.int .i64 d.aj)):=I (λy=>⟨(uq.o y).cell 0 _ rfl,(uq.o y).cell 1 _ rfl,(uq.o y).cell 2 _ rfl,(uq.o y).cell 3 _ rfl,(uq.o y).cell 4 _ rfl,(uq.o y).cell 5 _ rfl,(yU.o y).cell 0 _ rfl,(yU.o y).cell 1 _ rfl,(yU.o y).cell 2 _ rfl,(yU.o y).cell 3 _ rfl,(yU.o y).cell 4 _ rfl,(yU.o y).cell 5 _ rfl,(yU.o y).cell 6 _ rfl,(yU.o y).cell 7 _ rfl,(yU.o y).cell 8 _ rfl⟩);unfold eu gw;have VQ:=I (λ(y:ar w) (n:Int) (h0:0<=n) (h1:n<=1048576)=>Gc a _ n y.val (Mj.o y) HAS.o h0 h1);have Xw:=I (λ(y:ar w) (n:Int) (h0:0<=n) (h1:n<=1048576)=>EB d A1 _ c1 A2 _ c2 n y.val (fC.o y).ints (fC.o y).fF KV.o gQ.o h0 h1);unfold eu at VQ;go_enter func9,ntmps9;go_upto_region 1 with (fail)
 rw[lV.o];obtain ⟨x0,dp⟩: ∃y:ar w,y.val=w:=⟨⟨w,aae _ _⟩,rfl⟩
 rw[<-dp];clear dp;have hH:=dl.o x0;go_wp2_with (fail);clear hH;refine (VQ.o x0 1048576 (by omega) (by omega)).mono ?_;rintro e1 w1 ⟨n1,rfl,kM,bw⟩;obtain ⟨x1,rfl⟩: ∃y:ar w,w1=y.val:=⟨⟨w1,x0.ok.trans (bw.mono x0.ok.size)⟩,rfl⟩
 clear bw VQ;rcases kM with kM|⟨KH,kM,Q5⟩
 ·go_wp2;go_ret;exact ⟨rfl,mS.o x1⟩
 have hrn: ¬n1<0:=by omega
 have hH:=dl.o x1;go_wp2_with (fail);clear hH;refine (Xw.o x1 n1 (by omega) (by omega)).mono ?_;rintro e2 w2 ⟨n2,rfl,rq,cL⟩;obtain ⟨x2,rfl⟩: ∃y:ar w,w2=y.val:=⟨⟨w2,x1.ok.trans (cL.mono x1.ok.size)⟩,rfl⟩
 clear cL Xw;rcases rq with rq|⟨⟨Ho,-,Hp,-⟩,rq,VR⟩
 ·go_wp2;go_ret;exact ⟨rfl,mS.o x2⟩
 have VS: ¬n2<0:=by omega
 have Hn:=I (λy:ar w=>yv a _ y.val (Mj.o y) KH);have Px:=I (λy:ar w=>Fi d A1 c1 A2 c2 y.val (fC.o y).ints (fC.o y).fF Ho Hp);have Py:=I (λ(W':World) (h:Below w.heap.size w W')=>yv a _ W' (Mj.o ⟨W',h⟩) KH);have Pz:=I (λ(W':World) (h:Below w.heap.size w W')=>Fi d A1 c1 A2 c2 W' (fC.o ⟨W',h⟩).ints (fC.o ⟨W',h⟩).fF Ho Hp);have Sn:ag (∀W',Below w.heap.size w W'->W'.cell? ⟨w0.heap.size,0,none⟩=some (.int .i64 a.day)/\W'.cell? ⟨w0.heap.size,1,none⟩=some (.int .i64 a.rule)/\W'.cell? ⟨w0.heap.size,2,none⟩=some (.slice At a.af.length ct)/\W'.cell? ⟨w0.heap.size,3,none⟩=some (.slice Ab a.base.length cb)/\W'.cell? ⟨w0.heap.size,4,none⟩=some (.slice Ac a.av.length cc)/\W'.cell? ⟨w0.heap.size,5,none⟩=some (.slice Am a.ao.length cm)/\W'.cell? ⟨w0.heap.size+1,0,none⟩=some (.int .i64 d.kind)/\W'.cell? ⟨w0.heap.size+1,1,none⟩=some (.int .i64 d.member)/\W'.cell? ⟨w0.heap.size+1,2,none⟩=some (.slice A1 d.af.length c1)/\W'.cell? ⟨w0.heap.size+1,3,none⟩=some (.string d.al)/\W'.cell? ⟨w0.heap.size+1,4,none⟩=some (.int .i64 d.bO)/\W'.cell? ⟨w0.heap.size+1,5,none⟩=some (.slice A2 d.patch.length c2)/\W'.cell? ⟨w0.heap.size+1,6,none⟩=some (.int .i64 d.start)/\W'.cell? ⟨w0.heap.size+1,7,none⟩=some (.int .i64 d.aB)/\W'.cell? ⟨w0.heap.size+1,8,none⟩=some (.int .i64 d.aj)):=I (λW' h=>dl.o ⟨W',h⟩);have Xx:ag (∀W',Below w.heap.size w W'->Below w0.heap.size w0 W'):=I (λW' h=>mS.o ⟨W',h⟩);unfold vK eu at Py;unfold KB at Pz;have ML:=I Ho;have Ei:=I Hp;have Mu:=I KH;clear KH Ho Hp;unfold vK eu at Hn;unfold KB at Px;go_upto_region 8 with (fail)
 clear kM Q5 hrn rq VR VS;go_cut [6,7] (λs6 s7 wx=> ∃k Et n1 et Eb n2 eb Ec n3 ec Em n4 em,s6= .pointer (some ⟨k,0,none⟩)/\s7= .bool fl/\Row wx k [.int .i64 R.day,.int .i64 R.rule,.slice Et n1 et,.slice Eb n2 eb,.slice Ec n3 ec,.slice Em n4 em]/\jv wx wx.heap.size ⟨.slice Et n1 et,.slice Eb n2 eb,.slice Ec n3 ec,.slice Em n4 em⟩ R/\Below w.heap.size w wx/\k<wx.heap.size)
 case first=>
  refine dq 9 (λw'=>w'.cell? ⟨w0.heap.size,0,none⟩=some (.int .i64 a.day)/\w'.cell? ⟨w0.heap.size,1,none⟩=some (.int .i64 a.rule)/\w'.cell? ⟨w0.heap.size,2,none⟩=some (.slice At a.af.length ct)/\w'.cell? ⟨w0.heap.size,3,none⟩=some (.slice Ab a.base.length cb)/\w'.cell? ⟨w0.heap.size,4,none⟩=some (.slice Ac a.av.length cc)/\w'.cell? ⟨w0.heap.size,5,none⟩=some (.slice Am a.ao.length cm)/\w'.cell? ⟨w0.heap.size+1,0,none⟩=some (.int .i64 d.kind)/\w'.cell? ⟨w0.heap.size+1,1,none⟩=some (.int .i64 d.member)/\w'.cell? ⟨w0.heap.size+1,2,none⟩=some (.slice A1 d.af.length c1)/\w'.cell? ⟨w0.heap.size+1,3,none⟩=some (.string d.al)/\w'.cell? ⟨w0.heap.size+1,4,none⟩=some (.int .i64 d.bO)/\w'.cell? ⟨w0.heap.size+1,5,none⟩=some (.slice A2 d.patch.length c2)/\w'.cell? ⟨w0.heap.size+1,6,none⟩=some (.int .i64 d.start)/\w'.cell? ⟨w0.heap.size+1,7,none⟩=some (.int .i64 d.aB)/\w'.cell? ⟨w0.heap.size+1,8,none⟩=some (.int .i64 d.aj)) (by kernel_rfl) ?_;obtain ⟨x3,yS⟩: ∃y:ar w,y.val=(x2.val).drew:=⟨⟨(x2.val).drew,(x2.ok).drew⟩,rfl⟩
  rw[<-yS];clear yS;have Sk:=HSD;exact KC
 case rest=>
  obtain ⟨kw,Et,n1,et,Eb,n2,eb,Ec,n3,ec,Em,n4,em,rfl,rfl,hk,hr,hb,qg⟩:=hcut;obtain ⟨y8,rfl⟩: ∃y:ar w,wc=y.val:=⟨⟨wc,hb⟩,rfl⟩
  have xT:=I hk;have OD:=I hr;clear hk hr hb;have hH:=dl.o y8;go_wp2_with (fail);clear hH;refine (Hn.o y8).mono ?_;rintro e w1 ⟨x',T0,C0,M0,rfl,hO,bk⟩;obtain ⟨Bt,dt,Bb,db,Bc,dc,Bm,dm,rfl⟩:=hO.r.slices;go_upto_region 10 with (fail)
  obtain ⟨V,hV⟩: ∃X,X=w1.alloc (.cells #[.int .i64 a.day,.int .i64 a.rule,.slice Bt a.af.length dt,.slice Bb a.base.length db,.slice Bc a.av.length dc,.slice Bm a.ao.length dm] 36):=⟨_,rfl⟩
  have bV:Below w1.heap.size w1 V:=by rw[hV];exact (aae _ _).alloc (aad _) _
  have Xy:Row V w1.heap.size [.int .i64 a.day,.int .i64 a.rule,.slice Bt a.af.length dt,.slice Bb a.base.length db,.slice Bc a.av.length dc,.slice Bm a.ao.length dm]:=by rw[hV];exact Row.new w1 _ _
  have sV:w1.heap.size+1<=V.heap.size:=by rw[hV];simp
  have Ty:Below y8.val.heap.size y8.val V:=bk.trans (bV.mono bk.size);rw[<-hV];clear hV;obtain ⟨yV,rfl⟩: ∃y:ar w,V=y.val:=⟨⟨V,y8.ok.trans (Ty.mono y8.ok.size)⟩,rfl⟩
  have wi:=I (hO.below bV);have Qg:ag (∀b,bz ⟨.slice Bt a.af.length dt,.slice Bb a.base.length db,.slice Bc a.av.length dc,.slice Bm a.ao.length dm⟩ a T0 C0 M0 b->y8.val.heap.size<=b/\b<w1.heap.size):=I (λb hb=>hO.lt hb);have s1:=bk.size;clear hO bk;have hH:=dl.o yV;go_wp2_with (fail);clear hH;refine (Px.o yV).mono ?_;rintro e w2 ⟨G1,e1,G2,e2,rfl,vC,xa,Xz,Tz,XA⟩;go_upto_region 11 with (fail)
  obtain ⟨V2,mi⟩: ∃X,X=w2.alloc (.cells #[.int .i64 d.kind,.int .i64 d.member,.slice G1 d.af.length e1,.string d.al,.int .i64 d.bO,.slice G2 d.patch.length e2,.int .i64 d.start,.int .i64 d.aB,.int .i64 d.aj] 55):=⟨_,rfl⟩
  have tK:Below w2.heap.size w2 V2:=by rw[mi];exact (aae _ _).alloc (aad _) _
  have Sp:Row V2 w2.heap.size [.int .i64 d.kind,.int .i64 d.member,.slice G1 d.af.length e1,.string d.al,.int .i64 d.bO,.slice G2 d.patch.length e2,.int .i64 d.start,.int .i64 d.aB,.int .i64 d.aj]:=by rw[mi];exact Row.new w2 _ _
  have Ex:w2.heap.size+1<=V2.heap.size:=by rw[mi];simp
  have b2:Below yV.val.heap.size yV.val V2:=Tz.trans (tK.mono Tz.size);rw[<-mi];clear mi;obtain ⟨y2,rfl⟩: ∃y:ar w,V2=y.val:=⟨⟨V2,yV.ok.trans (b2.mono yV.ok.size)⟩,rfl⟩
  have jh:=I (vC.on tK);have ju:=I (xa.on tK);have Ki:=I Xz;have VT:=I XA;have xp:=I (Xy.below b2 (by omega));have sE:=I Sp
  replace wi:=I (wi.o.below b2)
  have s2:=Tz.size;have VU:Below y8.val.heap.size y8.val y2.val:=Ty.trans (b2.mono Ty.size);clear vC xa Xz XA Xy Sp Tz bV tK Ty b2;have p0:=xp.o.cell 0 _ rfl;have p1:=xp.o.cell 1 _ rfl;have p2:=xp.o.cell 2 _ rfl;have p3:=xp.o.cell 3 _ rfl;have p4:=xp.o.cell 4 _ rfl;have p5:=xp.o.cell 5 _ rfl;have t0:=sE.o.cell 0 _ rfl;have t1:=sE.o.cell 1 _ rfl;have t2:=sE.o.cell 2 _ rfl;have t3:=sE.o.cell 3 _ rfl;have t4:=sE.o.cell 4 _ rfl;have t5:=sE.o.cell 5 _ rfl;have t6:=sE.o.cell 6 _ rfl;have t7:=sE.o.cell 7 _ rfl;have t8:=sE.o.cell 8 _ rfl;have VV:=I (Xv.o y2.val _ _ _ _ _ wi.o.r (jh.o.mo (size:=1) λ_=>rfl) (ju.o.mo (size:=4) λ_=>rfl));unfold wX eu gw at VV;go_wp2_with (fail);refine VV.o.mono ?_;rintro e w3 ⟨xg,Tg,Cg,Mg,rfl,⟨Ft,m1,ft,Fb,m2,fb,Fc,m3,fc,Fm,m4,fm,rfl⟩,VW,TA⟩;clear VV p0 p1 p2 p3 p4 p5 t0 t1 t2 t3 t4 t5 t6 t7 t8;go_upto_region 12 with (fail)
  obtain ⟨V3,ql⟩: ∃X,X=w3.alloc (.cells #[.int .i64 R.day,.int .i64 R.rule,.slice Ft m1 ft,.slice Fb m2 fb,.slice Fc m3 fc,.slice Fm m4 fm] 36):=⟨_,rfl⟩
  have tJ:Below w3.heap.size w3 V3:=by rw[ql];exact (aae _ _).alloc (aad _) _
  have Sq:Row V3 w3.heap.size [.int .i64 R.day,.int .i64 R.rule,.slice Ft m1 ft,.slice Fb m2 fb,.slice Fc m3 fc,.slice Fm m4 fm]:=by rw[ql];exact Row.new w3 _ _
  have Fa:w3.heap.size+1<=V3.heap.size:=by rw[ql];simp
  have b3:Below y2.val.heap.size y2.val V3:=TA.trans (tJ.mono TA.size);rw[<-ql];clear ql;obtain ⟨y3,rfl⟩: ∃y:ar w,V3=y.val:=⟨⟨V3,y2.ok.trans (b3.mono y2.ok.size)⟩,rfl⟩
  have Ai:=I (VW.below tJ).o;have TB:ag (∀b,bz ⟨.slice Ft m1 ft,.slice Fb m2 fb,.slice Fc m3 fc,.slice Fm m4 fm⟩ R Tg Cg Mg b->y2.val.heap.size<=b/\b<w3.heap.size):=I (λb hb=>VW.o.lt hb);have mT:=I Sq
  replace jh:=I (jh.o.on b3)
  replace ju:=I (ju.o.on b3)
  replace xp:=I (xp.o.below b3 (by omega))
  replace sE:=I (sE.o.below b3 (by omega))
  replace wi:=I (wi.o.below b3)
  have s3:=TA.size;have XB:Below y8.val.heap.size y8.val y3.val:=VU.trans (b3.mono VU.size);clear VW Sq TA tJ b3 VU;have kx:=I XB;clear XB;have p0:=mT.o.cell 0 _ rfl;have p1:=mT.o.cell 1 _ rfl;have p2:=mT.o.cell 2 _ rfl;have p3:=mT.o.cell 3 _ rfl;have p4:=mT.o.cell 4 _ rfl;have p5:=mT.o.cell 5 _ rfl;have lP:=xT.o.below kx.o qg;have t0:=lP.cell 0 _ rfl;have t1:=lP.cell 1 _ rfl;have t2:=lP.cell 2 _ rfl;have t3:=lP.cell 3 _ rfl;have t4:=lP.cell 4 _ rfl;have t5:=lP.cell 5 _ rfl;clear lP;have PI:(fl !=fl)=false:=by cases fl<;>rfl
  have HE:=I (pU R _ _ y3.val Ai.o.r (OD.o.on kx.o kx.o.size));unfold eu at HE;go_wp2_with (fail);refine HE.o.mono ?_;rintro e w4 ⟨rfl,b4⟩;clear HE p0 p1 p2 p3 p4 p5 t0 t1 t2 t3 t4 t5;obtain ⟨y4,rfl⟩: ∃y:ar w,w4=y.val:=⟨⟨w4,y3.ok.trans (b4.mono y3.ok.size)⟩,rfl⟩
  replace Ai:=I (Ai.o.below b4)
  replace jh:=I (jh.o.on b4)
  replace ju:=I (ju.o.on b4)
  replace xp:=I (xp.o.below b4 (by omega))
  replace sE:=I (sE.o.below b4 (by omega))
  replace mT:=I (mT.o.below b4 (by omega))
  replace wi:=I (wi.o.below b4)
  replace kx:=I (kx.o.trans (b4.mono kx.o.size))
  have s4:=b4.size;clear b4;go_upto_region 14 with (fail)
  have Mn:ag (∀W',Below y4.val.heap.size y4.val W'->W'.cell? ⟨w1.heap.size,0,none⟩=some (.int .i64 a.day)/\W'.cell? ⟨w1.heap.size,1,none⟩=some (.int .i64 a.rule)/\W'.cell? ⟨w1.heap.size,2,none⟩=some (.slice Bt a.af.length dt)/\W'.cell? ⟨w1.heap.size,3,none⟩=some (.slice Bb a.base.length db)/\W'.cell? ⟨w1.heap.size,4,none⟩=some (.slice Bc a.av.length dc)/\W'.cell? ⟨w1.heap.size,5,none⟩=some (.slice Bm a.ao.length dm)):=I (λW' h=>by have r:=xp.o.below h (by omega);exact ⟨r.cell 0 _ rfl,r.cell 1 _ rfl,r.cell 2 _ rfl,r.cell 3 _ rfl,r.cell 4 _ rfl,r.cell 5 _ rfl⟩);refine dq 3 (λw'=>w'.cell? ⟨w1.heap.size,0,none⟩=some (.int .i64 a.day)/\w'.cell? ⟨w1.heap.size,1,none⟩=some (.int .i64 a.rule)/\w'.cell? ⟨w1.heap.size,2,none⟩=some (.slice Bt a.af.length dt)/\w'.cell? ⟨w1.heap.size,3,none⟩=some (.slice Bb a.base.length db)/\w'.cell? ⟨w1.heap.size,4,none⟩=some (.slice Bc a.av.length dc)/\w'.cell? ⟨w1.heap.size,5,none⟩=some (.slice Bm a.ao.length dm)) (by kernel_rfl) ?_;obtain ⟨y5,PA⟩: ∃y:ar w,y.val=y4.val.drew:=⟨⟨y4.val.drew,y4.ok.drew⟩,rfl⟩
  have b5:Below y4.val.heap.size y4.val y5.val:=by rw[PA];exact (aae _ _).drew
  rw[<-PA];clear PA;have aE:=Mn.o _ b5;refine cl 0 ?_
  try simp only[Act.put,aK,aM]
  clear aE;have hH:=dl.o y5;refine cV 1 (λK hK=>?_)
  try simp only[aK]
  go_simp;refine hK.out _ _ (λ_=>Mn.o _ b5) ?_;clear hK K
  try simp only[Act.put,aM]
  clear hH;refine cV 2 (λK hK=>?_)
  try simp only[aK]
  go_simp;go_at_call 13;refine (Hn.o y5).mono ?_;rintro e w6 ⟨x'',T9,C9,M9,rfl,VX,b6⟩;obtain ⟨Ht,ht,Hb,hb,Hc,hc,Hm,hm,rfl⟩:=VX.r.slices;have Hu:Below y4.val.heap.size y4.val w6:=b5.trans (b6.mono b5.size);have HE:=I (pU a _ _ w6 (wi.o.below Hu).r VX.r);unfold eu at HE;refine hK.out _ _ (λ_=>Mn.o _ Hu) ?_;clear hK K
  try simp only[]
  refine cV 3 (λK hK=>?_)
  try simp only[aK]
  go_simp;go_at_call 16;refine HE.o.mono ?_;rintro e w7 ⟨rfl,b7⟩;have xq:Below y4.val.heap.size y4.val w7:=Hu.trans (b7.mono Hu.size);refine hK.out _ _ (λh=>by simp at h) ?_;clear hK K
  try simp only[Act.put,aM]
  refine cV 4 (λK hK=>?_)
  try simp only[aK]
  go_simp;refine hK.out _ _ (λh=>by simp at h) ?_;clear hK K
  try simp only[Act.put,aM]
  refine dh (by kernel_rfl) ?_ _;clear HE Mn VX b7 b6 Hu b5;obtain ⟨y7,rfl⟩: ∃y:ar w,w7=y.val:=⟨⟨w7,y4.ok.trans (xq.mono y4.ok.size)⟩,rfl⟩
  replace Ai:=I (Ai.o.below xq)
  replace jh:=I (jh.o.on xq)
  replace ju:=I (ju.o.on xq)
  replace xp:=I (xp.o.below xq (by omega))
  replace sE:=I (sE.o.below xq (by omega))
  replace mT:=I (mT.o.below xq (by omega))
  replace wi:=I (wi.o.below xq)
  replace kx:=I (kx.o.trans (xq.mono kx.o.size))
  have s7:=xq.size;clear xq;go_upto_region 16 with (fail)
  have Mn:ag (∀W',Below y7.val.heap.size y7.val W'->W'.cell? ⟨w2.heap.size,0,none⟩=some (.int .i64 d.kind)/\W'.cell? ⟨w2.heap.size,1,none⟩=some (.int .i64 d.member)/\W'.cell? ⟨w2.heap.size,2,none⟩=some (.slice G1 d.af.length e1)/\W'.cell? ⟨w2.heap.size,3,none⟩=some (.string d.al)/\W'.cell? ⟨w2.heap.size,4,none⟩=some (.int .i64 d.bO)/\W'.cell? ⟨w2.heap.size,5,none⟩=some (.slice G2 d.patch.length e2)/\W'.cell? ⟨w2.heap.size,6,none⟩=some (.int .i64 d.start)/\W'.cell? ⟨w2.heap.size,7,none⟩=some (.int .i64 d.aB)/\W'.cell? ⟨w2.heap.size,8,none⟩=some (.int .i64 d.aj)):=I (λW' h=>by have r:=sE.o.below h (by omega);exact ⟨r.cell 0 _ rfl,r.cell 1 _ rfl,r.cell 2 _ rfl,r.cell 3 _ rfl,r.cell 4 _ rfl,r.cell 5 _ rfl,r.cell 6 _ rfl,r.cell 7 _ rfl,r.cell 8 _ rfl⟩);refine dq 3 (λw'=>w'.cell? ⟨w2.heap.size,0,none⟩=some (.int .i64 d.kind)/\w'.cell? ⟨w2.heap.size,1,none⟩=some (.int .i64 d.member)/\w'.cell? ⟨w2.heap.size,2,none⟩=some (.slice G1 d.af.length e1)/\w'.cell? ⟨w2.heap.size,3,none⟩=some (.string d.al)/\w'.cell? ⟨w2.heap.size,4,none⟩=some (.int .i64 d.bO)/\w'.cell? ⟨w2.heap.size,5,none⟩=some (.slice G2 d.patch.length e2)/\w'.cell? ⟨w2.heap.size,6,none⟩=some (.int .i64 d.start)/\w'.cell? ⟨w2.heap.size,7,none⟩=some (.int .i64 d.aB)/\w'.cell? ⟨w2.heap.size,8,none⟩=some (.int .i64 d.aj)) (by kernel_rfl) ?_;obtain ⟨y5,PA⟩: ∃y:ar w,y.val=y7.val.drew:=⟨⟨y7.val.drew,y7.ok.drew⟩,rfl⟩
  have b5:Below y7.val.heap.size y7.val y5.val:=by rw[PA];exact (aae _ _).drew
  rw[<-PA];clear PA;have aE:=Mn.o _ b5;refine cl 0 ?_
  try simp only[Act.put,aK,aM]
  clear aE;have hH:=dl.o y5;refine cV 1 (λK hK=>?_)
  try simp only[aK]
  go_simp;refine hK.out _ _ (λ_=>Mn.o _ b5) ?_;clear hK K
  try simp only[Act.put,aM]
  clear hH;refine cV 2 (λK hK=>?_)
  try simp only[aK]
  go_simp;go_at_call 32;refine (Px.o y5).mono ?_;rintro e w6 ⟨L1,f1,L2,f2,rfl,XC,XD,-,b6,-⟩;have Hu:Below y7.val.heap.size y7.val w6:=b5.trans (b6.mono b5.size);have HE:=I (CU d G1 _ e1 G2 _ e2 L1 _ f1 L2 _ f2 w6 ((jh.o.on Hu).mo (size:=1) λ_=>rfl) ((ju.o.on Hu).mo (size:=4) λ_=>rfl) (XC.mo (size:=1) λ_=>rfl) (XD.mo (size:=4) λ_=>rfl));refine hK.out _ _ (λ_=>Mn.o _ Hu) ?_;clear hK K
  try simp only[Act.put,aM]
  refine cV 3 (λK hK=>?_)
  try simp only[aK]
  go_simp;go_at_call 34;refine HE.o.mono ?_;rintro e w9 ⟨rfl,b7⟩;have xq:Below y7.val.heap.size y7.val w9:=Hu.trans (b7.mono Hu.size);refine hK.out _ _ (λh=>by simp at h) ?_;clear hK K
  try simp only[Act.put,aM]
  refine cV 4 (λK hK=>?_)
  try simp only[aK]
  go_simp;refine hK.out _ _ (λh=>by simp at h) ?_;clear hK K
  try simp only[Act.put,aM]
  refine dh (by kernel_rfl) ?_ _;clear HE Mn XC XD b7 b6 Hu b5
  replace Ai:=I (Ai.o.below xq)
  replace jh:=I (jh.o.on xq)
  replace ju:=I (ju.o.on xq)
  replace xp:=I (xp.o.below xq (by omega))
  replace sE:=I (sE.o.below xq (by omega))
  replace mT:=I (mT.o.below xq (by omega))
  replace wi:=I (wi.o.below xq)
  replace kx:=I (kx.o.trans (xq.mono kx.o.size))
  have s9:=xq.size;clear xq;have p0:=xp.o.cell 0 _ rfl;have p1:=xp.o.cell 1 _ rfl;have p2:=xp.o.cell 2 _ rfl;have p3:=xp.o.cell 3 _ rfl;have p4:=xp.o.cell 4 _ rfl;have p5:=xp.o.cell 5 _ rfl;go_wp2_with (fail);have Qh:=Mu.o.Rb wi.o.tm wi.o.cm wi.o.mm;obtain ⟨Mk,Sr⟩:=Mm Qh;refine (uc a _ T0 C0 M0 _ 1 w9 wi.o Qh (by omega) (by omega)).mono ?_;rintro e Ti ⟨rfl,-,tX⟩;generalize tq 1 a T0 C0 M0=kk at*
  replace sE:=I (sE.o.aD (by omega) tX (λe=>by have:=Qg.o _ e;omega))
  replace mT:=I (mT.o.aD (by omega) tX (λe=>by have:=Qg.o _ e;omega))
  replace jh:=I (jh.o.aD tX (λb hb e=>by have q1:=(ay.dw jh.o hb).1;have q2:=Qg.o _ e;omega))
  replace ju:=I (ju.o.aD tX (λb hb e=>by have q1:=(ay.dw ju.o hb).1;have q2:=Qg.o _ e;omega))
  replace Ai:=I (Ai.o.aD tX (λb hb e=>by have q1:=TB.o b hb;have q2:=Qg.o _ e;omega))
  replace kx:=I (kx.o.trans (tX.below kx.o.size (λb hb=>(Qg.o b hb).1)))
  have s10:=tX.size;clear tX Qh wi xp p0 p1 p2 p3 p4 p5;have XE:=I (And.intro Mk Sr);clear Mk Sr;have t0:=sE.o.cell 0 _ rfl;have t1:=sE.o.cell 1 _ rfl;have t2:=sE.o.cell 2 _ rfl;have t3:=sE.o.cell 3 _ rfl;have t4:=sE.o.cell 4 _ rfl;have t5:=sE.o.cell 5 _ rfl;have t6:=sE.o.cell 6 _ rfl;have t7:=sE.o.cell 7 _ rfl;have t8:=sE.o.cell 8 _ rfl;go_wp2_with (fail);refine (xU d G1 e1 G2 e2 _ kk Ti jh.o ju.o Ki.o XE.o.1 XE.o.2 ML.o Ei.o).mono ?_;rintro e KX ⟨rfl,tX⟩;have xz: ¬((kk+d.af.length+4*d.patch.length:Nat):Int)<0:=by omega
  generalize kk+d.af.length+4*d.patch.length=kn at*
  replace mT:=I (mT.o.aD (by omega) tX (λe=>by have:=VT.o _ e;omega))
  replace Ai:=I (Ai.o.aD tX (λb hb e=>by have q1:=TB.o b hb;have q2:=VT.o _ e;omega))
  replace kx:=I (kx.o.trans (tX.below kx.o.size (λb hb=>by have q2:=VT.o _ hb;omega)))
  have s11:=tX.size;clear tX t0 t1 t2 t3 t4 t5 t6 t7 t8 jh ju;have p0:=mT.o.cell 0 _ rfl;have p1:=mT.o.cell 1 _ rfl;have p2:=mT.o.cell 2 _ rfl;have p3:=mT.o.cell 3 _ rfl;have p4:=mT.o.cell 4 _ rfl;have p5:=mT.o.cell 5 _ rfl;have lP:=xT.o.below kx.o qg;have t0:=lP.cell 0 _ rfl;have t1:=lP.cell 1 _ rfl;have t2:=lP.cell 2 _ rfl;have t3:=lP.cell 3 _ rfl;have t4:=lP.cell 4 _ rfl;have t5:=lP.cell 5 _ rfl;clear lP;have HE:=I (pU R _ _ KX Ai.o.r (OD.o.on kx.o kx.o.size));unfold eu at HE;go_wp2_with (fail);refine HE.o.mono ?_;rintro e Tj ⟨rfl,b4⟩;clear HE p0 p1 p2 p3 p4 p5 t0 t1 t2 t3 t4 t5 xz
  replace mT:=I (mT.o.below b4 (by omega))
  replace Ai:=I (Ai.o.below b4)
  replace kx:=I (kx.o.trans (b4.mono kx.o.size))
  have s12:=b4.size;clear b4;obtain ⟨Qh,NY,l1,l3,l4⟩:=Jv.o.marks Ai.o.tm Ai.o.cm Ai.o.mm;have p0:=mT.o.cell 0 _ rfl;have p1:=mT.o.cell 1 _ rfl;have p2:=mT.o.cell 2 _ rfl;have p3:=mT.o.cell 3 _ rfl;have p4:=mT.o.cell 4 _ rfl;have p5:=mT.o.cell 5 _ rfl;go_wp2_with (fail);refine (uc R _ Tg Cg Mg _ 1 Tj Ai.o Qh (by omega) (by omega)).mono ?_;rintro e VY ⟨rfl,hM,tX⟩
  replace mT:=I (mT.o.aD (by omega) tX (λe=>by have:=TB.o _ e;omega))
  replace kx:=I (kx.o.trans (tX.below kx.o.size (λb hb=>by have q2:=TB.o _ hb;omega)))
  have s13:=tX.size;have HM:=I hM;have XF:=I (λW' (h:Below VY.heap.size VY W')=>Cu R ⟨.slice Ft m1 ft,.slice Fb m2 fb,.slice Fc m3 fc,.slice Fm m4 fm⟩ Tg Cg Mg _ W' R.day R.rule (HM.o.below h) (by omega) (by have:=Jv.o.b0;omega) (by omega) (by omega) NY);clear tX Qh hM Ai p0 p1 p2 p3 p4 p5 l1 l3 l4 NY;generalize tq 1 R Tg Cg Mg=ee at*;have E': ¬((ee:Nat):Int)<0:=by omega
  have heq:(((ee:Nat):Int) !=((ee:Nat):Int))=false:=by simp
  have p0:=mT.o.cell 0 _ rfl;have p1:=mT.o.cell 1 _ rfl;have p2:=mT.o.cell 2 _ rfl;have p3:=mT.o.cell 3 _ rfl;have p4:=mT.o.cell 4 _ rfl;have p5:=mT.o.cell 5 _ rfl;go_wp2_with (fail);refine (XF.o VY (aae _ _)).mono ?_;rintro e PB ⟨rfl,b4⟩;have Ss:=I b4
  replace mT:=I (mT.o.below b4 (by omega))
  replace kx:=I (kx.o.trans (b4.mono kx.o.size))
  have s14:=b4.size;clear b4 p0 p1 p2 p3 p4 p5;go_upto_region 31 with (fail)
  have Aj:Below w.heap.size w PB:=y8.ok.trans (kx.o.mono y8.ok.size);have Hn:=I (λy:ar PB=>Py.o y.val (Aj.trans (y.ok.mono Aj.size)));have Px:=I (λy:ar PB=>Pz.o y.val (Aj.trans (y.ok.mono Aj.size)));have dl:ag (∀y:ar PB,y.val.cell? ⟨w0.heap.size,0,none⟩=some (.int .i64 a.day)/\y.val.cell? ⟨w0.heap.size,1,none⟩=some (.int .i64 a.rule)/\y.val.cell? ⟨w0.heap.size,2,none⟩=some (.slice At a.af.length ct)/\y.val.cell? ⟨w0.heap.size,3,none⟩=some (.slice Ab a.base.length cb)/\y.val.cell? ⟨w0.heap.size,4,none⟩=some (.slice Ac a.av.length cc)/\y.val.cell? ⟨w0.heap.size,5,none⟩=some (.slice Am a.ao.length cm)/\y.val.cell? ⟨w0.heap.size+1,0,none⟩=some (.int .i64 d.kind)/\y.val.cell? ⟨w0.heap.size+1,1,none⟩=some (.int .i64 d.member)/\y.val.cell? ⟨w0.heap.size+1,2,none⟩=some (.slice A1 d.af.length c1)/\y.val.cell? ⟨w0.heap.size+1,3,none⟩=some (.string d.al)/\y.val.cell? ⟨w0.heap.size+1,4,none⟩=some (.int .i64 d.bO)/\y.val.cell? ⟨w0.heap.size+1,5,none⟩=some (.slice A2 d.patch.length c2)/\y.val.cell? ⟨w0.heap.size+1,6,none⟩=some (.int .i64 d.start)/\y.val.cell? ⟨w0.heap.size+1,7,none⟩=some (.int .i64 d.aB)/\y.val.cell? ⟨w0.heap.size+1,8,none⟩=some (.int .i64 d.aj)):=I (λy=>Sn.o y.val (Aj.trans (y.ok.mono Aj.size)));have St:ag (∀W',Below PB.heap.size PB W'->Below w0.heap.size w0 W'):=I (λW' h=>Xx.o W' (Aj.trans (h.mono Aj.size)));have aab:=kx.o.size;clear Aj Py Pz Sn Xx;obtain ⟨w,rfl⟩: ∃v,v=PB:=⟨_,rfl⟩
  go_cut [15,16] (λs6 s7 wx=> ∃k Et n1 et Eb n2 eb Ec n3 ec Em n4 em,s6= .pointer (some ⟨k,0,none⟩)/\s7= .bool fl/\Row wx k [.int .i64 R.day,.int .i64 R.rule,.slice Et n1 et,.slice Eb n2 eb,.slice Ec n3 ec,.slice Em n4 em]/\jv wx wx.heap.size ⟨.slice Et n1 et,.slice Eb n2 eb,.slice Ec n3 ec,.slice Em n4 em⟩ R/\Below w.heap.size w wx/\k<wx.heap.size)
  case first=>
   refine dq 9 (λw'=>w'.cell? ⟨w0.heap.size,0,none⟩=some (.int .i64 a.day)/\w'.cell? ⟨w0.heap.size,1,none⟩=some (.int .i64 a.rule)/\w'.cell? ⟨w0.heap.size,2,none⟩=some (.slice At a.af.length ct)/\w'.cell? ⟨w0.heap.size,3,none⟩=some (.slice Ab a.base.length cb)/\w'.cell? ⟨w0.heap.size,4,none⟩=some (.slice Ac a.av.length cc)/\w'.cell? ⟨w0.heap.size,5,none⟩=some (.slice Am a.ao.length cm)/\w'.cell? ⟨w0.heap.size+1,0,none⟩=some (.int .i64 d.kind)/\w'.cell? ⟨w0.heap.size+1,1,none⟩=some (.int .i64 d.member)/\w'.cell? ⟨w0.heap.size+1,2,none⟩=some (.slice A1 d.af.length c1)/\w'.cell? ⟨w0.heap.size+1,3,none⟩=some (.string d.al)/\w'.cell? ⟨w0.heap.size+1,4,none⟩=some (.int .i64 d.bO)/\w'.cell? ⟨w0.heap.size+1,5,none⟩=some (.slice A2 d.patch.length c2)/\w'.cell? ⟨w0.heap.size+1,6,none⟩=some (.int .i64 d.start)/\w'.cell? ⟨w0.heap.size+1,7,none⟩=some (.int .i64 d.aB)/\w'.cell? ⟨w0.heap.size+1,8,none⟩=some (.int .i64 d.aj)) (by kernel_rfl) ?_;obtain ⟨x3,yS⟩: ∃y:ar w,y.val=(w).drew:=⟨⟨(w).drew,((aae w.heap.size w)).drew⟩,rfl⟩
   rw[<-yS];clear yS;have Sk:=Xv;exact KC
  case rest=>
   obtain ⟨kh,Jt,j1,jt,Jb,j2,jb,Jc,j3,jc,Jm,j4,jm,rfl,rfl,hk,hr,hb,aac⟩:=hcut;have xS:=I hb;have B8:=kx.o.trans (hb.mono kx.o.size);have lP:=xT.o.below B8 qg;have p0:=hk.cell 0 _ rfl;have p1:=hk.cell 1 _ rfl;have p2:=hk.cell 2 _ rfl;have p3:=hk.cell 3 _ rfl;have p4:=hk.cell 4 _ rfl;have p5:=hk.cell 5 _ rfl;have t0:=lP.cell 0 _ rfl;have t1:=lP.cell 1 _ rfl;have t2:=lP.cell 2 _ rfl;have t3:=lP.cell 3 _ rfl;have t4:=lP.cell 4 _ rfl;have t5:=lP.cell 5 _ rfl;have HE:=I (pU R _ _ wc hr (OD.o.on B8 B8.size));unfold eu at HE;clear lP B8 hk hr hb;go_wp2_with (fail);refine HE.o.mono ?_;rintro e w20 ⟨rfl,XG⟩;clear HE p0 p1 p2 p3 p4 p5 t0 t1 t2 t3 t4 t5;have Mo:=I (xS.o.trans (XG.mono xS.o.size));have EF:=mT.o.below Mo.o (by omega);have p0:=EF.cell 0 _ rfl;have p1:=EF.cell 1 _ rfl;have p2:=EF.cell 2 _ rfl;have p3:=EF.cell 3 _ rfl;have p4:=EF.cell 4 _ rfl;have p5:=EF.cell 5 _ rfl;clear EF XG;go_wp2_with (fail);refine (XF.o w20 (Ss.o.trans (Mo.o.mono Ss.o.size))).mono ?_;rintro e w21 ⟨rfl,XH⟩;have eB:=I (St.o w21 (Mo.o.trans (XH.mono Mo.o.size)));clear XH p0 p1 p2 p3 p4 p5;go_wp2;go_ret;exact ⟨rfl,eB.o⟩
end Go.Proofs.YtnandbammmcncaaGreat

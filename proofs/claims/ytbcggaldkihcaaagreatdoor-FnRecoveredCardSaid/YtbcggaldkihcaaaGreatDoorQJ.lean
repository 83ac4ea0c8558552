/- The text of a deed, walked: the program's. -/
import Derived.Test.YtbcggaldkihcaaaGreatDoorQA
import Derived.Deep.RegionHeld3
import Derived.Lib.Split
set_option maxHeartbeats 4000000
set_option maxRecDepth 100000
namespace Go.Proofs.YtbcggaldkihcaaaGreatDoor
open Tryz
open Go.RowKit Go.Lib
def Ql (n:Int):List UInt8:=if n=0 then [110,111,110,101]else if n=1 then [121,101,115]else if n=2 then [110,111]else [98,108,97,110,107]
def H6 (d:dr):List UInt8:=
 if d.kind=1 then (if d.af=[]then [116,114,117,115,116,32]++itoa d.member else [116,114,117,115,116,32]++itoa d.member++[32]++Qk d.af [44])
 else if d.kind=2 then [118,111,116,101,32]++itoa d.member++[32]++d.al.toList++[32]++Ql d.bO
 else if d.kind=3 then [112,114,111,112,111,115,101,32]++itoa d.member++[32]++d.al.toList++[32]++Qk [d.aj,d.start,d.aB] [32]++[32]++Qi (sN d.patch)
 else [110,101,120,116]
def Su (d:dr):List UInt8:=if cA d=true then H6 d else []
theorem afi {d:dr} (h:cA d=false):Su d=[]:=by unfold Su;rw[if_neg (by rw[h];simp)]
theorem afj {d:dr} (h:cA d=true):Su d=H6 d:=by unfold Su;rw[if_pos h]
theorem H7 {P:Program} (l r:List UInt8) (hl:l.length<=8388608) (hr:r.length<=8388608): ∃T:List UInt8,T=l++r/\T.length<=l.length+r.length/\ ∀w,(Op.stringOp .add ⟨l.toArray⟩ ⟨r.toArray⟩).run P w= .ok (.string ⟨T.toArray⟩) w:=
 ⟨_,rfl,by simp,λw=>Ns l r hl hr w⟩
theorem ag6 {P:Program} (l:List UInt8) (b:ByteArray) (hl:l.length<=8388608) (hr:b.toList.length<=8388608): ∃T:List UInt8,T=l++b.toList/\T.length<=l.length+b.toList.length/\ ∀w,(Op.stringOp .add ⟨l.toArray⟩ b).run P w= .ok (.string ⟨T.toArray⟩) w:=
 ⟨_,rfl,by simp,λw=>aeb l b hl hr w⟩
theorem aan (w:World):Calls prog 20 #[] w (λe w'=>e= .returned (.slice (some ⟨w.heap.size,0,none⟩) 4 4)/\w'=w.alloc (.cells #[.string ⟨#[110,111,110,101]⟩,.string ⟨#[121,101,115]⟩,.string ⟨#[110,111]⟩,.string ⟨#[98,108,97,110,107]⟩] 9)):=by
 go_enter func20,ntmps20;go_wp2;go_ret;exact ⟨rfl,rfl⟩
theorem ac' {d:dr} (h:cA d=true):(d.kind=1/\d.af.length<=4/\(∀z∈d.af,-9223372036854775808<=z/\z<=9223372036854775807))\/(d.kind=2/\d.al.toList.length<=10/\0<=d.bO/\d.bO<=3)\/
 (d.kind=3/\d.al.toList.length<=10/\bF d.patch=true/\1<=d.aj/\d.aj<=999/\1<=d.start/\d.start<=1000/\1<=d.aB/\d.aB<=1000)\/(d.kind=4/\d.member=0):=by
 by_cases k1:d.kind=1
 ·left
  rw[Aw k1]at h;simp only[Bool.and_eq_true]at h;have ht:=h.1.1.1.2;rw[fo,Bool.and_eq_true,eo]at ht;refine ⟨k1,of_decide_eq_true ht.2,λz hz=>?_⟩;obtain ⟨k,hk⟩:=List.getElem?_of_mem hz;have:=ht.1 k (List.getElem?_eq_some_iff.1 hk).1;rw[nb hk]at this;simp only[Bool.and_eq_true]at this;have:=dS.1 this.1.1;omega
 by_cases k2:d.kind=2
 ·right;left
  rw[Ax k2]at h;simp only[Bool.and_eq_true]at h;have hv:=dS.1 h.1.1.2;have hn:=h.1.1.1.2;unfold dU at hn;simp only[Bool.and_eq_true]at hn;exact ⟨k2,of_decide_eq_true hn.2,hv.1,hv.2⟩
 by_cases k3:d.kind=3
 ·right;right;left
  rw[Ay k3]at h;simp only[Bool.and_eq_true]at h;have hn:=h.1.1.1.2;have hs:=h.1.1.2;unfold dU at hn;unfold iP at hs;simp only[Bool.and_eq_true,decide_eq_true_eq]at hn hs;have hc:=dS.1 hs.1.1.1.2;exact ⟨k3,hn.2,hs.1.1.1.1.2,hc.1,hc.2,by omega,by omega,by omega,by omega⟩
 right;right;right
 by_cases k4:d.kind=4
 ·rw[Az k4]at h;simp only[Bool.and_eq_true,decide_eq_true_eq]at h;exact ⟨k4,h.1.1.1.1⟩
 rw[AA k1 k2 k3 k4]at h;cases h
theorem aeE {d:dr} (h:cA d=true):0<=d.member/\d.member<=11:=by
 by_cases k1:d.kind=1
 ·rw[Aw k1]at h;simp only[Bool.and_eq_true]at h;exact dS.1 h.1.1.1.1
 by_cases k2:d.kind=2
 ·rw[Ax k2]at h;simp only[Bool.and_eq_true]at h;exact dS.1 h.1.1.1.1
 by_cases k3:d.kind=3
 ·rw[Ay k3]at h;simp only[Bool.and_eq_true]at h;exact dS.1 h.1.1.1.1
 have:=ac' h;omega
theorem ahy {w X X':World} {G a b c d:Nat} {v1 v2 v3 v4:Value} (h:X.cell? ⟨G,a,none⟩=some v1/\X.cell? ⟨G,b,none⟩=some v2/\X.cell? ⟨G,c,none⟩=some v3/\X.cell? ⟨G,d,none⟩=some v4/\Below w.heap.size w X) (hb:Below X.heap.size X X'):
 X'.cell? ⟨G,a,none⟩=some v1/\X'.cell? ⟨G,b,none⟩=some v2/\X'.cell? ⟨G,c,none⟩=some v3/\X'.cell? ⟨G,d,none⟩=some v4/\Below w.heap.size w X':=by
 obtain ⟨h1,h2,h3,h4,h5⟩:=h;have hG:G<X.heap.size:=World.block_lt_of_cell? X ⟨G,a,none⟩ h1;exact ⟨(hb.cell (p:=⟨G,a,none⟩) hG).trans h1,(hb.cell (p:=⟨G,b,none⟩) hG).trans h2,(hb.cell (p:=⟨G,c,none⟩) hG).trans h3,(hb.cell (p:=⟨G,d,none⟩) hG).trans h4,h5.trans (hb.mono h5.size)⟩
theorem ahC {p q r s t:Prop} (h:p/\q/\r/\s/\t):t:=h.2.2.2.2
theorem agi (Y:World) (a b c:Int) (T:TypeId):aae (Y.alloc (.cells #[.int .i64 a,.int .i64 b,.int .i64 c] T)) (Y.alloc (.cells #[.int .i64 a,.int .i64 b,.int .i64 c] T)).heap.size (.slice (some ⟨Y.heap.size,0,none⟩) 3 3) [a,b,c]:=by
 refine ⟨some ⟨Y.heap.size,0,none⟩,3,rfl,Nat.le_refl _,by decide,λ_=>⟨Y.heap.size,0,rfl,by simp,λk x hx=>⟨_,rfl,rfl,λj u hu=>?_⟩⟩⟩
 match k,hx with
 |0,hx=>
  match j,hu with
  |0,hu=>simp[ak]at hx hu;subst hx hu;simp[go_sem]
 |1,hx=>
  match j,hu with
  |0,hu=>simp[ak]at hx hu;subst hx hu;simp[go_sem]
 |2,hx=>
  match j,hu with
  |0,hu=>simp[ak]at hx hu;subst hx hu;simp[go_sem]
theorem ahm (Y:World) (a b c:Int) (T:TypeId):aae (Y.alloc (.cells #[.int .i64 a,.int .i64 b,.int .i64 c] T)).drew (Y.alloc (.cells #[.int .i64 a,.int .i64 b,.int .i64 c] T)).drew.heap.size (.slice (some ⟨Y.heap.size,0,none⟩) 3 3) [a,b,c]:=
 cz.on (agi Y a b c T) (Pl.stays _) ((Below.refl _ _).drew) (Nat.le_refl _)
theorem aai (d:dr) (A1:Option Addr) (c1:Nat) (A2:Option Addr) (c2:Nat) (w:World) (hT:aae w w.heap.size (.slice A1 d.af.length c1) d.af) (hP:bg w w.heap.size (.slice A2 d.patch.length c2) d.patch) (hs:bS d.patch) (ht:d.al.size<=maxLen) (hE:Env w.heap.size w):
 Calls prog 7 #[.agg #[.int .i64 d.kind,.int .i64 d.member,.slice A1 d.af.length c1,.string d.al,.int .i64 d.bO,.slice A2 d.patch.length c2,.int .i64 d.start,.int .i64 d.aB,.int .i64 d.aj]] w (bT (.tuple #[.string ⟨(Su d).toArray⟩,.bool (cA d)]) w):=by
 have HT:=I hT;have HP:=I hP;have HS:=I hs;have gQ:=I ht;have E:=I hE;clear hT hP hs ht hE;go_enter func7,ntmps7;go_upto_region 1 with (fail)
 obtain ⟨W,hW⟩: ∃W:World,W=w.alloc (.cells #[.int .i64 d.kind,.int .i64 d.member,.slice A1 d.af.length c1,.string d.al,.int .i64 d.bO,.slice A2 d.patch.length c2,.int .i64 d.start,.int .i64 d.aB,.int .i64 d.aj] 38):=⟨_,rfl⟩
 have bW:Below w.heap.size w W:=by rw[hW];exact (Below.refl _ _).alloc (Nat.le_refl _) _
 have y0:W.cell? ⟨w.heap.size,0,none⟩=some (.int .i64 d.kind):=by rw[hW];simp[go_sem]
 have y1:W.cell? ⟨w.heap.size,1,none⟩=some (.int .i64 d.member):=by rw[hW];simp[go_sem]
 have y2:W.cell? ⟨w.heap.size,2,none⟩=some (.slice A1 d.af.length c1):=by rw[hW];simp[go_sem]
 have y3:W.cell? ⟨w.heap.size,3,none⟩=some (.string d.al):=by rw[hW];simp[go_sem]
 have y4:W.cell? ⟨w.heap.size,4,none⟩=some (.int .i64 d.bO):=by rw[hW];simp[go_sem]
 have y5:W.cell? ⟨w.heap.size,5,none⟩=some (.slice A2 d.patch.length c2):=by rw[hW];simp[go_sem]
 have y6:W.cell? ⟨w.heap.size,6,none⟩=some (.int .i64 d.start):=by rw[hW];simp[go_sem]
 have y7:W.cell? ⟨w.heap.size,7,none⟩=some (.int .i64 d.aB):=by rw[hW];simp[go_sem]
 have y8:W.cell? ⟨w.heap.size,8,none⟩=some (.int .i64 d.aj):=by rw[hW];simp[go_sem]
 rw[<-hW];clear hW;have HT':=I (λ(x:World) (hx:Below w.heap.size w x)=>cz.on HT.o (Pl.stays _) hx hx.size);have HP':=I (λ(x:World) (hx:Below w.heap.size w x)=>cz.on HP.o (Pl.stays _) hx hx.size);have HC:=I (λ(x:World) (hx:Below W.heap.size W x) (j:Nat) (v:Value) (h:W.cell? ⟨w.heap.size,j,none⟩=some v)=>(hx.cell (p:=⟨w.heap.size,j,none⟩) (World.block_lt_of_cell? W ⟨w.heap.size,j,none⟩ h)).trans h);have Y:=I (And.intro y0 (And.intro y1 (And.intro y2 (And.intro y3 (And.intro y4 (And.intro y5 (And.intro y6 (And.intro y7 y8))))))));go_wp2_with (fail);clear y1 y2 y3 y4 y5 y6 y7 y8;refine (Fs d A1 c1 A2 c2 _ (HT'.o W bW) (HP'.o W bW) HS.o gQ.o).mono ?_;rintro e w1 ⟨rfl,bw⟩;have aaF:=bW.trans (bw.mono bW.size);cases cy:cA d with
 |false=>
  have HO:=I cy;clear cy;go_wp2;go_ret2;exact ⟨by rw[afi HO.o,HO.o];rfl,aaF⟩
 |true=>
  have HO:=I cy;have hm:=aeE cy;obtain ⟨EU,EV⟩:=hm;have b5:=itoa_length_le d.member (by omega) (by omega);clear cy;have u1:=HC.o w1 bw 1 _ Y.o.2.1;go_wp2_with (fail);refine (aag w.heap.size d.member _ (E.o.on aaF) (by omega) (by omega)).mono ?_;rintro e w2 ⟨rfl,cL⟩;clear u1 y0;have sj:=bw.trans (cL.mono bw.size);have aat:=bW.trans (sj.mono bW.size);clear bw cL aaF;have u0:=HC.o w2 sj 0 _ Y.o.1;rcases ac' HO.o with ⟨k1,t1,t2⟩|⟨k2,t1,v1,v2⟩|⟨k3,t1,op,p1,p2,p3,p4,p5,p6⟩|⟨k4,m0⟩
  ·have HD:ag (H6 d=if d.af=[]then [116,114,117,115,116,32]++itoa d.member else [116,114,117,115,116,32]++itoa d.member++[32]++Qk d.af [44]):=I (by unfold H6;rw[if_pos k1]);have bU:(d.kind==1)=true:=by simp[k1]
   have HZ:=I t2;clear k1 t2;have u2:=HC.o w2 sj 2 _ Y.o.2.2.1;obtain ⟨b7,e1,n1,q1⟩:=H7 (P:=prog) [116,114,117,115,116,32] (itoa d.member) (by simp) (by omega);have E1:=I e1;clear e1;simp only[List.length_cons,List.length_nil]at n1;by_cases h0:d.af=[]
   ·have b2:((d.af.length:Int)==0)=true:=by simp[h0]
    have HE:ag (H6 d=b7):=I (by rw[HD.o,if_pos h0,E1.o]);clear h0;go_wp2;go_ret2;exact ⟨by rw[afj HO.o,HO.o,HE.o];rfl,aat⟩
   have b2:((d.af.length:Int)==0)=false:=by simp[h0]
   obtain ⟨b8,e2,n2,q2⟩:=H7 (P:=prog) b7 [32] (by omega) (by simp);have E2:=I e2;have Ij:=agh d.af [44] (by simp) HZ.o;obtain ⟨b9,e3,n3,q3⟩:=H7 (P:=prog) b8 (Qk d.af [44]) (by simp at n2;omega) (by omega);have HE:ag (H6 d=b9):=I (by rw[HD.o,if_neg h0,e3,e2,E1.o]);clear h0 e2 e3;go_wp2_with (fail);refine (aaE d.af ⟨#[44]⟩ _ _ (HT'.o _ aat) (by omega) (by simp) HZ.o (aah (E.o.on aat) aat.size)).mono ?_;rintro e w3 ⟨rfl,dB⟩;go_wp2;go_ret2;exact ⟨by rw[afj HO.o,HO.o,HE.o];rfl,aat.trans (dB.mono aat.size)⟩
  ·have bU:(d.kind==1)=false:=by simp[k2]
   have b2:(d.kind==2)=true:=by simp[k2]
   have HD:ag (H6 d=[118,111,116,101,32]++itoa d.member++[32]++d.al.toList++[32]++Ql d.bO):=I (by unfold H6;rw[if_neg (by omega),if_pos k2]);clear k2;have u3:=HC.o w2 sj 3 _ Y.o.2.2.2.1;have u4:=HC.o w2 sj 4 _ Y.o.2.2.2.2.1;have j5:w.heap.size<w2.heap.size:=World.block_lt_of_cell? w2 ⟨w.heap.size,3,none⟩ u3;obtain ⟨b7,e1,n1,q1⟩:=H7 (P:=prog) [118,111,116,101,32] (itoa d.member) (by simp) (by omega);simp only[List.length_cons,List.length_nil]at n1;obtain ⟨b8,e2,n2,q2⟩:=H7 (P:=prog) b7 [32] (by omega) (by simp);simp only[List.length_cons,List.length_nil]at n2;obtain ⟨b9,e3,n3,q3⟩:=ag6 (P:=prog) b8 d.al (by omega) (by omega);obtain ⟨db,e4,n4,q4⟩:=H7 (P:=prog) b9 [32] (by omega) (by simp);simp only[List.length_cons,List.length_nil]at n4;have HE:ag (H6 d=db++Ql d.bO):=I (by rw[HD.o,e4,e3,e2,e1]);clear e1 e2 e3 e4;have hv4:d.bO=0\/d.bO=1\/d.bO=2\/d.bO=3:=by omega
   clear v1 v2;rcases hv4 with hv|hv|hv|hv
   ·rw[hv]at u4;obtain ⟨T5,dc,n5,q5⟩:=H7 (P:=prog) db [110,111,110,101] (by omega) (by simp);have HF:ag (H6 d=T5):=I (by rw[HE.o,dc,hv];rfl);clear dc hv;go_upto_region 10 with (fail)
    go_region_with (first|(go_at_call 20;refine (aan _).mono ?_;rintro e w' ⟨rfl,rfl⟩))
    all_goals
     go_wp2;go_ret2;exact ⟨by rw[afj HO.o,HO.o,HF.o];rfl,aat.drew.alloc aat.size _⟩
   ·rw[hv]at u4;obtain ⟨T5,dc,n5,q5⟩:=H7 (P:=prog) db [121,101,115] (by omega) (by simp);have HF:ag (H6 d=T5):=I (by rw[HE.o,dc,hv];rfl);clear dc hv;go_upto_region 10 with (fail)
    go_region_with (first|(go_at_call 20;refine (aan _).mono ?_;rintro e w' ⟨rfl,rfl⟩))
    all_goals
     go_wp2;go_ret2;exact ⟨by rw[afj HO.o,HO.o,HF.o];rfl,aat.drew.alloc aat.size _⟩
   ·rw[hv]at u4;obtain ⟨T5,dc,n5,q5⟩:=H7 (P:=prog) db [110,111] (by omega) (by simp);have HF:ag (H6 d=T5):=I (by rw[HE.o,dc,hv];rfl);clear dc hv;go_upto_region 10 with (fail)
    go_region_with (first|(go_at_call 20;refine (aan _).mono ?_;rintro e w' ⟨rfl,rfl⟩))
    all_goals
     go_wp2;go_ret2;exact ⟨by rw[afj HO.o,HO.o,HF.o];rfl,aat.drew.alloc aat.size _⟩
   rw[hv]at u4;obtain ⟨T5,dc,n5,q5⟩:=H7 (P:=prog) db [98,108,97,110,107] (by omega) (by simp);have HF:ag (H6 d=T5):=I (by rw[HE.o,dc,hv];rfl);clear dc hv;go_upto_region 10 with (fail)
   go_region_with (first|(go_at_call 20;refine (aan _).mono ?_;rintro e w' ⟨rfl,rfl⟩))
   all_goals
    go_wp2;go_ret2;exact ⟨by rw[afj HO.o,HO.o,HF.o];rfl,aat.drew.alloc aat.size _⟩
  ·have bU:(d.kind==1)=false:=by simp[k3]
   have b2:(d.kind==2)=false:=by simp[k3]
   have b3:(d.kind==3)=true:=by simp[k3]
   have HD:ag (H6 d=[112,114,111,112,111,115,101,32]++itoa d.member++[32]++d.al.toList++[32]++Qk [d.aj,d.start,d.aB] [32]++[32]++Qi (sN d.patch)):=I (by unfold H6;rw[if_neg (by omega),if_neg (by omega),if_pos k3]);have u5:=HC.o w2 sj 5 _ Y.o.2.2.2.2.2.1;have eQ:=I op;clear k3 op;go_upto_region 12 with (fail)
   go_wp2_with (fail);refine (aay d.patch _ _ (HP'.o _ aat) HS.o (aah (E.o.on aat) aat.size)).mono ?_;rintro e w3 ⟨rfl,dB⟩;have abC:=sj.trans (dB.mono sj.size);have abv:=bW.trans (abC.mono bW.size);rw[ae2 eQ.o];clear sj aat dB u0 u5
   have sG:(sN d.patch).length<=1280:=by
    have h1:=aec eQ.o d.patch.length;have h2:=eZ eQ.o;rw[List.take_length]at h1;omega
   have yH:(Qi (sN d.patch)).length<=1280:=by unfold Qi;rw[List.length_map];exact sG
   have hZ: ∀z∈[d.aj,d.start,d.aB],-9223372036854775808<=z/\z<=9223372036854775807:=by
    intro z hz;simp only[List.mem_cons,List.not_mem_nil,or_false]at hz;omega
   have Ij:=agh [d.aj,d.start,d.aB] [32] (by simp) hZ;have HZ:=I hZ;clear p1 p2 p3 p4 p5 p6 hZ;simp only[List.length_cons,List.length_nil]at Ij;have u3:=HC.o w3 abC 3 _ Y.o.2.2.2.1;have dm:=HC.o w3 abC 6 _ Y.o.2.2.2.2.2.2.1;have u7:=HC.o w3 abC 7 _ Y.o.2.2.2.2.2.2.2.1;have u8:=HC.o w3 abC 8 _ Y.o.2.2.2.2.2.2.2.2;have uI:w.heap.size<w3.heap.size:=World.block_lt_of_cell? w3 ⟨w.heap.size,3,none⟩ u3;generalize hPT:sN d.patch=dt at*;have HPT:=I hPT;clear hPT;obtain ⟨b7,e1,n1,q1⟩:=H7 (P:=prog) [112,114,111,112,111,115,101,32] (itoa d.member) (by simp) (by omega);simp only[List.length_cons,List.length_nil]at n1;obtain ⟨b8,e2,n2,q2⟩:=H7 (P:=prog) b7 [32] (by omega) (by simp);simp only[List.length_cons,List.length_nil]at n2;obtain ⟨b9,e3,n3,q3⟩:=ag6 (P:=prog) b8 d.al (by omega) (by omega);obtain ⟨db,e4,n4,q4⟩:=H7 (P:=prog) b9 [32] (by omega) (by simp);simp only[List.length_cons,List.length_nil]at n4;obtain ⟨T5,dc,n5,q5⟩:=H7 (P:=prog) db (Qk [d.aj,d.start,d.aB] [32]) (by omega) (by omega);obtain ⟨dT,e6,n6,q6⟩:=H7 (P:=prog) T5 [32] (by omega) (by simp);simp only[List.length_cons,List.length_nil]at n6;obtain ⟨ed,e7,n7,ee⟩:=H7 (P:=prog) dT (Qi dt) (by omega) (by omega);have HE:ag (H6 d=ed):=I (by rw[HD.o,e7,e6,dc,e4,e3,e2,e1]);clear e1 e2 e3 e4 dc e6 e7;go_upto_region 13 with (fail)
   go_region_held3 (λw'=>w'.cell? ⟨w.heap.size,3,none⟩=some (.string d.al)/\w'.cell? ⟨w.heap.size,6,none⟩=some (.int .i64 d.start)/\w'.cell? ⟨w.heap.size,7,none⟩=some (.int .i64 d.aB)/\w'.cell? ⟨w.heap.size,8,none⟩=some (.int .i64 d.aj)/\Below w.heap.size w w')
    (first|exact ⟨u3,dm,u7,u8,abv.drew⟩|exact ⟨u3,dm,u7,u8,abv⟩|exact ahy ‹_› ‹_› |exact ahy ‹_› ((Below.refl _ _).drew)|exact ahy ‹_› ((Below.refl _ _).alloc (Nat.le_refl _) _)|exact ahy ‹_› (((Below.refl _ _).alloc (Nat.le_refl _) _).drew)|exact ahy ⟨u3,dm,u7,u8,abv⟩ (((Below.refl _ _).alloc (Nat.le_refl _) _).drew))
    (first|(go_at_call 22;refine (E.o.rep _ (ahC ‹_›) _ (by omega)).mono ?_;rintro e w' ⟨rfl,hb⟩)|(go_at_call 19;refine (aaE [d.aj,d.start,d.aB] ⟨#[32]⟩ _ _ (by first|exact agi _ _ _ _ _|exact ahm _ _ _ _ _|exact cz.on (ahm _ _ _ _ _) (Pl.stays _) ‹_› (Below.size ‹_›)) (by simp) (by simp) HZ.o (aah (E.o.on (ahC ‹_›)) (Below.size (ahC ‹_›)))).mono ?_;rintro e w' ⟨rfl,hb⟩))
   all_goals
    go_wp2;go_ret2;exact ⟨by rw[afj HO.o,HO.o,HE.o];rfl,by first|exact ahC ‹_› |exact ahC (ahy ‹_› ‹_›)⟩
  have bU:(d.kind==1)=false:=by simp[k4]
  have b2:(d.kind==2)=false:=by simp[k4]
  have b3:(d.kind==3)=false:=by simp[k4]
  have HE:ag (H6 d=[110,101,120,116]):=I (by unfold H6;rw[if_neg (by omega),if_neg (by omega),if_neg (by omega)]);clear k4 m0;go_wp2;go_ret2;exact ⟨by rw[afj HO.o,HO.o,HE.o];rfl,aat⟩
noncomputable def inv {α:Type} (ok:α->Bool) (f:α->List UInt8) (t:List UInt8):Option α:=
 open Classical in if h: ∃x,ok x=true/\f x=t then some (Classical.choose h)else none
theorem aee {α:Type} {ok:α->Bool} {f:α->List UInt8} {t:List UInt8} {x:α} (h:inv ok f t=some x):ok x=true/\f x=t:=by
 unfold inv at h
 split at h
 ·rename_i hx;injection h with h
  subst h;exact Classical.choose_spec hx
 cases h
theorem adv {α:Type} {ok:α->Bool} {f:α->List UInt8} {t:List UInt8} {x:α} (hu: ∀q,ok q=true->f q=t->x=q) (h1:ok x=true) (h2:f x=t):inv ok f t=some x:=by
 unfold inv;have hx: ∃x,ok x=true/\f x=t:=⟨x,h1,h2⟩
 rw[dif_pos hx]
 congr 1
 exact (hu _ (Classical.choose_spec hx).1 (Classical.choose_spec hx).2).symm
theorem afk {α:Type} {ok:α->Bool} {f:α->List UInt8} {t:List UInt8} {x:α} (hu: ∀q,ok q=true->f q=t->x=q) (h: ¬(ok x=true/\f x=t)):inv ok f t=none:=by
 unfold inv;rw[dif_neg];rintro ⟨q,h1,h2⟩;have:=hu q h1 h2;subst this;exact h ⟨h1,h2⟩
noncomputable def numOf (lo hi:Int) (t:List UInt8):Option Int:=inv (λz=>dO z lo hi) itoa t
theorem adw {lo hi z:Int} {t:List UInt8} (hl: -9223372036854775808<=lo) (hh:hi<=9223372036854775807) (h1:lo<=z) (h2:z<=hi) (ht:itoa z=t): ∀q,dO q lo hi=true->itoa q=t->z=q:=by
 intro q hq e;rw[dS]at hq;exact ad9 (by omega) (by omega) (by omega) (by omega) (ht.trans e.symm)
theorem acA {lo hi z:Int} {t:List UInt8} (hl: -9223372036854775808<=lo) (hh:hi<=9223372036854775807) (h1:lo<=z) (h2:z<=hi) (ht:itoa z=t):numOf lo hi t=some z:=
 adv (adw hl hh h1 h2 ht) (ki h1 h2) ht
theorem agk (c:UInt8) (l:List UInt8):cut l [c]=((sK c l).1,(sK c l).2,decide (c∈l)):=by
 by_cases h:c∈l
 ·obtain ⟨a,r,rfl,ha⟩:=Ft c l h;rw[afe a r c ha,C0 r ha];simp
 rw[ad' l c h,adT h];simp[h]
def K8 (c:UInt8):Nat->List UInt8->List (List UInt8)
 |0,l=>[l]
 |k+1,l=>if c∈l then (sK c l).1::K8 c k (sK c l).2 else [l]
theorem acd {c:UInt8} {a:List UInt8} (k:Nat) (r:List UInt8) (h:c∉a):K8 c (k+1) (a++c::r)=a::K8 c k r:=by
 rw[K8,if_pos (by simp),C0 r h]
theorem acj {c:UInt8} {a:List UInt8} (k:Nat) (h:c∉a):K8 c k a=[a]:=by
 cases k with
 |zero=>rfl
 |succ k=>rw[K8,if_neg h]
theorem ae3 {c:UInt8} (k:Nat) (l:List UInt8):1<=(K8 c k l).length:=by
 cases k with
 |zero=>exact Nat.le_refl _
 |succ k=>rw[K8];split<;>simp
theorem adx {c:UInt8}: ∀(k:Nat) (l:List UInt8),(K8 c k l).length<=k+1
 |0,_=>Nat.le_refl _
 |k+1,l=>by
  rw[K8]
  split
  ·have:=adx (c:=c) k (sK c l).2;rw[List.length_cons];omega
  simp
theorem M9 {c:UInt8}: ∀(k:Nat) (l:List UInt8),l.length<=k->K8 c k l=sL c l
 |0,l,h=>by
  have:l=[]:=List.eq_nil_of_length_eq_zero (by omega);subst this;rfl
 |k+1,l,h=>by
  by_cases hc:c∈l
  ·obtain ⟨a,r,rfl,ha⟩:=Ft c l hc;rw[acd k r ha,r8 r ha,M9 k r (by simp at h;omega)]
  rw[acj _ hc,p8 hc]
theorem ae4 {c:UInt8} (k n:Nat) (l:List UInt8) (h:n=l.length):K8 c (min k n) l=K8 c k l:=by
 rcases Nat.le_total k n with h1|h1
 ·rw[Nat.min_eq_left h1]
 rw[Nat.min_eq_right h1,M9 n l (by omega),M9 k l (by omega)]
theorem adW (c:UInt8): ∀(k:Nat) (l:List UInt8),splitK [c] 0 k l=K8 c k l
 |0,_=>rfl
 |k+1,l=>by
  by_cases hc:c∈l
  ·obtain ⟨a,r,rfl,ha⟩:=Ft c l hc;rw[acd k r ha,splitK,index_one a r c ha,if_neg (by simp),<-adW c k r];simp
  rw[acj _ hc,splitK,index_none l c hc,if_pos (by simp)]
theorem aeK (c:UInt8) (l:List UInt8): ∀n,l.length<=n->K8 c (count l [c]) l=sL c l/\(sL c l).length=count l [c]+1:=by
 intro n;induction n generalizing l with
 |zero=>
  intro h;have:l=[]:=List.eq_nil_of_length_eq_zero (by omega);subst this;rw[count_miss (index_none [] c (by simp))];exact ⟨rfl,rfl⟩
 |succ n ih=>
  intro h;by_cases hc:c∈l
  ·obtain ⟨a,r,rfl,ha⟩:=Ft c l hc
   have aff:count (a++c::r) [c]=count r [c]+1:=by
    have:=count_hit (s:=a++c::r) (sub:=[c]) (i:=a.length) (by simp) (index_one a r c ha);rw[this,Nat.add_comm]
    congr 2
    simp
   obtain ⟨i1,i2⟩:=ih r (by simp at h;omega);rw[aff,acd _ r ha,r8 r ha,i1,List.length_cons,i2];exact ⟨rfl,rfl⟩
  rw[count_miss (index_none l c hc),p8 hc];exact ⟨rfl,rfl⟩
noncomputable def Qm (lo hi:Int):List (List UInt8)->Option (List Int)
 |[]=>some []
 |p::ps=>match numOf lo hi p,Qm lo hi ps with|some n,some ns=>some (n::ns)|_,_=>none
theorem aef {lo hi:Int} (hl: -9223372036854775808<=lo) (hh:hi<=9223372036854775807): ∀zs:List Int,(∀z∈zs,lo<=z/\z<=hi)->Qm lo hi (zs.map itoa)=some zs
 |[],_=>rfl
 |z::zs,h=>by
  rw[List.map_cons,Qm,acA hl hh (h z (by simp)).1 (h z (by simp)).2 rfl,aef hl hh zs (λy hy=>h y (by simp[hy]))]
theorem adX {lo hi:Int} (p:List UInt8): ∀ps:List (List UInt8),Qm lo hi (ps++[p])=match Qm lo hi ps,numOf lo hi p with|some ns,some n=>some (ns++[n])|_,_=>none
 |[]=>by
  rw[List.nil_append,Qm,Qm,Qm];cases numOf lo hi p<;>rfl
 |q::ps=>by
  rw[List.cons_append,Qm,Qm,adX p ps];cases numOf lo hi q<;>cases Qm lo hi ps<;>cases numOf lo hi p<;>rfl
theorem aeF {lo hi:Int} (ps qs:List (List UInt8)) (h:Qm lo hi ps=none):Qm lo hi (ps++qs)=none:=by
 induction ps with
 |nil=>cases h
 |cons p ps ih=>
  rw[List.cons_append,Qm]at*;cases h1:numOf lo hi p with
  |none=>rfl
  |some n=>
   cases h2:Qm lo hi ps with
   |none=>rw[ih h2]
   |some ns=>rw[h1,h2]at h;cases h
theorem aeg {lo hi:Int}: ∀(ps:List (List UInt8)) {zs:List Int},Qm lo hi ps=some zs->zs.length=ps.length
 |[],zs,h=>by injection h with h;subst h;rfl
 |p::ps,zs,h=>by
  rw[Qm]at h;cases h1:numOf lo hi p with
  |none=>rw[h1]at h;cases h
  |some n=>
   cases h2:Qm lo hi ps with
   |none=>rw[h1,h2]at h;cases h
   |some ns=>
    rw[h1,h2]at h;injection h with h
    subst h;rw[List.length_cons,List.length_cons,aeg ps h2]
def Qn (e:aV):List UInt8:=
 if e.kind=1 then 43::(itoa e.id++32::e.new.toList)else if e.kind=2 then 45::(itoa e.id++32::e.dA.toList)else 126::(itoa e.id++32::(e.dA.toList++124::e.new.toList))
theorem acS (e:aV):HU e=Qn e++[10]:=by
 unfold HU Qn
 split
 ·simp
 split<;>simp
theorem adY {l:List UInt8} (h:bP l=true) {c:UInt8} (hc:c∈l):(97<=c.toNat/\c.toNat<=122)\/(48<=c.toNat/\c.toNat<=57)\/c.toNat=32:=by
 unfold bP at h;simp only[Bool.and_eq_true]at h;obtain ⟨⟨⟨⟨h,_⟩,_⟩,_⟩,_⟩:=h;rw[eo]at h;obtain ⟨k,hk,rfl⟩:=List.mem_iff_getElem.1 hc;have:=h k hk;unfold dv at this;rw[List.getD_eq_getElem?_getD,List.getElem?_eq_getElem hk]at this;exact (iQ _).1 this
theorem adZ {l:List UInt8} (h:dU l=true) {c:UInt8} (hc:c∈l):97<=c.toNat/\c.toNat<=122:=by
 unfold dU at h;simp only[Bool.and_eq_true]at h;obtain ⟨⟨h,_⟩,_⟩:=h;rw[eo]at h;obtain ⟨k,hk,rfl⟩:=List.mem_iff_getElem.1 hc;have:=h k hk;unfold dv at this;rw[List.getD_eq_getElem?_getD,List.getElem?_eq_getElem hk]at this;simpa using this
theorem ack {c:UInt8} (n:Int) (h:c.toNat<45\/c.toNat=46\/c.toNat=47\/57<c.toNat):c∉itoa n:=by
 intro hc;rcases adu n c hc with hd|rfl
 ·unfold isDigit at hd;omega
 have:(45:UInt8).toNat=45:=rfl;omega
theorem Hc {l:List UInt8} (h:bP l=true) {c:UInt8} (hc:c.toNat<32\/122<c.toNat\/(57<c.toNat/\c.toNat<97)):c∉l:=by
 intro hm;have:=adY h hm;omega
theorem agm {l:List UInt8} (h:dU l=true) {c:UInt8} (hc:c.toNat<97):c∉l:=by
 intro hm;have:=adZ h hm;omega
theorem gy {e:aV} (h:dE e=true):1<=e.id/\e.id<=99/\((e.kind=1/\e.dA=⟨#[]⟩/\bP e.new.toList=true)\/(e.kind=2/\bP e.dA.toList=true/\e.new=⟨#[]⟩)\/(e.kind=3/\bP e.dA.toList=true/\bP e.new.toList=true)):=by
 unfold dE at h;simp only[Bool.and_eq_true,Bool.or_eq_true,decide_eq_true_eq,dS]at h;obtain ⟨⟨h1,h2⟩,h⟩:=h;refine ⟨h1,h2,?_⟩
 have nil: ∀b:ByteArray,b.toList=[]->b=⟨#[]⟩:=λb hb=>by
  rw[<-gO b,hb]
 rcases h with (⟨⟨h,ho⟩,hn⟩|⟨⟨h,ho⟩,hn⟩)|⟨⟨⟨h,ho⟩,hn⟩,_⟩
 ·exact .inl ⟨h,nil _ ho,hn⟩
 ·exact .inr (.inl ⟨h,ho,nil _ hn⟩)
 exact .inr (.inr ⟨h,ho,hn⟩)
theorem aeh {e:aV} (h:dE e=true) {c:UInt8} (hc:c.toNat<32\/c.toNat=59):c∉Qn e:=by
 obtain ⟨_,_,hk⟩:=gy h;have hi:c∉itoa e.id:=ack _ (by omega);have h1:c≠43:=by rintro rfl;revert hc;decide
 have h2:c≠45:=by rintro rfl;revert hc;decide
 have h3:c≠126:=by rintro rfl;revert hc;decide
 have h4:c≠32:=by rintro rfl;revert hc;decide
 have h5:c≠124:=by rintro rfl;revert hc;decide
 rcases hk with ⟨k,ho,hn⟩|⟨k,ho,hn⟩|⟨k,ho,hn⟩
 ·have:=Hc hn (c:=c) (by omega);unfold Qn;rw[if_pos k];simp[h1,h4,hi,this]
 ·have:=Hc ho (c:=c) (by omega);unfold Qn;rw[if_neg (by omega),if_pos k];simp[h2,h4,hi,this]
 have a:=Hc hn (c:=c) (by omega);have b:=Hc ho (c:=c) (by omega);unfold Qn;rw[if_neg (by omega),if_neg (by omega)];simp[h3,h4,h5,hi,a,b]
theorem ada {q:List aV} (h:bF q=true):sL 10 (sN q)=q.map Qn++[[]]:=by
 have e:sN q=q.flatMap (λx=>Qn x++[10])++[]:=by
  rw[List.append_nil];unfold sN
  congr 1
  funext x
  exact acS x
 rw[e,Jc 10 Qn q [] (λx hx=>by
  obtain ⟨k,hk⟩:=List.getElem?_of_mem hx;exact aeh (acb h hk) (.inl (by decide)))]
 rfl
noncomputable def V' (d:Bool) (lo hi:Int):List UInt8->aV
 |[]=>⟨0,0,⟨#[]⟩,⟨#[]⟩⟩
 |h::r=>
  if h=43 then ⟨1,(numOf lo hi (sK 32 r).1).getD 0,⟨#[]⟩,⟨(sK 32 r).2.toArray⟩⟩
  else if h=45 then ⟨2,(numOf lo hi (sK 32 r).1).getD 0,⟨(sK 32 r).2.toArray⟩,⟨#[]⟩⟩
  else if (d||h==126)=true then ⟨3,(numOf lo hi (sK 32 r).1).getD 0,⟨(sK 124 (sK 32 r).2).1.toArray⟩,⟨(sK 124 (sK 32 r).2).2.toArray⟩⟩
  else ⟨0,0,⟨#[]⟩,⟨#[]⟩⟩
theorem aei {e:aV} (d:Bool) {lo hi:Int} (h:dE e=true) (hl: -9223372036854775808<=lo) (hh:hi<=9223372036854775807) (h1:lo<=1) (h2:99<=hi):V' d lo hi (Qn e)=e:=by
 obtain ⟨i1,i2,hk⟩:=gy h;have hi':(32:UInt8)∉itoa e.id:=ack _ (.inl (by decide));have hn:numOf lo hi (itoa e.id)=some e.id:=acA hl hh (by omega) (by omega) rfl;obtain ⟨kind,id,dA,new⟩:=e;simp only at hk hi' hn i1 i2;rcases hk with ⟨rfl,rfl,hs⟩|⟨rfl,hs,rfl⟩|⟨rfl,hs,ht⟩
 ·simp[Qn,V',C0 _ hi',hn,gO]
 ·simp[Qn,V',C0 _ hi',hn,gO]
 have ahn:(124:UInt8)∉dA.toList:=Hc hs (.inr (.inl (by decide)));simp[Qn,V',C0 _ hi',C0 _ ahn,hn,gO]
noncomputable def EG (t:List UInt8):Option (List aV):=inv bF sN t
theorem afl {t:List UInt8} {ls:List (List UInt8)} (d:Bool) {lo hi:Int} (hl: -9223372036854775808<=lo) (hh:hi<=9223372036854775807) (h1:lo<=1) (h2:99<=hi) (h:sL 10 t=ls++[[]]): ∀q,bF q=true->sN q=t->ls.map (V' d lo hi)=q:=by
 intro q hq e;rw[<-e,ada hq]at h;have hls:q.map Qn=ls:=(List.append_inj' h rfl).1;rw[<-hls,List.map_map]
 conv=>rhs;rw[<-List.map_id q]
 apply List.map_congr_left;intro x hx;obtain ⟨k,hk⟩:=List.getElem?_of_mem hx;exact aei d (acb hq hk) hl hh h1 h2
def dg (u:Nat):List UInt8:=if u=0 then []else decDigits u
theorem La (u:Nat) (h: ¬u=0):dg u=dg (u/10)++[UInt8.ofNat (48+u% 10)]:=by
 unfold dg;rw[if_neg h];by_cases Ie:u<10
 ·rw[if_pos (by omega),decDigits,dif_pos Ie,Nat.mod_eq_of_lt Ie];rfl
 rw[if_neg (by omega),decDigits,dif_neg Ie]
theorem Qo (a b:List UInt8) (n:Int) (h:a++b=itoa n) (h1: -9223372036854775808<=n) (h2:n<=9223372036854775807):b.length<=21:=by
 have:=itoa_length_le n h1 h2;rw[<-h,List.length_append]at this;omega
theorem Nu (n:Int) (h:0<n):dg n.toNat=itoa n:=by
 unfold dg itoa;rw[if_neg (by omega),if_neg (by omega)]
end Go.Proofs.YtbcggaldkihcaaaGreatDoor

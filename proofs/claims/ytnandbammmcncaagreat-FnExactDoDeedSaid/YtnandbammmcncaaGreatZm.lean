/- Deeds sized, copied and marked, walked: the statements' own functions (as in the first t.. -/
import Derived.Test.YtnandbammmcncaaGreatQH
set_option maxHeartbeats 4000000
set_option maxRecDepth 100000
namespace Go.Proofs.YtnandbammmcncaaGreat
open Tryz
open Go.RowKit Go.Lib
theorem EB (d:dr) (A1:Option Addr) (n1 c1:Nat) (A2:Option Addr) (n2 c2:Nat) (left:Int) (w:World) (hT:Ints w w.heap.size (.slice A1 n1 c1) d.af) (hP:bg w w.heap.size (.slice A2 n2 c2) d.patch) (hs:bS d.patch) (ht:d.al.size<=9223372036854775807) (h0:0<=left) (h1:left<=1048576):
 Calls prog 30 #[.agg #[.int .i64 d.kind,.int .i64 d.member,.slice A1 n1 c1,.string d.al,.int .i64 d.bO,.slice A2 n2 c2,.int .i64 d.start,.int .i64 d.aB,.int .i64 d.aj],.int .i64 left] w (kz (n1<=1048576/\d.al.size<=1048576/\n2<=1048576/\ ∀e∈d.patch,yc e) w):=by
 obtain ⟨e1,f1,g1⟩:=fB hT;have kM:n1<=9223372036854775807:=by omega
 have HS:=I hs;clear e1 f1 g1 hs;go_enter func30,ntmps30;go_wp2_with (fail);obtain ⟨W,hW⟩: ∃W:World,W=w.alloc (.cells #[.int .i64 d.kind,.int .i64 d.member,.slice A1 n1 c1,.string d.al,.int .i64 d.bO,.slice A2 n2 c2,.int .i64 d.start,.int .i64 d.aB,.int .i64 d.aj] 49):=⟨_,rfl⟩
 have bW:Below w.heap.size w W:=by rw[hW];exact (aae _ _).alloc (aad _) _
 have y3:W.cell? ⟨w.heap.size,3,none⟩=some (.string d.al):=by rw[hW];simp[go_sem]
 have y5:W.cell? ⟨w.heap.size,5,none⟩=some (.slice A2 n2 c2):=by rw[hW];simp[go_sem]
 rw[<-hW];clear hW;have z3:=λy:ar W=>y.cell y3;have z5:=λy:ar W=>y.cell y5;have HE:=I (λy:ar W=>hP.on (Pl.stays _) (aJ bW y) (aJ bW y).size);clear y3 y5 hT hP;refine (qC A1 n1 c1 left _ kM h0 h1).mono ?_;rintro e1 w1 ⟨r1,rfl,mU,bw⟩;obtain ⟨y,rfl⟩: ∃y:ar W,w1=y.val:=⟨⟨w1,bw⟩,rfl⟩
 rcases mU with mU|⟨p1,a1,b1⟩
 ·go_wp2;go_ret;exact ⟨_,rfl,.inl (by omega),aJ bW y⟩
 have mV: ¬r1<0:=by omega
 by_cases hl:r1-(d.al.size:Int)<0
 ·go_wp2;go_ret;exact ⟨_,rfl,.inl (by omega),aJ bW y⟩
 go_wp2_with (fail);refine (oI d.patch A2 n2 c2 _ _ (HE.o y) HS.o (by omega) (by omega)).mono ?_;rintro e2 w2 ⟨r2,rfl,mV,cL⟩;have dB:=(aJ bW y).trans (cL.mono (aJ bW y).size);rcases mV with mV|⟨p2,a2,b2⟩
 ·go_wp2;go_ret;exact ⟨_,rfl,.inl (by omega),dB⟩
 have Ik: ¬r2<0:=by omega
 have pS:=I p2;clear p2;go_wp2;go_ret;exact ⟨_,rfl,.inr ⟨⟨p1,by omega,pS.o.1,pS.o.2⟩,a2,b2⟩,dB⟩
def RZ (d:dr) (w:World) (e:Ending) (w':World):Prop:=
 ∃g1 c1 g2 c2,e= .returned (.agg #[.int .i64 d.kind,.int .i64 d.member,.slice (some ⟨g1,0,none⟩) d.af.length c1,.string d.al,.int .i64 d.bO,.slice (some ⟨g2,0,none⟩) d.patch.length c2,.int .i64 d.start,.int .i64 d.aB,.int .i64 d.aj])/\
  d.af.length<=c1/\c1<=maxLen/\d.patch.length<=c2/\c2<=maxLen/\w.heap.size<=g1/\g1<g2/\g2<w'.heap.size/\Row w' g1 (d.af.flatMap ak)/\Row w' g2 (d.patch.flatMap ah)/\Below w.heap.size w w'
theorem EC (d:dr) (A1:Option Addr) (n1 c1:Nat) (A2:Option Addr) (n2 c2:Nat) (w:World) (hT:Ints w w.heap.size (.slice A1 n1 c1) d.af) (hP:bg w w.heap.size (.slice A2 n2 c2) d.patch) (h1:n1<=1048576) (h2:n2<=1048576):
 Calls prog 32 #[.agg #[.int .i64 d.kind,.int .i64 d.member,.slice A1 n1 c1,.string d.al,.int .i64 d.bO,.slice A2 n2 c2,.int .i64 d.start,.int .i64 d.aB,.int .i64 d.aj]] w (RZ d w):=by
 have HT:=I hT;have HP:=I hP;clear hT hP;go_enter func32,ntmps32;go_wp2_with (fail);refine (qD d.af _ _ _ _ (HT.o.on (Pl.stays _) ((((aae _ _).alloc (aad _) _).alloc (by simp) _).alloc (by simp;omega) _) (by simp;omega)) h1).mono ?_;rintro e1 w1 mU;obtain ⟨g1,d1,rfl,Vt,EU,R0,Pd,hI,bw⟩:=mU;have W7:Below w.heap.size w w1:=((((aae _ _).alloc (aad _) _).alloc (by simp) _).alloc (by simp;omega) _).trans (bw.mono (by simp;omega));have CB:w.heap.size+1+1<w1.heap.size:=by have:=bw.size;simp at this;omega
 have x3:w1.cell? ⟨w.heap.size,3,none⟩=some (.string d.al):=(bw.cell (p:=⟨w.heap.size,3,none⟩) (by simp;omega)).trans (by simp[go_sem]);have x4:w1.cell? ⟨w.heap.size,4,none⟩=some (.int .i64 d.bO):=(bw.cell (p:=⟨w.heap.size,4,none⟩) (by simp;omega)).trans (by simp[go_sem]);have x5:w1.cell? ⟨w.heap.size,5,none⟩=some (.slice A2 n2 c2):=(bw.cell (p:=⟨w.heap.size,5,none⟩) (by simp;omega)).trans (by simp[go_sem]);have x6:w1.cell? ⟨w.heap.size,6,none⟩=some (.int .i64 d.start):=(bw.cell (p:=⟨w.heap.size,6,none⟩) (by simp;omega)).trans (by simp[go_sem]);have x7:w1.cell? ⟨w.heap.size,7,none⟩=some (.int .i64 d.aB):=(bw.cell (p:=⟨w.heap.size,7,none⟩) (by simp;omega)).trans (by simp[go_sem]);have x8:w1.cell? ⟨w.heap.size,8,none⟩=some (.int .i64 d.aj):=(bw.cell (p:=⟨w.heap.size,8,none⟩) (by simp;omega)).trans (by simp[go_sem]);have k0:w1.cell? ⟨w.heap.size+1+1,0,none⟩=some (.int .i64 d.kind):=(bw.cell (p:=⟨w.heap.size+1+1,0,none⟩) (by simp)).trans (by simp[go_sem]);have k1:w1.cell? ⟨w.heap.size+1+1,1,none⟩=some (.int .i64 d.member):=(bw.cell (p:=⟨w.heap.size+1+1,1,none⟩) (by simp)).trans (by simp[go_sem]);have k2:w1.cell? ⟨w.heap.size+1+1,2,none⟩=some (.slice none 0 0):=(bw.cell (p:=⟨w.heap.size+1+1,2,none⟩) (by simp)).trans (by simp[go_sem]);have k3:w1.cell? ⟨w.heap.size+1+1,3,none⟩=some (.string ⟨#[]⟩):=(bw.cell (p:=⟨w.heap.size+1+1,3,none⟩) (by simp)).trans (by simp[go_sem]);have k4:w1.cell? ⟨w.heap.size+1+1,4,none⟩=some (.int .i64 0):=(bw.cell (p:=⟨w.heap.size+1+1,4,none⟩) (by simp)).trans (by simp[go_sem]);have k5:w1.cell? ⟨w.heap.size+1+1,5,none⟩=some (.slice none 0 0):=(bw.cell (p:=⟨w.heap.size+1+1,5,none⟩) (by simp)).trans (by simp[go_sem]);have k6:w1.cell? ⟨w.heap.size+1+1,6,none⟩=some (.int .i64 0):=(bw.cell (p:=⟨w.heap.size+1+1,6,none⟩) (by simp)).trans (by simp[go_sem]);have k7:w1.cell? ⟨w.heap.size+1+1,7,none⟩=some (.int .i64 0):=(bw.cell (p:=⟨w.heap.size+1+1,7,none⟩) (by simp)).trans (by simp[go_sem]);have k8:w1.cell? ⟨w.heap.size+1+1,8,none⟩=some (.int .i64 0):=(bw.cell (p:=⟨w.heap.size+1+1,8,none⟩) (by simp)).trans (by simp[go_sem]);have f2:w1.frozen? ⟨w.heap.size+1+1,2,none⟩=false:=(bw.frozen (p:=⟨w.heap.size+1+1,2,none⟩) (by simp)).trans (by simp[go_sem]);have f3:w1.frozen? ⟨w.heap.size+1+1,3,none⟩=false:=(bw.frozen (p:=⟨w.heap.size+1+1,3,none⟩) (by simp)).trans (by simp[go_sem]);have f4:w1.frozen? ⟨w.heap.size+1+1,4,none⟩=false:=(bw.frozen (p:=⟨w.heap.size+1+1,4,none⟩) (by simp)).trans (by simp[go_sem]);have f5:w1.frozen? ⟨w.heap.size+1+1,5,none⟩=false:=(bw.frozen (p:=⟨w.heap.size+1+1,5,none⟩) (by simp)).trans (by simp[go_sem]);have f6:w1.frozen? ⟨w.heap.size+1+1,6,none⟩=false:=(bw.frozen (p:=⟨w.heap.size+1+1,6,none⟩) (by simp)).trans (by simp[go_sem]);have f7:w1.frozen? ⟨w.heap.size+1+1,7,none⟩=false:=(bw.frozen (p:=⟨w.heap.size+1+1,7,none⟩) (by simp)).trans (by simp[go_sem]);have f8:w1.frozen? ⟨w.heap.size+1+1,8,none⟩=false:=(bw.frozen (p:=⟨w.heap.size+1+1,8,none⟩) (by simp)).trans (by simp[go_sem]);have r0:w1.cell? ⟨w.heap.size+1,0,none⟩=some (.int .i64 0):=(bw.cell (p:=⟨w.heap.size+1,0,none⟩) (by simp)).trans (by simp[go_sem]);have r1:w1.cell? ⟨w.heap.size+1,1,none⟩=some (.int .i64 0):=(bw.cell (p:=⟨w.heap.size+1,1,none⟩) (by simp)).trans (by simp[go_sem]);have r2:w1.cell? ⟨w.heap.size+1,2,none⟩=some (.slice none 0 0):=(bw.cell (p:=⟨w.heap.size+1,2,none⟩) (by simp)).trans (by simp[go_sem]);have r3:w1.cell? ⟨w.heap.size+1,3,none⟩=some (.string ⟨#[]⟩):=(bw.cell (p:=⟨w.heap.size+1,3,none⟩) (by simp)).trans (by simp[go_sem]);have r4:w1.cell? ⟨w.heap.size+1,4,none⟩=some (.int .i64 0):=(bw.cell (p:=⟨w.heap.size+1,4,none⟩) (by simp)).trans (by simp[go_sem]);have r5:w1.cell? ⟨w.heap.size+1,5,none⟩=some (.slice none 0 0):=(bw.cell (p:=⟨w.heap.size+1,5,none⟩) (by simp)).trans (by simp[go_sem]);have r6:w1.cell? ⟨w.heap.size+1,6,none⟩=some (.int .i64 0):=(bw.cell (p:=⟨w.heap.size+1,6,none⟩) (by simp)).trans (by simp[go_sem]);have r7:w1.cell? ⟨w.heap.size+1,7,none⟩=some (.int .i64 0):=(bw.cell (p:=⟨w.heap.size+1,7,none⟩) (by simp)).trans (by simp[go_sem]);have r8:w1.cell? ⟨w.heap.size+1,8,none⟩=some (.int .i64 0):=(bw.cell (p:=⟨w.heap.size+1,8,none⟩) (by simp)).trans (by simp[go_sem]);have s0:w1.frozen? ⟨w.heap.size+1,0,none⟩=false:=(bw.frozen (p:=⟨w.heap.size+1,0,none⟩) (by simp)).trans (by simp[go_sem]);have s1:w1.frozen? ⟨w.heap.size+1,1,none⟩=false:=(bw.frozen (p:=⟨w.heap.size+1,1,none⟩) (by simp)).trans (by simp[go_sem]);have s2:w1.frozen? ⟨w.heap.size+1,2,none⟩=false:=(bw.frozen (p:=⟨w.heap.size+1,2,none⟩) (by simp)).trans (by simp[go_sem]);have s3:w1.frozen? ⟨w.heap.size+1,3,none⟩=false:=(bw.frozen (p:=⟨w.heap.size+1,3,none⟩) (by simp)).trans (by simp[go_sem]);have s4:w1.frozen? ⟨w.heap.size+1,4,none⟩=false:=(bw.frozen (p:=⟨w.heap.size+1,4,none⟩) (by simp)).trans (by simp[go_sem]);have s5:w1.frozen? ⟨w.heap.size+1,5,none⟩=false:=(bw.frozen (p:=⟨w.heap.size+1,5,none⟩) (by simp)).trans (by simp[go_sem]);have s6:w1.frozen? ⟨w.heap.size+1,6,none⟩=false:=(bw.frozen (p:=⟨w.heap.size+1,6,none⟩) (by simp)).trans (by simp[go_sem]);have s7:w1.frozen? ⟨w.heap.size+1,7,none⟩=false:=(bw.frozen (p:=⟨w.heap.size+1,7,none⟩) (by simp)).trans (by simp[go_sem]);have s8:w1.frozen? ⟨w.heap.size+1,8,none⟩=false:=(bw.frozen (p:=⟨w.heap.size+1,8,none⟩) (by simp)).trans (by simp[go_sem]);have da:=I W7;have ZH:w.heap.size+1+1<g1:=by have:=R0;simp at this;omega
 have HI:=I hI;clear bw W7 hI R0;go_wp2_with (fail);obtain ⟨W2,im⟩: ∃W2,W2=((w1.setCell ⟨w.heap.size+1+1,2,none⟩ (.slice (some ⟨g1,0,none⟩) d.af.length d1)).setCell ⟨w.heap.size+1+1,3,none⟩ (.string d.al)).setCell ⟨w.heap.size+1+1,4,none⟩ (.int .i64 d.bO):=⟨_,rfl⟩
 have wY:w.heap.size+1+1<W2.heap.size:=by rw[im];simpa using CB
 have Bv:Below w.heap.size w W2:=by rw[im];exact ((da.o.setCell (by simp;omega) _).setCell (by simp;omega) _).setCell (by simp;omega) _
 have W8:ag (Row W2 g1 (d.af.flatMap ak)):=I (by rw[im];(iterate 3 refine Row.nP ?_ _ (by simp;omega));exact HI.o);have qc:g1<W2.heap.size:=by rw[im];simpa using Pd
 have y6:W2.cell? ⟨w.heap.size,6,none⟩=some (.int .i64 d.start):=by rw[im];simp[go_sem,x6]
 have y7:W2.cell? ⟨w.heap.size,7,none⟩=some (.int .i64 d.aB):=by rw[im];simp[go_sem,x7]
 have y8:W2.cell? ⟨w.heap.size,8,none⟩=some (.int .i64 d.aj):=by rw[im];simp[go_sem,x8]
 have m0:W2.cell? ⟨w.heap.size+1+1,0,none⟩=some (.int .i64 d.kind):=by rw[im];simp[go_sem,k0]
 have m1:W2.cell? ⟨w.heap.size+1+1,1,none⟩=some (.int .i64 d.member):=by rw[im];simp[go_sem,k1]
 have m2:W2.cell? ⟨w.heap.size+1+1,2,none⟩=some (.slice (some ⟨g1,0,none⟩) d.af.length d1):=by rw[im];simp[go_sem,k2]
 have m3:W2.cell? ⟨w.heap.size+1+1,3,none⟩=some (.string d.al):=by rw[im];simp[go_sem,k3]
 have m4:W2.cell? ⟨w.heap.size+1+1,4,none⟩=some (.int .i64 d.bO):=by rw[im];simp[go_sem,k4]
 have m5:W2.cell? ⟨w.heap.size+1+1,5,none⟩=some (.slice none 0 0):=by rw[im];simp[go_sem,k5]
 have m6:W2.cell? ⟨w.heap.size+1+1,6,none⟩=some (.int .i64 0):=by rw[im];simp[go_sem,k6]
 have m7:W2.cell? ⟨w.heap.size+1+1,7,none⟩=some (.int .i64 0):=by rw[im];simp[go_sem,k7]
 have m8:W2.cell? ⟨w.heap.size+1+1,8,none⟩=some (.int .i64 0):=by rw[im];simp[go_sem,k8]
 have p5:W2.frozen? ⟨w.heap.size+1+1,5,none⟩=false:=by rw[im];simp[go_sem,f5]
 have p6:W2.frozen? ⟨w.heap.size+1+1,6,none⟩=false:=by rw[im];simp[go_sem,f6]
 have p7:W2.frozen? ⟨w.heap.size+1+1,7,none⟩=false:=by rw[im];simp[go_sem,f7]
 have p8:W2.frozen? ⟨w.heap.size+1+1,8,none⟩=false:=by rw[im];simp[go_sem,f8]
 have q0:W2.cell? ⟨w.heap.size+1,0,none⟩=some (.int .i64 0):=by rw[im];simp[go_sem,r0]
 have q1:W2.cell? ⟨w.heap.size+1,1,none⟩=some (.int .i64 0):=by rw[im];simp[go_sem,r1]
 have q2:W2.cell? ⟨w.heap.size+1,2,none⟩=some (.slice none 0 0):=by rw[im];simp[go_sem,r2]
 have q3:W2.cell? ⟨w.heap.size+1,3,none⟩=some (.string ⟨#[]⟩):=by rw[im];simp[go_sem,r3]
 have q4:W2.cell? ⟨w.heap.size+1,4,none⟩=some (.int .i64 0):=by rw[im];simp[go_sem,r4]
 have q5:W2.cell? ⟨w.heap.size+1,5,none⟩=some (.slice none 0 0):=by rw[im];simp[go_sem,r5]
 have q6:W2.cell? ⟨w.heap.size+1,6,none⟩=some (.int .i64 0):=by rw[im];simp[go_sem,r6]
 have q7:W2.cell? ⟨w.heap.size+1,7,none⟩=some (.int .i64 0):=by rw[im];simp[go_sem,r7]
 have q8:W2.cell? ⟨w.heap.size+1,8,none⟩=some (.int .i64 0):=by rw[im];simp[go_sem,r8]
 have t0:W2.frozen? ⟨w.heap.size+1,0,none⟩=false:=by rw[im];simp[go_sem,s0]
 have t1:W2.frozen? ⟨w.heap.size+1,1,none⟩=false:=by rw[im];simp[go_sem,s1]
 have t2:W2.frozen? ⟨w.heap.size+1,2,none⟩=false:=by rw[im];simp[go_sem,s2]
 have t3:W2.frozen? ⟨w.heap.size+1,3,none⟩=false:=by rw[im];simp[go_sem,s3]
 have t4:W2.frozen? ⟨w.heap.size+1,4,none⟩=false:=by rw[im];simp[go_sem,s4]
 have t5:W2.frozen? ⟨w.heap.size+1,5,none⟩=false:=by rw[im];simp[go_sem,s5]
 have t6:W2.frozen? ⟨w.heap.size+1,6,none⟩=false:=by rw[im];simp[go_sem,s6]
 have t7:W2.frozen? ⟨w.heap.size+1,7,none⟩=false:=by rw[im];simp[go_sem,s7]
 have t8:W2.frozen? ⟨w.heap.size+1,8,none⟩=false:=by rw[im];simp[go_sem,s8]
 rw[<-im];clear im x3 x4 x5 x6 x7 x8 k0 k1 k2 k3 k4 k5 k6 k7 k8 f2 f3 f4 f5 f6 f7 f8 r0 s0 r1 s1 r2 s2 r3 s3 r4 s4 r5 s5 r6 s6 r7 s7 r8 s8;refine (oJ d.patch _ _ _ _ (HP.o.on (Pl.stays _) Bv Bv.size) h2).mono ?_;rintro e2 w2 mV;obtain ⟨g2,d2,rfl,Vu,EV,ZI,Vv,hE,cL⟩:=mV;have W9:w.heap.size+1+1<w2.heap.size:=aar wY cL.size;have x6:=(cL.cell (p:=⟨w.heap.size,6,none⟩) (by simp;omega)).trans y6;have x7:=(cL.cell (p:=⟨w.heap.size,7,none⟩) (by simp;omega)).trans y7;have x8:=(cL.cell (p:=⟨w.heap.size,8,none⟩) (by simp;omega)).trans y8;have k0:=(cL.cell (p:=⟨w.heap.size+1+1,0,none⟩) wY).trans m0;have k1:=(cL.cell (p:=⟨w.heap.size+1+1,1,none⟩) wY).trans m1;have k2:=(cL.cell (p:=⟨w.heap.size+1+1,2,none⟩) wY).trans m2;have k3:=(cL.cell (p:=⟨w.heap.size+1+1,3,none⟩) wY).trans m3;have k4:=(cL.cell (p:=⟨w.heap.size+1+1,4,none⟩) wY).trans m4;have k5:=(cL.cell (p:=⟨w.heap.size+1+1,5,none⟩) wY).trans m5;have k6:=(cL.cell (p:=⟨w.heap.size+1+1,6,none⟩) wY).trans m6;have k7:=(cL.cell (p:=⟨w.heap.size+1+1,7,none⟩) wY).trans m7;have k8:=(cL.cell (p:=⟨w.heap.size+1+1,8,none⟩) wY).trans m8;have f5:=(cL.frozen (p:=⟨w.heap.size+1+1,5,none⟩) wY).trans p5;have f6:=(cL.frozen (p:=⟨w.heap.size+1+1,6,none⟩) wY).trans p6;have f7:=(cL.frozen (p:=⟨w.heap.size+1+1,7,none⟩) wY).trans p7;have f8:=(cL.frozen (p:=⟨w.heap.size+1+1,8,none⟩) wY).trans p8;have r0:=(cL.cell (p:=⟨w.heap.size+1,0,none⟩) (by simp;omega)).trans q0;have r1:=(cL.cell (p:=⟨w.heap.size+1,1,none⟩) (by simp;omega)).trans q1;have r2:=(cL.cell (p:=⟨w.heap.size+1,2,none⟩) (by simp;omega)).trans q2;have r3:=(cL.cell (p:=⟨w.heap.size+1,3,none⟩) (by simp;omega)).trans q3;have r4:=(cL.cell (p:=⟨w.heap.size+1,4,none⟩) (by simp;omega)).trans q4;have r5:=(cL.cell (p:=⟨w.heap.size+1,5,none⟩) (by simp;omega)).trans q5;have r6:=(cL.cell (p:=⟨w.heap.size+1,6,none⟩) (by simp;omega)).trans q6;have r7:=(cL.cell (p:=⟨w.heap.size+1,7,none⟩) (by simp;omega)).trans q7;have r8:=(cL.cell (p:=⟨w.heap.size+1,8,none⟩) (by simp;omega)).trans q8;have s0:=(cL.frozen (p:=⟨w.heap.size+1,0,none⟩) (by simp;omega)).trans t0;have s1:=(cL.frozen (p:=⟨w.heap.size+1,1,none⟩) (by simp;omega)).trans t1;have s2:=(cL.frozen (p:=⟨w.heap.size+1,2,none⟩) (by simp;omega)).trans t2;have s3:=(cL.frozen (p:=⟨w.heap.size+1,3,none⟩) (by simp;omega)).trans t3;have s4:=(cL.frozen (p:=⟨w.heap.size+1,4,none⟩) (by simp;omega)).trans t4;have s5:=(cL.frozen (p:=⟨w.heap.size+1,5,none⟩) (by simp;omega)).trans t5;have s6:=(cL.frozen (p:=⟨w.heap.size+1,6,none⟩) (by simp;omega)).trans t6;have s7:=(cL.frozen (p:=⟨w.heap.size+1,7,none⟩) (by simp;omega)).trans t7;have s8:=(cL.frozen (p:=⟨w.heap.size+1,8,none⟩) (by simp;omega)).trans t8;have Xa:Below w.heap.size w w2:=Bv.trans (cL.mono Bv.size);have ZJ:ag (Row w2 g1 (d.af.flatMap ak)):=I (W8.o.below cL qc);have ZK:g1<w2.heap.size:=aar qc cL.size;have HE:=I hE;have dy:=I Xa;have QE:w.heap.size+1+1<g2:=by omega
 clear cL Bv Xa hE W8 y6 y7 y8 m0 q0 t0 m1 q1 t1 m2 q2 t2 m3 q3 t3 m4 q4 t4 m5 q5 t5 m6 q6 t6 m7 q7 t7 m8 q8 t8 p5 p6 p7 p8;go_wp2
 have gD: ∀(a:Act) (w':World),a.tmps[2]?=some (.pointer (some ⟨w.heap.size+1,0,none⟩))->w'.cell? ⟨w.heap.size+1,0,none⟩=some (.int .i64 d.kind)->w'.cell? ⟨w.heap.size+1,1,none⟩=some (.int .i64 d.member)->w'.cell? ⟨w.heap.size+1,2,none⟩=some (.slice (some ⟨g1,0,none⟩) d.af.length d1)->w'.cell? ⟨w.heap.size+1,3,none⟩=some (.string d.al)->w'.cell? ⟨w.heap.size+1,4,none⟩=some (.int .i64 d.bO)->w'.cell? ⟨w.heap.size+1,5,none⟩=some (.slice (some ⟨g2,0,none⟩) d.patch.length d2)->w'.cell? ⟨w.heap.size+1,6,none⟩=some (.int .i64 d.start)->w'.cell? ⟨w.heap.size+1,7,none⟩=some (.int .i64 d.aB)->w'.cell? ⟨w.heap.size+1,8,none⟩=some (.int .i64 d.aj)->(results f32 a.tmps).run prog w'= .ok (.agg #[.int .i64 d.kind,.int .i64 d.member,.slice (some ⟨g1,0,none⟩) d.af.length d1,.string d.al,.int .i64 d.bO,.slice (some ⟨g2,0,none⟩) d.patch.length d2,.int .i64 d.start,.int .i64 d.aB,.int .i64 d.aj]) w':=by
  intro a w' ha nB nC nE ob oc od Ul Um ZL;simp[results,results32,go_sem,ha,nB,nC,nE,ob,oc,od,Ul,Um,ZL]
 refine aaT (gD _ _ rfl (by simp[go_sem,r0]) (by simp[go_sem,r1]) (by simp[go_sem,r2]) (by simp[go_sem,r3]) (by simp[go_sem,r4]) (by simp[go_sem,r5]) (by simp[go_sem,r6]) (by simp[go_sem,r7]) (by simp[go_sem,r8])) rfl ?_;refine ⟨g1,d1,g2,d2,rfl,Vt,EU,Vu,EV,by omega,by omega,by simpa using Vv,?_,?_,?_⟩
 ·iterate 13 refine Row.nP ?_ _ (by simp;omega)
  exact ZJ.o
 ·iterate 13 refine Row.nP ?_ _ (by simp;omega)
  exact HE.o
 iterate 13 refine Below.setCell ?_ (by first|(simp;done)|(simp;omega)) _
 exact dy.o
def Kn (d:dr) (v1 v2:Value) (k:Nat) (w:World) (e:Ending) (w':World):Prop:=
 e= .returned (.int .i64 ((k+d.af.length+4*d.patch.length:Nat):Int))/\Touch (λb=>v1.ownBlock=some b\/v2.ownBlock=some b) w w'
theorem xU (d:dr) (A1:Option Addr) (c1:Nat) (A2:Option Addr) (c2:Nat) (base k:Nat) (w:World) (h1:ay ak d.af base w (.slice A1 d.af.length c1)) (h2:ay ah d.patch base w (.slice A2 d.patch.length c2)) (gm: ∀b,cx d.af (.slice A1 d.af.length c1) b-> ¬cx d.patch (.slice A2 d.patch.length c2) b) (jA:0<k) (hk:k<=281474976710656) (n1:d.af.length<=1048576) (n2:d.patch.length<=1048576):
 Calls prog 35 #[.agg #[.int .i64 d.kind,.int .i64 d.member,.slice A1 d.af.length c1,.string d.al,.int .i64 d.bO,.slice A2 d.patch.length c2,.int .i64 d.start,.int .i64 d.aB,.int .i64 d.aj],.int .i64 (k:Int)] w (Kn d (.slice A1 d.af.length c1) (.slice A2 d.patch.length c2) k w):=by
 obtain ⟨W,hW⟩: ∃W:World,W=w.alloc (.cells #[.int .i64 d.kind,.int .i64 d.member,.slice A1 d.af.length c1,.string d.al,.int .i64 d.bO,.slice A2 d.patch.length c2,.int .i64 d.start,.int .i64 d.aB,.int .i64 d.aj] 55):=⟨_,rfl⟩
 have bW:Below w.heap.size w W:=by rw[hW];exact (aae _ _).alloc (aad _) _
 have lX:W.heap.size=w.heap.size+1:=by rw[hW];simp
 have ZM:W.cell? ⟨w.heap.size,2,none⟩=some (.slice A1 d.af.length c1):=by rw[hW];simp[go_sem]
 have Xb:W.cell? ⟨w.heap.size,5,none⟩=some (.slice A2 d.patch.length c2):=by rw[hW];simp[go_sem]
 have MB:=I (nG d.af (.slice A1 d.af.length c1) base k W (h1.on bW) (by omega) n1);have H1:=I h1;have ZN:=I (h2.on bW);have gf:=I bW;have lV:=I hW;have CC:=I gm;clear h1 h2 bW hW gm;go_enter func35,ntmps35;go_wp2_with (fail);rw[<-lV.o];refine (MB.o).mono ?_;rintro e w1 ⟨rfl,o1,g1⟩
 have t1:Touch (λb=>cx d.af (.slice A1 d.af.length c1) b) W w1:=Touch.aW g1 (λb hb=>by
  rw[gI]at hb
  split at hb
  ·cases hb
  rename_i h0;exact ⟨λe=>h0 (by rw[e];rfl),hb⟩)
 have d5:w1.cell? ⟨w.heap.size,5,none⟩=some (.slice A2 d.patch.length c2):=(abW (a:=⟨w.heap.size,5,none⟩) (t1.block w.heap.size (by rw[lX];omega) (λhb=>by have:=(ay.dw H1.o hb).2;omega))).trans Xb;have lQ:=I t1;have MC:=I (mv d.patch (.slice A2 d.patch.length c2) base (k+d.af.length) w1 (ZN.o.aD t1 (λb hb hf=>CC.o b hf hb)) (by omega) (by omega) n2);clear o1 g1 t1 Xb ZM;go_wp2_with (fail);refine (MC.o).mono ?_;rintro e w2 ⟨rfl,o2,g2⟩
 have oe:ag (Touch (λb=>cx d.patch (.slice A2 d.patch.length c2) b) w1 w2):=I (Touch.aW g2 (λb hb=>by
  rw[eL]at hb
  split at hb
  ·cases hb
  rename_i h0;exact ⟨λe=>h0 (by rw[e];rfl),hb⟩))
 clear o2 g2 d5;go_wp2;go_ret;exact ⟨pJ (by omega),((Touch.dV (F:=λb=>(Value.slice A1 d.af.length c1).ownBlock=some b\/(Value.slice A2 d.patch.length c2).ownBlock=some b) gf.o).trans (lQ.o.mono (λb _ hb=> .inl hb.2))).trans (oe.o.mono (λb _ hb=> .inr hb.2))⟩
end Go.Proofs.YtnandbammmcncaaGreat

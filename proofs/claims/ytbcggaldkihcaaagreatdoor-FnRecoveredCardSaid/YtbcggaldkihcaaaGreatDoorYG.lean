/- The count, walked: the reference's. The count, walked: the program's. -/
import Derived.Test.YtbcggaldkihcaaaGreatDoorYC
set_option maxHeartbeats 8000000
set_option maxRecDepth 100000
namespace Go.Proofs.YtbcggaldkihcaaaGreatDoor
open Tryz
open Go.RowKit Go.Lib
def jw (W w':World):Prop:=Below W.heap.size W w'
theorem jw.go {W a b:World} (h2:Below a.heap.size a b) (h1:jw W a):jw W b:=Below.trans h1 (Below.mono h2 (Below.size h1))
theorem jw.draw {W a:World} (h1:jw W a):jw W a.drew:=Below.drew h1
theorem jM {C:List Int} {s:Nat} (h:s<C.length):(C.map (Value.int .i64))[s]?=some (.int .i64 (C.getD s 0)):=by
 rw[List.getElem?_map,List.getD_eq_getElem?_getD,List.getElem?_eq_getElem h];rfl
theorem Touch.cellAt {F:Nat->Prop} {w w':World} (h:Touch F w w') {b o:Nat} {v:Value} (hc:w.cell? ⟨b,o,none⟩=some v) (hF: ¬F b):w'.cell? ⟨b,o,none⟩=some v:=
 (World.cell?_of_block (a:=⟨b,o,none⟩) (h.block b (World.block_lt_of_cell? w _ hc) hF)).trans hc
theorem iX.at {w:World} {base g cap k:Nat} {L:List Int} {z:Int} (h:iX w base g cap L) (hk:L[k]?=some z):w.cell? ⟨g,k,none⟩=some (.int .i64 z):=by
 obtain ⟨b,off,e,_,hc⟩:=cZ h.ints hk;injection e with e
 injection e with e1 e2
 rw[<-e1,<-e2,Nat.zero_add]at hc;exact hc
theorem ks {vs E:List Int} {k:Nat} {e:Int} {w:World} {g s:Nat} (hE:E[k]?=some e) (hs:fK vs e=s) (h:Row w g ((cC vs (E.take k)).map (Value.int .i64))):
 Row (w.setCell ⟨g,s,none⟩ (.int .i64 ((cC vs (E.take k)).getD s 0+1))) g ((cC vs (E.take (k+1))).map (Value.int .i64)):=by
 rw[BM vs hE,hs];unfold bump;rw[List.map_set];exact h.set s _ (by rw[List.length_map,fW,<-hs];exact yE vs e)
def lh (a:cp) (vs:List Int) (w:World) (e:Ending) (w':World):Prop:=
 ∃g,e= .returned (.slice (some ⟨g,0,none⟩) 4 4)/\ay ak (cO a vs) w.heap.size w' (.slice (some ⟨g,0,none⟩) 4 4)/\Below w.heap.size w w'
theorem yJ {a:cp} {vs:List Int} {base g:Nat} {w:World} (hb:base<=g) (hg:g<w.heap.size) (h:Row w g ((cO a vs).map (Value.int .i64))):ay ak (cO a vs) base w (.slice (some ⟨g,0,none⟩) 4 4):=
 ⟨some ⟨g,0,none⟩,4,by rw[qM],by rw[qM];exact Nat.le_refl _,by decide,λ_=>⟨g,rfl,hb,hg,by rw[je];exact h⟩⟩
theorem Rx (vs:List Int) (E:List Int):cj (λ_=>0) 4=(cC vs (E.take 0)).map (Value.int .i64):=rfl
theorem Ed (a:cp) (At:Option Addr) (ct:Nat) (vs:List Int) (b o:Nat) (Av:Option Addr) (cv:Nat) (w:World) (k1:w.cell? ⟨b,o+1,none⟩=some (.int .i64 a.rule)) (k2:w.cell? ⟨b,o+2,none⟩=some (.slice At a.af.length ct)) (hT:kH w w.heap.size (.slice At a.af.length ct) a.af) (hV:aae w w.heap.size (.slice Av vs.length cv) vs) (hl:vs.length=a.af.length) (cy:pf a):
 Calls prog 117 #[.pointer (some ⟨b,o,none⟩),.slice Av vs.length cv] w (lh a vs w):=by
 obtain ⟨i0,hi,dK,ez,ek⟩:=info_parts iD;obtain ⟨W,J0,bi,ow,ox⟩:=tz (P:=prog) w 35 2 i0 underlying35 hi dK ez 4 (by rw[ek];decide) (by decide);have qe:(Instr.makeSlice 35 (.int .i64 4) (.int .i64 4)).run prog w= .ok (.slice (some ⟨w.heap.size,0,none⟩) 4 4) W:=J0;have DX:=I bi;have PZ:=cy.Jx hl;have HVK:=I PZ;have BZ:=I (λW' (h:jw W W')=>BG a At ct vs b o Av cv W' ((ox.trans (Below.mono h ox.size)).cell (p:=⟨b,o+2,none⟩) (World.block_lt_of_cell? w _ k2)|>.trans k2) (hT.on (ox.trans (Below.mono h ox.size)) (ox.trans (Below.mono h ox.size)).size) (cz.on hV (Pl.stays _) (ox.trans (Below.mono h ox.size)) (ox.trans (Below.mono h ox.size)).size) hl (by have:=cy.n12;omega) (λl hl=>Nat.le_trans (cy.t4 l hl) (by omega)));have HK:=I (λW' (h:jw W W')=>((ox.trans (Below.mono h ox.size)).cell (p:=⟨b,o+1,none⟩) (World.block_lt_of_cell? w _ k1)).trans k1);have Ry:=I (λ(W':World) (v:Value) (hv:mN W' W'.heap.size v (eF vs a.af))=>BU (eF vs a.af) a.rule v W' hv PZ);unfold pW at BZ;unfold qQ at Ry;have HV:=I hV;have HL:=I hl;have gf:=I ox;have fD:=cy.n12;unfold lh;clear J0 bi PZ k1 k2 hT hV hl hi dK ez ek cy;go_enter func117,ntmps117;go_wp2_with (fail);have jo:jw W W:=Below.refl _ _;have c1:=HK.o W jo
 go_region_held3 (λw'=>w'.cell? ⟨b,o+1,none⟩=some (.int .i64 a.rule)/\jw W w')
  (first|exact ⟨HK.o _ jo,jo⟩|exact ⟨HK.o _ jo.draw,jo.draw⟩|exact ⟨HK.o _ (jw.go ‹_› (And.right ‹_›)),jw.go ‹_› (And.right ‹_›)⟩|exact ⟨HK.o _ (jw.go ‹_› ‹_›),jw.go ‹_› ‹_›⟩)
  (first
   |(go_at_call 135;refine Calls.mono (BZ.o _ (by first|assumption|exact And.right ‹_›)) ?_;rintro e w3 ⟨A3,c3,L3,rfl,MD,Ee,dB⟩;have fL:=jw.go dB (by first|assumption|exact And.right ‹_›))
   |(go_at_call 134;refine Calls.mono (Ry.o w3 _ (MD▸Ee.Jx)) ?_;rintro e w4 ⟨g,cap,rfl,cn,OE,E',l8⟩))
 all_goals
  have iz:jw W w4:=jw.go l8 fL;have kC:=I (gf.o.trans (Below.mono iz gf.o.size));have OG:=DX.o.below iz ow;rw[Rx vs (jl (eF vs a.af) a.rule)]at OG;have yu:=I OG;have fG:=E'.row.lt g rfl;have LV:W.heap.size<=w3.heap.size:=Below.size fL;have jP: ¬g=w.heap.size:=by omega
  have hY:=I E';have jS:=I OE;rw[ew HL.o]at cn⊢;have OH:=cn;have xh:ag (cO a vs=cC vs (jl (eF vs a.af) a.rule)):=I rfl;have OI:w.heap.size<w4.heap.size:=Nat.lt_of_lt_of_le ow (Below.size iz);clear OG E' OE l8 MD Ee dB fL iz LV ow;generalize jl (eF vs a.af) a.rule=E at*;rw[<-cn];clear c1 jo;go_wp2;go_loopw [7,28,39,53] (λi _ _ _ wr=> ∃k:Nat,k<=E.length/\i= .int .i64 (k:Int)/\Row wr w.heap.size ((cC vs (E.take k)).map (Value.int .i64))/\Touch (λc=>c=w.heap.size) w4 wr) (λi _ _ _ _=>E.length-(RowKit.intOf i).toNat);case atStart=>exact ⟨0,Nat.zero_le _,rfl,yu.o,Touch.refl _ _⟩
  case round=>
   obtain ⟨k,hk,rfl,Rz,ht⟩:=hrel;have kW:=I Rz;have HT:=I ht;clear Rz ht;by_cases aI:k<E.length
   ·have OJ:=jS.o k _ (List.getElem?_eq_getElem aI);have HE:=I (List.getElem?_eq_getElem aI);have x1:=HT.o.cellAt (hY.o.at HE.o) jP;rcases uj OJ with he|⟨j,he,hj⟩
    ·have vW:ag (fK vs E[k]=3):=I (by unfold fK;rw[if_pos (by omega)]);rw[he]at x1;clear OJ he;skip;have ur:3<(cC vs (E.take k)).length:=by rw[fW];decide
     have x5:=kW.o.cell 3 _ (jM ur);have f5:=kW.o.free 3 (by rw[List.length_map];exact ur);have zc:=eY vs (E.take k) 3;have OL:(E.take k).length<=k:=by rw[List.length_take];exact Nat.min_le_left _ _
     have HN:=I (ks HE.o vW.o kW.o);have Ef:=I (HT.o.setCell (p:=⟨w.heap.size,3,none⟩) rfl (.int .i64 ((cC vs (E.take k)).getD 3 0+1)));generalize (cC vs (E.take k)).getD 3 0=z at*;go_wp2;go_roundw;case rel=>exact ⟨k+1,by omega,by go_num,HN.o,Ef.o⟩
     case measure=>simp[RowKit.intOf];omega
    rw[ew HL.o,<-HL.o]at hj;obtain ⟨bv,ov,rfl,JA,d0⟩:=cZ HV.o (List.getElem?_eq_getElem hj);have x2:=HT.o.cellAt ((kC.o.cell (p:=⟨bv,ov+j,none⟩) JA).trans d0) (show¬bv=w.heap.size by omega);have vj: ¬(j:Int)<0:=by omega
    have F5:(j:Int)<(vs.length:Int):=by omega
    have xZ:vs.getD (j:Int).toNat 0=vs[j]:=by simp[List.getD,hj]
    have yH:fK vs E[k]=if vs[j]=2 then 0 else if vs[j]=1 then 1 else 2:=by
     unfold fK;rw[he,if_neg vj,xZ]
    rw[he]at x1;clear OJ he d0 xZ;generalize vs[j]=y at*;by_cases h2:y=2
    ·subst h2;have vW:ag (fK vs E[k]=0):=I (by rw[yH];rfl);clear yH;skip;have ur:0<(cC vs (E.take k)).length:=by rw[fW];decide
     have x5:=kW.o.cell 0 _ (jM ur);have f5:=kW.o.free 0 (by rw[List.length_map];exact ur);have zc:=eY vs (E.take k) 0;have OL:(E.take k).length<=k:=by rw[List.length_take];exact Nat.min_le_left _ _
     have HN:=I (ks HE.o vW.o kW.o);have Ef:=I (HT.o.setCell (p:=⟨w.heap.size,0,none⟩) rfl (.int .i64 ((cC vs (E.take k)).getD 0 0+1)));generalize (cC vs (E.take k)).getD 0 0=z at*;go_wp2;go_roundw;case rel=>exact ⟨k+1,by omega,by go_num,HN.o,Ef.o⟩
     case measure=>simp[RowKit.intOf];omega
    rw[if_neg h2]at yH;have q2:(y==2)=false:=by simpa using h2
    by_cases h1:y=1
    ·subst h1;have vW:ag (fK vs E[k]=1):=I (by rw[yH];rfl);clear yH h2;skip;have ur:1<(cC vs (E.take k)).length:=by rw[fW];decide
     have x5:=kW.o.cell 1 _ (jM ur);have f5:=kW.o.free 1 (by rw[List.length_map];exact ur);have zc:=eY vs (E.take k) 1;have OL:(E.take k).length<=k:=by rw[List.length_take];exact Nat.min_le_left _ _
     have HN:=I (ks HE.o vW.o kW.o);have Ef:=I (HT.o.setCell (p:=⟨w.heap.size,1,none⟩) rfl (.int .i64 ((cC vs (E.take k)).getD 1 0+1)));generalize (cC vs (E.take k)).getD 1 0=z at*;go_wp2;go_roundw;case rel=>exact ⟨k+1,by omega,by go_num,HN.o,Ef.o⟩
     case measure=>simp[RowKit.intOf];omega
    rw[if_neg h1]at yH;have q1:(y==1)=false:=by simpa using h1
    have vW:=I yH;clear yH h1 h2;skip;have ur:2<(cC vs (E.take k)).length:=by rw[fW];decide
    have x5:=kW.o.cell 2 _ (jM ur);have f5:=kW.o.free 2 (by rw[List.length_map];exact ur);have zc:=eY vs (E.take k) 2;have OL:(E.take k).length<=k:=by rw[List.length_take];exact Nat.min_le_left _ _
    have HN:=I (ks HE.o vW.o kW.o);have Ef:=I (HT.o.setCell (p:=⟨w.heap.size,2,none⟩) rfl (.int .i64 ((cC vs (E.take k)).getD 2 0+1)));generalize (cC vs (E.take k)).getD 2 0=z at*;go_wp2;go_roundw;case rel=>exact ⟨k+1,by omega,by go_num,HN.o,Ef.o⟩
    case measure=>simp[RowKit.intOf];omega
   have eA: ¬(k:Int)<(E.length:Int):=by omega
   have LW:ag (Row wr w.heap.size ((cO a vs).map (Value.int .i64))):=I (by
    rw[xh.o];have:=kW.o
    rwa [List.take_of_length_le (by omega)]at this)
   have xi:=I (kC.o.trans (HT.o.below kC.o.size (λb hb=>by rw[hb];exact Nat.le_refl _)));have UZ:w.heap.size<wr.heap.size:=Nat.lt_of_lt_of_le OI HT.o.size;go_wp2;go_ret;exact ⟨w.heap.size,rfl,yJ (Nat.le_refl _) UZ LW.o,xi.o⟩
end Go.Proofs.YtbcggaldkihcaaaGreatDoor

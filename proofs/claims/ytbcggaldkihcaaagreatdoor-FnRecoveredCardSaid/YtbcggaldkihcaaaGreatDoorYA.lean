/- Settling, plain: costs of ways, as the program and as the reference reckon them; no prog.. -/
import Derived.Test.YtbcggaldkihcaaaGreatDoorQI
namespace Go.Proofs.YtbcggaldkihcaaaGreatDoor
open Tryz
structure Gr where
 n:Nat
 sp:Nat->Bool
 tr:Nat->List Nat
structure Gr.Ok (g:Gr):Prop where
 lt: ∀i,i<g.n-> ∀t∈g.tr i,t<g.n
 ne: ∀i,∀t∈g.tr i,t≠i
 four: ∀i,(g.tr i).length<=4
def Gr.on (g:Gr) (B:List Nat) (i:Nat):Bool:=!g.sp i&&!B.contains i
inductive Reach (g:Gr) (B:List Nat):Nat->Prop
 |sp (i:Nat):B.contains i=false->g.sp i=true->Reach g B i
 |st (i t:Nat):g.on B i=true->t∈g.tr i->Reach g B t->Reach g B i
def mc (C:Nat->Int) (i t:Nat) (s:Int):Nat->Int:=λj=>if j=i then min (C i) (C t+s)else C j
def ug (D:Nat->Int) (i t:Nat) (s:Int):Nat->Int:=λj=>if j=i then (if 0<=D t/\(D i<0\/s+D t<D i)then s+D t else D i)else D j
def uy (g:Gr) (c:Nat->Int) (i:Nat) (C:Nat->Int):Nat->(Nat->Int)
 |0=>C
 |k+1=>match (g.tr i)[k]? with|some t=>mc (uy g c i C k) i t (c (k+1))|none=>uy g c i C k
def wj (g:Gr) (c:Nat->Int) (i:Nat) (C:Nat->Int):Nat->(Nat->Int)
 |0=>C
 |k+1=>match (g.tr i)[k]? with|some t=>ug (wj g c i C k) i t (c (k+1))|none=>wj g c i C k
def rZ (g:Gr) (B:List Nat) (c:Nat->Int) (C:Nat->Int) (i:Nat):Nat->Int:=if g.on B i then uy g c i C (g.tr i).length else C
def DU (g:Gr) (B:List Nat) (c:Nat->Int) (C:Nat->Int) (i:Nat):Nat->Int:=if g.on B i then wj g c i C (g.tr i).length else C
def dZ (g:Gr) (B:List Nat) (c:Nat->Int) (C:Nat->Int):Nat->(Nat->Int)
 |0=>C
 |i+1=>rZ g B c (dZ g B c C i) i
def iF (g:Gr) (B:List Nat) (c:Nat->Int) (C:Nat->Int):Nat->(Nat->Int)
 |0=>C
 |i+1=>DU g B c (iF g B c C i) i
def kI (g:Gr) (B:List Nat):Nat->Int:=λi=>if g.sp i&&!B.contains i then 0 else 1000
def jV (g:Gr) (B:List Nat):Nat->Int:=λi=>if g.sp i&&!B.contains i then 0 else-1
def bK (g:Gr) (B:List Nat) (c:Nat->Int):Nat->(Nat->Int)
 |0=>kI g B
 |r+1=>dZ g B c (bK g B c r) g.n
def fE (g:Gr) (B:List Nat) (c:Nat->Int):Nat->(Nat->Int)
 |0=>jV g B
 |r+1=>iF g B c (fE g B c r) g.n
def gh (c:Nat->Int):Prop:= ∀k,k<4->1<=c (k+1)/\c (k+1)<=4
def Rel (b:Int) (C D:Nat->Int):Prop:= ∀j,(C j=1000/\D j= -1)\/(0<=C j/\C j<=b/\D j=C j)
def uz (i:Nat) (b:Int) (C D:Nat->Int):Prop:= ∀j,(C j=1000/\D j= -1)\/(0<=C j/\C j<=(if j=i then b+4 else b)/\D j=C j)
theorem Rel.row {b:Int} {C D:Nat->Int} (h:Rel b C D) (i:Nat):uz i b C D:=λj=>by
 rcases h j with h|⟨h1,h2,h3⟩
 ·exact Or.inl h
 refine Or.inr ⟨h1,?_,h3⟩;by_cases e:j=i
 ·rw[if_pos e];omega
 rw[if_neg e];exact h2
theorem uz.rel {b:Int} {i:Nat} {C D:Nat->Int} (h:uz i b C D):Rel (b+4) C D:=λj=>by
 rcases h j with h|⟨h1,h2,h3⟩
 ·exact Or.inl h
 refine Or.inr ⟨h1,?_,h3⟩;by_cases e:j=i
 ·rw[if_pos e]at h2;exact h2
 rw[if_neg e]at h2;omega
theorem Rel.mono {b b':Int} {C D:Nat->Int} (h:Rel b C D) (hb:b<=b'):Rel b' C D:=λj=>by
 rcases h j with h|⟨h1,h2,h3⟩
 ·exact Or.inl h
 exact Or.inr ⟨h1,by omega,h3⟩
theorem uz.step {b:Int} {i t:Nat} {s:Int} {C D:Nat->Int} (h:uz i b C D) (ht:t≠i) (h1:1<=s) (h4:s<=4) (hb:b+4<1000):uz i b (mc C i t s) (ug D i t s):=λj=>by
 unfold mc ug;by_cases e:j=i
 ·subst e;simp only[if_true];have hj:=h j;have hk:=h t;rw[if_pos rfl]at hj;rw[if_neg ht]at hk;rcases hk with ⟨k1,k2⟩|⟨k1,k2,k3⟩
  ·rw[k1,k2,if_neg (by omega)];rcases hj with ⟨j1,j2⟩|⟨j1,j2,j3⟩
   ·exact Or.inl ⟨by rw[j1,Int.min_eq_left (by omega)],j2⟩
   rw[Int.min_eq_left (by omega)];exact Or.inr ⟨j1,j2,j3⟩
  rw[k3];rcases hj with ⟨j1,j2⟩|⟨j1,j2,j3⟩
  ·rw[j1,j2,if_pos (by omega),Int.min_eq_right (by omega)];exact Or.inr ⟨by omega,by omega,by omega⟩
  rw[j3];by_cases hl:s+C t<C j
  ·rw[if_pos (by omega),Int.min_eq_right (by omega)];exact Or.inr ⟨by omega,by omega,by omega⟩
  rw[if_neg (by omega),Int.min_eq_left (by omega)];exact Or.inr ⟨j1,j2,rfl⟩
 simp only[if_neg e];have hj:=h j;rw[if_neg e]at hj;exact hj
theorem uz.fa {g:Gr} (hg:g.Ok) {c:Nat->Int} (hc:gh c) {b:Int} {i:Nat} {C D:Nat->Int} (h:uz i b C D) (hb:b+4<1000): ∀k,uz i b (uy g c i C k) (wj g c i D k)
 |0=>h
 |k+1=>by
  have ih:=uz.fa hg hc h hb k;unfold uy wj;cases ht:(g.tr i)[k]? with
  |none=>exact ih
  |some t=>
   have hk:=(List.getElem?_eq_some_iff.1 ht).1;have h4:=hg.four i;obtain ⟨c1,c4⟩:=hc k (by omega);exact ih.step (hg.ne i t (List.mem_of_getElem? ht)) c1 c4 hb
theorem Rel.rows {g:Gr} (hg:g.Ok) {c:Nat->Int} (hc:gh c) {b:Int} {B:List Nat} {C D:Nat->Int} (h:Rel b C D) (hb:b+4<1000) (i:Nat):Rel (b+4) (rZ g B c C i) (DU g B c D i):=by
 unfold rZ DU;by_cases ho:g.on B i=true
 ·rw[if_pos ho,if_pos ho];exact ((h.row i).fa hg hc hb _).rel
 rw[if_neg ho,if_neg ho];exact h.mono (by omega)
theorem Rel.pass {g:Gr} (hg:g.Ok) {c:Nat->Int} (hc:gh c) {b:Int} {B:List Nat} {C D:Nat->Int} (h:Rel b C D): ∀i:Nat,b+4*(i:Int)<1000->Rel (b+4*(i:Int)) (dZ g B c C i) (iF g B c D i)
 |0,_=>h.mono (by omega)
 |i+1,hb=>by
  unfold dZ iF;exact ((Rel.pass hg hc h i (by omega)).rows hg hc (by omega) i).mono (by omega)
theorem Rel.run {g:Gr} (hg:g.Ok) (hn:g.n<=12) {c:Nat->Int} (hc:gh c) {B:List Nat}: ∀r:Nat,r<=12->Rel (48*(r:Int)) (bK g B c r) (fE g B c r)
 |0,_=>λj=>by
  unfold bK fE kI jV;by_cases h:(g.sp j&&!B.contains j)=true
  ·rw[if_pos h,if_pos h];exact Or.inr ⟨by omega,by omega,rfl⟩
  rw[if_neg h,if_neg h];exact Or.inl ⟨rfl,rfl⟩
 |r+1,hr=>by
  unfold bK fE;exact (Rel.pass hg hc (Rel.run hg hn hc r (by omega)) g.n (by omega)).mono (by omega)
theorem wk (C:Nat->Int) (i t:Nat) (s:Int) (j:Nat):mc C i t s j<=C j:=by
 unfold mc;by_cases e:j=i
 ·subst e;rw[if_pos rfl];omega
 rw[if_neg e];omega
theorem kq {C:Nat->Int} {i t:Nat} {s:Int} {j:Nat} (h:j≠i):mc C i t s j=C j:=by unfold mc;rw[if_neg h]
theorem qJ {C:Nat->Int} {i t:Nat} {s:Int}:mc C i t s i=min (C i) (C t+s):=by unfold mc;rw[if_pos rfl]
section
variable {g:Gr} {B:List Nat} {c:Nat->Int}
theorem pg {i k t:Nat} {C:Nat->Int} (h:(g.tr i)[k]?=some t):uy g c i C (k+1)=mc (uy g c i C k) i t (c (k+1)):=by
 rw[uy,h]
theorem zy {i k:Nat} {C:Nat->Int} (h:(g.tr i)[k]?=none):uy g c i C (k+1)=uy g c i C k:=by
 rw[uy,h]
theorem LI (i k:Nat) (C:Nat->Int) (j:Nat):uy g c i C (k+1) j<=uy g c i C k j:=by
 cases h:(g.tr i)[k]? with
 |none=>rw[zy h];omega
 |some t=>rw[pg h];exact wk _ _ _ _ _
theorem JE (i:Nat) (C:Nat->Int) (j:Nat): ∀{k m:Nat},k<=m->uy g c i C m j<=uy g c i C k j:=by
 intro k m h;induction m with
 |zero=>rw[Nat.le_zero.1 h];omega
 |succ m ih=>
  by_cases e:k=m+1
  ·rw[e];omega
  have:=ih (by omega);have:=LI (g:=g) (c:=c) i m C j;omega
theorem ts {i j:Nat} (h:j≠i) (C:Nat->Int): ∀k,uy g c i C k j=C j
 |0=>rfl
 |k+1=>by
  have ih:=ts h C k;cases ht:(g.tr i)[k]? with
  |none=>rw[zy ht];exact ih
  |some t=>rw[pg ht,kq h];exact ih
theorem LJ (C:Nat->Int) (i j:Nat):rZ g B c C i j<=C j:=by
 unfold rZ;by_cases h:g.on B i=true
 ·rw[if_pos h];exact JE i C j (Nat.zero_le _)
 rw[if_neg h];omega
theorem wl {C:Nat->Int} {i j:Nat} (h:j≠i):rZ g B c C i j=C j:=by
 unfold rZ;by_cases ho:g.on B i=true
 ·rw[if_pos ho];exact ts h C _
 rw[if_neg ho]
theorem BI {C:Nat->Int} {i:Nat} (h:g.on B i=false):rZ g B c C i=C:=by
 unfold rZ;rw[if_neg (by rw[h];simp)]
theorem yA (hg:g.Ok) {C:Nat->Int} {i k t:Nat} (ho:g.on B i=true) (ht:(g.tr i)[k]?=some t):rZ g B c C i i<=C t+c (k+1):=by
 unfold rZ;rw[if_pos ho];have h1:=JE (g:=g) (c:=c) i C i (k:=k+1) (m:=(g.tr i).length) (List.getElem?_eq_some_iff.1 ht).1;rw[pg ht,qJ,ts (hg.ne i t (List.mem_of_getElem? ht))]at h1;omega
theorem GA (C:Nat->Int) (i j:Nat):dZ g B c C (i+1) j<=dZ g B c C i j:=LJ _ _ _
theorem mO (C:Nat->Int) (j:Nat): ∀{k m:Nat},k<=m->dZ g B c C m j<=dZ g B c C k j:=by
 intro k m h;induction m with
 |zero=>rw[Nat.le_zero.1 h];omega
 |succ m ih=>
  by_cases e:k=m+1
  ·rw[e];omega
  have:=ih (by omega);have:=GA (g:=g) (B:=B) (c:=c) C m j;omega
theorem yB {C:Nat->Int} {j:Nat} (h:g.on B j=false): ∀i,dZ g B c C i j=C j
 |0=>rfl
 |i+1=>by
  have ih:=yB (C:=C) h i;by_cases e:j=i
  ·subst e;rw[dZ,BI h];exact ih
  rw[dZ,wl e];exact ih
theorem yC {C:Nat->Int} {j:Nat}: ∀i,i<=j->dZ g B c C i j=C j
 |0,_=>rfl
 |i+1,h=>by rw[dZ,wl (by omega)];exact yC i (by omega)
theorem BJ (r j:Nat):bK g B c (r+1) j<=bK g B c r j:=mO _ j (Nat.zero_le _)
theorem E6 (j:Nat): ∀{k m:Nat},k<=m->bK g B c m j<=bK g B c k j:=by
 intro k m h;induction m with
 |zero=>rw[Nat.le_zero.1 h];omega
 |succ m ih=>
  by_cases e:k=m+1
  ·rw[e];omega
  have:=ih (by omega);have:=BJ (g:=g) (B:=B) (c:=c) m j;omega
theorem r9 {j:Nat} (h:g.on B j=false): ∀r,bK g B c r j=kI g B j
 |0=>rfl
 |r+1=>by rw[bK,yB h];exact r9 h r
theorem ph {j:Nat} (h:g.n<=j): ∀r,bK g B c r j=kI g B j
 |0=>rfl
 |r+1=>by rw[bK,yC _ h];exact ph h r
theorem yD {N:Nat} (h:bK g B c (N+1)=bK g B c N): ∀m,bK g B c (N+m)=bK g B c N
 |0=>rfl
 |m+1=>by
  show dZ g B c (bK g B c (N+m)) g.n=_
  rw[yD h m];exact h
structure fw (g:Gr) (B:List Nat) (c:Nat->Int) (C:Nat->Int):Prop where
 pos: ∀j,0<=C j
 MH: ∀j,C j<=1000
 Ow: ∀i,g.on B i=true->C i<1000-> ∃k t,(g.tr i)[k]?=some t/\C t+c (k+1)<=C i
 snd: ∀i,C i<1000->Reach g B i
theorem fw.init:fw g B c (kI g B) where
 pos j:=by unfold kI;split<;>omega
 MH j:=by unfold kI;split<;>omega
 Ow i ho h:=by
  unfold kI at h;unfold Gr.on at ho;cases hs:g.sp i with
  |true=>rw[hs]at ho;cases ho
  |false=>rw[hs]at h;simp at h
 snd i h:=by
  unfold kI at h;by_cases e:(g.sp i&&!B.contains i)=true
  ·rw[Bool.and_eq_true,Bool.not_eq_true']at e;exact Reach.sp i e.2 e.1
  rw[if_neg e]at h;omega
theorem fw.step (hg:g.Ok) (hc:gh c) {C:Nat->Int} (h:fw g B c C) {i k t:Nat} (ho:g.on B i=true) (ht:(g.tr i)[k]?=some t):fw g B c (mc C i t (c (k+1))) where
 pos j:=by
  have h1:=h.pos i;have h2:=h.pos t;have h3:=h.pos j;have:=(hc k (by have:=hg.four i;have:=(List.getElem?_eq_some_iff.1 ht).1;omega)).1;unfold mc
  split<;>omega
 MH j:=Int.le_trans (wk _ _ _ _ _) (h.MH j)
 Ow j hj aI:=by
  have gm:=hg.ne i t (List.mem_of_getElem? ht);by_cases e:j=i
  ·subst e;rw[qJ]at aI⊢;by_cases hm:C j<=C t+c (k+1)
   ·obtain ⟨k',t',h1,h2⟩:=h.Ow j hj (by omega);exact ⟨k',t',h1,by rw[kq (hg.ne j t' (List.mem_of_getElem? h1))];omega⟩
   exact ⟨k,t,ht,by rw[kq gm];omega⟩
  rw[kq e]at aI⊢;obtain ⟨k',t',h1,h2⟩:=h.Ow j hj aI;have:=wk C i t (c (k+1)) t';exact ⟨k',t',h1,by omega⟩
 snd j aI:=by
  by_cases e:j=i
  ·subst e;rw[qJ]at aI;have:=(hc k (by have:=hg.four j;have:=(List.getElem?_eq_some_iff.1 ht).1;omega)).1;by_cases hm:C j<1000
   ·exact h.snd j hm
   exact Reach.st j t ho (List.mem_of_getElem? ht) (h.snd t (by omega))
  rw[kq e]at aI;exact h.snd j aI
theorem fw.fa (hg:g.Ok) (hc:gh c) {C:Nat->Int} (h:fw g B c C) {i:Nat} (ho:g.on B i=true): ∀k,fw g B c (uy g c i C k)
 |0=>h
 |k+1=>by
  have ih:=fw.fa hg hc h ho k;cases ht:(g.tr i)[k]? with
  |none=>rw[zy ht];exact ih
  |some t=>rw[pg ht];exact ih.step hg hc ho ht
theorem fw.pass (hg:g.Ok) (hc:gh c) {C:Nat->Int} (h:fw g B c C): ∀i,fw g B c (dZ g B c C i)
 |0=>h
 |i+1=>by
  have ih:=fw.pass hg hc h i;rw[dZ];unfold rZ;by_cases ho:g.on B i=true
  ·rw[if_pos ho];exact ih.fa hg hc ho _
  rw[if_neg ho];exact ih
theorem fw.run (hg:g.Ok) (hc:gh c): ∀r,fw g B c (bK g B c r)
 |0=>fw.init
 |r+1=>(fw.run hg hc r).pass hg hc g.n
theorem sq {C F:Nat->Int} (h1: ∀j,C j<=F j) (h2: ∀j,F j<=C j):C=F:=funext λj=>Int.le_antisymm (h1 j) (h2 j)
theorem BK (hg:g.Ok) {F:Nat->Int} (h:dZ g B c F g.n=F) {i k t:Nat} (hi:i<g.n) (ho:g.on B i=true) (ht:(g.tr i)[k]?=some t):F i<=F t+c (k+1):=by
 have e:dZ g B c F i=F:=sq (λj=>mO F j (Nat.zero_le _)) (λj=>by
  have:=mO (g:=g) (B:=B) (c:=c) F j (Nat.le_of_lt hi)
  rwa [h]at this)
 have h1:=mO (g:=g) (B:=B) (c:=c) F i (Nat.succ_le_of_lt hi);rw[h,dZ,e]at h1;exact Int.le_trans h1 (yA hg ho ht)
def xK (C:Nat->Int):Nat->Nat
 |0=>0
 |n+1=>xK C n+(C n).toNat
theorem E7 {C D:Nat->Int} (h: ∀j,C j<=D j): ∀n,xK C n<=xK D n
 |0=>Nat.le_refl _
 |n+1=>by
  have:=E7 h n;have:=h n;unfold xK;omega
theorem E8 {C D:Nat->Int} (h: ∀j,C j<=D j) (h0: ∀j,0<=C j): ∀n,(∃j,j<n/\C j≠D j)->xK C n<xK D n
 |0,⟨j,hj,_⟩=>absurd hj (Nat.not_lt_zero _)
 |n+1,⟨j,hj,gm⟩=>by
  have h1:=h n;have h2:=h0 n;have h3:=E7 h n;unfold xK;by_cases e:j=n
  ·subst e;omega
  have:=E8 h h0 n ⟨j,by omega,gm⟩;omega
theorem stands (hg:g.Ok) (hc:gh c): ∃N,bK g B c (N+1)=bK g B c N:=by
 apply Classical.byContradiction;intro rf
 have hd: ∀r,xK (bK g B c r) g.n+r<=xK (bK g B c 0) g.n:=by
  intro r;induction r with
  |zero=>omega
  |succ r ih=>
   have gm: ∃j,j<g.n/\bK g B c (r+1) j≠bK g B c r j:=by
    apply Classical.byContradiction;intro hn;refine rf ⟨r,funext λj=>?_⟩;by_cases hj:j<g.n
    ·exact Classical.byContradiction λh=>hn ⟨j,hj,h⟩
    rw[ph (by omega),ph (by omega)]
   have:=E8 (C:=bK g B c (r+1)) (D:=bK g B c r) (λj=>BJ r j) (fw.run hg hc (r+1)).pos g.n gm;omega
 have:=hd (xK (bK g B c 0) g.n+1);omega
def rk (F:Nat->Int) (n i:Nat):Nat:=((List.range n).filter (λj=>decide (F j<F i))).length
theorem filter_le {p q:Nat->Bool} (h: ∀j,p j=true->q j=true): ∀l:List Nat,(l.filter p).length<=(l.filter q).length
 |[]=>Nat.le_refl _
 |a::l=>by
  have ih:=filter_le h l;cases hp:p a with
  |true=>rw[List.filter_cons_of_pos hp,List.filter_cons_of_pos (h a hp)];simpa using ih
  |false=>
   rw[List.filter_cons_of_neg (by rw[hp];simp)];cases hq:q a with
   |true=>rw[List.filter_cons_of_pos hq,List.length_cons];omega
   |false=>rw[List.filter_cons_of_neg (by rw[hq];simp)];exact ih
theorem filter_lt {p q:Nat->Bool} (h: ∀j,p j=true->q j=true) {t:Nat} (hp:p t=false) (hq:q t=true): ∀l:List Nat,t∈l->(l.filter p).length<(l.filter q).length
 |a::l,hm=>by
  by_cases e:t=a
  ·subst e;have:=filter_le h l;rw[List.filter_cons_of_neg (by rw[hp];simp),List.filter_cons_of_pos hq,List.length_cons];omega
  have ih:=filter_lt h hp hq l (by rcases List.mem_cons.1 hm with hm|hm;exact absurd hm e;exact hm);cases UG:p a with
  |true=>rw[List.filter_cons_of_pos UG,List.filter_cons_of_pos (h a UG)];simpa using ih
  |false=>
   rw[List.filter_cons_of_neg (by rw[UG];simp)];cases WD:q a with
   |true=>rw[List.filter_cons_of_pos WD,List.length_cons];omega
   |false=>rw[List.filter_cons_of_neg (by rw[WD];simp)];exact ih
theorem MI {F:Nat->Int} {n i t:Nat} (ht:t<n) (h:F t<F i):rk F n t<rk F n i:=
 filter_lt (t:=t) (λj hj=>by rw[decide_eq_true_eq]at hj⊢;omega) (by simp) (by simpa using h) _ (List.mem_range.2 ht)
theorem UH {F:Nat->Int} {n i:Nat} (hi:i<n):rk F n i<n:=by
 have h:=filter_lt (p:=λj=>decide (F j<F i)) (q:=λ_=>true) (t:=i) (λ_ _=>rfl) (by simp) rfl _ (List.mem_range.2 hi);rw[List.filter_eq_self.2 (λ_ _=>rfl),List.length_range]at h;exact h
theorem UI (hg:g.Ok) (hc:gh c) {F:Nat->Int} (hF:fw g B c F) (WE: ∀i,g.on B i=false->F i=kI g B i): ∀(r i:Nat),i<g.n->F i<1000->rk F g.n i<=r->bK g B c r i<=F i:=by
 intro r;induction r with
 |zero=>
  intro i hi aI hr;cases ho:g.on B i with
  |false=>rw[r9 ho,WE i ho];omega
  |true=>
   obtain ⟨k,t,ht,hle⟩:=hF.Ow i ho aI;have:=(hc k (by have:=hg.four i;have:=(List.getElem?_eq_some_iff.1 ht).1;omega)).1;have:=MI (F:=F) (n:=g.n) (i:=i) (hg.lt i hi t (List.mem_of_getElem? ht)) (by omega);omega
 |succ r ih=>
  intro i hi aI hr;cases ho:g.on B i with
  |false=>rw[r9 ho,WE i ho];omega
  |true=>
   obtain ⟨k,t,ht,hle⟩:=hF.Ow i ho aI;have:=(hc k (by have:=hg.four i;have:=(List.getElem?_eq_some_iff.1 ht).1;omega)).1;have Ak:=hg.lt i hi t (List.mem_of_getElem? ht);have h1:=MI (F:=F) (n:=g.n) (i:=i) Ak (by omega);have h2:=ih t Ak (by omega) (by omega);have h3:=mO (g:=g) (B:=B) (c:=c) (bK g B c r) i (k:=i+1) (m:=g.n) hi;have h4:dZ g B c (bK g B c r) (i+1) i<=dZ g B c (bK g B c r) i t+c (k+1):=yA hg ho ht;have h5:=mO (g:=g) (B:=B) (c:=c) (bK g B c r) t (Nat.zero_le i);have h6:dZ g B c (bK g B c r) 0 t=bK g B c r t:=rfl;rw[bK];omega
theorem still (hg:g.Ok) (hc:gh c):dZ g B c (bK g B c g.n) g.n=bK g B c g.n:=by
 obtain ⟨N,hN⟩:=stands (g:=g) (B:=B) hg hc;have hk:=fw.run (B:=B) hg hc N
 have e:bK g B c g.n=bK g B c N:=by
  rcases Nat.le_total N g.n with h|h
  ·have:=yD hN (g.n-N)
   rwa [show N+(g.n-N)=g.n by omega]at this
  refine sq (λj=>?_) (λj=>E6 j h);by_cases hj:j<g.n
  ·by_cases hf:bK g B c N j<1000
   ·exact UI hg hc hk (λi ho=>r9 ho N) g.n j hj hf (Nat.le_of_lt (UH hj))
   have:=(fw.run (B:=B) hg hc g.n).MH j;omega
  rw[ph (by omega),ph (by omega)];omega
 rw[e];exact hN
theorem zA (hg:g.Ok) (hn:g.n<=12) (hc:gh c) {i:Nat} (hi:i<g.n):bK g B c g.n i<1000↔Reach g B i:=by
 refine ⟨(fw.run hg hc g.n).snd i,λh=>?_⟩;induction h with
 |sp i hb hs=>
  have h1:=E6 (g:=g) (B:=B) (c:=c) i (Nat.zero_le g.n)
  have h2:bK g B c 0 i=0:=by
   show kI g B i=0
   unfold kI;rw[hs,hb];rfl
  omega
 |st i t ho ht _ ih=>
  obtain ⟨k,hk⟩:=List.mem_iff_getElem?.1 ht;have h1:=ih (hg.lt i hi t ht);have h2:=BK hg (still (B:=B) hg hc) hi ho hk;have h3:=(hc k (by have:=hg.four i;have:=(List.getElem?_eq_some_iff.1 hk).1;omega)).2;rcases Rel.run hg hn hc (B:=B) g.n hn t with h4|h4<;>omega
theorem GB (hg:g.Ok) (hc:gh c) {i:Nat} (hi:i<g.n) (ho:g.on B i=true) (h:bK g B c g.n i<1000): ∃k t,(g.tr i)[k]?=some t/\bK g B c g.n t+c (k+1)=bK g B c g.n i:=by
 obtain ⟨k,t,ht,hle⟩:=(fw.run (B:=B) hg hc g.n).Ow i ho h;have:=BK hg (still (B:=B) hg hc) hi ho ht;exact ⟨k,t,ht,by omega⟩
theorem GC {xe:Nat} (ha:g.sp xe=false) {x:Nat} (h:Reach g B x):Reach g (B++[xe]) x\/ ∃t∈g.tr xe,Reach g (B++[xe]) t:=by
 have EM: ∀y,y≠xe->B.contains y=false->(B++[xe]).contains y=false:=λy hy hb=>by
  have h1: ¬y∈B:=by simpa using hb
  simp[h1,hy]
 induction h with
 |sp i hb hs=>
  exact Or.inl (Reach.sp i (EM i (λe=>by rw[e,ha]at hs;cases hs) hb) hs)
 |st i t ho ht _ ih=>
  rcases ih with ih|ih
  ·by_cases e:i=xe
   ·subst e;exact Or.inr ⟨t,ht,ih⟩
   refine Or.inl (Reach.st i t ?_ ht ih);unfold Gr.on at ho⊢;rw[Bool.and_eq_true,Bool.not_eq_true',Bool.not_eq_true']at ho⊢;exact ⟨ho.1,EM i e ho.2⟩
  exact Or.inr ih
end
structure BL (g:Gr) (B:List Nat) (m:Nat) (S O E:List Nat):Prop where
 LK: ∀x∈S,x<g.n/\ ¬x∈B
 JF: ∀x∈O,x<g.n
 nd:S.Nodup
 ends: ∀x∈E,x∈S/\g.sp x=true
 sp: ∀x∈S,g.sp x=true->x∈E
 tr: ∀x∈S,g.sp x=false-> ∀u∈g.tr x,u∈B\/u∈S\/u∈O
 start:m∈B\/m∈S\/m∈O
 uh: ∀x∈S,Reach g B x->Reach g B m
 qq: ∀x∈O,Reach g B x->Reach g B m
theorem BL.init {g:Gr} {B:List Nat} {m:Nat} (hm:m<g.n):BL g B m [] [m] [] where
 LK x h:=by cases h
 JF x h:=by rw[List.mem_singleton.1 h];exact hm
 nd:=List.nodup_nil
 ends x h:=by cases h
 sp x h:=by cases h
 tr x h:=by cases h
 start:=Or.inr (Or.inr (List.mem_singleton.2 rfl))
 uh x h:=by cases h
 qq x h:=by rw[List.mem_singleton.1 h];exact id
theorem BL.skip {g:Gr} {B S O E:List Nat} {m x:Nat} (h:BL g B m S (x::O) E) (hx:x∈B\/x∈S):BL g B m S O E where
 LK:=h.LK
 JF y hy:=h.JF y (List.mem_cons_of_mem _ hy)
 nd:=h.nd
 ends:=h.ends
 sp:=h.sp
 tr y hy hs u hu:=by
  rcases h.tr y hy hs u hu with h1|h1|h1
  ·exact Or.inl h1
  ·exact Or.inr (Or.inl h1)
  rcases List.mem_cons.1 h1 with rfl|h1
  ·rcases hx with hx|hx
   ·exact Or.inl hx
   exact Or.inr (Or.inl hx)
  exact Or.inr (Or.inr h1)
 start:=by
  rcases h.start with h1|h1|h1
  ·exact Or.inl h1
  ·exact Or.inr (Or.inl h1)
  rcases List.mem_cons.1 h1 with rfl|h1
  ·rcases hx with hx|hx
   ·exact Or.inl hx
   exact Or.inr (Or.inl hx)
  exact Or.inr (Or.inr h1)
 uh:=h.uh
 qq y hy:=h.qq y (List.mem_cons_of_mem _ hy)
theorem df {x y:Nat} {S:List Nat}:y∈S++[x]↔y∈S\/y=x:=by simp
theorem qK {x:Nat} {S:List Nat} (h:S.Nodup) (hx: ¬x∈S):(S++[x]).Nodup:=by
 rw[List.nodup_append];exact ⟨h,by simp,λa ha b hb=>by rw[List.mem_singleton.1 hb];exact λe=>hx (e▸ha)⟩
theorem BL.more {g:Gr} (hg:g.Ok) {B S O E:List Nat} {m x:Nat} (h:BL g B m S (x::O) E) (hb: ¬x∈B) (hs: ¬x∈S) (hx:g.sp x=false):BL g B m (S++[x]) (O++g.tr x) E where
 LK y hy:=by
  rcases df.1 hy with hy|rfl
  ·exact h.LK y hy
  exact ⟨h.JF y (List.mem_cons_self ..),hb⟩
 JF y hy:=by
  rcases List.mem_append.1 hy with hy|hy
  ·exact h.JF y (List.mem_cons_of_mem _ hy)
  exact hg.lt x (h.JF x (List.mem_cons_self ..)) y hy
 nd:=qK h.nd hs
 ends y hy:=⟨df.2 (Or.inl (h.ends y hy).1),(h.ends y hy).2⟩
 sp y hy Gk:=by
  rcases df.1 hy with hy|rfl
  ·exact h.sp y hy Gk
  rw[hx]at Gk;cases Gk
 tr y hy Gk u hu:=by
  rcases df.1 hy with hy|rfl
  ·rcases h.tr y hy Gk u hu with h1|h1|h1
   ·exact Or.inl h1
   ·exact Or.inr (Or.inl (df.2 (Or.inl h1)))
   rcases List.mem_cons.1 h1 with rfl|h1
   ·exact Or.inr (Or.inl (df.2 (Or.inr rfl)))
   exact Or.inr (Or.inr (List.mem_append.2 (Or.inl h1)))
  exact Or.inr (Or.inr (List.mem_append.2 (Or.inr hu)))
 start:=by
  rcases h.start with h1|h1|h1
  ·exact Or.inl h1
  ·exact Or.inr (Or.inl (df.2 (Or.inl h1)))
  rcases List.mem_cons.1 h1 with rfl|h1
  ·exact Or.inr (Or.inl (df.2 (Or.inr rfl)))
  exact Or.inr (Or.inr (List.mem_append.2 (Or.inl h1)))
 uh y hy:=by
  rcases df.1 hy with hy|rfl
  ·exact h.uh y hy
  exact h.qq y (List.mem_cons_self ..)
 qq y hy hr:=by
  rcases List.mem_append.1 hy with hy|hy
  ·exact h.qq y (List.mem_cons_of_mem _ hy) hr
  exact h.qq x (List.mem_cons_self ..) (Reach.st x y (by unfold Gr.on;rw[hx];simpa using hb) hy hr)
theorem BL.done {g:Gr} {B S E:List Nat} {m:Nat} (h:BL g B m S [] E):E≠[]↔Reach g B m:=by
 constructor
 ·intro hE;obtain ⟨x,hx⟩:=List.exists_mem_of_ne_nil E hE;obtain ⟨h1,h2⟩:=h.ends x hx;exact h.uh x h1 (Reach.sp x (by simpa using (h.LK x h1).2) h2)
 intro hr hE
 have key: ∀x,Reach g B x->(x∈B\/x∈S)->False:=by
  intro x hx;induction hx with
  |sp i hb hs=>
   rintro (hi|hi)
   ·rw[List.contains_iff_mem.2 hi]at hb;cases hb
   have:=h.sp i hi hs;rw[hE]at this;cases this
  |st i t ho ht _ ih=>
   unfold Gr.on at ho;rw[Bool.and_eq_true,Bool.not_eq_true',Bool.not_eq_true']at ho;rintro (hi|hi)
   ·rw[List.contains_iff_mem.2 hi]at ho;cases ho.2
   rcases h.tr i hi ho.1 t ht with h1|h1|h1
   ·exact ih (Or.inl h1)
   ·exact ih (Or.inr h1)
   cases h1
 rcases h.start with h1|h1|h1
 ·exact key m hr (Or.inl h1)
 ·exact key m hr (Or.inr h1)
 cases h1
def sa (p:Nat->Nat->Prop) (l:List Nat) (t:Nat):Prop:= ∃k,l[k]?=some t/\p k t/\ ∀k',k'<k-> ∀t',l[k']?=some t'-> ¬p k' t'
theorem sa.one {p:Nat->Nat->Prop} {l:List Nat} {t u:Nat} (h:sa p l t) (h':sa p l u):t=u:=by
 obtain ⟨k,h1,h2,h3⟩:=h;obtain ⟨j,g1,g2,g3⟩:=h';rcases Nat.lt_trichotomy k j with e|e|e
 ·exact absurd h2 (g3 k e t h1)
 ·subst e;rw[h1]at g1;exact Option.some.inj g1
 exact absurd g2 (h3 j e u g1)
theorem sa.some {p:Nat->Nat->Prop} {l:List Nat} (h: ∃k t,l[k]?=some t/\p k t): ∃t,sa p l t:=by
 obtain ⟨k,h⟩:=h;induction k using Nat.strongRecOn with
 |ind k ih=>
  by_cases hs: ∃k',k'<k/\ ∃t',l[k']?=Option.some t'/\p k' t'
  ·obtain ⟨k',hk,h'⟩:=hs;exact ih k' hk h'
  obtain ⟨t,h1,h2⟩:=h;exact ⟨t,k,h1,h2,λk' hk t' h3 h4=>hs ⟨k',hk,t',h3,h4⟩⟩
def aF (rule:Int):Nat->Int:=λk=>if rule=1 then (k:Int)else 1
theorem ca (rule:Int):gh (aF rule):=λk hk=>by unfold aF;split<;>omega
def nW (g:Gr) (rule:Int) (path:List Nat) (xe t:Nat):Prop:=
 sa (λk t=>if rule=2 then Reach g path t else bK g [] (aF rule) g.n t+aF rule (k+1)=bK g [] (aF rule) g.n xe) (g.tr xe) t
inductive Made (g:Gr) (rule:Int) (m:Nat):List Nat->Nat->Prop
 |one:Made g rule m [m] m
 |more (p:List Nat) (a t:Nat):Made g rule m p a->g.sp a=false->nW g rule p a t->Made g rule m (p++[t]) t
theorem Made.len {g:Gr} {rule:Int} {m a:Nat} {p:List Nat} (h:Made g rule m p a):0<p.length:=by
 cases h<;>simp
theorem Made.UJ {g:Gr} {rule:Int} {m a b:Nat} {p q:List Nat} (h:Made g rule m p a) (h':Made g rule m q b) (hl:p.length=q.length):p=q/\a=b:=by
 induction h generalizing q b with
 |one=>
  cases h' with
  |one=>exact ⟨rfl,rfl⟩
  |more q' a' t' h1 _ _=>
   have:=h1.len;simp only[List.length_append,List.length_singleton]at hl;omega
 |more p a t h1 _ h3 ih=>
  cases h' with
  |one=>
   have:=h1.len;simp only[List.length_append,List.length_singleton]at hl;omega
  |more q' a' t' g1 _ g3=>
   obtain ⟨e1,e2⟩:=ih g1 (by simpa using hl);subst e1 e2;have:=sa.one h3 g3;subst this;exact ⟨rfl,rfl⟩
theorem Made.cut {g:Gr} {rule:Int} {m a:Nat} {p:List Nat} (h:Made g rule m p a): ∀k,0<k->k<p.length-> ∃b,Made g rule m (p.take k) b/\g.sp b=false:=by
 induction h with
 |one=>
  intro k h0 h1;simp at h1;omega
 |more p a t h1 h2 h3 ih=>
  intro k h0 hk;rw[List.length_append,List.length_singleton]at hk;by_cases e:k=p.length
  ·rw[List.take_append_of_le_length (by omega),e,List.take_length];exact ⟨a,h1,h2⟩
  rw[List.take_append_of_le_length (by omega)];exact ih k h0 (by omega)
theorem Made.same {g:Gr} {rule:Int} {m a b:Nat} {p q:List Nat} (h:Made g rule m p a) (h':Made g rule m q b) (ha:g.sp a=true) (hb:g.sp b=true):p=q/\a=b:=by
 rcases Nat.lt_trichotomy p.length q.length with e|e|e
 ·obtain ⟨d,h1,h2⟩:=h'.cut p.length h.len e;obtain ⟨_,e2⟩:=h.UJ h1 (by rw[List.length_take];omega);rw[<-e2,ha]at h2;cases h2
 ·exact h.UJ h' e
 obtain ⟨d,h1,h2⟩:=h.cut q.length h'.len e;obtain ⟨_,e2⟩:=h'.UJ h1 (by rw[List.length_take];omega);rw[<-e2,hb]at h2;cases h2
theorem Reach.free {g:Gr} {B:List Nat} {x:Nat} (h:Reach g B x): ¬x∈B:=by
 cases h with
 |sp _ hb _=>exact λh=>by rw[List.contains_iff_mem.2 h]at hb;cases hb
 |st _ t ho _ _=>
  unfold Gr.on at ho;rw[Bool.and_eq_true,Bool.not_eq_true',Bool.not_eq_true']at ho;exact λh=>by rw[List.contains_iff_mem.2 h]at ho;cases ho.2
structure eK (g:Gr) (rule:Int) (m:Nat) (p:List Nat) (a:Nat):Prop where
 made:Made g rule m p a
 lt: ∀x∈p,x<g.n
 last: ∃q,p=q++[a]
 cost:rule≠2->bK g [] (aF rule) g.n a<1000/\(p.length:Int)+bK g [] (aF rule) g.n a<=1+bK g [] (aF rule) g.n m
 deep:rule=2->p.Nodup/\ ∀q,p=q++[a]->Reach g q a
theorem eK.MJ {g:Gr} {rule:Int} {m a:Nat} {p:List Nat} (h:eK g rule m p a):a<g.n:=by
 obtain ⟨q,hq⟩:=h.last;exact h.lt a (by rw[hq];simp)
theorem eK.init {g:Gr} (hg:g.Ok) (hn:g.n<=12) {rule:Int} {m:Nat} (hm:m<g.n) (hr:Reach g [] m):eK g rule m [m] m where
 made:=Made.one
 lt x hx:=by rw[List.mem_singleton.1 hx];exact hm
 last:=⟨[],rfl⟩
 cost _:=⟨(zA hg hn (ca rule) hm).2 hr,by simp⟩
 deep _:=⟨by simp,λq hq=>by
  cases q with
  |nil=>exact hr
  |cons y q=>simp at hq⟩
theorem eK.next {g:Gr} (hg:g.Ok) {rule:Int} {m a:Nat} {p:List Nat} (h:eK g rule m p a) (hs:g.sp a=false): ∃t,nW g rule p a t:=by
 unfold nW;by_cases hr:rule=2
 ·obtain ⟨_,hd⟩:=h.deep hr;obtain ⟨q,hq⟩:=h.last;have h1:=hd q hq;rcases GC hs h1 with h2|⟨t,ht,h2⟩
  ·exact absurd (by simp:a∈q++[a]) h2.free
  obtain ⟨k,hk⟩:=List.mem_iff_getElem?.1 ht;exact sa.some ⟨k,t,hk,by rw[if_pos hr,hq];exact h2⟩
 obtain ⟨h1,_⟩:=h.cost hr;obtain ⟨k,t,hk,he⟩:=GB (B:=[]) hg (ca rule) h.MJ (by unfold Gr.on;rw[hs];rfl) h1;exact sa.some ⟨k,t,hk,by rw[if_neg hr];exact he⟩
theorem eK.more {g:Gr} (hg:g.Ok) {rule:Int} {m a t:Nat} {p:List Nat} (h:eK g rule m p a) (hs:g.sp a=false) (ht:nW g rule p a t):eK g rule m (p++[t]) t where
 made:=Made.more p a t h.made hs ht
 lt x hx:=by
  rcases df.1 hx with hx|rfl
  ·exact h.lt x hx
  obtain ⟨k,h1,_⟩:=ht;exact hg.lt a h.MJ x (List.mem_of_getElem? h1)
 last:=⟨p,rfl⟩
 cost hr:=by
  obtain ⟨h1,h2⟩:=h.cost hr;obtain ⟨k,h3,h4,_⟩:=ht;rw[if_neg hr]at h4;have:=(ca rule k (by have:=hg.four a;have:=(List.getElem?_eq_some_iff.1 h3).1;omega)).1;rw[List.length_append,List.length_singleton];omega
 deep hr:=by
  obtain ⟨h1,h2⟩:=h.deep hr;obtain ⟨k,h3,h4,_⟩:=ht;rw[if_pos hr]at h4;refine ⟨qK h1 h4.free,λq hq=>?_⟩;have:=(List.append_inj' hq rfl).1;rw[<-this];exact h4
theorem wm: ∀(n:Nat) (l:List Nat),l.Nodup->(∀x∈l,x<n)->l.length<=n
 |0,l,_,h=>by
  cases l with
  |nil=>exact Nat.le_refl _
  |cons a l=>exact absurd (h a (List.mem_cons_self ..)) (Nat.not_lt_zero _)
 |n+1,l,hd,h=>by
  have h1:(l.filter (λx=>decide (x≠n))).length<=n:=wm n _ (hd.filter _) (λx hx=>by
   obtain ⟨h2,h3⟩:=List.mem_filter.1 hx;have:=h x h2;rw[decide_eq_true_eq]at h3;omega)
  have h2:l.length<=(l.filter (λx=>decide (x≠n))).length+1:=by
   clear h h1;induction l with
   |nil=>simp
   |cons a l ih=>
    rw[List.nodup_cons]at hd;by_cases e:a=n
    ·subst e
     have:l.filter (λx=>decide (x≠a))=l:=List.filter_eq_self.2 (λx hx=>by
      rw[decide_eq_true_eq];exact λe=>hd.1 (e▸hx))
     rw[List.filter_cons_of_neg (by simp),this];simp
    have:=ih hd.2;rw[List.filter_cons_of_pos (by simpa using e),List.length_cons,List.length_cons];omega
  omega
theorem eK.len {g:Gr} (hg:g.Ok) (hn:g.n<=12) {rule:Int} {m a:Nat} {p:List Nat} (h:eK g rule m p a) (_hm:m<g.n):p.length<=577:=by
 by_cases hr:rule=2
 ·have:=wm g.n p (h.deep hr).1 h.lt;omega
 obtain ⟨h1,h2⟩:=h.cost hr;have h3:=(fw.run (B:=[]) hg (ca rule) g.n).pos a
 have EZ:bK g [] (aF rule) g.n m<1000->bK g [] (aF rule) g.n m<=576:=λaI=>by
  rcases Rel.run hg hn (ca rule) (B:=[]) g.n hn m with h4|h4<;>omega
 have h5:=(fw.run (B:=[]) hg (ca rule) g.n).MH m;by_cases aI:bK g [] (aF rule) g.n m<1000
 ·have:=EZ aI;omega
 exfalso
 have: ∀{p:List Nat} {b:Nat},Made g rule m p b->bK g [] (aF rule) g.n b<1000->bK g [] (aF rule) g.n m<1000:=by
  intro p b hp;induction hp with
  |one=>exact id
  |more p a t _ _ h4 ih=>
   intro hb;obtain ⟨k,h5,h6,_⟩:=h4;rw[if_neg hr]at h6;have:=(ca rule k (by have:=hg.four a;have:=(List.getElem?_eq_some_iff.1 h5).1;omega)).2;rcases Rel.run hg hn (ca rule) (B:=[]) g.n hn t with h7|h7<;>exact ih (by omega)
 exact aI (this h.made h1)
def lL (g:Gr) (rule:Int) (m:Nat) (e:Int):Prop:=(Reach g [] m/\ ∃p a,Made g rule m p a/\g.sp a=true/\e=(a:Int))\/(¬Reach g [] m/\e= -1)
theorem lL.one {g:Gr} {rule:Int} {m:Nat} {e e':Int} (h:lL g rule m e) (h':lL g rule m e'):e=e':=by
 rcases h with ⟨h1,p,a,h2,h3,rfl⟩|⟨h1,rfl⟩
 ·rcases h' with ⟨_,q,b,g2,g3,rfl⟩|⟨g1,_⟩
  ·rw[(h2.same g2 h3 g3).2]
  exact absurd h1 g1
 rcases h' with ⟨g1,_⟩|⟨_,rfl⟩
 ·exact absurd g1 h1
 rfl
def Ends (g:Gr) (rule:Int) (L:List Int):Prop:=L.length=g.n/\ ∀(i:Nat) (e:Int),L[i]?=some e->lL g rule i e
theorem Ends.one {g:Gr} {rule:Int} {L L':List Int} (h:Ends g rule L) (h':Ends g rule L'):L=L':=by
 apply List.ext_getElem?;intro i;by_cases hi:i<g.n
 ·have h1:L[i]?=some (L[i]'(by rw[h.1];exact hi)):=List.getElem?_eq_getElem _;have h2:L'[i]?=some (L'[i]'(by rw[h'.1];exact hi)):=List.getElem?_eq_getElem _;rw[h1,h2,(h.2 i _ h1).one (h'.2 i _ h2)]
 rw[List.getElem?_eq_none (by rw[h.1];omega),List.getElem?_eq_none (by rw[h'.1];omega)]
def bA (V:List lW):Gr where
 n:=V.length
 sp i:=match V[i]? with|some v=>v.sp|none=>false
 tr i:=match V[i]? with|some v=>v.tr.map Int.toNat|none=>[]
structure gF (V:List lW):Prop where
 n1:1<=V.length
 n12:V.length<=12
 tr: ∀(k:Nat) (v:lW),V[k]?=some v->cF v.tr (k:Int) V.length=true
theorem pX {l:List Int} {m n:Int} (h:cF l m n=true) {z:Int} (hz:z∈l):0<=z/\z<n/\z≠m:=by
 rw[fo,Bool.and_eq_true]at h;obtain ⟨k,hk⟩:=List.mem_iff_getElem?.1 hz;have h1:=eo.1 h.1 k (List.getElem?_eq_some_iff.1 hk).1;rw[nb hk,Bool.and_eq_true,Bool.and_eq_true,dS,decide_eq_true_eq]at h1;exact ⟨h1.1.1.1,by omega,h1.1.2⟩
theorem fx {l:List Int} {m n:Int} (h:cF l m n=true):l.length<=4:=by
 rw[fo,Bool.and_eq_true,decide_eq_true_eq]at h;exact h.2
theorem eX {V:List lW} {k:Nat} {v:lW} (h:V[k]?=some v):(bA V).sp k=v.sp/\(bA V).tr k=v.tr.map Int.toNat:=by
 unfold bA;simp only[h,and_self]
theorem gF.gr {V:List lW} (h:gF V):(bA V).Ok where
 lt i hi t ht:=by
  have hk:V[i]?=some V[i]:=List.getElem?_eq_getElem hi;rw[(eX hk).2]at ht;obtain ⟨z,hz,rfl⟩:=List.mem_map.1 ht;have:=pX (h.tr i _ hk) hz;show z.toNat<V.length
  omega
 ne i t ht:=by
  cases hk:V[i]? with
  |none=>
   unfold bA at ht;simp only[hk]at ht;cases ht
  |some v=>
   rw[(eX hk).2]at ht;obtain ⟨z,hz,rfl⟩:=List.mem_map.1 ht;have:=pX (h.tr i _ hk) hz;omega
 four i:=by
  cases hk:V[i]? with
  |none=>
   unfold bA;simp only[hk,List.length_nil];omega
  |some v=>
   rw[(eX hk).2,List.length_map];exact fx (h.tr i _ hk)
theorem gF.ui {V:List lW} (h:gF V) {i k:Nat} {v:lW} {z:Int} (hi:V[i]?=some v) (hk:v.tr[k]?=some z):((bA V).tr i)[k]?=some z.toNat/\(z.toNat:Int)=z/\z.toNat<V.length/\z.toNat≠i:=by
 have h1:=pX (h.tr i _ hi) (List.mem_of_getElem? hk);refine ⟨by rw[(eX hi).2,List.getElem?_map,hk];rfl,by omega,by omega,by omega⟩
theorem pf.Jx {a:cp} (h:pf a) {vs:List Int} (hl:vs.length=a.af.length):gF (eF vs a.af) where
 n1:=by rw[ew hl];exact h.n1
 n12:=by rw[ew hl];exact h.n12
 tr k v hk:=by
  have h1:k<a.af.length:=by
   have:=(List.getElem?_eq_some_iff.1 hk).1
   rwa [ew hl]at this
  rw[we (by omega) h1]at hk;injection hk with hk
  subst hk;rw[ew hl];exact h.af k _ (List.getElem?_eq_getElem h1)
def bump (c:List Int) (k:Nat):List Int:=c.set k (c.getD k 0+1)
def fK (vs:List Int) (e:Int):Nat:=if e<0 then 3 else if vs.getD e.toNat 0=2 then 0 else if vs.getD e.toNat 0=1 then 1 else 2
def cC (vs:List Int) (ends:List Int):List Int:=ends.foldl (λc e=>bump c (fK vs e)) [0,0,0,0]
theorem fW (vs:List Int) (ends:List Int):(cC vs ends).length=4:=by
 unfold cC
 have: ∀(l:List Int) (c:List Int),c.length=4->(l.foldl (λc e=>bump c (fK vs e)) c).length=4:=by
  intro l;induction l with
  |nil=>exact λc h=>h
  |cons e l ih=>exact λc h=>ih _ (by unfold bump;rw[List.length_set];exact h)
 exact this _ _ rfl
theorem BM (vs:List Int) {ends:List Int} {k:Nat} {e:Int} (h:ends[k]?=some e):cC vs (ends.take (k+1))=bump (cC vs (ends.take k)) (fK vs e):=by
 obtain ⟨hk,rfl⟩:=List.getElem?_eq_some_iff.1 h;unfold cC;rw[List.take_succ_eq_append_getElem hk,List.foldl_append];rfl
open Go.RowKit
def cj (C:Nat->Int) (n:Nat):List Value:=(List.range n).map (λi=> .int .i64 (C i))
theorem fk (C:Nat->Int) (n:Nat):(cj C n).length=n:=by unfold cj;simp
theorem cD {C:Nat->Int} {n i:Nat} (h:i<n):(cj C n)[i]?=some (.int .i64 (C i)):=by unfold cj;simp[h]
theorem tu {C:Nat->Int} {n i:Nat} (z:Int):(cj C n).set i (.int .i64 z)=cj (λj=>if j=i then z else C j) n:=by
 apply List.ext_getElem?;intro j;by_cases hj:j<n
 ·by_cases e:j=i
  ·subst e;rw[List.getElem?_set_self (by rw[fk];exact hj),cD hj,if_pos rfl]
  rw[List.getElem?_set_ne (λh=>e h.symm),cD hj,cD hj,if_neg e]
 rw[List.getElem?_eq_none (by rw[List.length_set,fk];omega),List.getElem?_eq_none (by rw[fk];omega)]
theorem GF {D:Nat->Int} {i t:Nat} {s:Int} (h1:0<=D t) (h2:D i<0\/s+D t<D i):ug D i t s=λj=>if j=i then s+D t else D j:=by
 unfold ug;rw[if_pos ⟨h1,h2⟩]
theorem JG {D:Nat->Int} {i t:Nat} {s:Int} (h: ¬(0<=D t/\(D i<0\/s+D t<D i))):ug D i t s=D:=by
 unfold ug;rw[if_neg h]
 funext j
 by_cases e:j=i
 ·rw[if_pos e,e]
 rw[if_neg e]
section
variable {g:Gr} {B:List Nat} {c:Nat->Int}
theorem JH {i k t:Nat} {C:Nat->Int} (h:(g.tr i)[k]?=some t):wj g c i C (k+1)=ug (wj g c i C k) i t (c (k+1)):=by
 rw[wj,h]
theorem LL {C:Nat->Int} {i:Nat} (h:g.on B i=true):DU g B c C i=wj g c i C (g.tr i).length:=by unfold DU;rw[if_pos h]
theorem JI {C:Nat->Int} {i:Nat} (h:g.on B i=false):DU g B c C i=C:=by unfold DU;rw[if_neg (by rw[h];simp)]
theorem uz.small {b:Int} {i:Nat} {C D:Nat->Int} (h:uz i b C D) (hb:b+4<1000) (j:Nat):(-1<=D j/\D j<=999)/\0<=C j/\C j<=1000:=by
 rcases h j with ⟨h1,h2⟩|⟨h1,h2,h3⟩
 ·omega
 split at h2<;>omega
theorem pj (hg:g.Ok) (hn:g.n<=12) (hc:gh c) {r i:Nat} (hr:r<12) (hi:i<=g.n) (k j:Nat):
 (-1<=wj g c i (iF g B c (fE g B c r) i) k j/\wj g c i (iF g B c (fE g B c r) i) k j<=999)/\0<=uy g c i (dZ g B c (bK g B c r) i) k j/\uy g c i (dZ g B c (bK g B c r) i) k j<=1000:=
 (((Rel.pass hg hc (Rel.run hg hn hc r (by omega)) i (by omega)).row i).fa hg hc (by omega) k).small (by omega) j
theorem tw (hg:g.Ok) (hn:g.n<=12) (hc:gh c) {i:Nat} (hi:i<g.n):0<=fE g B c g.n i↔Reach g B i:=by
 rw[<-zA hg hn hc hi];rcases Rel.run hg hn hc (B:=B) g.n hn i with h|h<;>omega
theorem BN (hg:g.Ok) (hn:g.n<=12) (hc:gh c) (i:Nat) (h:0<=fE g B c g.n i):fE g B c g.n i=bK g B c g.n i:=by
 rcases Rel.run hg hn hc (B:=B) g.n hn i with h'|h'<;>omega
end
end Go.Proofs.YtbcggaldkihcaaaGreatDoor

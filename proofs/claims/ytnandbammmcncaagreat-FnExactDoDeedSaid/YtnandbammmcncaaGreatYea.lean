/- An act entered among acts, plain; parts of acts in memory. -/
import Derived.Test.YtnandbammmcncaaGreatYG
import Derived.Test.YtnandbammmcncaaGreatQE
namespace Go.Proofs.YtnandbammmcncaaGreat
open Tryz
open Go.RowKit Go.Lib
theorem ab7:type_of% @List.mem_of_mem_drop:=@List.mem_of_mem_drop
def cG:List bo->Int->Nat
 |[],_=>0
 |a::l,d=>if a.a8<=d then cG l d+1 else 0
theorem nL: ∀(l:List bo) (d:Int),cG l d<=l.length
 |[],_=>aad _
 |a::l,d=>by
  unfold cG
  split
  ·have:=nL l d;simp;omega
  simp
theorem qR: ∀(l:List bo) (d:Int) (k:Nat) (a:bo),l[k]?=some a->k<cG l d->a.a8<=d
 |[],_,_,_,h,_=>by simp at h
 |b::l,d,k,a,h,hk=>by
  unfold cG at hk
  split at hk
  ·rename_i hb;cases k with
   |zero=>simp at h;rw[<-h];exact hb
   |succ k=>exact qR l d k a (by simpa using h) (by omega)
  omega
theorem qS: ∀(l:List bo) (d:Int) (a:bo),l[cG l d]?=some a-> ¬a.a8<=d
 |[],_,_,h=>by simp[cG]at h
 |b::l,d,a,h=>by
  unfold cG at h
  split at h
  ·exact qS l d a (by simpa using h)
  rename_i hb;simp at h;rw[<-h];exact hb
theorem nN {l:List bo} {d:Int} {k:Nat} (hk:k<=l.length) (h: ∀(j:Nat) (a:bo),l[j]?=some a->j<k->a.a8<=d) (hx:k=l.length\/ ∃a,l[k]?=some a/\ ¬a.a8<=d):cG l d=k:=by
 rcases Nat.lt_trichotomy (cG l d) k with e|e|e
 ·have hl:cG l d<l.length:=by omega
  exact absurd (h _ _ (aag hl) e) (qS l d _ (aag hl))
 ·exact e
 rcases hx with hx|⟨a,ha,hn⟩
 ·have:=nL l d;omega
 exact absurd (qR l d k a ha e) hn
def cI (l:List bo) (x:bo):List bo:=l.take (cG l x.a8)++x::l.drop (cG l x.a8)
theorem Ej (l:List bo) (x:bo):(cI l x).length=l.length+1:=by
 have:=nL l x.a8;unfold cI;simp;omega
theorem qT {L:List bo} (h1: ∀a∈L,eV a=true) (h2: ∀(m:Nat) (d a:bo),L[m]?=some d->L[m+1]?=some a->d.a8<=a.a8) (h3:L.length<=8):bJ L=true:=by
 unfold bJ;rw[aay,eo,aaU];refine ⟨λk hk=>?_,h3⟩;have hg:L[k]?=some L[k]:=aag hk;cases k with
 |zero=>exact qF rfl hg (h1 _ (aax hk))
 |succ k=>
  have j5:L[k]?=some L[k]:=aag (by omega);rw[np j5 hg (h1 _ (aax hk)),aaU];exact h2 k _ _ j5 hg
theorem jp {l:List bo} {x:bo} (h:bJ l=true) (hx:eV x=true) (h8:l.length<8):bJ (cI l x)=true:=by
 have hle:=nL l x.a8;refine qT (λa ha=>?_) (λm d a hd ha=>?_) (by rw[Ej];omega)
 ·unfold cI at ha
  have iq: ∀b∈l,eV b=true:=λb hb=>by
   obtain ⟨k,hk⟩:=aa2 hb;exact fj h hk
  rcases aau.1 ha with ha|ha
  ·exact iq a (aby ha)
  rcases aaF.1 ha with rfl|ha
  ·exact hx
  exact iq a (ab7 ha)
 have aH: ∀j,(cI l x)[j]?=if j<cG l x.a8 then l[j]? else if j=cG l x.a8 then some x else l[j-1]?:=λj=>by
  unfold cI;have aI:(l.take (cG l x.a8)).length=cG l x.a8:=by rw[aao];omega
  by_cases h1:j<cG l x.a8
  ·rw[aaj h1,aaW (by omega),abP,aaj h1]
  rw[aah h1,aaN (by omega),aI];by_cases h2:j=cG l x.a8
  ·rw[aaj h2,h2,abb];rfl
  rw[aah h2];obtain ⟨i,hi⟩: ∃i,j-cG l x.a8=i+1:=⟨j-cG l x.a8-1,by omega⟩
  rw[hi,List.getElem?_cons_succ,List.getElem?_drop]
  congr 1
  omega
 rw[aH]at hd ha;by_cases c1:m+1<cG l x.a8
 ·rw[aaj c1]at ha;rw[aaj (by omega)]at hd;exact l' h hd ha
 rw[aah c1]at ha;by_cases c2:m+1=cG l x.a8
 ·rw[aaj c2]at ha;rw[aaj (by omega)]at hd;injection ha with ha
  rw[<-ha];exact qR l x.a8 m d hd (by omega)
 rw[aah c2]at ha;by_cases c3:m=cG l x.a8
 ·rw[aah (by omega),aaj c3]at hd;injection hd with hd
  rw[Nat.add_sub_cancel,c3]at ha;have:=qS l x.a8 a ha;rw[<-hd];omega
 rw[aah (by omega),aah c3]at hd;rw[Nat.add_sub_cancel]at ha;have he:m-1+1=m:=by omega
 exact l' h hd (by rw[he];exact ha)
def cM (m:gu):bo:=⟨m.a8,m.fin,m.pat⟩
theorem B7 {m:gu} {day n:Int} (h:dD m day n=true):eV (cM m)=true:=by
 unfold dD at h;simp only[aay]at h;have hp:=h.1.1.1.1.1.2;have hs:=h.1.1.1.1.2;unfold jd at hs;simp only[aay,dS]at hs;exact ep.2 ⟨by show 0<=m.a8;omega,by show m.a8<=1000;omega,by show 0<=m.fin;omega,by show m.fin<=1000;omega,by show m.a8<m.fin;omega,hp⟩
open Classical in
noncomputable def fi (S:List bE) (l:List bo) (x:bo):Bool:=decide (l.length<8)&&decide (eJ S (cI l x))
theorem cz.drop {α:Type} {R:World->Nat->List Value->α->Prop} {size:Nat} {w:World} {B b off n c:Nat} {xs:List α} (h:cz R size w B (.slice (some ⟨b,off,none⟩) n c) xs) (k:Nat) (hk:k<=xs.length):cz R size w B (.slice (some ⟨b,off+k*size,none⟩) (n-k) (c-k)) (xs.drop k):=by
 obtain ⟨A',c',hv,h1,h2,h3⟩:=h;injection hv with e1 e2 e3
 subst e1 e3;refine ⟨_,_,by rw[aaS,e2],by rw[aaS];omega,by omega,λh0=>?_⟩;rw[aaS]at h0;obtain ⟨b',xw,e,hb,hc⟩:=h3 (by omega);injection e with e
 injection e with e1 e2
 subst e1 e2;refine ⟨_,_,rfl,hb,λj x hj=>?_⟩;rw[List.getElem?_drop]at hj;obtain ⟨us,hl,hp,aC⟩:=hc (k+j) x hj;refine ⟨us,hl,hp,λi u hu=>?_⟩;have:=aC i u hu;rw[show off+k*size+j*size+i=off+(k+j)*size+i by rw[Nat.add_mul];omega];exact this
theorem eE.take {w:World} {B n c:Nat} {A:Option Addr} {ls:List bo} (h:eE w B (.slice A n c) ls) (k:Nat) (hk:k<=ls.length):eE w B (.slice A k c) (ls.take k):=by
 obtain ⟨L,rfl,h2,h3⟩:=h;rw[aap]at hk;exact ⟨L.take k,by rw[List.map_take],h2.take k hk,λx hx=>h3 x (aby hx)⟩
theorem eE.drop {w:World} {B b off n c:Nat} {ls:List bo} (h:eE w B (.slice (some ⟨b,off,none⟩) n c) ls) (k:Nat) (hk:k<=ls.length):eE w B (.slice (some ⟨b,off+k*3,none⟩) (n-k) (c-k)) (ls.drop k):=by
 obtain ⟨L,rfl,h2,h3⟩:=h;rw[aap]at hk;exact ⟨L.drop k,by rw[List.map_drop],h2.drop k hk,λx hx=>h3 x (ab7 hx)⟩
theorem eE.nil {w:World} {B c:Nat} {A:Option Addr} (hc:c<=maxLen):eE w B (.slice A 0 c) []:=⟨[],rfl,cz.nil _ _ _ _ _ _ hc,λx hx=>by cases hx⟩
end Go.Proofs.YtnandbammmcncaaGreat

/- A part of the proof. -/
import Derived.Test.YteninnkbmoimgaaGreatDoorPW
import Derived.Test.YteninnkbmoimgaaGreatDoorRV
set_option linter.unusedSimpArgs false
set_option linter.unusedVariables false
set_option maxRecDepth 100000
set_option maxHeartbeats 16000000
namespace aD
open Go.Proofs.YteninnkbmoimgaaGreatDoor (dS dH)
abbrev Part:=List dK×List Int
def aat (M:List (List UInt8)) (d:DS) (b l:Nat) (E:List aG) (P:List Part):Prop:=
 P.length=E.length/\∀k,k<P.length->Sub M d b l (au E k).2 (P.getD k ([],[])).1 (P.getD k ([],[])).2/\(k+1<P.length->(au E k).1=dw (P.getD (k+1) ([],[])).1)
def eT (P:List Part):List dK:=(P.map (·.1)).flatten
def fL (P:List Part):List Int:=(P.map (·.2)).flatten
theorem SJ (A B:List Part):eT (A++B)=eT A++eT B:=by simp[eT]
theorem SK (A B:List Part):fL (A++B)=fL A++fL B:=by simp[fL]
theorem A4 (x:Part) (B:List Part):eT (x::B)=x.1++eT B:=by simp[eT]
theorem SL (x:Part) (B:List Part):fL (x::B)=x.2++fL B:=by simp[fL]
theorem GP {M:List (List UInt8)} {d:DS} {f l:Nat} {b:Int} {n:Nd} {P:List Part} (e:bF M d b ((l+1:Nat):Int)=(n,0)) (i:f<=n.ai.length) (g:aat M d f l n.ai P):
 Sub M d f (l+1) b (eT P) (b::fL P):=by
 refine⟨by rw[e],by rw[e];exact i,P,by rw[e];exact g.1,rfl,rfl,?_⟩;rw[e];exact g.2
theorem yZ {M:List (List UInt8)} {d:DS} {f l:Nat} {b:Int} {g:List dK} {e:List Int} (h:Sub M d f (l+1) b g e):
 (bF M d b ((l+1:Nat):Int)).2=0/\f<=(bF M d b ((l+1:Nat):Int)).1.ai.length/\∃P:List Part,aat M d f l (bF M d b ((l+1:Nat):Int)).1.ai P/\g=eT P/\e=b::fL P:=by
 obtain⟨i,j,P,m,n,o,q⟩:=h;exact⟨i,j,P,⟨m,q⟩,n,o⟩
def rX (M:List (List UInt8)) (d:DS) (m0 g:Nat):Nat->Int->List dK->List Int->Prop
 | 0,b,f,e=>Sub M d g 0 b f e
 | l+1,b,f,e=>(bF M d b ((l+1:Nat):Int)).2=0/\m0<=(bF M d b ((l+1:Nat):Int)).1.ai.length/\∃P:List Part,aat M d g l (bF M d b ((l+1:Nat):Int)).1.ai P/\f=eT P/\e=b::fL P
theorem aoE {M:List (List UInt8)} {d:DS} {g:Nat}:∀{l:Nat} {b:Int} {f:List dK} {e:List Int},rX M d g g l b f e->Sub M d g l b f e
 | 0,_,_,_,h=>h
 | l+1,b,f,e,⟨i,j,P,m,n,o⟩=>by
   subst n o;exact GP (Prod.ext rfl i) j m
theorem aoF {M:List (List UInt8)} {d:DS} {g:Nat}:∀{l:Nat} {b:Int} {f:List dK} {e:List Int},Sub M d g l b f e->rX M d g g l b f e
 | 0,_,_,_,h=>h
 | l+1,b,f,e,h=>by
   obtain⟨i,n,P,j,m,o⟩:=yZ h;exact⟨i,n,P,j,m,o⟩
theorem SM {M:List (List UInt8)} {d:DS} {m0 f l:Nat} {b:Int} {n:Nd} {P:List Part} (e:bF M d b ((l+1:Nat):Int)=(n,0)) (i:m0<=n.ai.length) (g:aat M d f l n.ai P):rX M d m0 f (l+1) b (eT P) (b::fL P):=by
 refine⟨by rw[e],by rw[e];exact i,P,by rw[e];exact g,rfl,rfl⟩
theorem acd {M:List (List UInt8)} {d:DS} {n m:Nat} (j:m<=n):∀{l:Nat} {b:Int} {g:List dK} {e:List Int},Sub M d n l b g e->Sub M d m l b g e
 | 0,_,_,_,h=>h
 | l+1,b,g,e,h=>by
   obtain⟨o,q,P,f,rfl,rfl⟩:=yZ h;exact GP (Prod.ext rfl o) (fN j q) ⟨f.1,fun k i=>⟨acd j (f.2 k i).1,(f.2 k i).2⟩⟩
theorem GQ {M:List (List UInt8)} {d:DS} {m0 j:Nat} (n:2<=m0) (r:2<=j):∀{l:Nat} {b:Int} {g:List dK} {e:List Int},rX M d m0 j l b g e->Sub M d 2 l b g e
 | 0,_,_,_,h=>h
 | l+1,b,g,e,⟨m,o,P,f,q,t⟩=>by
   subst q t;exact GP (Prod.ext rfl m) (fN n o) ⟨f.1,fun k i=>⟨acd r (f.2 k i).1,(f.2 k i).2⟩⟩
theorem aoG {M M':List (List UInt8)} {d:DS} {m0 o:Nat}:∀{l:Nat} {b:Int} {m:List dK} {f:List Int},rX M d m0 o l b m f->(∀q∈f,aF M' q=aF M q)->rX M' d m0 o l b m f
 | 0,_,_,_,h,_=>h
 | l+1,b,m,f,⟨r,t,P,j,u,y⟩,n=>by
   subst u y;have e:bF M' d b ((l+1:Nat):Int)=bF M d b ((l+1:Nat):Int):=SN (n b av);have i:∀k,k<P.length->∀q∈(P.getD k ([],[])).2,q∈fL P:=fun k hk q g=>by
    unfold fL;exact uu.2 ⟨_,fT.2 ⟨P.getD k ([],[]),E4,rfl⟩,g⟩
   exact⟨by rw[e];exact r,by rw[e];exact t,P,by rw[e];exact⟨j.1,fun k hk=>⟨GR (j.2 k hk).1 fun q g=>n q (pQ _ (i k hk q g)),(j.2 k hk).2⟩⟩,rfl,rfl⟩
def lR (d:DS):Nat:=if d.interval=512 then 7 else 4
theorem DE (d:DS):4<=lR d:=by unfold lR;split<;>omega
theorem A5 {M:List (List UInt8)} {d:DS} {e l:Nat} {E:List aG} {P:List Part} (b:aat M d e l E P) {k:Nat} (h:k<P.length):(P.getD k ([],[])).1≠[]:=xh (b.2 k h).1
theorem getD_take {α:Type} (L:List α) (c k:Nat) (x:α) (h:k<c):(L.take c).getD k x=L.getD k x:=by simp[List.getD,qF,h]
theorem DF {α:Type} (L:List α) (c k:Nat) (x:α):(L.drop c).getD k x=L.getD (c+k) x:=by simp[List.getD,CE]
theorem ace (E:List aG) {c k:Nat} (h:k<c):au (E.take c) k=au E k:=getD_take E c k _ h
theorem aoH (E:List aG) (c k:Nat):au (E.drop c) k=au E (c+k):=DF E c k _
theorem acf:∀(E:List aG) (k:Nat),(au (cC E) k).2=(au E k).2/\(k+1<E.length->(au (cC E) k).1=(au E k).1)
 | [],k=>by simp[cC]
 | [x],k=>by
   cases k with
   | zero=>simp[cC,au]
   | succ k=>simp[cC,au]
 | x::y::L,k=>by
   cases k with
   | zero=>simp[cC,au]
   | succ k=>
     have:=acf (y::L) k;simp only[cC,au,qt] at this⊢;refine⟨this.1,fun h=>this.2 (by simp at h⊢;omega)⟩
theorem aoI {M:List (List UInt8)} {d:DS} {f l:Nat} {E:List aG} {P:List Part} (e:aat M d f l E P) {c:Nat} (q:c<=E.length):aat M d f l (cC (E.take c)) (P.take c):=by
 have o:=e.1;refine⟨by rw[tT,gF,gF];omega,fun k h=>?_⟩;have b:k<c:=by rw[gF] at h;omega
 obtain⟨g,i⟩:=acf (E.take c) k;obtain⟨m,n⟩:=e.2 k (by rw[gF] at h;omega);rw[getD_take _ _ _ _ b,g,ace _ b];refine⟨m,fun j=>?_⟩;rw[gF] at j;rw[i kQ,ace _ b,getD_take _ _ _ _ af];exact n af
theorem aoJ {M:List (List UInt8)} {d:DS} {e l:Nat} {E:List aG} {P:List Part} (b:aat M d e l E P) (c:Nat):aat M d e l (E.drop c) (P.drop c):=by
 have f:=b.1;refine⟨by rw[eU,eU,f],fun k h=>?_⟩;rw[eU] at h;obtain⟨i,j⟩:=b.2 (c+k) af;rw[DF,aoH];refine⟨i,fun g=>?_⟩;rw[eU] at g;rw[DF];exact j af
theorem aoK {M M':List (List UInt8)} {d:DS} {f l:Nat} {E:List aG} {P:List Part} (m:aat M d f l E P) {i:Nat} (j:i<P.length) {x:Part} (t:Sub M' d f l (au E i).2 x.1 x.2) (b:dw x.1=dw (P.getD i ([],[])).1)
 (r:∀k,k<P.length->k≠i->∀q∈(P.getD k ([],[])).2,aF M' q=aF M q):aat M' d f l E (P.set i x):=by
 have o:=m.1;refine⟨by rw[pE];exact o,fun k h=>?_⟩;rw[pE] at h⊢;obtain⟨u,n⟩:=m.2 k h;rw[Mh _ _ _ _ _ j,Mh _ _ _ _ _ j];refine⟨?_,fun g=>?_⟩
 ·by_cases e:k=i
  ·rw[aC e,e];exact t
  ·rw[aA e];exact GR u (r k h e)
 ·by_cases e:k+1=i
  ·rw[aC e,b,<-e];exact n g
  ·rw[aA e];exact n g
def jO (P:List Part) (i:Nat) (A B:Part):List Part:=P.take i++A::B::P.drop (i+1)
theorem My {P:List Part} {i:Nat} (h:i<P.length) (A B:Part):(jO P i A B).length=P.length+1:=by simp[jO];omega
theorem Mz (P:List Part) {i:Nat} (e:i<P.length) (A B:Part) (j:Nat):(jO P i A B).getD j ([],[])=if j<i then P.getD j ([],[]) else if j=i then A else if j=i+1 then B else P.getD (j-1) ([],[]):=by
 have d:(P.take i).length=i:=kQ;unfold jO;by_cases b:j<i
 ·rw[aC b];simp[List.getD,rF (show j<(P.take i).length by omega),qF,b]
 ·rw[aA b];obtain⟨k,rfl⟩:∃k,j=i+k:=⟨j-i,af⟩;have e2:(P.take i++A::B::P.drop (i+1))[i+k]? =(A::B::P.drop (i+1))[k]? :=by
   rw[CU af,d,Mg]
  simp only[List.getD];exact Yb
theorem aoL {M M':List (List UInt8)} {d:DS} {n l:Nat} {E:List aG} {P:List Part} (m:aat M d n l E P) {i:Nat} (b:i<P.length) {A B:Part} {bound:List UInt8} {pg:Int}
 (y:Sub M' d n l (au E i).2 A.1 A.2) (z:Sub M' d n l pg B.1 B.2) (g:dw A.1=dw (P.getD i ([],[])).1) (C:bound=dw B.1)
 (t:∀k,k<P.length->k≠i->∀q∈(P.getD k ([],[])).2,aF M' q=aF M q):aat M' d n l (eD E i bound pg) (jO P i A B):=by
 have u:=m.1;refine⟨by rw[My b,AB af,u],fun k h=>?_⟩;rw[My b] at h;rw[My b,Mz P b,Mz P b,acg E af];by_cases k1:k<i
 ·obtain⟨o,f⟩:=m.2 k af;rw[aC k1,aC k1];refine⟨GR o (t k af af),fun r=>?_⟩;by_cases k2:k+1<i
  ·rw[aC k2];exact f af
  ·have e:k+1=i:=af;rw[aA k2,aC e,g,<-e];exact f af
 ·rw[aA k1,aA k1];by_cases k2:k=i
  ·rw[aC k2,aC k2,aA af,aA af,aC af];exact⟨y,fun _=>C⟩
  ·rw[aA k2,aA k2];by_cases j:k=i+1
   ·rw[aC j,aC j,aA af,aA af,aA af];refine⟨z,fun r=>?_⟩;obtain⟨o,f⟩:=m.2 i b;rw[j];exact f af
   ·rw[aA j,aA j,aA af,aA af,aA af];obtain⟨o,f⟩:=m.2 (k-1) af;refine⟨GR o (t (k-1) af af),fun r=>?_⟩;have e:k-1+1=k+1-1:=af;have:=f af;rw[e] at this;exact this
theorem GS {P:List Part} {i:Nat} (h:i<P.length):eT P=eT (P.take i)++(P.getD i ([],[])).1++eT (P.drop (i+1)):=by
 have b:=GU (L:=P.map (·.1)) (i:=i) nA;rw[getD_map (fun x:Part=>x.1) P i ([],[]) [] rfl] at b;rw[<-Ao,<-CL] at b;exact b
theorem MB {P:List Part} {i:Nat} (h:i<P.length):fL P=fL (P.take i)++(P.getD i ([],[])).2++fL (P.drop (i+1)):=by
 have b:=GU (L:=P.map (·.2)) (i:=i) nA;rw[getD_map (fun x:Part=>x.2) P i ([],[]) [] rfl] at b;rw[<-Ao,<-CL] at b;exact b
theorem aoM {P:List Part} {i:Nat} (h:i<P.length) (x:Part):P.set i x=P.take i++x::P.drop (i+1):=by
 rw[List.set_eq_take_append_cons_drop,aC h]
theorem aoN {lo:Int} {A X Y B:List Int} (h:(A++X++B).Nodup) (t:Y.Nodup) (m:∀q∈Y,q∈X∨lo<q) (l:∀q∈A++X++B,q<=lo):(A++Y++B).Nodup:=by
 rw[pY] at h⊢;obtain⟨g,n,i⟩:=h;rw[pY] at g⊢;obtain⟨o,u,r⟩:=g;refine⟨⟨o,t,fun a f y d e=>?_⟩,n,fun a f y d e=>?_⟩
 ·subst e;rcases m _ d with b | b
  ·exact r a f a b rfl
  ·have:=l a (by simp[f]);omega
 ·subst e;rcases iG.1 f with b | b
  ·exact i a (oM _ b) a d rfl
  ·rcases m _ b with j | j
   ·exact i a (nK _ j) a d rfl
   ·have:=l a (by simp[d]);omega
theorem tf {P:List Part} {k:Nat} (h:k<P.length) {q:Int} (b:q∈(P.getD k ([],[])).2):q∈fL P:=by
 rw[MB h];exact oM _ (nK _ b)
theorem SP {P:List Part} (e:(fL P).Nodup) {i k:Nat} (j:i<P.length) (m:k<P.length) (l:k≠i) {q:Int} (b:q∈(P.getD k ([],[])).2) (d:q∈(P.getD i ([],[])).2):False:=by
 rw[MB j,pY,pY] at e;obtain⟨⟨_,_,f⟩,_,g⟩:=e;by_cases h:k<i
 ·refine f q ?_ q d rfl;refine tf (k:=k) kQ ?_;rw[getD_take _ _ _ _ h];exact b
 ·refine g q (nK _ d) q ?_ rfl;refine tf (k:=k-(i+1)) xX ?_;rw[DF,show i+1+(k-(i+1))=k by omega];exact b
theorem ach {b:List UInt8} {base:Int} {L:List dK} (h:L≠[]) (d:bl b (dw L)=false):dw (iR b base L)=dw L:=by
 cases L with
 | nil=>exact absurd rfl h
 | cons x L=>
   rw[aci] at d;simp only[iR,d];rfl
theorem acj:∀{E:List aG} {b:List UInt8} {k:Nat},cR b E=true->1<=k->k<E.length->cR b (cC (E.take k))=true
 | [],_,_,_,_,h=>jQ
 | x::E,b,1,i,_,e=>by
   obtain⟨f,l,m,n,o⟩:=iP i;simp only[cY,eF,cC];exact nZ f av av (fun h=>absurd rfl h) rfl
 | x::E,b,k+2,i,_,e=>by
   obtain⟨f,l,m,n,o⟩:=iP i;have d:E≠[]:=fun h=>by rw[h] at e;simp at e
   have j:E.take (k+1)≠[]:=fun h=>by
    rcases List.take_eq_nil_iff.1 h with h | h
    ·omega
    ·exact d h
   rw[cY,Q9 x j];refine nZ f ⟨fun h=>absurd (l.1 h) d,fun h=>?_⟩ m (fun _=>n d) (acj o af (by simp at e;omega));have g:=gP List.length h;rw[tT] at g;simp at g;exact absurd g (fun h=>d h)
theorem ack:∀{E:List aG} {b:List UInt8} {k:Nat},cR b E=true->(b=[]∨0<k)->k<E.length->cR [] (E.drop k)=true
 | [],_,_,_,_,h=>jQ
 | x::E,b,0,d,g,_=>by
   rcases g with rfl | g
   ·exact d
   ·omega
 | x::E,b,k+1,d,_,e=>by
   obtain⟨l,i,m,n,f⟩:=iP d;rw[dV];cases k with
   | zero=>
     rw[dP];have j:x.1≠[]:=fun h=>by rw[i.1 h] at e;simp at e
     exact Ra (FI j) f
   | succ k=>exact ack f (.inr af) (by simp at e;omega)
theorem aoO {M:List (List UInt8)} {d:DS} {page level:Int} (h:(bF M d page level).2=0):dS d.interval (bF M d page level).1=0:=by
 unfold bF at h⊢;split at h
 ·rename_i b;exact absurd h b
 ·rename_i b;rw[aA b];split at h
  ·cases h
  ·rename_i h2;rw[aA h2];have g:gH d.interval (aF M page).1=0:=by
    exact XJ
   obtain⟨_,e,f⟩:=Su g;obtain⟨n,l,_,j,_,_,i,_⟩:=DD e;show dS d.interval (dz d.interval (aF M page).1)=0;rw[f,j];exact i
structure At (b:List UInt8) (E:List aG) (P:List Part) (i:Nat):Prop where
 lt:i<P.length
 low:bl b (dw (P.getD i ([],[])).1)=false
 above:∀x∈eT (P.drop (i+1)),bl b x.1=true
 below:∀x∈eT (P.take i),bl b x.1=false
 prev:0<i->(au E (i-1)).1=dw (P.getD i ([],[])).1
theorem aoP {L:List dK} (h:nL L) {x:dK} (b:x∈L):dw L=x.1∨bl (dw L) x.1=true:=by
 cases L with
 | nil=>cases b
 | cons y L=>
   rcases fD.1 b with rfl | b
   ·exact .inl rfl
   ·exact .inr ((lM.1 h).1 x b)
theorem GV {P:List Part} {k:Nat} (h:k<P.length) {q:dK} (b:q∈(P.getD k ([],[])).1):q∈eT P:=by
 rw[GS h];exact oM _ (nK _ b)
theorem acm {M:List (List UInt8)} {d:DS} {g l:Nat} {E:List aG} {P:List Part} (f:aat M d g l E P) {k:Nat} (h:k<P.length):dw (eT (P.drop k))=dw (P.getD k ([],[])).1/\eT (P.drop k)≠[]:=by
 have e:P.drop k=P.getD k ([],[])::P.drop (k+1):=by
  rw[gz h];simp[List.getD,h]
 have b:=A5 f h;rw[e,A4];exact⟨A6 b,fun h=>b (MC.1 h).1⟩
theorem aoQ {M:List (List UInt8)} {d:DS} {R l:Nat} {n:Nd} {P:List Part} {b:List UInt8} (o:aat M d R l n.ai P) (S:pS n) (r:nL (eT P)) (N:bl b (dw (eT P))=false):At b n.ai P (bK n.ai b):=by
 have q:n.ai≠[]:=by have:=S.l1;intro L;rw[L] at this;simp at this
 have O:=yG b q;obtain⟨C,D⟩:=GW b q;have H:=o.1;generalize bK n.ai b=i at *;have B:i<P.length:=af;have f:0<i->(au n.ai (i-1)).1=dw (P.getD i ([],[])).1:=fun h=>by
  have:=(o.2 (i-1) af).2 af;rw[show i-1+1=i by omega] at this;exact this
 have E:dw (eT P)=dw (P.getD 0 ([],[])).1:=by
  have:=(acm o (k:=0) af).1;simpa using this
 have g:bl b (dw (P.getD i ([],[])).1)=false:=by
  by_cases J:0<i
  ·rw[<-f J];exact C (i-1) af
  ·have e:i=0:=af;rw[e,<-E];exact N
 have F:=GS B;have j:=r;rw[F] at j;refine⟨B,g,fun x t=>?_,fun x t=>?_,f⟩
 ·by_cases G:i+1<P.length
  ·have m:=D af;rw[(o.2 i B).2 G] at m;have u:=(acm o G).1;have K:nL (eT (P.drop (i+1))):=(mT.1 j).2.1;rcases aoP K t with z | z
   ·rw[<-z,u];exact m
   ·rw[u] at z;exact iN m z
  ·rw[jI af] at t;cases t
 ·obtain⟨y,Q,I⟩:=uw (A5 o B);have m:bl x.1 y.1=true:=GX (mT.1 j).1 t Q;rw[<-I] at m;cases u:bl b x.1 with
  | false=>rfl
  | true=>
    have:=iN u m;rw[g] at this;cases this
theorem acn {b:List UInt8} {base:Int} {E:List aG} {P:List Part} {i:Nat} (h:At b E P i):iR b base (eT P)=eT (P.take i)++iR b base (P.getD i ([],[])).1++eT (P.drop (i+1)):=by
 rw[GS h.lt,aoR h.above];congr 1;by_cases d:eT (P.take i)=[]
 ·rw[d];rfl
 ·exact SQ d h.below
def y5 (M M':List (List UInt8)) (W:List Wr) (b:List Int):Prop:=(∀x∈W,aF M' x.1=(x.2,0))/\∀q∈b,(∀x∈W,x.1≠q)->aF M' q=aF M q
structure Wok (d:DS) (W:List Wr) (on:Int->Prop) (lo hi:Int):Prop where
 nodup:(W.map (·.1)).Nodup
 pages:∀x∈W,on x.1∨(lo<x.1/\x.1<=hi)
 len:∀x∈W,(x.2.length:Int)=d.interval
def SR (d b:List Int) (lo e:Int):Prop:=b.Nodup/\∀q∈b,q∈d∨(lo<q/\q<=e)
def y6 (M:List (List UInt8)) (h:Hd) (d:DS) (b:List UInt8) (l:Nat) (q:Int):Prop:=∃k,h.height.toNat-l<=k/\k<h.height.toNat/\q=bJ M h d b k
def DG (M:List (List UInt8)) (h:Hd) (d:DS) (b:List UInt8) (g:Hd) (base:Int) (m0 l:Nat) (j:List dK) (e:List Int):Prop:=
 (∀q,y6 M h d b l q->q∈e)/\∃(W:List Wr) (f:Int),g.fin<=f/\f<=g.fin+l/\W.length<=2*l/\Wok d W (y6 M h d b l) g.fin f/\
 ((jx d (m7 M h d b h.height.toNat) g [] b base=({g with fin:=f},W,0)/\f+1<=g.fin+l/\W.length+1<=2*l/\
    ∀M',y5 M M' W e->∃i,rX M' d m0 (lR d) l (bJ M h d b (h.height.toNat-l)) (iR b base j) i/\SR e i g.fin f)∨
  (∃(m:List UInt8) (n:Int),jx d (m7 M h d b h.height.toNat) g [] b base=jx d (m7 M h d b (h.height.toNat-l)) {g with fin:=f} W m n/\m≠[]/\(m.length:Int)<=d.bV/\gA n=true/\
    ∃A B:List dK,A++B=iR b base j/\A≠[]/\B≠[]/\m=dw B/\
     ∀M',y5 M M' W e->∃o r,Sub M' d (lR d) l (bJ M h d b (h.height.toNat-l)) A o/\Sub M' d (lR d) l n B r/\SR e (o++r) g.fin f))
theorem aoS {M:List (List UInt8)} {h:Hd} {d:DS} {b:List UInt8} {g:Hd} {base:Int} (l:b≠[]) (m:(b.length:Int)<=d.bV) (f:gA base=true) {i:List dK} {j:List Int}
 {m0:Nat} (r:Sub M d (lR d) 0 (bJ M h d b h.height.toNat) i j) (e:bl b (dw i)=false):DG M h d b g base m0 0 i j:=by
 obtain⟨⟨low,rfl⟩,rfl⟩:=r;rw[aci] at e;have e:bl b low=false:=e;refine⟨fun q ⟨k,t,u,_⟩=>af,[],g.fin,Ct _,af,av,⟨av,fun x n=>(by cases n),fun x n=>(by cases n)⟩,.inr ⟨b,base,rfl,l,m,f,[(low,_)],[(b,base)],?_,av,av,rfl,fun M' _=>⟨[],[],⟨⟨low,rfl⟩,rfl⟩,⟨⟨b,rfl⟩,rfl⟩,av,fun q o=>by cases o⟩⟩⟩;simp[iR,e]
theorem acp {P:List Part} {i:Nat} (A B:List dK) (b d:List Int) (c:Nat):eT ((jO P i (A,b) (B,d)).take c)=eT ((jO P i (A,[]) (B,[])).take c)/\eT ((jO P i (A,b) (B,d)).drop c)=eT ((jO P i (A,[]) (B,[])).drop c):=by
 unfold eT;rw[Ao,Ao,CL,CL];have e:(jO P i (A,b) (B,d)).map (·.1)=(jO P i (A,[]) (B,[])).map (·.1):=by simp[jO]
 rw[e];exact⟨rfl,rfl⟩
theorem acq {d:DS} (i:dA d=true):cQ d.interval=true/\1<=d.bV/\d.bV<=d.interval/16/\(d.interval=128∨d.interval=256∨d.interval=512):=by
 obtain⟨e,_,_,_,f,g,_⟩:=iM i;have b:=(qM e).2.2.1;refine⟨b,f,g,?_⟩;unfold cQ at b;simp at b;omega
theorem acr {P:List Part} {k:Nat} (h:k<P.length) (b:(P.getD k ([],[])).1≠[]):eT P≠[]:=by
 obtain⟨x,d,_⟩:=uw b;intro e;have:=GV h d;rw[e] at this;cases this
theorem aoT {P:List Part} {k:Nat} (h:k<P.length) (b:(P.getD k ([],[])).1≠[]):dw (eT (P.drop k))=dw (P.getD k ([],[])).1:=by
 have e:P.drop k=P.getD k ([],[])::P.drop (k+1):=by
  rw[gz h];simp[List.getD,h]
 rw[e,A4];exact A6 b
theorem aoU {E:List aG} {P:List Part} (g:P.length=E.length) (d:∀k,k+1<P.length->(au E k).1=dw (P.getD (k+1) ([],[])).1) {i:Nat} (l:i<P.length) {A B:Part} {bound:List UInt8} {pg:Int}
 (b:dw A.1=dw (P.getD i ([],[])).1) (j:bound=dw B.1) {k:Nat} (m:k+1<P.length+1):(au (eD E i bound pg) k).1=dw ((jO P i A B).getD (k+1) ([],[])).1:=by
 rw[Mz P l,acg E af];by_cases k1:k<i
 ·rw[aC k1];by_cases k2:k+1<i
  ·rw[aC k2];exact d k af
  ·have e:k+1=i:=af;rw[aA k2,aC e,b,<-e];exact d k af
 ·rw[aA k1];by_cases k2:k=i
  ·rw[aC k2,aA af,aA af,aC af];exact j
  ·rw[aA k2];by_cases f:k=i+1
   ·rw[aC f,aA af,aA af,aA af,f];exact d i af
   ·rw[aA f,aA af,aA af,aA af];have e:k-1+1=k+1-1:=af;have:=d (k-1) af;rw[e] at this;exact this
theorem aoV {M:List (List UInt8)} {d:DS} {q l:Nat} {n:Nd} {P:List Part} {K:Nat} (b:aat M d q l n.ai P) (r:pS n) (i:∀x∈eT P,x.1.length<=K):∀x∈n.ai,x.1.length<=K:=by
 intro x m;obtain⟨k,f,rfl⟩:=List.getElem_of_mem m;have e:au n.ai k=n.ai[k]:=by simp[au,List.getD,f]
 by_cases j:k+1=n.ai.length
 ·rw[<-e,SS r j];simp
 ·have t:=b.1;rw[<-e,(b.2 k af).2 af];obtain⟨y,o,g⟩:=uw (A5 b (k:=k+1) af);rw[g];exact i y (GV af o)
theorem aoW {size:Int} {n:Nd} {i:Nat} {b:List UInt8} {p:Int} {K:Nat} (l:pS n) (D:cQ size=true) (H:dS size n=0) (J:(K:Int)<=size/16) (d:∀x∈n.ai,x.1.length<=K) (j:i<n.ai.length) (f:b≠[]) (t:b.length<=K) (C:gA p=true)
 (q:0<i->bl (au n.ai (i-1)).1 b=true) (r:(au n.ai i).1≠[]->bl b (au n.ai i).1=true):
 kT n (i:Int) b p=(⟨n.level,n.next,eD n.ai i b p⟩,0)/\pS ⟨n.level,n.next,eD n.ai i b p⟩/\(∀x∈eD n.ai i b p,x.1.length<=K)/\(6+dZ [] (eD n.ai i b p):Int)<=size+6+K:=by
 obtain⟨_,m,o⟩:=GY H;unfold ja at o;rw[aC m] at o;have y:size=128∨size=256∨size=512:=by unfold cQ at D;simp at D;omega
 have z:K<=32:=af;have I:=MD [] n.ai;have B:n.ai.length<=84:=af;have G:=acs (E:=n.ai) (b:=[]) C f af l.ai j (fun _=>FI f) q r;have F:=acu (pg:=p) l.ai j (fun _=>.inl (FI f)) q r;refine⟨?_,⟨by simp only;rw[AB j];omega,by simp only;rw[AB j];omega,l.v1,l.v2,l.x1,l.x2,G⟩,fun x g=>?_,af⟩
 ·unfold kT;rw[aA,aA,aA af]
  ·rfl
  ·rintro(h | h | h | h)
   ·exact f h
   ·omega
   ·have:=q af;rw[jU] at h;rw[h.2] at this;cases this
   ·rw[jU] at h;have:=r h.1;rw[h.2] at this;cases this
  ·rintro(h | h | h | h)
   ·rw[m] at h;cases h
   ·rw[C] at h;cases h
   ·omega
   ·omega
 ·unfold eD at g;simp only[iG,fD] at g;have u:(au n.ai i).1.length<=K:=by
   have e:au n.ai i=n.ai[i]:=by simp[au,List.getD,j]
   rw[e];exact d _ (mN j)
  rcases g with g | rfl | rfl | g
  ·exact d x (yI g)
  ·exact t
  ·exact u
  ·exact d x (uh g)
theorem aoX {size:Int} {n:Nd} {K:Nat} {fin:Int} (d:pS n) (f:cQ size=true) (g:(K:Int)<=size/16) (b:∀x∈n.ai,x.1.length<=K) (y:(6+dZ [] n.ai:Int)<=size+6+K) (u:¬(6+dZ [] n.ai:Int)<=size) (m:0<=fin) (r:fin<=16777216):
 (if size=512 then 14 else 8)<=n.ai.length/\qR n=(⟨n.level,0,cC (n.ai.take ((n.ai.length+1)/2))⟩,⟨n.level,n.next,n.ai.drop ((n.ai.length+1)/2)⟩,(au n.ai ((n.ai.length+1)/2-1)).1,0)/\
   dS size ⟨n.level,fin,cC (n.ai.take ((n.ai.length+1)/2))⟩=0/\dS size ⟨n.level,n.next,n.ai.drop ((n.ai.length+1)/2)⟩=0:=by
 have e:size=128∨size=256∨size=512:=by unfold cQ at f;simp at f;omega
 have z:=Aw n.ai [] K b;have i:(if size=512 then 14 else 8)<=n.ai.length:=by
  have l:n.ai.length*(6+K)<=n.ai.length*(6+size.toNat/16):=Nat.mul_le_mul_left _ af;rcases e with rfl | rfl | rfl
  ·simp at l g;rw[aA aq];omega
  ·simp at l g;rw[aA aq];omega
  ·simp at l g;rw[aC rfl];omega
 have t:=d.l2;have j:=i;have i:4<=n.ai.length:=by split at i<;>omega
 obtain⟨o,q⟩:=aoY f g b y;have B:eC ⟨n.level,fin,cC (n.ai.take ((n.ai.length+1)/2))⟩=true:=ia.2 ⟨PB,PB,d.v1,d.v2,m,r,acj d.ai af af⟩;have C:eC ⟨n.level,n.next,n.ai.drop ((n.ai.length+1)/2)⟩=true:=ia.2 ⟨PK,PK,d.v1,d.v2,d.x1,d.x2,ack d.ai (.inl rfl) af⟩;refine⟨j,?_,ME f B o,ME f C q⟩;unfold qR;rw[aA (by rw[ia.2 d];simp),aA af]
theorem MF {size:Int} {n:Nd} (h:dS size n=0):((dH size n).length:Int)=size:=by
 obtain⟨d,e,b⟩:=GY h;have:=size_pos d;rw[acv h];unfold iW;unfold ja at b;rw[aC e] at b;rw[ew,Aq,PF];omega
theorem aoZ {M:List (List UInt8)} {h:Hd} {d:DS} {b:List UInt8} {g:Hd} {base:Int} (hk:dA d=true) (hh:0<=h.height) (hfin:0<=g.fin) (hmax:g.fin+h.height+1<=16777216) {l:Nat} (hl:l+1<=h.height.toNat) {seg:List dK} {dn:List Int}
 {m0:Nat} (hs:rX M d m0 (lR d) (l+1) (bJ M h d b (h.height.toNat-(l+1))) seg dn) (acw:nL seg) (hnd:dn.Nodup) (N:∀q∈dn,q<=g.fin) (hks:∀x∈seg,(x.1.length:Int)<=d.bV/\x.1≠b) (hlow:bl b (dw seg)=false)
 (ih:∀(Q:List dK) (F:List Int),Sub M d (lR d) l (bJ M h d b (h.height.toNat-l)) Q F->nL Q->F.Nodup->(∀q∈F,q<=g.fin)->(∀x∈Q,(x.1.length:Int)<=d.bV/\x.1≠b)->bl b (dw Q)=false->DG M h d b g base (lR d) l Q F):
 DG M h d b g base m0 (l+1) seg dn:=by
 obtain⟨hsz,hk1,ao0,hsize⟩:=acq hk;obtain⟨h0,hm,P,hK,rfl,rfl⟩:=hs;obtain⟨j,hj⟩:∃j,h.height.toNat-(l+1)=j:=⟨_,rfl⟩;have GZ:h.height.toNat-l=j+1:=af;have ao1:h.height-(j:Int)=((l+1:Nat):Int):=af;rw[hj] at h0 hm hK hnd N;rw[GZ] at ih;unfold DG;rw[hj];have SU:bR M h d b j=(bF M d (bJ M h d b j) ((l+1:Nat):Int)).1:=by unfold bR;rw[ao1]
 have sp:=(qW h0).1;have hnl:=(qW h0).2;have hnf:=aoO h0;have ao2:bF M d (bJ M h d b j) ((l+1:Nat):Int)=(bR M h d b j,0):=Prod.ext SU.symm h0;rw[<-SU] at sp hnl hnf hm hK;have kC:=ux M h d b j;have hst:m7 M h d b (j+1)=(bJ M h d b j,bK (bR M h d b j).ai b,bR M h d b j)::m7 M h d b j:=rfl;clear SU h0;generalize bR M h d b j=n at *;have S:=aoQ hK sp acw hlow;generalize bK n.ai b=i at *;have MG:=hK.1;have r:=S.lt;have acy:=(hK.2 i r).1;rw[<-kC] at acy;have ao3:=GS r;have acz:=MB r;obtain⟨SV,G0⟩:=ug.1 hnd;have SW:=acw;rw[ao3] at SW;have hcs:nL (P.getD i ([],[])).1:=(mT.1 (mT.1 SW).1).2.1;have hcn:(P.getD i ([],[])).2.Nodup:=by
  rw[acz] at G0;exact(pY.1 (pY.1 G0).1).2.1
 have ao4:=A5 hK r;obtain⟨acA,W,f,yR,A7,A8,hW,hout⟩:=ih (P.getD i ([],[])).1 (P.getD i ([],[])).2 acy hcs hcn (fun q G=>N q (pQ _ (tf r G))) (fun x m=>hks x (GV r m)) S.low;clear ih;have SX:∀q,y6 M h d b (l+1) q->q∈bJ M h d b j::fL P:=by
  rintro q ⟨k,k1,k2,rfl⟩;by_cases e:k=j
  ·rw[e];simp
  ·exact pQ _ (tf r (acA _ ⟨k,af,k2,rfl⟩))
 have SY:∀q,y6 M h d b l q->y6 M h d b (l+1) q:=by
  rintro q ⟨k,k1,k2,rfl⟩;exact⟨k,af,k2,rfl⟩
 have acB:y6 M h d b (l+1) (bJ M h d b j):=⟨j,af,af,rfl⟩;have hpj:bJ M h d b j<=g.fin:=N _ av;have SZ:∀x∈W,x.1∈(P.getD i ([],[])).2∨(g.fin<x.1/\x.1<=f):=fun x m=>(hW.pages x m).imp (acA _) id;have S1:∀x∈W,x.1≠bJ M h d b j:=fun x m e=>by
  rcases SZ x m with o | o
  ·rw[e] at o;exact SV (tf r o)
  ·omega
 have V:∀(M':List (List UInt8)) (W':List Wr),y5 M M' W' (bJ M h d b j::fL P)->(∀x∈W,x∈W')->(∀x∈W',x∈W∨x.1=bJ M h d b j∨g.fin<x.1)->y5 M M' W (P.getD i ([],[])).2:=fun M' W' L hs1 vk=>by
  refine⟨fun x m=>L.1 x (hs1 x m),fun q G hne=>L.2 q (pQ _ (tf r G)) fun x m e=>?_⟩;rcases vk x m with o | o | o
  ·exact hne x o e
  ·rw[o] at e;rw[<-e] at G;exact SV (tf r G)
  ·have:=N q (pQ _ (tf r G));omega
 have H:∀(M':List (List UInt8)) (W':List Wr),y5 M M' W' (bJ M h d b j::fL P)->(∀x∈W',x∈W∨x.1=bJ M h d b j∨g.fin<x.1)->∀k,k<P.length->k≠i->∀q∈(P.getD k ([],[])).2,aF M' q=aF M q:=fun M' W' L vk k hkl hki q G=>by
  refine L.2 q (pQ _ (tf hkl G)) fun x m e=>?_;have AP:=N q (pQ _ (tf hkl G));rcases vk x m with o | o | o
  ·rcases SZ x o with h2 | h2
   ·rw[e] at h2;exact SP G0 r hkl hki G h2
   ·omega
  ·rw[o] at e;rw[<-e] at G;exact SV (tf hkl G)
  ·omega
 have acC:dw (iR b base (P.getD i ([],[])).1)=dw (P.getD i ([],[])).1:=ach ao4 S.low;have hpq:(bJ M h d b j::fL P)=(bJ M h d b j::fL (P.take i))++(P.getD i ([],[])).2++fL (P.drop (i+1)):=by rw[acz];simp
 have S3:∀Y:List Int,SR (P.getD i ([],[])).2 Y g.fin f->((bJ M h d b j::fL (P.take i))++Y++fL (P.drop (i+1))).Nodup/\∀q∈(bJ M h d b j::fL (P.take i))++Y++fL (P.drop (i+1)),q∈bJ M h d b j::fL P∨(g.fin<q/\q<=f):=fun Y hY=>by
  refine⟨aoN (lo:=g.fin) (X:=(P.getD i ([],[])).2) (by rw[<-hpq];exact hnd) hY.1 (fun q G=>(hY.2 q G).imp id (·.1)) (by rw[<-hpq];exact N),fun q G=>?_⟩;rw[hpq];rcases iG.1 G with o | o
  ·rcases iG.1 o with h2 | h2
   ·exact .inl (oM _ (oM _ h2))
   ·rcases hY.2 q h2 with h3 | h3
    ·exact .inl (oM _ (nK _ h3))
    ·exact .inr h3
  ·exact .inl (nK _ o)
 rcases hout with⟨hA,hA1,hA2,S9⟩ | ⟨b',p',hB,ao7,ao8,hp',A,R,xj,MH,MI,hbl,MJ⟩
 ·refine⟨SX,W,f,yR,af,af,⟨hW.nodup,fun x m=>(hW.pages x m).imp (SY _) id,hW.len⟩,.inl ⟨hA,af,af,fun M' L=>?_⟩⟩;obtain⟨F,hs',ao9⟩:=S9 M' (V M' W L (fun x m=>m) (fun x m=>.inl m));rw[GZ] at hs';have hl':bF M' d (bJ M h d b j) ((l+1:Nat):Int)=(n,0):=by rw[SN (L.2 _ av S1),ao2]
  have hK':=aoK (M':=M') hK r (x:=(iR b base (P.getD i ([],[])).1,F)) (by rw[<-kC];exact aoE hs') acC (H M' W L (fun x m=>.inl m));have hS:=SM hl' hm hK';rw[aoM r,SJ,A4,SK,SL,<-jk,<-jk,<-acn S] at hS;obtain⟨q1,q2⟩:=S3 F ao9;exact⟨_,hS,by simpa using q1,fun q G=>q2 q (by simpa using G)⟩
 ·rw[GZ,hst] at hB;have apa:nL (A++R):=by rw[xj];exact Ta hcs fun x m=>(hks x (GV r m)).2
  have uy:dw A=dw (P.getD i ([],[])).1:=by rw[<-acC,<-xj,A6 MH]
  have apb:0<i->bl (au n.ai (i-1)).1 b'=true:=fun A9=>by
   rw[S.prev A9,<-uy,hbl];obtain⟨x,m,ex⟩:=uw MH;obtain⟨y,hy,ey⟩:=uw MI;rw[ex,ey];exact GX apa m hy
  have hnext:(au n.ai i).1≠[]->bl b' (au n.ai i).1=true:=fun hne=>by
   have hi1:i+1<P.length:=by
    rcases Nat.lt_or_ge (i+1) P.length with h9 | h9
    ·exact h9
    ·exact absurd (SS sp af) hne
   rw[(hK.2 i r).2 hi1,hbl];obtain⟨y,hy,ey⟩:=uw (A5 hK hi1);obtain⟨z,hz,ez⟩:=uw MI;have y7:y∈eT (P.drop (i+1)):=GV (k:=0) xX (by rw[DF];exact hy);rw[ey,ez];have hz2:z∈iR b base (P.getD i ([],[])).1:=by rw[<-xj];exact nK _ hz
   rcases MK.1 hz2 with rfl | jA
   ·exact S.above y y7
   ·exact GX SW (nK _ jA) y7
  have hkeys:∀x∈n.ai,x.1.length<=d.bV.toNat:=aoV hK sp fun x m=>by have:=(hks x m).1;omega
  obtain⟨vS,sp',acD,apc⟩:=aoW (p:=p') (K:=d.bV.toNat) sp hsz hnf af hkeys af ao7 af hp' apb hnext;have hEl:=AB (E:=n.ai) (i:=i) af b' p';have J:∀(M':List (List UInt8)) (u C:List Int),Sub M' d (lR d) l (bJ M h d b (j+1)) A u->Sub M' d (lR d) l p' R C->(∀k,k<P.length->k≠i->∀q∈(P.getD k ([],[])).2,aF M' q=aF M q)->aat M' d (lR d) l (eD n.ai i b' p') (jO P i (A,u) (R,C)):=fun M' u C Z Ba hfr=>
   aoL hK r (by rw[<-kC];exact Z) Ba uy hbl hfr
  have acE:∀u C,eT (jO P i (A,u) (R,C))=iR b base (eT P):=fun u C=>by
   rw[acn S,<-xj];unfold jO;rw[SJ,A4,A4];simp
  have acF:∀u C,fL (jO P i (A,u) (R,C))=fL (P.take i)++(u++C)++fL (P.drop (i+1)):=fun u C=>by
   unfold jO;rw[SK,SL,SL];simp
  have D:jx d ((bJ M h d b j,i,n)::m7 M h d b j) {g with fin:=f} W b' p'=jx d ((bJ M h d b j,i,n)::m7 M h d b j) {g with fin:=f} W b' p':=rfl
  conv at D=>rhs;unfold jx
  simp only[vS] at D;rw[aA av,ape hsz (ia.2 sp')] at D;have T:n.level=((l+1:Nat):Int):=hnl;generalize hE':eD n.ai i b' p'=t at *;by_cases hfit:(6+dZ [] t:Int)<=d.interval
  ·have henc:=ME hsz (ia.2 sp') hfit;rw[bM hfit,aC rfl,henc] at D;refine⟨SX,W++[(bJ M h d b j,dH d.interval ⟨n.level,n.next,t⟩)],f,yR,af,aY,⟨?_,fun x m=>?_,fun x m=>?_⟩,.inl ⟨hB.trans D,af,aY,fun M' L=>?_⟩⟩
   ·rw[jW,pY];refine⟨hW.nodup,av,fun a ha c hc e=>?_⟩;obtain⟨x,m,rfl⟩:=fT.1 ha;simp at hc;exact S1 x m (e.trans hc)
   ·rcases iG.1 m with o | o
    ·exact(hW.pages x o).imp (SY _) id
    ·simp at o;subst o;exact .inl acB
   ·rcases iG.1 m with o | o
    ·exact hW.len x o
    ·simp at o;subst o;exact MF henc
   ·have O:∀x∈W++[(bJ M h d b j,dH d.interval ⟨n.level,n.next,t⟩)],x∈W∨x.1=bJ M h d b j∨g.fin<x.1:=fun x m=>by
     rcases iG.1 m with o | o
     ·exact .inl o
     ·simp at o;subst o;exact .inr (.inl rfl)
    obtain⟨u,C,Z,Ba,hps⟩:=MJ M' (V M' _ L (fun x m=>oM _ m) O);rw[GZ] at Z;have hl':bF M' d (bJ M h d b j) ((l+1:Nat):Int)=(⟨n.level,n.next,t⟩,0):=by
     have:=ML (d:=d) (n:=⟨n.level,n.next,t⟩) (L.1 (bJ M h d b j,dH d.interval ⟨n.level,n.next,t⟩) (nK _ (List.mem_singleton.2 rfl))) henc;simp only[T] at this⊢;exact this
    have hS:=SM (m0:=m0) hl' fj (J M' u C Z Ba (H M' _ L O));rw[acE,acF] at hS;obtain⟨q1,q2⟩:=S3 (u++C) hps;exact⟨_,hS,by simpa using q1,fun q G=>q2 q (by simpa using G)⟩
  ·obtain⟨h4,MM,bU,he2⟩:=aoX (n:=⟨n.level,n.next,t⟩) (fin:=f+1) sp' hsz af acD apc hfit af af;rw[aM hfit,aA av,MM] at D;simp only[] at h4 MM bU he2;simp only[bU,he2,ne_eq,not_true_eq_false,uL] at D;have iz:(t.length+1)/2<t.length:=by split at h4<;>omega
   have hc2:lR d<=(t.length+1)/2/\2<=(t.length+1)/2:=by unfold lR;split<;>simp_all<;>omega
   have iA:lR d<=t.length-(t.length+1)/2/\2<=t.length-(t.length+1)/2:=by unfold lR;split<;>simp_all<;>omega
   generalize(t.length+1)/2=c at *;have Tb:∀u C,(jO P i (A,u) (R,C)).length=t.length:=fun u C=>by rw[My r];omega
   have I:∀k,k<t.length->((jO P i (A,[]) (R,[])).getD k ([],[])).1≠[]:=fun k hk'=>by
    rw[Mz P r];split
    ·exact A5 hK af
    ·split
     ·exact MH
     ·split
      ·exact MI
      ·exact A5 hK af
   have apf:(au t (c-1)).1≠[]:=by
    intro h9;have:=(Lg sp'.ai (i:=c-1) fj).1 h9;simp only at this;omega
   have apg:au t (c-1)∈t:=by
    have e:au t (c-1)=t[c-1]:=by simp[au,List.getD,show c-1<t.length by omega]
    exact Cu
   have ayu:=acD _ apg;have U:∀x∈W++[(bJ M h d b j,dH d.interval ⟨n.level,f+1,cC (t.take c)⟩),(f+1,dH d.interval ⟨n.level,n.next,t.drop c⟩)],x∈W∨x=(bJ M h d b j,dH d.interval ⟨n.level,f+1,cC (t.take c)⟩)∨x=(f+1,dH d.interval ⟨n.level,n.next,t.drop c⟩):=fun x m=>by
    rcases iG.1 m with o | o
    ·exact .inl o
    ·simp at o;exact .inr o
   have O:∀x∈W++[(bJ M h d b j,dH d.interval ⟨n.level,f+1,cC (t.take c)⟩),(f+1,dH d.interval ⟨n.level,n.next,t.drop c⟩)],x∈W∨x.1=bJ M h d b j∨g.fin<x.1:=fun x m=>by
    rcases U x m with o | rfl | rfl
    ·exact .inl o
    ·exact .inr (.inl rfl)
    ·exact .inr (.inr fj)
   refine⟨SX,W++[(bJ M h d b j,dH d.interval ⟨n.level,f+1,cC (t.take c)⟩),(f+1,dH d.interval ⟨n.level,n.next,t.drop c⟩)],f+1,by omega,by omega,by simp;omega,⟨?_,fun x m=>?_,fun x m=>?_⟩,
    .inr ⟨(au t (c-1)).1,f+1,hB.trans D,apf,af,?_,eT ((jO P i (A,[]) (R,[])).take c),eT ((jO P i (A,[]) (R,[])).drop c),?_,?_,?_,?_,fun M' L=>?_⟩⟩
   ·rw[jW,pY];refine⟨hW.nodup,?_,fun a ha e he hae=>?_⟩
    ·simp;omega
    ·obtain⟨x,m,rfl⟩:=fT.1 ha;simp at he;rcases he with rfl | rfl
     ·exact S1 x m hae
     ·rcases SZ x m with o | o
      ·have:=N _ (pQ _ (tf r o));omega
      ·omega
   ·rcases U x m with o | rfl | rfl
    ·rcases hW.pages x o with h2 | h2
     ·exact .inl (SY _ h2)
     ·exact .inr ⟨h2.1,af⟩
    ·exact .inl acB
    ·exact .inr ⟨fj,fj⟩
   ·rcases U x m with o | rfl | rfl
    ·exact hW.len x o
    ·exact MF bU
    ·exact MF he2
   ·unfold gA;rw[bM af,bM af];rfl
   ·rw[<-SJ,pM,acE]
   ·exact acr (k:=0) (by rw[gF,Tb];omega) (by rw[getD_take _ _ _ _ af];exact I 0 af)
   ·exact acr (k:=0) (by rw[eU,Tb];omega) (by rw[DF];exact I _ af)
   ·rw[aoT (by rw[Tb];omega) (I c af),<-hE'];have:=aoU (A:=(A,[])) (B:=(R,[])) (pg:=p') MG (fun k hk'=>(hK.2 k af).2 hk') r uy hbl (k:=c-1) af;rw[this,show c-1+1=c by omega]
   ·obtain⟨u,C,Z,Ba,hps⟩:=MJ M' (V M' _ L (fun x m=>oM _ m) O);rw[GZ] at Z;have hKk:=J M' u C Z Ba (H M' _ L O);have hl1:bF M' d (bJ M h d b j) ((l+1:Nat):Int)=(⟨n.level,f+1,cC (t.take c)⟩,0):=by
     have:=ML (d:=d) (n:=⟨n.level,f+1,cC (t.take c)⟩) (L.1 (bJ M h d b j,dH d.interval ⟨n.level,f+1,cC (t.take c)⟩) (nK _ av)) bU;simp only[T] at this⊢;exact this
    have hl2:bF M' d (f+1) ((l+1:Nat):Int)=(⟨n.level,n.next,t.drop c⟩,0):=by
     have:=ML (d:=d) (n:=⟨n.level,n.next,t.drop c⟩) (L.1 (f+1,dH d.interval ⟨n.level,n.next,t.drop c⟩) (nK _ av)) he2;simp only[T] at this⊢;exact this
    have hS1:=GP hl1 PB (aoI hKk (c:=c) af);have hS2:=GP hl2 PK (aoJ hKk c);rw[(acp A R u C c).1] at hS1;rw[(acp A R u C c).2] at hS2;obtain⟨q1,q2⟩:=S3 (u++C) hps;have hpe:fL ((jO P i (A,u) (R,C)).take c)++fL ((jO P i (A,u) (R,C)).drop c)=fL (P.take i)++(u++C)++fL (P.drop (i+1)):=by rw[<-SK,pM,acF]
    have hperm:((bJ M h d b j::fL ((jO P i (A,u) (R,C)).take c))++((f+1)::fL ((jO P i (A,u) (R,C)).drop c))).Perm ((f+1)::((bJ M h d b j::fL (P.take i))++(u++C)++fL (P.drop (i+1)))):=by
     refine List.perm_middle.trans (List.Perm.cons _ ?_);rw[bE,hpe];simp
    refine⟨_,_,hS1,hS2,hperm.nodup_iff.2 (ug.2 ⟨fun h9=>?_,q1⟩),fun q G=>?_⟩
    ·rcases q2 _ h9 with h8 | h8
     ·have:=N _ h8;omega
     ·omega
    ·rcases fD.1 (hperm.mem_iff.1 G) with rfl | h9
     ·exact .inr ⟨af,af⟩
     ·exact(q2 q h9).imp id (fun h8=>⟨h8.1,af⟩)
theorem acK {M:List (List UInt8)} {h:Hd} {d:DS} {b:List UInt8} {g:Hd} {base:Int} (D:dA d=true) (C:0<=h.height) (o:b≠[]) (r:(b.length:Int)<=d.bV) (i:gA base=true) (m:0<=g.fin) (n:g.fin+h.height+1<=16777216):
 ∀(l m0:Nat),l<=h.height.toNat->∀(e:List dK) (f:List Int),rX M d m0 (lR d) l (bJ M h d b (h.height.toNat-l)) e f->nL e->f.Nodup->(∀q∈f,q<=g.fin)->(∀x∈e,(x.1.length:Int)<=d.bV/\x.1≠b)->bl b (dw e)=false->DG M h d b g base m0 l e f
 | 0,m0,_,e,f,B,_,_,_,_,j=>aoS o r i (by simpa[rX] using B) j
 | l+1,m0,E,e,f,B,t,y,z,u,j=>aoZ D C m n E B t y z u j (fun s p F=>acK D C o r i m n l (lR d) af s p (aoF F))
structure Tree (M:List (List UInt8)) (d:DS) (h:Hd) (items:List dK) (dn:List Int):Prop where
 keyed:dA d=true
 h0:0<=h.height
 sub:rX M d 2 (lR d) h.height.toNat h.root items dn
 Bb:nL items
 Bc:dw items=[]
 short:∀x∈items,(x.1.length:Int)<=d.bV
 nodup:dn.Nodup
 bound:∀q∈dn,q<=h.fin
theorem acL {M:List (List UInt8)} {d:DS} {j l m c:Nat}:∀{P:List Part} {E:List aG},aat M d j l E P->c<=P.length->(∀k,k<P.length->m<=(P.getD k ([],[])).1.length)->c*m<=(eT P).length:=by
 intro P E g b e;clear g;induction P generalizing c with
 | nil=>simp at b;subst b;simp
 | cons x P i=>
   rw[A4,ew];have f:=e 0 av;simp only[qu] at f;cases c with
   | zero=>simp
   | succ c=>
     have:=i (c:=c) (by simpa using b) (fun k hk=>by have:=e (k+1) vR;simpa using this);rw[Nat.succ_mul];omega
theorem acM {M:List (List UInt8)} {d:DS} {i:Nat}:∀{l:Nat} {b:Int} {g:List dK} {e:List Int},Sub M d i l b g e->i ^ l<=g.length
 | 0,_,_,_,⟨⟨low,h⟩,_⟩=>by rw[h];simp
 | l+1,b,g,e,h=>by
   obtain⟨_,m,P,f,rfl,_⟩:=yZ h;have:=acL (c:=i) f (by rw[f.1];exact m) (fun k j=>acM (f.2 k j).1);rw[Nat.pow_succ,Nat.mul_comm];exact this
theorem aph {M:List (List UInt8)} {d:DS} {m0 i l:Nat} {b:Int} {g:List dK} {f:List Int} (h:rX M d m0 i (l+1) b g f):m0*i ^ l<=g.length:=by
 obtain⟨_,m,P,e,rfl,_⟩:=h;exact acL (c:=m0) e (by rw[e.1];exact m) (fun k j=>acM (e.2 k j).1)
structure G3 (M:List (List UInt8)) (d:DS) (h g:Hd) (b:List UInt8) (base:Int) (items:List dK) (dn:List Int) (W:List Wr) (g':Hd):Prop where
 go:jx d (m7 M h d b h.height.toNat) g [] b base=(g',W,0)
 api:g.fin<=g'.fin
 apj:g'.fin<=g.fin+h.height+1
 len:W.length<=2*h.height.toNat+1
 ok:Wok d W (y6 M h d b h.height.toNat) g.fin g'.fin
 way:∀q,y6 M h d b h.height.toNat q->q∈dn
 tree:∀M',y5 M M' W dn->∃y8,Tree M' d g' (iR b base items) y8/\∀q∈y8,q∈dn∨(g.fin<q/\q<=g'.fin)
theorem apk {M:List (List UInt8)} {d:DS} {h g:Hd} {b:List UInt8} {base:Int} {i:List dK} {C:List Int} (T:Tree M d h i C) (hgh:g.height=h.height) (I:g.root=h.root) (hgf:h.fin<=g.fin) (h5:h.height<=5)
 (hb0:b≠[]) (R:(b.length:Int)<=d.bV) (S:∀x∈i,x.1≠b) (H:gA base=true) (U:0<=g.fin) (X:g.fin+h.height+1<=16777216) (K:gA h.root=true):
 ∃W g',G3 M d h g b base i C W g':=by
 have hk:=T.keyed;have hh:=T.h0;obtain⟨hsz,hk1,ao0,hsize⟩:=acq hk;have r:∀q∈C,q<=g.fin:=fun q D=>by have:=T.bound q D;omega
 have hI:=acK (M:=M) (h:=h) (g:=g) (base:=base) hk hh hb0 R H U X h.height.toNat 2 (aH _) i C (by rw[yS];exact T.sub) T.Bb T.nodup r (fun x l=>⟨T.short x l,S x l⟩) (by rw[T.Bc];exact uQ _);unfold DG at hI;rw[yS] at hI;obtain⟨z,W,f,yR,A7,A8,O,Y⟩:=hI;have y:=Ta (base:=base) T.Bb S;have V:i≠[]:=xh (GQ (aH _) (fN aq (DE d)) T.sub);have u:dw (iR b base i)=[]:=by rw[ach V (by rw[T.Bc];exact uQ _),T.Bc]
 have m:∀x∈iR b base i,(x.1.length:Int)<=d.bV:=fun x l=>by
  rcases MK.1 l with rfl | l
  ·exact R
  ·exact T.short x l
 rcases Y with⟨hA,hA1,hA2,S9⟩ | ⟨t,B,hB,F,ao8,hp',A,Bt,xj,MH,MI,hbl,MJ⟩
 ·refine⟨W,{g with fin:=f},hA,yR,fj,af,O,z,fun M' N=>?_⟩;obtain⟨y8,hs,hp⟩:=S9 M' N;refine⟨y8,⟨hk,fj,?_,y,u,m,hp.1,fun q D=>?_⟩,hp.2⟩
  ·simp only[hgh,I];exact hs
  ·rcases hp.2 q D with j | j
   ·have:=r q j;simp only;omega
   ·exact j.2
 ·have MN:eC (kL {g with fin:=f} t B)=true:=ia.2 ⟨by simp[kL],by simp[kL],by simp only[kL];omega,by simp only[kL];omega,by simp[kL],by simp[kL],by
   refine nZ (by simp only[I];exact K) ⟨fun o=>absurd o F,fun o=>by cases o⟩ fj (fun _=>FI F) ?_;exact nZ hp' ⟨fun _=>rfl,fun _=>rfl⟩ av (fun o=>absurd rfl o) rfl⟩
  have DH:(6+dZ [] (kL {g with fin:=f} t B).ai:Int)<=d.interval:=by
   have:dZ [] (kL {g with fin:=f} t B).ai<=2*(6+32):=Aw (kL {g with fin:=f} t B).ai [] 32 (fun x l=>by
    simp[kL] at l;rcases l with rfl | rfl
    ·simp only;omega
    ·simp)
   omega
  have J:=ME hsz MN DH;have Q:jx d [] {g with fin:=f} W t B=({g with height:=g.height+1,fin:=f+1,root:=f+1},W++[(f+1,dH d.interval (kL {g with fin:=f} t B))],0):=by
   unfold jx;rw[aA fj,J]
  refine⟨_,_,hB.trans Q,fj,fj,aY,⟨?_,fun x l=>?_,fun x l=>?_⟩,z,fun M' N=>?_⟩
  ·rw[jW,pY];refine⟨O.nodup,av,fun a ha e he hae=>?_⟩;obtain⟨x,l,rfl⟩:=fT.1 ha;simp at he;rcases O.pages x l with j | j
   ·have:=r _ (z _ j);omega
   ·omega
  ·rcases iG.1 l with j | j
   ·rcases O.pages x j with h2 | h2
    ·exact .inl h2
    ·exact .inr ⟨h2.1,fj⟩
   ·simp at j;subst j;exact .inr ⟨fj,fj⟩
  ·rcases iG.1 l with j | j
   ·exact O.len x j
   ·simp at j;subst j;exact MF J
  ·have hM2:y5 M M' W C:=⟨fun x l=>N.1 x (oM _ l),fun q D hne=>N.2 q D fun x l e=>by
    rcases iG.1 l with j | j
    ·exact hne x j e
    ·simp at j;subst j;have:=r q D;simp only at e;omega⟩
   obtain⟨L,Z,hsA,Ba,E⟩:=MJ M' hM2;have Tc:bF M' d (f+1) ((h.height.toNat+1:Nat):Int)=(kL {g with fin:=f} t B,0):=by
    have:=ML (d:=d) (n:=kL {g with fin:=f} t B) (N.1 (f+1,dH d.interval (kL {g with fin:=f} t B)) (nK _ av)) J;have e:(kL {g with fin:=f} t B).level=((h.height.toNat+1:Nat):Int):=by simp only[kL];omega
    rw[e] at this;exact this
   have hK:aat M' d (lR d) h.height.toNat (kL {g with fin:=f} t B).ai [(A,L),(Bt,Z)]:=by
    refine⟨rfl,fun k hk'=>?_⟩
    match k with
    | 0=>
      refine⟨?_,fun _=>hbl⟩;show Sub M' d (lR d) h.height.toNat g.root A L;rw[I];exact hsA
    | 1=>exact⟨Ba,fun o=>by simp at o⟩
    | k+2=>exact absurd hk' av
   have hS:=SM (m0:=2) Tc (by simp[kL]) hK;have eI:eT [(A,L),(Bt,Z)]=iR b base i:=by rw[<-xj];simp[eT]
   have eP:fL [(A,L),(Bt,Z)]=L++Z:=by simp[fL]
   rw[eI,eP] at hS;refine⟨(f+1)::(L++Z),⟨hk,fj,?_,y,u,m,ug.2 ⟨fun o=>?_,E.1⟩,fun q D=>?_⟩,fun q D=>by
    rcases fD.1 D with rfl | o
    ·exact .inr ⟨af,av⟩
    ·exact(E.2 _ o).imp id fun G=>⟨G.1,fj⟩⟩
   ·have e:(g.height+1).toNat=h.height.toNat+1:=af;simp only[e];exact hS
   ·rcases E.2 _ o with G | G
    ·have:=r _ G;omega
    ·omega
   ·rcases fD.1 D with rfl | o
    ·simp
    ·rcases E.2 _ o with G | G
     ·have:=r _ G;simp only;omega
     ·simp only;omega
end aD

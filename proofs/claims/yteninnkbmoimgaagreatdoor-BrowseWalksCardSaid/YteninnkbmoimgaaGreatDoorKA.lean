/- A part of the proof. -/
import Derived.Test.YteninnkbmoimgaaGreatDoorEB
import Derived.Test.YteninnkbmoimgaaGreatDoorCU
set_option linter.unusedSimpArgs false
set_option linter.unusedVariables false
set_option maxRecDepth 100000
set_option maxHeartbeats 16000000
namespace aD
open Go.Proofs.YteninnkbmoimgaaGreatDoor (dS dH)
def oT (M:List (List UInt8)) (d:DS) (a:Ar):Prop:=∀x∈fX d a,aF M x.1=(x.2,0)
theorem oT.read {M:List (List UInt8)} {d:DS} {a:Ar} (h:oT M d a) (s:fP d a):jw M d a.base=(a,0):=anj s h
theorem oT.keep {M M':List (List UInt8)} {d:DS} {a:Ar} (h:oT M d a) (s:fP d a) (g:∀q,a.base<=q->q<=a.base+d.aN->(aF M q).2=0->aF M' q=aF M q):oT M' d a:=fun x b=>by
 obtain⟨e,f⟩:=(Gx s).2 x b;rw[g _ e f (by rw[h x b])];exact h x b
theorem oT.change {M M':List (List UInt8)} {d:DS} {a b:Ar} (h:oT M d a) (I:fP d a) (G:fP d b) (H:b.base=a.base) {W:List Wr} (B:∀x∈mh (fX d a) (fX d b),x∈W) (l:∀x∈W,a.base<=x.1->x.1<=a.base+d.aN->x∈mh (fX d a) (fX d b))
 (u:∀x∈W,aF M' x.1=(x.2,0)) (z:∀q,a.base<=q->q<=a.base+d.aN->(aF M q).2=0->(∀x∈W,x.1≠q)->aF M' q=aF M q):oT M' d b:=fun x m=>by
 obtain⟨E,F⟩:=Gx G;have C:=F x m;by_cases g:x∈fX d a
 ·rw[z x.1 af af (by rw[h x g]) (fun y D e=>?_)]
  ·exact h x g
  ·have f:=l y D af af;have n:y∈fX d b:=(AQ.1 f).1;have o:y=x:=by
    have t:=ue.1 E;obtain⟨i,hi,rfl⟩:=nT.1 n;obtain⟨j,r,rfl⟩:=nT.1 m;rcases C0 i j with h | h | h
    ·have:=t i j pq (by simpa using r) h;simp only[List.getElem_map] at this;exact absurd e this
    ·subst h;rfl
    ·have:=t j i (by simpa using r) pq h;simp only[List.getElem_map] at this;exact absurd e.symm this
   subst o;have:=(AQ.1 f).2;simp[g] at this
 ·exact u x (B x (AQ.2 ⟨m,by simp[g]⟩))
abbrev aQ:=List UInt8×Ar
def iy (S:List aQ):List dK:=S.map fun s=>(s.1,s.2.base)
def aT (S:List aQ):aB:=(S.map fun s=>aX s.2).flatten
theorem II (A B:List aQ):iy (A++B)=iy A++iy B:=by simp[iy]
theorem Bv (s:aQ) (B:List aQ):iy (s::B)=(s.1,s.2.base)::iy B:=rfl
theorem qd (A B:List aQ):aT (A++B)=aT A++aT B:=by simp[aT]
theorem oU (s:aQ) (B:List aQ):aT (s::B)=aX s.2++aT B:=by simp[aT]
def nj (S:List aQ):List UInt8:=dw (iy S)
def sn (d:DS) (low:List UInt8) (post:List aQ) (R:aB):Prop:=∀r∈R,bl (ax d r) low=false/\(post≠[]->bl (ax d r) (nj post)=true)
theorem ad5 {M:List (List UInt8)} {d:DS} {b level:Int} (h:(bF M d b level).2=0):(aF M b).2=0:=by
 cases hp:decide ((aF M b).2=0) with
 | true=>exact qG hp
 | false=>
   have:=Gj hp;simp only[bF] at h
   simp_all
theorem ad6 {M:List (List UInt8)} {d:DS} {y:Nat}:∀{l:Nat} {b:Int} {m:List dK} {e:List Int},Sub M d y l b m e->∀q∈e,(aF M q).2=0
 | 0,_,_,_,⟨_,h⟩,q,f=>by subst h;cases f
 | l+1,b,m,e,⟨n,_,P,z,_,r,t⟩,q,f=>by
   subst r;rcases fD.1 f with rfl | f
   ·exact ad5 n
   ·obtain⟨L,o,g⟩:=uu.1 f;obtain⟨x,u,rfl⟩:=fT.1 o;obtain⟨i,j,rfl⟩:=nT.1 u;have:=(t i j).1;refine ad6 this q ?_;simpa[List.getD,j] using g
theorem T9 {M:List (List UInt8)} {d:DS} {m0 y:Nat}:∀{l:Nat} {b:Int} {m:List dK} {e:List Int},rX M d m0 y l b m e->∀q∈e,(aF M q).2=0
 | 0,_,_,_,⟨_,h⟩,q,f=>by subst h;cases f
 | l+1,b,m,e,⟨n,_,P,o,_,t⟩,q,f=>by
   subst t;rcases fD.1 f with rfl | f
   ·exact ad5 n
   ·obtain⟨L,r,g⟩:=uu.1 f;obtain⟨x,u,rfl⟩:=fT.1 r;obtain⟨i,j,rfl⟩:=nT.1 u;refine ad6 (o.2 i j).1 q ?_;simpa[List.getD,j] using g
structure iK (M:List (List UInt8)) (d:DS) (h:Hd) (S:List aQ) (dn:List Int):Prop where
 tree:Tree M d h (iy S) dn
 inv:∀s∈S,jm d s.2
 holds:∀s∈S,oT M d s.2
 base:∀s∈S,1<=s.2.base/\s.2.base+d.aN<=h.fin
 keys:∀pre s post,S=pre++s::post->sn d s.1 post (aX s.2)
 apart:S.Pairwise fun s t=>s.2.base+d.aN<t.2.base∨t.2.base+d.aN<s.2.base
 nodes:∀q∈dn,∀s∈S,q<s.2.base∨s.2.base+d.aN<q
theorem iK.at {M:List (List UInt8)} {d:DS} {h:Hd} {S:List aQ} {e:List Int} (K:iK M d h S e) (k:List UInt8):
 ig M h d k h.height.toNat=0/\∃pre s post,S=pre++s::post/\bJ M h d k h.height.toNat=s.2.base/\bl k s.1=false/\(post≠[]->bl k (nj post)=true):=by
 obtain⟨m,pre,post,low,base,f,n,_,_,j,l⟩:=apy (key:=k) K.tree.h0 K.tree.Bb (GQ (aH _) (fN aq (DE d)) K.tree.sub) K.tree.Bc;refine⟨m,?_⟩;unfold iy at f;obtain⟨r,rest,rfl,o,q⟩:=List.map_eq_append_iff.1 f;obtain⟨s,t,rfl,i,g⟩:=List.map_eq_cons_iff.1 q;simp only[jZ] at i;obtain⟨rfl,rfl⟩:=i;refine⟨r,s,t,rfl,n,j,fun b=>?_⟩;have:=l (by rw[<-g];simpa using b);rw[<-g] at this;exact this
theorem iK.Bw {M:List (List UInt8)} {d:DS} {h:Hd} {S:List aQ} {g:List Int} (K:iK M d h S g) {pre:List aQ} {s:aQ} {post:List aQ} (e:S=pre++s::post):
 (∀t∈pre,bl t.1 s.1=true)/\(∀t∈post,bl s.1 t.1=true):=by
 have b:=K.tree.Bb;rw[e,II,Bv] at b;unfold nL at b;obtain⟨_,i,j⟩:=mT.1 b;refine⟨fun t f=>?_,fun t f=>?_⟩
 ·exact j (t.1,t.2.base) (by unfold iy;exact fT.2 ⟨t,f,rfl⟩) (s.1,s.2.base) (Gu ..)
 ·exact(lM.1 i).1 (t.1,t.2.base) (by unfold iy;exact fT.2 ⟨t,f,rfl⟩)
theorem iK.sides {M:List (List UInt8)} {d:DS} {h:Hd} {S:List aQ} {m:List Int} (K:iK M d h S m) {pre:List aQ} {s:aQ} {post:List aQ} (e:S=pre++s::post):
 (∀r∈aT pre,bl (ax d r) s.1=true)/\(∀r∈aT post,bl (ax d r) (nj post)=false):=by
 refine⟨fun r g=>?_,fun r g=>?_⟩
 ·unfold aT at g;obtain⟨L,j,b⟩:=uu.1 g;obtain⟨t,l,rfl⟩:=fT.1 j;obtain⟨A,B,rfl⟩:=List.append_of_mem l;have f:=(K.keys A t (B++s::post) (by rw[e];simp) r b).2 av;cases B with
  | nil=>exact f
  | cons u B=>
    have i:=(K.Bw (pre:=A++t::u::B) (s:=s) (post:=post) e).1 u av;have n:bl (ax d r) u.1=true:=f;exact iN n i
 ·unfold aT at g;obtain⟨L,j,b⟩:=uu.1 g;obtain⟨t,l,rfl⟩:=fT.1 j;obtain⟨A,B,rfl⟩:=List.append_of_mem l;have f:=(K.keys (pre++s::A) t B (by rw[e];simp) r b).1;cases A with
  | nil=>exact f
  | cons u A=>
    have i:=(K.Bw (pre:=pre++s::u::A) (s:=t) (post:=B) (by rw[e];simp)).1 u av;show bl (ax d r) u.1=false;cases hb:bl (ax d r) u.1 with
    | false=>rfl
    | true=>rw[iN hb i] at f;cases f
theorem iK.inc {M:List (List UInt8)} {d:DS} {h:Hd} {S:List aQ} {f:List Int} (K:iK M d h S f):dN d (aT S):=by
 have i:∀(B A:List aQ),S=A++B->dN d (aT B):=by
  intro B;induction B with
  | nil=>intro A _;exact List.Pairwise.nil
  | cons s B n=>
    intro A e;rw[oU];unfold dN;rw[mT];refine⟨(K.inv s (by rw[e];simp)).spec.inc,n (A++[s]) (by rw[e];simp),fun x m y g=>?_⟩;have b:B≠[]:=by
     rintro rfl;simp[aT] at g
    have j:=(K.keys A s B e x m).2 b;have l:=(K.sides e).2 y g;exact yF j l
 exact i S [] rfl
theorem iK.want {M:List (List UInt8)} {d:DS} {h:Hd} {S:List aQ} {j:List Int} (K:iK M d h S j) {pre:List aQ} {s:aQ} {post:List aQ} (e:S=pre++s::post) {k:List UInt8} (q:bl k s.1=false) (u:post≠[]->bl k (nj post)=true):
 eJ d (aT S) k=eJ d (aX s.2) k:=by
 have m:=K.inc;obtain⟨n,o⟩:=K.sides e;have z:dN d (aX s.2):=(K.inv s (by rw[e];simp)).spec.inc;rw[e,qd,oU] at m⊢;cases hw:eJ d (aX s.2) k with
 | some t=>
   obtain⟨B,C⟩:=(ZS z).1 hw;exact(ZS m).2 ⟨nK _ (oM _ B),C⟩
 | none=>
   rw[ZU] at hw⊢;intro r y f;rcases iG.1 y with g | g
   ·have:=n r g;rw[f,q] at this;cases this
   ·rcases iG.1 g with b | b
    ·exact hw r b f
    ·have l:=o r b;have i:post≠[]:=by rintro rfl;simp[aT] at b
     rw[f,u i] at l;cases l
theorem aq3 {d:DS} {r:List UInt8} {A B C:aB} (b:∀s∈A,bl (ax d s) (ax d r)=true) (e:∀s∈C,bl (ax d r) (ax d s)=true):cw d r (A++(B++C))=A++(cw d r B++C):=by
 rw[Lc b,Ld e]
theorem iK.put {M:List (List UInt8)} {d:DS} {h:Hd} {S:List aQ} {g:List Int} (K:iK M d h S g) {pre:List aQ} {s:aQ} {post:List aQ} (e:S=pre++s::post) {r:List UInt8} (l:bl (ax d r) s.1=false) (m:post≠[]->bl (ax d r) (nj post)=true):
 cw d r (aT S)=aT pre++(cw d r (aX s.2)++aT post):=by
 obtain⟨i,j⟩:=K.sides e;rw[e,qd,oU];refine aq3 (fun t b=>yF (i t b) l) (fun t b=>?_);have f:post≠[]:=by rintro rfl;simp[aT] at b
 exact yF (m f) (j t b)
theorem iK.del {M:List (List UInt8)} {d:DS} {h:Hd} {S:List aQ} {b:List Int} (K:iK M d h S b) {pre:List aQ} {s:aQ} {post:List aQ} (e:S=pre++s::post) {k:List UInt8} (i:bl k s.1=false) (j:∃t∈aX s.2,ax d t=k):
 fO d k (aT S)=aT pre++(fO d k (aX s.2)++aT post):=by
 obtain⟨g,m⟩:=K.sides e;rw[e,qd,oU,QT (fun t l f=>by have:=g t l;rw[f,i] at this;cases this),QU j]
theorem sn.put {d:DS} {low:List UInt8} {post:List aQ} {R:aB} {r:List UInt8} (h:sn d low post R) (e:bl (ax d r) low=false) (f:post≠[]->bl (ax d r) (nj post)=true):sn d low post (cw d r R):=fun t b=>by
 rcases ud b with rfl | b
 ·exact⟨e,f⟩
 ·exact h t b
theorem sn.del {d:DS} {low k:List UInt8} {post:List aQ} {R:aB} (h:sn d low post R):sn d low post (fO d k R):=fun t b=>h t ((FJ d k R).subset b)
theorem aq4 {pre post:List aQ} {s t:aQ} (b:t.1=s.1) (d:t.2.base=s.2.base):iy (pre++t::post)=iy (pre++s::post):=by
 rw[II,II,Bv,Bv,b,d]
theorem ad7 {α:Type} {A B pre post:List α} {s t:α} (e:A++s::B=pre++t::post):(A.length<pre.length/\∃C,pre=A++s::C/\B=C++t::post)∨(A=pre/\s=t/\B=post)∨(pre.length<A.length/\∃C,A=pre++t::C/\post=C++s::B):=by
 rcases C0 A.length pre.length with h | h | h
 ·refine .inl ⟨h,?_⟩;rcases List.append_eq_append_iff.1 e with⟨C,b,d⟩ | ⟨C,b,d⟩
  ·cases C with
   | nil=>simp at b;subst b;omega
   | cons c C=>
     simp only[bE,mR] at d;obtain⟨rfl,rfl⟩:=d;exact⟨C,b,rfl⟩
  ·have:=gP List.length b;simp at this;omega
 ·have:=List.append_inj e h;obtain⟨rfl,d⟩:=this;simp at d;exact .inr (.inl ⟨rfl,d.1,d.2⟩)
 ·refine .inr (.inr ⟨h,?_⟩);rcases List.append_eq_append_iff.1 e with⟨C,b,d⟩ | ⟨C,b,d⟩
  ·have:=gP List.length b;simp at this;omega
  ·cases C with
   | nil=>simp at b;subst b;omega
   | cons c C=>
     simp only[bE,mR] at d;obtain⟨rfl,rfl⟩:=d;exact⟨C,b,rfl⟩
theorem iK.swap {M M':List (List UInt8)} {d:DS} {h h':Hd} {m:List Int} {pre:List aQ} {s:aQ} {post:List aQ} {a:Ar} (K:iK M d h (pre++s::post) m) (V:h'.root=h.root) (L:h'.height=h.height) (J:h'.fin=h.fin)
 (I:jm d a) (o:a.base=s.2.base) (U:sn d s.1 post (aX a)) (R:oT M' d a) (N:∀q,(aF M q).2=0->(q<s.2.base∨s.2.base+d.aN<q)->aF M' q=aF M q):
 iK M' d h' (pre++(s.1,a)::post) m:=by
 have l:s∈pre++s::post:=av;have S:∀t∈pre++s::post,t∈pre∨t=s∨t∈post:=fun t b=>by simpa using b
 obtain⟨D,E,j⟩:=mT.1 K.apart;obtain⟨n,F⟩:=lM.1 E;have g:∀t,t∈pre∨t∈post->s.2.base+d.aN<t.2.base∨t.2.base+d.aN<s.2.base:=fun t b=>by
  rcases b with b | b
  ·exact(j t b s av).symm
  ·exact n t b
 have y:∀t,t∈pre∨t∈post->oT M' d t.2:=fun t b=>by
  have z:t∈pre++s::post:=by rcases b with b | b<;>simp[b]
  refine(K.holds t z).keep (K.inv t z).spec fun q h1 X O=>N q O ?_;rcases g t b with Q | Q
  ·exact .inr af
  ·exact .inl af
 have T:=K.tree;have i:∀q∈m,aF M' q=aF M q:=fun q f=>N q (T9 T.sub q f) (K.nodes q f s l);refine⟨?_,?_,?_,?_,?_,?_,?_⟩
 ·rw[aq4 (s:=s) (t:=(s.1,a)) rfl o];exact⟨T.keyed,by rw[L];exact T.h0,by rw[L,V];exact aoG T.sub i,T.Bb,T.Bc,T.short,T.nodup,fun q f=>by rw[J];exact T.bound q f⟩
 ·intro t b;rcases(show t∈pre∨t=(s.1,a)∨t∈post by simpa using b) with h1 | h1 | h1
  ·exact K.inv t sI
  ·subst h1;exact I
  ·exact K.inv t sI
 ·intro t b;rcases(show t∈pre∨t=(s.1,a)∨t∈post by simpa using b) with h1 | h1 | h1
  ·exact y t (.inl h1)
  ·subst h1;exact R
  ·exact y t (.inr h1)
 ·intro t b;rw[J];rcases(show t∈pre∨t=(s.1,a)∨t∈post by simpa using b) with h1 | h1 | h1
  ·exact K.base t sI
  ·subst h1;simp only;rw[o];exact K.base s l
  ·exact K.base t sI
 ·intro A t B e;rcases ad7 e with⟨_,C,rfl,rfl⟩ | ⟨rfl,rfl,rfl⟩ | ⟨_,C,rfl,rfl⟩
  ·exact K.keys (pre++s::C) t B av
  ·exact U
  ·have:=K.keys A t (C++s::post) av;intro r G;obtain⟨g1,g2⟩:=this r G;exact Yq
 ·rw[mT];refine⟨D,lM.2 ⟨fun t b=>?_,F⟩,fun t b u H=>?_⟩
  ·simp only;rw[o];exact n t b
  ·rcases fD.1 H with rfl | H
   ·simp only;rw[o];exact j t b s av
   ·exact j t b u (by simp[H])
 ·intro q f t b;rcases(show t∈pre∨t=(s.1,a)∨t∈post by simpa using b) with h1 | h1 | h1
  ·exact K.nodes q f t sI
  ·subst h1;simp only;rw[o];exact K.nodes q f s l
  ·exact K.nodes q f t sI
theorem aq5 {pre post:List aQ} {s:aQ} {l r:Ar} {mid:List UInt8} {base:Int} (i:l.base=s.2.base) (j:r.base=base) (e:∀t∈pre,bl mid t.1=false) (f:bl mid s.1=false) (g:post≠[]->bl mid (nj post)=true):
 iR mid base (iy (pre++s::post))=iy (pre++(s.1,l)::(mid,r)::post):=by
 have d:iy (pre++s::post)=(iy pre++[(s.1,s.2.base)])++iy post:=by rw[II,Bv];simp
 rw[d,SQ av (fun x n=>?_),II,Bv,Bv]
 ·simp only[i,j];cases post with
  | nil=>simp[iR,iy]
  | cons u B=>
    have b:bl mid u.1=true:=g av;rw[Bv];simp[iR,b]
 ·rcases iG.1 n with b | b
  ·unfold iy at b;obtain⟨t,m,rfl⟩:=fT.1 b;exact e t m
  ·simp at b;subst b;exact f
theorem iK.divide {M M':List (List UInt8)} {d:DS} {h g h':Hd} {B:List Int} {pre:List aQ} {s:aQ} {post:List aQ} {l r:Ar} {mid:List UInt8} {W:List Wr} {J:Hd} (K:iK M d h (pre++s::post) B)
 (hg:g.fin=h.fin+d.aN+1) (A:G3 M d h g mid (h.fin+1) (iy (pre++s::post)) B W J) (hr:h'.root=J.root) (hh:h'.height=J.height) (hf:h'.fin=J.fin)
 (Il:jm d l) (z:l.base=s.2.base) (Ir:jm d r) (hbr:r.base=h.fin+1) (N:∀x∈aX l,bl (ax d x) s.1=false/\bl (ax d x) mid=true) (Nl:sn d mid post (aX r))
 (O:bl s.1 mid=true) (hm1:post≠[]->bl mid (nj post)=true) (Ua:oT M' d l) (Ub:oT M' d r) (hWp:∀x∈W,aF M' x.1=(x.2,0))
 (hq:∀q,q<=h.fin->(aF M q).2=0->(q<s.2.base∨s.2.base+d.aN<q)->(∀x∈W,x.1≠q)->aF M' q=aF M q):
 ∃o,iK M' d h' (pre++(s.1,l)::(mid,r)::post) o:=by
 have G:s∈pre++s::post:=av;obtain⟨Uc,lo2⟩:=K.Bw (pre:=pre) (s:=s) (post:=post) rfl;obtain⟨U,V,E⟩:=mT.1 K.apart;obtain⟨I,Z⟩:=lM.1 V;obtain⟨_,_,_,_,_,_,_,ar2,ar8⟩:=iM K.tree.keyed;have n:∀t,t∈pre∨t∈post->s.2.base+d.aN<t.2.base∨t.2.base+d.aN<s.2.base:=fun t b=>by
  rcases b with b | b
  ·exact(E t b s av).symm
  ·exact I t b
 have m:∀t,t∈pre∨t∈post->1<=t.2.base/\t.2.base+d.aN<=h.fin:=fun t b=>K.base t (by rcases b with b | b<;>simp[b]);have L:∀x∈W,x.1∈B∨(g.fin<x.1/\x.1<=J.fin):=fun x D=>(A.ok.pages x D).imp (A.way _) id;have hfr:∀t,t∈pre∨t∈post->oT M' d t.2:=fun t b=>by
  have H:t∈pre++s::post:=by rcases b with b | b<;>simp[b]
  have hb:=m t b;refine(K.holds t H).keep (K.inv t H).spec fun q f y h0=>hq q af h0 ?_ fun x D e=>?_
  ·rcases n t b with Q | Q
   ·exact .inr af
   ·exact .inl af
  ·rcases L x D with Q | Q
   ·have:=K.nodes x.1 Q t H;omega
   ·omega
 have hM:y5 M M' W B:=⟨hWp,fun q i hne=>hq q (K.tree.bound q i) (T9 K.tree.sub q i) (K.nodes q i s G) hne⟩;obtain⟨o,T,F⟩:=A.tree M' hM;rw[aq5 (l:=l) (r:=r) z hbr (fun t b=>sR (iN (Uc t b) O)) (sR O) hm1] at T;have hfin:=A.api;have j:∀t,t∈pre++(s.1,l)::(mid,r)::post->(t∈pre∨t∈post)∨t=(s.1,l)∨t=(mid,r):=fun t b=>by
  simp at b;rcases b with f | f | f | f
  ·exact .inl (.inl f)
  ·exact .inr (.inl f)
  ·exact .inr (.inr f)
  ·exact .inl (.inr f)
 have hsb:=K.base s G;refine⟨o,⟨T.keyed,by rw[hh];exact T.h0,by rw[hh,hr];exact T.sub,T.Bb,T.Bc,T.short,T.nodup,fun q i=>by rw[hf];exact T.bound q i⟩,?_,?_,?_,?_,?_,?_⟩
 ·intro t b;rcases j t b with f | rfl | rfl
  ·exact K.inv t (by rcases f with f | f<;>simp[f])
  ·exact Il
  ·exact Ir
 ·intro t b;rcases j t b with f | rfl | rfl
  ·exact hfr t f
  ·exact Ua
  ·exact Ub
 ·intro t b;rw[hf];rcases j t b with f | rfl | rfl
  ·have:=m t f;omega
  ·simp only;omega
  ·simp only;omega
 ·intro X t Y e;rcases ad7 e with⟨_,C,rfl,R⟩ | ⟨rfl,rfl,rfl⟩ | ⟨_,C,rfl,rfl⟩
  ·cases C with
   | nil=>
     simp only[bQ,mR] at R;obtain⟨rfl,rfl⟩:=R;exact Nl
   | cons c C=>
     simp only[bE,mR] at R;obtain⟨rfl,rfl⟩:=R;exact K.keys (pre++s::C) t Y av
  ·exact fun x D=>⟨(N x D).1,fun _=>(N x D).2⟩
  ·intro x D;obtain⟨g1,g2⟩:=K.keys X t (C++s::post) av x D;exact Yq
 ·rw[mT];refine⟨U,lM.2 ⟨fun t b=>?_,lM.2 ⟨fun t b=>?_,Z⟩⟩,fun t b u S=>?_⟩
  ·rcases fD.1 b with rfl | b
   ·exact .inl fj
   ·simp only;rw[z];exact I t b
  ·have:=m t (.inr b);exact .inr fj
  ·have hb:=m t (.inl b);simp only[fD] at S;rcases S with rfl | rfl | S
   ·simp only;rw[z];exact E t b s av
   ·exact .inl fj
   ·exact E t b u (by simp[S])
 ·intro q i t b;rcases j t b with f | rfl | rfl
  ·have hb:=m t f;rcases F q i with y | y
   ·exact K.nodes q y t (by rcases f with f | f<;>simp[f])
   ·exact .inr af
  ·simp only;rw[z];rcases F q i with y | y
   ·exact K.nodes q y s G
   ·exact .inr af
  ·simp only;rcases F q i with y | y
   ·have:=K.tree.bound q y;exact .inl af
   ·exact .inr af
end aD
namespace aD
open Go.Proofs.YteninnkbmoimgaaGreatDoor (vn s7 Gy A0 dS dH)
theorem ad8 (size:Int) (L:aB):∀k:Nat,1<=k->((s7 size L k).1=0/\∀m,1<=m->m<k->¬Gy size L m)∨(1<=(s7 size L k).1/\(s7 size L k).1<k/\Gy size L (s7 size L k).1)
 | 0,h=>absurd h aq
 | 1,_=>.inl ⟨rfl,fun m b d=>af⟩
 | k+2,_=>by
   have i:=ad8 size L (k+1) af;rw[s7,aA af];by_cases f:eH size (L.take (k+1))=true/\eH size (L.drop (k+1))=true
   ·rw[aC f];simp only;split
    ·exact .inr ⟨fj,fj,f⟩
    ·rename_i h;rcases i with⟨b,_⟩ | ⟨b,d,g⟩
     ·exact absurd (.inl b) h
     ·exact .inr ⟨b,af,g⟩
   ·rw[aA f];rcases i with⟨b,d⟩ | ⟨b,d,g⟩
    ·refine .inl ⟨b,fun m j l=>?_⟩;by_cases e:m=k+1
     ·subst e;exact f
     ·exact d m j af
    ·exact .inr ⟨b,af,g⟩
theorem ad9 {size:Int} {L:aB} (h:∃m,1<=m/\m<L.length/\Gy size L m):1<=vn size L/\vn size L<L.length/\Gy size L (vn size L):=by
 obtain⟨m,b,d,e⟩:=h;rcases ad8 size L L.length af with⟨_,g⟩ | g
 ·exact absurd e (g m b d)
 ·exact g
abbrev sq (d:DS) (a:Ar) (k:List UInt8):aB:=a.ak.getD (bK a.nd.ai k) []
abbrev IJ (d:DS) (l:aB):Nat:=vn d.interval l
def Ud (d:DS) (a:Ar) (l:aB) (i:Nat):Ar:=
 {a with nd:={a.nd with ai:=eD a.nd.ai i (uc (ax d (l.getD (IJ d l-1) [])) (ax d (l.getD (IJ d l) []))) (kY d a)},ak:=pR a.ak i (l.take (IJ d l)) (l.drop (IJ d l))}
def lU (d:DS) (a:Ar) (r:List UInt8):Ar×Bool:=
 if eH d.interval (cw d r (sq d a (ax d r)))=true then({a with ak:=a.ak.set (bK a.nd.ai (ax d r)) (cw d r (sq d a (ax d r)))},true)
 else if kY d a=0 then(a,false)
 else(Ud d a (cw d r (sq d a (ax d r))) (bK a.nd.ai (ax d r)),true)
theorem aea {d:DS} {a:Ar} (s:fP d a) (h:kY d a≠0):a.base<kY d a/\kY d a<=a.base+d.aN/\∀x∈a.nd.ai,x.2≠kY d a:=by
 have g:=s.base;unfold eX at g;simp only[eu,gu] at g;have m:=s.few;unfold kY at *;rcases Sj (P:=a.nd.ai.map (·.2)) (f:=d.aN.toNat) (n:=a.base+1) af with⟨b,_⟩ | ⟨b,l,i⟩
 ·exact absurd b h
 ·refine⟨af,af,fun x j e=>i (by rw[<-e];exact List.mem_map_of_mem j)⟩
structure ara (d:DS) (a:Ar) (r:List UInt8) (x:Ar×Bool):Prop where
 inv:jm d x.1
 base:x.1.base=a.base
 yes:x.2=true->aX x.1=cw d r (aX a)
 no:x.2=false->x.1=a/\kY d a=0
theorem DZ {d:DS} {a:Ar} {r:List UInt8} (I:jm d a) (j:cV d r=true):ara d a r (lU d a r):=by
 unfold lU;by_cases b:eH d.interval (cw d r (sq d a (ax d r)))=true
 ·rw[aC b];obtain⟨f,g⟩:=akY I j b;exact⟨f,rfl,fun _=>g,fun h=>ot⟩
 ·rw[aA b];by_cases e:kY d a=0
  ·rw[aC e];exact⟨I,rfl,fun h=>ot,fun _=>⟨rfl,e⟩⟩
  ·rw[aA e];have i:=(I.spec.at (ax d r)).lt;have l:=(I.spec.iv i).1;obtain⟨m,n,o,q⟩:=ad9 (size:=d.interval) (Z1 I.spec.keyed j l (by simpa using b));obtain⟨t,u,y⟩:=aea I.spec e;obtain⟨_,f,g⟩:=Z2 I j rfl rfl m n o q rfl t u y;exact⟨f,rfl,fun _=>g,fun h=>ot⟩
def qf (d:DS) (a:Ar) (k:List UInt8):Ar×Bool:=
 if oF d k (sq d a k)=false then(a,false)
 else if fO d k (sq d a k)≠[]∨a.ak.length=1 then({a with ak:=a.ak.set (bK a.nd.ai k) (fO d k (sq d a k))},true)
 else({a with nd:={a.nd with ai:=cC (a.nd.ai.eraseIdx (bK a.nd.ai k))},ak:=a.ak.eraseIdx (bK a.nd.ai k)},true)
structure arb (d:DS) (a:Ar) (k:List UInt8) (x:Ar×Bool):Prop where
 inv:jm d x.1
 base:x.1.base=a.base
 yes:x.2=true->aX x.1=fO d k (aX a)/\∃t∈aX a,ax d t=k
theorem Ue {d:DS} {a:Ar} {k:List UInt8} (I:jm d a):arb d a k (qf d a k):=by
 have f:=(I.spec.at k).lt;unfold qf;cases hh:oF d k (sq d a k) with
 | false=>
   rw[aC rfl];exact⟨I,rfl,fun h=>ot⟩
 | true=>
   rw[aA aq];obtain⟨_,_,t,m,i⟩:=Re hh;have b:t∈aX a:=by
    unfold aX;refine uu.2 ⟨sq d a k,?_,m⟩;have e:sq d a k=a.ak[bK a.nd.ai k]'f:=by simp[sq,List.getD,f]
    exact Cu
   by_cases g:fO d k (sq d a k)≠[]∨a.ak.length=1
   ·rw[aC g];obtain⟨j,l⟩:=ak4 I (k:=k) rfl ⟨t,m,i⟩ g;exact⟨j,rfl,fun _=>⟨l,t,b,i⟩⟩
   ·rw[aA g];have n:fO d k (sq d a k)=[]:=MX fun h=>g (.inl h);obtain⟨j,l⟩:=ak5 I (k:=k) rfl ⟨t,m,i⟩ n (by
     have o:¬a.ak.length=1:=fun h=>g (.inr h);omega)
    exact⟨j,rfl,fun _=>⟨l,t,b,i⟩⟩
theorem aeb:∀(f:Nat) (n:Int) (P:List Int),(∀x,n<=x->x<n+f->x∈P)->f<=P.length
 | 0,_,_,_=>bL _
 | f+1,n,P,h=>by
   have b:n∈P:=h n (Ct _) af;have d:=aeb f (n+1) (P.erase n) fun x e g=>(List.mem_erase_of_ne af).2 (h x af Cz);rw[List.length_erase_of_mem b] at d;have:=List.length_pos_of_mem b;omega
theorem Uf {d:DS} {a:Ar} (s:fP d a) (h:kY d a=0):(a.nd.ai.length:Int)=d.aN:=by
 have e:=s.base;unfold eX at e;simp only[eu,gu] at e;have j:=s.few;have i:0<=d.aN:=af;unfold kY at h;rcases Sj (P:=a.nd.ai.map (·.2)) (f:=d.aN.toNat) (n:=a.base+1) af with⟨_,b⟩ | ⟨b,g,_⟩
 ·have:=aeb d.aN.toNat (a.base+1) (a.nd.ai.map (·.2)) b;rw[kF] at this;omega
 ·omega
def uB (d:DS) (a:Ar) (base:Int) (r:List UInt8):Ar×Ar:=
 if bl (ax d r) (gK a)=true then((lU d (oC a base) r).1,oD a base) else(oC a base,(lU d (oD a base) r).1)
theorem aec {d:DS} {a b:Ar} {r:List UInt8} (I:jm d b) (f:cV d r=true) (e:(b.nd.ai.length:Int)<d.aN):aX (lU d b r).1=cw d r (aX b):=by
 have P:=DZ I f;cases h:(lU d b r).2 with
 | true=>exact P.yes h
 | false=>
   have:=Uf I.spec (P.no h).2;omega
theorem arc {d:DS} {r mid:List UInt8} {A B:aB} (e:∀s∈A,bl (ax d s) mid=true) (f:∀s∈B,bl (ax d s) mid=false):
 cw d r (A++B)=if bl (ax d r) mid=true then cw d r A++B else A++cw d r B:=by
 split
 ·rename_i h;exact Ld (fun s b=>yF h (f s b))
 ·rename_i h;exact Lc (fun s b=>yF (e s b) nA)
structure ard (d:DS) (a:Ar) (base:Int) (r:List UInt8) (x:Ar×Ar):Prop where
 il:jm d x.1
 ir:jm d x.2
 bl:x.1.base=a.base
 br:x.2.base=base
 aed:aX x.1++aX x.2=cw d r (aX a)
 low:∀s∈aX x.1,aD.bl (ax d s) (gK a)=true
 high:∀s∈aX x.2,aD.bl (ax d s) (gK a)=false
 aee:gK a≠[]
 aef:((gK a).length:Int)<=d.bV
 lne:∃t∈aX a,aD.bl (ax d t) (gK a)=true
 rne:∃t∈aX a,aD.bl (ax d t) (gK a)=false
theorem Nn {d:DS} {a:Ar} {base:Int} {r:List UInt8} (I:jm d a) (q:cV d r=true) (J:eX base=true) (M:kY d a=0):ard d a base r (uB d a base r):=by
 obtain⟨_,_,_,_,_,_,_,F,G⟩:=iM I.spec.keyed;have z:=Uf I.spec M;have H:1<a.nd.ai.length:=af;obtain⟨u,y,j,o,i,R,S,E⟩:=aaf I J H;have C:∃t∈aX a,aD.bl (ax d t) (gK a)=true:=by
  obtain⟨t,m⟩:=FO _ R;exact⟨t,by rw[<-j];exact oM _ m,o t m⟩
 have D:∃t∈aX a,aD.bl (ax d t) (gK a)=false:=by
  obtain⟨t,m⟩:=FO _ S;exact⟨t,by rw[<-j];exact nK _ m,i t m⟩
 have B:((gK a).length:Int)<=d.bV:=I.short _ (by
  have K:(a.nd.ai.length+1)/2-1<a.nd.ai.length:=af;have e:au a.nd.ai ((a.nd.ai.length+1)/2-1)=a.nd.ai[(a.nd.ai.length+1)/2-1]:=by simp[au,List.getD,K]
  exact Cu)
 have O:((oC a base).nd.ai.length:Int)<d.aN:=by
  simp only[oC,tT,gF];omega
 have Q:((oD a base).nd.ai.length:Int)<d.aN:=by
  have e:∀(n:Int) (L:List aG),(iI n L).length=L.length:=by
   intro n L;induction L generalizing n with
   | nil=>rfl
   | cons x L N=>simp[iI,N]
  simp only[oD,e,eU];omega
 have f:=arc (d:=d) (r:=r) o i;rw[j] at f;unfold uB;by_cases l:aD.bl (ax d r) (gK a)=true
 ·rw[aC l];rw[aC l] at f;have P:=DZ u q;have b:=aec (a:=a) u q O;refine⟨P.inv,y,P.base,rfl,by simp only;rw[b,f],fun s g=>?_,i,E,B,C,D⟩;simp only at g;rw[b] at g;rcases ud g with rfl | g
  ·exact l
  ·exact o s g
 ·rw[aA l];rw[aA l] at f;have P:=DZ y q;have b:=aec (a:=a) y q Q;refine⟨u,P.inv,rfl,P.base,by simp only;rw[b,f],o,fun s g=>?_,E,B,C,D⟩;simp only at g;rw[b] at g;rcases ud g with rfl | g
  ·simpa using l
  ·exact i s g
def pz (x:Wr):List Wr->List Wr
 | []=>[x]
 | y::L=>if y.1<x.1 then y::pz x L else x::y::L
def dB (L:List Wr):List Wr:=L.foldl (fun o x=>pz x o) []
theorem aei (x:Wr):∀L:List Wr,(pz x L).Perm (x::L)
 | []=>List.Perm.refl _
 | y::L=>by
   rw[pz];split
   ·exact((aei x L).cons y).trans (List.Perm.swap _ _ _)
   ·exact List.Perm.refl _
theorem aej:∀(L o:List Wr),(L.foldl (fun o x=>pz x o) o).Perm (o++L)
 | [],o=>av
 | x::L,o=>by
   rw[jS];refine(aej L (pz x o)).trans ?_;refine((aei x o).append_right L).trans ?_;exact List.perm_middle.symm
theorem Bx (L:List Wr):(dB L).Perm L:=by
 have:=aej L [];rw[bQ] at this;exact this
theorem Np {M:List (List UInt8)} {q:Int} (h:(aF M q).2=0):0<=q/\q<(M.length:Int):=by
 unfold aF at h;split at h
 ·assumption
 ·cases h
structure dL (M:List (List UInt8)) (d:DS) (h:Hd) (S:List aQ) (dn:List Int) (n:Nat):Prop where
 k:iK M d h S dn
 n0:n<=100
 cnt:h.count=(aT S).length
 cn:(aT S).length<=n
 Nq:0<=h.kG
 Nr:h.kG<=n+1
 an:S.length<=n+1
 Ns:0<=h.splits
 Nt:h.splits<=n
 fin:h.fin<=9+16*(n:Int)
 mem:(M.length:Int)<=10+16*(n:Int)
 short:∀s∈M,s.length<=512
 xx:1<=h.root
 zu:h.root<=h.fin
theorem dL.height {M:List (List UInt8)} {d:DS} {h:Hd} {S:List aQ} {b:List Int} {n:Nat} (K:dL M d h S b n):0<=h.height/\h.height<=5:=by
 have f:=K.k.tree.h0;refine⟨f,?_⟩;have e:=K.k.tree.sub;apply MX;intro q;obtain⟨l,g⟩:∃l,h.height.toNat=l+1:=⟨h.height.toNat-1,af⟩;rw[g] at e;have i:=aph e;have j:4 ^ l<=lR d ^ l:=Nat.pow_le_pow_left (DE d) l;have m:4 ^ 5<=4 ^ l:=Nat.pow_le_pow_right aq af;have o:(iy S).length=S.length:=by simp[iy]
 have:=K.an;have:=K.n0;omega
theorem dL.small {M:List (List UInt8)} {d:DS} {h:Hd} {S:List aQ} {b:List Int} {n:Nat} (K:dL M d h S b n):Small M:=
 ⟨by have:=K.mem;have:=K.n0;omega,fun s e=>by have:=K.short s e;omega⟩
theorem IK {d:DS} {a b:Ar} (e:fP d a) (f:fP d b):fZ d a b=mh (fX d a) (fX d b):=by
 unfold fZ;rw[aC ⟨lD.2 e,lD.2 f⟩]
theorem Nu {d:DS} {a b:Ar} (i:fP d a) (e:fP d b):((fZ d a b).map (·.1)).Nodup/\∀x∈fZ d a b,b.base<=x.1/\x.1<=b.base+d.aN:=by
 rw[IK i e];obtain⟨f,g⟩:=Gx e;exact⟨f.sublist ((List.filter_sublist).map _),fun x j=>g x (AQ.1 j).1⟩
theorem iK.over {M:List (List UInt8)} {d:DS} {h h':Hd} {i:List Int} {pre:List aQ} {s:aQ} {post:List aQ} {b:Ar} (K:iK M d h (pre++s::post) i) (u:h.fin<9000) (B:h'.root=h.root) (y:h'.height=h.height) (t:h'.fin=h.fin)
 (I:jm d b) (n:b.base=s.2.base) (z:sn d s.1 post (aX b)):iK (fV M (fZ d s.2 b)) d h' (pre++(s.1,b)::post) i:=by
 have g:s∈pre++s::post:=av;have j:=K.inv s g;obtain⟨D,E⟩:=K.base s g;obtain⟨C,o⟩:=Nu j.spec I.spec;have r:∀x∈fZ d s.2 b,aF (fV M (fZ d s.2 b)) x.1=(x.2,0):=Mi _ _ C fun x f=>by
  have:=o x f;omega
 refine K.swap B y t I n z ?_ fun q l H=>?_
 ·refine(K.holds s g).change j.spec I.spec n (W:=fZ d s.2 b) (fun x f=>by rw[IK j.spec I.spec];exact f) (fun x f _ _=>by rw[IK j.spec I.spec] at f;exact f) r fun q F G l m=>?_;exact Gt _ _ (Np l).2 m
 ·refine Gt _ _ (Np l).2 fun x f e=>?_;have:=o x f;omega
theorem present {d:DS} {S:List aQ} {M:List (List UInt8)} {h:Hd} {b:List Int} (K:iK M d h S b) {pre:List aQ} {s:aQ} {post:List aQ} (e:S=pre++s::post) {r:List UInt8} (f:bl (ax d r) s.1=false) (g:post≠[]->bl (ax d r) (nj post)=true):
 ((cw d r (aT S)).length:Int)=(aT S).length+if(eJ d (aX s.2) (ax d r)).isSome then 0 else 1:=by
 rw[C3 K.inc,K.want e f g];split<;>simp
theorem dL.room {M:List (List UInt8)} {d:DS} {h:Hd} {i:List Int} {n:Nat} {pre:List aQ} {s:aQ} {post:List aQ} (K:dL M d h (pre++s::post) i n) (o:n<100) {r:List UInt8} (t:cV d r=true) (j:bl (ax d r) s.1=false) (l:post≠[]->bl (ax d r) (nj post)=true) {b:Ar} (q:lU d s.2 r=(b,true)):
 dL (fV M (fZ d s.2 b)) d {h with count:=h.count+(if(eJ d (aX s.2) (ax d r)).isSome then 0 else 1),splits:=h.splits+(if s.2.ak.length<b.ak.length then 1 else 0)} (pre++(s.1,b)::post) i (n+1)/\aT (pre++(s.1,b)::post)=cw d r (aT (pre++s::post)):=by
 have g:s∈pre++s::post:=av;have Ia:=K.k.inv s g;have P:=DZ Ia t;rw[q] at P;have f:aT (pre++(s.1,b)::post)=cw d r (aT (pre++s::post)):=by
  rw[K.k.put rfl j l,qd,oU];simp only;rw[P.yes rfl]
 have m:sn d s.1 post (aX b):=by
  rw[P.yes rfl];exact(K.k.keys pre s post rfl).put j l
 have D:=K.fin;have e:=present K.k rfl j l;obtain⟨z,B⟩:=K.k.base s g;obtain⟨E,y⟩:=Nu (b:=b) Ia.spec P.inv.spec;have C:b.base=s.2.base:=P.base;refine⟨⟨K.k.over af rfl rfl rfl P.inv P.base m,o,?_,?_,K.Nq,?_,?_,?_,?_,?_,?_,?_,K.xx,K.zu⟩,f⟩
 ·rw[f,e];simp only;rw[K.cnt]
 ·have:=K.cn;rw[f];split at e<;>omega
 ·have:=K.Nr;simp only;omega
 ·have:=K.an;simp at this⊢;omega
 ·have:=K.Ns;simp only;split<;>omega
 ·have:=K.Nt;simp only;split<;>omega
 ·simp only;omega
 ·exact Gv _ _ (fun x u=>by have:=y x u;omega) (by have:=K.mem;omega)
 ·exact Yp
theorem dL.gone {M:List (List UInt8)} {d:DS} {h:Hd} {g:List Int} {n:Nat} {pre:List aQ} {s:aQ} {post:List aQ} (K:dL M d h (pre++s::post) g n) (r:n<100) {k:List UInt8} (o:bl k s.1=false) {b:Ar} (u:qf d s.2 k=(b,true)):
 dL (fV M (fZ d s.2 b)) d {h with count:=h.count-1} (pre++(s.1,b)::post) g (n+1)/\aT (pre++(s.1,b)::post)=fO d k (aT (pre++s::post)):=by
 have f:s∈pre++s::post:=av;have Ia:=K.k.inv s f;have P:=Ue (k:=k) Ia;rw[u] at P;obtain⟨l,m⟩:=P.yes rfl;have e:aT (pre++(s.1,b)::post)=fO d k (aT (pre++s::post)):=by
  rw[K.k.del rfl o m,qd,oU];simp only;rw[l]
 have i:sn d s.1 post (aX b):=by
  rw[l];exact(K.k.keys pre s post rfl).del
 have F:=K.fin;have j:=QW (d:=d) (k:=k) (L:=aT (pre++s::post)) (by
  obtain⟨t,y,q⟩:=m;exact⟨t,by rw[qd,oU];simp[y],q⟩)
 obtain⟨C,D⟩:=K.k.base s f;obtain⟨G,B⟩:=Nu (b:=b) Ia.spec P.inv.spec;have E:b.base=s.2.base:=P.base;refine⟨⟨K.k.over af rfl rfl rfl P.inv P.base i,r,?_,?_,K.Nq,?_,?_,K.Ns,?_,?_,?_,?_,K.xx,K.zu⟩,e⟩
 ·rw[e];simp only;rw[K.cnt];omega
 ·have:=K.cn;rw[e];omega
 ·have:=K.Nr;simp only;omega
 ·have:=K.an;simp at this⊢;omega
 ·have:=K.Nt;simp only;omega
 ·simp only;omega
 ·exact Gv _ _ (fun x z=>by have:=B x z;omega) (by have:=K.mem;omega)
 ·exact Yp
theorem aek (d:DS):∀(f:List DI) (h:Hd) (e:List Wr) (b:List UInt8) (p:Int),(jx d f h e b p).1.count=h.count/\(jx d f h e b p).1.kG=h.kG/\(jx d f h e b p).1.splits=h.splits/\h.fin<=(jx d f h e b p).1.fin/\((jx d f h e b p).1.root=h.root∨(h.fin<(jx d f h e b p).1.root/\(jx d f h e b p).1.root<=(jx d f h e b p).1.fin))
 | [],h,e,b,p=>by
   unfold jx;split
   ·exact Kh
   ·exact⟨rfl,rfl,rfl,fj,.inr ⟨fj,fj⟩⟩
 | s::rest,h,e,b,p=>by
   unfold jx;simp only;split
   ·exact Kh
   split
   ·exact Kh
   split
   ·exact Kh
   split
   ·exact⟨rfl,rfl,rfl,fj,.inl rfl⟩
   split
   ·exact⟨rfl,rfl,rfl,fj,.inl rfl⟩
   ·obtain⟨i,j,l,m,g⟩:=aek d rest {h with fin:=h.fin+1} (e++[(s.1,dH d.interval {(qR (kT s.2.2 (s.2.1:Int) b p).1).1 with next:=h.fin+1}),(h.fin+1,dH d.interval (qR (kT s.2.2 (s.2.1:Int) b p).1).2.1)]) (qR (kT s.2.2 (s.2.1:Int) b p).1).2.2.1 (h.fin+1);simp only at m g;refine⟨i,j,l,af,?_⟩;rcases g with g | ⟨g,n⟩
    ·exact .inl g
    ·exact .inr ⟨af,n⟩
def jE (d:DS) (h:Hd) (a:Ar) (r:List UInt8) (x:Ar×Ar):Hd:=
 {h with count:=h.count+(if(eJ d (aX a) (ax d r)).isSome then 0 else 1),fin:=h.fin+d.aN+1,splits:=h.splits+(if a.ak.length<x.1.ak.length+x.2.ak.length then 1 else 0),kG:=h.kG+1}
theorem dL.full {M:List (List UInt8)} {d:DS} {h:Hd} {dn:List Int} {n:Nat} {pre:List aQ} {s:aQ} {post:List aQ} (K:dL M d h (pre++s::post) dn n) (hn:n<100) {r:List UInt8} (hr:cV d r=true) (h1:bl (ax d r) s.1=false) (h2:post≠[]->bl (ax d r) (nj post)=true) (hu:kY d s.2=0)
 {x:Ar×Ar} (hx:uB d s.2 (h.fin+1) r=x):
 ∃W V,G3 M d h (jE d h s.2 r x) (gK s.2) (h.fin+1) (iy (pre++s::post)) dn W V/\((fZ d s.2 x.1++gQ d x.2++W).map (·.1)).Nodup/\(∀i:List Wr,i.Perm (fZ d s.2 x.1++gQ d x.2++W)->∃R,dL (fV M i) d V (pre++(s.1,x.1)::(gK s.2,x.2)::post) R (n+1))/\
  aT (pre++(s.1,x.1)::(gK s.2,x.2)::post)=cw d r (aT (pre++s::post)):=by
 have O:s∈pre++s::post:=av;have U:=K.k.inv s O;obtain⟨_,_,_,_,_,_,_,ar2,ar8⟩:=iM U.spec.keyed;have hfin:=K.fin;have tq:=K.n0;obtain⟨b1,b2⟩:=K.k.base s O;have hbase:eX (h.fin+1)=true:=by
  exact Ky
 have H:=Nn U hr hbase hu;rw[hx] at H;obtain⟨Ug,hh5⟩:=K.height;have Y:=K.k.keys pre s post rfl;obtain⟨Uc,lo2⟩:=K.k.Bw (pre:=pre) (s:=s) (post:=post) rfl;have T:bl s.1 (gK s.2)=true:=by
  obtain⟨t,ht,hk⟩:=H.lne;exact FH (Y t ht).1 hk
 have hm1:post≠[]->bl (gK s.2) (nj post)=true:=fun D=>by
  obtain⟨t,ht,hk⟩:=H.rne;exact FH hk ((Y t ht).2 D)
 have xo:∀y∈iy (pre++s::post),y.1≠gK s.2:=fun y f e=>by
  unfold iy at f;obtain⟨t,ht,rfl⟩:=fT.1 f;simp only at e;rcases(show t∈pre∨t=s∨t∈post by simpa using ht) with m | rfl | m
  ·have:=iN (Uc t m) T;rw[e] at this;exact lZ this rfl
  ·rw[e] at T;exact lZ T rfl
  ·cases post with
   | nil=>cases m
   | cons u B=>
     have S:bl (gK s.2) u.1=true:=hm1 av;rcases fD.1 m with rfl | m
     ·rw[e] at S;exact lZ S rfl
     ·have C:=(K.k.Bw (pre:=pre++[s]) (s:=u) (post:=B) av).2 t m;have:=iN S C;rw[e] at this;exact lZ this rfl
 obtain⟨W,V,A⟩:=apk (g:=jE d h s.2 r x) (b:=gK s.2) (base:=h.fin+1) K.k.tree rfl rfl (by simp only[jE];omega) hh5 H.aee H.aef xo (by unfold gA;rw[bM af,bM af];rfl) (by simp only[jE];omega) (by simp only[jE];omega)
  (by have:=K.xx;have:=K.zu;unfold gA;rw[bM af,bM af];rfl)
 obtain⟨kc,ka,ks,kf,E⟩:=aek d (m7 M h d (gK s.2) h.height.toNat) (jE d h s.2 r x) [] (gK s.2) (h.fin+1);rw[A.go] at kc ka ks kf E;simp only at kc ka ks kf E;have A7:=A.apj;have hl1:x.1.base=s.2.base:=H.bl;have hr1:x.2.base=h.fin+1:=H.br;have eg:(jE d h s.2 r x).fin=h.fin+d.aN+1:=rfl;obtain⟨w1,w2⟩:=Nu U.spec H.il.spec;obtain⟨p1,p2⟩:=Gx H.ir.spec;have ep:gQ d x.2=fX d x.2:=by unfold gQ;rw[aC (lD.2 H.ir.spec)]
 have F:∀y∈W,(y.1∈dn/\y.1<=h.fin)∨(h.fin+d.aN+1<y.1/\y.1<=V.fin):=fun y f=>(A.ok.pages y f).imp (fun m=>⟨A.way _ m,K.k.tree.bound _ (A.way _ m)⟩) id;have hnd:((fZ d s.2 x.1++gQ d x.2++W).map (·.1)).Nodup:=by
  rw[jW,jW,pY,pY];refine⟨⟨w1,by rw[ep];exact p1,fun a Z c hc e=>?_⟩,A.ok.nodup,fun a Z c hc e=>?_⟩
  ·obtain⟨y,f,rfl⟩:=fT.1 Z;obtain⟨z,hz,rfl⟩:=fT.1 hc;rw[ep] at hz;have:=w2 y f;have:=p2 z hz;omega
  ·obtain⟨z,hz,rfl⟩:=fT.1 hc;rcases iG.1 Z with Z | Z
   ·obtain⟨y,f,rfl⟩:=fT.1 Z;have:=w2 y f;rcases F z hz with⟨m,_⟩ | m
    ·have:=K.k.nodes _ m s O;omega
    ·omega
   ·obtain⟨y,f,rfl⟩:=fT.1 Z;rw[ep] at f;have:=p2 y f;rcases F z hz with⟨_,m⟩ | m<;>omega
 have L:aT (pre++(s.1,x.1)::(gK s.2,x.2)::post)=cw d r (aT (pre++s::post)):=by
  rw[K.k.put rfl h1 h2,qd,oU,oU,<-H.aed];simp
 refine⟨W,V,A,hnd,fun i hpm=>?_,L⟩;have j:∀y,y∈i↔(y∈fZ d s.2 x.1∨y∈fX d x.2∨y∈W):=fun y=>by
  rw[hpm.mem_iff,ep];simp
 have G:∀y∈i,0<=y.1/\y.1<=V.fin:=fun y f=>by
  rcases(j y).1 f with m | m | m
  ·have:=w2 y m;omega
  ·have:=p2 y m;omega
  ·rcases A.ok.pages y m with S | S
   ·have C:=A.way _ S;have:=K.k.tree.bound _ C;have:=(Np (T9 K.k.tree.sub _ C)).1;omega
   ·simp only[eg] at S;omega
 have G0:(i.map (·.1)).Nodup:=(hpm.map _).nodup_iff.2 hnd;have arf:V.fin<=9+16*((n+1:Nat):Int):=by rw[eg] at A7;omega
 have hok:∀y∈i,aF (fV M i) y.1=(y.2,0):=Mi _ _ G0 fun y f=>by
  have:=G y f;omega
 have X:∀q,(aF M q).2=0->(∀y∈i,y.1≠q)->aF (fV M i) q=aF M q:=fun q h0 D=>Gt _ _ (Np h0).2 D;have Ua:oT (fV M i) d x.1:=by
  refine(K.k.holds s O).change U.spec H.il.spec hl1 (W:=i) (fun y f=>(j y).2 (.inl (by rw[IK U.spec H.il.spec];exact f))) (fun y f m S=>?_) hok fun q m S h0 D=>X q h0 D;rw[<-IK U.spec H.il.spec];rcases(j y).1 f with C | C | C
  ·exact C
  ·have:=p2 y C;omega
  ·rcases F y C with⟨h6,_⟩ | h6
   ·have:=K.k.nodes _ h6 s O;omega
   ·omega
 have Ub:oT (fV M i) d x.2:=fun y f=>hok y ((j y).2 (.inr (.inl f)));have I:sn d s.1 post (cw d r (aX s.2)):=Y.put h1 h2;have N:=H.aed;obtain⟨R,KI⟩:=K.k.divide (M':=fV M i) (h':=V) (l:=x.1) (r:=x.2) eg A rfl rfl rfl H.il hl1 H.ir hr1
  (fun y f=>⟨(I y (by rw[<-N];exact oM _ f)).1,H.low y f⟩)
  (fun y f=>⟨H.high y f,(I y (by rw[<-N];exact nK _ f)).2⟩) T hm1 Ua Ub (fun y f=>hok y ((j y).2 (.inr (.inr f))))
  (fun q hq h0 hout D=>X q h0 fun y f e=>by
    rcases(j y).1 f with C | C | C
    ·have:=w2 y C;omega
    ·have:=p2 y C;omega
    ·exact D y C e)
 have J:=present K.k rfl h1 h2;refine⟨R,KI,hn,?_,?_,?_,?_,?_,?_,?_,arf,?_,?_,?_,?_⟩
 ·rw[L,J,kc];simp only[jE];rw[K.cnt]
 ·have:=K.cn;rw[L];split at J<;>omega
 ·rw[ka];have:=K.Nq;simp only[jE];omega
 ·rw[ka];have:=K.Nr;simp only[jE];omega
 ·have:=K.an;simp at this⊢;omega
 ·rw[ks];have:=K.Ns;simp only[jE];split<;>omega
 ·rw[ks];have:=K.Nt;simp only[jE];split<;>omega
 ·exact Gv _ _ (fun y f=>by have:=G y f;omega) (by have:=K.mem;omega)
 ·refine Kz (fun s=>s.length<=512) av _ (fun y f=>?_) _ K.short;rcases(j y).1 f with C | C | C
  ·exact(CF U.spec H.il.spec).2 y C
  ·exact(Nc H.ir.spec).2 y C
  ·have h6:=A.ok.len y C;have:=oB U.spec.size;omega
 ·have:=K.xx;have:=K.zu;rcases E with E | E
  ·rw[E];exact K.xx
  ·rw[eg] at E;omega
 ·have:=K.xx;have:=K.zu;rcases E with E | E
  ·rw[E];simp only[jE];omega
  ·exact E.2
def qg (d:DS):Hd:=⟨0,0,1+d.aN,1,0,0,1⟩
theorem arh (b:Int):aX (gS b)=[]:=rfl
theorem dL.start {d:DS} (g:dA d=true):dL (fV [[]] (gQ d (gS 1))) d (qg d) [([],gS 1)] [] 0:=by
 obtain⟨_,_,_,_,_,_,_,n,o⟩:=iM g;have I:=Rd g (base:=1) aq;obtain⟨C,j⟩:=Gx I.spec;have t:gQ d (gS 1)=fX d (gS 1):=by unfold gQ;rw[aC (lD.2 I.spec)]
 have l:(gS 1).base=1:=rfl;rw[l] at j;rw[t];refine⟨⟨⟨g,Ct _,⟨⟨[],rfl⟩,rfl⟩,Th _ _,rfl,fun x f=>?_,List.nodup_nil,fun q i=>by cases i⟩,fun s b=>?_,fun s b=>?_,fun s b=>?_,fun pre s post e=>?_,Th _ _,fun q i=>by cases i⟩,aq,rfl,aq,by simp[qg],by simp[qg],aq,by simp[qg],by simp[qg],?_,?_,?_,by simp[qg],?_⟩
 ·simp[iy] at f;subst f;simp;omega
 ·simp at b;subst b;exact I
 ·simp at b;subst b;exact fun x f=>Mi _ _ C (fun y z=>by have:=j y z;omega) x f
 ·simp at b;subst b;simp only[l,qg];omega
 ·have u:pre=[]:=by
   cases pre with
   | nil=>rfl
   | cons a B=>simp at e
  subst u;simp at e;obtain⟨rfl,rfl⟩:=e;intro r m;rw[arh] at m;cases m
 ·simp only[qg];omega
 ·refine Gv _ _ (fun x f=>by have:=j x f;omega) av
 ·exact Kz (fun s=>s.length<=512) av _ (Nc I.spec).2 _ av
 ·simp only[qg];omega
end aD

/- A part of the proof. -/
import Derived.Test.YteninnkbmoimgaaGreatDoorZw
import GoSem.Op.String
set_option linter.unusedSimpArgs false
set_option linter.unusedVariables false
set_option maxRecDepth 100000
set_option maxHeartbeats 16000000
namespace aD
abbrev bl:=Go.Op.bytesLess
theorem uQ (a:List UInt8):bl a []=false:=by cases a<;>rfl
theorem sQ (a b:UInt8) (x y:List UInt8):bl (a::x) (b::y)=(decide (a<b)||(a==b&&bl x y)):=rfl
theorem rI:∀(a:List UInt8),bl a a=false
 | []=>rfl
 | a::l=>by rw[sQ,rI l];simp
theorem iN:∀{a b c:List UInt8},bl a b=true->bl b c=true->bl a c=true
 | _,_,[],_,h=>EX
 | _,[],_::_,h,_=>EX
 | [],_::_,_::_,_,_=>rfl
 | a::x,b::y,c::z,e,d=>by
   rw[sQ] at e d⊢;simp only[pL,gu,eu,jT] at e d⊢;rcases e with e | ⟨rfl,e⟩
   ·rcases d with d | ⟨rfl,d⟩
    ·exact .inl (UInt8.lt_trans e d)
    ·exact .inl e
   ·rcases d with d | ⟨rfl,d⟩
    ·exact .inl d
    ·exact .inr ⟨rfl,iN e d⟩
theorem Au:∀(a b:List UInt8),bl a b=true∨a=b∨bl b a=true
 | [],[]=>.inr (.inl rfl)
 | [],_::_=>.inl rfl
 | _::_,[]=>.inr (.inr rfl)
 | a::x,b::y=>by
   rw[sQ,sQ];simp only[pL,gu,eu,jT,mR];by_cases h:a=b
   ·subst h;rcases Au x y with h | h | h
    ·exact .inl (.inr ⟨rfl,h⟩)
    ·exact .inr (.inl ⟨rfl,h⟩)
    ·exact .inr (.inr (.inr ⟨rfl,h⟩))
   ·have h':a.toNat≠b.toNat:=fun e=>h (CI.1 e);rcases Nat.lt_or_gt_of_ne h' with d | d
    ·exact .inl (.inl (QK.2 d))
    ·exact .inr (.inr (.inl (QK.2 d)))
theorem sR {a b:List UInt8} (h:bl a b=true):bl b a=false:=by
 cases h2:bl b a with
 | false=>rfl
 | true=>have:=iN h h2;rw[rI] at this;cases this
theorem lZ {a b:List UInt8} (h:bl a b=true):a≠b:=fun e=>by subst e;rw[rI] at h;cases h
theorem QL {a b:List UInt8} (h:bl a b=false) (e:a≠b):bl b a=true:=by
 rcases Au a b with d | d | d
 ·rw[h] at d;cases d
 ·exact absurd d e
 ·exact d
theorem FH {a b c:List UInt8} (e:bl b a=false) (d:bl b c=true):bl a c=true:=by
 rcases Au a b with h | h | h
 ·exact iN h d
 ·subst h;exact d
 ·rw[e] at h;cases h
theorem yF {a b c:List UInt8} (d:bl a b=true) (e:bl c b=false):bl a c=true:=by
 rcases Au b c with h | h | h
 ·exact iN d h
 ·subst h;exact d
 ·rw[e] at h;cases h
theorem FI {a:List UInt8} (h:a≠[]):bl [] a=true:=by cases a with
 | nil=>exact absurd rfl h
 | cons=>rfl
def eO:List UInt8->List UInt8->Nat
 | a::x,b::y=>if a=b then eO x y+1 else 0
 | _,_=>0
theorem CX (b:List UInt8):eO [] b=0:=by cases b<;>rfl
theorem Av:∀(a b:List UInt8),eO a b<=a.length/\eO a b<=b.length
 | [],b=>by rw[CX];simp
 | _::_,[]=>by simp[eO]
 | a::x,b::y=>by
   unfold eO;split
   ·have:=Av x y;simp;omega
   ·simp
theorem ZJ:∀(a b:List UInt8),a.take (eO a b)=b.take (eO a b)
 | [],b=>by rw[CX];simp
 | _::_,[]=>by simp[eO]
 | a::x,b::y=>by
   unfold eO;split
   ·rename_i h;subst h;simp[ZJ x y]
   ·simp
def uc (a b:List UInt8):List UInt8:=if bl a b=true then b.take (eO a b+1) else[]
theorem QM:∀{a b:List UInt8},bl a b=true->eO a b<b.length
 | _,[],h=>EX
 | [],b::y,_=>by simp[eO]
 | a::x,b::y,h=>by
   unfold eO;split
   ·rename_i e;subst e;rw[sQ] at h;simp at h;have:=QM h;simp;omega
   ·simp
theorem QN:∀{a b:List UInt8},bl a b=true->bl a (b.take (eO a b+1))=true
 | _,[],h=>EX
 | [],b::y,_=>by simp[eO,bl];rfl
 | a::x,b::y,h=>by
   unfold eO;split
   ·rename_i e;subst e;rw[sQ] at h;simp at h;have:=QN h;rw[cY,sQ,this];simp
   ·rename_i e;rw[sQ] at h;simp[e] at h;rw[cY,sQ];simp[h]
theorem QO:∀(b:List UInt8) (n:Nat),bl b (b.take n)=false
 | [],n=>by simp[uQ]
 | b::y,0=>by simp[uQ]
 | b::y,n+1=>by rw[cY,sQ,QO y n];simp
theorem akN {a b:List UInt8} (h:bl a b=true):uc a b≠[]/\bl a (uc a b)=true/\bl b (uc a b)=false/\(uc a b).length<=b.length:=by
 have d:=QM h;unfold uc;rw[aC h];refine⟨fun e=>?_,QN h,QO _ _,aY⟩;exact Pf
abbrev aG:=List UInt8×Int
structure Nd where
 level:Int
 next:Int
 ai:List aG
deriving DecidableEq
def gA (n:Int):Bool:=decide (1<=n)&&decide (n<=16777216)
def cR:List UInt8->List aG->Bool
 | _,[]=>true
 | b,x::L=>gA x.2&&(x.1.isEmpty==L.isEmpty)&&decide (x.1.length<=32)&&(L.isEmpty||bl b x.1)&&cR x.1 L
def eC (n:Nd):Bool:=decide (1<=n.ai.length)&&decide (n.ai.length<=120)&&decide (0<=n.level)&&decide (n.level<=6)&&decide (0<=n.next)&&decide (n.next<=16777216)&&cR [] n.ai
def dZ:List UInt8->List aG->Nat
 | _,[]=>0
 | b,x::L=>6+(x.1.length-eO b x.1)+dZ x.1 L
def ja (n:Nd):Nat:=if eC n then 6+dZ [] n.ai else 0
def kS (size:Int) (n:Nd):Bool:=cQ size&&eC n&&decide ((ja n:Int)<=size)
def j3 (key:List UInt8):List aG->Option Nat
 | []=>none
 | x::L=>if bl key x.1=true then some 0 else(j3 key L).map (·+1)
def bK (L:List aG) (key:List UInt8):Nat:=(j3 key L).getD (L.length-1)
theorem Aw:∀(L:List aG) (b:List UInt8) (k:Nat),(∀x∈L,x.1.length<=k)->dZ b L<=L.length*(6+k)
 | [],_,_,_=>by simp[dZ]
 | x::L,b,k,h=>by
   have e:=Aw L x.1 k (fun y d=>h y (by simp[d]));have f:=h x av;rw[dZ,gW,Nat.add_mul];omega
theorem K5:∀(L:List aG) (b:List UInt8),cR b L=true->∀x∈L,x.1.length<=32/\gA x.2=true
 | [],_,_,x,h=>jQ
 | y::L,b,h,x,d=>by
   rw[cR] at h;simp only[eu,gu] at h;rcases fD.1 d with rfl | d
   ·exact⟨h.1.1.2,h.1.1.1.1⟩
   ·exact K5 L y.1 h.2 x d
structure Ar where
 base:Int
 nd:Nd
 ak:List aB
deriving DecidableEq
def dA (d:DS):Bool:=cr d&&decide (d.org=3)
def eX (n:Int):Bool:=decide (1<=n)&&decide (n<=16777208)
def cV (d:DS) (s:List UInt8):Bool:=decide (d.dm+d.bV<=s.length)&&decide ((s.length:Int)<=d.length)
def ax (d:DS) (s:List UInt8):List UInt8:=(s.drop d.dm.toNat).take d.bV.toNat
def iO (base aN:Int):List Int->List aG->Bool
 | _,[]=>true
 | used,x::L=>!(used.contains x.2)&&decide (base<x.2)&&decide (x.2<=base+aN)&&iO base aN (x.2::used) L
def qO (d:DS) (base:Int) (n:Nd):Bool:=eX base&&kS d.interval n&&decide (n.level=0)&&decide ((n.ai.length:Int)<=d.aN)&&iO base d.aN [] n.ai
def sH (b:Option (List UInt8)) (k:List UInt8):Bool:=match b with
 | none=>true
 | some p=>bl p k
def jb (d:DS) (low below:List UInt8):Option (List UInt8)->aB->Bool
 | _,[]=>true
 | b,s::L=>cV d s&&!bl (ax d s) low&&(below.isEmpty||bl (ax d s) below)&&sH b (ax d s)&&jb d low below (some (ax d s)) L
def fC (d:DS) (many:Bool):List UInt8->List aB->List aG->Bool
 | _,[],[]=>true
 | low,L::R,x::E=>!(L.isEmpty&&many)&&eH d.interval L&&jb d low x.1 none L&&fC d many x.1 R E
 | _,_,_=>false
def dD (d:DS) (a:Ar):Bool:=dA d&&qO d a.base a.nd&&decide (a.ak.length=a.nd.ai.length)&&fC d (decide (1<a.ak.length)) [] a.ak a.nd.ai
def aX (a:Ar):aB:=a.ak.flatten
def cw (d:DS) (r:List UInt8):aB->aB
 | []=>[r]
 | s::L=>if bl (ax d s) (ax d r)=true then s::cw d r L else if ax d s=ax d r then r::L else r::s::L
def fO (d:DS) (k:List UInt8):aB->aB
 | []=>[]
 | s::L=>if ax d s=k then L else s::fO d k L
def Ay (d:DS):Option (List UInt8)->aB->Bool
 | _,[]=>true
 | b,s::L=>sH b (ax d s)&&Ay d (some (ax d s)) L
theorem iM {d:DS} (h:dA d=true):cr d=true/\d.org=3/\d.length<=d.interval/2-8/\0<=d.dm/\1<=d.bV/\d.bV<=d.interval/16/\d.dm+d.bV<=d.length/\2<=d.aN/\d.aN<=8:=by
 unfold dA at h;simp only[eu,gu] at h;have b:=h.1;unfold cr QI at b;simp[h.2] at b;refine⟨h.1,h.2,?_⟩;omega
theorem CY {d:DS} {s:List UInt8} (h:cV d s=true):d.dm+d.bV<=s.length/\(s.length:Int)<=d.length:=by
 unfold cV at h;simpa using h
theorem QS {d:DS} {s:List UInt8} (b:dA d=true) (h:cV d s=true):((ax d s).length:Int)=d.bV:=by
 have e:=iM b;have f:=CY h;unfold ax;rw[gF,eU];omega
theorem akO {d:DS} {s:List UInt8} (f:dA d=true) (h:cV d s=true):ax d s≠[]:=fun e=>by
 have g:=iM f;have b:=QS f h;rw[e] at b;simp at b;omega
def jK (n:Nat):aB->Bool
 | y::z::_=>y.length==n&&z.length==n
 | _=>false
def js:aB->Nat
 | []=>0
 | x::L=>js L+if jK x.length L then 0 else 3
theorem ZK:∀(L:aB),(L=[]/\cU L=[])∨∃n b r,cU L=(n,b)::r/\1<=n/\∀k,(jK k L=true↔b=k/\2<=n)
 | []=>.inl ⟨rfl,rfl⟩
 | x::L=>.inr (by
   rw[cU];rcases ZK L with⟨rfl,h⟩ | ⟨n,b,r,h,g,i⟩
   ·rw[h];exact⟨1,x.length,[],rfl,af,fun k=>by simp[jK]⟩
   ·rw[h];have f:∃y d,L=y::d:=by
     cases L with
     | nil=>rw[cU] at h;cases h
     | cons y d=>exact⟨y,d,rfl⟩
    obtain⟨y,d,rfl⟩:=f;have j:b=y.length:=by
     rw[cU] at h;split at h
     ·injection h with h _;injection h with _ h;exact h.symm
     ·split at h
      ·rename_i e;injection h with h _;injection h with _ h;rw[<-h,e]
      ·injection h with h _;injection h with _ h;exact h.symm
    simp only;split
    ·rename_i e;refine⟨n+1,b,r,rfl,af,fun k=>?_⟩;simp only[jK,eu,jT];omega
    ·rename_i e;refine⟨1,x.length,_,rfl,af,fun k=>?_⟩;simp only[jK,eu,jT];omega)
theorem ZL:∀(L:aB),(fK L).length=js L
 | []=>rfl
 | x::L=>by
   have g:=ZL L;rw[FF] at g⊢;rw[js,<-g,cU];rcases ZK L with⟨rfl,h⟩ | ⟨n,j,r,h,l,i⟩
   ·rw[h];simp[nE,jK]
   ·rw[h];have b:=i x.length;simp only;split
    ·rename_i e;by_cases f:2<=n
     ·rw[aC (b.2 ⟨e,f⟩)];simp[nE];omega
     ·rw[aA (fun d=>f (b.1 d).2)];simp[nE];omega
    ·rename_i e;rw[aA (fun d=>e (b.1 d).1)];simp[nE];omega
theorem K8 (A B:aB):cM (A++B)=cM A+cM B:=by simp[cM]
theorem akP {n:Nat} {A:aB} (B:aB) (h:jK n A=true):jK n (A++B)=true:=by
 match A,h with
 | y::z::L,h=>exact h
theorem akQ {n:Nat} {A:aB} (B:aB) (h:2<=A.length):jK n (A++B)=jK n A:=by
 match A,h with
 | y::z::L,_=>rfl
theorem ZM:∀(A B:aB),js (A++B)<=js A+js B
 | [],B=>by simp[js]
 | x::A,B=>by
   have b:=ZM A B;simp only[bE,js];by_cases h:jK x.length A=true
   ·rw[aC h,aC (akP B h)];omega
   ·rw[aA h];split<;>omega
theorem ZN:∀(A B:aB),js A+js B<=js (A++B)+3*min A.length 2
 | [],B=>by simp[js]
 | x::A,B=>by
   have d:=ZN A B;simp only[bE,js,gW];by_cases b:2<=A.length
   ·rw[akQ B b];omega
   ·have:jK x.length A=false:=by
     match A,b with
     | [],_=>rfl
     | [_],_=>rfl
     | _::_::_,h=>simp at h
    rw[this];refine ET ?_;split<;>omega
theorem oA (L:aB):cB L=4+js L+cM L:=by unfold cB;rw[ZL]
theorem ZO (A B:aB):cB (A++B)+4<=cB A+cB B:=by
 rw[oA,oA,oA,K8];have:=ZM A B;omega
theorem ZP (A B:aB):cB A+cB B<=cB (A++B)+10:=by
 rw[oA,oA,oA,K8];have:=ZN A B;omega
theorem akR (r:List UInt8):cB [r]=7+r.length:=by rw[oA];simp[js,jK,cM]
theorem akS {size:Int} {A B:aB} {r:List UInt8} (t:cQ size=true) (o:fU (A++r::B)=true) (I:(r.length:Int)<=size/2-8) (h:(cB A+cB B:Int)<=size+10) (y:(cB A:Int)<=size) (D:(cB B:Int)<=size) (q:eH size (A++r::B)=false):
 ∃m,1<=m/\m<(A++r::B).length/\eH size ((A++r::B).take m)=true/\eH size ((A++r::B).drop m)=true:=by
 obtain⟨n,rfl,H⟩:=yC t;have b:fU A=true/\qI r=true/\fU B=true:=by
  unfold fU at *;simpa using o
 have j:=akR r;have z:4<=cB A:=by rw[oA];omega
 have E:4<=cB B:=by rw[oA];omega
 have d:∀L:aB,fU L=true->cB L<=n->eH n L=true:=fun L j l=>by
  unfold eH;rw[t,j];simp;omega
 have g:∀X Y:aB,fU X=true->fU Y=true->fU (X++Y)=true:=fun X Y j l=>by unfold fU at *;rw[List.all_append,j,l];rfl
 have i:fU [r]=true:=by unfold fU;simp[b.2.1]
 by_cases f:cB A<=cB B
 ·have l:=ZO A [r];have C:B≠[]:=fun e=>by
   subst e;have:A=[]:=by
    cases A with
    | nil=>rfl
    | cons x A=>rw[oA,oA] at f;simp[js,cM] at f;have:=b.1;simp[fU,qI] at this;omega
   subst this;rw[bQ,d [r] (by simpa using o) (by rw[j];omega)] at q;cases q
  have G:=uY.2 C;refine⟨A.length+1,af,aY,?_,?_⟩
  ·have e:(A++r::B).take (A.length+1)=A++[r]:=by simp[List.take_append,mC]
   rw[e];exact d _ (g A [r] b.1 i) af
  ·have e:(A++r::B).drop (A.length+1)=B:=by simp[List.drop_append]
   rw[e];exact d _ b.2.2 af
 ·have l:=ZO [r] B;have u:A≠[]:=fun e=>by subst e;rw[oA] at f;simp[js,cM] at f;omega
  have F:=uY.2 u;refine⟨A.length,af,av,?_,?_⟩
  ·rw[List.take_left];exact d _ b.1 af
  ·rw[List.drop_left];exact d _ (g [r] B i b.2.2) (by simp at l⊢;omega)
def dN (d:DS) (L:aB):Prop:=L.Pairwise fun x y=>bl (ax d x) (ax d y)=true
theorem ZQ (d:DS):∀(L:aB) (f:Option (List UInt8)),Ay d f L=true↔(∀p,f=some p->∀s∈L,bl p (ax d s)=true)/\dN d L
 | [],f=>by simp[Ay,dN]
 | s::L,f=>by
   rw[Ay,eu,ZQ d L];unfold dN;rw[lM];constructor
   ·rintro⟨g,i,j⟩;refine⟨fun p b t e=>?_,i _ rfl,j⟩;subst b;rcases fD.1 e with rfl | e
    ·exact g
    ·exact iN g (i _ rfl t e)
   ·rintro⟨g,i,j⟩;refine⟨?_,fun p b t e=>?_,j⟩
    ·cases f with
     | none=>rfl
     | some p=>exact g p rfl s av
    ·injection b with b;subst b;exact i t e
def Az (d:DS) (low below:List UInt8) (s:List UInt8):Prop:=cV d s=true/\bl (ax d s) low=false/\(below=[]∨bl (ax d s) below=true)
theorem ZR (d:DS) (low below:List UInt8):∀(L:aB) (b:Option (List UInt8)),jb d low below b L=true↔(∀s∈L,Az d low below s)/\Ay d b L=true
 | [],b=>by simp[jb,Ay]
 | s::L,b=>by
   rw[jb,Ay];simp only[eu,ZR d low below L,fD,forall_eq_or_imp,Az];simp only[La,pL,uZ];constructor
   ·rintro⟨⟨⟨⟨e,f⟩,g⟩,i⟩,j,l⟩;exact⟨⟨⟨e,f,g⟩,j⟩,i,l⟩
   ·rintro⟨⟨⟨e,f,g⟩,j⟩,i,l⟩;exact⟨⟨⟨⟨e,f⟩,g⟩,i⟩,j,l⟩
theorem akT {d:DS} {low below:List UInt8} {L:aB}:jb d low below none L=true↔(∀s∈L,Az d low below s)/\dN d L:=by
 rw[ZR,ZQ];simp
theorem ud {d:DS} {r s:List UInt8}:∀{L:aB},s∈cw d r L->s=r∨s∈L
 | [],h=>by simp[cw] at h;exact .inl h
 | t::L,h=>by
   rw[cw] at h;split at h
   ·rcases fD.1 h with rfl | h
    ·exact .inr av
    ·rcases ud h with h | h
     ·exact .inl h
     ·exact .inr (by simp[h])
   ·split at h
    ·rcases fD.1 h with rfl | h
     ·exact .inl rfl
     ·exact .inr (by simp[h])
    ·rcases fD.1 h with rfl | h
     ·exact .inl rfl
     ·exact .inr h
theorem Lb {d:DS} {r:List UInt8}:∀{L:aB},dN d L->dN d (cw d r L)
 | [],_=>by simp[cw,dN]
 | t::L,h=>by
   unfold dN at h;rw[lM] at h;rw[cw];split
   ·rename_i h1;refine lM.2 ⟨fun s b=>?_,Lb h.2⟩;rcases ud b with rfl | b
    ·exact h1
    ·exact h.1 s b
   ·rename_i h1;split
    ·rename_i e;exact lM.2 ⟨fun s b=>by rw[<-e];exact h.1 s b,h.2⟩
    ·rename_i e;have f:bl (ax d r) (ax d t)=true:=QL jP e;refine lM.2 ⟨fun s b=>?_,lM.2 h⟩;rcases fD.1 b with rfl | b
     ·exact f
     ·exact iN f (h.1 s b)
theorem Lc {d:DS} {r:List UInt8} {B:aB}:∀{A:aB},(∀s∈A,bl (ax d s) (ax d r)=true)->cw d r (A++B)=A++cw d r B
 | [],_=>rfl
 | s::A,h=>by
   rw[bE,cw,aC (h s av),Lc (fun t b=>h t (by simp[b]))];rfl
theorem Ld {d:DS} {r:List UInt8} {B:aB} (b:∀s∈B,bl (ax d r) (ax d s)=true):∀{A:aB},cw d r (A++B)=cw d r A++B
 | []=>by
   cases B with
   | nil=>rfl
   | cons s B=>
     have h:=b s av;rw[bQ,show cw d r (s::B)=(if bl (ax d s) (ax d r)=true then s::cw d r B else if ax d s=ax d r then r::B else r::s::B) from rfl,aA (by rw[sR h];simp),aA (fun e=>lZ h e.symm)];rfl
 | s::A=>by
   rw[bE,cw,cw];split
   ·rw[Ld b];rfl
   ·split<;>rfl
theorem QT {d:DS} {k:List UInt8} {B:aB}:∀{A:aB},(∀s∈A,ax d s≠k)->fO d k (A++B)=A++fO d k B
 | [],_=>rfl
 | s::A,h=>by
   rw[bE,fO,aA (h s av),QT (fun t b=>h t (by simp[b]))];rfl
theorem QU {d:DS} {k:List UInt8} {B:aB}:∀{A:aB},(∃s∈A,ax d s=k)->fO d k (A++B)=fO d k A++B
 | [],h=>jQ
 | s::A,h=>by
   rw[bE,fO,fO];split
   ·rfl
   ·rename_i h1;rw[QU (by
     exact Pb)]
    rfl
theorem FJ (d:DS) (k:List UInt8):∀(L:aB),(fO d k L).Sublist L
 | []=>List.Sublist.slnil
 | s::L=>by
   rw[fO];split
   ·exact List.sublist_cons_self _ _
   ·exact(FJ d k L).cons_cons s
theorem akU {d:DS} {k:List UInt8} {L:aB} (h:dN d L):dN d (fO d k L):=QV (FJ d k L) h
theorem QW {d:DS} {k:List UInt8}:∀{L:aB},(∃s∈L,ax d s=k)->(fO d k L).length+1=L.length
 | [],h=>jQ
 | s::L,h=>by
   rw[fO];split
   ·simp
   ·rename_i h1;have:=QW (d:=d) (k:=k) (L:=L) (by
     exact Pb)
    simp;omega
def eJ (d:DS) (R:aB) (k:List UInt8):Option (List UInt8):=R.find? fun s=>ax d s==k
theorem ZS {d:DS} {R:aB} (l:dN d R) {k s:List UInt8}:eJ d R k=some s↔s∈R/\ax d s=k:=by
 unfold eJ;constructor
 ·intro h;have h1:=CZ h;exact⟨FK h,jP⟩
 ·rintro⟨h1,f⟩;cases h:R.find? fun s=>ax d s==k with
  | none=>rw[rJ] at h;exact absurd f (by simpa using h s h1)
  | some t=>
    have g:=CZ h;have o:=FK h;simp at g;by_cases e:t=s
    ·rw[e]
    ·exfalso;unfold dN at l;rcases nT.1 h1 with⟨i,m,rfl⟩;rcases nT.1 o with⟨j,n,rfl⟩;rcases C0 i j with b | b | b
     ·have:=ue.1 l i j m n b;rw[f,g,rI] at this;cases this
     ·subst b;exact e rfl
     ·have:=ue.1 l j i n m b;rw[f,g,rI] at this;cases this
theorem ZT {d:DS} {r:List UInt8}:∀(L:aB),r∈cw d r L
 | []=>by simp[cw]
 | s::L=>by
   rw[cw];split
   ·exact pQ _ (ZT L)
   ·split<;>simp
theorem ZU {d:DS} {R:aB} {k:List UInt8}:eJ d R k=none↔∀s∈R,ax d s≠k:=by
 unfold eJ;rw[rJ];simp
theorem C3 {d:DS} {r:List UInt8}:∀{R:aB},dN d R->(cw d r R).length=if(eJ d R (ax d r)).isSome then R.length else R.length+1
 | [],_=>by simp[cw,eJ]
 | s::L,h=>by
   unfold dN at h;rw[lM] at h;have e:eJ d (s::L) (ax d r)=if ax d s=ax d r then some s else eJ d L (ax d r):=by
    unfold eJ;rw[List.find?_cons];by_cases e:ax d s=ax d r
    ·simp[e]
    ·have:(ax d s==ax d r)=false:=zX;rw[this,aA e]
   rw[cw,e];split
   ·rename_i h1;rw[aA (lZ h1),gW,C3 h.2,gW];split<;>rfl
   ·rename_i h1;split
    ·simp
    ·rename_i f;have g:bl (ax d r) (ax d s)=true:=QL jP f;have:eJ d L (ax d r)=none:=ZU.2 fun t i e=>by
      have b:=iN g (h.1 t i);rw[e,rI] at b;cases b
     rw[this];simp
theorem Cq (x:aG) (E:List aG) (k:List UInt8):bK (x::E) k=if bl k x.1=true then 0 else if E=[] then 0 else bK E k+1:=by
 unfold bK;rw[j3];by_cases h:bl k x.1=true
 ·rw[aC h,aC h];rfl
 ·rw[aA h,aA h];cases hg:j3 k E with
  | some j=>
    have:E≠[]:=fun e=>by subst e;simp[j3] at hg
    rw[aA this];simp
  | none=>
    by_cases b:E=[]
    ·subst b;simp
    ·have:=uY.2 b;rw[aA b];simp;omega
theorem yG:∀{E:List aG} (k:List UInt8),E≠[]->bK E k<E.length
 | [],_,h=>absurd rfl h
 | x::E,k,_=>by
   rw[Cq];split
   ·simp
   ·split
    ·simp
    ·rename_i h;have:=yG k h;simp;omega
theorem iP {b:List UInt8} {x:aG} {E:List aG} (h:cR b (x::E)=true):gA x.2=true/\(x.1=[]↔E=[])/\x.1.length<=32/\(E≠[]->bl b x.1=true)/\cR x.1 E=true:=by
 rw[cR] at h;simp only[eu,jT,gu,pL,uZ] at h;obtain⟨⟨⟨⟨d,e⟩,f⟩,g⟩,i⟩:=h;refine⟨d,?_,f,fun j=>g.resolve_left j,i⟩;rw[<-uZ,<-uZ,e]
theorem nZ {b:List UInt8} {x:aG} {E:List aG} (d:gA x.2=true) (e:x.1=[]↔E=[]) (f:x.1.length<=32) (g:E≠[]->bl b x.1=true) (i:cR x.1 E=true):cR b (x::E)=true:=by
 rw[cR];simp only[eu,jT,gu,pL,uZ];refine⟨⟨⟨⟨d,?_⟩,f⟩,?_⟩,i⟩
 ·rw[uf,uZ,uZ];exact e
 ·by_cases h:E=[]
  ·exact .inl h
  ·exact .inr (g h)
theorem iH {d:DS} {many:Bool} {low:List UInt8} {L:aB} {R:List aB} {x:aG} {E:List aG}:fC d many low (L::R) (x::E)=true↔(L=[]->many=false)/\eH d.interval L=true/\((∀s∈L,Az d low x.1 s)/\dN d L)/\fC d many x.1 R E=true:=by
 rw[fC,<-akT];simp only[eu];constructor
 ·rintro⟨⟨⟨b,f⟩,g⟩,i⟩;exact⟨fun e=>by subst e;simpa using b,f,g,i⟩
 ·rintro⟨b,f,g,i⟩;refine⟨⟨⟨?_,f⟩,g⟩,i⟩;by_cases e:L=[]
  ·rw[b e];simp
  ·have:L.isEmpty=false:=zX;rw[this];rfl
theorem AA {d:DS} {many:Bool}:∀{V:List aB} {E:List aG} {low:List UInt8},fC d many low V E=true->V.length=E.length
 | [],[],_,_=>rfl
 | L::R,x::E,low,h=>by
   have:=AA (iH.1 h).2.2.2;simp[this]
 | [],_::_,_,h=>ko
 | _::_,[],_,h=>ko
theorem Le {d:DS} {many:Bool}:∀{V:List aB} {E:List aG} {low:List UInt8},cR low E=true->fC d many low V E=true->∀s∈V.flatten,bl (ax d s) low=false
 | [],[],_,_,_,s,h=>jQ
 | L::R,x::E,low,n,h,s,b=>by
   obtain⟨o,q,r,g,i⟩:=iP n;obtain⟨t,u,⟨j,_⟩,e⟩:=iH.1 h;rw[Ab,iG] at b;rcases b with b | b
   ·exact(j s b).2.1
   ·have l:=Le i e s b;by_cases f:E=[]
    ·subst f;have:=AA e;simp at this;subst this;simp at b
    ·have m:=g f;cases h7:bl (ax d s) low with
     | false=>rfl
     | true=>
       have:=iN h7 m;rw[l] at this;cases this
 | [],_::_,_,_,h,_,_=>ko
 | _::_,[],_,_,h,_,_=>ko
theorem FL {d:DS} {many:Bool}:∀{V:List aB} {E:List aG} {low:List UInt8},fC d many low V E=true->∀L∈V,eH d.interval L=true/\(∀s∈L,cV d s=true)/\dN d L/\(L=[]->many=false)
 | [],[],_,_,L,h=>jQ
 | L::R,x::E,low,h,M,b=>by
   obtain⟨e,f,⟨g,j⟩,i⟩:=iH.1 h;rcases fD.1 b with rfl | b
   ·exact⟨f,fun s l=>(g s l).1,j,e⟩
   ·exact FL i M b
 | [],_::_,_,h,_,_=>ko
 | _::_,[],_,h,_,_=>ko
theorem FM {d:DS}:∀{V:List aB} {E:List aG} {low:List UInt8} {m f:Bool},(f=true->m=true∨∀L∈V,L≠[])->fC d m low V E=true->fC d f low V E=true
 | [],[],_,_,_,_,_=>rfl
 | L::R,x::E,low,m,f,g,h=>by
   obtain⟨i,j,l,n⟩:=iH.1 h;refine iH.2 ⟨fun e=>?_,j,l,FM (fun e=>?_) n⟩
   ·cases hm':f with
    | false=>rfl
    | true=>
      rcases g hm' with b | b
      ·rw[i e] at b;cases b
      ·exact absurd e (b L av)
   ·rcases g e with b | b
    ·exact .inl b
    ·exact .inr fun M o=>b M (by simp[o])
 | [],_::_,_,_,_,_,h=>ko
 | _::_,[],_,_,_,_,h=>ko
theorem ZV {d:DS} {many:Bool}:∀{V:List aB} {E:List aG} {low:List UInt8},cR low E=true->fC d many low V E=true->dN d V.flatten
 | [],[],_,_,_=>by simp[dN]
 | L::R,x::E,low,n,h=>by
   obtain⟨q,i,r,u,f⟩:=iP n;obtain⟨y,z,⟨j,l⟩,b⟩:=iH.1 h;unfold dN;rw[Ab,mT];refine⟨l,ZV f b,fun s o t g=>?_⟩;have m:=Le f b t g;rcases(j s o).2.2 with e | e
   ·have:=i.1 e;subst this;have:=AA b;simp at this;subst this;simp at g
   ·exact yF e m
 | [],_::_,_,_,h=>ko
 | _::_,[],_,_,h=>ko
structure yH (d:DS) (many:Bool) (low:List UInt8) (V:List aB) (E:List aG) (k:List UInt8) (i:Nat):Prop where
 lt:i<V.length
 below:∀s∈(V.take i).flatten,bl (ax d s) k=true
 above:∀s∈(V.drop (i+1)).flatten,bl k (ax d s)=true
theorem ZW {d:DS} {many:Bool} {k:List UInt8}:∀{V:List aB} {E:List aG} {low:List UInt8},cR low E=true->fC d many low V E=true->E≠[]->yH d many low V E k (bK E k)
 | L::R,x::E,low,n,h,_=>by
   obtain⟨o,l,q,r,j⟩:=iP n;obtain⟨t,u,⟨m,y⟩,f⟩:=iH.1 h;rw[Cq];split
   ·rename_i hk;exact⟨av,av,fun s b=>yF hk (Le j f s (by simpa using b))⟩
   ·rename_i hk;split
    ·rename_i e;subst e;have:=AA f;simp at this;subst this;exact⟨av,av,av⟩
    ·rename_i e;have i:=ZW (k:=k) j f e;refine⟨by have:=i.lt;simp;omega,fun s b=>?_,fun s b=>i.above s (by simpa using b)⟩;rw[cY,Ab,iG] at b;rcases b with b | b
     ·rcases(m s b).2.2 with g | g
      ·exact absurd (l.1 g) e
      ·exact yF g vR
     ·exact i.below s b
 | [],[],_,_,_,h=>absurd rfl h
 | [],_::_,_,_,h,_=>ko
 | _::_,[],_,_,h,_=>ko
theorem FN {V:List aB} {i:Nat} (h:i<V.length) (L:aB):(V.set i L).flatten=(V.take i).flatten++L++(V.drop (i+1)).flatten:=by
 rw[List.set_eq_take_append_cons_drop,aC h];simp
theorem QX {V:List aB} {i:Nat} (h:i<V.length):V.flatten=(V.take i).flatten++V.getD i []++(V.drop (i+1)).flatten:=by
 have e:V.set i (V.getD i [])=V:=xZ
 conv=>lhs;rw[<-e]
 exact FN h _
theorem yH.put {d:DS} {many:Bool} {low r:List UInt8} {V:List aB} {E:List aG} {i:Nat} (a:yH d many low V E (ax d r) i):(V.set i (cw d r (V.getD i []))).flatten=cw d r V.flatten:=by
 rw[FN a.lt]
 conv=>rhs;rw[QX a.lt,jk]
 rw[Lc a.below,Ld a.above,jk]
theorem yH.del {d:DS} {many:Bool} {low k:List UInt8} {V:List aB} {E:List aG} {i:Nat} (a:yH d many low V E k i) (h:∃s∈V.getD i [],ax d s=k):(V.set i (fO d k (V.getD i []))).flatten=fO d k V.flatten:=by
 rw[FN a.lt]
 conv=>rhs;rw[QX a.lt,jk]
 rw[QT (fun s b=>lZ (a.below s b)),QU h,jk]
theorem yH.has {d:DS} {many:Bool} {low k:List UInt8} {V:List aB} {E:List aG} {i:Nat} (a:yH d many low V E k i):eJ d V.flatten k=eJ d (V.getD i []) k:=by
 conv=>lhs;rw[QX a.lt]
 unfold eJ;rw[jk,C4,C4];have e:(V.take i).flatten.find? (fun s=>ax d s==k)=none:=by
  rw[rJ];intro s b;simpa using lZ (a.below s b)
 have f:(V.drop (i+1)).flatten.find? (fun s=>ax d s==k)=none:=by
  rw[rJ];intro s b;simpa using(lZ (a.above s b)).symm
 rw[e,f];simp
theorem QY {d:DS} {many:Bool}:∀{V:List aB} {E:List aG} {low:List UInt8} {i:Nat} {M:aB},fC d many low V E=true->i<V.length->eH d.interval M=true->(M=[]->many=false)->dN d M->(∀s∈M,s∈V.getD i []∨(cV d s=true/\bl (ax d s) low=false/\i=bK E (ax d s)/\cR low E=true))->fC d many low (V.set i M) E=true
 | L::R,x::E,low,0,M,h,_,g,j,l,m=>by
   obtain⟨r,t,⟨e,C⟩,f⟩:=iH.1 h;refine iH.2 ⟨j,g,⟨fun s o=>?_,l⟩,f⟩;rcases m s o with b | ⟨b,u,h7,n⟩
   ·exact e s (by simpa using b)
   ·refine⟨b,u,?_⟩;obtain⟨y,e2,z,B,q⟩:=iP n;exact W5
 | L::R,x::E,low,i+1,M,h,hi,g,j,l,m=>by
   obtain⟨r,t,e,f⟩:=iH.1 h;refine iH.2 ⟨r,t,e,QY f pq g j l fun s o=>?_⟩;rcases m s o with b | ⟨b,u,h7,n⟩
   ·exact .inl (by simpa using b)
   ·obtain⟨y,e2,z,B,q⟩:=iP n;rw[Cq] at h7;split at h7
    ·omega
    ·rename_i hk;split at h7
     ·omega
     ·exact .inr ⟨b,vR,af,q⟩
 | [],_,_,_,_,_,h,_,_,_,_=>jQ
 | _::_,[],_,_,_,h,_,_,_,_,_=>ko
def au (E:List aG) (i:Nat):aG:=E.getD i ([],0)
def eD (E:List aG) (i:Nat) (bound:List UInt8) (pg:Int):List aG:=E.take i++(bound,(au E i).2)::((au E i).1,pg)::E.drop (i+1)
def pR (V:List aB) (i:Nat) (A B:aB):List aB:=V.take i++A::B::V.drop (i+1)
theorem QZ (x:aG) (E:List aG) (bound:List UInt8) (pg:Int):eD (x::E) 0 bound pg=(bound,x.2)::(x.1,pg)::E:=rfl
theorem Q0 (x:aG) (E:List aG) (i:Nat) (bound:List UInt8) (pg:Int):eD (x::E) (i+1) bound pg=x::eD E i bound pg:=by simp[eD,au]
theorem akV (L:aB) (V:List aB) (A B:aB):pR (L::V) 0 A B=A::B::V:=rfl
theorem akW (L:aB) (V:List aB) (i:Nat) (A B:aB):pR (L::V) (i+1) A B=L::pR V i A B:=rfl
theorem ZX (E:List aG) (i:Nat) (bound:List UInt8) (pg:Int):eD E i bound pg≠[]:=by simp[eD]
theorem AB {E:List aG} {i:Nat} (h:i<E.length) (bound:List UInt8) (pg:Int):(eD E i bound pg).length=E.length+1:=by simp[eD];omega
theorem Lf {V:List aB} {i:Nat} (h:i<V.length) (A B:aB):(pR V i A B).length=V.length+1:=by simp[pR];omega
theorem akX {V:List aB} {i:Nat} (h:i<V.length) (A B:aB):(pR V i A B).flatten=(V.set i (A++B)).flatten:=by rw[FN h];simp[pR]
theorem ZY {d:DS} {many:Bool} {A B:aB} {bound:List UInt8} {pg:Int} (H:A≠[]) (I:B≠[]) (S:eH d.interval A=true) (T:eH d.interval B=true) (n:dN d (A++B)) (Z:gA pg=true)
 (u:∀s∈A,bl (ax d s) bound=true) (y:∀s∈B,bl (ax d s) bound=false) (O:bound≠[]) (m:bound.length<=32):
 ∀{V:List aB} {E:List aG} {low:List UInt8} {i:Nat},cR low E=true->fC d many low V E=true->i<V.length->(many=true∨V.length=1)->
  (∀s∈A++B,s∈V.getD i []∨(cV d s=true/\bl (ax d s) low=false/\i=bK E (ax d s)))->
  cR low (eD E i bound pg)=true/\fC d true low (pR V i A B) (eD E i bound pg)=true
 | L::R,x::E,low,0,K,h,_,f,N=>by
   obtain⟨z,e2,C,Q,D⟩:=iP K;obtain⟨U,X,⟨F,g6⟩,t⟩:=iH.1 h;have b:∀s∈A++B,Az d low x.1 s:=fun s g=>by
    rcases N s g with j | ⟨j,Y,h7⟩
    ·exact F s (by simpa using j)
    ·refine⟨j,Y,?_⟩;exact W5
   unfold dN at n;rw[mT] at n;obtain⟨s0,q⟩:=FO A H;obtain⟨t0,r⟩:=FO B I;have M:bl low bound=true:=FH (b s0 (by simp[q])).2.1 (u s0 q);have J:x.1≠[]->bl bound x.1=true:=fun hx=>by
    rcases(b t0 (by simp[r])).2.2 with G | G
    ·exact absurd G hx
    ·exact FH (y t0 r) G
   rw[QZ,akV];constructor
   ·refine nZ z (by simp[O]) m (fun _=>M) (nZ Z e2 C (fun hn=>J (fun e=>hn (e2.1 e))) D)
   ·refine iH.2 ⟨fun e=>absurd e H,S,⟨fun s g=>⟨(b s (by simp[g])).1,(b s (by simp[g])).2.1,.inr (u s g)⟩,n.1⟩,iH.2 ⟨fun e=>absurd e I,T,⟨fun s g=>⟨(b s (by simp[g])).1,y s g,(b s (by simp[g])).2.2⟩,n.2.1⟩,?_⟩⟩;refine FM (fun _=>?_) t;rcases f with f | f
    ·exact .inl f
    ·simp at f;subst f;exact .inr av
 | L::R,x::E,low,i+1,K,h,o,f,N=>by
   obtain⟨z,e2,C,Q,D⟩:=iP K;obtain⟨U,X,F,t⟩:=iH.1 h;have l:many=true:=by
    rcases f with f | f
    ·exact f
    ·simp at f o;subst f;simp at o
   have hE:E≠[]:=fun e=>by
    subst e;have:=AA t;simp at this o;subst this;simp at o
   have ih:=ZY (many:=many) H I S T n Z u y O m (V:=R) (E:=E) (low:=x.1) (i:=i) D t (by simpa using o) (.inl l) (fun s g=>by
    rcases N s g with j | ⟨j,Y,h7⟩
    ·exact .inl (by simpa using j)
    ·rw[Cq,aA hE] at h7;split at h7
     ·omega
     ·rename_i hk;exact .inr ⟨j,vR,af⟩)
   rw[Q0,akW];refine⟨nZ z ⟨fun e=>absurd (e2.1 e) hE,fun e=>absurd e (ZX _ _ _ _)⟩ C (fun _=>Q hE) ih.1,iH.2 ⟨fun e=>?_,X,F,ih.2⟩⟩;rw[U e] at l;cases l
 | [],_,_,_,_,_,h,_,_=>jQ
 | _::_,[],_,_,_,h,_,_,_=>ko
theorem Q1:∀{E:List aG} {b:List UInt8} {i:Nat},cR b E=true->i+2<E.length->bl (au E i).1 (au E (i+1)).1=true
 | x::y::E,b,0,h,d=>by
   have f:=(iP h).2.2.2.2;have g:=(iP f).2.2.2.1 (by intro e;subst e;simp at d);simpa[au] using g
 | x::E,b,i+1,h,d=>by
   have:=Q1 (i:=i) (iP h).2.2.2.2 (by simp only[gW] at d;omega);simpa[au] using this
 | [x],_,0,_,d=>by simp at d
 | [],_,_,_,d=>by simp at d
theorem Lg:∀{E:List aG} {b:List UInt8} {i:Nat},cR b E=true->i<E.length->((au E i).1=[]↔i+1=E.length)
 | x::E,b,0,h,_=>by
   have f:=(iP h).2.1;have:(au (x::E) 0)=x:=rfl;rw[this,f,gW];constructor
   ·rintro rfl;rfl
   ·intro h;exact gY af
 | x::E,b,i+1,h,d=>by
   have:=Lg (i:=i) (iP h).2.2.2.2 (by simpa using d);have e:au (x::E) (i+1)=au E i:=by simp[au]
   rw[e,this,gW];omega
 | [],_,_,_,d=>by simp at d
theorem wG {base aN:Int}:∀{L:List aG} {used:List Int},iO base aN used L=true↔(∀x∈L,x.2∉used/\base<x.2/\x.2<=base+aN)/\(L.map (·.2)).Nodup
 | [],used=>by simp[iO]
 | x::L,used=>by
   rw[iO];simp only[eu,wG (L:=L),La,gu,dh,ug,fD,forall_eq_or_imp];simp only[Lh,Q2];constructor
   ·rintro⟨⟨⟨g,i⟩,j⟩,f,l⟩;refine⟨⟨⟨g,i,j⟩,fun y b=>⟨fun d=>(f y b).1 (.inr d),(f y b).2⟩⟩,fun n=>?_,l⟩;obtain⟨y,b,e⟩:=fT.1 n;exact(f y b).1 (.inl e)
   ·rintro⟨⟨⟨g,i,j⟩,f⟩,l,m⟩;refine⟨⟨⟨g,i⟩,j⟩,fun y b=>⟨fun d=>?_,(f y b).2⟩,m⟩;rcases d with d | d
    ·exact l (fT.2 ⟨y,b,d⟩)
    ·exact(f y b).1 d
def Nd.zero:Nd:=⟨0,0,[]⟩
def Ar.zero:Ar:=⟨0,Nd.zero,[]⟩
def kT (n:Nd) (i:Int) (below:List UInt8) (b:Int):Nd×Int:=
 if eC n=false∨gA b=false∨i<0∨(n.ai.length:Int)<=i then(Nd.zero,1)
 else if below=[]∨32<below.length∨(0<i/\bl (au n.ai (i.toNat-1)).1 below=false)∨((au n.ai i.toNat).1≠[]/\bl below (au n.ai i.toNat).1=false) then(Nd.zero,2)
 else if n.ai.length=120 then(Nd.zero,8) else({n with ai:=eD n.ai i.toNat below b},0)
structure fP (d:DS) (a:Ar):Prop where
 keyed:dA d=true
 base:eX a.base=true
 size:cQ d.interval=true
 node:eC a.nd=true
 fits:(ja a.nd:Int)<=d.interval
 level:a.nd.level=0
 few:(a.nd.ai.length:Int)<=d.aN
 pages:iO a.base d.aN [] a.nd.ai=true
 len:a.ak.length=a.nd.ai.length
 ak:fC d (decide (1<a.ak.length)) [] a.ak a.nd.ai=true
theorem lD {d:DS} {a:Ar}:dD d a=true↔fP d a:=by
 unfold dD qO kS;refine Cj ?_;constructor
 ·rintro⟨⟨⟨e,⟨⟨⟨f,⟨g,i⟩,j⟩,l⟩,m⟩,n⟩,q⟩,b⟩;exact⟨e,f,g,i,j,l,m,n,q,b⟩
 ·rintro⟨e,f,g,i,j,l,m,n,q,b⟩;exact⟨⟨⟨e,⟨⟨⟨f,⟨g,i⟩,j⟩,l⟩,m⟩,n⟩,q⟩,b⟩
structure pS (n:Nd):Prop where
 l1:1<=n.ai.length
 l2:n.ai.length<=120
 v1:0<=n.level
 v2:n.level<=6
 x1:0<=n.next
 x2:n.next<=16777216
 ai:cR [] n.ai=true
theorem ia {n:Nd}:eC n=true↔pS n:=by
 unfold eC;refine Cj ?_;constructor
 ·rintro⟨⟨⟨⟨⟨⟨b,d⟩,e⟩,f⟩,g⟩,i⟩,j⟩;exact⟨b,d,e,f,g,i,j⟩
 ·rintro⟨b,d,e,f,g,i,j⟩;exact⟨⟨⟨⟨⟨⟨b,d⟩,e⟩,f⟩,g⟩,i⟩,j⟩
structure jm (d:DS) (a:Ar):Prop where
 spec:fP d a
 short:∀x∈a.nd.ai,(x.1.length:Int)<=d.bV
theorem fP.ne {d:DS} {a:Ar} (s:fP d a):a.nd.ai≠[]:=uY.1 (by have:=(ia.1 s.node).l1;omega)
theorem fP.ai {d:DS} {a:Ar} (s:fP d a):cR [] a.nd.ai=true:=(ia.1 s.node).ai
theorem fP.inc {d:DS} {a:Ar} (s:fP d a):dN d (aX a):=ZV s.ai s.ak
theorem fP.at {d:DS} {a:Ar} (s:fP d a) (k:List UInt8):yH d (decide (1<a.ak.length)) [] a.ak a.nd.ai k (bK a.nd.ai k):=ZW s.ai s.ak s.ne
theorem fP.mem {d:DS} {a:Ar} (s:fP d a) {i:Nat} (h:i<a.ak.length):eH d.interval (a.ak.getD i [])=true/\(∀t∈a.ak.getD i [],cV d t=true)/\dN d (a.ak.getD i [])/\(a.ak.getD i []=[]->a.ak.length=1):=by
 have l:a.ak.getD i []∈a.ak:=by rw[List.getD,iB h];exact mN h
 obtain⟨b,f,g,j⟩:=FL s.ak _ l;refine⟨b,f,g,fun e=>?_⟩;have:=j e;simp at this;omega
theorem oB {n:Int} (h:cQ n=true):128<=n/\n<=512/\n/16<=32/\54+n/2<=n:=by
 obtain⟨k,rfl,b⟩:=yC h;omega
theorem FP {d:DS} (g:dA d=true) {n:Nd} (i:eC n=true) (B:(n.ai.length:Int)<=d.aN) (j:∀x∈n.ai,(x.1.length:Int)<=d.bV):(ja n:Int)<=d.interval:=by
 obtain⟨b,m,o,q,r,t,u,y,z⟩:=iM g;have C:=oB (qM b).2.2.1;have e:=Aw n.ai [] d.bV.toNat (fun x l=>by have:=j x l;omega);have f:n.ai.length*(6+d.bV.toNat)<=8*(6+d.bV.toNat):=AE _ af;unfold ja;rw[aC i];omega
theorem ZZ {d:DS} (g:dA d=true) {r:List UInt8} (h:cV d r=true):qI r=true/\(r.length:Int)<=d.interval/2-8:=by
 obtain⟨b,i,j,l,m,n,o,q,t⟩:=iM g;have e:=(qM b).2.2.2.2.1;have f:=CY h;unfold qI;simp;omega
theorem akY {d:DS} {a:Ar} {r:List UInt8} (I:jm d a) (j:cV d r=true) (g:eH d.interval (cw d r (a.ak.getD (bK a.nd.ai (ax d r)) []))=true):
 jm d {a with ak:=a.ak.set (bK a.nd.ai (ax d r)) (cw d r (a.ak.getD (bK a.nd.ai (ax d r)) []))}/\
  aX {a with ak:=a.ak.set (bK a.nd.ai (ax d r)) (cw d r (a.ak.getD (bK a.nd.ai (ax d r)) []))}=cw d r (aX a):=by
 have s:=I.spec;have b:=s.at (ax d r);have i:=s.mem b.lt;refine⟨⟨⟨s.keyed,s.base,s.size,s.node,s.fits,s.level,s.few,s.pages,by simp[s.len],?_⟩,I.short⟩,b.put⟩;simp only[pE];refine QY s.ak b.lt g (fun e=>?_) (Lb i.2.2.1) fun t f=>?_
 ·have:=ZT (d:=d) (r:=r) (a.ak.getD (bK a.nd.ai (ax d r)) []);rw[e] at this;simp at this
 ·rcases ud f with rfl | f
  ·exact .inr ⟨j,uQ _,rfl,s.ai⟩
  ·exact .inl f
theorem Z0 {d:DS} {r:List UInt8}:∀(L:aB),∃A B,cw d r L=A++r::B/\(L=A++B∨∃o,L=A++o::B)
 | []=>⟨[],[],rfl,.inl rfl⟩
 | s::L=>by
   rw[cw];split
   ·obtain⟨A,B,e,b⟩:=Z0 (d:=d) (r:=r) L;refine⟨s::A,B,by rw[e];rfl,?_⟩;rcases b with b | ⟨o,b⟩
    ·exact .inl (by rw[b];rfl)
    ·exact .inr ⟨o,by rw[b];rfl⟩
   ·split
    ·exact⟨[],L,rfl,.inr ⟨s,rfl⟩⟩
    ·exact⟨[],s::L,rfl,.inl rfl⟩
theorem C5 {size:Int} {L:aB} (h:eH size L=true):cQ size=true/\fU L=true/\(cB L:Int)<=size:=by
 unfold eH at h;simpa[and_assoc] using h
theorem Q3:∀(L A:aB),cB A<=cB (A++L)
 | [],A=>av
 | z::L,A=>by
   have d:=akI z A;have b:=Q3 L (A++[z]);rw[jk] at b;simp only[Li] at b;omega
theorem Q4:∀(A L:aB),cB L<=cB (A++L)
 | [],L=>aH _
 | x::A,L=>by
   have b:=Q4 A L;have d:=ZA x (A++L);simp only[bE];omega
theorem akZ (A B:aB) (o:List UInt8):cB A+cB B<=cB (A++o::B)+10/\cB A<=cB (A++o::B)/\cB B<=cB (A++o::B):=by
 have b:=ZP A (o::B);have d:=ZA o B;have e:=Q4 A (o::B);exact⟨af,Q3 _ _,af⟩
theorem FQ {L:aB}:fU L=true↔∀s∈L,qI s=true:=by unfold fU;simp
theorem Q5 {base:Int}:∀(k:Nat) (L:List Int),L.Nodup->(∀y∈L,base<y/\y<=base+k)->L.length<=k
 | 0,L,_,d=>by
   cases L with
   | nil=>simp
   | cons y L=>have:=d y av;omega
 | k+1,L,g,d=>by
   by_cases h:base+(k+1)∈L
   ·have b:=Q5 (base:=base) k (L.erase (base+(k+1))) (g.erase _) (fun y f=>by
     obtain⟨b,i⟩:=g.mem_erase_iff.1 f;have:=d y i
     push_cast at this
     omega)
    rw[List.length_erase_of_mem h] at b;omega
   ·have:=Q5 (base:=base) k L g (fun y f=>by
     have b:=d y f;have i:y≠base+(k+1):=fun e=>h (e▸f)
     push_cast at b
     omega)
    omega
theorem nodup_range {base:Int} {L:List Int} {n:Int} (b:L.Nodup) (d:∀y∈L,base<y/\y<=base+n):(L.length:Int)<=max 0 n:=by
 have:=Q5 (base:=base) n.toNat L b (fun y e=>by have:=d y e;omega);omega
theorem ak0 {X Y:List aG} {j:Nat} (h:j<X.length):au (X++Y) j=au X j:=by unfold au;simp[List.getD,rF h]
theorem Q6 {X Y:List aG} {j:Nat} (h:X.length<=j):au (X++Y) j=au Y (j-X.length):=by unfold au;simp[List.getD,CU h]
theorem Z1 {d:DS} {r:List UInt8} {L:aB} (u:dA d=true) (y:cV d r=true) (t:eH d.interval L=true) (f:eH d.interval (cw d r L)=false):
 ∃m,1<=m/\m<(cw d r L).length/\eH d.interval ((cw d r L).take m)=true/\eH d.interval ((cw d r L).drop m)=true:=by
 obtain⟨n,q⟩:=ZZ u y;obtain⟨j,l,C⟩:=C5 t;obtain⟨A,B,g,i⟩:=Z0 (d:=d) (r:=r) L;have b:fU (cw d r L)=true:=FQ.2 fun s e=>by
  rcases ud e with rfl | e
  ·exact n
  ·exact FQ.1 l s e
 rw[g] at b f⊢;have z:cB A+cB B<=cB L+10/\cB A<=cB L/\cB B<=cB L:=by
  rcases i with rfl | ⟨o,rfl⟩
  ·exact⟨ZP A B,Q3 _ _,Q4 _ _⟩
  ·exact akZ A B o
 exact akS j b q af af af f
theorem Z2 {d:DS} {a:Ar} {r:List UInt8} {m:Nat} {pg:Int} (I:jm d a) (hr:cV d r=true) {i:Nat} (V:i=bK a.nd.ai (ax d r)) {l:aB} (X:l=cw d r (a.ak.getD i []))
 (m1:1<=m) (S:m<l.length) (fA:eH d.interval (l.take m)=true) (fB:eH d.interval (l.drop m)=true) {bound:List UInt8} (hb:bound=uc (ax d (l.getD (m-1) [])) (ax d (l.getD m [])))
 (p1:a.base<pg) (p2:pg<=a.base+d.aN) (p3:∀x∈a.nd.ai,x.2≠pg):
 kT a.nd (i:Int) bound pg=({a.nd with ai:=eD a.nd.ai i bound pg},0)/\
 jm d {a with nd:={a.nd with ai:=eD a.nd.ai i bound pg},ak:=pR a.ak i (l.take m) (l.drop m)}/\
  aX {a with nd:={a.nd with ai:=eD a.nd.ai i bound pg},ak:=pR a.ak i (l.take m) (l.drop m)}=cw d r (aX a):=by
 have s:=I.spec;have b:=s.at (ax d r);rw[<-V] at b;obtain⟨g1,g2,g3,g4⟩:=s.mem b.lt;have k9:=iM s.keyed;have n:dN d l:=by rw[X];exact Lb g3
 have R:∀t∈l,cV d t=true:=fun t q=>by
  rw[X] at q;rcases ud q with rfl | q
  ·exact hr
  ·exact g2 t q
 have e1:l.getD (m-1) []=l[m-1]' af:=by simp[List.getD,iB (show m-1<l.length by omega)]
 have e2:l.getD m []=l[m]'S:=by simp[List.getD,iB S]
 have hlt:bl (ax d (l[m-1]' af)) (ax d (l[m]'S))=true:=ue.1 n _ _ _ _ af;rw[e1,e2] at hb;obtain⟨Y,Z,b3,b4⟩:=akN hlt;rw[<-hb] at Y Z b3 b4;have hkl:=QS s.keyed (R _ (mN S));have bkl:(bound.length:Int)<=d.bV:=af;have hz:=oB s.size;have bA:∀t∈l.take m,bl (ax d t) bound=true:=fun t q=>by
  obtain⟨j,hj,rfl⟩:=nT.1 q;rw[gF] at hj;rw[List.getElem_take];by_cases F:j=m-1
  ·subst F;exact Z
  ·exact iN (ue.1 n j (m-1) af af af) Z
 have bB:∀t∈l.drop m,bl (ax d t) bound=false:=fun t q=>by
  obtain⟨j,hj,rfl⟩:=nT.1 q;rw[eU] at hj;rw[List.getElem_drop];by_cases F:j=0
  ·subst F;simpa using b3
  ·cases h:bl (ax d (l[m+j]' af)) bound with
   | false=>rfl
   | true=>
     have E:=iN (ue.1 n m (m+j) S af af) h;rw[b3] at E;cases E
 have Q:gA pg=true:=by
  have:=s.base;unfold eX at this;unfold gA;simp at this⊢;omega
 have f:i<a.nd.ai.length:=by rw[<-s.len];exact b.lt
 have M:decide (1<a.ak.length)=true∨a.ak.length=1:=by
  have:=b.lt;by_cases h:1<a.ak.length
  ·exact .inl nA
  ·exact .inr af
 have b32:bound.length<=32:=af;have N:l.take m≠[]:=fun e=>by
  exact Pf
 have O:l.drop m≠[]:=fun e=>by
  have:=gP List.length e;rw[eU] at this;simp only[lC] at this;omega
 obtain⟨q1,q2⟩:=ZY (many:=decide (1<a.ak.length)) (bound:=bound) (pg:=pg) (A:=l.take m) (B:=l.drop m) N O fA fB (by rw[pM];exact n) Q bA bB Y b32
  s.ai s.ak b.lt M (fun t q=>by
   rw[pM,X] at q;rcases ud q with rfl | q
   ·exact .inr ⟨hr,uQ _,V⟩
   ·exact .inl q)
 have D:=ia.1 s.node;have hl1:=AB f bound pg;have L:=Lf b.lt (l.take m) (l.drop m)
 -- T pages
 obtain⟨n1,n2⟩:=wG.1 s.pages;have z:(eD a.nd.ai i bound pg).map (·.2)=(a.nd.ai.take (i+1)).map (·.2)++pg::(a.nd.ai.drop (i+1)).map (·.2):=by
  unfold eD;rw[jr f];have:au a.nd.ai i=a.nd.ai[i]:=by simp[au,List.getD,f]
  rw[this];simp only[jW,dh,dQ,jk,Li]
 have G:pg∉a.nd.ai.map (·.2):=fun h=>by
  obtain⟨x,g,e⟩:=fT.1 h;exact p3 x g e
 have U:(a.nd.ai.length:Int)<d.aN:=by
  -- T pages with pg are in T aN, each once
  have hnd:(pg::a.nd.ai.map (·.2)).Nodup:=ug.2 ⟨G,n2⟩;have J:∀y∈pg::a.nd.ai.map (·.2),a.base<y/\y<=a.base+d.aN:=fun y H=>by
   rcases fD.1 H with rfl | H
   ·exact⟨p1,p2⟩
   ·obtain⟨x,g,rfl⟩:=fT.1 H;exact(n1 x g).2
  have:=nodup_range hnd J;simp at this;omega
 have u:eC {a.nd with ai:=eD a.nd.ai i bound pg}=true:=ia.2 ⟨fj,fj,D.v1,D.v2,D.x1,D.x2,q1⟩;have o:∀x∈eD a.nd.ai i bound pg,(x.1.length:Int)<=d.bV:=fun x g=>by
  unfold eD at g;have K:au a.nd.ai i∈a.nd.ai:=by
   have:au a.nd.ai i=a.nd.ai[i]:=by simp[au,List.getD,f]
   rw[this];exact mN f
  rcases iG.1 g with g | g
  ·exact I.short x (yI g)
  ·rcases fD.1 g with rfl | g
   ·exact bkl
   ·rcases fD.1 g with rfl | g
    ·show((au a.nd.ai i).1.length:Int)<=_;exact I.short _ K
    ·exact I.short x (uh g)
 refine⟨?_,⟨⟨s.keyed,s.base,s.size,u,?_,s.level,?_,?_,?_,?_⟩,o⟩,?_⟩
 ·unfold kT;have j1:0<i->bl (au a.nd.ai (i-1)).1 bound=true:=fun h0=>by
   have E:=Q1 (i:=i-1) q1 af;have h6:au (eD a.nd.ai i bound pg) (i-1)=au a.nd.ai (i-1):=by
    unfold eD;rw[ak0 kQ];unfold au;simp[List.getD,qF,show i-1<i by omega]
   have h7:(au (eD a.nd.ai i bound pg) (i-1+1)).1=bound:=by
    unfold eD;rw[Q6 kQ];rw[gF,Ap af,show i-1+1-i=0 by omega];rfl
   rw[h6,h7] at E;exact E
  have j2:(au a.nd.ai i).1≠[]->bl bound (au a.nd.ai i).1=true:=fun h0=>by
   have h4:i+1≠a.nd.ai.length:=fun e=>h0 ((Lg s.ai f).2 e);have E:=Q1 (i:=i) q1 af;have h6:(au (eD a.nd.ai i bound pg) i).1=bound:=by
    unfold eD;rw[Q6 kQ];rw[gF,Ap af,show i-i=0 by omega];rfl
   have h7:(au (eD a.nd.ai i bound pg) (i+1)).1=(au a.nd.ai i).1:=by
    unfold eD;rw[Q6 kQ];rw[gF,Ap af,show i+1-i=1 by omega];rfl
   rw[h6,h7] at E;exact E
  rw[aA,aA,aA]
  ·simp
  ·omega
  ·simp only[jU];rintro(h | h | ⟨h,h'⟩ | ⟨h,h'⟩)
   ·exact Y h
   ·omega
   ·rw[j1 af] at h';cases h'
   ·rw[j2 h] at h';cases h'
  ·rw[s.node,Q];simp;omega
 ·exact FP s.keyed u fj o
 ·simp only;omega
 ·refine wG.2 ⟨fun x g=>⟨av,?_⟩,?_⟩
  ·have C:x.2∈(eD a.nd.ai i bound pg).map (·.2):=fT.2 ⟨x,g,rfl⟩;rw[z] at C;rcases iG.1 C with C | C
   ·obtain⟨y,H,e⟩:=fT.1 C;rw[<-e];exact(n1 y (yI H)).2
   ·rcases fD.1 C with C | C
    ·rw[C];exact⟨p1,p2⟩
    ·obtain⟨y,H,e⟩:=fT.1 C;rw[<-e];exact(n1 y (uh H)).2
  ·rw[z];have e:a.nd.ai.map (·.2)=(a.nd.ai.take (i+1)).map (·.2)++(a.nd.ai.drop (i+1)).map (·.2):=by rw[<-jW,pM]
   rw[e] at n2 G;exact List.perm_middle.nodup_iff.2 (ug.2 ⟨G,n2⟩)
 ·simp only;rw[hl1,L,s.len]
 ·simp only;have:decide (1<(pR a.ak i (l.take m) (l.drop m)).length)=true:=by rw[L];have:=b.lt;simp;omega
  rw[this];exact q2
 ·unfold aX;simp only;rw[akX b.lt,pM,X,V];rw[V] at b;exact b.put
theorem Lj (x:List UInt8) (L:aB):js (x::L)=js L+if jK x.length L=true then 0 else 3:=rfl
theorem Z3 (x o:List UInt8) (B:aB):js (x::B)<=js (x::o::B):=by
 simp only[js];by_cases h:jK x.length (o::B)=true
 ·rw[aC h]
  match B,h with
  | y::B,h=>
    simp only[jK,eu,jT] at h;rw[h.1];omega
 ·rw[aA h];split<;>omega
theorem ak2 (x y o:List UInt8) (B:aB):js (x::y::B)<=js (x::y::o::B):=by
 have g:=Z3 y o B;rw[Lj x (y::B),Lj x (y::o::B)];by_cases b:jK x.length (y::o::B)=true
 ·rw[aC b];by_cases d:jK x.length (y::B)=true
  ·rw[aC d];omega
  ·rw[aA d];simp only[jK,eu,jT] at b;have f:jK o.length B=false/\jK y.length (o::B)=false:=by
    cases B with
    | nil=>exact⟨rfl,rfl⟩
    | cons z B=>
      simp only[jK,eu,jT] at d;have i:z.length≠x.length:=fun e=>d ⟨b.1,e⟩;constructor
      ·cases B with
       | nil=>rfl
       | cons w B=>simp only[jK,Pu,wJ];left;omega
      ·simp only[jK,Pu,wJ];right;omega
   simp only[js,f.1,f.2,EU,uL];split<;>omega
 ·rw[aA b];split<;>omega
theorem Z4 (o:List UInt8) (B:aB):∀(A:aB),js (A++B)<=js (A++o::B)
 | []=>by simp only[bQ,js];omega
 | [x]=>Z3 x o B
 | [x,y]=>ak2 x y o B
 | x::y::z::A=>by
   have b:=Z4 o B (y::z::A);simp only[bE] at b⊢;have e:jK x.length (y::z::(A++B))=jK x.length (y::z::(A++o::B)):=rfl;rw[Lj x,Lj x,e];omega
theorem size_del (A B:aB) (o:List UInt8):cB (A++B)<=cB (A++o::B):=by
 rw[oA,oA,K8,K8];have b:=Z4 o B A;have d:cM (o::B)=o.length+cM B:=by simp[cM]
 omega
theorem Z5 {d:DS} {k:List UInt8}:∀{L:aB},(∃s∈L,ax d s=k)->∃A o B,L=A++o::B/\fO d k L=A++B
 | [],h=>jQ
 | s::L,h=>by
   rw[fO];split
   ·exact⟨[],s,L,rfl,rfl⟩
   ·rename_i h1;obtain⟨A,o,B,h2,b⟩:=Z5 (d:=d) (k:=k) (L:=L) (by
     exact Pb)
    exact⟨s::A,o,B,by rw[h2];rfl,by rw[b];rfl⟩
theorem ak3 {d:DS} {k:List UInt8} {L:aB} (l:eH d.interval L=true) (h:∃s∈L,ax d s=k):eH d.interval (fO d k L)=true:=by
 obtain⟨g,i,j⟩:=C5 l;obtain⟨A,o,B,e,f⟩:=Z5 h;have:=size_del A B o;unfold eH;have b:fU (fO d k L)=true:=FQ.2 fun s m=>FQ.1 i s ((FJ d k L).subset m);rw[g,b,f];rw[e] at j;simp;omega
theorem ak4 {d:DS} {a:Ar} {k:List UInt8} (I:jm d a) {i:Nat} (j:i=bK a.nd.ai k) (h:∃s∈a.ak.getD i [],ax d s=k) (f:fO d k (a.ak.getD i [])≠[]∨a.ak.length=1):
 jm d {a with ak:=a.ak.set i (fO d k (a.ak.getD i []))}/\aX {a with ak:=a.ak.set i (fO d k (a.ak.getD i []))}=fO d k (aX a):=by
 have s:=I.spec;have b:=s.at k;rw[<-j] at b;have g:=s.mem b.lt;refine⟨⟨⟨s.keyed,s.base,s.size,s.node,s.fits,s.level,s.few,s.pages,by simp[s.len],?_⟩,I.short⟩,b.del h⟩;simp only[pE];refine QY s.ak b.lt (ak3 g.1 h) (fun e=>?_) (akU g.2.2.1) fun t l=>.inl ((FJ d k _).subset l);rcases f with f | f
 ·exact absurd e f
 ·simp;omega
def cC:List aG->List aG
 | []=>[]
 | [x]=>[([],x.2)]
 | x::y::L=>x::cC (y::L)
theorem Q7:∀(L:List aG),cC L=L.set (L.length-1) ([],(au L (L.length-1)).2)
 | []=>rfl
 | [x]=>rfl
 | x::y::L=>by
   rw[cC,Q7 (y::L)];simp[au]
theorem Z6:∀{L:List aG} {b:List UInt8},cR b L=true->cC L=L
 | [],_,_=>rfl
 | [x],_,h=>by
   have:=(iP h).2.1.2 rfl;rw[cC,<-this]
 | x::y::L,_,h=>by rw[cC,Z6 (iP h).2.2.2.2]
theorem tT:∀(L:List aG),(cC L).length=L.length
 | []=>rfl
 | [x]=>rfl
 | x::y::L=>by simp[cC,tT (y::L)]
theorem FR:∀(L:List aG),(cC L).map (·.2)=L.map (·.2)
 | []=>rfl
 | [x]=>rfl
 | x::y::L=>by rw[cC,dh,FR (y::L)];rfl
theorem Q8:∀{L:List aG} {x:aG},x∈cC L->x∈L∨x.1=[]
 | [],x,h=>by simp[cC] at h
 | [y],x,h=>by simp[cC] at h;subst h;exact .inr rfl
 | y::z::L,x,h=>by
   rw[cC] at h;rcases fD.1 h with rfl | h
   ·exact .inl av
   ·rcases Q8 h with h | h
    ·exact .inl (pQ _ h)
    ·exact .inr h
theorem Q9 (x:aG) {L:List aG} (h:L≠[]):cC (x::L)=x::cC L:=by
 cases L with
 | nil=>exact absurd rfl h
 | cons y L=>rfl
theorem Ra {low b:List UInt8}:∀{E:List aG},bl low b=true->cR b E=true->cR low E=true
 | [],_,_=>rfl
 | x::E,j,h=>by
   obtain⟨d,e,f,g,i⟩:=iP h;exact nZ d e f (fun l=>iN j (g l)) i
theorem Z7 {d:DS} {many:Bool} {low b:List UInt8}:∀{V:List aB} {E:List aG},bl low b=true->fC d many b V E=true->fC d many low V E=true
 | [],[],_,_=>rfl
 | L::R,x::E,n,h=>by
   obtain⟨g,i,⟨e,l⟩,j⟩:=iH.1 h;refine iH.2 ⟨g,i,⟨fun s f=>⟨(e s f).1,?_,(e s f).2.2⟩,l⟩,j⟩;have m:=(e s f).2.1;cases h2:bl (ax d s) low with
   | false=>rfl
   | true=>have:=iN h2 n;rw[m] at this;cases this
 | [],_::_,_,h=>ko
 | _::_,[],_,h=>ko
theorem Z8 {d:DS} {many:Bool}:∀{V:List aB} {E:List aG} {low:List UInt8} {i:Nat},cR low E=true->fC d many low V E=true->i<V.length->1<V.length->cR low (cC (E.eraseIdx i))=true/\fC d many low (V.eraseIdx i) (cC (E.eraseIdx i))=true
 | L::R,x::E,low,0,u,h,_,D=>by
   obtain⟨q,z,B,n,o⟩:=iP u;obtain⟨r,t,f,g⟩:=iH.1 h;have j:E≠[]:=fun e=>by
    subst e;have:=AA g;simp at this D;subst this;simp at D
   simp only[List.eraseIdx_cons_zero];rw[Z6 o];exact⟨Ra (n j) o,Z7 (n j) g⟩
 | L::R,x::E,low,i+1,u,h,hi,_=>by
   obtain⟨q,z,B,n,o⟩:=iP u;obtain⟨r,t,f,g⟩:=iH.1 h;have b:=AA g;simp only[List.eraseIdx_cons_succ];by_cases C:1<R.length
   ·obtain⟨J,K⟩:=Z8 o g pq C;have j:E≠[]:=fun e=>by subst e;simp at b;subst b;simp at C
    have l:E.eraseIdx i≠[]:=fun e=>by
     have:=gP List.length e;rw[List.length_eraseIdx] at this;simp only[lC] at this;split at this<;>omega
    have m:cC (E.eraseIdx i)≠[]:=fun e=>l (gY (by rw[<-tT,e];rfl));rw[Q9 x l];exact⟨nZ q ⟨fun e=>absurd (z.1 e) j,fun e=>absurd e m⟩ B (fun _=>n j) J,iH.2 ⟨r,t,f,K⟩⟩
   ·have H:R.length=1:=yc;have G:i=0:=yc;subst G
    match R,E,H,b with
    | [M],[y],_,_=>
      simp only[List.eraseIdx_cons_zero];refine⟨nZ q ⟨fun _=>rfl,fun _=>rfl⟩ av (fun I=>absurd rfl I) rfl,iH.2 ⟨r,t,⟨fun s F=>⟨(f.1 s F).1,(f.1 s F).2.1,.inl rfl⟩,f.2⟩,rfl⟩⟩
    | [M],[],_,h=>simp at h
    | [M],_::_::_,_,h=>simp at h
 | [],_,_,_,_,_,h,_=>jQ
 | _::_,[],_,_,_,h,_,_=>ko
theorem ak5 {d:DS} {a:Ar} {k:List UInt8} (I:jm d a) {i:Nat} (q:i=bK a.nd.ai k) (h:∃s∈a.ak.getD i [],ax d s=k) (o:fO d k (a.ak.getD i [])=[]) (h1:1<a.ak.length):
 jm d {a with nd:={a.nd with ai:=cC (a.nd.ai.eraseIdx i)},ak:=a.ak.eraseIdx i}/\aX {a with nd:={a.nd with ai:=cC (a.nd.ai.eraseIdx i)},ak:=a.ak.eraseIdx i}=fO d k (aX a):=by
 have s:=I.spec;have b:=s.at k;rw[<-q] at b;have n:=b.lt;have F:=s.mem b.lt;have j:=ia.1 s.node;obtain⟨D,E⟩:=Z8 s.ai s.ak b.lt h1;have r:(cC (a.nd.ai.eraseIdx i)).length=a.nd.ai.length-1:=by rw[tT,List.length_eraseIdx,aC (by rw[<-s.len];exact b.lt)]
 have t:(a.ak.eraseIdx i).length=a.ak.length-1:=by rw[List.length_eraseIdx,aC b.lt]
 have u:=s.len;have g:eC {a.nd with ai:=cC (a.nd.ai.eraseIdx i)}=true:=ia.2 ⟨fj,by have:=j.l2;simp only;omega,j.v1,j.v2,j.x1,j.x2,D⟩;have f:∀x∈cC (a.nd.ai.eraseIdx i),(x.1.length:Int)<=d.bV:=fun x m=>by
  rcases Q8 m with m | m
  ·exact I.short x ((Rb _ _).subset m)
  ·rw[m];have:=(iM s.keyed).2.2.2.2.1;simp;omega
 obtain⟨B,C⟩:=wG.1 s.pages;refine⟨⟨⟨s.keyed,s.base,s.size,g,FP s.keyed g (by have:=s.few;simp only;omega) f,s.level,by have:=s.few;simp only;omega,?_,fj,?_⟩,f⟩,?_⟩
 ·refine wG.2 ⟨fun x m=>⟨av,?_⟩,?_⟩
  ·have l:x.2∈(cC (a.nd.ai.eraseIdx i)).map (·.2):=fT.2 ⟨x,m,rfl⟩;rw[FR] at l;obtain⟨y,z,e⟩:=fT.1 l;rw[<-e];exact(B y ((Rb _ _).subset z)).2
  ·rw[FR];exact QV ((Rb _ _).map _) C
 ·simp only;exact FM (fun _=>.inl jP) E
 ·have:=b.del h;rw[o,FN n] at this;unfold aX;rw[<-this];simp only;rw[Rc];simp
def gS (base:Int):Ar:=⟨base,⟨0,0,[([],base+1)]⟩,[[]]⟩
theorem Rd {d:DS} (f:dA d=true) {base:Int} (hb:eX base=true):jm d (gS base):=by
 obtain⟨e,m,n,o,q,r,t,u,y⟩:=iM f;have z:=oB (qM e).2.2.1;have j:1<=base/\base<=16777208:=PM;have g:eC (gS base).nd=true:=ia.2 ⟨by simp[gS],by simp[gS],by simp[gS],by simp[gS],by simp[gS],by simp[gS],nZ (by simp[gA];omega) av av (fun h=>absurd rfl h) rfl⟩;have b:∀x∈(gS base).nd.ai,(x.1.length:Int)<=d.bV:=fun x i=>by simp[gS] at i;subst i;simp;omega
 refine⟨⟨f,hb,(qM e).2.2.1,g,FP f g (by simp[gS];omega) b,rfl,by simp[gS];omega,by simp[gS,iO];omega,rfl,?_⟩,b⟩;refine iH.2 ⟨fun _=>rfl,?_,⟨fun s l=>by simp at l,by simp[dN]⟩,rfl⟩;unfold eH;rw[(qM e).2.2.1];have:cB []=4:=by rw[oA];rfl
 rw[this];simp[fU];omega
def iI:Int->List aG->List aG
 | _,[]=>[]
 | p,x::E=>(x.1,p)::iI (p+1) E
theorem Ll:∀(E:List aG) (p:Int),(iI p E).length=E.length
 | [],_=>rfl
 | x::E,p=>by simp[iI,Ll E]
theorem Lm:∀{E:List aG} {p:Int} {x:aG},x∈iI p E->(∃y∈E,x.1=y.1)/\p<=x.2/\x.2<p+E.length
 | [],_,_,h=>by simp[iI] at h
 | y::E,p,x,h=>by
   rw[iI] at h;rw[gW];rcases fD.1 h with rfl | h
   ·exact⟨⟨y,av,rfl⟩,fj,by simp only;push_cast;omega⟩
   ·obtain⟨⟨z,b,e⟩,d,f⟩:=Lm h;exact⟨⟨z,by simp[b],e⟩,af,Cz⟩
theorem Z9:∀(E:List aG) (p:Int),((iI p E).map (·.2)).Nodup
 | [],_=>List.Pairwise.nil
 | x::E,p=>by
   rw[iI,dh];refine ug.2 ⟨fun h=>?_,Z9 E _⟩;obtain⟨y,b,e⟩:=fT.1 h;have:=(Lm b).2.1;simp only at e;omega
theorem aaa {E:List aG} {p:Int}:iI p E=[]↔E=[]:=by cases E<;>simp[iI]
theorem aab:∀{E:List aG} {b:List UInt8} {p:Int},1<=p->p+E.length<=16777217->cR b E=true->cR b (iI p E)=true
 | [],_,_,_,_,_=>rfl
 | x::E,b,p,n,d,h=>by
   obtain⟨m,f,g,i,j⟩:=iP h;rw[gW] at d
   push_cast at d
   exact nZ (by unfold gA;simp;omega) (by rw[aaa];exact f) g (fun l=>i (fun e=>l (aaa.2 e))) (aab af af j)
theorem aac {d:DS} {many:Bool}:∀{V:List aB} {E:List aG} {low:List UInt8} {p:Int},fC d many low V E=true->fC d many low V (iI p E)=true
 | [],[],_,_,_=>rfl
 | L::R,x::E,low,p,h=>by
   obtain⟨b,e,f,g⟩:=iH.1 h;exact iH.2 ⟨b,e,f,aac g⟩
 | [],_::_,_,_,h=>ko
 | _::_,[],_,_,h=>ko
theorem aad {d:DS} {many:Bool}:∀{k:Nat} {V:List aB} {E:List aG} {low:List UInt8},cR low E=true->fC d many low V E=true->1<=k->k<E.length->cR low (cC (E.take k))=true/\fC d many low (V.take k) (cC (E.take k))=true
 | 1,L::R,x::E,low,m,h,_,_=>by
   obtain⟨i,n,o,q,r⟩:=iP m;obtain⟨j,l,b,t⟩:=iH.1 h;simp only[cY,eF,cC];exact⟨nZ i ⟨fun _=>rfl,fun _=>rfl⟩ av (fun B=>absurd rfl B) rfl,iH.2 ⟨j,l,⟨fun s z=>⟨(b.1 s z).1,(b.1 s z).2.1,.inl rfl⟩,b.2⟩,rfl⟩⟩
 | k+2,L::R,x::E,low,m,h,_,y=>by
   obtain⟨i,n,o,q,r⟩:=iP m;obtain⟨j,l,b,t⟩:=iH.1 h;rw[gW] at y;have u:E≠[]:=fun e=>by subst e;simp at y
   obtain⟨C,D⟩:=aad (k:=k+1) r t af af;have f:E.take (k+1)≠[]:=fun e=>by
    exact Pf
   have g:cC (E.take (k+1))≠[]:=fun e=>f (gY (by rw[<-tT,e];rfl));rw[cY,cY,Q9 x f];exact⟨nZ i ⟨fun e=>absurd (n.1 e) u,fun e=>absurd e g⟩ o (fun _=>q u) C,iH.2 ⟨j,l,b,D⟩⟩
 | 0,_,_,_,_,_,h,_=>af
 | _+1,[],_::_,_,_,h,_,_=>ko
 | _+1,_::_,[],_,_,h,_,_=>ko
 | _+1,[],[],_,_,_,_,h=>jQ
theorem aae {d:DS} {many:Bool}:∀{k:Nat} {V:List aB} {E:List aG} {low:List UInt8},cR low E=true->fC d many low V E=true->k+1<E.length->
 cR (au E k).1 (E.drop (k+1))=true/\fC d many (au E k).1 (V.drop (k+1)) (E.drop (k+1))=true/\bl low (au E k).1=true/\(∀s∈(V.take (k+1)).flatten,bl (ax d s) (au E k).1=true)
 | 0,L::R,x::E,low,r,h,i=>by
   obtain⟨u,l,y,m,n⟩:=iP r;obtain⟨z,B,o,q⟩:=iH.1 h;have g:E≠[]:=fun e=>by subst e;simp at i
   have j:au (x::E) 0=x:=rfl;rw[j];refine⟨n,q,m g,fun s b=>?_⟩;rcases(o.1 s (by simpa using b)).2.2 with f | f
   ·exact absurd (l.1 f) g
   ·exact f
 | k+1,L::R,x::E,low,r,h,i=>by
   obtain⟨u,l,y,m,n⟩:=iP r;obtain⟨z,B,o,q⟩:=iH.1 h;rw[gW] at i;have g:E≠[]:=fun e=>by subst e;simp at i
   obtain⟨C,D,t,F⟩:=aae (k:=k) n q af;have j:au (x::E) (k+1)=au E k:=by simp[au]
   rw[j];refine⟨C,D,iN (m g) t,fun s b=>?_⟩;rw[cY,Ab,iG] at b;rcases b with b | b
   ·rcases(o.1 s b).2.2 with f | f
    ·exact absurd (l.1 f) g
    ·exact iN f t
   ·exact F s b
 | _,[],_::_,_,_,h,_=>ko
 | _,_::_,[],_,_,h,_=>ko
 | _,[],[],_,_,_,h=>jQ
def oC (a:Ar) (base:Int):Ar:=⟨a.base,⟨a.nd.level,base,cC (a.nd.ai.take ((a.nd.ai.length+1)/2))⟩,a.ak.take ((a.nd.ai.length+1)/2)⟩
def oD (a:Ar) (base:Int):Ar:=⟨base,⟨a.nd.level,a.nd.next,iI (base+1) (a.nd.ai.drop ((a.nd.ai.length+1)/2))⟩,a.ak.drop ((a.nd.ai.length+1)/2)⟩
def gK (a:Ar):List UInt8:=(au a.nd.ai ((a.nd.ai.length+1)/2-1)).1
theorem aaf {d:DS} {a:Ar} (I:jm d a) {base:Int} (hb:eX base=true) (Z:1<a.nd.ai.length):
 jm d (oC a base)/\jm d (oD a base)/\aX (oC a base)++aX (oD a base)=aX a/\(∀s∈aX (oC a base),bl (ax d s) (gK a)=true)/\(∀s∈aX (oD a base),bl (ax d s) (gK a)=false)/\aX (oC a base)≠[]/\aX (oD a base)≠[]/\gK a≠[]:=by
 have s:=I.spec;have f:=ia.1 s.node;have S:=s.len;have H:=s.few;obtain⟨k1,k2,k3,k4,k5,k6,k7,k8,k9⟩:=iM s.keyed;have N:1<=base/\base<=16777208:=PM;have u:decide (1<a.ak.length)=true:=aY;have g:=s.ak;rw[u] at g;have C:1<=(a.nd.ai.length+1)/2/\(a.nd.ai.length+1)/2<a.nd.ai.length:=af;unfold oC oD gK;generalize O:(a.nd.ai.length+1)/2=k at *;obtain⟨k,rfl⟩:∃j,k=j+1:=⟨k-1,af⟩;rw[C6];obtain⟨X,Y⟩:=aad s.ai g C.1 C.2;obtain⟨J,K,r3,r4⟩:=aae s.ai g C.2;obtain⟨T,U⟩:=wG.1 s.pages;have E:(cC (a.nd.ai.take (k+1))).length=k+1:=PN;have D:(iI (base+1) (a.nd.ai.drop (k+1))).length=a.nd.ai.length-(k+1):=by rw[Ll,eU]
 have Q:(a.nd.ai.drop (k+1)).length=a.nd.ai.length-(k+1):=eU;have q:∀x∈cC (a.nd.ai.take (k+1)),(x.1.length:Int)<=d.bV:=fun x l=>by
  rcases Q8 l with l | l
  ·exact I.short x (yI l)
  ·rw[l];simp;omega
 have r:∀x∈iI (base+1) (a.nd.ai.drop (k+1)),(x.1.length:Int)<=d.bV:=fun x l=>by
  obtain⟨⟨y,G,e⟩,_⟩:=Lm l;rw[e];exact I.short y (uh G)
 have z:eC ⟨a.nd.level,base,cC (a.nd.ai.take (k+1))⟩=true:=ia.2 ⟨fj,by have:=f.l2;simp only;omega,f.v1,f.v2,fj,fj,X⟩;have B:eC ⟨a.nd.level,a.nd.next,iI (base+1) (a.nd.ai.drop (k+1))⟩=true:=ia.2 ⟨fj,by have:=f.l2;simp only;omega,f.v1,f.v2,f.x1,f.x2,Ra (b:=(au a.nd.ai k).1) r3 (aab af af J)⟩;have m:∀L∈a.ak,L≠[]:=fun L n e=>by
  have:=(FL g L n).2.2.2 e;cases this
 have i:∀V:List aB,V≠[]->(∀L∈V,L∈a.ak)->V.flatten≠[]:=fun V M R e=>by
  obtain⟨L,n⟩:=FO V M;exact m L (R L n) (by rw[List.flatten_eq_nil_iff] at e;exact e L n)
 refine⟨⟨⟨s.keyed,s.base,s.size,z,FP s.keyed z fj q,s.level,fj,?_,by simp only;rw[E,gF];omega,?_⟩,q⟩,
  ⟨⟨s.keyed,hb,s.size,B,FP s.keyed B fj r,s.level,fj,?_,by simp only;rw[D,eU];omega,?_⟩,r⟩,?_,?_,?_,?_,?_,?_⟩
 ·refine wG.2 ⟨fun x l=>⟨av,?_⟩,?_⟩
  ·have o:x.2∈(cC (a.nd.ai.take (k+1))).map (·.2):=fT.2 ⟨x,l,rfl⟩;rw[FR] at o;obtain⟨y,G,e⟩:=fT.1 o;rw[<-e];exact(T y (yI G)).2
  ·rw[FR];exact QV ((List.take_sublist _ _).map _) U
 ·exact FM (fun _=>.inl rfl) Y
 ·refine wG.2 ⟨fun x l=>⟨av,?_⟩,Z9 _ _⟩;have:=(Lm l).2;simp only at this⊢;omega
 ·exact FM (fun _=>.inl rfl) (Z7 r3 (aac K))
 ·unfold aX;simp only;rw[<-Al,pM]
 ·exact fun t F=>r4 t F
 ·exact fun t F=>Le J K t F
 ·exact i _ (fun e=>by have:=gP List.length e;rw[gF] at this;simp only[lC] at this;omega) (fun L n=>yI n)
 ·exact i _ (fun e=>by have:=gP List.length e;rw[eU] at this;simp only[lC] at this;omega) (fun L n=>uh n)
 ·exact fun e=>by rw[e,uQ] at r3;cases r3
def sS (E:List aG) (i:Nat):List UInt8:=if i=0 then[] else(au E (i-1)).1
theorem aag (E:List aG) (i:Nat):sS E (i+1)=(au E i).1:=rfl
theorem aah {d:DS} {many:Bool}:∀{V:List aB} {E:List aG} {low:List UInt8} {i:Nat},fC d many low V E=true->i<V.length->
 eH d.interval (V.getD i [])=true/\(V.getD i []=[]->many=false)/\(∀s∈V.getD i [],Az d (if i=0 then low else(au E (i-1)).1) (au E i).1 s)/\dN d (V.getD i [])
 | [],_,_,_,_,h=>jQ
 | L::V,[],_,_,h,_=>ko
 | L::V,x::E,low,0,h,_=>by
   obtain⟨j,l,⟨m,n⟩,_⟩:=iH.1 h;exact⟨l,j,m,n⟩
 | L::V,x::E,low,i+1,h,hi=>by
   obtain⟨_,_,_,o⟩:=iH.1 h;obtain⟨b,e,f,g⟩:=aah (i:=i) o pq;refine⟨b,e,fun s q=>?_,g⟩;have:=f s q;cases i with
   | zero=>exact this
   | succ i=>exact this
theorem fP.iv {d:DS} {a:Ar} (s:fP d a) {i:Nat} (l:i<a.ak.length):
 eH d.interval (a.ak.getD i [])=true/\(a.ak.getD i []=[]->a.ak.length=1)/\(∀t∈a.ak.getD i [],Az d (sS a.nd.ai i) (au a.nd.ai i).1 t)/\dN d (a.ak.getD i []):=by
 obtain⟨b,f,g,j⟩:=aah s.ak l;refine⟨b,fun e=>?_,g,j⟩;have:=f e;simp at this;omega
theorem aai:∀{L:aB},(∀s∈L,1<=s.length)->L.length<=cM L/\∀s∈L,s.length<=cM L
 | [],_=>by simp[cM]
 | x::L,h=>by
   obtain⟨f,d⟩:=aai (L:=L) (fun s b=>h s (by simp[b]));have g:=h x av;have e:cM (x::L)=x.length+cM L:=by simp[cM]
   refine⟨by rw[e,gW];omega,fun s b=>?_⟩;rw[e];rcases fD.1 b with rfl | b
   ·omega
   ·have:=d s b;omega
theorem JY {size:Int} {L:aB} (h:eH size L=true):L.length<=512/\∀s∈L,s.length<=512:=by
 obtain⟨e,f,i⟩:=C5 h;have l:=oB e;obtain⟨g,d⟩:=aai (L:=L) (fun s b=>by have:=FQ.1 f s b;unfold qI at this;simp at this;omega);have j:=oA L;refine⟨af,fun s b=>?_⟩;have:=d s b;omega
theorem Ln {d:DS} {L:aB} (h:dN d L) {i j:Nat} (b:i<j) (e:j<L.length):bl (ax d (L.getD i [])) (ax d (L.getD j []))=true:=by
 have l:=ue.1 h i j af e b;have f:L.getD i []=L[i]' af:=by simp[List.getD,iB (show i<L.length by omega)]
 have g:L.getD j []=L[j]'e:=by simp[List.getD,iB e]
 rw[f,g];exact l
theorem aaj {L:aB} {i:Nat} (h:i<L.length):L.getD i []∈L:=by simp[List.getD,iB h]
def AF (d:DS) (k:List UInt8):aB->Nat
 | []=>0
 | s::L=>if bl (ax d s) k=true then AF d k L+1 else 0
def oF (d:DS) (k:List UInt8) (L:aB):Bool:=match L.drop (AF d k L) with
 | []=>false
 | s::_=>ax d s==k
theorem Re {d:DS} {k:List UInt8}:∀{L:aB},oF d k L=true->AF d k L<L.length/\fO d k L=L.take (AF d k L)++L.drop (AF d k L+1)/\∃s∈L,ax d s=k
 | [],h=>by simp[oF] at h
 | s::L,h=>by
   unfold oF at h;rw[fO,AF] at *;split
   ·rename_i b;rw[aC b,dV] at h;obtain⟨e,f,t,g,i⟩:=Re (L:=L) h;refine⟨by simpa using e,?_,t,by simp[g],i⟩;rw[aA (lZ b),f,cY,dV,bE]
   ·rename_i b;rw[aA b] at h;simp only[dP,jT] at h;rw[aC h];exact⟨av,rfl,s,av,h⟩
theorem Rf {d:DS} {k:List UInt8}:∀{L:aB},dN d L->(oF d k L=true↔∃s∈L,ax d s=k)
 | [],_=>by simp[oF]
 | s::L,h=>by
   unfold dN at h;rw[lM] at h;have e:=Rf (d:=d) (k:=k) (L:=L) h.2;unfold oF at e⊢;rw[AF];by_cases b:bl (ax d s) k=true
   ·rw[aC b,dV,e];simp only[fD,exists_eq_or_imp];constructor
    ·exact .inr
    ·rintro(h | h)
     ·exact absurd h (lZ b)
     ·exact h
   ·rw[aA b];simp only[dP,jT,fD,exists_eq_or_imp];constructor
    ·exact .inl
    ·rintro(f | ⟨t,g,rfl⟩)
     ·exact f
     ·exact absurd (h.1 t g) b
end aD

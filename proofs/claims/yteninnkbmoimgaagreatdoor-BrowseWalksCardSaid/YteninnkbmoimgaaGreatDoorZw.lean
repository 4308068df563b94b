/- A part of the proof. -/
import Derived.Test.YteninnkbmoimgaaGreatDoorBase
set_option linter.unusedSimpArgs false
set_option linter.unusedVariables false
set_option maxRecDepth 100000
set_option maxHeartbeats 16000000
namespace aD
def fY (c n:Nat):List UInt8:=[UInt8.ofNat c,UInt8.ofNat n,UInt8.ofNat (n/256)]
theorem ofNat_mod (n:Nat):UInt8.ofNat (n%256)=UInt8.ofNat n:=CI.1 (by simp)
theorem aj6 (c n:Nat):fY c n=[UInt8.ofNat c,UInt8.ofNat (n%256),UInt8.ofNat (n/256%256)]:=by simp only[fY,ofNat_mod]
@[go_sem] theorem jX (c n:Nat):(fY c n).length=3:=rfl
def cU:List (List UInt8)->List (Nat×Nat)
 | []=>[]
 | x::xs=>match cU xs with
   | []=>[(1,x.length)]
   | (n,b)::r=>if b=x.length then(n+1,b)::r else(1,x.length)::(n,b)::r
def jj (r:Nat×Nat):List UInt8:=if 1<r.1 then fY 8 r.1++fY 64 r.2 else fY 0 r.2
def fK (L:List (List UInt8)):List UInt8:=(cU L).reverse.flatMap jj
def jJ:List (List UInt8)->Nat
 | []=>1
 | x::xs=>1+(xs.takeWhile fun y=>y.length==x.length).length
def cM (L:List (List UInt8)):Nat:=(L.map List.length).sum
def cB (L:List (List UInt8)):Nat:=4+(fK L).length+cM L
def rH (c f:Nat):List UInt8:=[UInt8.ofNat c,UInt8.ofNat (c/256),UInt8.ofNat f,UInt8.ofNat (f/256)]
def qL (size:Nat) (b d:List UInt8):List UInt8:=
 let free:=size-4-b.length-d.length
 b++List.replicate free 0++d++rH b.length free
theorem Zd (L:List (List UInt8)) (m k:Nat) (o:1<=k) (g:m+k<=L.length) (e:∀j,j<k->(L.getD (m+j) []).length=(L.getD m []).length)
 (d:m+k<L.length->(L.getD (m+k) []).length≠(L.getD m []).length):jJ (L.drop m)=k:=by
 have b:m<L.length:=by omega
 rw[gz b];show 1+(List.takeWhile _ _).length=k;have l:L[m]=L.getD m []:=by simp[List.getD,b]
 rw[l];generalize(L.getD m []).length=z at *
 suffices H:∀(k m:Nat),m+k<=L.length->(∀j,j<k->(L.getD (m+j) []).length=z)->(m+k<L.length->(L.getD (m+k) []).length≠z)->
  ((L.drop m).takeWhile fun y=>y.length==z).length=k by
  have:=H (k-1) (m+1) (by omega) (fun j i=>by have:=e (1+j) (by omega);rwa[<-sD] at this) (by
   rw[show m+1+(k-1)=m+k by omega];exact d)
  omega
 intro k;induction k with
 | zero=>
   intro m _ _ d;by_cases b:m<L.length
   ·rw[gz b,List.takeWhile_cons];have:=d (by omega);simp[List.getD,b] at this;simp[this]
   ·simp[jI (xU b)]
 | succ k n=>
   intro m g e d;have b:m<L.length:=by omega
   rw[gz b,List.takeWhile_cons];have f:=e 0 (by omega);simp[List.getD,b] at f;simp only[f,beq_self_eq_true,pF,gW];rw[n (m+1) (by omega) (fun j i=>by have:=e (j+1) (by omega);rwa[show m+(j+1)=m+1+j by omega] at this) (by
    rw[show m+1+k=m+(k+1) by omega];exact d)]
theorem Zf (L:List (List UInt8)):1<=jJ L:=by cases L<;>simp[jJ]
theorem Qt (x:List UInt8) (L:List (List UInt8)):jJ (x::L)<=(x::L).length:=by
 have:=(List.takeWhile_sublist (fun y:List UInt8=>y.length==x.length) (l:=L)).length_le;simp only[jJ,gW];omega
theorem Zk (x:List UInt8) (L:List (List UInt8)):cU (x::L)=(jJ (x::L),x.length)::cU ((x::L).drop (jJ (x::L))):=by
 induction L generalizing x with
 | nil=>simp[cU,jJ]
 | cons y L b=>
   rw[cU,b y];simp only;by_cases h:y.length=x.length
   ·rw[aC h];have e:jJ (x::y::L)=jJ (y::L)+1:=by simp[jJ,h];omega
    rw[e];simp[h]
   ·rw[aA h];have e:jJ (x::y::L)=1:=by simp[jJ,h]
    rw[e,List.drop_one,List.tail_cons,b y]
theorem KT:fK []=[]:=rfl
theorem Zr (x:List UInt8) (L:List (List UInt8)):fK (x::L)=fK ((x::L).drop (jJ (x::L)))++jj (jJ (x::L),x.length):=by
 unfold fK;rw[Zk x L];simp
theorem aka (L:List (List UInt8)) (i:Nat) (b:i<L.length):fK (L.drop i)=fK (L.drop (i+jJ (L.drop i)))++jj (jJ (L.drop i),(L.getD i []).length):=by
 have e:L.drop i=L[i]::L.drop (i+1):=gz b;have h:=Zr L[i] (L.drop (i+1));rw[<-e] at h;rw[h,sN];simp[List.getD,b]
theorem FB (r:Nat×Nat):(jj r).length=if 1<r.1 then 6 else 3:=by unfold jj;split<;>simp[jX]
theorem Qs (L:List (List UInt8)):(fK L).length<=6*L.length:=by
 suffices H:∀n (L:List (List UInt8)),L.length<=n->(fK L).length<=6*L.length from H _ L (aH _)
 intro n;induction n with
 | zero=>intro L h;have:L=[]:=gY (by omega);subst this;simp[KT]
 | succ n d=>
   intro L h;cases L with
   | nil=>simp[KT]
   | cons x L=>
     rw[Zr,ew,FB];have e:=Zf (x::L);have f:=Qt x L;have b:=d ((x::L).drop (jJ (x::L))) (by rw[eU];omega);rw[eU] at b;split<;>omega
def cQ (n:Int):Bool:=n==128||n==256||n==512
def qI (s:List UInt8):Bool:=decide (1<=s.length/\s.length<=200)
def fU (L:List (List UInt8)):Bool:=L.all qI
theorem Zs {n:Int} (h:cQ n=true):n=128∨n=256∨n=512:=by simp[cQ] at h;omega
theorem yC {n:Int} (h:cQ n=true):∃k:Nat,n=k/\(k=128∨k=256∨k=512):=by
 rcases Zs h with rfl | rfl | rfl
 ·exact⟨128,rfl,by simp⟩
 ·exact⟨256,rfl,by simp⟩
 ·exact⟨512,rfl,by simp⟩
def gR (size:Int) (L:List (List UInt8)):Int:=if cQ size=false then 1 else if fU L=false then 2 else if size<cB L then 8 else 0
def iL (size:Int) (L:List (List UInt8)):List UInt8:=if gR size L=0 then qL size.toNat L.flatten (fK L) else[]
def lI (d:List UInt8) (size e:Nat):Nat->Int->List Int->List Int
 | 0,_,b=>b
 | f+1,x,b=>
   if(e:Int)<=x/\0<=x then
    if aL d x.toNat=0 then lI d size e f (x-3) (b++[((two d (x+1).toNat:Nat):Int)])
    else if aL d x.toNat=64/\(e:Int)<=x-3/\aL d (x-3).toNat=8 then
     lI d size e f (x-3-3) (b++List.replicate (min (two d (x-2).toNat) size) ((two d (x+1).toNat:Nat):Int))
    else[-1]
   else b
def gJ (d:List UInt8) (size:Nat):Nat:=two d (size-4)+two d (size-2)
def qH (size:Nat) (d:List UInt8):List Int:=lI d size (gJ d size) size (size-7) []
section
variable {d:List UInt8} {size en f:Nat} {x:Int} {out:List Int}
theorem YK (h:¬((en:Int)<=x/\0<=x)):lI d size en f x out=out:=by
 cases f with
 | zero=>rfl
 | succ f=>rw[lI,aA h]
theorem YI (b:(en:Int)<=x) (e:0<=x) (h:aL d x.toNat=0):lI d size en (f+1) x out=lI d size en f (x-3) (out++[((two d (x+1).toNat:Nat):Int)]):=by
 rw[lI,aC ⟨b,e⟩,aC h]
theorem YJ (b:(en:Int)<=x) (e:0<=x) (h:aL d x.toNat=64) (g:(en:Int)<=x-3) (i:aL d (x-3).toNat=8):
 lI d size en (f+1) x out=lI d size en f (x-3-3) (out++List.replicate (min (two d (x-2).toNat) size) ((two d (x+1).toNat:Nat):Int)):=by
 rw[lI,aC ⟨b,e⟩,aA (by omega),aC ⟨h,g,i⟩]
theorem ajW (b:(en:Int)<=x) (e:0<=x) (h:aL d x.toNat≠0) (g:¬(aL d x.toNat=64/\(en:Int)<=x-3/\aL d (x-3).toNat=8)):lI d size en (f+1) x out=[-1]:=by
 rw[lI,aC ⟨b,e⟩,aA h,aA g]
end
theorem Qx (d:List UInt8) (size en:Nat) (b:1<=size):∀(f:Nat) (x:Int) (out:List Int),(lI d size en f x out).length<=max 1 (out.length+size*f)
 | 0,x,out=>by simp[lI];omega
 | f+1,x,out=>by
   have e:size*(f+1)=size*f+size:=Nat.mul_succ _ _;rw[lI];split
   ·split
    ·have:=Qx d size en b f (x-3) (out++[((two d (x+1).toNat:Nat):Int)]);simp at this⊢;omega
    ·split
     ·have:=Qx d size en b f (x-3-3) (out++List.replicate (min (two d (x-2).toNat) size) ((two d (x+1).toNat:Nat):Int));simp at this⊢;omega
     ·simp;omega
   ·omega
theorem akp (d:List UInt8) (size:Nat) (b:1<=size) (h:size<=512):(qH size d).length<=262144:=by
 have:=Qx d size (gJ d size) b size (size-7) [];have e:size*size<=512*512:=CJ h h;unfold qH;simp at this;omega
def eL (size:Int) (L:List (List UInt8)) (d:List UInt8):Prop:=gR size L=0/\iL size L=d
def jY (size:Int) (d:List UInt8):Int:=if cQ size=false then 1 else if(d.length:Int)≠size then 11 else if(d==List.replicate d.length 0)=true then 9 else 11
theorem FC (x:List UInt8) (L:List (List UInt8)):cM (x::L)=x.length+cM L:=by simp[cM]
theorem akq (A B:List (List UInt8)):cM (A++B)=cM A+cM B:=by simp[cM]
theorem tZ (L:List (List UInt8)):L.flatten.length=cM L:=by simp[cM,List.length_flatten]
theorem Zt (A B:List (List UInt8)) (h:(A.map fun s=>(s.length:Int))=B.map fun s=>(s.length:Int)):cM A=cM B:=by
 induction A generalizing B with
 | nil=>cases B with
   | nil=>rfl
   | cons b B=>simp at h
 | cons a A e=>cases B with
   | nil=>simp at h
   | cons b B=>
     simp at h;rw[FC,FC,e B (by simpa using h.2)];omega
theorem akr (A B:List (List UInt8)) (h:(A.map fun s=>(s.length:Int))=B.map fun s=>(s.length:Int)) (g:A.flatten=B.flatten):A=B:=by
 induction A generalizing B with
 | nil=>cases B with
   | nil=>rfl
   | cons b B=>simp at h
 | cons a A j=>cases B with
   | nil=>simp at h
   | cons b B=>
     simp at h g;have i:a.length=b.length:=by omega
     have e:=List.append_inj g i;rw[e.1,j B (by simpa using h.2) e.2]
theorem Am {size:Int} {L:List (List UInt8)} (h:gR size L=0):cQ size=true/\fU L=true/\(cB L:Int)<=size:=by
 unfold gR at h;split at h
 ·simp at h
 ·split at h
  ·simp at h
  ·split at h
   ·simp at h
   ·rename_i b e g;exact⟨by simpa using b,by simpa using e,by omega⟩
theorem Qy {size:Int} {L:List (List UInt8)} {d:List UInt8} (h:eL size L d):d=qL size.toNat L.flatten (fK L):=by
 obtain⟨b,e⟩:=h;rw[<-e,iL,aC b]
theorem KZ {size:Int} {L:List (List UInt8)} {d:List UInt8} (h:eL size L d):(cM L:Int)+4+(fK L).length<=size:=by
 have:=(Am h.1).2.2;unfold cB at this;omega
theorem Zu {size:Int} {L:List (List UInt8)} {d:List UInt8} (h:eL size L d):d.take (cM L)=L.flatten:=by
 rw[Qy h,qL];simp only[jk];rw[List.take_append_of_le_length (by rw[tZ];exact aH _)];exact mC (by rw[tZ];exact aH _)
theorem aks (n:Nat) (c f:List UInt8) (h:4+c.length+f.length<=n):(qL n c f).length=n:=by
 simp[qL,rH];omega
theorem Qz {size:Int} {L:List (List UInt8)} {d:List UInt8} (h:eL size L d):(d.length:Int)=size:=by
 have e:=KZ h;have b:=yC (Am h.1).1;obtain⟨k,rfl,_⟩:=b;rw[Qy h,jU,aks _ _ _ (by rw[tZ];omega)]
theorem akt {size:Int} {L out:List (List UInt8)} {d:List UInt8} {R:List Int} {k a:Nat} (h:eL size L d) (j:R=L.map fun s=>(s.length:Int)) (m:k<R.length)
 (n:(out.map fun s=>(s.length:Int))=R.take k) (l:out.flatten.length=a):0<=R.getD k 0/\(a:Int)+R.getD k 0<=size:=by
 subst j;have b:k<L.length:=by simpa using m
 have i:((L.map fun s=>(s.length:Int)).getD k 0)=(L.getD k []).length:=by simp[List.getD,b]
 have r:cM out=cM (L.take k):=Zt _ _ (by rw[n,Ao]);rw[tZ] at l;have t:cM (L.take k)+(L.getD k []).length<=cM L:=by
  have e:L=L.take k++L.drop k:=(pM k L).symm;have g:L.drop k=L[k]::L.drop (k+1):=gz b;have o:cM L=cM (L.take k)+(L[k].length+cM (L.drop (k+1))):=by
   conv=>lhs;rw[e]
   rw[akq,g,FC]
  have q:(L.getD k []).length=L[k].length:=by simp[List.getD,b]
  omega
 have u:=KZ h;rw[i];omega
theorem QA {size:Int} {L out:List (List UInt8)} {d:List UInt8} {R:List Int} {a:Nat} (h:eL size L d) (i:R=L.map fun s=>(s.length:Int))
 (e:(out.map fun s=>(s.length:Int))=R) (j:out.flatten=d.take a) (b:out.flatten.length=a):out=L:=by
 subst i;refine akr out L e ?_;have g:=Zt _ _ e;rw[tZ,g] at b;rw[j,<-b,Zu h]
theorem QB (d:List UInt8) (size en:Nat):∀(f:Nat) (x:Int) (out:List Int),(∀y∈out,y<=65535)->∀y∈lI d size en f x out,y<=65535
 | 0,x,out,h=>by simpa[lI] using h
 | f+1,x,out,h=>by
   have t:=yp d (x+1).toNat;rw[lI];split
   ·split
    ·refine QB d size en f _ _ ?_;intro y b;rw[iG] at b;rcases b with b | b
     ·exact h y b
     ·simp at b;omega
    ·split
     ·refine QB d size en f _ _ ?_;intro y b;rw[iG] at b;rcases b with b | b
      ·exact h y b
      ·have:=List.eq_of_mem_replicate b;omega
     ·simp
   ·exact h
theorem aku (d:List UInt8) (size k:Nat):(qH size d).getD k 0<=65535:=by
 by_cases b:k<(qH size d).length
 ·have:=QB d size (gJ d size) size (size-7) [] (by simp) ((qH size d).getD k 0) (by
   have:(qH size d).getD k 0∈qH size d:=by simp[List.getD,b]
   exact this)
  exact this
 ·simp[List.getD,tL (xU b)]
def jd (rs:List (Nat×Nat)):List Nat:=rs.flatMap fun r=>List.replicate r.1 r.2
theorem yD (L:List (List UInt8)):jd (cU L)=L.map List.length:=by
 induction L with
 | nil=>rfl
 | cons x xs b=>
   rw[cU];cases h:cU xs with
   | nil=>rw[h] at b;simp[jd] at b⊢;exact b
   | cons r rs=>
     obtain⟨n,g⟩:=r;rw[h] at b;simp only;split
     ·rename_i e;subst e;simp[jd] at b⊢;rw[K1,bE,b]
     ·simp[jd] at b⊢;exact b
theorem wE (L:List (List UInt8)):∀r∈cU L,1<=r.1:=by
 induction L with
 | nil=>simp[cU]
 | cons x xs e=>
   rw[cU];cases h:cU xs with
   | nil=>simp
   | cons r rs=>
     obtain⟨n,g⟩:=r;rw[h] at e;simp only;split
     ·intro r b;rw[fD] at b;rcases b with rfl | b
      ·simp
      ·exact e r (by simp[b])
     ·intro r b;rw[fD] at b;rcases b with rfl | b
      ·simp
      ·exact e r b
theorem QC (L:List (List UInt8)):∀r∈cU L,∃s∈L,s.length=r.2:=by
 induction L with
 | nil=>simp[cU]
 | cons x xs i=>
   rw[cU];cases h:cU xs with
   | nil=>intro r b;simp at b;subst b;exact⟨x,by simp,rfl⟩
   | cons r rs=>
     obtain⟨n,j⟩:=r;rw[h] at i;simp only;split
     ·rename_i e;intro r b;rw[fD] at b;rcases b with rfl | b
      ·exact⟨x,by simp,e.symm⟩
      ·obtain⟨s,g,e⟩:=i r (by simp[b]);exact⟨s,by simp[g],e⟩
     ·intro r b;rw[fD] at b;rcases b with rfl | b
      ·exact⟨x,by simp,rfl⟩
      ·obtain⟨s,g,e⟩:=i r b;exact⟨s,by simp[g],e⟩
theorem KY (rs:List (Nat×Nat)) (h:∀r∈rs,1<=r.1):rs.length<=(jd rs).length/\∀r∈rs,r.1<=(jd rs).length:=by
 induction rs with
 | nil=>simp
 | cons r rs j=>
   have l:=h r (by simp);obtain⟨m,g⟩:=j (fun r i=>h r (by simp[i]));have e:(jd (r::rs)).length=r.1+(jd rs).length:=by simp[jd]
   rw[e];refine⟨by simp;omega,fun q b=>?_⟩;rw[fD] at b;rcases b with rfl | b
   ·omega
   ·have:=g q b;omega
theorem sO (A B:List UInt8) (i:Nat):aL (A++B) i=if i<A.length then aL A i else aL B (i-A.length):=by
 unfold aL;split
 ·rename_i h;simp[List.getD,rF h]
 ·rename_i h;simp[List.getD,CU (xU h)]
theorem akv (a b c:Nat) (e:a<256):aL [UInt8.ofNat a,UInt8.ofNat b,UInt8.ofNat c] 0=a/\aL [UInt8.ofNat a,UInt8.ofNat b,UInt8.ofNat c] 1=b%256/\aL [UInt8.ofNat a,UInt8.ofNat b,UInt8.ofNat c] 2=c%256:=by
 refine⟨?_,?_,?_⟩<;>simp[aL,List.getD]<;>omega
theorem CV (c n:Nat) (i:c<256):aL (fY c n) 0=c/\aL (fY c n) 1+256*aL (fY c n) 2=n%65536:=by
 obtain⟨b,e,g⟩:=akv c n (n/256) i;unfold fY;rw[b,e,g];exact⟨rfl,by omega⟩
def di (rs:List (Nat×Nat)):List UInt8:=rs.reverse.flatMap jj
theorem CW (r:Nat×Nat) (rs:List (Nat×Nat)):di (r::rs)=di rs++jj r:=by simp[di]
theorem Zv (d:List UInt8) (size en:Nat):∀(rs:List (Nat×Nat)) (f:Nat) (x:Int) (out:List Int),rs.length<=f->(∀r∈rs,1<=r.1/\r.1<=size/\r.1<65536/\r.2<65536)->
 (∀i,i<(di rs).length->aL d (en+i)=aL (di rs) i)->x=(en:Int)+(di rs).length-3->lI d size en f x out=out++(jd rs).map (fun(n:Nat)=>(n:Int))
 | [],f,x,out,_,_,_,g=>by
   rw[YK (by simp[di] at g;omega)];simp[jd]
 | r::rs,0,x,out,C,_,_,_=>by simp at C
 | (n,b)::rs,f+1,x,out,C,M,B,g=>by
   obtain⟨Q,K,R,S⟩:=M (n,b) (by simp);simp only at Q K R S;rw[CW] at B g;have t:(di rs++jj (n,b)).length=(di rs).length+(jj (n,b)).length:=by simp
   have j:∀i,i<(di rs).length->aL d (en+i)=aL (di rs) i:=fun i L=>by
    rw[B i (by omega),sO,aC L]
   have e:∀i,i<(jj (n,b)).length->aL d (en+(di rs).length+i)=aL (jj (n,b)) i:=fun i L=>by
    rw[sD,B _ (by omega),sO,aA (by omega)];congr 1;omega
   have N:=fun x out g=>Zv d size en rs f x out (by simp at C;omega) (fun r G=>M r (by simp[G])) j g;have D:jd ((n,b)::rs)=List.replicate n b++jd rs:=by simp[jd]
   rw[D];generalize hE:(di rs).length=E at *;by_cases T:1<n
   ·have l:jj (n,b)=fY 8 n++fY 64 b:=by simp[jj,T]
    rw[l] at e g t;simp[jX] at g t;obtain⟨a1,a2⟩:=CV 8 n (by omega);obtain⟨O,P⟩:=CV 64 b (by omega);have V:(fY 8 n).length=3:=rfl;have m:=e 0 (by simp[jX]);have o:=e 1 (by simp[jX]);have q:=e 2 (by simp[jX]);have u:=e 3 (by simp[jX]);have y:=e 4 (by simp[jX]);have z:=e 5 (by simp[jX]);rw[sO] at m o q u y z;simp only[V] at m o q u y z;simp at m o q u y z;have U:x=(en:Int)+E+3:=by omega
    have I:x.toNat=en+E+3:=by omega
    have J:(x+1).toNat=en+E+4:=by omega
    have Z:(x-3).toNat=en+E:=by omega
    have Y:(x-2).toNat=en+E+1:=by omega
    rw[YJ (by omega) (by omega) (by rw[I];omega) (by omega) (by rw[Z];omega)];rw[N _ _ (by omega),J,Y];have H:two d (en+E+4)=b:=by unfold two;rw[show en+E+4+1=en+E+5 from rfl];omega
    have X:two d (en+E+1)=n:=by unfold two;rw[show en+E+1+1=en+E+2 from rfl];omega
    rw[H,X,Ap K];simp
   ·have F:n=1:=by omega
    subst F;have l:jj (1,b)=fY 0 b:=by simp[jj]
    rw[l] at e g t;simp[jX] at g t;obtain⟨O,P⟩:=CV 0 b (by omega);have m:=e 0 (by simp[jX]);have o:=e 1 (by simp[jX]);have q:=e 2 (by simp[jX]);simp at m;have I:x.toNat=en+E:=by omega
    have J:(x+1).toNat=en+E+1:=by omega
    rw[YI (by omega) (by omega) (by rw[I];omega)];rw[N _ _ (by omega),J];have H:two d (en+E+1)=b:=by unfold two;rw[show en+E+1+1=en+E+2 from rfl];omega
    rw[H];simp
theorem yE (L:List (List UInt8)):fK L=di (cU L):=rfl
theorem K2 {L:List (List UInt8)} (h:fU L=true) {s:List UInt8} (b:s∈L):1<=s.length/\s.length<=200:=by
 unfold fU at h;rw[mL] at h;simpa[qI] using h s b
theorem K3 {L:List (List UInt8)} (h:fU L=true):L.length<=cM L:=by
 induction L with
 | nil=>simp
 | cons x L e=>
   have g:=K2 h (s:=x) (by simp);have b:fU L=true:=by unfold fU at *;rw[List.all_cons,eu] at h;exact h.2
   have:=e b;rw[FC,gW];omega
theorem QD {n:Nat} {L:List (List UInt8)} {d:List UInt8} (h:eL (n:Int) L d):∃g,n=cM L+g+(fK L).length+4/\d=L.flatten++List.replicate g 0++fK L++rH (cM L) g:=by
 have b:=KZ h;refine⟨n-4-cM L-(fK L).length,by omega,?_⟩;have:=Qy h;rw[jU,qL] at this;simp only[tZ] at this;exact this
theorem K4 {n:Nat} {L:List (List UInt8)} {d:List UInt8} (h:eL (n:Int) L d) (B:n<=512):gJ d n+(fK L).length+4=n/\two d (n-4)=cM L:=by
 obtain⟨g,y,r⟩:=QD h;have t:(L.flatten++List.replicate g (0:UInt8)++fK L).length=n-4:=by simp only[ew,tZ,Aq];omega
 have b:∀i,i<4->aL d (n-4+i)=aL (rH (cM L) g) i:=fun i z=>by
  rw[r,sO,t,aA (by omega)];congr 1;omega
 have l:=b 0 (by omega);have m:=b 1 (by omega);have e:=b 2 (by omega);have j:=b 3 (by omega);simp[rH,aL,List.getD] at l m e j;have o:n-4+2=n-2:=by omega
 have q:n-4+3=n-2+1:=by omega
 rw[o] at e;rw[q] at j;have u:two d (n-4)=cM L:=by unfold two aL;simp[List.getD];omega
 have C:two d (n-2)=g:=by unfold two aL;simp[List.getD];omega
 exact⟨by unfold gJ;omega,u⟩
theorem QE {n:Nat} (u:n<=512) {L:List (List UInt8)} {d:List UInt8} (h:eL (n:Int) L d):qH n d=L.map fun s=>(s.length:Int):=by
 obtain⟨g,C,o⟩:=QD h;obtain⟨D,_⟩:=K4 h u;have e:=(Am h.1).2.1;have l:=K3 e;have b:=KY (cU L) (wE L);rw[yD,kF] at b;unfold qH;have q:∀i,i<(di (cU L)).length->aL d (gJ d n+i)=aL (di (cU L)) i:=fun i t=>by
  rw[<-yE] at t⊢;have G:(L.flatten++List.replicate g (0:UInt8)).length=gJ d n:=by simp only[ew,tZ,Aq];omega
  generalize gJ d n=E at *;rw[o,sO,aC (by simp only[ew] at *;omega),sO,aA (by omega)];congr 1;omega
 rw[Zv d n (gJ d n) (cU L) n _ [] (by omega) (fun r j=>by
  have m:=wE L r j;have z:=b.2 r j;obtain⟨s,y,F⟩:=QC L r j;have B:=K2 e y;exact⟨m,by omega,by omega,by omega⟩) q (by rw[<-yE];omega),yD]
 simp
theorem Zw {n:Nat} (o:n<=512) (g:128<=n) {L:List (List UInt8)} {d:List UInt8} (h:eL (n:Int) L d):(d==List.replicate d.length 0)=false:=by
 cases hd:d==List.replicate d.length 0 with
 | false=>rfl
 | true=>
   exfalso;have l:d=List.replicate d.length 0:=by simpa using hd
   have b:∀i,aL d i=0:=fun i=>by rw[l];unfold aL;by_cases m:i<d.length<;>simp[List.getD,m]
   obtain⟨e,t⟩:=K4 h o;have q:two d (n-4)=0:=by unfold two;rw[b,b]
   have r:two d (n-2)=0:=by unfold two;rw[b,b]
   have y:cM L=0:=by omega
   have u:=K3 (Am h.1).2.1;have j:L=[]:=gY (by omega);subst j;unfold gJ at e;rw[q,r] at e;simp[KT] at e;omega
def cost (r:Nat×Nat):Nat:=r.1*r.2+3*min r.1 2
def costs (rs:List (Nat×Nat)):Nat:=(rs.map cost).sum
theorem Zo (a b:List (Nat×Nat)):costs (a++b)=costs a+costs b:=by simp[costs]
theorem akw (rs:List (Nat×Nat)) (h:∀r∈rs,1<=r.1):costs rs=(jd rs).sum+(di rs).length:=by
 induction rs with
 | nil=>rfl
 | cons r rs b=>
   have j:=h r (by simp);have b:=b (fun r i=>h r (by simp[i]));rw[CW,ew,FB];have e:costs (r::rs)=cost r+costs rs:=by simp[costs]
   have g:(jd (r::rs)).sum=r.1*r.2+(jd rs).sum:=by simp[jd]
   rw[e,g,b];unfold cost;split<;>omega
theorem Zq (L:List (List UInt8)):4+costs (cU L)=cB L:=by
 rw[akw _ (wE L),yD,<-yE];unfold cB cM;omega
theorem akl (L:List (List UInt8)) (done rest:List (Nat×Nat)) (h:cU L=done++rest):4+costs done+costs rest=cB L:=by
 rw[<-Zq,h,Zo];omega
def sP (en:Nat) (L:List (List UInt8)) (x:Int) (e:Nat) (g:List Nat):Prop:=
 ∃done rest,cU L=done++rest/\g=jd done/\((e=0/\x+3=(en:Int)+(di rest).length)∨∃k b,rest=(k,e)::b/\1<k/\x=(en:Int)+(di b).length)
theorem QF (a b:List (Nat×Nat)):jd (a++b)=jd a++jd b:=by simp[jd]
theorem akx (a b:List (Nat×Nat)):di (a++b)=di b++di a:=by simp[di]
theorem Zx (k b:Nat):jd [(k,b)]=List.replicate k b:=by simp[jd]
theorem aky {n:Nat} {L:List (List UInt8)} {d:List UInt8} (h:eL (n:Int) L d) (j:n<=512):∀i,i<(di (cU L)).length->aL d (gJ d n+i)=aL (di (cU L)) i:=by
 obtain⟨g,l,b⟩:=QD h;obtain⟨m,_⟩:=K4 h j;intro i e;rw[<-yE] at e⊢;have o:(L.flatten++List.replicate g (0:UInt8)).length=gJ d n:=by simp only[ew,tZ,Aq];omega
 generalize gJ d n=E at *;rw[b,sO,aC (by simp only[ew] at *;omega),sO,aA (by omega)];congr 1;omega
theorem akz {n:Nat} {L:List (List UInt8)} {d:List UInt8} (h:eL (n:Int) L d) (b:n<=512):sP (gJ d n) L ((n:Int)-7) 0 []:=by
 obtain⟨e,_⟩:=K4 h b;exact⟨[],cU L,rfl,rfl,.inl ⟨rfl,by rw[<-yE];omega⟩⟩
theorem QG {n:Nat} {L:List (List UInt8)} {d:List UInt8} (h:eL (n:Int) L d) (C:n<=512) {done rest:List (Nat×Nat)} {k b:Nat} (o:cU L=done++(k,b)::rest):
 1<=k/\k<=512/\1<=b/\b<=200/\(jd done).sum+k*b<=n/\(∀i,i<(jj (k,b)).length->aL d (gJ d n+(di rest).length+i)=aL (jj (k,b)) i):=by
 have l:=(Am h.1).2.1;have u:=KZ h;have r:=K3 l;have g:(k,b)∈cU L:=by rw[o];simp
 have q:=wE L _ g;have j:=KY (cU L) (wE L);rw[yD,kF] at j;have y:=j.2 _ g;obtain⟨s,D,B⟩:=QC L _ g;have E:=K2 l D;simp only at q y B;have m:(jd (cU L)).sum=cM L:=by rw[yD];rfl
 rw[o,QF,List.sum_append] at m;have z:(jd ((k,b)::rest)).sum=k*b+(jd rest).sum:=by simp[jd]
 rw[z] at m;refine⟨q,by omega,by omega,by omega,by omega,fun i F=>?_⟩;have t:=aky h C;have e:di (cU L)=di rest++(jj (k,b)++di done):=by
  rw[o,akx,CW];simp only[jk]
 rw[e] at t;have:=t ((di rest).length+i) (by simp only[ew];omega);rw[<-sD] at this;rw[this,sO,aA (by omega),sO,aC (by omega)];congr 1;omega
theorem akA {n:Nat} {L:List (List UInt8)} {d:List UInt8} (h:eL (n:Int) L d) (B:n<=512) {x:Nat} {b:Nat} {e:List Nat} (M:0<b) (y:sP (gJ d n) L (x:Int) b e):
 aL d x=8/\1<=two d (x+1)/\1<=b/\e.sum+two d (x+1)*b<=n/\sP (gJ d n) L ((x:Int)-3) 0 (e++List.replicate (two d (x+1)) b):=by
 obtain⟨done,rest,r,u,⟨K,_⟩ | ⟨k,g,rfl,z,N⟩⟩:=y
 ·omega
 subst u;obtain⟨E,F,G,H,t,i⟩:=QG h B r;have o:jj (k,b)=fY 8 k++fY 64 b:=by simp[jj,z]
 rw[o] at i;obtain⟨I,J⟩:=CV 8 k (by omega);have C:(fY 8 k).length=3:=rfl;have j:=i 0 (by simp[jX]);have l:=i 1 (by simp[jX]);have m:=i 2 (by simp[jX]);rw[sO] at j l m;simp only[C] at j l m;simp at j l m;have q:x=gJ d n+(di g).length:=by omega
 rw[<-q] at j l m;have D:two d (x+1)=k:=by unfold two;rw[show x+1+1=x+2 from rfl];omega
 rw[D];refine⟨by omega,by omega,by omega,t,done++[(k,b)],g,by rw[r];simp,by rw[QF,Zx],.inl ⟨rfl,by omega⟩⟩
theorem akB {n:Nat} {L:List (List UInt8)} {d:List UInt8} (h:eL (n:Int) L d) (E:n<=512) {x:Nat} {e:List Nat} (P:gJ d n<=x) (H:sP (gJ d n) L (x:Int) 0 e):
 (aL d x=64/\1<=two d (x+1)/\sP (gJ d n) L ((x:Int)-3) (two d (x+1)) e)∨
 (aL d x=0/\1<=two d (x+1)/\e.sum+two d (x+1)<=n/\sP (gJ d n) L ((x:Int)-3) 0 (e++List.replicate 1 (two d (x+1)))):=by
 obtain⟨done,rest,t,D,⟨_,q⟩ | ⟨k,z,rfl,u,I⟩⟩:=H
 ·cases rest with
  | nil=>simp[di] at q;omega
  | cons r rest=>
    obtain⟨k,b⟩:=r;subst D;obtain⟨K,M,C,N,O,i⟩:=QG h E t;rw[CW] at q;by_cases u:1<k
    ·left;have l:jj (k,b)=fY 8 k++fY 64 b:=by simp[jj,u]
     rw[l] at i q;obtain⟨F,G⟩:=CV 64 b (by omega);have J:(fY 8 k).length=3:=rfl;have j:=i 3 (by simp[jX]);have m:=i 4 (by simp[jX]);have o:=i 5 (by simp[jX]);rw[sO] at j m o;simp only[J] at j m o;simp[jX] at j m o q;have g:x=gJ d n+(di rest).length+3:=by omega
     have j:aL d x=64:=by rw[g];omega
     have B:two d (x+1)=b:=by unfold two;rw[g];rw[show gJ d n+(di rest).length+3+1=gJ d n+(di rest).length+4 from rfl,show gJ d n+(di rest).length+4+1=gJ d n+(di rest).length+5 from rfl];omega
     rw[B];exact⟨j,C,done,(k,b)::rest,t,rfl,.inr ⟨k,rest,rfl,u,by omega⟩⟩
    ·right;have y:k=1:=by omega
     subst y;have l:jj (1,b)=fY 0 b:=by simp[jj]
     rw[l] at i q;obtain⟨F,G⟩:=CV 0 b (by omega);have j:=i 0 (by simp[jX]);have m:=i 1 (by simp[jX]);have o:=i 2 (by simp[jX]);simp[jX] at j m o q;have g:x=gJ d n+(di rest).length:=by omega
     rw[<-g] at j m o;have B:two d (x+1)=b:=by unfold two;rw[show x+1+1=x+2 from rfl];omega
     rw[B];exact⟨by omega,C,by omega,done++[(1,b)],rest,by rw[t];simp,by rw[QF,Zx],.inl ⟨rfl,by omega⟩⟩
 ·subst D;have:=QG h E t;omega
theorem akC {n:Nat} {L:List (List UInt8)} {d:List UInt8} (h:eL (n:Int) L d) (t:n<=512) {x:Int} {e:Nat} {b:List Nat} (u:x<gJ d n) (m:sP (gJ d n) L x e b):b=L.map List.length:=by
 obtain⟨done,rest,j,l,⟨_,i⟩ | ⟨k,g,rfl,q,o⟩⟩:=m
 ·cases rest with
  | nil=>rw[l,<-yD,j,FD]
  | cons r rest=>
    rw[CW,ew,FB] at i;split at i<;>omega
 ·omega
theorem akD {n:Nat} {L out:List (List UInt8)} {d:List UInt8} (h:eL (n:Int) L d) (l:n<=512) {x:Int} {b:Nat} (m:x<gJ d n) (j:sP (gJ d n) L x b (out.map List.length)) {a:Nat} (i:out.flatten=d.take a) (g:out.flatten.length=a):out=L:=by
 have:=akC h l m j;refine QA h rfl ?_ i g;have e:=gP (List.map fun(n:Nat)=>(n:Int)) this;simpa[FE,Function.comp_def] using e
theorem akE {n:Nat} {L M:List (List UInt8)} {d:List UInt8} (b:n<=512) (h:eL (n:Int) L d) (k:eL (n:Int) M d):M=L:=
 QA h rfl ((QE b k).symm.trans (QE b h)) (Zu k).symm (tZ M)
def nE (rs:List (Nat×Nat)):Nat:=(rs.map fun r=>3*min r.1 2).sum
theorem akF (rs:List (Nat×Nat)) (h:∀r∈rs,1<=r.1):(di rs).length=nE rs:=by
 induction rs with
 | nil=>rfl
 | cons r rs b=>
   have i:=h r (by simp);have b:=b (fun r g=>h r (by simp[g]));rw[CW,ew,FB,b];have e:nE (r::rs)=3*min r.1 2+nE rs:=by simp[nE]
   rw[e];split<;>omega
theorem FF (L:List (List UInt8)):(fK L).length=nE (cU L):=by rw[yE];exact akF _ (wE L)
theorem QH (a b:List (Nat×Nat)):nE (a++b)=nE a+nE b:=by simp[nE]
theorem Zy (n b:Nat):nE [(n,b)]=3*min n 2:=by simp[nE]
theorem wF (x:List UInt8) (xs:List (List UInt8)):(cU xs=[]/\cU (x::xs)=[(1,x.length)])∨
 ∃n b r,cU xs=(n,b)::r/\((b=x.length/\cU (x::xs)=(n+1,b)::r)∨(b≠x.length/\cU (x::xs)=(1,x.length)::(n,b)::r)):=by
 cases h:cU xs with
 | nil=>exact .inl ⟨rfl,by rw[cU,h]⟩
 | cons r rs=>
   obtain⟨n,b⟩:=r;refine .inr ⟨n,b,rs,rfl,?_⟩;by_cases e:b=x.length
   ·exact .inl ⟨e,by rw[cU,h];simp[e]⟩
   ·exact .inr ⟨e,by rw[cU,h];simp[e]⟩
theorem akG (x:List UInt8) (xs:List (List UInt8)):(fK xs).length<=(fK (x::xs)).length:=by
 rw[FF,FF];rcases wF x xs with⟨e,b⟩ | ⟨n,g,r,e,⟨_,b⟩ | ⟨_,b⟩⟩<;>rw[e,b]
 ·simp[nE]
 ·simp[nE];omega
 ·simp[nE]
theorem Zz (z:List UInt8):∀L:List (List UInt8),cU (L++[z])=cU L++[(1,z.length)]∨∃rs n,cU L=rs++[(n,z.length)]/\cU (L++[z])=rs++[(n+1,z.length)]
 | []=>.inl (by simp[cU])
 | x::xs=>by
   rw[bE];rcases Zz z xs with h | ⟨rs,n,q,t⟩
   ·-- a run of its own behind those of xs
    rcases wF x xs with⟨j,g⟩ | ⟨m,u,r,j,⟨o,g⟩ | ⟨o,g⟩⟩
    ·rw[j,bQ] at h;rcases wF x (xs++[z]) with⟨b,_⟩ | ⟨y,l,B,b,⟨i,e⟩ | ⟨i,e⟩⟩
     ·rw[h] at b;cases b
     ·rw[h] at b;simp only[mR,jZ] at b;obtain⟨⟨rfl,rfl⟩,rfl⟩:=b;exact .inr ⟨[],1,by rw[g,i];rfl,by rw[e];rfl⟩
     ·rw[h] at b;simp only[mR,jZ] at b;obtain⟨⟨rfl,rfl⟩,rfl⟩:=b;exact .inl (by rw[g,e];rfl)
    ·rw[j] at h;rcases wF x (xs++[z]) with⟨b,_⟩ | ⟨y,l,B,b,⟨i,e⟩ | ⟨i,e⟩⟩
     ·rw[h] at b;cases b
     ·rw[h] at b;simp only[bE,mR,jZ] at b;obtain⟨⟨rfl,rfl⟩,rfl⟩:=b;exact .inl (by rw[g,e];rfl)
     ·rw[h] at b;simp only[bE,mR,jZ] at b;obtain⟨⟨rfl,rfl⟩,rfl⟩:=b;exact absurd o i
    ·rw[j] at h;rcases wF x (xs++[z]) with⟨b,_⟩ | ⟨y,l,B,b,⟨i,e⟩ | ⟨i,e⟩⟩
     ·rw[h] at b;cases b
     ·rw[h] at b;simp only[bE,mR,jZ] at b;obtain⟨⟨rfl,rfl⟩,rfl⟩:=b;exact absurd i o
     ·rw[h] at b;simp only[bE,mR,jZ] at b;obtain⟨⟨rfl,rfl⟩,rfl⟩:=b;exact .inl (by rw[g,e];rfl)
   ·-- the last run of xs has one more
    cases rs with
    | nil=>
      rw[bQ] at q t;rcases wF x xs with⟨j,g⟩ | ⟨m,u,r,j,g⟩
      ·rw[q] at j;cases j
      ·rw[q] at j;simp only[mR,jZ] at j;obtain⟨⟨rfl,rfl⟩,rfl⟩:=j;rcases wF x (xs++[z]) with⟨b,_⟩ | ⟨y,l,B,b,e⟩
       ·rw[t] at b;cases b
       ·rw[t] at b;simp only[mR,jZ] at b;obtain⟨⟨rfl,rfl⟩,rfl⟩:=b;rcases g with⟨o,g⟩ | ⟨o,g⟩
        ·rcases e with⟨i,e⟩ | ⟨i,e⟩
         ·exact .inr ⟨[],n+1,by rw[g];rfl,by rw[e];rfl⟩
         ·exact absurd o i
        ·rcases e with⟨i,e⟩ | ⟨i,e⟩
         ·exact absurd i o
         ·exact .inr ⟨[(1,x.length)],n,by rw[g];rfl,by rw[e];rfl⟩
    | cons D rs=>
      obtain⟨m0,C⟩:=D;rw[bE] at q t;rcases wF x xs with⟨j,g⟩ | ⟨m,u,r,j,g⟩
      ·rw[q] at j;cases j
      ·rw[q] at j;simp only[mR,jZ] at j;obtain⟨⟨rfl,rfl⟩,rfl⟩:=j;rcases wF x (xs++[z]) with⟨b,_⟩ | ⟨y,l,B,b,e⟩
       ·rw[t] at b;cases b
       ·rw[t] at b;simp only[mR,jZ] at b;obtain⟨⟨rfl,rfl⟩,rfl⟩:=b;rcases g with⟨o,g⟩ | ⟨o,g⟩
        ·rcases e with⟨i,e⟩ | ⟨i,e⟩
         ·exact .inr ⟨(m0+1,C)::rs,n,by rw[g];rfl,by rw[e];rfl⟩
         ·exact absurd o i
        ·rcases e with⟨i,e⟩ | ⟨i,e⟩
         ·exact absurd i o
         ·exact .inr ⟨(1,x.length)::(m0,C)::rs,n,by rw[g];rfl,by rw[e];rfl⟩
theorem akH (z:List UInt8) (L:List (List UInt8)):(fK L).length<=(fK (L++[z])).length:=by
 rw[FF,FF];rcases Zz z L with h | ⟨rs,n,b,e⟩
 ·rw[h,QH];omega
 ·rw[b,e,QH,QH,Zy,Zy];omega
theorem ZA (x:List UInt8) (xs:List (List UInt8)):cB xs+x.length<=cB (x::xs):=by
 have:=akG x xs;unfold cB;rw[FC];omega
theorem akI (z:List UInt8) (L:List (List UInt8)):cB L+z.length<=cB (L++[z]):=by
 have:=akH z L;have e:cM (L++[z])=cM L+z.length:=by simp[cM]
 unfold cB;rw[e];omega
def eH (size:Int) (L:List (List UInt8)):Bool:=cQ size&&fU L&&decide ((cB L:Int)<=size)
end aD
namespace Go.Proofs.YteninnkbmoimgaaGreatDoor
open Go.RowKit aD
theorem _root_.aW(n:Nat){P A Q a b c d e L x w}(h:wpList P A Q (⟨some n,a,b,c,d,e⟩::L) x w):wpList P A Q (⟨some n,a,b,c,d,e⟩::L) x w:=h
end Go.Proofs.YteninnkbmoimgaaGreatDoor
namespace aD
structure DS where
 id:Int
 org:Int
 format:Int
 length:Int
 block:Int
 dm:Int
 bV:Int
 interval:Int
 aN:Int
 nF:Int
 mS:Int
 base:Int
 ZB:Int
 ZC:Int
 unique:Bool
 cls:Int
 ZE:List UInt8
 owner:List UInt8
 created:Int
 ZF:Int
 ZG:Bool
structure Hd where
 applied:Int
 count:Int
 fin:Int
 root:Int
 height:Int
 splits:Int
 kG:Int
deriving DecidableEq
def Hd.zero:Hd:=⟨0,0,0,0,0,0,0⟩
def QI (d:DS):Bool:=
 if d.org=3 then
  decide (d.length<=d.interval/2-8)&&decide (0<=d.dm)&&decide (1<=d.bV)&&decide (d.bV<=d.interval/16)&&decide (d.dm+d.bV<=d.length)&&
   decide (2<=d.aN)&&decide (d.aN<=8)&&decide (0<=d.nF)&&decide (d.nF<=90)&&decide (0<=d.mS)&&decide (d.mS<=d.aN-1)
 else decide (d.dm=0)&&decide (d.bV=0)&&decide (d.aN=0)&&decide (d.nF=0)&&decide (d.mS=0)
def cr (d:DS):Bool:=
 decide (1<=d.org)&&decide (d.org<=3)&&cQ d.interval&&decide (1<=d.length)&&decide (d.length<=200)&&decide (d.length<=d.interval-7)&&decide (d.format=0)&&decide (d.block=0)&&QI d
theorem qM {d:DS} (h:cr d=true):1<=d.org/\d.org<=3/\cQ d.interval=true/\1<=d.length/\d.length<=200/\d.length<=d.interval-7:=by
 simp[cr] at h;obtain⟨⟨⟨⟨⟨⟨⟨⟨b,e⟩,g⟩,i⟩,j⟩,l⟩,_⟩,_⟩,_⟩:=h;exact⟨b,e,g,i,j,l⟩
def aF (m:List (List UInt8)) (n:Int):List UInt8×Int:=if 0<=n/\n<m.length then(m.getD n.toNat [],0) else([],2)
open Classical in
noncomputable def FG (size:Int) (s:List UInt8):Option (List (List UInt8)):=if h:∃L,eL size L s then some h.choose else none
theorem O2 {size:Int} {L:List (List UInt8)} {s:List UInt8} (h:eL size L s):FG size s=some L:=by
 have b:∃L,eL size L s:=⟨L,h⟩;unfold FG;rw[dif_pos b];obtain⟨n,rfl,e⟩:=yC (Am h.1).1;rw[akE (by omega) h b.choose_spec]
theorem akJ {size:Int} {s:List UInt8} (h:∀L,¬eL size L s):FG size s=none:=by
 unfold FG;rw[dif_neg (fun⟨L,k⟩=>h L k)]
abbrev aB:=List (List UInt8)
def lK (m:List (List UInt8)) (p:Int):List (List UInt8):=if p<10000 then m++List.replicate (p+1-m.length).toNat [] else m
def jl (m:List (List UInt8)) (x:Int×List UInt8):List (List UInt8):=if 0<=x.1/\x.1<(lK m x.1).length then(lK m x.1).set x.1.toNat x.2 else lK m x.1
def fV (m:List (List UInt8)) (l:List (Int×List UInt8)):List (List UInt8):=l.foldl jl m
theorem ZH (m:List (List UInt8)) (p:Int):m.length<=(lK m p).length/\(lK m p).length<=m.length+10000:=by
 unfold lK;split
 ·simp;omega
 ·omega
theorem QJ (m:List (List UInt8)) (x:Int×List UInt8):m.length<=(jl m x).length/\(jl m x).length<=m.length+10000:=by
 have:=ZH m x.1;unfold jl;split
 ·simp;exact this
 ·exact this
theorem akK (m:List (List UInt8)) (l:List (Int×List UInt8)) (k:Nat) (h:k<l.length):fV m (l.take (k+1))=jl (fV m (l.take k)) (l.getD k (0,[])):=by
 unfold fV;rw[jr h,List.foldl_append];simp[List.getD,h]
theorem ZI (m:List (List UInt8)):∀(l:List (Int×List UInt8)),m.length<=(fV m l).length/\(fV m l).length<=m.length+l.length*10000
 | []=>by simp[fV]
 | x::l=>by
   have b:=QJ m x;have g:=ZI (jl m x) l;have e:fV m (x::l)=fV (jl m x) l:=rfl;rw[e,gW];omega
theorem akL (m:List (List UInt8)) (p:Int) (P:List UInt8->Prop) (h:∀s∈m,P s) (e:P []):∀s∈lK m p,P s:=by
 unfold lK;split
 ·intro s b;rw[iG] at b;rcases b with b | b
  ·exact h s b
  ·rw[(List.mem_replicate.1 b).2];exact e
 ·exact h
theorem akM (m:List (List UInt8)) (x:Int×List UInt8) (P:List UInt8->Prop) (h:∀s∈m,P s) (e:P []) (j:P x.2):∀s∈jl m x,P s:=by
 have b:=akL m x.1 P h e;unfold jl;split
 ·intro s i;rcases List.mem_or_eq_of_mem_set i with g | rfl
  ·exact b s g
  ·exact j
 ·exact b
end aD
namespace Go.Proofs.YteninnkbmoimgaaGreatDoor
open Go.RowKit aD
@[simp,go_sem] abbrev _root_.az(d:DS):Array Value:=#[.int .i64 d.id,.int .i64 d.org,.int .i64 d.format,.int .i64 d.length,.int .i64 d.block,.int .i64 d.dm,.int .i64 d.bV,.int .i64 d.interval,.int .i64 d.aN,.int .i64 d.nF,.int .i64 d.mS,.int .i64 d.base,.int .i64 d.ZB,.int .i64 d.ZC,.bool d.unique,.int .i64 d.cls,.string ⟨d.ZE.toArray⟩,.string ⟨d.owner.toArray⟩,.int .i64 d.created,.int .i64 d.ZF,.bool d.ZG]
@[simp,go_sem] abbrev _root_.aK(h:Hd):Array Value:=#[.int .i64 h.applied,.int .i64 h.count,.int .i64 h.fin,.int .i64 h.root,.int .i64 h.height,.int .i64 h.splits,.int .i64 h.kG]
end Go.Proofs.YteninnkbmoimgaaGreatDoor

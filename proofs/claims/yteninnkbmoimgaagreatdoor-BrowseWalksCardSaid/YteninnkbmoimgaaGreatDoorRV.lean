/- A part of the proof. -/
import Derived.Test.YteninnkbmoimgaaGreatDoorDC
set_option linter.unusedSimpArgs false
set_option linter.unusedVariables false
set_option maxRecDepth 100000
set_option maxHeartbeats 16000000
namespace Go.Proofs.YteninnkbmoimgaaGreatDoor
open Go.RowKit aD
def G4 (size:Int) (d:List UInt8) (w:World) (e:Ending) (w':World):Prop:=
 Ext w w'/\((∃p b L,e=.returned (.tuple #[.slice p L.length b,.int .i64 0])/\bk w' p L/\Small L/\eL size L d/\L.length<=b/\b<=maxLen/\w'.ownsRow w.heap.size 9 1 (.slice p L.length b) L.length (L.map fun s=>.string ⟨s.toArray⟩))∨
  (e=.returned (.tuple #[.slice none 0 0,.int .i64 (jY size d)])/\∀L,¬eL size L d))
theorem tY {size:Int} {d:List UInt8} {w w':World} {c:Int} (h:Ext w w') (b:c=jY size d) (e:∀L,¬eL size L d):G4 size d w (.returned (.tuple #[.slice none 0 0,.int .i64 c])) w':=by
 subst b;exact⟨h,.inr ⟨rfl,e⟩⟩
theorem apo (size:Nat) (V:128<=size) (o:size<=512) (hsz:cQ size=true) (d:List UInt8) (hd:d.length=size) (hu:(d==List.replicate d.length 0)=false)
 (n:∀L,eL size L d->qH size d=L.map fun s=>(s.length:Int)) (w:World):
 Calls Tryz.prog 69 #[.int .i64 size,.string ⟨d.toArray⟩] w (G4 size d w):=by
 have Hd:=ag hd;have Hl:=ag n;have hR:=akp d size af o;have z:=ajU size V o d hd;have t:=aku d size;generalize X:qH size d=R at *;have N:=ag t;clear t;have HR:=ag X;have S:=ag z;have hE:Hid (jY size d=11):=ag (by unfold jY;rw[hsz,hu,hd];simp);have J:=Zj d af;rw[hu] at J;have Hun:=ag J;have hnq:((d.length:Int)!=(size:Int))=false:=by simp[hd]
 clear z X n hd J hu;go_enter Tryz.func69,Tryz.ntmps69;go_wp2_with(first | (go_at_call 102;refine(rG _ _).mono ?_;rintro e w' ⟨rfl,rfl⟩) | (go_at_call 105;refine(Hun.out _).mono ?_;rintro e w1 ⟨rfl,bU⟩) | (go_at_call 106;refine(S.out _).mono ?_;rintro e w2 ⟨p,cap,rfl,hcs,he2⟩));obtain⟨B,hB⟩:∃B,B=w2.heap.size:=⟨_,rfl⟩;have HB:=ag hB;clear hB;have hcs':=ag hcs;have CQ:d.length<=1000000:=Cx;have hds:size<=d.length:=by rw[Hd.out];exact aH _
 clear hcs;go_loopw[7,8,9] (fun v s i wr=>∃(k a:Nat) (out:List (List UInt8)),k<=R.length/\i=.int .i64 k/\s=.int .i64 a/\a<=size/\out.length=k/\out.flatten=d.take a/\(out.map fun s=>(s.length:Int))=R.take k/\(∀s∈out,s.length<=1000000)/\
  wr.ownsRow B 9 1 v out.length (out.map fun s=>.string ⟨s.toArray⟩)/\Below B w2 wr/\B<=wr.heap.size) (fun _ _ i _=>R.length-(intOf i).toNat)
 case atStart=>exact⟨0,0,[],af,rfl,rfl,af,rfl,av,av,av,World.ownsRow_made w2 #[] 0 Kj av rfl,(Below.refl _ _).alloc Kj _,by rw[HB.out];simp⟩
 case round=>
  obtain⟨k,a,out,hk,rfl,rfl,ha,hol,G,hml,m6,g,l,hbs⟩:=hrel;have Y:out.flatten.length=a:=by rw[G,gF];omega
  have E:=ag hol;have Q:=ag G;have D:=ag hml;have U:=ag m6;have O:=ag Y;clear hol G hml m6 Y;have y:∀{W:World},Ext wr W->Ext w W:=fun hW=>(bU.trans he2).trans (Ext.trans (show Ext w2 wr by unfold Ext;rw[<-HB.out];exact l) hW);have Qm:∀{W:World},Hid (Ext wr W->Ext w W):=fun {W}=>ag (y (W:=W));clear y;by_cases j:k<R.length
  ·obtain⟨b,off,rfl,hb,hc⟩:=hcs'.out.at k (by simpa using j);have F:=hc k (by simpa using j);rw[KA R k j] at F;have MO:=(l.cell (p:=⟨b,off+k,none⟩) (by rw[HB.out];exact hb)).trans F;have yx:Hid (∀L,eL size L d->0<=R.getD k 0/\(a:Int)+R.getD k 0<=size):=ag fun L hL=>akt hL (Hl.out L hL) j D.out O.out;have Hrt:Hid (R.take (k+1)=R.take k++[R.getD k 0]):=ag (by rw[jr j];simp[List.getD,j]);have ayw:=N.out k;clear hc F;generalize R.getD k 0=r at *;have hbB:b<B:=by rw[HB.out];exact hb
   by_cases hr:r<0
   ·exact YS
   ·by_cases nY:(size:Int)<a+r
    ·obtain⟨r,rfl⟩:=pN (show 0<=r by omega);exact YS
    ·obtain⟨r,rfl⟩:=pN (show 0<=r by omega);clear yx;go_wp2_with(first | (at_builtin;go_must(refine nW rfl (.tmp 49) (.tmp 59) 31 9 rfl B (.string ByteArray.empty) 1 16 Tryz.underlying31 uV rfl aq _ _ _ rfl (g.alloc _) _ [.string _] rfl (ah.new wr _) rfl nk (by have:=E.out;omega) aq aY ?_;intro v' w1 H m;have Z:=Below.ij (B:=B) m (g.alloc _) (aH _) aY;have hs1:=m.size;have hb2:Below B wr w1:=((Below.refl _ _).alloc hbs _).trans Z;have ayx:=(hb2.cell (p:=⟨b,off+k,none⟩) hbB).trans MO;simp at hs1;clear m Z)));go_roundw
     case rel=>exact⟨k+1,a+r,out++[(d.drop a).take r],af,bX,bX,af,by simp[E.out],by rw[Al,Q.out];simp[List.take_add],by rw[jW,D.out,Hrt.out];simp;omega,by intro s I;rw[iG] at I;rcases I with I | I;exact U.out s I;simp at I;subst I;simp;omega,by simpa using H,l.trans hb2,af⟩
     case measure=>exact ct
  ·have C:(out.map fun s=>(s.length:Int))=R:=by have:=D.out;rwa[mC af] at this
   have M:Hid (∀L,eL size L d->out=L):=ag fun L hL=>QA hL (Hl.out L hL) C Q.out O.out;clear C;obtain⟨q,cq,rfl,xl,apt,apu⟩:=ajM g;have T:=ag (fJ g (show w.heap.size<=B by rw[HB.out];exact(bU.trans he2).size));have Ah:=ag xl;have Ai:Hid (Small out):=ag ⟨by have:=E.out;omega,U.out⟩;clear xl g;by_cases h1:gR size out=0
   ·have h1':((gR size out)!=0)=false:=sI;by_cases K:iL size out=d
    ·have h2':(iL size out==d)=true:=by simp[K]
     have Td:Hid (eL size out d):=ag ⟨h1,K⟩;have f:=KW q cq out.length out size;generalize gR size out=ee at *;generalize iL size out=es at *;have jR:=ag f;clear f h1 K;go_wp2_with(first | (go_at_call 89;refine(jR.out _ Ah.out rfl Ai.out).mono ?_;rintro e w3 ⟨rfl,jc⟩));go_ret2;exact⟨Qm.out jc,.inl ⟨q,cq,out,rfl,Ah.out.ext jc,Ai.out,Td.out,apt,apu,ajN T.out jc⟩⟩
    ·have h2':(iL size out==d)=false:=by simp[K]
     have Fm:Hid (∀L,¬eL size L d):=ag fun L hL=>by have:=M.out L hL;subst this;exact K hL.2
     have f:=KW q cq out.length out size;generalize gR size out=ee at *;generalize iL size out=es at *;have jR:=ag f;clear f h1 K;exact YQ
   ·have h1':((gR size out)!=0)=true:=sI;have Fm:Hid (∀L,¬eL size L d):=ag fun L hL=>by have:=M.out L hL;subst this;exact h1 hL.1
    have f:=KW q cq out.length out size;generalize gR size out=ee at *;generalize iL size out=es at *;have jR:=ag f;clear f h1;exact YQ
theorem acN {size:Int} {d:List UInt8} (h:cQ size=false) (L:List (List UInt8)):¬eL size L d:=fun b=>by
 have:=(Am b.1).1;rw[h] at this;cases this
theorem apv (size:Int) (d:List UInt8) (o:d.length<=1000000) (w:World):
 Calls Tryz.prog 69 #[.int .i64 size,.string ⟨d.toArray⟩] w (G4 size d w):=by
 by_cases h1:cQ size=true
 ·obtain⟨n,rfl,q⟩:=yC h1;by_cases g:d.length=n
  ·by_cases h3:(d==List.replicate d.length 0)=true
   ·have HE:Hid (jY n d=9):=ag (by unfold jY;rw[h1,h3,g];simp);have HN:Hid (∀L,¬eL n L d):=ag fun L i=>by have:=Zw af af i;rw[h3] at this;cases this
    have b:=Zj d o;rw[h3] at b;have j:=ag b;have m:((d.length:Int)!=(n:Int))=false:=by simp[g]
    clear b h3 g;go_enter Tryz.func69,Tryz.ntmps69;go_wp2_with(first | (go_at_call 102;refine(rG _ _).mono ?_;rintro e w' ⟨rfl,rfl⟩) | (go_at_call 105;refine(j.out _).mono ?_;rintro e r ⟨rfl,l⟩));go_ret2;exact tY l HE.out.symm HN.out
   ·exact apo n af af h1 d g uO (fun L i=>QE af i) w
  ·have HE:Hid (jY n d=11):=ag (by unfold jY;rw[h1,aA av,aC af]);have HN:Hid (∀L,¬eL n L d):=ag fun L i=>by have:=Qz i;omega
   have m:((d.length:Int)!=(n:Int))=true:=aY;clear g;exact YO
 ·have f:cQ size=false:=jP;have HE:Hid (jY size d=1):=ag (by unfold jY;rw[aC f]);have HN:Hid (∀L,¬eL size L d):=ag (acN f);clear h1;exact YO
end Go.Proofs.YteninnkbmoimgaaGreatDoor
namespace aD
abbrev dK:=List UInt8×Int
def dw (L:List dK):List UInt8:=(L.head?.map (·.1)).getD []
theorem aci (x:dK) (L:List dK):dw (x::L)=x.1:=rfl
theorem A6 {A B:List dK} (h:A≠[]):dw (A++B)=dw A:=by
 cases A with
 | nil=>exact absurd rfl h
 | cons x A=>rfl
def nL (L:List dK):Prop:=L.Pairwise fun x y=>bl x.1 y.1=true
def Sub (M:List (List UInt8)) (d:DS) (j:Nat):Nat->Int->List dK->List Int->Prop
 | 0,e,g,f=>(∃low,g=[(low,e)])/\f=[]
 | l+1,e,g,f=>(bF M d e ((l+1:Nat):Int)).2=0/\j<=(bF M d e ((l+1:Nat):Int)).1.ai.length/\∃b:List (List dK×List Int),b.length=(bF M d e ((l+1:Nat):Int)).1.ai.length/\
    g=(b.map (·.1)).flatten/\f=e::(b.map (·.2)).flatten/\
    ∀i,i<b.length->Sub M d j l (au (bF M d e ((l+1:Nat):Int)).1.ai i).2 (b.getD i ([],[])).1 (b.getD i ([],[])).2/\
     (i+1<b.length->(au (bF M d e ((l+1:Nat):Int)).1.ai i).1=dw (b.getD (i+1) ([],[])).1)
theorem xh {M:List (List UInt8)} {d:DS} {t:Nat}:∀{l:Nat} {b:Int} {g:List dK} {f:List Int},Sub M d t l b g f->g≠[]
 | 0,_,_,_,⟨⟨low,h⟩,_⟩=>by rw[h];simp
 | l+1,b,g,f,⟨n,_,e,m,q,y,r⟩=>by
   have u:=(qW n).1.l1;cases hq:e with
   | nil=>rw[hq,lC] at m;omega
   | cons x z=>
     have i:=(r 0 (by rw[m];omega)).1;rw[hq] at i;have j:=xh i;simp only[qu] at j;rw[q,hq];simp only[dh,Ab];intro o;exact j (MC.1 o).1
theorem GW (k:List UInt8):∀{E:List aG},E≠[]->(∀j,j<bK E k->bl k (au E j).1=false)/\(bK E k+1<E.length->bl k (au E (bK E k)).1=true)
 | [],h=>absurd rfl h
 | x::E,_=>by
   rw[Cq];cases hb:bl k x.1
   ·rw[aA av];by_cases b:E=[]
    ·rw[aC b];exact⟨fun j d=>absurd d (ur _),fun h=>by rw[b] at h;simp at h⟩
    ·rw[aA b];obtain⟨e,f⟩:=GW k b;refine⟨fun j d=>?_,fun h=>?_⟩
     ·cases j with
      | zero=>simpa[au] using hb
      | succ j=>
        have:=e j af;simpa[au] using this
     ·have:=f (by simp at h;omega);exact yd
   ·rw[aC rfl];exact⟨fun j d=>absurd d (ur _),fun _=>by simpa[au] using hb⟩
theorem acO:∀{E:List aG} {b:List UInt8},cR b E=true->∀i,i+1=E.length->(au E i).1=[]
 | [],_,_,i,h=>jQ
 | x::E,b,f,i,h=>by
   obtain⟨_,d,_,_,e⟩:=iP f;cases i with
   | zero=>
     have:E=[]:=gY (by rw[gW] at h;omega);have:=d.2 this;simpa[au] using this
   | succ i=>
     have:=acO e i (by simp at h;omega);simpa[au] using this
theorem SS {n:Nd} (h:pS n) {i:Nat} (b:i+1=n.ai.length):(au n.ai i).1=[]:=acO h.ai i b
theorem GU {α:Type} {L:List (List α)} {i:Nat} (h:i<L.length):L.flatten=(L.take i).flatten++L.getD i []++(L.drop (i+1)).flatten:=by
 have e:L.getD i []=L[i]:=xZ;have b:L=L.take i++L[i]::L.drop (i+1):=by rw[<-gz h,pM]
 rw[e];refine(gP List.flatten b).trans ?_;rw[Al,Ab,jk]
theorem GX {A B:List dK} (h:nL (A++B)) {x y:dK} (b:x∈A) (d:y∈B):bl x.1 y.1=true:=(mT.1 h).2.2 x b y d
theorem uw {A:List dK} (h:A≠[]):∃x∈A,dw A=x.1:=by
 cases A with
 | nil=>exact absurd rfl h
 | cons x A=>exact⟨x,av,rfl⟩
structure MP (M:List (List UInt8)) (mn:Nat) (h:Hd) (d:DS) (key:List UInt8) (items:List dK) (j:Nat):Prop where
 er:ig M h d key j=0
 seg:∃(pre seg post:List dK) (dn:List Int),items=pre++seg++post/\Sub M d mn (h.height.toNat-j) (bJ M h d key j) seg dn/\G5 M h d key j=dw seg/\G6 M h d key j=dw post/\bl key (dw seg)=false/\(post≠[]->bl key (dw post)=true)
theorem apw {M:List (List UInt8)} {g:Nat} {h:Hd} {d:DS} {key:List UInt8} {b:List dK} {e:List Int} (i:Sub M d g h.height.toNat h.root b e) (f:dw b=[]):MP M g h d key b 0:=
 ⟨rfl,[],b,[],e,av,i,by rw[f];rfl,rfl,by rw[f];exact uQ _,fun h=>absurd rfl h⟩
theorem getD_map {α β:Type} (f:α->β) (L:List α) (i:Nat) (x:α) (y:β) (h:f x=y):(L.map f).getD i y=f (L.getD i x):=by
 simp only[List.getD,JX];cases L[i]? <;>simp[h]
theorem apx {M:List (List UInt8)} {mn:Nat} {h:Hd} {d:DS} {key:List UInt8} {o:List dK} {j:Nat} (hh:0<=h.height) (hj:j<h.height.toNat) (C:nL o) (hl:MP M mn h d key o j):MP M mn h d key o (j+1):=by
 obtain⟨he,pre,t,post,dn,hi,D,hlo,hhi,hk1,hk2⟩:=hl;obtain⟨l,hl⟩:∃l,h.height.toNat-j=l+1:=⟨h.height.toNat-j-1,af⟩;have B:h.height-(j:Int)=((l+1:Nat):Int):=af;have hl2:h.height.toNat-(j+1)=l:=af;rw[hl] at D;obtain⟨h0,_,parts,hpl,T,hpp,m⟩:=D;have Q:bR M h d key j=(bF M d (bJ M h d key j) ((l+1:Nat):Int)).1:=by unfold bR;rw[B]
 have kJ:kZ M h d key j=0:=by unfold kZ;rw[B];exact h0
 rw[<-Q] at hpl m;have hsp:=(qW h0).1;rw[<-Q] at hsp;have R:(bR M h d key j).ai≠[]:=Kf;have hfl:=yG key R;obtain⟨yR,O⟩:=GW key R;have H:G5 M h d key (j+1)=Te (G5 M h d key j) (bR M h d key j) (bK (bR M h d key j).ai key):=rfl;have z:G6 M h d key (j+1)=Tf (G6 M h d key j) (bR M h d key j) (bK (bR M h d key j).ai key):=rfl;have S:=ux M h d key j;generalize bR M h d key j=X at *;generalize bK X.ai key=i at *;have G:i<parts.length:=af;obtain⟨K,hbi⟩:=m i G;rw[<-S] at K;have hml:(parts.map (·.1)).length=parts.length:=kF _;have hgd:∀k,(parts.map (·.1)).getD k []=(parts.getD k ([],[])).1:=fun k=>getD_map _ parts k ([],[]) [] rfl;have b:=GU (L:=parts.map (·.1)) (i:=i) af;rw[<-T,hgd] at b
 -- the lower bound of a part is that of its node's entry
 have f:∀k,k+1<parts.length->dw (parts.getD (k+1) ([],[])).1=(au X.ai k).1:=fun k hk=>((m k af).2 hk).symm;have U:(parts.getD i ([],[])).1≠[]:=xh K;have r:dw t=dw (parts.getD 0 ([],[])).1:=by
  have h9:=GU (L:=parts.map (·.1)) (i:=0) af;rw[<-T,hgd] at h9;rw[h9];simp only[eF,List.flatten_nil,bQ];exact A6 (xh (m 0 af).1)
 have n:nL t:=by
  have h9:=C;rw[hi] at h9;exact(mT.1 (mT.1 h9).1).2.1
 have J:post≠[]->∀x∈t,bl x.1 (dw post)=true:=fun Z x V=>by
  have h9:=C;rw[hi] at h9;obtain⟨y,hy,e⟩:=uw Z;rw[e];exact GX h9 (nK _ V) hy
 refine⟨by rw[G7 he];exact kJ,pre++((parts.map (·.1)).take i).flatten,(parts.getD i ([],[])).1,((parts.map (·.1)).drop (i+1)).flatten++post,(parts.getD i ([],[])).2,?_,by rw[hl2];exact K,?_,?_,?_,?_⟩
 ·rw[hi,b];simp
 ·rw[H,hlo];unfold Te;by_cases h9:0<i
  ·rw[aC h9];obtain⟨k,rfl⟩:∃k,i=k+1:=⟨i-1,af⟩;have Y:=f k G;rw[C6,<-Y];have hlt:bl (dw t) (dw (parts.getD (k+1) ([],[])).1)=true:=by
    rw[b] at n;have hA:((parts.map (·.1)).take (k+1)).flatten≠[]:=by
     intro h8;have N:=GU (L:=(parts.map (·.1)).take (k+1)) (i:=0) kQ;rw[h8] at N;have h6:=(MC.1 N.symm).1;have h5:=(MC.1 h6).2;have h4:((parts.map (·.1)).take (k+1)).getD 0 []=(parts.getD 0 ([],[])).1:=by
      rw[<-hgd 0];simp[List.getD,qF]
     rw[h4] at h5;exact xh (m 0 af).1 h5
    obtain⟨x,V,ex⟩:=uw hA;obtain⟨y,hy,ey⟩:=uw U;have e2:dw t=dw ((parts.map (·.1)).take (k+1)).flatten:=by
     rw[b,jk];exact A6 hA
    rw[e2,ex,ey];rw[jk] at n;exact GX n V (oM _ hy)
   rw[aC hlt]
  ·have F:i=0:=af;rw[aA h9,r,F]
 ·rw[z,hhi];unfold Tf;by_cases h9:i+1<parts.length
  ·have Y:=f i h9;have u:((parts.map (·.1)).drop (i+1)).flatten=(parts.getD (i+1) ([],[])).1++((parts.map (·.1)).drop (i+2)).flatten:=by
    exact Yh
   have q:(parts.getD (i+1) ([],[])).1≠[]:=xh (m (i+1) h9).1;have g:(au X.ai i).1≠[]:=by
    intro h8;have N:=O af;rw[h8,uQ] at N;cases N
   have hcl:dw (((parts.map (·.1)).drop (i+1)).flatten++post)=(au X.ai i).1:=by
    rw[u,jk,A6 q,Y]
   rw[hcl,aC];refine⟨g,?_⟩;by_cases Z:post=[]
   ·left;rw[Z];rfl
   ·right;obtain⟨x,V,ex⟩:=uw q;rw[<-Y,ex];refine J Z x ?_;rw[b,u];exact nK _ (oM _ V)
  ·have hi1:i+1=parts.length:=af;have E:(parts.map (·.1)).drop (i+1)=[]:=jI af;have g:(au X.ai i).1=[]:=SS hsp af;rw[E,aA (by rw[g];simp)];rfl
 ·by_cases h9:0<i
  ·obtain⟨k,rfl⟩:∃k,i=k+1:=⟨i-1,af⟩;rw[f k G];exact yR k af
  ·have F:i=0:=af;rw[F,<-r];exact hk1
 ·intro I;by_cases h9:i+1<parts.length
  ·have q:(parts.getD (i+1) ([],[])).1≠[]:=xh (m (i+1) h9).1;have u:((parts.map (·.1)).drop (i+1)).flatten=(parts.getD (i+1) ([],[])).1++((parts.map (·.1)).drop (i+2)).flatten:=by
    exact Yh
   rw[u,jk,A6 q,f i h9];exact O af
  ·have E:(parts.map (·.1)).drop (i+1)=[]:=jI af;rw[E] at I⊢;simp only[List.flatten_nil,bQ] at I⊢;exact hk2 I
theorem Tg {M:List (List UInt8)} {m:Nat} {h:Hd} {d:DS} {key:List UInt8} {b:List dK} {f:List Int} (i:0<=h.height) (e:nL b) (l:Sub M d m h.height.toNat h.root b f) (g:dw b=[]):∀j,j<=h.height.toNat->MP M m h d key b j
 | 0,_=>apw l g
 | j+1,n=>apx i af e (Tg i e l g j af)
theorem apy {M:List (List UInt8)} {y:Nat} {h:Hd} {d:DS} {key:List UInt8} {b:List dK} {n:List Int} (r:0<=h.height) (g:nL b) (u:Sub M d y h.height.toNat h.root b n) (o:dw b=[]):
 ig M h d key h.height.toNat=0/\∃(pre post:List dK) (low:List UInt8) (base:Int),b=pre++(low,base)::post/\bJ M h d key h.height.toNat=base/\G5 M h d key h.height.toNat=low/\G6 M h d key h.height.toNat=dw post/\bl key low=false/\(post≠[]->bl key (dw post)=true):=by
 obtain⟨q,pre,z,post,pg,t,e,m,i,j,l⟩:=Tg (key:=key) r g u o h.height.toNat (aH _);rw[yS] at e;obtain⟨⟨low,f⟩,_⟩:=e;subst f;exact⟨q,pre,post,low,_,by rw[t];simp,rfl,m,i,j,l⟩
theorem acP:∀{a m c:List UInt8},bl a m=true->bl m c=true->eO a c<=eO m c
 | [],m,c,_,_=>by rw[CX];exact bL _
 | a::x,m,[],h,_=>by simp[eO]
 | a::x,[],c::z,h,_=>EX
 | a::x,m::y,c::z,b,d=>by
   rw[sQ] at b d;simp only[pL,gu,eu,jT] at b d;unfold eO;by_cases e:a=c
   ·subst e;have i:a=m:=by
     rcases b with b | ⟨b,_⟩
     ·rcases d with d | ⟨d,_⟩
      ·exact absurd (UInt8.lt_trans b d) (UInt8.lt_irrefl _)
      ·exact d.symm
     ·exact b
    subst i;simp only[pF];have f:bl x y=true:=by
     rcases b with b | ⟨_,b⟩
     ·exact absurd b (UInt8.lt_irrefl _)
     ·exact b
    have g:bl y z=true:=by
     rcases d with d | ⟨_,d⟩
     ·exact absurd d (UInt8.lt_irrefl _)
     ·exact d
    have:=acP f g;omega
   ·rw[aA e];exact bL _
theorem MD:∀(b:List UInt8) (L:List aG),6*L.length<=dZ b L
 | _,[]=>by simp[dZ]
 | b,x::L=>by
   have:=MD x.1 L;simp only[dZ,gW];omega
def Bd:List UInt8->List aG->List UInt8
 | b,[]=>b
 | _,x::L=>Bd x.1 L
theorem acQ:∀(b:List UInt8) (A B:List aG),dZ b (A++B)=dZ b A+dZ (Bd b A) B
 | b,[],B=>by simp[dZ,Bd]
 | b,x::A,B=>by
   have:=acQ x.1 A B;simp only[bE,dZ,Bd,this];omega
theorem apz {b c:List UInt8} {K:Nat}:∀{L:List aG},(∀x∈L,x.1.length<=K)->dZ b L<=dZ c L+K
 | [],_=>by simp[dZ]
 | x::L,h=>by
   have d:=h x av;have e:=(Av c x.1).2;simp only[dZ];omega
theorem acR:∀(b:List UInt8) (L:List aG),dZ b (cC L)<=dZ b L
 | _,[]=>aH _
 | b,[x]=>by simp only[cC,dZ,lC];omega
 | b,x::y::L=>by
   have:=acR x.1 (y::L);simp only[cC,dZ] at this⊢;omega
theorem acu {bound:List UInt8} {pg:Int}:∀{E:List aG} {b:List UInt8} {i:Nat},cR b E=true->i<E.length->(i=0->bl b bound=true∨b=[])->(0<i->bl (au E (i-1)).1 bound=true)->((au E i).1≠[]->bl bound (au E i).1=true)->
 dZ b (eD E i bound pg)<=dZ b E+6+bound.length
 | [],_,i,_,h,_,_,_=>jQ
 | x::E,b,0,l,_,o,_,d=>by
   rw[QZ];simp only[dZ];have f:x.1≠[]->bl bound x.1=true:=fun h=>d (by simpa[au] using h);have u:eO b x.1<=eO bound x.1:=by
    by_cases n:x.1=[]
    ·rw[n];have:=(Av b []).2;simp at this;omega
    ·rcases o rfl with g | g
     ·exact acP g (f n)
     ·rw[g,CX];exact bL _
   omega
 | x::E,b,i+1,l,r,_,j,d=>by
   rw[Q0];simp only[dZ];obtain⟨_,_,_,_,q⟩:=iP l;have:=acu (bound:=bound) (pg:=pg) q (i:=i) (by simp at r;omega) (fun m=>by
    subst m;left;have:=j af;exact yd) (fun m=>by
    have:=j af;have e:i+1-1=(i-1)+1:=af;rw[e] at this;exact yd) (fun t=>by
    have:=d (by simpa[au] using t);exact yd)
   omega
theorem aoY {size:Int} {K:Nat} {E:List aG} (n:cQ size=true) (m:(K:Int)<=size/16) (i:∀x∈E,x.1.length<=K) (I:(6+dZ [] E:Int)<=size+6+K):
 (6+dZ [] (cC (E.take ((E.length+1)/2))):Int)<=size/\(6+dZ [] (E.drop ((E.length+1)/2)):Int)<=size:=by
 have y:=acQ [] (E.take ((E.length+1)/2)) (E.drop ((E.length+1)/2));rw[pM] at y;have t:(E.take ((E.length+1)/2)).length=(E.length+1)/2:=kQ;have u:(E.drop ((E.length+1)/2)).length=E.length-(E.length+1)/2:=eU;have e:=Aw (E.take ((E.length+1)/2)) [] K (fun x d=>i x (yI d));have g:=Aw (E.drop ((E.length+1)/2)) [] K (fun x d=>i x (uh d));have q:=MD [] (E.take ((E.length+1)/2));have r:=MD (Bd [] (E.take ((E.length+1)/2))) (E.drop ((E.length+1)/2));have G:=acR [] (E.take ((E.length+1)/2));have H:=apz (b:=[]) (c:=Bd [] (E.take ((E.length+1)/2))) (K:=K) (L:=E.drop ((E.length+1)/2)) (fun x d=>i x (uh d));rw[t] at e q;rw[u] at g r;generalize dZ [] (cC (E.take ((E.length+1)/2)))=J at *;generalize dZ [] (E.take ((E.length+1)/2))=D at *;generalize dZ [] (E.drop ((E.length+1)/2))=F at *;generalize dZ (Bd [] (E.take ((E.length+1)/2))) (E.drop ((E.length+1)/2))=M at *;generalize dZ [] E=N at *;obtain⟨c,z⟩:∃c,(E.length+1)/2=c:=⟨_,rfl⟩;obtain⟨f,C⟩:∃f,E.length-(E.length+1)/2=f:=⟨_,rfl⟩;have B:f<=c/\c<=f+1:=af;rw[z] at e q;rw[C] at g r;have o:size=128∨size=256∨size=512:=by
  unfold cQ at n;simp at n;omega
 have j:D<=c*(6+size.toNat/16):=fN e (Nat.mul_le_mul_left _ af);have l:F<=f*(6+size.toNat/16):=fN g (Nat.mul_le_mul_left _ af);clear e g i n t u;rcases o with rfl | rfl | rfl
 ·simp at j l m;omega
 ·simp at j l m;omega
 ·simp at j l m;omega
end aD
namespace aD
open Go.Proofs.YteninnkbmoimgaaGreatDoor (dS dH)
theorem acv {size:Int} {n:Nd} (h:dS size n=0):dH size n=iW size n:=by unfold dH;rw[aC h]
theorem ME {size:Int} {n:Nd} (d:cQ size=true) (b:eC n=true) (e:(6+dZ [] n.ai:Int)<=size):dS size n=0:=by
 unfold dS;rw[d,b,aA av,aA];unfold ja;rw[aC b];omega
theorem ape {size:Int} {n:Nd} (b:cQ size=true) (d:eC n=true):kS size n=decide ((6+dZ [] n.ai:Int)<=size):=by
 unfold kS ja;rw[b,d,aC rfl];simp
theorem ML {M:List (List UInt8)} {d:DS} {b:Int} {n:Nd} (i:aF M b=(dH d.interval n,0)) (e:dS d.interval n=0):bF M d b n.level=(n,0):=by
 obtain⟨l,m⟩:=Sa e;obtain⟨j,_,_⟩:=GY e;rw[acv e] at i;have f:gH d.interval (iW d.interval n)=0:=by unfold gH;rw[j,l];simp
 have g:dz d.interval (iW d.interval n)=n:=by unfold dz;rw[aC f,m]
 unfold bF;rw[i,aA av,aA (by rw[f,g];simp),g]
theorem SN {M M':List (List UInt8)} {d:DS} {b level:Int} (h:aF M' b=aF M b):bF M' d b level=bF M d b level:=by
 unfold bF;rw[h]
theorem GR {M M':List (List UInt8)} {d:DS} {r:Nat}:∀{l:Nat} {f:Int} {n:List dK} {g:List Int},Sub M d r l f n g->(∀q∈g,aF M' q=aF M q)->Sub M' d r l f n g
 | 0,_,_,_,h,_=>h
 | l+1,f,n,g,⟨t,C,b,B,z,m,E⟩,o=>by
   have e:=SN (d:=d) (level:=((l+1:Nat):Int)) (o f (by rw[m];simp));refine⟨by rw[e];exact t,by rw[e];exact C,b,by rw[e];exact B,z,m,fun i j=>?_⟩;rw[e];obtain⟨u,y⟩:=E i j;refine⟨GR u fun q D=>o q ?_,y⟩;rw[m];refine pQ _ (uu.2 ⟨(b.getD i ([],[])).2,?_,D⟩);refine fT.2 ⟨b[i],mN j,by simp[List.getD,j]⟩
theorem acg (E:List aG) {i:Nat} (e:i<E.length) (bound:List UInt8) (pg:Int) (j:Nat):
 au (eD E i bound pg) j=if j<i then au E j else if j=i then(bound,(au E i).2) else if j=i+1 then((au E i).1,pg) else au E (j-1):=by
 have d:(E.take i).length=i:=kQ;unfold eD au;by_cases b:j<i
 ·rw[aC b];simp[List.getD,rF (show j<(E.take i).length by omega),qF,b]
 ·rw[aA b];obtain⟨k,rfl⟩:∃k,j=i+k:=⟨j-i,af⟩;have e2:(E.take i++(bound,(E.getD i ([],0)).2)::((E.getD i ([],0)).1,pg)::E.drop (i+1))[i+k]? =((bound,(E.getD i ([],0)).2)::((E.getD i ([],0)).1,pg)::E.drop (i+1))[k]? :=by
   rw[CU af,d,Mg]
  simp only[List.getD] at e2⊢;exact Yb
theorem acs {bound:List UInt8} {pg:Int} (z:gA pg=true) (r:bound≠[]) (d:bound.length<=32):
 ∀{E:List aG} {b:List UInt8} {i:Nat},cR b E=true->i<E.length->(i=0->bl b bound=true)->(0<i->bl (au E (i-1)).1 bound=true)->((au E i).1≠[]->bl bound (au E i).1=true)->cR b (eD E i bound pg)=true
 | [],_,i,_,h,_,_,_=>jQ
 | x::E,b,0,o,_,B,_,n=>by
   obtain⟨j,f,l,t,m⟩:=iP o;rw[QZ];exact nZ j ⟨fun h=>absurd h r,fun h=>ot⟩ d (fun _=>B rfl) (nZ z f l (fun g=>n (by
    have:x.1≠[]:=fun h=>g (f.1 h);exact yd) |> fun h=>by simpa[au] using h) m)
 | x::E,b,i+1,o,q,_,u,n=>by
   obtain⟨j,f,l,t,m⟩:=iP o;rw[Q0];have g:E≠[]:=fun h=>by rw[h] at q;simp at q
   refine nZ j ⟨fun h=>absurd (f.1 h) g,fun h=>absurd h (ZX _ _ _ _)⟩ l (fun _=>t g) ?_;refine acs z r d m (by simp at q;omega) (fun y=>?_) (fun y=>?_) (fun C=>?_)
   ·subst y;have:=u af;exact yd
   ·have:=u af;have e:i+1-1=(i-1)+1:=af;rw[e] at this;exact yd
   ·have:=n (by simpa[au] using C);exact yd
abbrev DI:=Int×Nat×Nd
def kL (h:Hd) (b:List UInt8) (p:Int):Nd:=⟨h.height+1,0,[(b,h.root),([],p)]⟩
def jx (d:DS):List DI->Hd->List Wr->List UInt8->Int->Hd×List Wr×Int
 | [],h,e,b,p=>
   if h.height=6 then(h,e,8)
   else({h with height:=h.height+1,fin:=h.fin+1,root:=h.fin+1},e++[(h.fin+1,dH d.interval (kL h b p))],dS d.interval (kL h b p))
 | s::rest,h,e,b,p=>
   let n:=kT s.2.2 (s.2.1:Int) b p
   if n.2≠0 then(h,e,n.2)
   else if kS d.interval n.1 then(h,e++[(s.1,dH d.interval n.1)],dS d.interval n.1)
   else
    let q:=qR n.1
    if q.2.2.2≠0 then(h,e,q.2.2.2)
    else
     let left:Nd:={q.1 with next:=h.fin+1}
     if dS d.interval left≠0 then({h with fin:=h.fin+1},e++[(s.1,dH d.interval left)],dS d.interval left)
     else if dS d.interval q.2.1≠0 then({h with fin:=h.fin+1},e++[(s.1,dH d.interval left),(h.fin+1,dH d.interval q.2.1)],dS d.interval q.2.1)
     else jx d rest {h with fin:=h.fin+1} (e++[(s.1,dH d.interval left),(h.fin+1,dH d.interval q.2.1)]) q.2.2.1 (h.fin+1)
def MQ (M:List (List UInt8)) (h:Hd) (d:DS) (key:List UInt8) (j:Nat):DI:=(bJ M h d key j,bK (bR M h d key j).ai key,bR M h d key j)
def m7 (M:List (List UInt8)) (h:Hd) (d:DS) (key:List UInt8):Nat->List DI
 | 0=>[]
 | j+1=>MQ M h d key j::m7 M h d key j
def iR (b:List UInt8) (base:Int):List dK->List dK
 | []=>[(b,base)]
 | x::L=>if bl b x.1=true then(b,base)::x::L else x::iR b base L
theorem SQ {b:List UInt8} {base:Int}:∀{A B:List dK},A≠[]->(∀x∈A,bl b x.1=false)->iR b base (A++B)=A++iR b base B
 | [],_,h,_=>absurd rfl h
 | [x],B,_,h=>by
   simp only[bE,bQ,iR];rw[h x av];simp
 | x::y::A,B,_,h=>by
   have:=SQ (b:=b) (base:=base) (A:=y::A) (B:=B) av (fun z d=>h z (by simp[d]));simp only[bE,iR] at this⊢;rw[h x av,this];simp
theorem aoR {b:List UInt8} {base:Int} {A B:List dK} (h:∀x∈B,bl b x.1=true):iR b base (A++B)=iR b base A++B:=by
 induction A with
 | nil=>
   cases B with
   | nil=>rfl
   | cons y B=>simp only[bQ,iR,h y av,pF];rfl
 | cons x A e=>
   simp only[bE,iR];by_cases d:bl b x.1=true
   ·rw[aC d,aC d];rfl
   ·rw[aA d,aA d,e];rfl
theorem MK {b:List UInt8} {base:Int} {x:dK}:∀{L:List dK},x∈iR b base L↔x=(b,base)∨x∈L
 | []=>by simp[iR]
 | y::L=>by
   simp only[iR];split
   ·simp
   ·simp only[fD,MK (L:=L)];constructor
    ·rintro(h | h | h)
     ·exact .inr (.inl h)
     ·exact .inl h
     ·exact .inr (.inr h)
    ·rintro(h | h | h)
     ·exact .inr (.inl h)
     ·exact .inl h
     ·exact .inr (.inr h)
theorem Ta {b:List UInt8} {base:Int}:∀{L:List dK},nL L->(∀x∈L,x.1≠b)->nL (iR b base L)
 | [],_,_=>Th _ _
 | x::L,h,i=>by
   obtain⟨g,j⟩:=lM.1 h;simp only[iR];split
   ·rename_i f;refine lM.2 ⟨fun y d=>?_,h⟩;rcases fD.1 d with rfl | d
    ·exact f
    ·exact iN f (g y d)
   ·rename_i f;refine lM.2 ⟨fun y d=>?_,Ta j fun y d=>i y (by simp[d])⟩;rcases MK.1 d with rfl | d
    ·exact QL (by simpa using f) (fun e=>i x av e.symm)
    ·exact g y d
end aD
namespace Go.Proofs.YteninnkbmoimgaaGreatDoor
open Go.RowKit aD
theorem Ti (q:Option Addr) (c n:Nat) (L:aB) (size:Int) (W:World) (h:bk W q L) (i:L.length=n) (g:Small L) (b:Bool) (d:eH size L=b):Calls Tryz.prog 107 #[.int .i64 size,.slice q n c] W fun e w'=>e=.returned (.bool b)/\Ext W w':=by
 refine(Zi q c n L size W h i g).mono ?_;rintro e w' ⟨rfl,f⟩;subst d;exact⟨rfl,f⟩
theorem apA (size:Int) (q:Option Addr) (c:Nat) (L:aB) (w:World) (D:bk w q L) (hlc:L.length<=c) (H:c<=maxLen) (Z:Small L):
 Calls Tryz.prog 137 #[.int .i64 size,.slice q L.length c] w fun e w'=>e=.returned (.int .i64 (vn size L:Nat))/\Ext w w':=by
 have DA:L.length<=1000000:=Z.1;have Hs:=ag D;have Hm:=ag Z;have HcM:=ag H;clear D Z H;go_enter Tryz.func137,Tryz.ntmps137;go_wp2_with fail;go_loopw[5,6,7] (fun bv lv kv wr=>∃(k B:Nat) (z:Int),1<=k/\(k<=L.length∨k=1)/\kv=.int .i64 k/\bv=.int .i64 B/\lv=.int .i64 z/\Ext w wr/\Hid (s7 size L k=(B,z))) (fun _ _ kv _=>L.length-(intOf kv).toNat)
 case atStart=>exact⟨1,0,0,aH _,.inr rfl,rfl,rfl,rfl,Ext.refl _,ag rfl⟩
 case round=>
  obtain⟨k,B,z,hk1,J,rfl,rfl,rfl,hx,l⟩:=hrel;by_cases hlt:k<L.length
  ·have M:(k:Int)<L.length:=af;have hkl:k<=L.length:=af;have hkc:k<=c:=af;clear J;have T:=ag hx;have oz:¬c=k:=af;have i:=Hs.out.ext hx;have g:Hid (s7 size L (k+1)=if eH size (L.take k)=true/\eH size (L.drop k)=true then(if B=0∨A0 ((cB (L.take k):Int)-cB (L.drop k))<z then(k,A0 ((cB (L.take k):Int)-cB (L.drop k))) else(B,z)) else(B,z)):=ag (by
    rw[s7,aA af,l.out])
   obtain⟨b,m,rfl,_,_⟩:=i.at k af;have y:Small (L.take k):=⟨kQ,fun s D=>Hm.out.2 s (yI D)⟩;have C:Small (L.drop k):=⟨xX,fun s D=>Hm.out.2 s (uh D)⟩;have n:=ag (fun W (e:Ext wr W) U X=>Ti (some ⟨b,m,none⟩) c k (L.take k) size W ((i.take k).ext e) kQ y U X);have r:=ag (fun W (e:Ext wr W) U X=>Ti (some ⟨b,m+k,none⟩) (c-k) (L.length-k) (L.drop k) size W ((i.drop k).ext e) eU C U X);have F:=ag (fun W (e:Ext wr W)=>Fz (some ⟨b,m,none⟩) c k (L.take k) W ((i.take k).ext e) kQ y);have G:=ag (fun W (e:Ext wr W)=>Fz (some ⟨b,m+k,none⟩) (c-k) (L.length-k) (L.drop k) W ((i.drop k).ext e) eU C);clear i hx y C;cases hb1:eH size (L.take k)
   ·have t:=ag (g.out.trans (aA (by rw[hb1];simp)));have E:=ag (fun W e=>n.out W e _ hb1);clear hb1 g;go_wp2_with(go_at_call 107;with_reducible refine(E.out _ (Ext.refl _)).mono ?_;rintro e w1 ⟨rfl,d⟩);go_roundw
    case rel=>exact⟨k+1,B,z,af,.inl af,bX,rfl,rfl,T.out.trans d,ag t.out⟩
    case measure=>exact ct
   ·have E:=ag (fun W e=>n.out W e _ hb1);cases hb2:eH size (L.drop k)
    ·have t:=ag (g.out.trans (aA (by rw[hb2];simp)));have R:=ag (fun W e=>r.out W e _ hb2);clear hb1 hb2 g;go_wp2_with(first
      | (go_at_call 107;with_reducible refine(E.out _ (Ext.refl _)).mono ?_;rintro e w1 ⟨rfl,d⟩)
      | (go_at_call 107;with_reducible refine(R.out _ d).mono ?_;rintro e w2 ⟨rfl,f⟩))
     go_roundw
     case rel=>exact⟨k+1,B,z,af,.inl af,bX,rfl,rfl,(T.out.trans d).trans f,ag t.out⟩
     case measure=>exact ct
    ·have R:=ag (fun W e=>r.out W e _ hb2);have t:=ag (g.out.trans (aC ⟨hb1,hb2⟩));have hz1:=(C5 hb1).2.2;have hz2:=(C5 hb2).2.2;have jA:=oB (C5 hb1).1;clear hb1 hb2 g;go_upto_region 6 with(first
      | (go_at_call 107;with_reducible refine(E.out _ (Ext.refl _)).mono ?_;rintro e w1 ⟨rfl,d⟩)
      | (go_at_call 107;with_reducible refine(R.out _ d).mono ?_;rintro e w2 ⟨rfl,f⟩))
     have j:=ag (d.trans f);clear E R n r d f;generalize cB (L.take k)=N at *;generalize cB (L.drop k)=O at *;have HA:=ag (fun W=>apB ((N:Int)-O) af af W);refine eR 200 (Ext.refl w2) aj aj aj ?_;refine gV ?_;repeat (first
      | (refine bT (o:=⟨some 32,_,_,_,_,_⟩) (v:=.int .i64 (N:Nat)) rfl ?_ ?_
         ·intro a w' he hr K hK;simp[Reads,Oper.looksAt,Op.operands,Call.operands,aJ,Is] at hr;go_simp;refine(F.out _ (j.out.trans he)).mono ?_;exact kg
         refine aE ?_)
      | (refine bT (o:=⟨some 36,_,_,_,_,_⟩) (v:=.int .i64 (O:Nat)) rfl ?_ ?_
         ·intro a w' he hr K hK;simp[Reads,Oper.looksAt,Op.operands,Call.operands,aJ,Is] at hr;go_simp;refine(G.out _ (j.out.trans he)).mono ?_;exact kg
         refine aE ?_)
      | (refine bT (o:=⟨some 38,_,_,_,_,_⟩) (v:=.int .i64 (A0 ((N:Int)-O))) rfl ?_ ?_
         ·intro a w' he hr K hK;simp[Reads,Oper.looksAt,Op.operands,Call.operands,aJ,Is] at hr;go_simp;refine((HA.out _).mono (fun e w'' h=>(⟨h.1,by rw[h.2];exact Ext.refl _⟩:e=.returned (.int .i64 (A0 ((N:Int)-O)))/\Ext _ w''))).mono ?_;rintro e w'' ⟨rfl,kP⟩;exact hK _ kP
         refine aE ?_)
      | (refine kN ?_)
      | (refine fR ?_)
      | (refine iq ?_)
      | (refine fk ?_))
     intro w2 f;repeat (first | with_reducible refine cH _ _ _ _ ?_ | (with_reducible refine cI _ _ _ _ ?_;intro _ _) | with_reducible refine cJ _ _ ?_)
     simp only[cF,cK,bQ,bE];have u:=ag ((T.out.trans j.out).trans f);clear f j F G HA;generalize A0 ((N:Int)-O)=dd at *;rcases CA B with V | V
     ·have b0:((B:Int)==0)=true:=by rw[V];rfl
      go_wp2_with fail;go_roundw
      case rel=>exact⟨k+1,k,_,af,.inl af,bX,rfl,rfl,u.out,ag (t.out.trans (aC (.inl V)))⟩
      case measure=>exact ct
     ·have b0:((B:Int)==0)=false:=wJ.2 af;by_cases S:dd<z
      ·have Y:=S;go_wp2_with fail;go_roundw
       case rel=>exact⟨k+1,k,_,af,.inl af,bX,rfl,rfl,u.out,ag (t.out.trans (aC (.inr S)))⟩
       case measure=>exact ct
      ·have Y:decide (dd<z)=false:=aM S;go_wp2_with fail;go_roundw
       case rel=>exact⟨k+1,B,_,by omega,.inl af,by go_num,rfl,rfl,u.out,ag (t.out.trans (aA (by
        rintro(h | h)
        ·omega
        ·exact S h)))⟩
       case measure=>exact ct
  ·have M:decide ((k:Int)<L.length)=false:=aY;have I:vn size L=B:=by
    unfold vn;rcases J with J | J
    ·have e:L.length=k:=af;rw[e,l.out]
    ·subst J;rcases CA L.length with h0 | h0
     ·rw[h0];have:=l.out;simp only[s7] at this⊢;exact(gP Prod.fst this)
     ·have e:L.length=1:=af;rw[e,l.out]
   go_wp2_with fail;go_ret;exact⟨by rw[I];rfl,hx⟩
end Go.Proofs.YteninnkbmoimgaaGreatDoor

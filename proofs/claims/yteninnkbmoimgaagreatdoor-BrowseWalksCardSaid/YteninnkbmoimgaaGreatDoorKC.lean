/- A part of the proof. -/
import Derived.Test.YteninnkbmoimgaaGreatDoorKA
set_option linter.unusedSimpArgs false
set_option linter.unusedVariables false
set_option maxRecDepth 100000
set_option maxHeartbeats 16000000
namespace Go.Proofs.YteninnkbmoimgaaGreatDoor
open Go.RowKit aD
theorem Un (l:List UInt8) (i:Int) (b:0<=i) (f:i+1<l.length) (d:l.length<=1000000) (w:World):
 Calls Tryz.prog 156 #[.string ⟨l.toArray⟩,.int .i64 i] w fun e w'=>e=.returned (.int .i64 (two l i.toNat:Nat))/\∃n,w'=w.drewN n:=by
 obtain⟨i,rfl⟩:=pN b;rw[jU];exact aj4 l i af d w
theorem arz (n:Nat) (h128:128<=n) (m:n<=512) (hsz:cQ n=true) (d:List UInt8) (hd:d.length=n) (hu:(d==List.replicate d.length 0)=false) (w:World):
 Calls Tryz.prog 122 #[.int .i64 n,.string ⟨d.toArray⟩] w (G4 n d w):=by
 have hE:Hid (jY n d=11):=ag (by unfold jY;rw[hsz,hu,hd];simp);have hC:mW n d=0:=by unfold mW;rw[hu,hd];simp
 have J:d.length<=1000000:=af;have hch:=aaF n d J;rw[hC] at hch;have Hch:=ag hch;have Hd:=ag hd;have t1:=Un d ((n:Int)-4) af af J;have t2:=Un d ((n:Int)-2) af af J;have e1:((n:Int)-4).toNat=n-4:=af;have e2:((n:Int)-2).toNat=n-2:=af;rw[e1] at t1;rw[e2] at t2;have T1:=ag t1;have T2:=ag t2;have b1:=yp d (n-4);have b2:=yp d (n-2);have i1:IntKind.i64.wrap ((n:Int)-4)=n-4:=IntWalk.i64_in _ af;have i2:IntKind.i64.wrap ((n:Int)-2)=n-2:=IntWalk.i64_in _ af;have j:Hid (two d (n-4)+two d (n-2)=gJ d n):=ag rfl;generalize two d (n-4)=u1 at *;generalize two d (n-2)=u2 at *;have i3:IntKind.i64.wrap ((u1:Int)+u2)=((u1+u2:Nat):Int):=pJ;obtain⟨S,hS⟩:∃S,S=w.heap.size:=⟨_,rfl⟩;have HS:=ag hS;clear hch t1 t2 e1 e2 hd hu hC;go_enter Tryz.func122,Tryz.ntmps122;go_wp2_with(first | (go_at_call 154;refine(uX _ _).mono ?_;rintro e w' ⟨rfl,rfl⟩) | (go_at_call 155;refine(Hch.out _).mono ?_;rintro e w1 ⟨rfl,hq1⟩));have hs1:w1.heap.size=S+2:=by obtain⟨k,rfl⟩:=hq1;rw[hS];simp
 have K:=Ext.P8 hq1;have hw1:Ext w w1:=((Ext.alloc w _).trans (Ext.alloc _ _)).trans K;have bS:ah w1 S (.cells #[.int .i64 n] 3):=K.blk _ _ (ah.alloc (by rw[hS];exact ah.new w _) _);have bD:ah w1 (S+1) (.cells #[.string ⟨d.toArray⟩] 9):=K.blk _ _ (by
  have:=ah.new (w.alloc (.cells #[.int .i64 n] 3)) (.cells #[.string ⟨d.toArray⟩] 9);rw[hS];simpa using this)
 have U:=ah.cell bS;have V:=ah.cell bD;clear hq1 K;rw[<-hS];clear hS;go_quiet((go_at_call 156;first | with_reducible exact Calls.quiet_of (T1.out _) | with_reducible exact Calls.quiet_of (T2.out _)));clear i1 i2;obtain⟨C,N⟩:∃C,C=w1.drewN nq:=⟨_,rfl⟩;have M:=Ext.P8 ⟨nq,N⟩;have bS:=M.blk _ _ bS;have bD:=M.blk _ _ bD;have U:=ah.cell bS;have V:=ah.cell bD;have z:C.heap.size=S+2:=by rw[N];simpa using hs1
 rw[<-N];have hw2:=hw1.trans M;clear hs1 hw1 M N;have Uo:S<C.heap.size:=af;have vv:S+1<C.heap.size:=af;go_wp2;have H:vh S (S+2+1) (S+2+1+1) (S+2) n d 0 (.slice (some ⟨S+2,0,none⟩) 0 0) [] (((C.alloc (.cells #[] 9)).alloc (.cells #[.slice (some ⟨S+2,0,none⟩) 0 0] 31)).alloc (.cells #[.int .i64 0] 3)):=by
  have z1:(C.alloc (.cells #[] 9)).heap.size=S+2+1:=by simp[z]
  have z2:((C.alloc (.cells #[] 9)).alloc (.cells #[.slice (some ⟨S+2,0,none⟩) 0 0] 31)).heap.size=S+2+1+1:=by simp[z]
  refine⟨ah.alloc (ah.alloc (ah.alloc bS _) _) _,ah.alloc (ah.alloc (ah.alloc bD _) _) _,?_,?_,?_,af,af,af,af,?_,av,rfl,af,av,av⟩
  ·have:=ah.alloc (ah.new (C.alloc (.cells #[] 9)) (.cells #[.slice (some ⟨S+2,0,none⟩) 0 0] 31)) (.cells #[.int .i64 0] 3);rw[z1] at this;exact this
  ·have:=ah.new ((C.alloc (.cells #[] 9)).alloc (.cells #[.slice (some ⟨S+2,0,none⟩) 0 0] 31)) (.cells #[.int .i64 0] 3);rw[z2] at this;exact this
  ·have:=((World.ownsRow_made (base:=S+2) (e:=9) (size:=1) C #[] 0 (by rw[z];exact aH _) av rfl).alloc (.cells #[.slice (some ⟨S+2,0,none⟩) 0 0] 31)).alloc (.cells #[.int .i64 0] 3);rw[z] at this;simpa[yV] using this
  ·simp[z]
 have zm:Ext w (((C.alloc (.cells #[] 9)).alloc (.cells #[.slice (some ⟨S+2,0,none⟩) 0 0] 31)).alloc (.cells #[.int .i64 0] 3)):=hw2.trans (((Ext.alloc _ _).trans (Ext.alloc _ _)).trans (Ext.alloc _ _));rw[<-Int.natCast_add];have hEn:=j.out;have b3:u1+u2<131072:=af;clear b1 b2 j i3 U V bS bD z hw2 Uo vv;generalize BA:u1+u2=E at *;have Ic:=ag hEn;clear hEn BA;generalize(((C.alloc (.cells #[] 9)).alloc (.cells #[.slice (some ⟨S+2,0,none⟩) 0 0] 31)).alloc (.cells #[.int .i64 0] 3))=w3 at *;obtain⟨bo,Z⟩:∃bo,bo=S+2+1:=⟨_,rfl⟩;obtain⟨ba,Y⟩:∃ba,ba=S+2+1+1:=⟨_,rfl⟩;obtain⟨q,hq⟩:∃q,q=S+2:=⟨_,rfl⟩;rw[<-Y,<-Z,<-hq];rw[<-Y,<-Z,<-hq] at H;clear Z Y hq;have Hw3:=ag zm;have arD:=ag H;clear zm H;go_loopw[10,12] (fun len left wr=>∃(x:Int) (b a:Nat) (v:Value) (out:List (List UInt8)),left=.int .i64 x/\len=.int .i64 b/\-3<=x/\x<=n-7/\b<65536/\vh S bo ba q n d a v out wr/\Ext w wr/\
  ∀L,eL n L d->sP (gJ d n) L x b (out.map List.length)) (fun _ left _=>(intOf left+3).toNat)
 case atStart=>exact⟨n-7,0,0,_,[],by congr 1;omega,rfl,af,af,af,arD.out,Hw3.out,fun L f=>akz f m⟩
 case round=>
  obtain⟨x,b,a,v,out,rfl,rfl,hx1,hx2,hpd,B,wu,Mu⟩:=hrel;have U:=ah.cell B.size;have V:=ah.cell B.data;have c3:=ah.cell B.var;have ji:=ag B;have T:=ag Mu;have Q:(out.map List.length).sum=a:=by rw[<-B.len,tZ];rfl
  have O:=ag Q;clear B Mu Q;by_cases NG:(E:Int)<=x
  ·obtain⟨x,rfl⟩:=pN (show 0<=x by omega);have t3:=Un d ((x:Int)+1) af Cx J;have e1:((x:Int)+1).toNat=x+1:=af;rw[e1] at t3;have T3:=ag t3;have hu3:=yp d (x+1);have wm:=nV d x;have hxd:(x:Int)<d.length:=Cx;have arE:Hid (gJ d n<=x):=ag (by have:=Ic.out;omega);have y:Hid (0<b->∀L,eL n L d->aL d x=8/\1<=two d (x+1)/\1<=b/\(out.map List.length).sum+two d (x+1)*b<=n/\sP (gJ d n) L ((x:Int)-3) 0 (out.map List.length++List.replicate (two d (x+1)) b)):=
    ag fun hp L f=>akA f m hp (T.out L f)
   have o:Hid (b=0->∀L,eL n L d->(aL d x=64/\1<=two d (x+1)/\sP (gJ d n) L ((x:Int)-3) (two d (x+1)) (out.map List.length))∨
    (aL d x=0/\1<=two d (x+1)/\(out.map List.length).sum+two d (x+1)<=n/\sP (gJ d n) L ((x:Int)-3) 0 (out.map List.length++List.replicate 1 (two d (x+1))))):=
    ag fun hp L f=>by subst hp;exact akB f m arE.out (T.out L f)
   clear t3 e1;generalize hu:two d (x+1)=u at *;clear hu;by_cases hp:0<b
   ·have Uq:(0:Int)<b:=af;by_cases hb:aL d x=8
    ·have X:((aL d x:Int)==8)=true:=by simp[hb]
     go_wp2_with(first | (go_at_call 156;refine(T3.out _).mono ?_;rintro e w4 ⟨rfl,l,rfl⟩));refine(abA S bo ba q n d Hd.out m a v out u b af af _ (ji.out.ext (Ext.drewN wr l))).mono ?_;rintro e w5 ⟨g,⟨rfl,v2,I,i,r⟩ | ⟨rfl,G⟩⟩
     ·have t:=ag (Ext.trans' (wu.trans (Ext.drewN wr l)) (Below.mono g (by rw[<-HS.out];omega)));have F:=ag i;have D:=ag r;have d1:=ah.cell i.size;have d2:=ah.cell i.data;clear U V c3 i r g;go_wp2_with fail;go_roundw
      case rel=>exact⟨x-3,0,a+u*b,v2,I,bX,rfl,af,af,af,F.out,t.out,fun L f=>by rw[D.out];exact(y.out hp L f).2.2.2.2⟩
      case measure=>exact ct
     ·have t:=ag (Ext.trans' (wu.trans (Ext.drewN wr l)) (Below.mono g (by rw[<-HS.out];omega)));have R:=ag G;clear U V c3 g G;go_wp2_with fail;go_ret2;exact tY t.out hE.out.symm (fun L f=>by
       obtain⟨_,h1,h2,h3,_⟩:=y.out hp L f;rw[O.out] at h3;exact R.out h1 h2 h3)
    ·have X:((aL d x:Int)==8)=false:=aY;go_wp2_with(first | (go_at_call 156;refine(T3.out _).mono ?_;rintro e w4 ⟨rfl,l,rfl⟩));go_ret2;exact tY (wu.trans (Ext.drewN wr _)) hE.out.symm (fun L f=>hb (y.out hp L f).1)
   ·have sr:b=0:=af;subst sr;by_cases hb:aL d x=64
    ·have X:((aL d x:Int)==64)=true:=by simp[hb]
     go_wp2_with(first | (go_at_call 156;refine(T3.out _).mono ?_;rintro e w4 ⟨rfl,l,rfl⟩));go_roundw
     case rel=>exact⟨x-3,u,a,v,out,by go_num,rfl,by omega,by omega,by omega,ji.out.ext (Ext.drewN wr _),wu.trans (Ext.drewN wr _),fun L f=>by
      rcases o.out trivial L f with h | h
      ·exact h.2.2
      ·omega⟩
     case measure=>exact ct
    ·have X:((aL d x:Int)==64)=false:=aY;by_cases hb0:aL d x=0
     ·have arF:((aL d x:Int)==0)=true:=by simp[hb0]
      go_wp2_with(first | (go_at_call 156;refine(T3.out _).mono ?_;rintro e w4 ⟨rfl,l,rfl⟩));refine(abA S bo ba q n d Hd.out m a v out 1 u af af _ (ji.out.ext (Ext.drewN wr l))).mono ?_;rintro e w5 ⟨g,⟨rfl,v2,I,i,r⟩ | ⟨rfl,G⟩⟩
      ·have t:=ag (Ext.trans' (wu.trans (Ext.drewN wr l)) (Below.mono g (by rw[<-HS.out];omega)));have F:=ag i;have D:=ag r;have d1:=ah.cell i.size;have d2:=ah.cell i.data;clear U V c3 i r g;go_wp2_with fail;go_roundw
       case rel=>exact⟨x-3,0,a+1*u,v2,I,by go_num,rfl,by omega,by omega,by omega,F.out,t.out,fun L f=>by
        rw[D.out];rcases o.out trivial L f with h | h
        ·omega
        ·exact h.2.2.2⟩
       case measure=>exact ct
      ·have t:=ag (Ext.trans' (wu.trans (Ext.drewN wr l)) (Below.mono g (by rw[<-HS.out];omega)));have R:=ag G;clear U V c3 g G;go_wp2_with fail;go_ret2;exact tY t.out hE.out.symm (fun L f=>by
        rcases o.out trivial L f with h | h
        ·omega
        ·obtain⟨_,h2,h3,_⟩:=h;rw[O.out] at h3;exact R.out af h2 af)
     ·have arF:((aL d x:Int)==0)=false:=aY;go_wp2_with(first | (go_at_call 156;refine(T3.out _).mono ?_;rintro e w4 ⟨rfl,l,rfl⟩));go_ret2;exact tY (wu.trans (Ext.drewN wr _)) hE.out.symm (fun L f=>by
       rcases o.out trivial L f with h | h
       ·exact hb h.1
       ·exact hb0 h.1)
  ·have NH:decide ((E:Int)<=x)=false:=by simpa using NG
   have HEQ:Hid (∀L,eL n L d->out=L):=ag fun L f=>akD f m (by have:=Ic.out;omega) (T.out L f) ji.out.flat ji.out.len;obtain⟨p',cp,hv,hcs,KK,Qj⟩:=CK ji.out.row;have hsl:(yV out).length=out.length:=by simp[yV]
   rw[hsl] at hv KK;have Ah:Hid (bk wr p' out):=ag hcs;have Ai:Hid (Small out):=ag ⟨by have:=ji.out.pos;have:=ji.out.le;omega,ji.out.small⟩;subst hv;clear hcs hsl;by_cases h1:gR n out=0
   ·have h1':((gR n out)!=0)=false:=sI;by_cases h2:iL n out=d
    ·have h2':(iL n out==d)=true:=by simp[h2]
     have Td:Hid (eL n out d):=ag ⟨h1,h2⟩;have j:=R4 p' cp out.length out n;generalize gR n out=ee at *;generalize iL n out=es at *;have jR:=ag j;clear j h1 h2;go_wp2_with(first | (go_at_call 158;refine(jR.out _ Ah.out rfl KK Qj Ai.out).mono ?_;rintro e w3 ⟨rfl,jc⟩;have k1:=ah.cell (jc.blk _ _ ji.out.size);have k2:=ah.cell (jc.blk _ _ ji.out.data);have k3:=ah.cell (jc.blk _ _ ji.out.var)));go_ret2;exact⟨wu.trans jc,.inl ⟨p',cp,out,rfl,Ah.out.ext jc,Ai.out,Td.out,KK,Qj,fJ (aO ji.out.row jc) (by have:=ji.out.qS;rw[<-HS.out];omega)⟩⟩
    ·have h2':(iL n out==d)=false:=ru;have Fm:Hid (∀L,¬eL n L d):=ag fun L f=>by have:=HEQ.out L f;subst this;exact h2 f.2
     have j:=R4 p' cp out.length out n;generalize gR n out=ee at *;generalize iL n out=es at *;have jR:=ag j;clear j h1 h2;exact YL
   ·have h1':((gR n out)!=0)=true:=jP;have Fm:Hid (∀L,¬eL n L d):=ag fun L f=>by have:=HEQ.out L f;subst this;exact h1 f.1
    have j:=R4 p' cp out.length out n;generalize gR n out=ee at *;generalize iL n out=es at *;have jR:=ag j;clear j h1;exact YL
theorem arG {size:Int} {d:List UInt8} (h:cQ size=true) (b:mW size d≠0):jY size d=mW size d:=by
 unfold jY mW at *;rw[h];simp only[Bool.true_eq_false,uL];split
 ·rfl
 ·rename_i e;rw[aA e] at b;split
  ·rfl
  ·rename_i f;rw[aA f] at b;exact absurd rfl b
theorem arH (size:Int) (d:List UInt8) (y:d.length<=1000000) (w:World):
 Calls Tryz.prog 122 #[.int .i64 size,.string ⟨d.toArray⟩] w (G4 size d w):=by
 by_cases h1:cQ size=true
 ·obtain⟨n,rfl,C⟩:=yC h1;by_cases h2:mW n d=0
  ·have o:d.length=n:=by
    unfold mW at h2;split at h2
    ·cases h2
    ·omega
   have u:(d==List.replicate d.length 0)=false:=by
    unfold mW at h2;rw[aA (by simp[o])] at h2;cases h:d==List.replicate d.length 0 with
    | false=>rfl
    | true=>rw[h] at h2;cases h2
   exact arz n af af h1 d o u w
  ·have i:Hid (mW n d=jY n d):=ag (arG h1 h2).symm;have j:Hid (∀L,¬eL n L d):=ag fun L q=>by
    have z:=Qz q;have r:=Zw af af q;apply h2;unfold mW;rw[aA af,r];rfl
   have f:=aaF n d y;have t:(mW n d !=0)=true:=ru;generalize mW n d=B at *;have l:=ag f;clear f h2;go_enter Tryz.func122,Tryz.ntmps122;go_wp2_with(first | (go_at_call 154;refine(uX _ _).mono ?_;rintro e w' ⟨rfl,rfl⟩) | (go_at_call 155;refine(l.out _).mono ?_;rintro e D ⟨rfl,g⟩;have m:=ag (((Ext.alloc w _).trans (Ext.alloc _ _)).trans (Ext.P8 g));clear g));go_ret2;exact tY m.out i.out j.out
 ·have b:cQ size=false:=jP;have i:Hid (jY size d=1):=ag (by unfold jY;rw[aC b]);have j:Hid (∀L,¬eL size L d):=ag (acN b);clear h1;go_enter Tryz.func122,Tryz.ntmps122;go_wp2_with(first | (go_at_call 154;refine(uX _ _).mono ?_;rintro e w' ⟨rfl,rfl⟩));go_ret2;exact tY ((Ext.alloc w _).trans (Ext.alloc _ _)) i.out.symm j.out
end Go.Proofs.YteninnkbmoimgaaGreatDoor
namespace aD
open Go.Proofs.YteninnkbmoimgaaGreatDoor (dS dH)
theorem arI {E:List aG} {k1 k2:List UInt8} (e:E≠[]) (h:∀i,i+1<E.length->bl k1 (au E i).1=bl k2 (au E i).1):bK E k1=bK E k2:=by
 obtain⟨g,j⟩:=GW k1 e;obtain⟨l,m⟩:=GW k2 e;have n:=yG k1 e;have o:=yG k2 e;rcases C0 (bK E k1) (bK E k2) with d | d | d
 ·have f:=l _ d;have b:=j af;rw[h _ af,f] at b;cases b
 ·exact d
 ·have f:=g _ d;have b:=m af;rw[<-h _ af,f] at b;cases b
theorem aeC {M:List (List UInt8)} {J:Nat} {h:Hd} {d:DS} {k1 k2:List UInt8} {b:List dK} {q:List Int} (u:0<=h.height) (f:nL b) (y:Sub M d J h.height.toNat h.root b q) (r:dw b=[]) (m:∀x∈b,bl k1 x.1=bl k2 x.1):
 ∀j,j<=h.height.toNat->bJ M h d k1 j=bJ M h d k2 j
 | 0,_=>rfl
 | j+1,O=>by
   have I:=aeC u f y r m j af;obtain⟨_,pre,K,post,pg,E,g,_⟩:=Tg (key:=k1) u f y r j af;obtain⟨l,G⟩:∃l,h.height.toNat-j=l+1:=⟨h.height.toNat-j-1,af⟩;have n:h.height-(j:Int)=((l+1:Nat):Int):=af;rw[G] at g;obtain⟨B,_,P,N,o,_,t⟩:=g;rw[ux,ux];unfold bR;rw[<-I,n];have H:=(qW B).1.l1;rw[arI (k1:=k1) (k2:=k2) (uY.1 af) (fun i F=>?_)];have C:=(t i af).2 af;rw[C];have D:=xh (t (i+1) af).1;obtain⟨x,L,z⟩:=List.exists_cons_of_ne_nil D;rw[z];refine m x ?_;rw[E];refine oM _ (nK _ ?_);rw[o];refine uu.2 ⟨(P.getD (i+1) ([],[])).1,fT.2 ⟨P.getD (i+1) ([],[]),?_,rfl⟩,by rw[z];simp⟩;have e:P.getD (i+1) ([],[])=P[i+1]' af:=by simp[List.getD,show i+1<P.length by omega]
   rw[e];exact mN _
theorem iK.same {M:List (List UInt8)} {d:DS} {h:Hd} {pre:List aQ} {s:aQ} {post:List aQ} {i:List Int} (K:iK M d h (pre++s::post) i) {k1 k2:List UInt8} (l:bl k1 s.1=false) (q:post≠[]->bl k1 (nj post)=true) (m:bl k2 s.1=false) (r:post≠[]->bl k2 (nj post)=true):
 ∀j,j<=h.height.toNat->bJ M h d k1 j=bJ M h d k2 j:=by
 obtain⟨g,C⟩:=K.Bw (pre:=pre) (s:=s) (post:=post) rfl;refine aeC K.tree.h0 K.tree.Bb (GQ (aH _) (fN aq (DE d)) K.tree.sub) K.tree.Bc fun y o=>?_;unfold iy at o;obtain⟨t,z,rfl⟩:=fT.1 o;simp only;have low:∀k,bl k s.1=false->t∈pre->bl k t.1=false:=fun k f b=>by
  cases hb:bl k t.1 with
  | false=>rfl
  | true=>rw[iN hb (g t b)] at f;cases f
 have high:∀k,(post≠[]->bl k (nj post)=true)->t∈post->bl k t.1=true:=fun k f b=>by
  cases post with
  | nil=>cases b
  | cons u B=>
    have n:bl k u.1=true:=f av;rcases fD.1 b with rfl | b
    ·exact n
    ·exact iN n ((K.Bw (pre:=pre++[s]) (s:=u) (post:=B) av).2 t b)
 rcases(show t∈pre∨t=s∨t∈post by simpa using z) with e | rfl | e
 ·rw[low _ l e,low _ m e]
 ·rw[l,m]
 ·rw[high _ q e,high _ r e]
theorem aeD {pg:Int}:∀{L:List aG} {k:Nat},k<L.length->(au L k).2=pg->(∀j,j<k->(au L j).2≠pg)->oK pg L=some k
 | [],k,h,_,_=>jQ
 | x::L,0,_,h,_=>by
   have:x.2=pg:=h;rw[oK,aC this]
 | x::L,k+1,hk,h,b=>by
   have d:x.2≠pg:=b 0 af;have:=aeD (pg:=pg) (L:=L) (k:=k) vR h (fun j e=>b (j+1) af);rw[oK,aA d,this];rfl
theorem aeE {M:List (List UInt8)} {t:Nat} {h:Hd} {d:DS} {key:List UInt8} {b:List dK} {g:List Int} (B:0<=h.height) (r:Sub M d t h.height.toNat h.root b g) (q:g.Nodup) (o:(b.map (·.2)).Nodup):
 ∀j,j<=h.height.toNat->∃i f,Sub M d t (h.height.toNat-j) (bJ M h d key j) i f/\f.Nodup/\(i.map (·.2)).Nodup
 | 0,_=>⟨b,g,r,q,o⟩
 | j+1,F=>by
   obtain⟨i,f,s,E,u⟩:=aeE B r q o j af;obtain⟨l,D⟩:∃l,h.height.toNat-j=l+1:=⟨h.height.toNat-j-1,af⟩;have m:h.height-(j:Int)=((l+1:Nat):Int):=af;rw[D] at s;obtain⟨y,_,P,n,rfl,rfl⟩:=yZ s;have z:bR M h d key j=(bF M d (bJ M h d key j) ((l+1:Nat):Int)).1:=by unfold bR;rw[m]
   have C:=Tl (key:=key) (qW y).1.l1;rw[show h.height.toNat-(j+1)=l by omega,ux,z];have e:bK (bF M d (bJ M h d key j) ((l+1:Nat):Int)).1.ai key<P.length:=by rw[n.1];exact C
   refine⟨_,_,(n.2 _ e).1,?_,?_⟩
   ·have:=(ug.1 E).2;rw[MB e,pY,pY] at this;exact this.1.2.1
   ·rw[GS e,jW,jW,pY,pY] at u;exact u.1.2.1
theorem arJ {M:List (List UInt8)} {K:Nat} {h:Hd} {d:DS} {key:List UInt8} {b:List dK} {n:List Int} (D:0<=h.height) (J:Sub M d K h.height.toNat h.root b n) (I:n.Nodup) (F:(b.map (·.2)).Nodup) {j:Nat} (R:j<h.height.toNat):
 oK (bJ M h d key (j+1)) (bR M h d key j).ai=some (bK (bR M h d key j).ai key):=by
 obtain⟨Q,O,s,L,N⟩:=aeE (key:=key) D J I F j af;obtain⟨l,H⟩:∃l,h.height.toNat-j=l+1:=⟨h.height.toNat-j-1,af⟩;have m:h.height-(j:Int)=((l+1:Nat):Int):=af;rw[H] at s;obtain⟨B,_,P,t,rfl,rfl⟩:=yZ s;have C:bR M h d key j=(bF M d (bJ M h d key j) ((l+1:Nat):Int)).1:=by unfold bR;rw[m]
 have u:=Tl (key:=key) (qW B).1.l1;rw[ux,C];generalize(bF M d (bJ M h d key j) ((l+1:Nat):Int)).1.ai=E at *;generalize bK E key=k at *;have g:k<P.length:=by rw[t.1];exact u
 refine aeD u rfl (fun i G e=>?_);have f:i<P.length:=af;have y:=(t.2 i f).1;have z:=(t.2 k g).1;cases l with
 | zero=>
   obtain⟨⟨S,o⟩,_⟩:=y;obtain⟨⟨T,r⟩,_⟩:=z;refine SP (P:=P.map fun x=>(x.1,x.1.map (·.2))) (i:=k) (k:=i) (q:=(au E k).2) ?_ (by simpa using g) (by simpa using f) af ?_ ?_
   ·have:fL (P.map fun x:Part=>(x.1,x.1.map (·.2)))=(eT P).map (·.2):=by
     unfold fL eT;rw[List.map_flatten,FE,FE];rfl
    rw[this];exact N
   ·rw[getD_map (fun x:Part=>(x.1,x.1.map (·.2))) P i ([],[]) ([],[]) rfl];simp only;rw[o,<-e];simp
   ·rw[getD_map (fun x:Part=>(x.1,x.1.map (·.2))) P k ([],[]) ([],[]) rfl];simp only;rw[r];simp
 | succ l=>
   obtain⟨_,_,_,_,_,o⟩:=yZ y;obtain⟨_,_,_,_,_,r⟩:=yZ z;refine SP (P:=P) (i:=k) (k:=i) (q:=(au E k).2) (ug.1 L).2 g f af ?_ ?_
   ·rw[o,<-e];simp
   ·rw[r];simp
theorem iK.idx {M:List (List UInt8)} {d:DS} {h:Hd} {S:List aQ} {b:List Int} (K:iK M d h S b) (f:2<=d.aN) (k:List UInt8) {j:Nat} (e:j<h.height.toNat):oK (bJ M h d k (j+1)) (bR M h d k j).ai=some (bK (bR M h d k j).ai k):=by
 refine arJ K.tree.h0 (GQ (aH _) (fN aq (DE d)) K.tree.sub) K.tree.nodup ?_ e;unfold iy;rw[FE];unfold List.Nodup;rw[List.pairwise_map];refine K.apart.imp fun h=>?_;simp only[Function.comp];omega
theorem arK {d:DS} {s:DI} {R:List DI} {h:Hd} {f:List Wr} {b:List UInt8} {p:Int} {j:Hd} {W:List Wr} (e:jx d (s::R) h f b p=(j,W,0)):
 (kT s.2.2 (s.2.1:Int) b p).2=0/\((kS d.interval (kT s.2.2 (s.2.1:Int) b p).1=true/\j=h/\W=f++[(s.1,dH d.interval (kT s.2.2 (s.2.1:Int) b p).1)])∨
   (kS d.interval (kT s.2.2 (s.2.1:Int) b p).1=false/\(qR (kT s.2.2 (s.2.1:Int) b p).1).2.2.2=0/\
     jx d R {h with fin:=h.fin+1} (f++[(s.1,dH d.interval {(qR (kT s.2.2 (s.2.1:Int) b p).1).1 with next:=h.fin+1}),(h.fin+1,dH d.interval (qR (kT s.2.2 (s.2.1:Int) b p).1).2.1)]) (qR (kT s.2.2 (s.2.1:Int) b p).1).2.2.1 (h.fin+1)=(j,W,0))):=by
 unfold jx at e;simp only at e;by_cases g:(kT s.2.2 (s.2.1:Int) b p).2=0
 ·rw[aA (by rw[g];simp)] at e;refine⟨g,?_⟩;cases h2:kS d.interval (kT s.2.2 (s.2.1:Int) b p).1 with
  | true=>
    rw[h2,aC rfl] at e;simp only[jZ] at e;exact .inl ⟨rfl,e.1.symm,e.2.1.symm⟩
  | false=>
    rw[h2,aA av] at e;refine .inr ⟨rfl,?_⟩;by_cases i:(qR (kT s.2.2 (s.2.1:Int) b p).1).2.2.2=0
    ·rw[aA (by rw[i];simp)] at e;refine⟨i,?_⟩;split at e
     ·rename_i l;simp only[jZ] at e;exact absurd e.2.2 l
     ·split at e
      ·rename_i l;simp only[jZ] at e;exact absurd e.2.2 l
      ·exact e
    ·rw[aC i] at e;simp only[jZ] at e;exact absurd e.2.2 i
 ·rw[aC g] at e;simp only[jZ] at e;exact absurd e.2.2 g
theorem arL {d:DS} {h:Hd} {f:List Wr} {b:List UInt8} {p:Int} {g:Hd} {W:List Wr} (e:jx d [] h f b p=(g,W,0)):
 h.height≠6/\g={h with height:=h.height+1,fin:=h.fin+1,root:=h.fin+1}/\W=f++[(h.fin+1,dH d.interval (kL h b p))]:=by
 unfold jx at e;split at e
 ·simp only[jZ] at e;exact absurd e.2.2 aq
 ·rename_i i;simp only[jZ] at e;exact⟨i,e.1.symm,e.2.1.symm⟩
theorem IM (L:List Wr) (x:Wr):dB (L++[x])=pz x (dB L):=by unfold dB;rw[List.foldl_append];rfl
theorem arM {n:Nd} (h:(qR n).2.2.2=0):eC n=true/\n.ai.length≠1/\qR n=(⟨n.level,0,cC (n.ai.take ((n.ai.length+1)/2))⟩,⟨n.level,n.next,n.ai.drop ((n.ai.length+1)/2)⟩,(au n.ai ((n.ai.length+1)/2-1)).1,0):=by
 unfold qR at h⊢;by_cases h1:eC n=false
 ·rw[aC h1] at h;cases h
 ·rw[aA h1] at h⊢;by_cases b:n.ai.length=1
  ·rw[aC b] at h;cases h
  ·rw[aA b];exact⟨jP,b,rfl⟩
end aD
namespace aD
theorem aeF (size:Int) (s:List UInt8):jY size s≠0:=by
 unfold jY;split
 ·decide
 ·split
  ·decide
  ·split<;>decide
end aD
namespace Go.Proofs.YteninnkbmoimgaaGreatDoor
open Go.RowKit aD
theorem aeG:bn Ar.zero none 0 none 0=cA:=rfl
theorem cX.aeH (w:World):cX w Ar.zero none 0 none 0:=⟨.inl rfl,⟨[],.inl rfl,rfl,fun i h=>by simp[Ar.zero] at h⟩,aH _,aH _,aq,gL.nil _ _,gL.nil _ _⟩
theorem aeI (base lv nx:Int) (q:Option Addr) (n c:Nat):Tryz.prog.built 109 [(0,.int .i64 base),(1,.agg #[.int .i64 lv,.int .i64 nx,.slice q n c])]=some #[.int .i64 base,.int .i64 lv,.int .i64 nx,.slice q n c,.slice none 0 0]:=aj
def mw (r:Ar×Int) (w:World) (e:Ending) (w':World):Prop:=Ext w w'/\∃q c p m,e=.returned (.tuple #[.agg (bn r.1 q c p m),.int .i64 r.2])/\cX w' r.1 q c p m
structure tu (w:World) (d:DS) (base:Int) (nd:Nd) (q:Option Addr) (c ab:Nat) (V:List aB) (p3:Option Addr) (m3:Nat) (vs:List Value) (wr:World):Prop where
 ext:Ext w wr
 ds:bI wr w.heap.size d
 res:ah wr (w.heap.size+1) (.cells cA 109)
 ar:eS wr ab ⟨base,nd,V⟩ q c p3 m3
 Ur:w.heap.size+1<ab
 ai:wr.ownsRow w.heap.size 142 2 (.slice q nd.ai.length c) nd.ai.length (aV nd.ai)
 rows:wr.ownsRow w.heap.size 31 1 (.slice p3 V.length m3) V.length vs
 own:nI wr w.heap.size vs V
 sm:∀L∈V,Small L
theorem tu.more {w:World} {d:DS} {base:Int} {g:Nd} {q:Option Addr} {c b:Nat} {V:List aB} {i:Option Addr} {f:Nat} {vs:List Value} {j l:World} (h:tu w d base g q c b V i f vs j) (e:Ext j l):tu w d base g q c b V i f vs l:=
 ⟨h.ext.trans e,h.ds.ext e,e.blk _ _ h.res,h.ar.ext e,h.Ur,aO h.ai e,aO h.rows e,h.own.ext e,h.sm⟩
theorem tu.D2 {w:World} {d:DS} {base:Int} {e:Nd} {q:Option Addr} {c i:Nat} {V:List aB} {f:Option Addr} {b:Nat} {vs:List Value} {g:World} (h:tu w d base e q c i V f b vs g):cX g ⟨base,e,V⟩ q c f b:=cX.aov h.ai h.rows h.own
theorem nI.snoc {w:World} {B:Nat} {vs:List Value} {V:List aB} {v:Value} {L:aB} (h:nI w B vs V) (o:w.ownsRow B 9 1 v L.length (L.map fun s=>.string ⟨s.toArray⟩)) (r:∀i g,i<V.length->(vs.getD i undef).ownBlock=some g->v.ownBlock≠some g):nI w B (vs++[v]) (V++[L]):=by
 have e:∀i,i<V.length->(vs++[v]).getD i undef=vs.getD i undef:=fun i hi=>by simp[List.getD,rF (show i<vs.length by rw[h.len];exact hi)]
 have m:∀i,i<V.length->(V++[L]).getD i []=V.getD i []:=fun i hi=>by simp[List.getD,rF hi]
 have l:(vs++[v]).getD V.length undef=v:=by rw[<-h.len];simp[List.getD]
 have n:(V++[L]).getD V.length []=L:=by simp[List.getD]
 refine⟨by simp[h.len],fun i hi=>?_,fun i j g d q f=>?_⟩
 ·rcases Nat.lt_or_ge i V.length with b | b
  ·rw[e i b,m i b];exact h.own i b
  ·obtain rfl:i=V.length:=yc;rw[l,n];exact o
 ·simp at q;rw[e i af] at f;rcases Nat.lt_or_ge j V.length with b | b
  ·rw[e j b];exact h.apart i j g d b f
  ·obtain rfl:j=V.length:=af;rw[l];exact r i g d f
theorem nI.BB {w w':World} {B:Nat} {t:TypeId} {vs:List Value} {V:List aB} (h:nI w B vs V) (b:9≠t) (r:oO B t w w'):nI w' B vs V:=⟨h.len,fun i d=>rC (h.own i d) b r,h.apart⟩
theorem nI.oI {w w':World} {B g:Nat} {t:TypeId} {d:Array Value} {vs:List Value} {V:List aB} (h:nI w B vs V) (e:ah w g (.cells d t)) (b:9≠t) (c:aI g w w'):nI w' B vs V:=⟨h.len,fun i f=>fo (h.own i f) b e c,h.apart⟩
theorem aeJ (p:Option Addr) (cap n:Nat) (M:List (List UInt8)) (d:DS) (base:Int) (w:World) (hs:bk w p M) (hn:M.length=n) (hm:Small M):
 Calls Tryz.prog 85 #[.iface 32 (.slice p n cap),.agg (az d),.int .i64 base] w (mw (jw M d base) w):=by
 have HD:=ag (fun W=>abp d W);have HB:=ag (fun W=>abo base W);have B:=oJ w d Ar.zero none 0 none 0;rw[aeG] at B;have HZ:Hid (∀e w' c,jw M d base=(Ar.zero,c)->Ext w w'->e=.returned (.tuple #[.agg cA,.int .i64 c])->mw (jw M d base) w e w'):=ag (fun e w' c hc h1 h2=>by
  rw[hc];exact⟨h1,none,0,none,0,h2,cX.aeH w'⟩)
 cases U:dA d
 ·have E:=ag (fun e w'=>HZ.out e w' 1 (Ms (.inl U)));rw[U] at HD;clear HZ hs hn hm U;generalize mw (jw M d base) w=OUT at *;go_enter Tryz.func85,Tryz.ntmps85;go_upto_region 1 with fail;refine aR (fun D=>Ext w D/\bI D w.heap.size d/\ah D (w.heap.size+1) (.cells cA 109)) B ?_;clear B;rintro D ⟨z,dr,I⟩;go_wp2_with(first
   | (refine J6 ?_)
   | (go_at_call 118;refine(HD.out _).mono ?_;rintro e w1 ⟨rfl,l⟩;have J:=l.blk _ _ I)
   | (refine dW (o:=⟨some 25,_,_,_,_,_⟩) rfl 109 #[] rfl [] rfl _ ny ?_)
   | (refine aU rfl 109 (.tmp 6) (.tmp 25) rfl _ cA rfl rfl _ _ J aZ rfl lB ?_;intro Z K iA))
  exact bY (dM Tryz.results85 _ _ _ _ _ _ rfl K cL rfl aZ) rfl (E.out _ _ (iA.ext (z.trans l) af) rfl)
 ·rw[U] at HD;cases hb:eX base
  ·have E:=ag (fun e w'=>HZ.out e w' 1 (Ms (.inr hb)));rw[hb] at HB;clear HZ hs hn hm U hb;generalize mw (jw M d base) w=OUT at *;go_enter Tryz.func85,Tryz.ntmps85;go_upto_region 1 with fail;refine aR (fun D=>Ext w D/\bI D w.heap.size d/\ah D (w.heap.size+1) (.cells cA 109)) B ?_;clear B;rintro D ⟨z,dr,I⟩;go_wp2_with(first
    | (refine J6 ?_)
    | (go_at_call 118;refine(HD.out _).mono ?_;rintro e w1 ⟨rfl,l⟩;have J:=l.blk _ _ I)
    | (go_at_call 119;refine(HB.out _).mono ?_;rintro e w2 ⟨rfl,rfl⟩)
    | (refine dW (o:=⟨some 25,_,_,_,_,_⟩) rfl 109 #[] rfl [] rfl _ ny ?_)
    | (refine aU rfl 109 (.tmp 6) (.tmp 25) rfl _ cA rfl rfl _ _ J aZ rfl lB ?_;intro Z K iA))
   exact bY (dM Tryz.results85 _ _ _ _ _ _ rfl K cL rfl aZ) rfl (E.out _ _ (iA.ext (z.trans l) af) rfl)
  ·rw[hb] at HB;have zn:=ag (fun pg w h=>LM p cap n M pg w h hn (by have:=hm.1;omega));have IP:=ag (fun pg=>LN hm pg);have Hs:=ag hs;have hmp:=aaG;have Hk:=ag (And.intro U hb);clear hs hn hm;by_cases R:(aF M base).2=0
   case' neg=>
    have vC:((aF M base).2 !=0)=true:=by simpa using R
    have E:=ag (fun e w'=>HZ.out e w' _ (ab2 U hb R));have xz:=ag (fun w h=>zn.out base w h);clear HZ R U hb;generalize(aF M base).2=pe at *;generalize(aF M base).1=ps at *;generalize mw (jw M d base) w=OUT at *;go_enter Tryz.func85,Tryz.ntmps85;go_upto_region 1 with fail;refine aR (fun D=>Ext w D/\bI D w.heap.size d/\ah D (w.heap.size+1) (.cells cA 109)) B ?_;clear B;rintro D ⟨z,dr,I⟩;go_wp2_with(first
     | (refine J6 ?_)
     | (go_at_call 118;refine(HD.out _).mono ?_;rintro e w1 ⟨rfl,l⟩;have J:=l.blk _ _ I)
     | (go_at_call 119;refine(HB.out _).mono ?_;rintro e w2 ⟨rfl,rfl⟩)
     | (go_at_call 66;refine(xz.out _ (Hs.out.ext (z.trans l))).mono ?_;rintro e w2 ⟨rfl,rfl⟩)
     | (refine dW (o:=⟨some 34,_,_,_,_,_⟩) rfl 109 #[] rfl [] rfl _ ny ?_)
     | (refine aU rfl 109 (.tmp 6) (.tmp 34) rfl _ cA rfl rfl _ _ J aZ rfl lB ?_;intro Z K iA))
    exact bY (dM Tryz.results85 _ _ _ _ _ _ rfl K cL rfl aZ) rfl (E.out _ _ (iA.ext (z.trans l) af) rfl)
   have BC:=ag (fun W=>ab5 d.interval (aF M base).1 (IP.out base) W);unfold lG at BC;obtain⟨b,hnd⟩:∃b,b=dz d.interval (aF M base).1:=⟨_,rfl⟩;rw[<-hnd] at BC;have BD:=ab3 U hb R;rw[<-hnd] at BD;have xA:=ag BD;have BF:=ag (fun h4 h5=>Sc (n:=b) U hb R h4 hnd.symm h5);have xz:=ag (fun w h=>zn.out base w h);rw[R] at xz;have IQ:b.ai.length<=1000000:=by rw[hnd];exact ab1 _ _
   have su:=HZ;clear HZ hnd BD;generalize Us:(aF M base).1=ps at *;clear Us;generalize gH d.interval ps=er at *;have qh:=ag (fun q c W (hv:pW W ⟨base,b,[]⟩ q c none 0)=>adl d ⟨base,b,[]⟩ q c none 0 W U hv IQ);rw[show qO d base b=rV d base b from Sb hb] at qh;have E:Hid (∀e w',mw (jw M d base) w e w'->mw (jw M d base) w e w'):=ag (fun _ _ h=>h);obtain⟨RD,IU⟩:∃RD,RD=jw M d base:=⟨_,rfl⟩;rw[<-IU] at su xA BF E⊢;clear IU U hb R;generalize vB:mw RD w=OUT at *;have DR:=ag vB;clear vB E;go_enter Tryz.func85,Tryz.ntmps85;go_upto_region 1 with fail;refine aR (fun D=>Ext w D/\bI D w.heap.size d/\ah D (w.heap.size+1) (.cells cA 109)) B ?_;clear B;rintro D ⟨z,dr,I⟩;go_upto_region 3 with(first
    | (refine J6 ?_)
    | (go_at_call 118;refine(HD.out _).mono ?_;rintro e w1 ⟨rfl,l⟩)
    | (go_at_call 119;refine(HB.out _).mono ?_;rintro e w2 ⟨rfl,rfl⟩))
   have hx1:=z.trans l;have hd1:=dr.ext l;have J:=l.blk _ _ I;clear z dr I l;have k7:=ah.val hd1 7 (.int .i64 d.interval) rfl;have l7:=ah.lt hd1;go_upto_region 7 with(first
    | (go_at_call 66;refine(xz.out _ (Hs.out.ext hx1)).mono ?_;rintro e w2 ⟨rfl,rfl⟩)
    | (go_at_call 120;refine(BC.out _).mono ?_;rintro e w2 ⟨he2,S,y,rfl,gT⟩))
   have uC:=Ext.alloc w2 (.cells #[.int .i64 b.level,.int .i64 b.next,.slice S b.ai.length y] 106);have xo:=ah.new w2 (.cells #[.int .i64 b.level,.int .i64 b.next,.slice S b.ai.length y] 106);refine aR (fun Z=>Ext w Z/\bI Z w.heap.size d/\ah Z (w.heap.size+1) (.cells cA 109)/\ah Z w2.heap.size (.cells #[.int .i64 b.level,.int .i64 b.next,.slice S b.ai.length y] 106)/\Z.ownsRow w.heap.size 142 2 (.slice S b.ai.length y) b.ai.length (aV b.ai)) ⟨hx1.trans (he2.trans uC),hd1.ext (he2.trans uC),(he2.trans uC).blk _ _ J,xo,fJ (aO gT uC) hx1.size⟩ ?_;clear uC xo gT he2 hx1 hd1 J k7 l7;generalize w2.heap.size=nb at *;rintro Z ⟨kI,hd3,K,lY,ni⟩;have D3:=ag (And.intro kI (And.intro hd3 (And.intro K ni)));clear kI hd3 K ni;go_upto_region 8 with(first
    | ((with_reducible refine aW 44 ?_);refine bz rfl 106 (.tmp 10) rfl _ rfl _ _ _ lY cZ rfl bq ?_)
    | ((with_reducible refine aW 45 ?_);refine dW rfl 109 #[(0,.tmp 43),(1,.tmp 44)] rfl [(0,.int .i64 base),(1,.agg #[.int .i64 b.level,.int .i64 b.next,.slice S b.ai.length y])] rfl _ (aeI _ _ _ _ _ _) ?_))
   have hxa:=Ext.alloc Z (.cells (bn ⟨base,b,[]⟩ S y none 0) 109);have hba:=ah.new Z (.cells (bn ⟨base,b,[]⟩ S y none 0) 109);refine aR (fun w4=>tu w d base b S y Z.heap.size [] none 0 [] w4/\ah w4 nb (.cells #[.int .i64 b.level,.int .i64 b.next,.slice S b.ai.length y] 106)) ⟨⟨D3.out.1.trans hxa,D3.out.2.1.ext hxa,hxa.blk _ _ D3.out.2.2.1,hba,ah.lt D3.out.2.2.1,aO D3.out.2.2.2 hxa,World.ownsRow_nil _ _ _ _,⟨rfl,fun i hi=>absurd hi (ur _),fun i j g _ hj=>absurd hj (ur _)⟩,fun L hL=>by cases hL⟩,hxa.blk _ _ lY⟩ ?_;clear hxa hba D3 lY;generalize Z.heap.size=ab at *;clear Z;rintro w4 ⟨H,ku⟩;have t:=ag H;have xB:=H.ds;have ye:=H.ar;have mY:=H.res;clear H;by_cases kJ:er=0
   case' neg=>
    have vC:(er !=0)=true:=by simpa using kJ
    have E:=ag (fun e w'=>su.out e w' 11 (xA.out (.inl kJ)));clear kJ;go_wp2_with(first
     | (refine J4 ?_)
     | (refine aU rfl 109 (.tmp 6) (.tmp 54) rfl _ cA rfl rfl _ _ mY aZ rfl lB ?_;intro w5 N mD))
    exact bY (dM Tryz.results85 _ _ _ _ _ _ rfl N cL rfl aZ) rfl (E.out _ _ (mD.ext t.out.ext af) rfl)
   have vC:(er !=0)=false:=by simp[kJ]
   subst kJ;cases hh:rV d base b
   ·have E:=ag (fun e w'=>su.out e w' 11 (xA.out (.inr hh)));rw[hh] at qh;clear hh;go_wp2_with(first
     | (refine bu (o:=⟨some 49,_,_,_,_,_⟩) rfl (.tmp 4) rfl _ rfl d xB ?_)
     | (refine Xw ?_)
     | (go_at_call 121;refine(qh.out _ _ _ t.out.D2.x).mono ?_;rintro e w5 ⟨rfl,f⟩;have N:=f.blk _ _ mY)
     | (refine J4 ?_)
     | (refine aU rfl 109 (.tmp 6) (.tmp 54) rfl _ cA rfl rfl _ _ N aZ rfl lB ?_;intro w6 C iw))
    exact bY (dM Tryz.results85 _ _ _ _ _ _ rfl C cL rfl aZ) rfl (E.out _ _ (iw.ext (t.out.ext.trans f) af) rfl)
   ·have xC:=ag (BF.out rfl hh);rw[hh] at qh;clear hh BF xA;have n2:=ah.val ku 2 (.slice S b.ai.length y) rfl;have ln:=ah.lt ku;go_upto_region 10 with(first
     | (refine bu (o:=⟨some 49,_,_,_,_,_⟩) rfl (.tmp 4) rfl _ rfl d xB ?_)
     | (refine Xw ?_)
     | (go_at_call 121;refine(qh.out _ _ _ t.out.D2.x).mono ?_;rintro e w5 ⟨rfl,f⟩))
    have aeK:=t.out.more f;have n25:=ah.val (f.blk _ _ ku) 2 (.slice S b.ai.length y) rfl;have ln5:=ah.lt (f.blk _ _ ku);have NI:=ag aeK;clear aeK f xB ye mY ku n2 ln qh t;go_upto_region 11 with fail;clear n25 ln5;go_loopw[58] (fun i wr=>∃(k:Nat) (V:List aB) (p3:Option Addr) (m3:Nat) (vs:List Value),k<=b.ai.length/\i=.int .i64 k/\V.length=k/\tu w d base b S y ab V p3 m3 vs wr/\kK M d.interval b.ai []=kK M d.interval (b.ai.drop k) V) (fun i _=>b.ai.length-(intOf i).toNat)
    case atStart=>exact⟨0,[],none,0,[],bL _,rfl,rfl,NI.out,by rw[dP]⟩
    case round=>
     obtain⟨k,V,p3,m3,vs,U,rfl,BG,hst,hrd⟩:=hrel;have ji:=ag hst;have BH:=ag hrd;have IV:=ag BG;by_cases hlt:k<b.ai.length
     ·have gB:(k:Int)<b.ai.length:=af;obtain⟨gi,oi,hq,Ut,hic⟩:=(mq hst.ai).at k hlt;subst hq;obtain⟨Uu,Uv⟩:=hic k hlt;have BI:=ag (fun(h9:(aF M (au b.ai k).2).2≠0)=>abZ (size:=d.interval) (V:=V) hlt h9);have qZ:=ag (fun(h9:(aF M (au b.ai k).2).2=0) hn=>ab0 (size:=d.interval) (V:=V) hlt h9 hn);have BJ:=ag (fun(h9:(aF M (au b.ai k).2).2=0) (L:aB) hL=>R9 (size:=d.interval) (V:=V) (L:=L) hlt h9 hL);generalize(au b.ai k).1=bs at *;generalize(au b.ai k).2=pg at *;have BK:=ag hlt;clear hic hst hrd BG;go_upto_region 13 with fail;have NG:=Ext.alloc wr (.cells #[.string ⟨bs.toArray⟩,.int .i64 pg] 142);have hbe:=ah.new wr (.cells #[.string ⟨bs.toArray⟩,.int .i64 pg] 142);refine aR (fun w6=>tu w d base b (some ⟨gi,oi,none⟩) y ab V p3 m3 vs w6/\ah w6 wr.heap.size (.cells #[.string ⟨bs.toArray⟩,.int .i64 pg] 142)) ⟨ji.out.more NG,hbe⟩ ?_;clear NG hbe Uu Uv Ut ji;generalize wr.heap.size=eb at *;rintro w6 ⟨r,vz⟩;have F:=ag r;have e1:=ah.val vz 1 (.int .i64 pg) rfl;have le:=ah.lt vz;have C:=r.res;have k7:=ah.val r.ds 7 (.int .i64 d.interval) rfl;have l7:=ah.lt r.ds;have BL:=r.ar;have k4:w6.cell? ⟨ab,4,none⟩=some (.slice p3 V.length m3):=ah.val BL 4 _ rfl;have xD:=ag (zn.out pg w6 (Hs.out.ext r.ext));clear r vz;by_cases m:(aF M pg).2=0
      case' neg=>
       have arP:((aF M pg).2 !=0)=true:=by simpa using m
       have E:=ag (fun e w'=>su.out e w' (aF M pg).2 (by rw[xC.out,BH.out,BI.out m,aC m]));clear m;generalize(aF M pg).2=pe at *;generalize(aF M pg).1=ps2 at *;go_wp2_with(first
        | (go_at_call 66;refine xD.out.mono ?_;rintro e w7 ⟨rfl,rfl⟩)
        | (refine dW (o:=⟨some 71,_,_,_,_,_⟩) rfl 109 #[] rfl [] rfl _ ny ?_)
        | (refine aU rfl 109 (.tmp 6) (.tmp 71) rfl _ cA rfl rfl _ _ C aZ rfl lB ?_;intro w8 mU mc))
       exact bY (dM Tryz.results85 _ _ _ _ _ _ rfl mU cL rfl aZ) rfl (E.out _ _ (mc.ext F.out.ext af) rfl)
      rw[m] at xD;have xE:=ag (arH d.interval (aF M pg).1 (IP.out pg));by_cases hE:∃L,eL d.interval L (aF M pg).1
      ·obtain⟨L,hL⟩:=hE;have BM:Hid (∀W,Calls Tryz.prog 122 #[.int .i64 d.interval,.string ⟨(aF M pg).1.toArray⟩] W fun e w'=>Ext W w'/\∃q c,e=.returned (.tuple #[.slice q L.length c,.int .i64 0])/\Small L/\w'.ownsRow W.heap.size 9 1 (.slice q L.length c) L.length (L.map fun s=>.string ⟨s.toArray⟩)):=ag (fun W=>(xE.out W).mono (by
        exact Wn))
       have IW:=ag (BJ.out m L hL);clear m hL xE BI qZ BJ;generalize(aF M pg).1=ps2 at *;go_upto_region 19 with(first
        | (go_at_call 66;refine xD.out.mono ?_;rintro e w7 ⟨rfl,rfl⟩)
        | (go_at_call 122;refine(BM.out _).mono ?_;rintro e w8 ⟨jC,q8,c8,rfl,IX,gG⟩))
       have Y:=F.out.more jC;have hnew:∀i g,i<V.length->(vs.getD i undef).ownBlock=some g->(Value.slice q8 L.length c8).ownBlock≠some g:=fun i g hi hg qQ=>by
        have h1:=Ml (F.out.own.own i hi) hg;have h2:=Ml gG qQ;omega
       have IY:V.length<=1000000:=by have:=IV.out;have:=BK.out;omega
       have kR:=ag Y;have mA:=ag (And.intro IX (And.intro (fJ gG F.out.ext.size) hnew));have Uw:w8.cell? ⟨ab,4,none⟩=some (.slice p3 V.length m3):=ah.val Y.ar 4 _ rfl;have Ux:=ah.lt Y.ar;clear Y jC IX gG hnew C k7 l7 BL k4 e1 le;go_upto_region 20 with(at_builtin;refine nW (o:=⟨some 87,_,_,_,_,_⟩) rfl (.tmp 84) (.tmp 86) 107 31 rfl w.heap.size (.slice none 0 0) 1 24 Tryz.underlying107 sY rfl aq _ V.length _ rfl (aO kR.out.rows (Ext.alloc w8 _)) _ [.slice q8 L.length c8] rfl (ah.new w8 _) rfl nk af aq (by have:=kR.out.ext.size;simp;omega) ?_;intro v9 w9 fI IZ;have r9:=pZ (T:=31) IZ (aO kR.out.rows (Ext.alloc w8 _)) (by have:=kR.out.ext.size;simp;omega);obtain⟨q9,c9,rfl⟩:=cE fI;have xF:=r9.2 _ _ _ aq ((Ext.alloc w8 (.cells #[.slice q8 L.length c8] 31)).blk _ _ kR.out.ar);have Uy:w9.cell? ⟨ab,4,none⟩=some (.slice p3 V.length m3):=ah.val xF 4 _ rfl;have f49:=ah.free xF 4;have Uz:=ah.lt xF;have vI:=ag fI;have rj:=ag r9;have NJ:=ag xF;clear fI IZ r9 xF);have O:=aI.setCell (w:=w9) (g:=ab) (i:=4) (v:=.slice q9 (V.length+1) c9);have h4:=ah.setCell (i:=4) (v:=.slice q9 (V.length+1) c9) NJ.out;have e4:(bn ⟨base,b,V⟩ (some ⟨gi,oi,none⟩) y p3 m3).setIfInBounds 4 (.slice q9 (V.length+1) c9)=bn ⟨base,b,V++[L]⟩ (some ⟨gi,oi,none⟩) y q9 c9:=by unfold bn;simp
       rw[e4] at h4;have hxl:=Ext.alloc w8 (.cells #[.slice q8 L.length c8] 31);have hab:=kR.out.Ur;have I0:tu w d base b (some ⟨gi,oi,none⟩) y ab (V++[L]) q9 c9 (vs++[.slice q8 L.length c8]) (w9.setCell ⟨ab,4,none⟩ (.slice q9 (V.length+1) c9)):=by
        refine⟨O.ext (Ext.trans' (kR.out.ext.trans hxl) rj.out.1) af,O.blk (rj.out.2 _ _ _ aq (hxl.blk _ _ kR.out.ds)) af,O.blk (rj.out.2 _ _ _ aq (hxl.blk _ _ kR.out.res)) af,h4,hab,fo (rC (aO kR.out.ai hxl) aq rj.out) aq NJ.out O,?_,(((nI.snoc kR.out.own mA.out.2.1 mA.out.2.2).ext hxl).BB aq rj.out).oI NJ.out aq O,fun X hX=>?_⟩
        ·have:=fo vI.out aq NJ.out O;rw[ew];exact this
        ·exact W8
       have NK:=ag I0;clear O h4 e4 hxl hab I0 Uw Ux Uy f49 Uz;have vv:=BK.out;go_wp2_with fail;have UA:=IV.out;refine⟨⟨k+1,V++[L],q9,c9,vs++[.slice q8 L.length c8],af,bX,by rw[ew,UA];rfl,NK.out,by rw[BH.out,IW.out]⟩,uN⟩
      ·have Cw:∀L,¬eL d.interval L (aF M pg).1:=fun L hL=>hE ⟨L,hL⟩;have BM:Hid (∀W,Calls Tryz.prog 122 #[.int .i64 d.interval,.string ⟨(aF M pg).1.toArray⟩] W fun e w'=>Ext W w'/\e=.returned (.tuple #[.slice none 0 0,.int .i64 (jY d.interval (aF M pg).1)])):=ag (fun W=>(xE.out W).mono (by
        exact Xu))
       have E:=ag (fun e w'=>su.out e w' 11 (by rw[xC.out,BH.out,qZ.out m Cw,aC av]));have arQ:(jY d.interval (aF M pg).1 !=0)=true:=by simpa using aeF d.interval (aF M pg).1
       clear m hE Cw xE BI qZ BJ;generalize jY d.interval (aF M pg).1=de at *;generalize(aF M pg).1=ps2 at *;go_wp2_with(first
        | (go_at_call 66;refine xD.out.mono ?_;rintro e w7 ⟨rfl,rfl⟩)
        | (go_at_call 122;refine(BM.out _).mono ?_;rintro e w8 ⟨jC,rfl⟩;have mU:=jC.blk _ _ C)
        | (refine dW (o:=⟨some 82,_,_,_,_,_⟩) rfl 109 #[] rfl [] rfl _ ny ?_)
        | (refine aU rfl 109 (.tmp 6) (.tmp 82) rfl _ cA rfl rfl _ _ mU aZ rfl lB ?_;intro w9 vJ oo))
       exact bY (dM Tryz.results85 _ _ _ _ _ _ rfl vJ cL rfl aZ) rfl (E.out _ _ (oo.ext (F.out.ext.trans jC) af) rfl)
     ·have hke:k=b.ai.length:=af;have hge:decide ((k:Int)<(b.ai.length:Int))=false:=aM af;have hfin:kK M d.interval b.ai []=(V,0):=by rw[hrd,hke];exact R8
      have IY:V.length<=1000000:=af;have G:RD=if dD d ⟨base,b,V⟩=false then(Ar.zero,11) else(⟨base,b,V⟩,0):=by rw[xC.out,hfin,aA av]
      have xG:=ag (fun W (e:Ext wr W)=>Ts d ⟨base,b,V⟩ S y p3 m3 W (hst.D2.x.ext e) IQ IY (fun i=>by
       exact X5))
      have Px:=hst.ds;have ER:=hst.ar;have Bo:=hst.res;clear hst hrd hke BG U;cases hA:dD d ⟨base,b,V⟩
      ·rw[hA] at xG;have E:=ag (fun e w'=>su.out e w' 11 (by rw[G,hA,aC rfl]));clear hA G;go_wp2_with(first
        | ((with_reducible refine aW 90 ?_);refine bu rfl (.tmp 4) rfl _ rfl d Px ?_)
        | (refine WJ ?_)
        | (go_at_call 123;refine(xG.out _ (Ext.refl _)).mono ?_;rintro e w5 ⟨rfl,f⟩;have N:=f.blk _ _ Bo)
        | (refine dW (o:=⟨some 94,_,_,_,_,_⟩) rfl 109 #[] rfl [] rfl _ ny ?_)
        | (refine aU rfl 109 (.tmp 6) (.tmp 94) rfl _ cA rfl rfl _ _ N aZ rfl lB ?_;intro w6 C iw))
       exact bY (dM Tryz.results85 _ _ _ _ _ _ rfl C cL rfl aZ) rfl (E.out _ _ (iw.ext (ji.out.ext.trans f) af) rfl)
      ·rw[hA] at xG;rw[hA,aA av] at G;have BN:=ag G;clear hA G;go_wp2_with(first
        | ((with_reducible refine aW 90 ?_);refine bu rfl (.tmp 4) rfl _ rfl d Px ?_)
        | (refine WJ ?_)
        | (go_at_call 123;refine(xG.out _ (Ext.refl _)).mono ?_;rintro e w5 ⟨rfl,f⟩;have N:=f.blk _ _ Bo;have UB:=ER.ext f)
        | ((with_reducible refine aW 95 ?_);refine bz rfl 109 (.tmp 11) rfl _ rfl _ _ _ UB cL rfl aZ ?_)
        | (refine aU rfl 109 (.tmp 6) (.tmp 95) rfl _ (bn ⟨base,b,V⟩ S y p3 m3) rfl rfl _ _ N aZ rfl (mE _ _ _ _ _) ?_;intro w6 C iw))
       refine bY (dM Tryz.results85 _ _ _ _ _ _ rfl C cL rfl aZ) rfl ?_;rw[<-DR.out,BN.out];exact⟨iw.ext (ji.out.ext.trans f) af,S,y,p3,m3,rfl,(ji.out.more f).D2.lE N aq aq aq iw⟩
end Go.Proofs.YteninnkbmoimgaaGreatDoor

/- A part of the proof. -/
import Derived.Test.YteninnkbmoimgaaGreatDoorRB4
set_option linter.unusedSimpArgs false
set_option linter.unusedVariables false
set_option maxRecDepth 100000
set_option maxHeartbeats 16000000
namespace Go.Proofs.YteninnkbmoimgaaGreatDoor
open Go.RowKit aD
theorem aim (d:DS) (j:Option Addr) (o:Nat) (L:List oL) (w:World) (t:mH w j L) (r:L.length<=9223372036854775807):
 Calls Tryz.prog 10 #[.agg (az d),.slice j L.length o] w fun e w'=>e=.returned (.bool (dA d&&A3 L 60))/\Ext w w':=by
 have i:=ag (fun W=>Dp d W);have l:=ag (fun W (h:mH W j L)=>aow j o L 60 W h r);have u:=ag t;have q:=ah.new w (.cells (az d) 23);clear t r;go_enter Tryz.func10,Tryz.ntmps10;go_upto_region 1 with(fail);refine aR (fun n=>Ext w n/\bI n w.heap.size d) ⟨Ext.alloc _ _,q⟩ ?_;clear q;rintro n ⟨f,g⟩;cases hk:dA d
 ·have m:=ag hk;rw[hk] at i;clear hk;go_wp2_with(first
   | ((with_reducible refine aW 5 ?_);refine bu rfl (.tmp 2) rfl _ rfl d g ?_)
   | (go_at_call 27;refine(i.out _).mono ?_;rintro e y ⟨rfl,b⟩))
  go_ret;exact⟨by rw[m.out];rfl,f.trans b⟩
 ·have m:=ag hk;rw[hk] at i;clear hk;go_wp2_with(first
   | ((with_reducible refine aW 5 ?_);refine bu rfl (.tmp 2) rfl _ rfl d g ?_)
   | (go_at_call 27;refine(i.out _).mono ?_;rintro e y ⟨rfl,b⟩)
   | (go_at_call 16;refine(l.out _ (u.out.ext (f.trans b))).mono ?_;rintro e z ⟨rfl,rfl⟩))
  go_ret;exact⟨by rw[m.out,wC];rfl,f.trans b⟩
theorem axh {w w':World} {g:Nat} {h:Hd} {p:Option Addr} {M:List (List UInt8)} (j:bk w p M) (o:fG w g h) (c:aI g w w'):bk w' p M:=by
 rcases j with j | ⟨b,d,rfl,r,n⟩
 ·exact .inl j
 ·by_cases e:b=g
  ·subst e;by_cases m:M.length=0
   ·exact .inl (by rw[gY m];rfl)
   ·exfalso;obtain⟨x,M',rfl⟩:∃x M',M=x::M':=by
     cases M with
     | nil=>exact absurd rfl m
     | cons x M'=>exact⟨x,M',rfl⟩
    have l:=n 0 av;have f:w.heap[b]? =some (.cells (aK h) 30):=o;have t:w.cell? ⟨b,d+0,none⟩=((aK h):Array Value)[d]? :=by simp[World.cell?,f]
    rw[t] at l;rcases d with _ | _ | _ | _ | _ | _ | _ | d<;>simp at l
  ·exact .inr ⟨b,d,rfl,by rw[c.size];exact r,fun i q=>(World.cell?_of_block (a:=⟨b,_,none⟩) (c.block b e)).trans (n i q)⟩
def OJ (d:DS) (L:List oL) (w:World) (e:Ending) (w':World):Prop:=
 Ext w w'/\∃M h S b n p c q f,e=.returned (.tuple #[.agg (aK h),.slice p M.length c,.slice q (bW d (aT S)).length f])/\bk w' p M/\dL M d h S b n/\pV w' q (bW d (aT S))
theorem ain (d:DS) (hd:dA d=true) (G:Option Addr) (X:Nat) (L:List oL) (w:World) (hs:mH w G L) (Z:L.length<=100):
 Calls Tryz.prog 11 #[.agg (az d),.slice G L.length X] w (OJ d L w):=by
 have i:=ag (fun W (h:mH W G L)=>ah4 d hd G X L W h Z);unfold OE at i;have Hs:=ag hs;have Y:=BW w (.cells (az d) 23) (.cells #[.int .i64 0,.int .i64 0,.int .i64 0,.int .i64 0,.int .i64 0,.int .i64 0,.int .i64 0] 30);clear hs Z;unfold OJ;go_enter Tryz.func11,Tryz.ntmps11;go_upto_region 1 with(fail);refine aR (fun H=>Ext w H/\bI H w.heap.size d/\ah H (w.heap.size+1) (.cells #[.int .i64 0,.int .i64 0,.int .i64 0,.int .i64 0,.int .i64 0,.int .i64 0,.int .i64 0] 30)) Y ?_;clear Y;rintro H ⟨m,l,F⟩;go_upto_region 2 with(first
  | (refine bu (o:=⟨some 12,_,_,_,_,_⟩) rfl (.tmp 2) rfl _ rfl d l ?_)
  | (go_at_call 26;refine(i.out _ (Hs.out.ext m)).mono ?_;rintro e V ⟨f,M,h,S,U,n,p,c,rfl,hM,O,K,-⟩)
  | (refine aU rfl 30 (.tmp 7) (.tmp 15) rfl _ (aK h) rfl rfl _ _ (ah.new V _) dg rfl (wU h) ?_;intro w2 t C))
 have b:=C.ext (Ext.alloc V (.cells #[.int .i64 0,.int .i64 0,.int .i64 0,.int .i64 0,.int .i64 0,.int .i64 0,.int .i64 0] 30)) (aH _);have j:=hM.ext b;have B:=l.ext (f.trans b);have u:=(f.trans b).blk _ _ F;have HX:=ag ((m.trans f).trans b);have I:=ag j;have HK:=ag K;have z:=ag (awf K p c M.length w2 j rfl);generalize V.heap.size=hb at *;clear m l F f hM O C b j K i;go_upto_region 3 with(first
  | ((with_reducible refine aW 19 ?_);refine mM rfl (.tmp 7) rfl _ rfl h t ?_)
  | ((with_reducible refine aW 20 ?_);refine bu rfl (.tmp 2) rfl _ rfl d B ?_)
  | (go_at_call 28;refine z.out.mono ?_;rintro e w3 ⟨g,q,c2,rfl,D⟩))
 have N:=ag D;have J:=ag (I.out.ext g);have Q:=g.blk _ _ t;have y:=g.blk _ _ u;have hbl:=ah.lt u;clear D t u B z;go_wp2_with(first
  | ((with_reducible refine aW 24 ?_);refine mM rfl (.tmp 7) rfl _ rfl h Q ?_)
  | (refine aU rfl 30 (.tmp 4) (.tmp 24) rfl _ (aK h) rfl rfl _ _ y dg rfl (wU h) ?_;intro w4 R r))
 have T:Ext w w4:=r.ext (HX.out.trans g) af;obtain⟨q',c',hq,E,_⟩:=yM (fo N.out aq y r);cases hq
 exact bY (pP Tryz.results11 _ _ _ _ _ _ rfl R fH rfl dg) rfl ⟨T,M,h,S,U,n,p,c,q,c2,rfl,axh (h:=⟨0,0,0,0,0,0,0⟩) J.out y r,HK.out,E⟩
def RS (B:Nat) (T:TypeId) (d:Array Value):Rel:=fun w w'=>∃g b,B<=g/\ah w g (.cells b T)/\aI g w w'/\ah w' g (.cells d T)
theorem RS.below {B:Nat} {T:TypeId} {d:Array Value} {w w':World} (c:RS B T d w w'):Below B w w':=by
 obtain⟨b,e,f,hb,hc,_⟩:=c;exact Ym
theorem RS.other {B:Nat} {T U:TypeId} {l e:Array Value} {w w':World} (c:RS B T l w w') {b:Nat} (f:ah w b (.cells e U)) (d:U≠T):ah w' b (.cells e U):=by
 obtain⟨g,m,_,j,i,_⟩:=c;exact i.blk f (DM f j d)
def jH (B:Nat) (T:TypeId) (e d:Array Value):Fact:=fun x w=>∃b,x=.pointer (some ⟨b,0,none⟩)/\B<=b/\(ah w b (.cells e T)∨ah w b (.cells d T))
theorem jH.ay (B:Nat) (T:TypeId) (j i:Array Value):(jH B T j i).ay:=fun _ _ _ d ⟨b,e,f,g⟩=>⟨b,e,f,g.imp (d.blk _ _) (d.blk _ _)⟩
def R2 (B g:Nat) (b:TypeId) (e:Array Value) (d:TypeId) (f:Array Value):Nat->Rel:=fun i=>if i=g then RS B b e else RS B d f
def G2 (B g:Nat) (b:TypeId) (e:Array Value) (d:TypeId) (f:Array Value):Nat->Nat->Fact:=fun p _=>if p=g then fS B (.cells e b) else fS B (.cells f d)
theorem jH.rs {B:Nat} {T:TypeId} {l d:Array Value} {x:Value} {w w':World} (c:RS B T d w w') (h:jH B T l d x w):jH B T l d x w':=by
 obtain⟨b,f,i,m⟩:=h;obtain⟨g,o,q,r,j,n⟩:=c;by_cases e:b=g
 ·subst e;exact⟨b,f,i,.inr n⟩
 ·exact⟨b,f,i,m.imp (fun h=>j.blk h e) (fun h=>j.blk h e)⟩
theorem jH.ro {B g:Nat} {T U:TypeId} {f e m:Array Value} {x:Value} {w w':World} (d:T≠U) (c:RS g U m w w') (h:jH B T f e x w):jH B T f e x w':=by
 obtain⟨b,i,j,l⟩:=h;exact⟨b,i,j,l.imp (fun h=>c.other h d) (fun h=>c.other h d)⟩
theorem jH.ajy {B j:Nat} {b:TypeId} {l f:Array Value} {e:TypeId} {g:Array Value} (d:b≠e) (K:dR):(jH B b l f).bP K (R2 B j b f e g):=fun i _ x w w' c h=>by
 unfold R2 at c;split at c
 ·exact jH.rs c h
 ·exact jH.ro d c h
theorem jH.ajz {B l:Nat} {f:TypeId} {j:Array Value} {b:TypeId} {m g:Array Value} (d:f≠b) (K:dR):(jH B b m g).bP K (R2 B l f j b g):=fun i _ x w w' c h=>by
 unfold R2 at c;split at c
 ·exact jH.ro (fun e=>d e.symm) c h
 ·exact jH.rs c h
theorem aio (l:List Oper) (z:World) (d B:Nat) (G:Tmp) (y C:Nat) (H:Tmp) (m n:TypeId) (D E:Array Value) (f:m≠n) (J:d≠y) (t:kU .any l B d=true) (u:kU .any l C y=true):
 uj l z [(d,[(B,G)]),(y,[(C,H)])] (R2 z.heap.size d m D n E) (G2 z.heap.size d m D n E):=by
 refine⟨fun i w w' c=>?_,fun i j=>?_,fun p j i g F I x w w' c h=>?_,fun p j g=>?_⟩
 ·unfold R2 at c;split at c<;>exact RS.below c
 ·unfold G2;split<;>exact fS.ay _ _
 ·simp[iT,eN] at g F;unfold R2 at c;unfold G2 at h⊢;by_cases e:p=d
  ·rw[aC e] at h⊢;rw[aA af] at c;obtain⟨b,o,q,r⟩:=h;exact⟨b,o,c.other q f,r⟩
  ·rw[aA e] at h⊢;rw[aC af] at c;obtain⟨b,o,q,r⟩:=h;exact⟨b,o,c.other q (fun e=>f e.symm),r⟩
 ·simp[iT] at g;rcases g with⟨rfl,rfl⟩ | ⟨rfl,rfl⟩
  ·exact .inr t
  ·exact .inr u
end Go.Proofs.YteninnkbmoimgaaGreatDoor
namespace aD
def gU:DS:=⟨0,3,0,10,0,0,2,128,2,0,0,0,0,0,false,0,[],[],0,0,false⟩
def sy:aB:=[[97,97,49],[98,98,50],[99,99,51]]
def EF:aB:=[[97,97,49],[98,122,50],[99,99,51]]
def opsOf (R:aB):List oL:=R.map fun s=>(s,false)
theorem axi:dA gU=true:=aq
def OK:eZ:=⟨[98],false,false,false⟩
def uT:eZ:=⟨[98,98],false,true,false⟩
def OL:eZ:=⟨[98],true,false,false⟩
theorem axj:fW gU sy OK=some [98,98,50]:=aq
theorem axk:fW gU EF uT=some [98,122,50]:=aq
theorem axl:fW gU sy OL=some [97,97,49]:=aq
theorem axm:Cc gU (opsOf sy)=sy:=aq
theorem axn:Cc gU (opsOf EF)=EF:=aq
theorem axo:∀x∈opsOf sy,x.2=false/\cV gU x.1=true:=aq
theorem axp:∀x∈opsOf EF,x.2=false/\cV gU x.1=true:=aq
theorem axq {r:Nat} (g:r<=sy.length) (d:∀i,i<r->bl (ax gU (sy.getD i [])) [98,98]=true) (f:∀i,r<=i->i<sy.length->bl (ax gU (sy.getD i [])) [98,98]=false):r=1:=by
 have a:¬r=0:=fun e=>by
  have:=f 0 af aq;exact absurd this aq
 have b:¬2<=r:=fun e=>by
  have:=d 1 af;exact absurd this aq
 omega
end aD
namespace Go.Proofs.YteninnkbmoimgaaGreatDoor
open Go.RowKit aD
theorem axr:Tryz.prog.built 23 [(1,.int .i64 3),(7,.int .i64 128),(3,.int .i64 10),(6,.int .i64 2),(8,.int .i64 2)]=some (az gU):=aj
theorem axt (d:DS):((az d):Array Value).all (·.oneCell')=true:=cT
theorem aip {W:World} {b:Nat} (x y z:List UInt8) (h:ah W b (.cells #[.string ⟨x.toArray⟩,.bool false,.string ⟨y.toArray⟩,.bool false,.string ⟨z.toArray⟩,.bool false] 73)):mH W (some ⟨b,0,none⟩) [(x,false),(y,false),(z,false)]:=by
 refine .inr ⟨b,0,rfl,ah.lt h,fun i d=>?_⟩;simp only[gW,lC] at d;rcases(show i=0∨i=1∨i=2 by omega) with rfl | rfl | rfl
 ·exact⟨ah.val h 0 _ rfl,ah.val h 1 _ rfl⟩
 ·exact⟨ah.val h 2 _ rfl,ah.val h 3 _ rfl⟩
 ·exact⟨ah.val h 4 _ rfl,ah.val h 5 _ rfl⟩
def xP (R:aB) (h:Hd) (p:Option Addr) (m c:Nat) (W:World):Prop:=∃M S b n,M.length=m/\bk W p M/\dL M gU h S b n/\aT S=R
theorem xP.ext {R:aB} {h:Hd} {p:Option Addr} {m c:Nat} {W f:World} (b:xP R h p m c W) (e:Ext W f):xP R h p m c f:=by
 obtain⟨M,S,d,n,g,i,j,l⟩:=b;exact⟨M,S,d,n,g,i.ext e,j,l⟩
theorem aiq (R:aB) (i:∀x∈opsOf R,x.2=false/\cV gU x.1=true) (d:Cc gU (opsOf R)=R) (t:R.length=3) (q:Option Addr) (c:Nat) (W:World) (h:mH W q (opsOf R)):
 Calls Tryz.prog 26 #[.agg (az gU),.slice q 3 c] W fun e g=>Ext W g/\∃h p m f,e=.returned (.tuple #[.agg (aK h),.slice p m f])/\xP R h p m f g:=by
 have b:(opsOf R).length=3:=by unfold opsOf;rw[kF,t]
 have:=ah4 gU axi q c (opsOf R) W h af;rw[b] at this;refine this.mono ?_;rintro e g ⟨r,M,h,S,j,n,p,f,rfl,l,o,K,u⟩;exact⟨r,h,p,M.length,f,rfl,M,S,j,n,rfl,l,K,by rw[u i,d]⟩
theorem V8 {R:aB} {h:Hd} {p:Option Addr} {m c:Nat} {W:World} (b:xP R h p m c W) (d:eZ):Calls Tryz.prog 12 #[.iface 32 (.slice p m c),.agg (aK h),.agg (az gU),.agg (cD d)] W fun e w'=>e=.returned (.tuple #[.agg (cD (d.next gU (fW gU R d))),.agg (fF (jn gU (fW gU R d))),.int .i64 (yQ (fW gU R d))])/\Ext W w':=by
 obtain⟨M,S,j,n,f,g,i,rfl⟩:=b;exact V6 i d p c m W g f
theorem axu {h:Hd} {p:Option Addr} {m c:Nat} {W:World} (b:xP sy h p m c W):Calls Tryz.prog 25 #[.iface 32 (.slice p m c),.agg (aK h),.agg (az gU),.string ⟨#[98,98]⟩] W fun e w'=>e=.returned (.tuple #[.int .i64 1,.int .i64 0])/\Ext W w':=by
 obtain⟨M,S,t,n,i,j,l,o⟩:=b;refine(axg l [98,98] p c m W j i).mono ?_;rintro e w' ⟨q,r,rfl,d,f,g⟩;rw[o] at d f g;obtain rfl:=axq d f g;exact⟨rfl,q⟩
theorem air (w:World):Calls Tryz.prog 9 #[] w fun e w'=>e=.returned (.bool true)/\Ext w w':=by
 have S:=ag (fun q c W h=>aiq sy axo axm rfl q c W h);have T:=ag (fun q c W h=>aiq EF axp axn rfl q c W h);go_enter Tryz.func9,Tryz.ntmps9;go_upto_region 2 with(first
  | (refine dW (o:=⟨some 17,_,_,_,_,_⟩) rfl 23 #[(1,.const (.int .i64 3)),(7,.const (.int .i64 128)),(3,.const (.int .i64 10)),(6,.const (.int .i64 2)),(8,.const (.int .i64 2))] rfl [(1,.int .i64 3),(7,.int .i64 128),(3,.int .i64 10),(6,.int .i64 2),(8,.int .i64 2)] rfl _ axr ?_)
  | (refine aU rfl 23 (.tmp 1) (.tmp 17) rfl _ (az gU) rfl rfl _ _ (ah.new w _) gD rfl (axt gU) ?_;intro wD m hc1))
 have hx1:=hc1.ext (Ext.alloc w (.cells #[.int .i64 0,.int .i64 0,.int .i64 0,.int .i64 0,.int .i64 0,.int .i64 0,.int .i64 0,.int .i64 0,.int .i64 0,.int .i64 0,.int .i64 0,.int .i64 0,.int .i64 0,.int .i64 0,.bool false,.int .i64 0,.string ⟨#[]⟩,.string ⟨#[]⟩,.int .i64 0,.int .i64 0,.bool false] 23)) (aH _);go_upto_region 3 with(first
  | ((with_reducible refine aW 19 ?_);refine bu rfl (.tmp 1) rfl _ rfl gU m ?_)
  | (go_at_call 26;refine(S.out _ _ _ (aip [97,97,49] [98,98,50] [99,99,51] (ah.new _ _))).mono ?_;rintro e R ⟨d,h1,p1,m1,c1,rfl,uD⟩)
  | (refine aU rfl 30 (.tmp 2) (.tmp 25) rfl _ (aK h1) rfl rfl _ _ (ah.new R _) dg rfl (wU h1) ?_;intro N J G))
 have F:=((Ext.alloc wD (.cells #[.string ⟨#[97,97,49]⟩,.bool false,.string ⟨#[98,98,50]⟩,.bool false,.string ⟨#[99,99,51]⟩,.bool false] 73)).trans d).trans (G.ext (Ext.alloc R (.cells #[.int .i64 0,.int .i64 0,.int .i64 0,.int .i64 0,.int .i64 0,.int .i64 0,.int .i64 0] 30)) (aH _));have n:=ag (And.intro (hx1.trans F) (And.intro (F.blk _ _ m) (And.intro J (uD.ext (G.ext (Ext.alloc R (.cells #[.int .i64 0,.int .i64 0,.int .i64 0,.int .i64 0,.int .i64 0,.int .i64 0,.int .i64 0] 30)) (aH _))))));have U:=ag n.out.2.1;have X:=ag n.out.2.2.1;have hlF:R.heap.size<N.heap.size:=ah.lt J;have hlw:w.heap.size<R.heap.size:=fM (ah.lt m) (fN av d.size);generalize R.heap.size=hb at *;clear hc1 hx1 m d uD G F J S;have tw:Hid (∀W,Ext N W->Calls Tryz.prog 12 #[.iface 32 (.slice p1 m1 c1),.agg (aK h1),.agg (az gU),.agg (cD OK)] W fun e w'=>e=.returned (.tuple #[.agg (cD uT),.agg (fF ([98,98],[98,98,50])),.int .i64 0])/\Ext W w'):=ag (fun W e=>by
  have:=V8 (n.out.2.2.2.ext e) OK;rw[axj] at this;exact this)
 refine kH 200 [(12,[(10,4)]),(13,[(11,5)])] (Ext.refl N) aj aj aj aj aj aj (aio _ _ 12 10 4 13 11 5 26 37 (cD uT) (fF ([98,98],[98,98,50])) aq aq aj aj) ?_;refine gV ?_;repeat (first
  | (refine dY (o:=⟨some 4,_,_,_,_,_⟩) (jH N.heap.size 26 (mX) (cD uT)) (jH.ay _ _ _ _) (.inr Kx) aj aP ?_ ?_
     ·exact KL
     refine aE ?_)
  | (refine dY (o:=⟨some 5,_,_,_,_,_⟩) (jH N.heap.size 37 (#[.string ⟨#[]⟩,.string ⟨#[]⟩]) (fF ([98,98],[98,98,50]))) (jH.ay _ _ _ _) (.inr Kx) aj aP ?_ ?_
     ·exact KL
     refine aE ?_)
  | (refine dF (o:=⟨some 30,_,_,_,_,_⟩) (v:=.agg (aK h1)) aj aP ?_ ?_
     ·intro a w' he hr K hK;simp[Reads,Oper.looksAt,Op.operands,aJ,Is] at hr;exact eG 30 (.tmp 2) rfl (hb) dX _ _ _ _ (he.blk _ _ X.out) fH rfl dg (hK _ (Ext.refl _))
     refine aE ?_)
  | (refine dF (o:=⟨some 31,_,_,_,_,_⟩) (v:=.agg (az gU)) aj aP ?_ ?_
     ·intro a w' he hr K hK;simp[Reads,Oper.looksAt,Op.operands,aJ,Is] at hr;exact eG 23 (.tmp 1) rfl (w.heap.size) dX _ _ _ _ (he.blk _ _ U.out) gr rfl gD (hK _ (Ext.refl _))
     refine aE ?_)
  | (refine dF (o:=⟨some 32,_,_,_,_,_⟩) (v:=.agg (cD OK)) aj aP ?_ ?_
     ·intro a w' he hr K hK;simp[Reads,Oper.looksAt,Op.operands,Call.operands,aJ,Is] at hr;go_simp;refine(Fu [98] false _).mono ?_;exact kg
     refine aE ?_)
  | (refine dF (o:=⟨some 33,_,_,_,_,_⟩) (v:=.tuple #[.agg (cD uT),.agg (fF ([98,98],[98,98,50])),.int .i64 0]) aj aP ?_ ?_
     ·intro a w' he hr K hK;simp[Reads,Oper.looksAt,Op.operands,Call.operands,aJ,Is] at hr;go_simp;refine(tw.out _ he).mono ?_;exact kg
     refine aE ?_)
  | (refine iU (o:=⟨none,.store 26 _ _,_,_,_,_⟩) Any Any.ay (.inr Any.bP) aj aP ?_ ?_
     ·intro a w' he hr K hK;obtain⟨b,h1,h3,h2⟩:=hr 4 bO;have hv:=hr 34 bO;rcases h2 with h2 | h2
      ·exact Yj
      ·exact Yj
     refine aE ?_)
  | (refine iU (o:=⟨none,.store 37 _ _,_,_,_,_⟩) Any Any.ay (.inr Any.bP) aj aP ?_ ?_
     ·intro a w' he hr K hK;obtain⟨b,h1,h3,h2⟩:=hr 5 bO;have hv:=hr 35 bO;rcases h2 with h2 | h2
      ·exact Yg
      ·exact Yg
     refine aE ?_)
  | (refine qD ?_)
  | (refine pH ?_))
 intro M d;simp only[iJ,iQ,jS,kW,bG,bN];repeat (first | with_reducible refine cH _ _ _ _ ?_ | (with_reducible refine cI _ _ _ _ ?_;intro _ _) | with_reducible refine cJ _ _ ?_)
 simp only[cF,cK,bQ,bE];rename_i x4 h4 x5 h5;obtain⟨cb,rfl,hcb,UR⟩:fS N.heap.size (.cells (cD uT) 26) x4 M:=h4;obtain⟨pb,rfl,s6,hpB⟩:fS N.heap.size (.cells (fF ([98,98],[98,98,50])) 37) x5 M:=h5;have hxG:=n.out.1.trans d;have C:bI M w.heap.size gU:=d.blk _ _ n.out.2.1;have hhG:fG M hb h1:=d.blk _ _ n.out.2.2.1;have hEG:=n.out.2.2.2.ext d;have hcG:=hcb;have xM:=s6;clear hcb s6 d n U X tw hlF hlw UR hpB;go_upto_region 5 with(first
  | ((with_reducible refine aW 38 ?_);refine bu rfl (.tmp 1) rfl _ rfl gU C ?_)
  | (go_at_call 26;refine(T.out _ _ _ (aip [97,97,49] [98,122,50] [99,99,51] (ah.new _ _))).mono ?_;rintro e l ⟨heE,h2,p2,m2,c2,rfl,BA⟩)
  | (refine aU rfl 30 (.tmp 7) (.tmp 44) rfl _ (aK h2) rfl rfl _ _ (ah.new l _) dg rfl (wU h2) ?_;intro wH oQ H))
 have g:=((Ext.alloc M (.cells #[.string ⟨#[97,97,49]⟩,.bool false,.string ⟨#[98,122,50]⟩,.bool false,.string ⟨#[99,99,51]⟩,.bool false] 73)).trans heE).trans (H.ext (Ext.alloc l (.cells #[.int .i64 0,.int .i64 0,.int .i64 0,.int .i64 0,.int .i64 0,.int .i64 0,.int .i64 0] 30)) (aH _));refine aR (fun W=>Ext w W/\bI W w.heap.size gU/\fG W hb h1/\xP sy h1 p1 m1 c1 W/\ah W cb (.cells (cD uT) 26)/\ah W pb (.cells (fF ([98,98],[98,98,50])) 37)/\fG W l.heap.size h2/\xP EF h2 p2 m2 c2 W) ⟨hxG.trans g,C.ext g,hhG.ext g,hEG.ext g,g.blk _ _ hcG,g.blk _ _ xM,oQ,BA.ext (H.ext (Ext.alloc l (.cells #[.int .i64 0,.int .i64 0,.int .i64 0,.int .i64 0,.int .i64 0,.int .i64 0,.int .i64 0] 30)) (aH _))⟩ ?_;generalize l.heap.size=hb2 at *;clear heE BA oQ H g hxG C hhG hEG hcG xM T;rintro wI ⟨NH,D,hhI,hEI,NT,Uq,IC,r⟩;have iZ:Hid (∀W,Ext wI W->Calls Tryz.prog 12 #[.iface 32 (.slice p2 m2 c2),.agg (aK h2),.agg (az gU),.agg (cD uT)] W fun e w'=>e=.returned (.tuple #[.agg (cD ⟨[98,122],false,true,false⟩),.agg (fF ([98,122],[98,122,50])),.int .i64 0])/\Ext W w'):=ag (fun W e=>by
  have:=V8 (r.ext e) uT;rw[axk] at this;exact this)
 go_upto_region 6 with(first
  | ((with_reducible refine aW 49 ?_);refine mM rfl (.tmp 7) rfl _ rfl h2 IC ?_)
  | ((with_reducible refine aW 50 ?_);refine bu rfl (.tmp 1) rfl _ rfl gU D ?_)
  | ((with_reducible refine aW 51 ?_);refine bz rfl 26 (.tmp 4) rfl _ rfl _ _ _ NT nS rfl kE ?_)
  | (go_at_call 12;refine(iZ.out _ (Ext.refl _)).mono ?_;rintro e O ⟨rfl,JK⟩)
  | (refine aU rfl 26 (.tmp 9) (.tmp 53) rfl _ (cD ⟨[98,122],false,true,false⟩) rfl rfl _ _ (ah.alloc (ah.new O _) _) kE rfl (uS _) ?_;intro wK hcK I;have hyK:=I.blk (ah.new1 (O.alloc (.cells mX 26)) (.cells #[.string ⟨#[]⟩,.string ⟨#[]⟩] 37) (O.heap.size+1) av) af)
  | (refine aU rfl 37 (.tmp 10) (.tmp 54) rfl _ (fF ([98,122],[98,122,50])) rfl rfl _ _ hyK fE rfl (nU _ _) ?_;intro wL hpL hgL))
 have heK:Ext O wL:=hgL.ext (I.ext ((Ext.alloc O (.cells mX 26)).trans (Ext.alloc _ (.cells #[.string ⟨#[]⟩,.string ⟨#[]⟩] 37))) (aH _)) af;have i:=JK.trans heK;refine aR (fun W=>Ext w W/\bI W w.heap.size gU/\fG W hb h1/\xP sy h1 p1 m1 c1 W/\ah W pb (.cells (fF ([98,98],[98,98,50])) 37)/\ah W (O.heap.size+1) (.cells (fF ([98,122],[98,122,50])) 37)) ⟨NH.trans i,D.ext i,hhI.ext i,hEI.ext i,i.blk _ _ Uq,hpL⟩ ?_;generalize O.heap.size+1=pb2 at *;clear JK hcK I hyK hpL hgL heK i NH D hhI hEI NT Uq IC r iZ;rintro wM ⟨JL,E,L,u,JM,hqM⟩;have V:=ag E;have Y:=ag L;have uF:Hid (∀W,Ext wM W->Calls Tryz.prog 12 #[.iface 32 (.slice p1 m1 c1),.agg (aK h1),.agg (az gU),.agg (cD OL)] W fun e w'=>e=.returned (.tuple #[.agg (cD ⟨[97,97],true,true,false⟩),.agg (fF ([97,97],[97,97,49])),.int .i64 0])/\Ext W w'):=ag (fun W e=>by
  have:=V8 (u.ext e) OL;rw[axl] at this;exact this)
 have t:=ag (And.intro JL (And.intro E (And.intro L (And.intro u (And.intro JM hqM)))));clear JL E L u JM hqM;refine kH 200 [(12,[(10,12)]),(13,[(11,13)])] (Ext.refl wM) aj aj aj aj aj aj (aio _ _ 12 10 12 13 11 13 26 37 (cD ⟨[97,97],true,true,false⟩) (fF ([97,97],[97,97,49])) aq aq aj aj) ?_;simp only[cY,eF,gj,dV,dP,gC,dh,dQ];repeat (first
  | (refine dY (o:=⟨some 12,_,_,_,_,_⟩) (jH wM.heap.size 26 (mX) (cD ⟨[97,97],true,true,false⟩)) (jH.ay _ _ _ _) (.inr Kx) aj aP ?_ ?_
     ·exact KL
     refine aE ?_)
  | (refine dY (o:=⟨some 13,_,_,_,_,_⟩) (jH wM.heap.size 37 (#[.string ⟨#[]⟩,.string ⟨#[]⟩]) (fF ([97,97],[97,97,49]))) (jH.ay _ _ _ _) (.inr Kx) aj aP ?_ ?_
     ·exact KL
     refine aE ?_)
  | (refine dF (o:=⟨some 59,_,_,_,_,_⟩) (v:=.agg (aK h1)) aj aP ?_ ?_
     ·intro a w' he hr K hK;simp[Reads,Oper.looksAt,Op.operands,aJ,Is] at hr;exact eG 30 (.tmp 2) rfl (hb) dX _ _ _ _ (he.blk _ _ Y.out) fH rfl dg (hK _ (Ext.refl _))
     refine aE ?_)
  | (refine dF (o:=⟨some 60,_,_,_,_,_⟩) (v:=.agg (az gU)) aj aP ?_ ?_
     ·intro a w' he hr K hK;simp[Reads,Oper.looksAt,Op.operands,aJ,Is] at hr;exact eG 23 (.tmp 1) rfl (w.heap.size) dX _ _ _ _ (he.blk _ _ V.out) gr rfl gD (hK _ (Ext.refl _))
     refine aE ?_)
  | (refine dF (o:=⟨some 61,_,_,_,_,_⟩) (v:=.agg (cD OL)) aj aP ?_ ?_
     ·intro a w' he hr K hK;simp[Reads,Oper.looksAt,Op.operands,Call.operands,aJ,Is] at hr;go_simp;refine(Fu [98] true _).mono ?_;exact kg
     refine aE ?_)
  | (refine dF (o:=⟨some 62,_,_,_,_,_⟩) (v:=.tuple #[.agg (cD ⟨[97,97],true,true,false⟩),.agg (fF ([97,97],[97,97,49])),.int .i64 0]) aj aP ?_ ?_
     ·intro a w' he hr K hK;simp[Reads,Oper.looksAt,Op.operands,Call.operands,aJ,Is] at hr;go_simp;refine(uF.out _ he).mono ?_;exact kg
     refine aE ?_)
  | (refine iU (o:=⟨none,.store 26 _ _,_,_,_,_⟩) Any Any.ay (.inr Any.bP) aj aP ?_ ?_
     ·intro a w' he hr K hK;obtain⟨b,h1,h3,h2⟩:=hr 12 bO;have hv:=hr 63 bO;rcases h2 with h2 | h2
      ·exact Ye
      ·exact Ye
     refine aE ?_)
  | (refine iU (o:=⟨none,.store 37 _ _,_,_,_,_⟩) Any Any.ay (.inr Any.bP) aj aP ?_ ?_
     ·intro a w' he hr K hK;obtain⟨b,h1,h3,h2⟩:=hr 13 bO;have hv:=hr 64 bO;rcases h2 with h2 | h2
      ·exact Yf
      ·exact Yf
     refine aE ?_)
  | (refine qD ?_)
  | (refine pH ?_))
 intro M d;simp only[iJ,iQ,jS,kW,bG,bN];repeat (first | with_reducible refine cH _ _ _ _ ?_ | (with_reducible refine cI _ _ _ _ ?_;intro _ _) | with_reducible refine cJ _ _ ?_)
 simp only[cF,cK,bQ,bE];rename_i x12 h12 IL xy;obtain⟨pb3,rfl,j,_⟩:fS wM.heap.size (.cells (fF ([97,97],[97,97,49])) 37) IL M:=xy;have rU:=t.out.1.trans d;have Ej:=t.out.2.1.ext d;have hh9:=t.out.2.2.1.ext d;have Z:=ag (axu (t.out.2.2.2.1.ext d));have z:=d.blk _ _ t.out.2.2.2.2.1;have B:=d.blk _ _ t.out.2.2.2.2.2;clear d t V Y uF h12;go_upto_region 8 with(first
  | ((with_reducible refine aW 69 ?_);refine mM rfl (.tmp 2) rfl _ rfl h1 hh9 ?_)
  | ((with_reducible refine aW 70 ?_);refine bu rfl (.tmp 1) rfl _ rfl gU Ej ?_)
  | (go_at_call 25;refine Z.out.mono ?_;rintro e wN ⟨rfl,f⟩))
 have q1:=ah.val (f.blk _ _ z) 0 (.string ⟨#[98,98]⟩) rfl;have q2:=ah.val (f.blk _ _ B) 0 (.string ⟨#[98,122]⟩) rfl;have q3:=ah.val (f.blk _ _ j) 0 (.string ⟨#[97,97]⟩) rfl;have l1:=ah.lt (f.blk _ _ z);have l2:=ah.lt (f.blk _ _ B);have l3:=ah.lt (f.blk _ _ j);have HX:=ag (rU.trans f);clear z B j rU Ej hh9 f Z;go_wp2_with fail;go_ret;exact⟨rfl,HX.out⟩
end Go.Proofs.YteninnkbmoimgaaGreatDoor
namespace Go.Proofs.YteninnkbmoimgaaGreatDoor
open Go.RowKit aD
theorem axC : (Tryz.prog.fieldsOf 37).toList.map (fun f => (f.name, f.type, f.offset)) = [("Key", 9, 0), ("Record", 9, 1)] := aj
theorem axD:Tryz.prog.stoodInHeld 37=false:=aj
theorem aiF:Tryz.prog.eqGuardType Tryz.prog.depth 37=false:=aj
theorem axF {α:Type} (l:List α) (h:l.length=2):∃a b,l=[a,b]:=by
 rcases l with _ | ⟨a,_ | ⟨b,_ | ⟨x,l⟩⟩⟩<;>simp at h;exact⟨a,b,rfl⟩
theorem aiH (y:List UInt8×List UInt8) (W:World):(Op.equalIn 10000 37 (.agg (fF y)) (.agg (fF y))).run Tryz.prog W=.ok true W:=by
 rw[run_equalIn_agg W 9999 37 _ _ lW axD];have h:=axC;generalize(Tryz.prog.fieldsOf 37).toList=fs at *;have l:fs.length=2:=by simpa using gP List.length h
 obtain⟨a,b,rfl⟩:=axF fs l;simp at h;obtain⟨⟨d,e,f⟩,g,i,j⟩:=h;simp[fF,Op.eqFields,d,e,f,g,i,j,go_sem]
end Go.Proofs.YteninnkbmoimgaaGreatDoor

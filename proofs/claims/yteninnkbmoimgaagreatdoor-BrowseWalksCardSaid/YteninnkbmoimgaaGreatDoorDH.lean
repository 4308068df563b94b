/- A part of the proof. -/
import Derived.Test.YteninnkbmoimgaaGreatDoorAW0
set_option linter.unusedSimpArgs false
set_option linter.unusedVariables false
set_option maxRecDepth 100000
set_option maxHeartbeats 16000000
namespace Go.Proofs.YteninnkbmoimgaaGreatDoor
open Go.RowKit aD
structure M9 (f:FuncId) (caps:Array Value) (T:World->World->Prop) (m:List (List UInt8)) (h:Hd) (d:DS) (key:List UInt8) (S:Nat->World->Prop):Prop where
 call:∀args W,(callFunc f args).run Tryz.prog W=.ok (.enter f args) W
 ext:∀j W W',Ext W W'->S j W->S j W'
 trans:∀W W' W'',T W W'->T W' W''->T W W''
 Na:∀W W',Ext W W'->T W W'
 size:∀W W',T W W'->W.heap.size<=W'.heap.size
 keep:∀W W' b cs t,T W W'->(t=156∨t=106∨t=142)->ah W b (.cells cs t)->ah W' b (.cells cs t)
 go:∀j,j<h.height.toNat->ig m h d key (j+1)=0->∀W q c B0,S j W->W.ownsRow B0 142 2 (.slice q (bR m h d key j).ai.length c) (bR m h d key j).ai.length (aV (bR m h d key j).ai)->
  Calls Tryz.prog f (#[.agg #[.int .i64 (bR m h d key j).level,.int .i64 (bR m h d key j).next,.slice q (bR m h d key j).ai.length c],.int .i64 (bK (bR m h d key j).ai key:Nat)]++caps) W fun e W'=>e=.returned (.tuple #[])/\S (j+1) W'/\T W W'
theorem M9.own {f:FuncId} {e:Array Value} {T:World->World->Prop} {m:List (List UInt8)} {h:Hd} {d:DS} {key:List UInt8} {S:Nat->World->Prop} (V:M9 f e T m h d key S) {w w':World} {B n:Nat} {v:Value} {xs:List Value}
 (l:w.ownsRow B 142 2 v n xs) (o:T w w'):w'.ownsRow B 142 2 v n xs:=by
 refine⟨l.1,?_⟩;rcases l.2 with r | ⟨b,g,i,rfl,q,j,rest⟩
 ·exact .inl r
 ·exact .inr ⟨b,g,i,rfl,q,V.keep _ _ _ _ _ o (.inr (.inr rfl)) j,rest⟩
theorem aqv (f:FuncId) (K:Array Value) (T:World->World->Prop) (p:Option Addr) (l n:Nat) (m:List (List UInt8)) (h:Hd) (d:DS) (key:List UInt8) (S:Nat->World->Prop) (hV:M9 f K T m h d key S) (hz:jg h d=0) (w:World) (h0:S 0 w)
 (hs:∀W,T w W->bk W p m) (hn:m.length=n) (hm:Small m):
 Calls Tryz.prog 108 #[.agg (bH (.slice p n l) h d),.string ⟨key.toArray⟩,.func (.func f) #[] K] w fun e w'=>e=.returned (.int .i64 (ig m h d key h.height.toNat))/\T w w'/\(ig m h d key h.height.toNat=0->S h.height.toNat w'):=by
 obtain⟨k1,k2,k3,k4,k5,k6,k7⟩:=xg hz;have t:=ag hV;have Hs:=ag hs;have hcall:=hV.call;have R:=Ext.alloc w (.cells (bH (.slice p n l) h d) 156);have hb:=ah.new w (.cells (bH (.slice p n l) h d) 156);have H0:=ag (hV.ext 0 w _ R h0);have HL:=ag (fun page level W (hh:bk W p m)=>ab4 p l n m h d page level W hh hn hm);obtain⟨H,hH⟩:∃H:Nat,h.height=H:=⟨h.height.toNat,af⟩;have O:h.height.toNat=H:=af;rw[O];have HHn:=ag O;have HH:=ag hH;have TJ:H<=6:=af;clear hV hs hz k1 k2 k3 k4 k5 k6 k7 O h0;go_enter Tryz.func108,Tryz.ntmps108;go_upto_region 1 with(fail);refine aR (fun w0=>T w w0/\ah w0 w.heap.size (.cells (bH (.slice p n l) h d) 156)/\S 0 w0) ⟨t.out.Na _ _ R,hb,H0.out⟩ ?_;clear R hb H0;rintro w0 ⟨hg0,z,IB⟩;have c4:w0.cell? ⟨w.heap.size,4,none⟩=some (.int .i64 h.root):=ah.val z 4 _ rfl;have c5:w0.cell? ⟨w.heap.size,5,none⟩=some (.int .i64 h.height):=ah.val z 5 _ rfl;have l0:=ah.lt z;rw[hH] at c5;clear hH;go_upto_region 3 with(fail);go_loopw[7,8] (fun pg lv wr=>∃j:Nat,j<=H/\pg=.int .i64 (bJ m h d key j)/\lv=.int .i64 ((H-j:Nat):Int)/\ig m h d key j=0/\T w wr/\ah wr w.heap.size (.cells (bH (.slice p n l) h d) 156)/\S j wr) (fun _ lv _=>(intOf lv).toNat)
 case atStart=>exact⟨0,bL _,rfl,av,rfl,hg0,z,IB⟩
 case round=>
  clear hg0 z IB c4 c5 l0;obtain⟨j,hj,rfl,rfl,F,hg,hb,hS⟩:=hrel;by_cases vv:j<H
  ·have hpos:(0:Int)<((H-j:Nat):Int):=af;have hlv:h.height-(j:Int)=((H-j:Nat):Int):=by have:=HH.out;omega
   have hL:=HL.out (bJ m h d key j) ((H-j:Nat):Int) wr (Hs.out wr hg);have u:=G7 F;have I:bR m h d key j=(bF m d (bJ m h d key j) ((H-j:Nat):Int)).1:=by unfold bR;rw[hlv]
   have E:kZ m h d key j=(bF m d (bJ m h d key j) ((H-j:Nat):Int)).2:=by unfold kZ;rw[hlv]
   unfold mo at hL;rw[<-I,<-E] at hL;have N:=ag hL;have HB:=ag (And.intro hg (And.intro hb hS));by_cases b:kZ m h d key j=0
   ·have hsp:pS (bR m h d key j):=by
     rw[I];exact(qW (by rw[<-E];exact b)).1
    have Y:(bR m h d key j).ai≠[]:=Kf;have hfl:=yG key Y;have HF:=ag (fun W q c (hh:iV W q (bR m h d key j).ai)=>amH q c (bR m h d key j) key W hh (by have:=hsp.l2;omega));unfold dO at HF;have HG:=ag (fun W q c B0=>t.out.go j (by have:=HHn.out;omega) (by rw[u];exact b) W q c B0);have HNe:=ag Y;have vG:=ag (ux m h d key j);have Bq:=ag (u.trans b);have GG:=hsp.l2;rw[b] at N;clear hL u I E F hg hS b hsp Y;generalize L:bJ m h d key (j+1)=pg' at *;have qK:=ag L;clear L;generalize bK (bR m h d key j).ai key=i at *;generalize bR m h d key j=J at *;generalize bJ m h d key j=pg at *;have hfI:(i:Int)<J.ai.length:=af;go_upto_region 10 with(first
     | (refine WV ?_)
     | (go_at_call 147;refine N.out.mono ?_;rintro e w2 ⟨r,q2,c2,rfl,U⟩)
     | (refine aU rfl 106 (.tmp 9) (.tmp 27) rfl _ #[.int .i64 J.level,.int .i64 J.next,.slice q2 J.ai.length c2] rfl rfl _ _ (ah.new w2 _) bq rfl cT ?_;intro w3 G D;have C:=D.ext (Ext.alloc _ _) (aH _);have Z:=aO U C)
     | ((with_reducible refine aW 32 ?_);refine bz rfl 106 (.tmp 9) rfl _ rfl _ _ _ G cZ rfl bq ?_)
     | (go_at_call 148;refine(HF.out _ q2 c2 (mq Z)).mono ?_;rintro e w4 ⟨Iq,_,y⟩;obtain rfl:=Iq HNe.out;have V:=y.blk _ _ G;have oR:=aO Z y)
     | ((with_reducible refine aW 36 ?_);refine bz rfl 106 (.tmp 9) rfl _ rfl _ _ _ V cZ rfl bq ?_)
     | (refine(HG.out _ q2 c2 _ (t.out.ext _ _ _ y (t.out.ext _ _ _ C (t.out.ext _ _ _ r HB.out.2.2))) oR).mono ?_;rintro e w5 ⟨rfl,hS5,B⟩))
    have rR:T w w5:=t.out.trans _ _ _ HB.out.1 (t.out.trans _ _ _ (t.out.Na _ _ ((r.trans C).trans y)) B);have X:=t.out.keep _ _ _ _ _ B (.inr (.inl rfl)) V;have rQ:ah w5 w.heap.size (.cells (bH (.slice p n l) h d) 156):=t.out.keep _ _ _ _ _ B (.inl rfl) (y.blk _ _ (C.blk _ _ (r.blk _ _ HB.out.2.1)));have iX:=t.out.own oR B;obtain⟨g,rfl,hgl,iz⟩:∃g,q2=some ⟨g,0,none⟩/\g<w5.heap.size/\w5.cell? ⟨g,i*2+1,none⟩=some (.int .i64 (au J.ai i).2):=by
     obtain⟨g,off,hq,hgl,iz⟩:=(mq iX).at i hfl;obtain⟨g',_,hq',_⟩:=jM iX af;exact Wy
    have Bj:=ah.val X 2 _ rfl;have DT:=ah.lt X;have HR:=ag (And.intro rR (And.intro rQ hS5));clear rR rQ hS5 B V G Z oR iX C y D r U hb X;rw[<-vG.out] at iz;go_wp2_with fail;go_roundw
    case rel=>exact⟨j+1,af,by rw[qK.out],bX,Bq.out,HR.out.1,HR.out.2.1,HR.out.2.2⟩
    case measure=>exact ct
   ·have hst:=DL (M:=m) (h:=h) (d:=d) (key:=key) (k:=j+1) (by rw[u];exact b) H af;have yx:=ag (hst.trans u);have vC:(kZ m h d key j !=0)=true:=by simpa using b
    have HE0:=ag b;clear hL hst u I E F hg hS b;generalize bR m h d key j=J at *;generalize kZ m h d key j=er at *;generalize bJ m h d key j=pg at *;go_wp2_with(first
     | (refine WV ?_)
     | (go_at_call 147;refine N.out.mono ?_;rintro e w2 ⟨r,q2,c2,rfl,U⟩)
     | (refine aU rfl 106 (.tmp 9) (.tmp 27) rfl _ #[.int .i64 J.level,.int .i64 J.next,.slice q2 J.ai.length c2] rfl rfl _ _ (ah.new w2 _) bq rfl cT ?_;intro w3 G D))
    go_ret;exact⟨by rw[yx.out];rfl,t.out.trans _ _ _ HB.out.1 (t.out.Na _ _ (D.ext (r.trans (Ext.alloc _ _)) r.size)),fun h9=>absurd (yx.out.symm.trans h9) HE0.out⟩
  ·have TS:j=H:=af;subst TS;have hpos:decide ((0:Int)<((j-j:Nat):Int))=false:=av;go_wp2;go_ret;exact⟨by rw[F];rfl,hg,fun _=>hS⟩
theorem aqz (L:List Int) (x:Int):cP (L++[x])=cP L++[.int .i64 x]:=by simp[cP]
def RL (B pb:Nat) (b:Array Value):Nat->Rel:=fun i=>if i=8 then(fun w w'=>oO B 3 w w'/\ah w pb (.cells b 101)) else oO B 101
def PrL (B pb:Nat) (q:Option Addr) (k c:Nat) (xs:List Value) (S:World->Prop):Nat->World->Prop:=fun p w=>
 (p=8->w.ownsRow B 3 1 (.slice q k c) k xs)/\(p=9->ah w pb (.cells #[.slice q k c] 101)/\S w)
def adP (B pb k:Nat) (xs:List Value) (S:World->Prop):Fact:=fun _ w=>∃d b,ah w pb (.cells #[.slice d (k+1) b] 101)/\w.ownsRow B 3 1 (.slice d (k+1) b) (k+1) xs/\S w
def GL (B pb k:Nat) (xs:List Value) (S:World->Prop):Nat->Nat->Fact:=fun p _=>if p=9 then adP B pb k xs S else Any
theorem aqB {l:List Oper} {z:World} {B pb k c:Nat} {q:Option Addr} {xs:List Value} {S:World->Prop} (m:∀w w',Ext w w'->S w->S w') (E:z.heap.size<=B) (D:kU .any l 1 9=true):
 uj l z [(8,[(7,12)]),(9,[(1,6)])] (RL B pb #[.slice q k c]) (GL B pb k xs S):=by
 refine⟨fun i w w' h=>?_,fun i j=>?_,fun p j i d u hne x a b h o=>?_,fun p j d=>?_⟩
 ·have e:Below B w w':=by
   unfold RL at h;split at h
   ·exact h.1.1
   ·exact h.1
  exact⟨e.os,e.tape,e.output,e.size,fun k d=>e.block k af⟩
 ·unfold GL;split
  ·exact fun _ _ _ n ⟨y,r,f,t,g⟩=>⟨y,r,n.blk _ _ f,aO t n,m _ _ n g⟩
  ·exact Any.ay
 ·simp[iT] at d;simp[eN] at u;unfold GL at o⊢;rcases d with⟨rfl,_⟩ | ⟨rfl,_⟩
  ·trivial
  ·rw[aC rfl] at o⊢;obtain⟨y,r,f,t,_⟩:=o;rcases u with rfl | rfl
   ·obtain⟨_,g⟩:=h;have C:=jF (f.symm.trans g);simp at C
   ·exact tP
 ·simp[iT] at d;unfold GL;rcases d with⟨rfl,_⟩ | ⟨rfl,rfl⟩
  ·exact .inl rfl
  ·exact .inr D
theorem aqC {l:List Oper} {N B pb k c:Nat} {q:Option Addr} {xs:List Value} {S:World->Prop} (d:∀w w',Ext w w'->S w->S w') (f:∀w w',oO B 3 w w'->S w->S w') (o:kU .any l 8 9=true) (n:gI .any l.toArray N=true):
 Pre.sU .any l.toArray [(8,[(7,12)]),(9,[(1,6)])] (RL B pb #[.slice q k c]) (PrL B pb q k c xs S):=by
 refine⟨fun p _ w w' g ⟨j,b⟩=>⟨fun e=>aO (j e) g,fun e=>⟨g.blk _ _ (b e).1,d _ _ g (b e).2⟩⟩,fun p q m i hne=>?_⟩;simp[eN] at m i;rcases m with rfl | rfl
 ·rcases i with rfl | rfl
  ·exact tP
  ·exact .inl (rK n o)
 ·rcases i with rfl | rfl
  ·exact .inr fun w w' r ⟨j,b⟩=>⟨fun e=>af,fun _=>⟨r.1.2 _ _ _ aq (b rfl).1,f _ _ r.1 (b rfl).2⟩⟩
  ·exact tP
def TL (B:Nat) (w w':World):Prop:=Below B w w'/\∀b d t,t≠3->t≠101->ah w b (.cells d t)->ah w' b (.cells d t)
def zi (B pb:Nat) (L:List Int) (w:World):Prop:=B<=pb/\∃q c,ah w pb (.cells #[.slice q L.length c] 101)/\w.ownsRow B 3 1 (.slice q L.length c) L.length (cP L)
theorem aqD (B pb:Nat) (L:List Int) (d:Nd) (qe:Option Addr) (G i:Nat) (w:World) (hS:zi B pb L w) {B0:Nat} (hne:w.ownsRow B0 142 2 (.slice qe d.ai.length G) d.ai.length (aV d.ai)) (hi:i<d.ai.length) (hl:d.ai.length<=1000) (hL:L.length<=1000) (hBw:B<=w.heap.size):
 Calls Tryz.prog 109 #[.agg #[.int .i64 d.level,.int .i64 d.next,.slice qe d.ai.length G],.int .i64 (i:Nat),.pointer (some ⟨pb,0,none⟩)] w fun e w'=>e=.returned (.tuple #[])/\zi B pb (L++[(au d.ai i).2]) w'/\TL B w w':=by
 obtain⟨z,q,c,U,T⟩:=hS;obtain⟨k,hk⟩:∃k,L.length=k:=⟨_,rfl⟩;obtain⟨g,J,rfl,hg0,hge,_,_,O,Z⟩:=jM hne af;have I:J[i*2+1]? =some (.int .i64 (au d.ai i).2):=by
  have h1:=(LZ _ _ hi).2;have h2:J.toList[i*2+1]? =(aV d.ai)[i*2+1]? :=by
   rw[<-Z,qF];rw[aC af]
  rw[<-Nb,h2,h1]
 have l:=Ext.alloc w (.cells #[.int .i64 d.level,.int .i64 d.next,.slice (some ⟨g,0,none⟩) d.ai.length G] 106);have hn0:=ah.new w (.cells #[.int .i64 d.level,.int .i64 d.next,.slice (some ⟨g,0,none⟩) d.ai.length G] 106);have H:Hid (∀L2,L2=L++[(au d.ai i).2]->∀q' c' W,ah W pb (.cells #[.slice q' (L.length+1) c'] 101)->W.ownsRow B 3 1 (.slice q' (L.length+1) c') (L.length+1) (cP (L++[(au d.ai i).2]))->zi B pb L2 W):=ag (fun L2 e q' c' W h1 h2=>by
  subst e;refine⟨z,q',c',?_,?_⟩
  ·simpa using h1
  ·simpa using h2)
 generalize(au d.ai i).2=x at *;have IC:(i:Int)<d.ai.length:=af;clear hne Z O hi;generalize d.ai.length=ne at *;rw[hk] at U T H;go_enter Tryz.func109,Tryz.ntmps109;go_upto_region 1 with(fail);have sj:=l.blk _ _ U;have jG:=aO T l;have hg1:=l.blk _ _ hge;generalize w.alloc (.cells #[.int .i64 d.level,.int .i64 d.next,.slice (some ⟨g,0,none⟩) ne G] 106)=w1 at *;have R:=ac5 w1 B;have O:=ac6 (w:=w1) (B:=B) (by have:=l.size;omega);generalize Bf w1 B=wc at R O;obtain⟨S,f⟩:∃S:World->Prop,S=fun W=>(ah W w.heap.size (.cells #[.int .i64 d.level,.int .i64 d.next,.slice (some ⟨g,0,none⟩) ne G] 106)/\ah W g (.cells J 142))/\∀b m t,t≠3->t≠101->ah w b (.cells m t)->ah W b (.cells m t):=⟨_,rfl⟩;have X:Hid (∀W n,Ext W n->S W->S n):=ag (fun W n e h=>by rw[f] at h⊢;exact⟨⟨e.blk _ _ h.1.1,e.blk _ _ h.1.2⟩,fun b m t h1 h2 M=>e.blk _ _ (h.2 b m t h1 h2 M)⟩);have HSr:Hid (∀W n,oO B 3 W n->S W->S n):=ag (fun W n r h=>by rw[f] at h⊢;exact⟨⟨r.2 _ _ _ aq h.1.1,r.2 _ _ _ aq h.1.2⟩,fun b m t h1 h2 M=>r.2 _ _ _ h1 (h.2 b m t h1 h2 M)⟩);have HSs:Hid (∀W n,oO B 101 W n->S W->S n):=ag (fun W n r h=>by rw[f] at h⊢;exact⟨⟨r.2 _ _ _ aq h.1.1,r.2 _ _ _ aq h.1.2⟩,fun b m t h1 h2 M=>r.2 _ _ _ h2 (h.2 b m t h1 h2 M)⟩);have DX:Hid (S w1):=ag (by rw[f];exact⟨⟨hn0,hg1⟩,fun b m t _ _ M=>l.blk _ _ M⟩)
 have zj:Hid (∀W,S W->W.cell? ⟨w.heap.size,2,none⟩=some (.slice (some ⟨g,0,none⟩) ne G)/\w.heap.size<W.heap.size):=ag (fun W h=>by rw[f] at h;exact⟨ah.val h.1.1 2 _ rfl,ah.lt h.1.1⟩);have zk:Hid (∀W,S W->W.cell? ⟨g,i*2+1,none⟩=some (.int .i64 x)/\g<W.heap.size):=ag (fun W h=>by rw[f] at h;exact⟨ah.val h.1.2 _ _ I,ah.lt h.1.2⟩);have HE3:Hid (∀W,S W->w.heap.size<=W.heap.size/\∀b m t,t≠3->t≠101->ah w b (.cells m t)->ah W b (.cells m t)):=ag (fun W h=>by rw[f] at h;exact⟨by have:=ah.lt h.1.1;omega,h.2⟩);have HC:=ag (And.intro l R);clear f hn0 hg1 l hge I U T;refine Pre.kH 200 [(8,[(7,12)]),(9,[(1,6)])] (R) aj aj aj aj aj aj (aqB (B:=B) (pb:=pb) (k:=k) (c:=c) (q:=q) (xs:=cP (L++[x])) (S:=S) X.out af aj) (aqC (xs:=cP L) (S:=S) X.out HSr.out aj) (fun p hp=>⟨fun _=>jG,fun _=>⟨sj,DX.out⟩⟩) ?_;simp only[cY,eF,gj,dV,dP,gC,dh,dQ];repeat (first
  | (refine Pre.dF (o:=⟨some 5,_,_,_,_,_⟩) (v:=.slice q k c) (fun k v=>Pre.iF.is _ _ _ _ k v) aj aP ?_ ?_
     ·intro a' w' he0 hp hr Y hK;have hw:=((hp 9 aj aj).2 rfl).1;have hv:=ah.val hw 0 _ rfl;have hl:=ah.lt hw;exact E9
     refine aE ?_)
  | (refine Pre.dF (o:=⟨some 7,_,_,_,_,_⟩) (v:=.slice (some ⟨g,0,none⟩) ne G) (fun k v=>Pre.iF.is _ _ _ _ k v) aj aP ?_ ?_
     ·intro a' w' he0 hp hr Y hK;obtain⟨hv,hl⟩:=zj.out _ ((hp 9 aj aj).2 rfl).2;exact E9
     refine aE ?_)
  | (refine Pre.dF (o:=⟨some 11,_,_,_,_,_⟩) (v:=.int .i64 x) (fun k v=>Pre.iF.is _ _ _ _ k v) aj aP ?_ ?_
     ·intro a' w' he0 hp hr Y hK;obtain⟨hv,hl⟩:=zk.out _ ((hp 9 aj aj).2 rfl).2;exact E9
     refine aE ?_)
  | (refine Pre.dY (o:=⟨some 12,_,_,_,_,_⟩) (dx 1 1 (.cells #[.int .i64 x] 3)) (dx.ay _ _ _) (fun x hx=>by
      simp at hx;rcases hx with rfl | rfl
      ·exact .inl aj
      ·exact Ys) aj aP ?_ ?_
     ·intro a' w' he0 hp hr Y hK;exact Fa
     simp only[bZ,bG,bN])
  | (refine Pre.iU (o:=⟨some 13,_,_,_,_,_⟩) (dJ 3 B 1 (k+1) (cP (L++[x]))) (dJ.ay _ _ _ _ _) (fun x hx=>by
      simp at hx;rcases hx with rfl | rfl
      ·exact .inl aj
      ·exact Yn) aj aP ?_ ?_
     ·intro a' w' he0 hp hr Y hK;have D:=((hp 9 aj aj).2 rfl).1;have ho:=(hp 8 aj aj).1 rfl;have h46:=hr 5 gM;obtain⟨b,hb1,hb2⟩:=hr 12 gM;have hsz:B<=w'.heap.size:=by have:=he0.size;omega
      refine wS (.tmp 5) (.tmp 12) 101 3 rfl B (.int .i64 0) 1 8 Tryz.underlying101 uW rfl aq _ k _ h46 ho (some ⟨b,0,none⟩) 1 1 [.int .i64 x] hb1 rfl rfl (n8 (ys:=[.int .i64 x]) hb2) nk af aq hsz ?_;intro v' w'' ho' hg;obtain⟨q',c',rfl⟩:=cE ho';exact hK _ _ ⟨pZ hg ho hsz,D⟩ ⟨q',c',rfl,by rw[aqz];exact ho'⟩ (fun x hx V y hy=>by
       simp at hx;rcases hx with rfl | rfl
       ·trivial
       ·simp at V)
     simp only[bZ,bG,bN])
  | (refine Pre.iU (o:=⟨none,_,_,_,_,_⟩) Any Any.ay (fun x hx=>.inr fun _ _ _ _ _=>trivial) aj aP ?_ ?_
     ·intro a' w' he0 hp hr Y hK;have D:=((hp 9 aj aj).2 rfl).1;have Tq:a'.tmps.getD 2 undef=.pointer (some ⟨pb,0,none⟩):=hr 2 bO;obtain⟨q',c',N,ho⟩:=hr 13 bO;have hv:=ah.val D 0 _ rfl;have hf:=ah.free D 0;have hl:=ah.lt D;have N:a'.tmps.getD 13 undef=.slice q' (k+1) c':=N;simp at Tq N;go_simp;exact hK undef _ (He D z aI.setCell) trivial (fun x hx V y hy=>by
       simp at hx;rcases hx with rfl | rfl
       ·simp at V
       ·simp at hy;subst hy;exact⟨q',c',ah.setCell D,rC ho aq (He D z aI.setCell),HSs.out _ _ (He D z aI.setCell) ((hp 9 aj aj).2 rfl).2⟩)
     refine aE ?_)
  | (refine CB ?_)
  | (refine E5 ?_))
 intro w2 C;simp only[iJ,iQ,jS,kW,bG,bN];try simp only[dh,dQ,bG,bN,qt,qu]
 repeat (first | with_reducible refine cH _ _ _ _ ?_ | (with_reducible refine cI _ _ _ _ ?_;intro _ _) | with_reducible refine cJ _ _ ?_)
 try simp only[cF,cK,bQ,bE]
 rename_i v1 F1 v2 F2 v3 F3;have F1':adP B pb k (cP (L++[x])) S v1 w2:=F1;obtain⟨q',c',hp9,fI,hS9⟩:=F1';clear F1 F2 F3;go_wp2_with fail;go_end0;obtain⟨E,F⟩:=HC.out;obtain⟨hs1,vk⟩:=HE3.out _ hS9;exact⟨rfl,H.out _ rfl q' c' w2 hp9 fI,⟨C.os.trans (F.os.symm.trans E.os),C.tape.trans (F.tape.symm.trans E.tape),C.output.trans (F.output.symm.trans E.output),hs1,fun j hj=>(C.block j af).trans ((F.block j af).symm.trans (E.block j af))⟩,vk⟩
theorem zi.ext {B pb:Nat} {L:List Int} {w w':World} (h:zi B pb L w) (e:Ext w w'):zi B pb L w':=by
 obtain⟨b,q,c,d,f⟩:=h;exact⟨b,q,c,e.blk _ _ d,aO f e⟩
def TQ (B:Nat) (w w':World):Prop:=w.heap.size<=w'.heap.size/\(B<=w.heap.size->Below B w w')/\∀b d t,t≠3->t≠101->ah w b (.cells d t)->ah w' b (.cells d t)
theorem aqK (B pb:Nat) (m:List (List UInt8)) (h:Hd) (d:DS) (key:List UInt8) (H:jg h d=0):M9 109 #[.pointer (some ⟨pb,0,none⟩)] (TQ B) m h d key (fun j W=>zi B pb (eW m h d key j) W/\B<=W.heap.size) where
 call:=fun args W=>by simp[callFunc,Tryz.func109];kernel_rfl
 ext:=fun j W i e ⟨g,f⟩=>⟨g.ext e,fN f e.size⟩
 trans:=fun W i D a b=>⟨fN a.1 b.1,fun n=>(a.2.1 n).trans (b.2.1 (fN n a.1)),fun x l t g f r=>b.2.2 x l t g f (a.2.2 x l t g f r)⟩
 Na:=fun W i e=>⟨e.size,fun n=>Below.mono e n,fun x l t _ _ r=>e.blk _ _ r⟩
 size:=fun W i a=>a.1
 keep:=fun W i b l t a C E=>a.2.2 b l t (by rcases C with rfl | rfl | rfl<;>decide) (by rcases C with rfl | rfl | rfl<;>decide) E
 go:=fun j J u W q c I ⟨g,f⟩ G=>by
  obtain⟨k1,k2,L,M,N,O,Q⟩:=xg H;have F:kZ m h d key j=0:=apE u (Nat.lt_succ_self j);have hsp:pS (bR m h d key j):=(qW F).1;have y:(bR m h d key j).ai≠[]:=Kf;have K:=hsp.l2;refine(aqD B pb (eW m h d key j) (bR m h d key j) q c (bK (bR m h d key j).ai key) W g G (yG key y) af vU f).mono ?_;rintro e i ⟨rfl,z,o⟩;rw[<-ux,<-acX] at z;exact⟨rfl,⟨z,fN f o.1.size⟩,o.1.size,fun _=>o.1,o.2⟩
def sF (m:List (List UInt8)) (h:Hd) (d:DS) (key:List UInt8) (w:World) (e:Ending) (w':World):Prop:=Ext w w'/\∃q c,e=.returned (.tuple #[.slice q (sE m h d key).length c,.int .i64 (oN m h d key)])/\
 w'.ownsRow w.heap.size 3 1 (.slice q (sE m h d key).length c) (sE m h d key).length (cP (sE m h d key))
theorem aqL (p:Option Addr) (b n:Nat) (m:List (List UInt8)) (h:Hd) (d:DS) (key:List UInt8) (w:World) (O:bk w p m) (hn:m.length=n) (hm:Small m):
 Calls Tryz.prog 74 #[.iface 32 (.slice p n b),.agg (aK h),.agg (az d),.string ⟨key.toArray⟩] w (sF m h d key w):=by
 have B:=yL w h d;have g:Hid (∀e w' c,oN m h d key=c->c≠0->Ext w w'->e=.returned (.tuple #[.slice none 0 0,.int .i64 c])->sF m h d key w e w'):=ag (fun e w' c hc h0 h1 h2=>by
  exact Yk)
 by_cases hz:jg h d=0
 ·have ry:oN m h d key=ig m h d key h.height.toNat:=by unfold oN;rw[aA uP]
  have i:Hid (∀e w' q c,ig m h d key h.height.toNat=0->Ext w w'->e=.returned (.tuple #[.slice q (eW m h d key h.height.toNat).length c,.int .i64 0])->w'.ownsRow w.heap.size 3 1 (.slice q (eW m h d key h.height.toNat).length c) (eW m h d key h.height.toNat).length (cP (eW m h d key h.height.toNat))->sF m h d key w e w'):=ag (fun e w' q c hc h1 h2 h3=>by
   exact Wz)
  rw[ry] at g;have Z:=ag (fun pb=>aqK w.heap.size pb m h d key hz);have S:=ag (fun pb W h0 O=>aqv 109 #[.pointer (some ⟨pb,0,none⟩)] (TQ w.heap.size) p b n m h d key _ (Z.out pb) hz W h0 O hn hm);have Hs:=ag O;have Hz:=ag hz;have G:Hid (∀W,Calls Tryz.prog 82 #[.iface 32 (.slice p n b),.agg (aK h),.agg (az d)] W fun e w'=>e=.returned (.tuple #[.agg (bH (.slice p n b) h d),.int .i64 0])/\Ext W w'):=ag (fun W=>(Mw p n b h d W).mono (fun e w' ⟨h1,h2⟩=>by
   rcases h2 with⟨_,h3⟩ | ⟨h3,_⟩
   ·exact⟨h3,h1⟩
   ·rw[hz] at h3;cases h3))
  clear O hz ry Z;generalize sF m h d key w=U at *;go_enter Tryz.func74,Tryz.ntmps74;go_upto_region 1 with(fail);refine aR (fun D=>Ext w D/\fG D w.heap.size h/\bI D (w.heap.size+1) d) B ?_;clear B;rintro D ⟨C,j,y⟩;go_upto_region 5 with(first
   | ((with_reducible refine aW 16 ?_);refine mM rfl (.tmp 5) rfl _ rfl h j ?_)
   | ((with_reducible refine aW 17 ?_);refine bu rfl (.tmp 6) rfl _ rfl d y ?_)
   | (go_at_call 82;refine(G.out _).mono ?_;rintro e R ⟨rfl,r⟩)
   | (refine aU rfl 156 (.tmp 10) (.tmp 19) rfl _ (bH (.slice p n b) h d) rfl rfl _ _ (ah.new R _) oq rfl (vu p n b h d) ?_;intro E J z;have t:=z.ext (Ext.alloc _ _) (aH _);have l:=(j.ext r).ext t;have c3:=ah.val l 3 _ rfl;have l3:=ah.lt l))
  have u:Ext w E:=(C.trans r).trans t;have K:=(Ext.alloc E (.cells #[.int .i64 h.root] 3)).trans (Ext.alloc _ (.cells #[.slice (some ⟨E.heap.size,0,none⟩) 1 1] 101));refine aR (fun M=>Ext w M/\ah M R.heap.size (.cells (bH (.slice p n b) h d) 156)/\zi w.heap.size (E.heap.size+1) (eW m h d key 0) M/\E.heap.size+1<M.heap.size) ⟨u.trans K,K.blk _ _ J,⟨by have:=u.size;omega,some ⟨E.heap.size,0,none⟩,1,ah.new1 _ _ _ av,Dy (xs:=[.int .i64 h.root]) (ah.alloc (ah.new E _) _) u.size rfl (by rw[tO];decide)⟩,ah.lt (ah.new1 _ _ _ av)⟩ ?_;clear u K J z t r C j y l c3 l3;generalize E.heap.size+1=pb;generalize R.heap.size=tb;rintro M ⟨f,zP,H,ax6⟩;have F:=ag (S.out pb M ⟨H,f.size⟩ (fun W hT=>Hs.out.ext (Ext.trans' f (hT.2.1 f.size))));by_cases L:ig m h d key h.height.toNat=0
  ·have HY:=ag (fun e w' q c=>i.out e w' q c L);rw[L] at F;have HpL:=ag (tO m h d key h.height.toNat);clear g i L S H;generalize eW m h d key h.height.toNat=PL at *;go_upto_region 8 with(first
    | (refine WI ?_)
    | (go_at_call 108;refine F.out.mono ?_;rintro e w5 ⟨rfl,I,V⟩))
   obtain⟨⟨_,q,c,N,X⟩,_⟩:=V (by trivial);have k5:=ah.val N 0 _ rfl;have l5:=ah.lt N;go_wp2_with fail;exact HY.out _ _ q c (Ext.trans' f (I.2.1 f.size)) rfl X
  ·have T:=ag (fun e w'=>g.out e w' _ rfl L);have vC:(ig m h d key h.height.toNat !=0)=true:=by simpa using L
   clear g i L S H;generalize ig m h d key h.height.toNat=er at *;go_wp2_with(first
    | (refine WI ?_)
    | (go_at_call 108;refine F.out.mono ?_;rintro e w5 ⟨rfl,I,_⟩))
   exact T.out _ _ (Ext.trans' f (I.2.1 f.size)) rfl
 ·have Y:jg h d=1:=EH;have ry:oN m h d key=1:=by unfold oN;rw[aC hz]
  have T:=ag (fun e w'=>g.out e w' 1 ry aq);have G:Hid (∀W,Calls Tryz.prog 82 #[.iface 32 (.slice p n b),.agg (aK h),.agg (az d)] W fun e w'=>e=.returned (.tuple #[.agg mI,.int .i64 1])/\Ext W w'):=ag (fun W=>(Mw p n b h d W).mono (fun e w' ⟨h1,h2⟩=>by
   rcases h2 with⟨h3,_⟩ | ⟨_,h3⟩
   ·exact absurd h3 hz
   ·exact⟨h3,h1⟩))
  clear g hz Y ry O;generalize sF m h d key w=U at *;go_enter Tryz.func74,Tryz.ntmps74;go_upto_region 1 with(fail);refine aR (fun D=>Ext w D/\fG D w.heap.size h/\bI D (w.heap.size+1) d) B ?_;clear B;rintro D ⟨C,j,y⟩;go_wp2_with(first
   | ((with_reducible refine aW 16 ?_);refine mM rfl (.tmp 5) rfl _ rfl h j ?_)
   | ((with_reducible refine aW 17 ?_);refine bu rfl (.tmp 6) rfl _ rfl d y ?_)
   | (go_at_call 82;refine(G.out _).mono ?_;rintro e R ⟨rfl,r⟩)
   | (refine aU rfl 156 (.tmp 10) (.tmp 19) rfl _ mI rfl rfl _ _ (ah.new R _) oq rfl Mv ?_;intro E J z;have t:=z.ext (Ext.alloc _ _) (aH _)))
  exact T.out _ _ ((C.trans r).trans t) rfl
end Go.Proofs.YteninnkbmoimgaaGreatDoor

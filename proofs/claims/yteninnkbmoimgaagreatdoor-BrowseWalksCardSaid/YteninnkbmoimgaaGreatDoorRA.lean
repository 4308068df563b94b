/- A part of the proof. -/
import Derived.Test.YteninnkbmoimgaaGreatDoorRA0
import Derived.Test.YteninnkbmoimgaaGreatDoorKC
set_option linter.unusedSimpArgs false
set_option linter.unusedVariables false
set_option maxRecDepth 100000
set_option maxHeartbeats 16000000
namespace Go.Proofs.YteninnkbmoimgaaGreatDoor
open Go.RowKit aD
abbrev zC:=Nd×Option Addr×Nat
def qm (L:List zC):List Value:=L.flatMap fun x=>[.int .i64 x.1.level,.int .i64 x.1.next,.slice x.2.1 x.1.ai.length x.2.2]
theorem aum (L:List zC) (x:zC):qm (L++[x])=qm L++[.int .i64 x.1.level,.int .i64 x.1.next,.slice x.2.1 x.1.ai.length x.2.2]:=by unfold qm;rw[Gp];rfl
theorem afX:∀(L:List zC) (i:Nat) (h:i<L.length),(qm L)[i*3]? =some (.int .i64 L[i].1.level)/\(qm L)[i*3+1]? =some (.int .i64 L[i].1.next)/\(qm L)[i*3+2]? =some (.slice L[i].2.1 L[i].1.ai.length L[i].2.2)
 | [],i,h=>jQ
 | x::L,0,_=>⟨rfl,rfl,rfl⟩
 | x::L,i+1,h=>by
   have b:=afX L i nA;have e:qm (x::L)=.int .i64 x.1.level::.int .i64 x.1.next::.slice x.2.1 x.1.ai.length x.2.2::qm L:=rfl;rw[e,show(i+1)*3=i*3+1+1+1 by omega];simpa using b
def zD (w:World) (L:List zC):Prop:=∀x∈L,w.ownsRow 0 142 2 (.slice x.2.1 x.1.ai.length x.2.2) x.1.ai.length (aV x.1.ai)
theorem zD.ext {w w':World} {L:List zC} (h:zD w L) (e:Ext w w'):zD w' L:=fun x b=>aO (h x b) e
theorem aun:(Tryz.prog.info? 106).map (fun i=>(i.zero,i.size,i.bytes))=some (some (.agg #[.int .i64 0,.int .i64 0,.slice none 0 0]),3,40):=aj
structure jq (w:World) (h:Hd) (d:DS) (wr:World):Prop where
 ext:Ext w wr
 hd:fG wr w.heap.size h
 ds:bI wr (w.heap.size+1) d
 z:ah wr (w.heap.size+1+1) (.cells #[.int .i64 0,.int .i64 0,.int .i64 0,.int .i64 0,.int .i64 0,.int .i64 0,.int .i64 0] 30)
theorem jq.more {w:World} {h:Hd} {d:DS} {b f:World} (k:jq w h d b) (e:Ext b f):jq w h d f:=⟨k.ext.trans e,k.hd.ext e,k.ds.ext e,e.blk _ _ k.z⟩
theorem jq.BB {w:World} {h:Hd} {d:DS} {e f:World} {t:TypeId} (k:jq w h d e) (r:oO w.heap.size t e f) (b:30≠t) (g:23≠t):jq w h d f:=⟨Ext.trans' k.ext r.1,r.2 _ _ _ b k.hd,r.2 _ _ _ g k.ds,r.2 _ _ _ b k.z⟩
theorem zE {w:World} {B n c:Nat} {q:Option Addr} {L:List Wr} (h:w.ownsRow B 133 2 (.slice q n c) n (ck L)):iC w q L/\L.length=n:=by
 have b:=h.1;rw[rP] at b;by_cases d:n=0
 ·exact⟨.inl (gY af),af⟩
 ·obtain⟨g,_,rfl,_⟩:=jM h af;exact⟨ad0 (Ng h).1,af⟩
theorem afY {h:Hd} {q:Option Addr} {c N B:Nat} {L:List Wr} {w:World} (i:w.ownsRow B 133 2 (.slice q N c) N (ck L)) (b:(L.map (·.1)).Nodup) (g:N<=1000000):
 Calls Tryz.prog 143 #[.agg (aK h),.slice q N c] w fun e w'=>Ext w w'/\e=.returned (.tuple #[.agg (aK h),.slice q N c,.int .i64 0]):=by
 obtain⟨d,f⟩:=zE i;subst f;exact atO h q c L w d b g
def Og (h:Hd) (B N:Nat) (L:List Wr):Fact:=fun x w=>∃q c,x=.tuple #[.agg (aK h),.slice q N c,.int .i64 0]/\w.ownsRow B 133 2 (.slice q N c) N (ck L)
theorem Og.ay (h:Hd) (B N:Nat) (L:List Wr):(Og h B N L).ay:=fun _ _ _ e ⟨q,c,b,d⟩=>⟨q,c,b,aO d e⟩
theorem afZ {L:List Wr} (h:(L.map (·.1)).Nodup):((dB L).map (·.1)).Nodup:=((Bx L).map _).nodup_iff.2 h
theorem xK (L:List Wr):(dB L).length=L.length:=(Bx L).length_eq
theorem auo (p:Option Addr) (cap n:Nat) (m:List (List UInt8)) (h h1:Hd) (d:DS) (H:Nat) (qp:Option Addr) (cp:Nat) (b:List UInt8) (base:Int) (W0:List Wr) (w:World) (hs:bk w p m) (hn:m.length=n) (hm:Small m) (hz:jg h d=0) (hH:h.height=H) (Eh:H<=5)
 (kJ:ig m h d b H=0) (hidx:∀j,j<H->oK (bJ m h d b (j+1)) (bR m h d b j).ai=some (bK (bR m h d b j).ai b)) (hp:Ints w qp (eW m h d b H))
 (hb0:b≠[]) (aAm:b.length<=32) (hbase:1<=base/\base<=16777208) (L:jx d (m7 m h d b H) h [] b base=(h1,W0,0)) (hfin:h.fin<=100000) (hnd:(W0.map (·.1)).Nodup):
 Calls Tryz.prog 98 #[.slice p n cap,.agg (aK h),.agg (az d),.slice qp (H+1) cp,.string ⟨b.toArray⟩,.int .i64 base] w fun e w'=>Ext w w'/\∃q c,e=.returned (.tuple #[.agg (aK h1),.slice q W0.length c,.int .i64 0])/\w'.ownsRow w.heap.size 133 2 (.slice q W0.length c) W0.length (ck (dB W0)):=by
 have HD:=ag (fun W=>Mt h d W);rw[hz] at HD;obtain⟨hk,hr1,nY,Ug,hh6,hf0,yR⟩:=xg hz;have KR:=ag (fun(j:Nat) (_:j<H) W (e:Ext w W)=>Tx p cap n m d (bJ m h d b j) (H-(j:Int)) W (hs.ext e) hn hm);have Bq:Hid (∀j,j<H->(bF m d (bJ m h d b j) (H-(j:Int))).2=0/\(bF m d (bJ m h d b j) (H-(j:Int))).1=bR m h d b j):=ag (fun j hj=>by
  have hall:∀k,k<=H->ig m h d b k=0:=fun k hk=>MX fun hne=>by
   have:=DL hne H hk;rw[kJ] at this;exact hne this.symm
  have h1:=hall (j+1) af;rw[G7 (hall j af)] at h1;unfold kZ at h1;unfold bR;rw[hH] at h1⊢;exact⟨h1,rfl⟩)
 have af0:=ag hidx;have Hp:=ag hp;have Hgo:=ag L;have Hnd:=ag hnd;have HH:=ag hH;obtain⟨gp,jf,rfl,ke,qj⟩:=hp.at 0 vU;have Oh:=ag qj;have sr:=(qj 0 vU);rw[zO _ _ _ _ _ (bL _)] at sr;have af2:w.cell? ⟨gp,jf,none⟩=some (.int .i64 h.root):=sr;have h0:jq w h d (((w.alloc (.cells (aK h) 30)).alloc (.cells (az d) 23)).alloc (.cells #[.int .i64 0,.int .i64 0,.int .i64 0,.int .i64 0,.int .i64 0,.int .i64 0,.int .i64 0] 30)):=by
  exact XP
 clear hs hn hm kJ hidx hp L hnd qj sr hz hH;go_enter Tryz.func98,Tryz.ntmps98;go_upto_region 1 with(fail);refine aR (jq w h d) h0 ?_;clear h0;intro w0 h0;go_upto_region 4 with(first
  | (refine bz (o:=⟨some 29,_,_,_,_,_⟩) rfl 30 (.tmp 7) rfl _ rfl _ _ _ h0.hd fH rfl dg ?_)
  | (refine bu (o:=⟨some 30,_,_,_,_,_⟩) rfl (.tmp 8) rfl _ rfl d h0.ds ?_)
  | (go_at_call 64;refine(HD.out _).mono ?_;rintro e w1 ⟨rfl,bU⟩;have h1':=h0.more bU))
 have H1:=ag h1';have c3:=ah.val H1.out.hd 3 _ rfl;have c4:=ah.val H1.out.hd 4 _ rfl;rw[show((aK h):Array Value)[4]=.int .i64 h.height from rfl,HH.out] at c4;have lh:=ah.lt H1.out.hd;have cp0:=(H1.out.ext.cell gp _ ke).trans af2;have lp:=fM ke H1.out.ext.size;have b1:decide (base<1)=false:=aM af;have b2:decide (16777208<base)=false:=aM af;have hwH:IntKind.i64.wrap ((H:Int)+1)=(H:Int)+1:=IntWalk.i64_in _ af;clear h0 h1' bU HD af2;go_quiet(fail);have H2:=ag (H1.out.more (Ext.drewN _ nq));generalize w1.drewN nq=w2 at *;clear H1 c3 c4 lh cp0 lp b1 b2 hwH;have b3:(b==[])=false:=by cases b with
  | nil=>exact absurd rfl hb0
  | cons=>rfl
 have b4:decide ((32:Int)<(b.length:Int))=false:=aM af;go_upto_region 8 with(fail);go_loopw[16,17] (fun nv iv wr=>∃(i:Nat) (X:List zC),i<=H/\iv=.int .i64 i/\Hid (X.map (·.1)=(List.range i).map (bR m h d b))/\jq w h d wr/\wr.ownsRow (w.heap.size+1) 106 3 nv X.length (qm X)/\zD wr X) (fun _ iv _=>H-(intOf iv).toNat)
 case atStart=>
  have hl:=ah.lt H2.out.ds;exact⟨0,[],bL _,rfl,ag rfl,H2.out.more (Ext.alloc _ _),⟨rfl,.inr ⟨_,0,#[],rfl,af,ah.new _ _,aH _,av,av,by simp[qm]⟩⟩,fun x hx=>by cases hx⟩
 case round=>
  obtain⟨i,X,hi,rfl,hX,hS,hN,hR⟩:=hrel;obtain⟨qN,cN,rfl⟩:=cE hN;have Oi:X.length=i:=by have:=gP List.length hX.out;simpa using this
  have Vg:=ag Oi;have M:=ag hS;have HN:=ag hN;have HR:=ag hR;have c4:=ah.val hS.hd 4 _ rfl;rw[show((aK h):Array Value)[4]=.int .i64 h.height from rfl,HH.out] at c4;have lh:=ah.lt hS.hd;clear Oi hS hN hR;by_cases hlt:i<H
  -- DEV
  ·have gB:(i:Int)<(H:Int):=af;have yU:=(M.out.ext.cell gp _ ke).trans (Oh.out i vU);rw[zO _ _ _ _ _ (by omega:i<=H)] at yU;have aut:Hid (∀W,Ext w W->W.cell? ⟨gp,jf+(i+1),none⟩=some (.int .i64 (bJ m h d b (i+1)))/\gp<W.heap.size):=ag (fun W e=>by
    have h1:=(e.cell gp _ ke).trans (Oh.out (i+1) vU);rw[zO _ _ _ _ _ (by omega:i+1<=H)] at h1;exact⟨h1,fM ke e.size⟩)
   have lp:=fM ke M.out.ext.size;have hi9:(i:Int)<(H:Int)+1:=af;have aAq:i<H+1:=af;have hwl:IntKind.i64.wrap ((H:Int)-(i:Int))=(H:Int)-(i:Int):=IntWalk.i64_in _ af;have hwi:IntKind.i64.wrap ((i:Int)+1)=(i:Int)+1:=IntWalk.i64_in _ af;have Cf:Hid (∀W,Ext wr W->Calls Tryz.prog 101 #[.slice p n cap,.agg (az d),.int .i64 (bJ m h d b i),.int .i64 (H-(i:Int))] W fun Z J=>Ext W J/\∃q9 c9,Z=.returned (.tuple #[.agg #[.int .i64 (bR m h d b i).level,.int .i64 (bR m h d b i).next,.slice q9 (bR m h d b i).ai.length c9],.int .i64 0])/\J.ownsRow 0 142 2 (.slice q9 (bR m h d b i).ai.length c9) (bR m h d b i).ai.length (aV (bR m h d b i).ai)):=ag (fun W e=>(KR.out i hlt W (M.out.ext.trans e)).mono (by
    rintro Z J ⟨h1,q9,c9,h2,h3⟩;obtain⟨g1,U⟩:=Bq.out i hlt;rw[g1,U] at h2;rw[U] at h3;exact⟨h1,q9,c9,h2,fJ h3 (bL _)⟩))
   have hlen:(bR m h d b i).ai.length<=1000:=by
    obtain⟨g1,U⟩:=Bq.out i hlt;have:=(qW g1).1.l2;rw[U] at this;omega
   have HIx:=ag (af0.out i hlt);have hfl:bK (bR m h d b i).ai b<1000:=by
    obtain⟨g1,U⟩:=Bq.out i hlt;have h3:=(qW g1).1.l1;rw[U] at h3;have:=Tl (key:=b) h3;omega
   have hX':=ag (show ∀x:zC,x.1=bR m h d b i->(X++[x]).map (·.1)=(List.range (i+1)).map (bR m h d b) from fun x hx=>by rw[jW,hX.out,L0,jW];simp[hx]);generalize bK (bR m h d b i).ai b=ix at *;generalize bJ m h d b (i+1)=pg2 at *;generalize bJ m h d b i=pg at *;generalize bR m h d b i=D at *;go_upto_region 10 with(fail);refine kH 200 [(15,[(14,18)])] (Ext.refl wr) aj aj aj aj aj aj (rL _ _ 15 14 18 (j4 wr.heap.size 106) (th wr.heap.size 0 D) (fun _ _ h=>h.below) (th.ay _ _ _) aj) ?_;refine gV ?_;repeat (first
    | (refine dY (o:=⟨some 18,_,_,_,_,_⟩) (fS wr.heap.size (.cells #[.int .i64 0,.int .i64 0,.slice none 0 0] 106)) (fS.ay _ _) vY aj aP ?_ ?_
       ·exact uU
       refine aE ?_)
    | (refine dF (o:=⟨some 68,_,_,_,_,_⟩) (v:=.agg (az d)) aj aP ?_ ?_
       ·intro a w' he hr K hK;simp[Reads,Oper.looksAt,Op.operands,aJ,Is] at hr;exact eG 23 (.tmp 8) rfl ((w.heap.size+1)) dX _ _ _ _ (he.blk _ _ M.out.ds) gr rfl gD (hK _ (Ext.refl _))
       refine aE ?_)
    | (refine dY (o:=⟨some 77,_,_,_,_,_⟩) (iD 0 D 0) (iD.ay _ _ _) (.inr (iD.bP _ _ _ _ _)) aj aP ?_ ?_
       ·intro a w' he hr K hK;simp[Reads,Oper.looksAt,Op.operands,Call.operands,aJ,Is] at hr;go_simp;refine(Cf.out _ he).mono ?_;exact J2
       refine aE ?_)
    | (refine pG (o:=⟨some 66,_,_,_,_,_⟩) _ (iD 0 D 0) aj aP lz rfl (iD.ay _ _ _) (.inr (iD.bP _ _ _ _ _)) ?_
       refine nO ?_)
    | (refine dY (o:=⟨some 78,_,_,_,_,_⟩) (ow 0 D) (ow.ay _ _) (.inr (ow.bP _ _ _ _)) aj aP ?_ ?_
       ·intro a w' he hr K hK;obtain⟨q9,c9,h1,h9⟩:=hr 66 bO;exact uR
       refine aE ?_)
    | (refine dF (o:=⟨some 79,_,_,_,_,_⟩) (v:=.int .i64 0) aj aP ?_ ?_
       ·intro a w' he hr K hK;obtain⟨q9,c9,h1,h9⟩:=hr 66 bO;exact mO
       refine aE ?_)
    | (refine iU (o:=⟨none,_,_,_,_,_⟩) Any Any.ay (.inr Any.bP) aj aP ?_ ?_
       ·intro a w' he hr K hK;obtain⟨b,h1,h2,h3⟩:=hr 18 bO;obtain⟨q9,c9,hv,h9⟩:=hr 78 bO;refine nC 106 (.tmp 18) (.tmp 78) rfl b _ h1 hv _ _ h2 bq rfl cT ?_;exact Kr
       refine aE ?_)
    | (refine qD ?_)
    | (refine pH ?_))
   intro w2 g;simp only[iJ,iQ,jS,kW,bG,bN];repeat (first | with_reducible refine cH _ _ _ _ ?_ | (with_reducible refine cI _ _ _ _ ?_;intro _ _) | with_reducible refine cJ _ _ ?_)
   simp only[cF,cK,bQ,bE];rename_i x18 h18 x66 EN x77 U7 U2 Eb;obtain⟨nb,rfl,Y,E,hn2,gT,hnb⟩:=h18;clear EN U7 Eb hnb c4 lh yU lp Cf;obtain⟨wk,rfl⟩:∃wk:World,wk=w2:=⟨_,rfl⟩;have uF:=ag (M.out.more g);have Ji:=ag (aO HN.out g);have BU:=ag (HR.out.ext g);have xe:=ag hn2;have Bz:=ag gT;obtain⟨auy,lp3⟩:=aut.out _ uF.out.ext;have HE:=ag (fun W (e:Ext wk W)=>acY Y E D pg2 W (mq (aO gT e)) af);rw[HIx.out] at HE;unfold dO at HE;have k0:decide ((ix:Int)<0)=false:=aM af;have hi1:(i:Int)+1<(H:Int)+1:=af;have A9:(0:Int)<=(i:Int)+1:=af;have hi2:i+1<H+1:=af;clear hn2 gT g M HN HR;go_upto_region 13 with(fail);refine eR 200 (Ext.refl wk) aj aj aj ?_;simp only[cY,eF,gj,dV,dP,gC,dh,dQ];repeat (first
    | (refine bT (o:=⟨some 84,_,_,_,_,_⟩) (v:=.agg #[.int .i64 D.level,.int .i64 D.next,.slice Y D.ai.length E]) rfl ?_ ?_
       ·intro a w' he hr K hK;simp[Reads,Oper.looksAt,Op.operands,aJ,Is] at hr;exact eG 106 (.tmp 18) rfl (nb) dX _ _ _ _ (he.blk _ _ xe.out) cZ rfl bq (hK _ (Ext.refl _))
       refine aE ?_)
    | (refine bT (o:=⟨some 90,_,_,_,_,_⟩) (v:=.int .i64 (ix:Nat)) rfl ?_ ?_
       ·exact Y6
       refine aE ?_)
    | (refine kN ?_)
    | (refine fR ?_)
    | (refine iq ?_)
    | (refine fk ?_))
   intro w2 g;repeat (first | with_reducible refine cH _ _ _ _ ?_ | (with_reducible refine cI _ _ _ _ ?_;intro _ _) | with_reducible refine cJ _ _ ?_)
   simp only[cF,cK,bQ,bE];have G:=ag (uF.out.more g);have vw:=ag (aO Ji.out g);have tQ:=ag (BU.out.ext g);have Jj:=ag (g.blk _ _ xe.out);have uA:=ag (aO Bz.out g);have l4:=ah.lt G.out.ds;clear uF Ji BU xe Bz HE g auy lp3;have aAs:X.length<=10:=by rw[Vg.out];omega
   go_wp2_with(first
    | (refine bz (o:=⟨some 94,_,_,_,_,_⟩) rfl 106 (.tmp 18) rfl _ rfl _ _ _ Jj.out cZ rfl bq ?_)
    | (at_builtin;refine sV (o:=⟨some 96,_,_,_,_,_⟩) rfl (.tmp 93) (.tmp 95) 207 106 rfl (w.heap.size+1) (.agg #[.int .i64 0,.int .i64 0,.slice none 0 0]) 3 40 Tryz.underlying207 aun rfl aq _ X.length (qm X) rfl (aO vw.out (Ext.alloc _ _)) (some ⟨w2.heap.size,0,none⟩) 1 1 [.int .i64 D.level,.int .i64 D.next,.slice Y D.ai.length E] rfl rfl rfl (n8 (ys:=[.int .i64 D.level,.int .i64 D.next,.slice Y D.ai.length E]) (ah.new _ _)) (by intro u hu;simp at hu;rcases hu with rfl | rfl | rfl<;>rfl) af aq aY ?_;intro v5 w5 iX qV;have r5:=pZ (T:=106) (B:=w.heap.size) qV (fJ (aO vw.out (Ext.alloc _ _)) af) aY;obtain⟨q5,k5,rfl⟩:=cE iX;have HS5:=ag ((G.out.more (Ext.alloc _ _)).BB r5 aq aq);have HR5:=ag (show zD w5 X from fun x hx=>rC (aO (tQ.out x hx) (Ext.alloc _ _)) aq r5);have Tw:=ag (rC (aO uA.out (Ext.alloc _ _)) aq r5);have HO5:=ag iX;clear iX qV r5))
   go_roundw
   case rel=>
    refine⟨i+1,X++[(D,Y,E)],af,bX,ag (hX'.out (D,Y,E) rfl),HS5.out,?_,fun x hx=>?_⟩
    ·rw[aum];have:=HO5.out;simpa using this
    ·rcases iG.1 hx with hx | hx
     ·exact HR5.out x hx
     ·simp at hx;subst hx;exact Tw.out
   case measure=>exact ct
  -- auD sorry
  ·have gB:decide ((i:Int)<(H:Int))=false:=aM af;have Jk:i=H:=af;have HX:Hid (X.length=H/\X.map (·.1)=(List.range H).map (bR m h d b)):=ag (by rw[<-Jk];exact⟨Vg.out,hX.out⟩);clear hX Vg hi Jk;have hwb:IntKind.i64.wrap ((X.length:Int)-1)=(X.length:Int)-1:=IntWalk.i64_in _ (by have:=HX.out.1;omega);have hl0:=ah.lt M.out.ds;have Ja:wr.heap.size≥w.heap.size+1:=af;go_upto_region 21 with(fail);go_loopw[4,20,21,22] (fun bv ov pv iv wr=>∃(j:Nat) (C:Hd) (O:List Wr) (bs:List UInt8) (pg:Int),j<=H/\iv=.int .i64 ((j:Int)-1)/\bv=.string ⟨bs.toArray⟩/\pv=.int .i64 pg/\Hid (jx d (m7 m h d b j) C O bs pg=(h1,W0,0))/\Hid (C.height=h.height/\C.root=h.root/\h.fin<=C.fin/\C.fin+j<=h.fin+H/\O.length+2*j<=2*H)/\jq w C d wr/\(∃gO cO,ov=.slice (some ⟨gO,0,none⟩) O.length cO/\wr.ownsRow (w.heap.size+1) 133 2 (.slice (some ⟨gO,0,none⟩) O.length cO) O.length (ck (dB O)))/\wr.ownsRow (w.heap.size+1) 106 3 (.slice qN X.length cN) X.length (qm X)/\zD wr X) (fun _ _ _ iv _=>(intOf iv+1).toNat)
   case atStart=>
    exact⟨H,h,[],b,base,aH _,by rw[HX.out.1],rfl,rfl,Hgo,ag ⟨rfl,rfl,Ct _,af,av⟩,M.out.more (Ext.alloc _ _),⟨_,_,rfl,⟨rfl,.inr ⟨_,0,#[],rfl,Ja,ah.new _ _,aH _,av,av,by simp[ck,dB]⟩⟩⟩,aO HN.out (Ext.alloc _ _),HR.out.ext (Ext.alloc _ _)⟩
   case round=>
    clear M HN HR c4 lh hwb hl0 Ja;obtain⟨j,C,O,bs,pg,hj,rfl,rfl,rfl,L,sG,hS,⟨gO,cO,rfl,hO⟩,hN,hR⟩:=hrel;have M:=ag hS;have HO:=ag hO;have HN:=ag hN;have HR:=ag hR;clear hS hO hN hR;cases j with
    | zero=>
      obtain⟨k6,e1,e2⟩:=arL L.out;have oo:=sG.out;have e6:((H:Int)==6)=false:=wJ.2 af;have c4:=ah.val M.out.hd 4 _ rfl;have E:=ah.val M.out.hd 2 _ rfl;rw[show((aK C):Array Value)[4]=.int .i64 C.height from rfl,oo.1,HH.out] at c4;have f4:=ah.free M.out.hd 4;have f2:=ah.free M.out.hd 2;have lh:=ah.lt M.out.hd;have hwf:IntKind.i64.wrap (C.fin+1)=C.fin+1:=IntWalk.i64_in _ af;have hwh:IntKind.i64.wrap ((H:Int)+1)=(H:Int)+1:=IntWalk.i64_in _ af;have HW:Hid (∃R,R=(wr.setCell ⟨w.heap.size,2,none⟩ (.int .i64 (C.fin+1))).setCell ⟨w.heap.size,4,none⟩ (.int .i64 ((H:Int)+1))/\jq w {C with fin:=C.fin+1,height:=(H:Int)+1} d R/\R.ownsRow (w.heap.size+1) 133 2 (.slice (some ⟨gO,0,none⟩) O.length cO) O.length (ck (dB O))):=by
       have auE:aI w.heap.size wr (wr.setCell ⟨w.heap.size,2,none⟩ (.int .i64 (C.fin+1))):=aI.setCell;have auF:aI w.heap.size (wr.setCell ⟨w.heap.size,2,none⟩ (.int .i64 (C.fin+1))) ((wr.setCell ⟨w.heap.size,2,none⟩ (.int .i64 (C.fin+1))).setCell ⟨w.heap.size,4,none⟩ (.int .i64 ((H:Int)+1))):=aI.setCell;have r:=auE.trans auF;have hb:=M.out.hd;exact ag ⟨_,rfl,⟨r.ext M.out.ext (aH _),ah.setCell (ah.setCell hb),r.blk M.out.ds af,r.blk M.out.z af⟩,fo HO.out aq hb r⟩
      have AX:=ag e1;have Jl:=ag e2;have e0:((0:Nat):Int)-1=-1:=rfl;rw[e0];clear k6 e1 e2 e0 M HO HN HR L oo;go_upto_region 36 with(fail);obtain⟨R,BV,F,V⟩:=HW.out;rw[<-BV];clear BV HW c4 E f4 f2 lh;have Vh:=ag F;have HO8:=ag V;have E:=ah.val F.hd 2 _ rfl;have c3:=ah.val F.hd 3 _ rfl;have c4:=ah.val F.hd 4 _ rfl;have f3:=ah.free F.hd 3;have lh:=ah.lt F.hd;have A8:W0.length=O.length+1:=by rw[Jl.out];simp
      have MN:kL C bs pg=⟨(H:Int)+1,0,[(bs,C.root),([],pg)]⟩:=by unfold kL;rw[sG.out.1,HH.out]
      have Ei:dB W0=pz (C.fin+1,dH d.interval ⟨(H:Int)+1,0,[(bs,C.root),([],pg)]⟩) (dB O):=by rw[Jl.out,IM,MN]
      have aAu:=F.ext.size;have Oj:Hid (∀W qn,Ext R W->iV W qn [(bs,C.root),([],pg)]->Calls Tryz.prog 144 #[.agg (az d),.slice (some ⟨gO,0,none⟩) O.length cO,.int .i64 (C.fin+1),.agg #[.int .i64 ((H:Int)+1),.int .i64 0,.slice qn 2 2]] W fun Z J=>Ext W J/\∃v9,Z=.returned v9/\J.ownsRow w.heap.size 133 2 v9 (O.length+1) (ck (dB W0))):=ag (fun W qn e hn=>by
       obtain⟨g1,U⟩:=zE (aO V e);have Vi:=(gh V).2.1;have h:=N9 d gO 0 cO (dB O) (C.fin+1) ⟨(H:Int)+1,0,[(bs,C.root),([],pg)]⟩ qn 2 W g1 af Cm hn av;rw[U] at h;refine h.mono ?_;rintro Z J ⟨h1,v9,h2,h3⟩;rw[Ei];exact PI)
      have af6:=ag (Oj.out (R.alloc (.cells #[.string ⟨bs.toArray⟩,.int .i64 C.root,.string ByteArray.empty,.int .i64 pg] 142)) (some ⟨R.heap.size,0,none⟩) (Ext.alloc _ _) (n8 (ys:=aV [(bs,C.root),([],pg)]) (ah.new _ _)));clear F V MN Ei;go_upto_region 37 with(first
       | (refine bu (o:=⟨some 197,_,_,_,_,_⟩) rfl (.tmp 8) rfl _ rfl d Vh.out.ds ?_)
       | (refine dW (o:=⟨some 206,_,_,_,_,_⟩) rfl 142 #[(0,.tmp 203),(1,.tmp 205)] rfl [(0,.string ⟨bs.toArray⟩),(1,.int .i64 C.root)] rfl _ (za _ _) ?_)
       | (refine dW (o:=⟨some 208,_,_,_,_,_⟩) rfl 142 #[(1,.tmp 207)] rfl [(1,.int .i64 pg)] rfl _ (ap2 _) ?_)
       | (refine dW (o:=⟨some 210,_,_,_,_,_⟩) rfl 106 #[(0,.tmp 202),(2,.tmp 209)] rfl [(0,.int .i64 ((H:Int)+1)),(2,.slice (some ⟨R.heap.size,0,none⟩) 2 2)] rfl _ (ap1 _ _ _ _) ?_)
       | (go_at_call 144;refine af6.out.mono ?_;rintro e w9 ⟨Ie,v9,rfl,fI⟩;obtain⟨q9,c9,rfl⟩:=cE fI))
      have S:=ag (And.intro (Vh.out.more ((Ext.alloc _ _).trans Ie)) fI);have E:=ah.val S.out.1.hd 2 _ rfl;have c3:=ah.val S.out.1.hd 3 _ rfl;have f3:=ah.free S.out.1.hd 3;have lh:=ah.lt S.out.1.hd;have r:aI w.heap.size w9 (w9.setCell ⟨w.heap.size,3,none⟩ (.int .i64 (C.fin+1))):=aI.setCell;have zF:Hid (∃wr',wr'=w9.setCell ⟨w.heap.size,3,none⟩ (.int .i64 (C.fin+1))/\jq w {C with fin:=C.fin+1,height:=(H:Int)+1,root:=C.fin+1} d wr'/\wr'.ownsRow w.heap.size 133 2 (.slice q9 (O.length+1) c9) (O.length+1) (ck (dB W0))):=by
       have hb:=S.out.1.hd;exact ag ⟨_,rfl,⟨r.ext S.out.1.ext (aH _),ah.setCell hb,r.blk S.out.1.ds af,r.blk S.out.1.z af⟩,fo S.out.2 aq hb r⟩
      clear r fI Ie S Oj af6 Vh HO8;go_upto_region 38 with(fail);obtain⟨wq,hwq,xl,hoq⟩:=zF.out;rw[<-hwq];clear hwq zF E c3 f3 lh;generalize hhq:({C with fin:=C.fin+1,height:=(H:Int)+1,root:=C.fin+1}:Hd)=Ej at xl;have Hhq:=ag hhq;clear hhq;have zG:=ag (afY (h:=Ej) hoq (afZ Hnd.out) Cm);go_wp2_with(first
       | (refine bz (o:=⟨some 215,_,_,_,_,_⟩) rfl 30 (.tmp 7) rfl _ rfl _ _ _ xl.hd fH rfl dg ?_)
       | (go_at_call 143;refine zG.out.mono ?_;rintro e wp ⟨Vj,rfl⟩;have hzp:=Vj.blk _ _ xl.z)
       | (refine aU rfl 30 (.tmp 12) (.tmp 218) rfl _ (aK Ej) rfl rfl _ _ hzp dg rfl (wU _) ?_;intro wy UM KN))
      have hhd:h1=Ej:=by rw[AX.out,sG.out.1,HH.out];exact Hhq.out
      exact bY (pP Tryz.results98 _ _ _ _ _ _ rfl UM fH rfl dg) rfl ⟨KN.ext (xl.ext.trans Vj) af,q9,c9,by rw[hhd,A8];rfl,by rw[A8];exact fo (aO hoq Vj) aq hzp KN⟩
    | succ i=>
    -- DEV
     have e0:((i+1:Nat):Int)-1=(i:Int):=af;rw[e0];have Jk:i<H:=af;have Oi:=HX.out.1;have hiX:i<X.length:=af;have nQ:(X[i]).1=bR m h d b i:=by
      have h2:=gP (fun l=>l[i]?) HX.out.2;simp[hiX,Jk] at h2;exact h2
     have hmem:X[i]∈X:=mN _;have hrow:=HR.out _ hmem;have lQ:=afX X i hiX;generalize X[i]=x at *;obtain⟨D,Y,E⟩:=x;simp only at nQ hrow lQ;rw[show m7 m h d b (i+1)=MQ m h d b i::m7 m h d b i from rfl] at L;have hst:=arK L.out;unfold MQ at hst;rw[<-nQ] at hst;simp only at hst;obtain⟨hok,D9⟩:=hst;obtain⟨k1,_,k3,_,_,_,_,_,vS⟩:=aet hok;rw[vS] at D9;have hcap2:=(gh hrow).2.1;have aAv:=(ia.1 k1).l2;have yU:Hid (∀W,Ext w W->W.cell? ⟨gp,jf+(i+1),none⟩=some (.int .i64 (bJ m h d b (i+1)))/\W.cell? ⟨gp,jf+i,none⟩=some (.int .i64 (bJ m h d b i))/\gp<W.heap.size):=ag (fun W e=>by
      have g1:=(e.cell gp _ ke).trans (Oh.out (i+1) vU);have U:=(e.cell gp _ ke).trans (Oh.out i vU);rw[zO _ _ _ _ _ (by omega:i+1<=H)] at g1;rw[zO _ _ _ _ _ (by omega:i<=H)] at U;exact⟨g1,U,fM ke e.size⟩)
     have Vk:=af0.out i Jk;rw[<-nQ] at Vk;obtain⟨f,Ok⟩:∃N:Nd,N={D with ai:=eD D.ai (bK D.ai b) bs pg}:=⟨_,rfl⟩;rw[<-Ok] at D9;have HE:=ag (fun W (e:Ext wr W)=>acY Y E D (bJ m h d b (i+1)) W (mq (aO hrow e)) af);rw[Vk] at HE;have Ed:Hid (∀W,Ext wr W->Calls Tryz.prog 138 #[.agg #[.int .i64 D.level,.int .i64 D.next,.slice Y D.ai.length E],.int .i64 (bK D.ai b:Nat),.string ⟨bs.toArray⟩,.int .i64 pg] W fun Z J=>Ext W J/\∃q9 c9,Z=.returned (.tuple #[.agg #[.int .i64 f.level,.int .i64 f.next,.slice q9 f.ai.length c9],.int .i64 0])/\J.ownsRow 0 142 2 (.slice q9 f.ai.length c9) f.ai.length (aV f.ai)):=ag (fun W e=>(aeu Y E D (bK D.ai b) bs pg W (mq (aO hrow e)) hcap2 hok).mono (by
      rintro Z J ⟨g1,q9,c9,U,g3⟩;subst Ok;exact⟨g1,q9,c9,U,fJ g3 (bL _)⟩))
     have aAw:f.ai.length<=1000:=by
      rw[Ok];have:=AB k3 bs pg;simp only;omega
     have Vl:=ag D9;unfold dO at HE;obtain⟨gN,cu,rfl,aAx,hgN,hgn,BO,BP,hgt⟩:=jM HN.out af;have hpart:∀j (hj:j<(#[.int .i64 D.level,.int .i64 D.next,.slice Y D.ai.length E]:Array Value).size),cu[i*3+j]? =some (#[.int .i64 D.level,.int .i64 D.next,.slice Y D.ai.length E]:Array Value)[j]:=fun j hj=>by
      have TF:j<3:=hj;obtain⟨g1,U,g3⟩:=lQ;have e:∀t,t<X.length*3->cu[t]? =(qm X)[t]? :=fun t ht=>by
       rw[<-hgt,D4 ht,Nb]
      match j with
      | 0=>rw[Nat.add_zero,e _ af,g1];rfl
      | 1=>rw[e _ af,U];rfl
      | 2=>rw[e _ af,g3];rfl
     have Vm:=ag hpart;have Vn:=ag hgN;have lN:=ah.lt hgN;have hxX:(i:Int)<(X.length:Int):=af;have k0:((bK D.ai b:Nat):Int)=(bK D.ai b:Int):=rfl;obtain⟨sj,tD,lp⟩:=yU.out _ M.out.ext;have hwi:IntKind.i64.wrap ((i:Int)+1)=(i:Int)+1:=IntWalk.i64_in _ af;have hi1:(i:Int)+1<(H:Int)+1:=af;have A9:(0:Int)<=(i:Int)+1:=af;have hi2:i+1<H+1:=af;have aAz:(0:Int)<=(i:Int):=af;clear L hok vS D9 k1 k3 Vk nQ hmem hrow lQ Ok hpart hgN hgt BP BO hgn hcap2 k0 Oi;generalize bK D.ai b=ix at *;generalize bJ m h d b (i+1)=pg2 at *;generalize bJ m h d b i=Ek at *;go_upto_region 23 with(fail);refine kH 200 [(21,[(20,23)])] (Ext.refl wr) aj aj aj aj aj aj (rL _ _ 21 20 23 (j4 wr.heap.size 106) (th wr.heap.size 0 f) (fun _ _ h=>h.below) (th.ay _ _ _) aj) ?_;simp only[cY,eF,gj,dV,dP,gC,dh,dQ];repeat (first
      | (refine dY (o:=⟨some 23,_,_,_,_,_⟩) (fS wr.heap.size (.cells #[.int .i64 0,.int .i64 0,.slice none 0 0] 106)) (fS.ay _ _) vY aj aP ?_ ?_
         ·exact uU
         refine aE ?_)
      | (refine dF (o:=⟨some 118,_,_,_,_,_⟩) (v:=.agg #[.int .i64 D.level,.int .i64 D.next,.slice Y D.ai.length E]) aj aP ?_ ?_
         ·intro a' w' he hr K hK;simp[Reads,Oper.looksAt,Op.operands,Call.operands,aJ,Is] at hr;exact I6 106 (.tmp 117) rfl (gN) (i*3) dX _ _ #[.int .i64 D.level,.int .i64 D.next,.slice Y D.ai.length E] _ (he.blk _ _ Vn.out) Vm.out cZ rfl bq (hK _ (Ext.refl _))
         refine aE ?_)
      | (refine dF (o:=⟨some 122,_,_,_,_,_⟩) (v:=.agg #[.int .i64 D.level,.int .i64 D.next,.slice Y D.ai.length E]) aj aP ?_ ?_
         ·intro a' w' he hr K hK;simp[Reads,Oper.looksAt,Op.operands,Call.operands,aJ,Is] at hr;exact I6 106 (.tmp 121) rfl (gN) (i*3) dX _ _ #[.int .i64 D.level,.int .i64 D.next,.slice Y D.ai.length E] _ (he.blk _ _ Vn.out) Vm.out cZ rfl bq (hK _ (Ext.refl _))
         refine aE ?_)
      | (refine dF (o:=⟨some 128,_,_,_,_,_⟩) (v:=.int .i64 (ix:Nat)) aj aP ?_ ?_
         ·exact Y6
         refine aE ?_)
      | (refine dY (o:=⟨some 131,_,_,_,_,_⟩) (iD 0 f 0) (iD.ay _ _ _) (.inr (iD.bP _ _ _ _ _)) aj aP ?_ ?_
         ·intro a w' he hr K hK;simp[Reads,Oper.looksAt,Op.operands,Call.operands,aJ,Is] at hr;go_simp;refine(Ed.out _ he).mono ?_;exact J2
         refine aE ?_)
      | (refine pG (o:=⟨some 114,_,_,_,_,_⟩) _ (iD 0 f 0) aj aP lz rfl (iD.ay _ _ _) (.inr (iD.bP _ _ _ _ _)) ?_
         refine nO ?_)
      | (refine dY (o:=⟨some 132,_,_,_,_,_⟩) (ow 0 f) (ow.ay _ _) (.inr (ow.bP _ _ _ _)) aj aP ?_ ?_
         ·intro a w' he hr K hK;obtain⟨q9,c9,h1,h9⟩:=hr 114 bO;exact uR
         refine aE ?_)
      | (refine dF (o:=⟨some 133,_,_,_,_,_⟩) (v:=.int .i64 0) aj aP ?_ ?_
         ·intro a w' he hr K hK;obtain⟨q9,c9,h1,h9⟩:=hr 114 bO;exact mO
         refine aE ?_)
      | (refine iU (o:=⟨none,_,_,_,_,_⟩) Any Any.ay (.inr Any.bP) aj aP ?_ ?_
         ·intro a w' he hr K hK;obtain⟨b,h1,h2,h3⟩:=hr 23 bO;obtain⟨q9,c9,hv,h9⟩:=hr 132 bO;refine nC 106 (.tmp 23) (.tmp 132) rfl b _ h1 hv _ _ h2 bq rfl cT ?_;exact Kr
         refine aE ?_)
      | (refine qD ?_)
      | (refine pH ?_))
     intro w2 g;simp only[iJ,iQ,jS,kW,bG,bN];repeat (first | with_reducible refine cH _ _ _ _ ?_ | (with_reducible refine cI _ _ _ _ ?_;intro _ _) | with_reducible refine cJ _ _ ?_)
     simp only[cF,cK,bQ,bE];rename_i x23 h23 aAA auK aAB auL aAC auM;obtain⟨nb,rfl,q9,c9,rZ,fI,hnb⟩:=h23;clear auK auL auM hnb sj tD lp lN HE Ed;obtain⟨wk,rfl⟩:∃wk:World,wk=w2:=⟨_,rfl⟩;have uF:=ag (M.out.more g);have M3:=ag (aO HO.out g);have Ji:=ag (aO HN.out g);have BU:=ag (HR.out.ext g);have Vo:=ag rZ;have vI:=ag fI;have HZ:=ag (fun W (e:Ext wk W)=>abV q9 c9 f W (mq (aO fI e)) af);unfold dO at HZ;have d7:=ah.val uF.out.ds 7 _ rfl;rw[show((az d):Array Value)[7]=.int .i64 d.interval from rfl] at d7;have ld:=ah.lt uF.out.ds;clear rZ fI g M HO HN HR Vn Vm;go_upto_region 26 with(fail);refine eR 200 (Ext.refl wk) aj aj aj ?_;simp only[cY,eF,gj,dV,dP,gC,dh,dQ];repeat (first
      | (refine bT (o:=⟨some 137,_,_,_,_,_⟩) (v:=.agg #[.int .i64 f.level,.int .i64 f.next,.slice q9 f.ai.length c9]) rfl ?_ ?_
         ·intro a w' he hr K hK;simp[Reads,Oper.looksAt,Op.operands,aJ,Is] at hr;exact eG 106 (.tmp 23) rfl (nb) dX _ _ _ _ (he.blk _ _ Vo.out) cZ rfl bq (hK _ (Ext.refl _))
         refine aE ?_)
      | (refine bT (o:=⟨some 138,_,_,_,_,_⟩) (v:=.int .i64 (ja f:Nat)) rfl ?_ ?_
         ·intro a w' he hr K hK;simp[Reads,Oper.looksAt,Op.operands,Call.operands,aJ,Is] at hr;go_simp;refine(HZ.out _ he).mono ?_;exact kg
         refine aE ?_)
      | (refine kN ?_)
      | (refine fR ?_)
      | (refine iq ?_)
      | (refine fk ?_))
     intro w2 g;repeat (first | with_reducible refine cH _ _ _ _ ?_ | (with_reducible refine cI _ _ _ _ ?_;intro _ _) | with_reducible refine cJ _ _ ?_)
     simp only[cF,cK,bQ,bE];obtain⟨wl,rfl⟩:∃wl:World,wl=w2:=⟨_,rfl⟩;have G:=ag (uF.out.more g);have Ec:=ag (aO M3.out g);have vw:=ag (aO Ji.out g);have tQ:=ag (BU.out.ext g);have Jj:=ag (g.blk _ _ Vo.out);have uA:=ag (aO vI.out g);obtain⟨sj,tD,lp⟩:=yU.out _ G.out.ext;have vN:(i:Int)<(H:Int)+1:=af;have aAD:i<H+1:=af;clear uF M3 Ji BU Vo vI HZ d7 ld g;rcases Vl.out with⟨I,e1,e2⟩ | ⟨I,hsp,L⟩
     ·have hle:(ja f:Int)<=d.interval:=by
       unfold kS at I;simp only[eu,gu] at I;exact I.2
      have AX:=ag e1;have Jl:=ag e2;clear I e1 e2 Vl;have A8:W0.length=O.length+1:=by rw[Jl.out];simp
      have Ei:dB W0=pz (Ek,dH d.interval f) (dB O):=by rw[Jl.out,IM]
      have Oj:Hid (∀W,Ext wl W->Calls Tryz.prog 144 #[.agg (az d),.slice (some ⟨gO,0,none⟩) O.length cO,.int .i64 Ek,.agg #[.int .i64 f.level,.int .i64 f.next,.slice q9 f.ai.length c9]] W fun Z J=>Ext W J/\∃v9,Z=.returned v9/\J.ownsRow w.heap.size 133 2 v9 (O.length+1) (ck (dB W0))):=ag (fun W e=>by
       obtain⟨g1,U⟩:=zE (aO Ec.out e);have Vi:=(gh Ec.out).2.1;have h:=N9 d gO 0 cO (dB O) Ek f q9 c9 W g1 af Cm (mq (aO uA.out e)) af;rw[U] at h;refine h.mono ?_;rintro Z J ⟨h1,v9,h2,h3⟩;rw[<-Ei] at h3;exact⟨h1,v9,h2,fJ h3 (G.out.ext.trans e).size⟩)
      have zG:=ag (fun(W:World) (q':Option Addr) (c':Nat) (ho:W.ownsRow w.heap.size 133 2 (.slice q' (O.length+1) c') (O.length+1) (ck (dB W0)))=>afY (h:=C) ho (afZ Hnd.out) Cm);have hlp:(i:Int)<(H:Int)+1:=af;go_upto_region 27 with(fail);refine eR 13 (Ext.refl wl) aj aj aj ?_;refine gV ?_;repeat (first
       | (refine bT (o:=⟨some 142,_,_,_,_,_⟩) (v:=.agg (aK C)) rfl ?_ ?_
          ·intro a w' he hr K hK;simp[Reads,Oper.looksAt,Op.operands,aJ,Is] at hr;exact eG 30 (.tmp 7) rfl (w.heap.size) dX _ _ _ _ (he.blk _ _ G.out.hd) fH rfl dg (hK _ (Ext.refl _))
          refine aE ?_)
       | (refine bT (o:=⟨some 143,_,_,_,_,_⟩) (v:=.agg (az d)) rfl ?_ ?_
          ·intro a w' he hr K hK;simp[Reads,Oper.looksAt,Op.operands,aJ,Is] at hr;exact eG 23 (.tmp 8) rfl ((w.heap.size+1)) dX _ _ _ _ (he.blk _ _ G.out.ds) gr rfl gD (hK _ (Ext.refl _))
          refine aE ?_)
       | (refine bT (o:=⟨some 149,_,_,_,_,_⟩) (v:=.agg #[.int .i64 f.level,.int .i64 f.next,.slice q9 f.ai.length c9]) rfl ?_ ?_
          ·intro a w' he hr K hK;simp[Reads,Oper.looksAt,Op.operands,aJ,Is] at hr;exact eG 106 (.tmp 23) rfl (nb) dX _ _ _ _ (he.blk _ _ Jj.out) cZ rfl bq (hK _ (Ext.refl _))
          refine aE ?_)
       | (refine jh (o:=⟨some 150,_,_,_,_,_⟩) (dJ 133 w.heap.size 2 (O.length+1) (ck (dB W0))) (dJ.ay _ _ _ _ _) rfl ?_ ?_
          ·intro a w' he hr K hK;simp[Reads,Oper.looksAt,Op.operands,Call.operands,aJ,Is] at hr;go_simp;refine(Oj.out _ he).mono ?_;exact O3
          refine aE ?_)
       | (refine jh (o:=⟨some 151,_,_,_,_,_⟩) (Og C w.heap.size (O.length+1) (dB W0)) (Og.ay _ _ _ _) rfl ?_ ?_
          ·intro a w' he hr K hK;obtain⟨q',c',Vp,ho⟩:=hr 150 gM;have auN:=hr 142 gM;simp[aJ,Is] at auN;simp at Vp;go_simp;refine(zG.out _ q' c' ho).mono ?_;rintro e w'' ⟨he',rfl⟩;exact hK _ _ he' ⟨q',c',rfl,aO ho he'⟩
          refine aE ?_)
       | (refine bT (o:=⟨some 152,_,_,_,_,_⟩) (v:=.agg (aK C)) rfl ?_ ?_
          ·intro a w' he hr K hK;obtain⟨q9,c9,h1,h9⟩:=hr 151 bO;exact mO
          refine aE ?_)
       | (refine jh (o:=⟨some 153,_,_,_,_,_⟩) (dJ 133 w.heap.size 2 (O.length+1) (ck (dB W0))) (dJ.ay _ _ _ _ _) rfl ?_ ?_
          ·intro a w' he hr K hK;obtain⟨q9,c9,h1,h9⟩:=hr 151 bO;exact uR
          refine aE ?_)
       | (refine bT (o:=⟨some 154,_,_,_,_,_⟩) (v:=.int .i64 0) rfl ?_ ?_
          ·intro a w' he hr K hK;obtain⟨q9,c9,h1,h9⟩:=hr 151 bO;exact mO
          refine aE ?_)
       | (refine kN ?_)
       | (refine fR ?_)
       | (refine iq ?_)
       | (refine fk ?_))
      intro w2 g;repeat (first | with_reducible refine cH _ _ _ _ ?_ | (with_reducible refine cI _ _ _ _ ?_;intro _ _) | with_reducible refine cJ _ _ ?_)
      simp only[cF,cK,bQ,bE];rename_i aAF Vp aAG auO aAH auP;obtain⟨q7,c7,rfl,xd⟩:=auP;clear Vp auO;have xJ:=g.blk _ _ G.out.z;go_wp2_with(refine aU rfl 30 (.tmp 12) (.tmp 152) rfl _ (aK C) rfl rfl _ _ xJ dg rfl (wU C) ?_;intro R mU mc);exact bY (pP Tryz.results98 _ _ _ _ _ _ rfl mU fH rfl dg) rfl ⟨mc.ext (G.out.ext.trans g) af,q7,c7,by rw[AX.out,A8];rfl,by rw[A8];exact fo xd aq xJ mc⟩
     ·obtain⟨s1,s2,s3⟩:=arM hsp;have hgt:decide ((ja f:Int)<=d.interval)=false:=by
       refine aM fun hle=>?_;have hsz:cQ d.interval=true:=(qM (iM hk).1).2.2.1;unfold kS at I;rw[hsz,s1,bM hle] at I;cases I
      rw[hgt];rw[s3] at L;have hK1:1<=(f.ai.length+1)/2:=by have:=(ia.1 s1).l1;omega
      have vF:(f.ai.length+1)/2<f.ai.length:=by have:=(ia.1 s1).l1;omega
      have xI:Hid (∀W,Ext wl W->Calls Tryz.prog 140 #[.agg #[.int .i64 f.level,.int .i64 f.next,.slice q9 f.ai.length c9]] W fun Z J=>Ext W J/\∃q1 c1 Y E,Z=.returned (.tuple #[.agg #[.int .i64 f.level,.int .i64 0,.slice q1 ((f.ai.length+1)/2) c1],.agg #[.int .i64 f.level,.int .i64 f.next,.slice Y (f.ai.length-(f.ai.length+1)/2) E],.string ⟨((au f.ai ((f.ai.length+1)/2-1)).1).toArray⟩,.int .i64 0])/\
       J.ownsRow 0 142 2 (.slice q1 ((f.ai.length+1)/2) c1) ((f.ai.length+1)/2) (aV (cC (f.ai.take ((f.ai.length+1)/2))))/\J.ownsRow 0 142 2 (.slice Y (f.ai.length-(f.ai.length+1)/2) E) (f.ai.length-(f.ai.length+1)/2) (aV (f.ai.drop ((f.ai.length+1)/2)))):=ag (fun W e=>by
       have h:=aeV q9 c9 f W (mq (aO uA.out e)) s1 (gh uA.out).2.1;refine h.mono ?_;rintro Z J ⟨h1,h9⟩;rw[aA s2] at h9;obtain⟨q1,c1,Y,E,h2,h3,B2,_,_,h4⟩:=h9;exact⟨h1,q1,c1,Y,E,h2,fJ h3 (bL _),fJ h4 (bL _)⟩)
      have auQ:=ag L;have uy:(cC (f.ai.take ((f.ai.length+1)/2))).length=(f.ai.length+1)/2:=PN;have I4:(f.ai.drop ((f.ai.length+1)/2)).length=f.ai.length-(f.ai.length+1)/2:=eU;clear I hsp L s2 s3 Vl hK1 vF;generalize cC (f.ai.take ((f.ai.length+1)/2))=EA at *;generalize f.ai.drop ((f.ai.length+1)/2)=EC at *;generalize(au f.ai ((f.ai.length+1)/2-1)).1=bp at *;rw[<-I4,<-uy] at xI;have hEl:EA.length<=1000/\EC.length<=1000:=af;clear uy I4;have s4:=G.out.ext.size;have D1:=ah.val G.out.hd 2 _ rfl;go_upto_region 29 with(first
       | (refine bz (o:=⟨some 156,_,_,_,_,_⟩) rfl 106 (.tmp 23) rfl _ rfl _ _ _ Jj.out cZ rfl bq ?_)
       | (go_at_call 140;refine(xI.out _ (Ext.refl _)).mono ?_;rintro e w5 ⟨jD,qa,ca,qc,cc,rfl,oh,Oa⟩)
       | (refine aU rfl 106 (.tmp 25) (.tmp 158) rfl _ #[.int .i64 f.level,.int .i64 0,.slice qa EA.length ca] rfl rfl _ _ (ah.alloc (ah.new w5 _) _) bq rfl cT ?_;intro w6 hn6 iw)
       | (refine aU rfl 106 (.tmp 26) (.tmp 159) rfl _ #[.int .i64 f.level,.int .i64 f.next,.slice qc EC.length cc] rfl rfl _ _ (iw.blk (ah.new1 _ _ _ av) af) bq rfl cT ?_;intro w7 D8 xm))
      have s9:Ext w5 w7:=xm.ext (iw.ext ((Ext.alloc _ _).trans (Ext.alloc _ _)) (aH _)) af;have zH:=ag (G.out.more (jD.trans s9));have HO7:=ag (aO Ec.out (jD.trans s9));have HN7:=ag (aO vw.out (jD.trans s9));have HR7:=ag (tQ.out.ext (jD.trans s9));have agf:=aO oh s9;have agh:=aO Oa s9;have agi:=xm.blk hn6 af;have HA7:=ag agf;have HC7:=ag agh;have s5:=jD.size;have auR:gN≠w5.heap.size:=by
       obtain⟨g',cur',hq,_,hb',_⟩:=jM vw.out af;simp only[mz,Addr.mk.injEq,kD] at hq;subst hq;have:=ah.lt hb';omega
      have hnl:w.heap.size+1+1<w5.heap.size:=by have:=ah.lt G.out.z;omega
      have I3:=ag agi;have Hnr:=ag D8;clear hn6 D8 agi iw xm s9 jD oh Oa agf agh G Ec vw tQ Jj uA xI D1 sj tD lp;generalize w5.heap.size=nl at *;have E:=ah.val zH.out.hd 2 _ rfl;have f2:=ah.free zH.out.hd 2;have l2:=ah.lt zH.out.hd;have hf5:=sG.out;have hwf:IntKind.i64.wrap (C.fin+1)=C.fin+1:=IntWalk.i64_in _ af;have r:aI w.heap.size w7 (w7.setCell ⟨w.heap.size,2,none⟩ (.int .i64 (C.fin+1))):=aI.setCell;have HW8:Hid (∃R,R=w7.setCell ⟨w.heap.size,2,none⟩ (.int .i64 (C.fin+1))/\jq w {C with fin:=C.fin+1} d R/\R.ownsRow (w.heap.size+1) 133 2 (.slice (some ⟨gO,0,none⟩) O.length cO) O.length (ck (dB O))/\R.ownsRow (w.heap.size+1) 106 3 (.slice (some ⟨gN,0,none⟩) X.length cN) X.length (qm X)/\zD R X/\
       ah R nl (.cells #[.int .i64 f.level,.int .i64 0,.slice qa EA.length ca] 106)/\ah R (nl+1) (.cells #[.int .i64 f.level,.int .i64 f.next,.slice qc EC.length cc] 106)/\R.ownsRow 0 142 2 (.slice qa EA.length ca) EA.length (aV EA)/\R.ownsRow 0 142 2 (.slice qc EC.length cc) EC.length (aV EC)):=by
       have hb:=zH.out.hd;exact ag ⟨_,rfl,⟨r.ext zH.out.ext (aH _),ah.setCell hb,r.blk zH.out.ds af,r.blk zH.out.z af⟩,fo HO7.out aq hb r,fo HN7.out aq hb r,fun x hx=>fo (HR7.out x hx) aq hb r,r.blk I3.out af,r.blk Hnr.out af,fo HA7.out aq hb r,fo HC7.out aq hb r⟩
      clear r zH HO7 HN7 HR7 HA7 HC7 I3 Hnr;go_upto_region 30 with(fail);obtain⟨R,BV,F,V,hN8,hR8,vH,A2,hA8,hC8⟩:=HW8.out;rw[<-BV];clear BV HW8 E f2 l2;have E:=ah.val F.hd 2 _ rfl;have l2:=ah.lt F.hd;have n1':=ah.val vH 1 _ rfl;have f1':=ah.free vH 1;have ln:=ah.lt vH;have r:aI nl R (R.setCell ⟨nl,1,none⟩ (.int .i64 (C.fin+1))):=aI.setCell;have HW9:Hid (∃w9,w9=R.setCell ⟨nl,1,none⟩ (.int .i64 (C.fin+1))/\jq w {C with fin:=C.fin+1} d w9/\w9.ownsRow (w.heap.size+1) 133 2 (.slice (some ⟨gO,0,none⟩) O.length cO) O.length (ck (dB O))/\(gN≠nl->w9.ownsRow (w.heap.size+1) 106 3 (.slice (some ⟨gN,0,none⟩) X.length cN) X.length (qm X))/\zD w9 X/\
       ah w9 nl (.cells #[.int .i64 f.level,.int .i64 (C.fin+1),.slice qa EA.length ca] 106)/\ah w9 (nl+1) (.cells #[.int .i64 f.level,.int .i64 f.next,.slice qc EC.length cc] 106)/\w9.ownsRow 0 142 2 (.slice qa EA.length ca) EA.length (aV EA)/\w9.ownsRow 0 142 2 (.slice qc EC.length cc) EC.length (aV EC)):=by
       exact ag ⟨_,rfl,⟨r.ext F.ext af,r.blk F.hd af,r.blk F.ds af,r.blk F.z af⟩,fo V aq vH r,fun hne=>NP hN8 r hne,fun x hx=>fo (hR8 x hx) aq vH r,ah.setCell vH,r.blk A2 af,fo hA8 aq vH r,fo hC8 aq vH r⟩
      clear r F V hN8 hR8 vH A2 hA8 hC8;go_upto_region 31 with(fail);obtain⟨w9,El,vK,fI,Ee,hR9,NN,hr9,hA9,hC9⟩:=HW9.out;rw[<-El];clear El HW9 E l2 n1' f1' ln;have auT:=vK.ext.size;have auU:=ah.lt vK.ds;obtain⟨x1,hx1⟩:∃x:Wr,x=(Ek,dH d.interval ⟨f.level,C.fin+1,EA⟩):=⟨_,rfl⟩;obtain⟨x2,hx2⟩:∃x:Wr,x=(C.fin+1,dH d.interval ⟨f.level,f.next,EC⟩):=⟨_,rfl⟩;have Ol:Hid (∀W,Ext w9 W->Calls Tryz.prog 144 #[.agg (az d),.slice (some ⟨gO,0,none⟩) O.length cO,.int .i64 Ek,.agg #[.int .i64 f.level,.int .i64 (C.fin+1),.slice qa EA.length ca]] W fun Z J=>Ext W J/\∃v9,Z=.returned v9/\J.ownsRow (w.heap.size+1) 133 2 v9 (O.length+1) (ck (dB (O++[x1])))):=ag (fun W e=>by
       obtain⟨g1,U⟩:=zE (aO fI e);have Vi:=(gh fI).2.1;have h:=N9 d gO 0 cO (dB O) Ek ⟨f.level,C.fin+1,EA⟩ qa ca W g1 af Cm (mq (aO hA9 e)) fj;rw[U] at h;refine h.mono ?_;rintro Z J ⟨h1,v9,h2,h3⟩;rw[IM,hx1];exact PI)
      have qK:Hid (∀W q' c',Ext w9 W->W.ownsRow (w.heap.size+1) 133 2 (.slice q' (O.length+1) c') (O.length+1) (ck (dB (O++[x1])))->Calls Tryz.prog 144 #[.agg (az d),.slice q' (O.length+1) c',.int .i64 (C.fin+1),.agg #[.int .i64 f.level,.int .i64 f.next,.slice qc EC.length cc]] W fun Z J=>Ext W J/\∃v9,Z=.returned v9/\J.ownsRow (w.heap.size+1) 133 2 v9 (O.length+2) (ck (dB (O++[x1,x2])))):=ag (fun W q' c' e ho=>by
       obtain⟨gq,_,hq,_⟩:=jM ho af;subst hq;obtain⟨g1,U⟩:=zE ho;have Vi:=(gh ho).2.1;have h:=N9 d gq 0 c' (dB (O++[x1])) (C.fin+1) ⟨f.level,f.next,EC⟩ qc cc W g1 af Cm (mq (aO hC9 e)) fj;rw[U] at h;refine h.mono ?_;rintro Z J ⟨h1,v9,h2,h3⟩;rw[show O++[x1,x2]=(O++[x1])++[x2] by simp,IM (O++[x1]),hx2];exact PI)
      have auV:=ag (And.intro hx1 hx2);have P0:=ag vK;have Jc:=ag (Ee auR);have HR9:=ag hR9;have Hl9:=ag NN;have rj:=ag hr9;obtain⟨sj,tD,lp⟩:=yU.out _ vK.ext;have E:=ah.val vK.hd 2 _ rfl;have l2:=ah.lt vK.hd;clear hx1 hx2 vK fI Ee hR9 NN hr9 hA9 hC9 auT auU;refine eR 200 (Ext.refl w9) aj aj aj ?_;refine gV ?_;repeat (first
       | (refine bT (o:=⟨some 169,_,_,_,_,_⟩) (v:=.agg (az d)) rfl ?_ ?_
          ·exact X8
          refine aE ?_)
       | (refine bT (o:=⟨some 170,_,_,_,_,_⟩) (v:=.agg (az d)) rfl ?_ ?_
          ·exact X8
          refine aE ?_)
       | (refine bT (o:=⟨some 176,_,_,_,_,_⟩) (v:=.agg #[.int .i64 f.level,.int .i64 (C.fin+1),.slice qa EA.length ca]) rfl ?_ ?_
          ·intro a w' he hr K hK;simp[Reads,Oper.looksAt,Op.operands,aJ,Is] at hr;exact eG 106 (.tmp 25) rfl (nl) dX _ _ _ _ (he.blk _ _ Hl9.out) cZ rfl bq (hK _ (Ext.refl _))
          refine aE ?_)
       | (refine bT (o:=⟨some 180,_,_,_,_,_⟩) (v:=.agg #[.int .i64 f.level,.int .i64 f.next,.slice qc EC.length cc]) rfl ?_ ?_
          ·intro a w' he hr K hK;simp[Reads,Oper.looksAt,Op.operands,aJ,Is] at hr;exact eG 106 (.tmp 26) rfl ((nl+1)) dX _ _ _ _ (he.blk _ _ rj.out) cZ rfl bq (hK _ (Ext.refl _))
          refine aE ?_)
       | (refine jh (o:=⟨some 177,_,_,_,_,_⟩) (dJ 133 (w.heap.size+1) 2 (O.length+1) (ck (dB (O++[x1])))) (dJ.ay _ _ _ _ _) rfl ?_ ?_
          ·intro a w' he hr K hK;simp[Reads,Oper.looksAt,Op.operands,Call.operands,aJ,Is] at hr;go_simp;refine(Ol.out _ he).mono ?_;exact O3
          refine aE ?_)
       | (refine jh (o:=⟨some 181,_,_,_,_,_⟩) (dJ 133 (w.heap.size+1) 2 (O.length+2) (ck (dB (O++[x1,x2])))) (dJ.ay _ _ _ _ _) rfl ?_ ?_
          ·intro a w' he hr K hK;obtain⟨q',c',Vq,ho⟩:=hr 177 gM;have auW:=hr 169 gM;have auX:=hr 179 gM;have auY:=hr 180 gM;simp[aJ,Is] at auW auX auY;simp at Vq;go_simp;refine(qK.out _ q' c' he ho).mono ?_;exact O3
          refine aE ?_)
       | (refine ym ?_)
       | (refine fR ?_)
       | (refine iq ?_)
       | (refine fk ?_))
      intro w2 g;repeat (first | with_reducible refine cH _ _ _ _ ?_ | (with_reducible refine cI _ _ _ _ ?_;intro _ _) | with_reducible refine cJ _ _ ?_)
      simp only[cF,cK,bQ,bE];rename_i x20 h20 aAJ Vq aAK au0;obtain⟨q8,k8,rfl,V⟩:=h20;clear Vq au0 sj tD lp E l2 Ol qK;obtain⟨wz,rfl⟩:∃wz:World,wz=w2:=⟨_,rfl⟩;have Om:=ag (P0.out.more g);have HNz:=ag (aO Jc.out g);have HRz:=ag (HR9.out.ext g);have HOz:=ag V;have E:=ah.val Om.out.hd 2 _ rfl;have l2:=ah.lt Om.out.hd;clear V g P0 Jc HR9 Hl9 rj;go_upto_region 32 with(fail);refine eR 200 (Ext.refl wz) aj aj aj ?_;simp only[cY,eF,gj,dV,dP,gC,dh,dQ];repeat (first
       | (refine kN ?_)
       | (refine fR ?_)
       | (refine iq ?_)
       | (refine fk ?_))
      intro w2 g;repeat (first | with_reducible refine cH _ _ _ _ ?_ | (with_reducible refine cI _ _ _ _ ?_;intro _ _) | with_reducible refine cJ _ _ ?_)
      simp only[cF,cK,bQ,bE];have HSy:=ag (Om.out.more g);have HNy:=ag (aO HNz.out g);have HRy:=ag (HRz.out.ext g);have HOy:=ag (aO HOz.out g);obtain⟨g8,_,hq8,_⟩:=jM HOy.out af;subst hq8;have hwj:IntKind.i64.wrap ((i:Int)-1)=(i:Int)-1:=IntWalk.i64_in _ af;clear Om HNz HRz HOz g E l2;go_wp2_with fail;go_roundw
      case rel=>
       obtain⟨e1,e2⟩:=auV.out;have oo:=sG.out;refine⟨i,{C with fin:=C.fin+1},O++[x1,x2],bp,C.fin+1,af,rfl,rfl,rfl,ag (by rw[e1,e2];exact auQ.out),ag ⟨oo.1,oo.2.1,fj,fj,aY⟩,HSy.out,⟨g8,k8,by rw[show(O++[x1,x2]).length=O.length+2 by simp],?_⟩,HNy.out,HRy.out⟩;have hl:(O++[x1,x2]).length=O.length+2:=av;rw[hl];exact HOy.out
      case measure=>simp[intOf]
    -- auD sorry
end Go.Proofs.YteninnkbmoimgaaGreatDoor

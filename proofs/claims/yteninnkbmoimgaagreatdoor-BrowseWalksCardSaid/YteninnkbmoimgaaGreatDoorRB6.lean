/- A part of the proof. -/
import Derived.Test.YteninnkbmoimgaaGreatDoorKE
import Derived.Test.YteninnkbmoimgaaGreatDoorRA
import Derived.Test.YteninnkbmoimgaaGreatDoorCN
set_option linter.unusedSimpArgs false
set_option linter.unusedVariables false
set_option maxRecDepth 100000
set_option maxHeartbeats 16000000
namespace Go.Proofs.YteninnkbmoimgaaGreatDoor
open Go.RowKit aD
def uH (h:Hd) (W:List Wr) (w:World) (e:Ending) (w':World):Prop:=Ext w w'/\∃q c,e=.returned (.tuple #[.agg (aK h),.slice q W.length c,.int .i64 0])/\iC w' q W
def BZ (x:Int) (w:World) (e:Ending) (w':World):Prop:=Ext w w'/\e=.returned (.tuple #[.agg #[.int .i64 0,.int .i64 0,.int .i64 0,.int .i64 0,.int .i64 0,.int .i64 0,.int .i64 0],.slice none 0 0,.int .i64 x])
theorem agW:Tryz.prog.built 30 []=some #[.int .i64 0,.int .i64 0,.int .i64 0,.int .i64 0,.int .i64 0,.int .i64 0,.int .i64 0]:=aj
theorem Vz (w:World) (h:Hd) (d:DS):jq w h d (((w.alloc (.cells (aK h) 30)).alloc (.cells (az d) 23)).alloc (.cells #[.int .i64 0,.int .i64 0,.int .i64 0,.int .i64 0,.int .i64 0,.int .i64 0,.int .i64 0] 30)):=by
 exact XP
theorem jq.set {w:World} {h h':Hd} {d:DS} {b:World} (k:jq w h d b) (i:Nat) (v:Value) (e:((aK h):Array Value).setIfInBounds i v=(aK h')):jq w h' d (b.setCell ⟨w.heap.size,i,none⟩ v):=
 ⟨aI.setCell.ext k.ext (aH _),by have:=ah.setCell (i:=i) (v:=v) k.hd;rw[e] at this;exact this,aI.setCell.blk k.ds af,aI.setCell.blk k.z af⟩
theorem iC.oI {w w':World} {g:Nat} {o:Array Value} {t:TypeId} {q:Option Addr} {L:List Wr} (h:iC w q L) (r:ah w g (.cells o t)) (f:t≠133) (c:aI g w w'):iC w' q L:=by
 rcases h with h | ⟨b,j,rfl,⟨u,y,n⟩,l⟩
 ·exact .inl h
 ·have d:b≠g:=DM n r (fun e=>f e.symm);exact .inr ⟨b,j,rfl,⟨by rw[c.size];exact u,y,c.blk n d⟩,fun i m=>⟨(World.cell?_of_block (a:=⟨b,_,none⟩) (c.block b d)).trans (l i m).1,(World.cell?_of_block (a:=⟨b,_,none⟩) (c.block b d)).trans (l i m).2⟩⟩
theorem agY {M:List (List UInt8)} {d:DS} {h:Hd} {S:List aQ} {i:List Int} {n:Nat} (K:dL M d h S i n) (k:List UInt8)
 (p:Option Addr) (b m:Nat) (w:World) (B:bk w p M) (z:M.length=m):
 Calls Tryz.prog 90 #[.slice p m b,.agg (aK h),.agg (az d),.string ⟨k.toArray⟩] w fun e w'=>Ext w w'/\∃q c,e=.returned (.tuple #[.slice q (h.height.toNat+1) c,.int .i64 0])/\Ints w' q (eW M h d k h.height.toNat)/\∀g o,q=some ⟨g,o,none⟩->w.heap.size<=g:=by
 have hz:=K.door.2.2.2.2.2.2;obtain⟨u,_⟩:=K.k.at k;refine(ark p b m M h d k w B z K.small).mono ?_;rintro e w' ⟨l,q,c,rfl,f⟩;have j:oN M h d k=0:=by unfold oN;rw[aA uP,u]
 have r:sE M h d k=eW M h d k h.height.toNat:=by unfold sE;rw[aC j]
 rw[r] at f⊢;rw[j];rw[tO] at f⊢;refine⟨l,q,c,rfl,Nf f,fun g o y=>?_⟩;obtain⟨C,_,e,t,_⟩:=jM f af;rw[y] at e;cases e
 exact t
theorem Jn {w w':World} {b o g:Nat} {L:List Int} (h:Ints w (some ⟨b,o,none⟩) L) (d:b≠g) (c:aI g w w'):Ints w' (some ⟨b,o,none⟩) L:=by
 rcases h with h | ⟨m,n,e,l,f⟩
 ·exact .inl h
 ·cases e
  exact .inr ⟨b,o,rfl,by rw[c.size];exact l,fun i j=>(World.cell?_of_block (a:=⟨b,_,none⟩) (c.block b d)).trans (f i j)⟩
theorem ahQ {M:List (List UInt8)} {d:DS} {h:Hd} {pre:List aQ} {s:aQ} {post:List aQ} {dn:List Int} {n:Nat} (K:dL M d h (pre++s::post) dn n) (k:List UInt8) (kC:bJ M h d k h.height.toNat=s.2.base)
 (p:Option Addr) (G m:Nat) (w:World) (hs:bk w p M) (hn:M.length=m):
 Calls Tryz.prog 60 #[.slice p m G,.agg (aK h),.agg (az d),.string ⟨k.toArray⟩] w fun e w'=>
  (qf d s.2 k).2=true/\uH {h with count:=h.count-1} (fZ d s.2 (qf d s.2 k).1) w e w'∨(qf d s.2 k).2=false/\BZ 6 w e w':=by
 have N:s∈pre++s::post:=av;have I:jm d s.2:=K.k.inv s N;have g:=ag (fun W (e:bk W p M)=>US p G m M d s.2.base W e hn K.small);rw[(K.k.holds s N).read I.spec] at g;unfold mw at g;have F:=ag (fun W (e:bk W p M)=>agY K k p G m W e hn);have zJ:=ag (fun W=>Ob h d W K.door);have E:=ag (fun q c p m W (e:cX W s.2 q c p m)=>as6 d s.2 q c p m k W I e);have hD:=Ue (k:=k) I;obtain⟨a1,a2,a3⟩:=lV I.spec;obtain⟨b1,b2,b3⟩:=lV hD.inv.spec;have u:=ag (fun q c p m q' c' p' m' W (e:cX W s.2 q c p m) (e':cX W (qf d s.2 k).1 q' c' p' m')=>TY d s.2 (qf d s.2 k).1 q c p m q' c' p' m' W e.x e'.x a1 a2 a3 b1 b2 b3);have T:rS d s.2 (qf d s.2 k).1=0:=(IE I.spec hD.inv.spec).2;have Hs:=ag hs;have hcw:IntKind.i64.wrap (h.count-1)=h.count-1:=IntWalk.i64_in _ (by have:=K.door.1;have:=K.door.2.1;omega);obtain⟨H,hH⟩:∃H:Nat,h.height.toNat=H:=⟨_,rfl⟩;rw[hH] at kC F;have t:(eW M h d k H).getD H 0=s.2.base:=EJ;have O:=tO M h d k H;generalize eW M h d k H=P at *;have Eh:H<=5:=Cv;clear hs hn kC hD I N a1 a2 a3 b1 b2 b3;generalize hdel:qf d s.2 k=D at *;obtain⟨b,ok⟩:=D;simp only at u T;have J:=Vz w h d;clear hdel;clear K hH;obtain⟨a,ha⟩:∃a,a=s.2:=⟨_,rfl⟩;rw[<-ha] at g E u T t⊢;clear ha
 have Hg:Hid (∀C:Hd,C={h with count:=h.count-1}->((aK h):Array Value).setIfInBounds 1 (.int .i64 (h.count-1))=(aK C)):=ag (fun C e=>by subst e;rfl);generalize hhg:({h with count:=h.count-1}:Hd)=C;have Hg:=ag (Hg.out C hhg.symm);clear hhg;generalize j:(fun e w'=>ok=true/\uH C (fZ d a b) w e w'∨ok=false/\BZ 6 w e w')=OUT;have Js:Hid (∀e w',ok=true->uH C (fZ d a b) w e w'->OUT e w'):=ag (fun e w' g1 g2=>by rw[<-j];exact .inl ⟨g1,g2⟩);have qZ:Hid (∀e w',ok=false->BZ 6 w e w'->OUT e w'):=ag (fun e w' g1 g2=>by rw[<-j];exact .inr ⟨g1,g2⟩);clear j;go_enter Tryz.func60,Tryz.ntmps60;go_upto_region 1 with(fail);refine aR (jq w h d) J ?_;clear J;intro w0 J;go_upto_region 4 with(first
  | (refine bz (o:=⟨some 18,_,_,_,_,_⟩) rfl 30 (.tmp 5) rfl _ rfl _ _ _ J.hd fH rfl dg ?_)
  | (refine bu (o:=⟨some 19,_,_,_,_,_⟩) rfl (.tmp 6) rfl _ rfl d J.ds ?_)
  | (go_at_call 44;refine(zJ.out _).mono ?_;rintro e w1 ⟨rfl,bU⟩;have h1:=J.more bU))
 go_upto_region 7 with(first
  | (refine bz (o:=⟨some 27,_,_,_,_,_⟩) rfl 30 (.tmp 5) rfl _ rfl _ _ _ h1.hd fH rfl dg ?_)
  | (refine bu (o:=⟨some 28,_,_,_,_,_⟩) rfl (.tmp 6) rfl _ rfl d h1.ds ?_)
  | (go_at_call 90;refine(F.out _ (Hs.out.ext h1.ext)).mono ?_;rintro e Z ⟨l,qp,cp,rfl,tD,_⟩;have h2:=h1.more l))
 have H2:=ag h2;have ND:=ag (Hs.out.ext h2.ext);obtain⟨gp,jf,rfl,ke,qj⟩:=tD.at H (by rw[O];omega);have sG:=qj H (by rw[O];omega);rw[t] at sG;clear O;generalize nM:H+1=n1;have hw1:IntKind.i64.wrap ((n1:Int)-1)=(H:Int):=pJ;have hn2:(H:Int)<n1:=af;have lY:H<n1:=af;clear J h1 h2 bU l tD qj zJ F Hs;refine kH 200 [(13,[(12,14)])] (Ext.refl Z) aj aj aj aj aj aj (rL _ _ 13 12 14 (j4 Z.heap.size 109) (vL Z.heap.size a) (fun _ _ h=>h.below) (vL.ay _ _) aj) ?_;simp only[cY,eF,gj,dV,dP,gC,dh,dQ];repeat (first
  | (refine dY (o:=⟨some 14,_,_,_,_,_⟩) (fS Z.heap.size (.cells cA 109)) (fS.ay _ _) vY aj aP ?_ ?_
     ·exact uU
     refine aE ?_)
  | (refine dF (o:=⟨some 39,_,_,_,_,_⟩) (v:=.agg (az d)) aj aP ?_ ?_
     ·intro a w' he hr K hK;simp[Reads,Oper.looksAt,Op.operands,aJ,Is] at hr;exact eG 23 (.tmp 6) rfl ((w.heap.size+1)) dX _ _ _ _ (he.blk _ _ H2.out.ds) gr rfl gD (hK _ (Ext.refl _))
     refine aE ?_)
  | (refine dY (o:=⟨some 46,_,_,_,_,_⟩) (jy a) (jy.ay _) (.inr (jy.bP _ _ _)) aj aP ?_ ?_
     ·intro a' w' he hr K hK;simp[Reads,Oper.looksAt,Op.operands,Call.operands,aJ,Is] at hr;go_simp;refine(g.out _ (ND.out.ext he)).mono ?_;exact EI
     refine aE ?_)
  | (refine pG (o:=⟨some 37,_,_,_,_,_⟩) _ (jy a) aj aP lz rfl (jy.ay _) (.inr (jy.bP _ _ _)) ?_
     refine nO ?_)
  | (refine dY (o:=⟨some 47,_,_,_,_,_⟩) (nN a) (nN.ay _) (.inr (nN.bP _ _ _)) aj aP ?_ ?_
     ·intro a w' he hr K hK;obtain⟨q9,c9,p9,m9,h1,h9⟩:=hr 37 bO;exact KM
     refine aE ?_)
  | (refine dF (o:=⟨some 48,_,_,_,_,_⟩) (v:=.int .i64 0) aj aP ?_ ?_
     ·intro a w' he hr K hK;obtain⟨q9,c9,p9,m9,h1,h9⟩:=hr 37 bO;exact mO
     refine aE ?_)
  | (refine iU (o:=⟨none,_,_,_,_,_⟩) Any Any.ay (.inr Any.bP) aj aP ?_ ?_
     ·intro a w' he hr K hK;obtain⟨b,h1,h2,h3⟩:=hr 14 bO;obtain⟨q9,c9,p9,m9,hv,h9⟩:=hr 47 bO;refine nC 109 (.tmp 14) (.tmp 47) rfl b (bn _ q9 c9 p9 m9) h1 hv _ _ h2 aZ rfl (mE ..) ?_;exact Ku
     refine aE ?_)
  | (refine qD ?_)
  | (refine pH ?_))
 intro Z l;simp only[iJ,iQ,jS,kW,bG,bN];repeat (first | with_reducible refine cH _ _ _ _ ?_ | (with_reducible refine cI _ _ _ _ ?_;intro _ _) | with_reducible refine cJ _ _ ?_)
 simp only[cF,cK,bQ,bE];rename_i x14 OD x37 Vs x46 h46 x47 EP;obtain⟨yb,rfl,q1,X,p1,m1,hyb,R,U⟩:=OD;clear Vs h46 EP;have h3:=H2.out.more l;have hlt:=ah.lt H2.out.z;have xC:=ag R;clear g ND ke sG t;go_upto_region 10 with(fail);refine aR (fun w3=>jq w h d w3/\eS w3 yb a q1 X p1 m1/\cX w3 a q1 X p1 m1/\w.heap.size+1+1<yb) ⟨h3,hyb,R,af⟩ ?_;clear hyb R U h3 H2 xC l hlt;clear Z;rintro w3 ⟨h3,Pq,S,U⟩;have HE:=ag (E.out _ _ _ _ _ S);have LD:=fun(x:Nat)=>x;clear LD;cases ok
 ·go_wp2_with(first
   | ((with_reducible refine aW 54 ?_);refine bu rfl (.tmp 6) rfl _ rfl d h3.ds ?_)
   | (refine WM ?_)
   | (go_at_call 91;refine HE.out.mono ?_;rintro e w4 ⟨f,hr⟩;rw[aA av] at hr;subst hr;have h4:=h3.more f)
   | (refine aU rfl 109 (.tmp 15) (.tmp 58) rfl _ cA rfl rfl _ _ (ah.new w4 _) aZ rfl lB ?_;intro w5 L B;have h5:=h4.more (B.ext (Ext.alloc _ _) (aH _)))
   | (refine dW (o:=⟨some 62,_,_,_,_,_⟩) rfl 30 #[] rfl [] rfl _ agW ?_)
   | (refine aU rfl 30 (.tmp 8) (.tmp 62) rfl _ #[.int .i64 0,.int .i64 0,.int .i64 0,.int .i64 0,.int .i64 0,.int .i64 0,.int .i64 0] rfl rfl _ _ h5.z dg rfl cT ?_;intro V pT iw))
  exact bY (pP Tryz.results60 _ _ _ _ _ _ rfl pT fH rfl dg) rfl (qZ.out _ _ trivial ⟨iw.ext h5.ext af,rfl⟩)
 ·go_upto_region 13 with(first
   | ((with_reducible refine aW 54 ?_);refine bu rfl (.tmp 6) rfl _ rfl d h3.ds ?_)
   | (refine WM ?_)
   | (go_at_call 91;refine HE.out.mono ?_;rintro e w4 ⟨f,hr⟩;rw[aC rfl] at hr;obtain⟨q2,c2,p2,m2,rfl,Er⟩:=hr)
   | (refine aU rfl 109 (.tmp 15) (.tmp 58) rfl _ (bn b q2 c2 p2 m2) rfl rfl _ _ (ah.new w4 _) aZ rfl (mE ..) ?_;intro w5 L B))
  have r:Ext w4 w5:=B.ext (Ext.alloc _ _) (aH _);refine aR (fun V=>jq w h d V/\eS V yb a q1 X p1 m1/\cX V a q1 X p1 m1/\eS V w4.heap.size b q2 c2 p2 m2/\cX V b q2 c2 p2 m2) ⟨(h3.more f).more r,(Pq.ext f).ext r,(S.ext f).ext r,L,Er.ext r⟩ ?_;clear HE h3 Pq S Er L B r f;clear w5;generalize w4.heap.size=yb2;rintro V ⟨h6,BL,hv6,vz,hu6⟩;have HW:=ag (u.out _ _ _ _ _ _ _ _ _ hv6 hu6);unfold zo at HW;rw[T] at HW;clear u E hv6 hu6;go_upto_region 15 with(first
   | ((with_reducible refine aW 65 ?_);refine bu rfl (.tmp 6) rfl _ rfl d h6.ds ?_)
   | ((with_reducible refine aW 66 ?_);refine bz rfl 109 (.tmp 14) rfl _ rfl _ _ _ BL cL rfl aZ ?_)
   | ((with_reducible refine aW 67 ?_);refine bz rfl 109 (.tmp 15) rfl _ rfl _ _ _ vz cL rfl aZ ?_)
   | (go_at_call 92;refine HW.out.mono ?_;rintro e w7 ⟨rM,q7,c7,rfl,Cb⟩;have Y:=h6.more rM;have X:=ah.val Y.hd 1 _ rfl;have l1:=ah.lt Y.hd;have f1:=ah.free Y.hd 1))
  have h8:=Y.set (h':=C) 1 (.int .i64 (h.count-1)) Hg.out;have BV:=Cb.oI Y.hd aq (aI.setCell (i:=1) (v:=.int .i64 (h.count-1)));clear Y Cb X l1 f1 U;generalize w7.setCell ⟨w.heap.size,1,none⟩ (.int .i64 (h.count-1))=w8 at *;go_wp2_with(first
   | (refine bz (o:=⟨some 75,_,_,_,_,_⟩) rfl 30 (.tmp 5) rfl _ rfl _ _ _ h8.hd fH rfl dg ?_)
   | (refine aU rfl 30 (.tmp 8) (.tmp 75) rfl _ (aK C) rfl rfl _ _ h8.z dg rfl cT ?_;intro w9 vJ oo))
  exact bY (pP Tryz.results60 _ _ _ _ _ _ rfl vJ fH rfl dg) rfl (Js.out _ _ trivial ⟨oo.ext h8.ext af,q7,c7,rfl,BV.oI h8.z aq oo⟩)
end Go.Proofs.YteninnkbmoimgaaGreatDoor
namespace aD
theorem awe {S:List aQ} {i:Nat} (h:i<S.length):aT (S.take (i+1))=aT (S.take i)++aX (S[i]).2:=by
 rw[jr h,qd,oU];simp[aT]
theorem VV (d:DS) (A B:aB):bW d (A++B)=bW d A++bW d B:=by unfold bW;rw[jW]
end aD
namespace Go.Proofs.YteninnkbmoimgaaGreatDoor
open Go.RowKit aD
theorem ahU (L:List (List UInt8×List UInt8)):∀u∈eV L,u.oneCell'=true:=by
 intro u b;unfold eV at b;obtain⟨x,_,d⟩:=List.mem_flatMap.1 b;simp at d;rcases d with rfl | rfl<;>rfl
theorem ahV {w:World} {o:Oper} {a:Act} {K:Act->World->Prop} {Q:Exit->Act->World->Prop} (d s:Operand) (T E:TypeId)
 (ho:o.op=.call {callee:=.builtin .append,args:=#[d,s],argTypes:=#[T,T]}) (base:Nat) (z:Value) (k bytes:Nat) (F:Tryz.prog.underlying T=some (.slice E)) (f:(Tryz.prog.info? E).map (fun i=>(i.zero,i.size,i.bytes))=some (some z,k,bytes)) (y:z.cells.size=k) (J:1<=k)
 (v:Value) (n:Nat) (xs:List Value) (hv:a.eval d=v) (hown:w.ownsRow base E k v n xs) (p:Option Addr) (m c:Nat) (e:List Value) (hs:a.eval s=.slice p m c) (D:e.length=m*k) (C:Cells w p e)
 (I:∀u∈e,u.oneCell'=true) (M:n+m<=100000000) (l:bytes<=1000) (g:base<=w.heap.size)
 (h:∀H w',w'.ownsRow base E k H (n+m) (xs++e)->w.grownBy w' v.ownBlock->K (a.put o.dst H) w'):o.wp Tryz.prog a w K Q:=by
 by_cases L:m=0
 ·subst L;obtain rfl:e=[]:=gY af;obtain⟨q,B,rfl⟩:=cE hown;obtain⟨_,t,_⟩:=gh hown;obtain⟨S,r,N,G,O⟩:=lH f;have hr:(Builtin.append_ #[T,T] o.type #[.slice q n B,.slice p 0 c]).run Tryz.prog w=.ok (.slice q n B) w:=by
   cases p<;>cases q<;>simp[Builtin.append_,pO F,Go.sizeOf,typeInfo,r,Builtin.lenOf,Builtin.firstCells,loadCells,loadCellsFrom,Go.storeCells,t]
  exact JS
 ·obtain⟨j,rfl⟩:∃j,p=some j:=by
   obtain⟨b,R,h,_⟩:=C.at 0 (by rw[D];exact Nat.mul_pos af af);exact⟨_,h⟩
  exact wS d s T E ho base z k bytes F f y J v n xs hv hown (some j) m c e hs rfl D C I M l g h
theorem awf {M:List (List UInt8)} {d:DS} {h:Hd} {S:List aQ} {dn:List Int} {n:Nat} (K:dL M d h S dn n) (p:Option Addr) (G m:Nat) (w:World) (hs:bk w p M) (hn:M.length=m):
 Calls Tryz.prog 28 #[.slice p m G,.agg (aK h),.agg (az d)] w fun e w'=>Ext w w'/\∃q c,e=.returned (.tuple #[.slice q (bW d (aT S)).length c,.int .i64 0])/\
  w'.ownsRow w.heap.size 37 2 (.slice q (bW d (aT S)).length c) (bW d (aT S)).length (eV (bW d (aT S))):=by
 have Hs:=ag hs;have zJ:=ag (fun W=>Ob h d W K.door);have r:=ag (fun W (e:bk W p M)=>asj p G m M h d W e hn K.small);obtain⟨hb1,hb2,_⟩:=K.bases;rw[hb1,hb2] at r;unfold mJ at r;have HK:=ag K;have hcn:(aT S).length<=100:=EV;have hbl:(dU S).length=S.length:=by simp[dU]
 have VW:S.length<=101:=EW;have Hn:=ag hn;clear hs hb1 hb2 K hn;have h0:Ext w ((w.alloc (.cells (aK h) 30)).alloc (.cells (az d) 23))/\fG ((w.alloc (.cells (aK h) 30)).alloc (.cells (az d) 23)) w.heap.size h/\bI ((w.alloc (.cells (aK h) 30)).alloc (.cells (az d) 23)) (w.heap.size+1) d:=
  ⟨(Ext.alloc _ _).trans (Ext.alloc _ _),(Ext.alloc _ _).blk _ _ (ah.new w _),ah.new1 _ _ _ av⟩
 go_enter Tryz.func28,Tryz.ntmps28;go_upto_region 1 with(fail);refine aR (fun W=>Ext w W/\fG W w.heap.size h/\bI W (w.heap.size+1) d) h0 ?_;clear h0;rintro w0 ⟨T,O,H⟩;go_upto_region 7 with(first
  | (refine bz (o:=⟨some 15,_,_,_,_,_⟩) rfl 30 (.tmp 4) rfl _ rfl _ _ _ O fH rfl dg ?_)
  | (refine bu (o:=⟨some 16,_,_,_,_,_⟩) rfl (.tmp 5) rfl _ rfl d H ?_)
  | (go_at_call 44;refine(zJ.out _).mono ?_;rintro e w1 ⟨rfl,j⟩;have hd1:=O.ext j;have J:=H.ext j)
  | (refine bz (o:=⟨some 23,_,_,_,_,_⟩) rfl 30 (.tmp 4) rfl _ rfl _ _ _ hd1 fH rfl dg ?_)
  | (refine bu (o:=⟨some 24,_,_,_,_,_⟩) rfl (.tmp 5) rfl _ rfl d J ?_)
  | (go_at_call 45;refine(r.out _ (Hs.out.ext (T.trans j))).mono ?_;rintro e wB ⟨f,qb,cb,rfl,zf⟩))
 have D:=(T.trans j).trans f;have ds2:=J.ext f;have HB:=ag (gh zf).1;clear O H hd1 J T j f zf zJ r;have awg:=ag ds2;have C:=ag D;have ni:=World.ownsRow_made (e:=37) (size:=2) wB #[] 0 (aH _) aq av;have Ho3:=ag ni;clear ni ds2 D;go_upto_region 9 with(fail);go_loopw[11,12] (fun ov iv wr=>∃(i B:Nat) (q:Option Addr) (c:Nat),i<=S.length/\B<=100/\iv=.int .i64 i/\ov=.slice q B c/\Ext wB wr/\wr.ownsRow wB.heap.size 37 2 (.slice q B c) B (eV (bW d (aT (S.take i))))) (fun _ iv _=>S.length-(intOf iv).toNat)
 case atStart=>exact⟨0,0,_,0,bL _,af,rfl,rfl,Ext.alloc _ _,Ho3.out⟩
 case round=>
  obtain⟨i,B,q,c,hi,hnn,rfl,rfl,hx,X⟩:=hrel;have t:=HB.out.ext hx;have R:=awg.out.ext hx;have z:=C.out.trans hx;by_cases u:i<S.length
  ·have gB:(i:Int)<(dU S).length:=af;have L:(dU S).getD i 0=(S[i]).2.base:=by simp[dU,List.getD,u]
   have g:=ag (fun W (e:Ext w W)=>US p G m M d (S[i]).2.base W (Hs.out.ext e) Hn.out HK.out.small);have U:S[i]∈S:=mN u;have I:=HK.out.k.inv _ U;rw[(HK.out.k.holds _ U).read I.spec] at g;unfold mw at g;obtain⟨a1,a2,a3⟩:=lV I.spec;have Y:ou d (S[i]).2=bW d (aX (S[i]).2):=PD;have vE:=ag (show bW d (aT (S.take (i+1)))=bW d (aT (S.take i))++bW d (aX (S[i]).2) by rw[awe u,VV]);have hle:B+(bW d (aX (S[i]).2)).length<=100:=by
    have h1:=X.1;rw[Df] at h1;have h2:(aT (S.take i)).length+(aX (S[i]).2).length<=(aT S).length:=by
     have e2:aT S=aT (S.take i)++(aX (S[i]).2++aT (S.drop (i+1))):=by
      have:=pM i S;rw[<-oU,<-qd,List.getElem_cons_drop,pM]
     rw[e2];simp
    unfold bW at h1⊢;simp only[kF] at h1⊢;omega
   obtain⟨a,ha⟩:∃a,a=(S[i]).2:=⟨_,rfl⟩;rw[<-ha] at g Y a1 a2 a3 vE hle L;have E:=ag (fun q c p m W (e:cX W a q c p m)=>aeN d a q c p m W e.x a1 a2 a3);rw[Y] at E;have Xg:(i:Int)<(dU S).length:=af;have N:i<(dU S).length:=af;obtain⟨gq,go,rfl,hgq,hcq⟩:=t.at i (by unfold cP;rw[kF];exact N);have hci:=hcq i (by unfold cP;rw[kF];exact N);have awj:wr.cell? ⟨gq,go+i,none⟩=some (.int .i64 a.base):=by
    rw[hci];unfold cP;rw[<-L];simp[List.getD,N]
   have HCb:=ag t;have F:=ag R;have Hx:=ag hx;have Hxw:=ag z;have Ho:=ag X;have HlI:=ag u;clear hx z R X t hcq hci Y a1 a2 a3 I U ha L;generalize bW d (aX a)=V at *;go_upto_region 11 with(fail);refine kH 200 [(11,[(10,13)])] (Ext.refl wr) aj aj aj aj aj aj (rL _ _ 11 10 13 (j4 wr.heap.size 109) (vL wr.heap.size a) (fun _ _ h=>h.below) (vL.ay _ _) aj) ?_;refine gV ?_;repeat (first
    | (refine dY (o:=⟨some 13,_,_,_,_,_⟩) (fS wr.heap.size (.cells cA 109)) (fS.ay _ _) vY aj aP ?_ ?_
       ·exact uU
       refine aE ?_)
    | (refine dF (o:=⟨some 40,_,_,_,_,_⟩) (v:=.agg (az d)) aj aP ?_ ?_
       ·intro a w' he hr K hK;simp[Reads,Oper.looksAt,Op.operands,aJ,Is] at hr;exact eG 23 (.tmp 5) rfl ((w.heap.size+1)) dX _ _ _ _ (he.blk _ _ F.out) gr rfl gD (hK _ (Ext.refl _))
       refine aE ?_)
    | (refine dY (o:=⟨some 45,_,_,_,_,_⟩) (jy a) (jy.ay _) (.inr (jy.bP _ _ _)) aj aP ?_ ?_
       ·intro a' w' he hr K hK;simp[Reads,Oper.looksAt,Op.operands,Call.operands,aJ,Is] at hr;go_simp;refine(g.out _ (Hxw.out.trans he)).mono ?_;exact EI
       refine aE ?_)
    | (refine pG (o:=⟨some 38,_,_,_,_,_⟩) _ (jy a) aj aP lz rfl (jy.ay _) (.inr (jy.bP _ _ _)) ?_
       refine nO ?_)
    | (refine dY (o:=⟨some 46,_,_,_,_,_⟩) (nN a) (nN.ay _) (.inr (nN.bP _ _ _)) aj aP ?_ ?_
       ·intro a w' he hr K hK;obtain⟨q9,c9,p9,m9,h1,h9⟩:=hr 38 bO;exact KM
       refine aE ?_)
    | (refine dF (o:=⟨some 47,_,_,_,_,_⟩) (v:=.int .i64 0) aj aP ?_ ?_
       ·intro a w' he hr K hK;obtain⟨q9,c9,p9,m9,h1,h9⟩:=hr 38 bO;exact mO
       refine aE ?_)
    | (refine iU (o:=⟨none,_,_,_,_,_⟩) Any Any.ay (.inr Any.bP) aj aP ?_ ?_
       ·intro a w' he hr K hK;obtain⟨b,h1,h2,h3⟩:=hr 13 bO;obtain⟨q9,c9,p9,m9,hv,h9⟩:=hr 46 bO;refine nC 109 (.tmp 13) (.tmp 46) rfl b (bn _ q9 c9 p9 m9) h1 hv _ _ h2 aZ rfl (mE ..) ?_;exact Ku
       refine aE ?_)
    | (refine qD ?_)
    | (refine pH ?_))
   intro w2 f;simp only[iJ,iQ,jS,kW,bG,bN];repeat (first | with_reducible refine cH _ _ _ _ ?_ | (with_reducible refine cI _ _ _ _ ?_;intro _ _) | with_reducible refine cJ _ _ ?_)
   simp only[cF,cK,bQ,bE];rename_i IL xy x38 VX Xf Gc x46 h46;obtain⟨yb,rfl,q1,c1,p1,m1,hyb,hv1,Em⟩:=xy;clear VX Gc h46;have awm:=F.out.ext f;have Z:=Hx.out.trans f;have gT:=aO Ho.out f;have awn:=ag (E.out _ _ _ _ _ hv1);clear F Hx Hxw Ho HCb f hv1 g hgq awj E;go_upto_region 14 with(fail);have Bz:=ag gT;clear gT;go_wp2_with(first
    | (refine bu (o:=⟨some 52,_,_,_,_,_⟩) rfl (.tmp 5) rfl _ rfl d awm ?_)
    | (refine bz (o:=⟨some 53,_,_,_,_,_⟩) rfl 109 (.tmp 13) rfl _ rfl _ _ _ hyb cL rfl aZ ?_)
    | (go_at_call 47;refine awn.out.mono ?_;rintro e w5 ⟨l,v5,rfl,iX⟩;obtain⟨q5,c5,rfl⟩:=cE iX)
    | (at_builtin;refine qE rfl fun _ hK=>?_;refine ahV (.tmp 51) (.tmp 54) 33 37 rfl wB.heap.size (.agg #[.string ByteArray.empty,.string ByteArray.empty]) 2 32 Tryz.underlying33 Gw rfl aq _ B _ rfl (aO Bz.out l) q5 V.length c5 (eV V) rfl (by rw[Df];omega) (gh iX).1 (ahU _) af aq (Z.trans l).size ?_;intro v6 w6 nJ p6;obtain⟨q6,c6,rfl⟩:=cE nJ;refine hK _ _ ?_))
   have JF:=Ext.trans' (Z.trans l) (Below.ij p6 (aO Bz.out l) (aH _) (Z.trans l).size);go_roundw
   case rel=>exact⟨i+1,B+V.length,q6,c6,by have:=HlI.out;omega,hle,bX,rfl,JF,by rw[vE.out,R7];exact nJ⟩
   case measure=>have:=HlI.out;simp[intOf];omega
  ·have gB:decide ((i:Int)<(dU S).length)=false:=aM af;obtain rfl:i=S.length:=af;rw[rT] at X;have hnl:B=(bW d (aT S)).length:=by
    have:=X.1;rw[Df] at this;omega
   subst hnl;have Ho:=ag (And.intro z (fJ X C.out.size));clear X hx R t z;go_wp2_with fail;go_ret2;exact⟨Ho.out.1,_,_,rfl,Ho.out.2⟩
end Go.Proofs.YteninnkbmoimgaaGreatDoor

/- A part of the proof. -/
import Derived.Test.YteninnkbmoimgaaGreatDoorRP0
set_option linter.unusedSimpArgs false
set_option linter.unusedVariables false
set_option maxRecDepth 100000
set_option maxHeartbeats 16000000
namespace Go.Proofs.YteninnkbmoimgaaGreatDoor
open Go.RowKit aD
def U5 (r:Ar×Bool) (w:World) (e:Ending) (w':World):Prop:=Ext w w'/\∃q c p m,e=.returned (.tuple #[.agg (bn r.1 q c p m),.bool r.2,.int .i64 0])/\cX w' r.1 q c p m
theorem U6 (d:DS) (a:Ar) (q:Option Addr) (c:Nat) (p:Option Addr) (m:Nat) (r:List UInt8) (w:World) (I:jm d a) (hr:cV d r=true) (hv:cX w a q c p m):
 Calls Tryz.prog 96 #[.agg (az d),.agg (bn a q c p m),.string ⟨r.toArray⟩] w (U5 (lU d a r) w):=by
 obtain⟨n1,n2,n3,n4,n5⟩:=Mr I.spec;have hA:dD d a=true:=lD.2 I.spec;have HV:=ag (fun W (e:Ext w W)=>yY d a q c p m W (hv.ext e).x af af (TT I.spec));rw[hA] at HV;have HI:=ag (Gs d r I.spec.keyed);rw[hr] at HI;have M:=(I.spec.at (ax d r)).lt;obtain⟨f1,f2,f3,f4⟩:=I.spec.iv M;have m6:=JY f1;have HKr:=ag (fun W=>vf d r I.spec.keyed hr W);have HF:=ag (fun W (e:Ext w W)=>Tt q c a.nd (ax d r) W (hv.ai.ext e) af (uY.1 n3));obtain⟨F,B,vi,rfl,ke,qj,qi,ci,rfl,hsi,_,_,_,UW⟩:=hv.ak.at _ M;have HC:=ag (fun W (e:Ext w W)=>(⟨(e.cell F _ ke).trans qj,fM ke e.size⟩:W.cell? ⟨F,B+bK a.nd.ai (ax d r),none⟩=some (.slice qi (a.ak.getD (bK a.nd.ai (ax d r)) []).length ci)/\F<W.heap.size));have HW:=ag (fun W (e:Ext w W)=>arj d qi ci (a.ak.getD (bK a.nd.ai (ax d r)) []) r W I.spec.keyed hr (fun s O=>(f3 s O).1) f4 (hsi.ext e) af);have Z:Hid (lU d a r=if eH d.interval (cw d r (a.ak.getD (bK a.nd.ai (ax d r)) []))=true then({a with ak:=a.ak.set (bK a.nd.ai (ax d r)) (cw d r (a.ak.getD (bK a.nd.ai (ax d r)) []))},true)
  else if kY d a=0 then(a,false) else(Ud d a (cw d r (a.ak.getD (bK a.nd.ai (ax d r)) [])) (bK a.nd.ai (ax d r)),true)):=ag rfl
 have J:Hid ((cw d r (a.ak.getD (bK a.nd.ai (ax d r)) [])).length<=513/\∀s∈cw d r (a.ak.getD (bK a.nd.ai (ax d r)) []),s.length<=1000):=ag (by
  have h1:=C3 d r (a.ak.getD (bK a.nd.ai (ax d r)) []);refine⟨by have:=m6.1;omega,fun s O=>?_⟩;rcases ud O with rfl | O
  ·have h8:=(ZZ I.spec.keyed hr).2;have h9:=oB I.spec.size;omega
  ·have:=m6.2 s O;omega)
 have sM:Hid ((∀s∈cw d r (a.ak.getD (bK a.nd.ai (ax d r)) []),cV d s=true)/\dN d (cw d r (a.ak.getD (bK a.nd.ai (ax d r)) []))):=ag ⟨fun s O=>by
  rcases ud O with rfl | O
  ·exact hr
  ·exact(f3 s O).1,Lb f4⟩
 have Hv:=ag hv;have D:=ag I;have hda:=oJ w d a q c (some ⟨F,B,none⟩) m;have H:=Ext.alloc ((w.alloc (.cells (az d) 23)).alloc (.cells (bn a q c (some ⟨F,B,none⟩) m) 109)) (.cells cA 109);clear hv I hA f1 f2 f3 f4 m6 qj hsi;unfold dO at HF;generalize lU d a r=R at *;generalize hL:cw d r (a.ak.getD (bK a.nd.ai (ax d r)) [])=l at *;generalize hi:bK a.nd.ai (ax d r)=i at *;have HL:=ag hL;have Hi:=ag hi;clear hL hi;generalize Nl:ax d r=kr at *;have Hkr:=ag Nl;clear Nl;have hil:(i:Int)<(a.ak.length:Int):=af;generalize(a.ak.getD i []).length=li at *;go_enter Tryz.func96,Tryz.ntmps96;go_upto_region 1 with(fail);refine aR (oV w d a q c (some ⟨F,B,none⟩) m) ⟨hda.1.trans H,hda.2.1.ext H,hda.2.2.ext H,ah.new1 _ _ _ av⟩ ?_;clear hda H;intro w0 h0;go_upto_region 5 with(first
  | (refine bu (o:=⟨some 16,_,_,_,_,_⟩) rfl (.tmp 3) rfl _ rfl d h0.ds ?_)
  | (refine bz (o:=⟨some 17,_,_,_,_,_⟩) rfl 109 (.tmp 4) rfl _ rfl _ _ _ h0.ar cL rfl aZ ?_)
  | (go_at_call 70;refine(HV.out _ h0.ext).mono ?_;rintro e w1 ⟨rfl,bU⟩;have h1:=h0.more bU)
  | (refine bu (o:=⟨some 21,_,_,_,_,_⟩) rfl (.tmp 3) rfl _ rfl d h1.ds ?_)
  | (go_at_call 93;refine(HI.out _).mono ?_;rintro e w2 ⟨rfl,t⟩;have h2:=h1.more t))
 have H2:=ag h2;clear h0 h1 h2 bU t HV HI;obtain⟨wk,rfl⟩:∃wk:World,wk=w2:=⟨_,rfl⟩;refine eR 200 (Ext.refl wk) aj aj aj ?_;simp only[cY,eF,gj,dV,dP,gC,dh,dQ];repeat (first
  | (refine bT (o:=⟨some 27,_,_,_,_,_⟩) (v:=.agg #[.int .i64 a.nd.level,.int .i64 a.nd.next,.slice q a.nd.ai.length c]) rfl ?_ ?_
     ·intro a' w' he hr K hK;simp[Reads,Oper.looksAt,Op.operands,Call.operands,aJ,Is] at hr;exact I6 106 (.tmp 26) rfl (w.heap.size+1) 1 dX _ _ #[.int .i64 a.nd.level,.int .i64 a.nd.next,.slice q a.nd.ai.length c] _ (he.blk _ _ H2.out.ar) (Cg a q c (some ⟨F,B,none⟩) m) cZ rfl bq (hK _ (Ext.refl _))
     refine aE ?_)
  | (refine bT (o:=⟨some 28,_,_,_,_,_⟩) (v:=.agg (az d)) rfl ?_ ?_
     ·intro a w' he hr K hK;simp[Reads,Oper.looksAt,Op.operands,aJ,Is] at hr;exact eG 23 (.tmp 3) rfl (w.heap.size) dX _ _ _ _ (he.blk _ _ H2.out.ds) gr rfl gD (hK _ (Ext.refl _))
     refine aE ?_)
  | (refine bT (o:=⟨some 30,_,_,_,_,_⟩) (v:=.string ⟨kr.toArray⟩) rfl ?_ ?_
     ·intro a w' he hr K hK;simp[Reads,Oper.looksAt,Op.operands,Call.operands,aJ,Is] at hr;go_simp;refine(HKr.out _).mono ?_;exact kg
     refine aE ?_)
  | (refine bT (o:=⟨some 31,_,_,_,_,_⟩) (v:=.int .i64 (i:Nat)) rfl ?_ ?_
     ·intro a w' he hr K hK;simp[Reads,Oper.looksAt,Op.operands,Call.operands,aJ,Is] at hr;go_simp;refine(HF.out _ (H2.out.ext.trans he)).mono ?_;exact kg
     refine aE ?_)
  | (refine kN ?_)
  | (refine fR ?_)
  | (refine iq ?_)
  | (refine fk ?_))
 intro w2 t;repeat (first | with_reducible refine cH _ _ _ _ ?_ | (with_reducible refine cI _ _ _ _ ?_;intro _ _) | with_reducible refine cJ _ _ ?_)
 simp only[cF,cK,bQ,bE];have H3:=ag (H2.out.more t);obtain⟨iA,hl3⟩:=HC.out _ H3.out.ext;obtain⟨_,_,_,_,e4,la⟩:=H3.out.ar.cells;clear H2 t HF;obtain⟨wj,rfl⟩:∃wj:World,wj=w2:=⟨_,rfl⟩;go_upto_region 6 with(fail);refine eR 7 (Ext.refl wj) aj aj aj ?_;simp only[cY,eF,gj,dV,dP,gC,dh,dQ];repeat (first
  | (refine bT (o:=⟨some 32,_,_,_,_,_⟩) (v:=.agg (az d)) rfl ?_ ?_
     ·intro a w' he hr K hK;simp[Reads,Oper.looksAt,Op.operands,aJ,Is] at hr;exact eG 23 (.tmp 3) rfl (w.heap.size) dX _ _ _ _ (he.blk _ _ H3.out.ds) gr rfl gD (hK _ (Ext.refl _))
     refine aE ?_)
  | (refine kN ?_)
  | (refine fR ?_)
  | (refine iq ?_)
  | (refine fk ?_))
 intro w2 t;repeat (first | with_reducible refine cH _ _ _ _ ?_ | (with_reducible refine cI _ _ _ _ ?_;intro _ _) | with_reducible refine cJ _ _ ?_)
 simp only[cF,cK,bQ,bE];have H4:=ag (H3.out.more t);clear H3 iA hl3 e4 la t;go_upto_region 7 with(go_at_call 135;refine(HW.out _ H4.out.ext).mono ?_;rintro e w5 ⟨jD,v5,rfl,iX⟩;obtain⟨q5,L,rfl⟩:=cE iX);have H5:=ag (H4.out.more jD);have r7:=ag (fJ iX H4.out.ext.size);have U:=CP r7.out;have NX:=ag (fun W (e:Ext w5 W) b hb=>Ti q5 L l.length l d.interval W (U.ext e) rfl ⟨by have:=J.out.1;omega,fun s O=>by have:=J.out.2 s O;omega⟩ b hb);have d7:=ah.val H5.out.ds 7 _ rfl;rw[show((az d):Array Value)[7]=.int .i64 d.interval from rfl] at d7;have ld:=ah.lt H5.out.ds;clear H4 jD iX HW;cases hf:eH d.interval l
 ·have Y:=ag (fun W e=>NX.out W e _ hf);rw[aA (by rw[hf];simp)] at Z;have NY:=ag (fun W (e:Ext w W)=>apF d a q c (some ⟨F,B,none⟩) m W D.out.spec.keyed D.out.spec.base (Hv.out.ai.ext e) af);clear NX;by_cases X:kY d a=0
  ·rw[aC X] at Z;have NZ:=Z.out;rw[X] at NY;clear hf Z X U;subst NZ;go_wp2_with(first
    | (go_at_call 107;refine(Y.out _ (Ext.refl _)).mono ?_;rintro e w6 ⟨rfl,C⟩;have H6:=H5.out.more C)
    | (refine bu (o:=⟨some 48,_,_,_,_,_⟩) rfl (.tmp 3) rfl _ rfl d H6.ds ?_)
    | (refine Xv ?_)
    | (go_at_call 136;refine(NY.out _ H6.ext).mono ?_;rintro e w7 ⟨rfl,E⟩;have G:=H6.more E)
    | (refine bz (o:=⟨some 53,_,_,_,_,_⟩) rfl 109 (.tmp 4) rfl _ rfl _ _ _ G.ar cL rfl aZ ?_)
    | (refine aU rfl 109 (.tmp 6) (.tmp 53) rfl _ (bn a q c (some ⟨F,B,none⟩) m) rfl rfl _ _ G.z aZ rfl (mE ..) ?_;intro w8 mU mc))
   exact bY (pP Tryz.results96 _ _ _ _ _ _ rfl mU cL rfl aZ) rfl ⟨mc.ext G.ext af,q,c,some ⟨F,B,none⟩,m,rfl,(Hv.out.ext G.ext).lE G.z aq aq aq mc⟩
  ·rw[aA X] at Z;have hu0:(kY d a==0)=false:=by simpa using X
   obtain⟨u1,u2,u3⟩:=aea D.out.spec X;have hLf:eH d.interval (a.ak.getD i [])=true:=(D.out.spec.iv M).1;have hmd:=ad9 (size:=d.interval) (by have:=Z1 D.out.spec.keyed hr hLf (by rw[HL.out];exact hf);rw[HL.out] at this;exact this);obtain⟨m1,m2,m3,m4⟩:=hmd;have hps:=fun bound hb=>Z2 (m:=vn d.interval l) (pg:=kY d a) (bound:=bound) D.out hr (i:=i) (by rw[Hkr.out,Hi.out]) (l:=l) (by rw[HL.out]) m1 m2 m3 m4 hb u1 u2 u3;have HCu:=ag (fun W (e:Ext w5 W)=>apA d.interval q5 L l W (U.ext e) (gh r7.out).2.1 (gh r7.out).2.2 ⟨by have:=J.out.1;omega,fun s O=>by have:=J.out.2 s O;omega⟩);unfold Ud IJ at Z;generalize vn d.interval l=f at *;have gm:∀k,k<l.length->l.getD k []∈l:=fun k hk=>by
    have e:l.getD k []=l[k]:=E4;exact Cu
   have hr1:=sM.out.1 _ (gm (f-1) af);have nY:=sM.out.1 _ (gm f m2);have hbl:bl (ax d (l.getD (f-1) [])) (ax d (l.getD f []))=true:=by
    have hp:=ue.1 sM.out.2 (f-1) f af m2 af;have e1:l.getD (f-1) []=l[f-1]:=by simp[List.getD,show f-1<l.length by omega]
    have e2:l.getD f []=l[f]:=by simp[List.getD,m2]
    rw[e1,e2];exact hp
   have N0:=ag (fun W=>vf d (l.getD (f-1) []) D.out.spec.keyed hr1 W);have mQ:=ag (fun W=>vf d (l.getD f []) D.out.spec.keyed nY W);have afs:(ax d (l.getD f [])).length<=1000000:=by
    have h1:=J.out.2 _ (gm f m2);unfold ax;rw[gF,eU];omega
   have xI:=ag (fun W=>apW _ _ hbl afs W);obtain⟨b5,o5,rfl,rQ,mD⟩:=U.at f m2;have hx1:=mD (f-1) af;have hx2:=mD f m2;obtain⟨hin,hiv,IA⟩:=hps _ rfl;have Ed:=ag (fun W (e:Ext w W)=>aeu q c a.nd i _ (kY d a) W (Hv.out.ai.ext e) Hv.out.ec (by rw[hin]));unfold dO at Ed;have NZ:=Z.out;clear Z hps hin gm hr1 nY hbl afs mD hf X U;generalize uc (ax d (l.getD (f-1) [])) (ax d (l.getD f []))=bound at *;generalize ax d (l.getD (f-1) [])=k1 at *;generalize ax d (l.getD f [])=k2 at *;generalize l.getD (f-1) []=y1 at *;generalize l.getD f []=y2 at *;generalize kY d a=pg at *;have hw1:IntKind.i64.wrap ((f:Int)-1)=(f:Int)-1:=IntWalk.i64_in _ (by have:=J.out.1;omega);have mi9:(1:Int)<=(f:Int):=af;have mi0:(0:Int)<=(f:Int)-1:=af;have mi1:(f:Int)-1<(l.length:Int):=af;have mi3:f-1<l.length:=af;have mi2:(f:Int)<(l.length:Int):=af;go_upto_region 13 with(first
    | (go_at_call 107;refine(Y.out _ (Ext.refl _)).mono ?_;rintro e w6 ⟨rfl,C⟩;have H6:=H5.out.more C)
    | (refine bu (o:=⟨some 48,_,_,_,_,_⟩) rfl (.tmp 3) rfl _ rfl d H6.ds ?_)
    | (refine Xv ?_)
    | (go_at_call 136;refine(NY.out _ H6.ext).mono ?_;rintro e w7 ⟨rfl,E⟩;have G:=H6.more E;have dc:=ah.val G.ds 7 _ rfl;have ld':=ah.lt G.ds)
    | (go_at_call 137;refine(HCu.out _ (C.trans E)).mono ?_;rintro e w8 ⟨rfl,jC⟩;have H8:=ag (G.more jC)))
   have vo:=ag ((C.trans E).trans jC);have s8:=vo.out.size;have atw:=(vo.out.cell b5 _ rQ).trans hx1;have atx:=(vo.out.cell b5 _ rQ).trans hx2;have lb8:b5<w8.heap.size:=af;obtain⟨_,a1,a2,a3,_,la⟩:=H8.out.ar.cells;clear d7 ld dc ld' H6 G C E jC Y NY HCu hx1 hx2;obtain⟨n,Ee⟩:∃N:Nd,N={a.nd with ai:=eD a.nd.ai i bound pg}:=⟨_,rfl⟩;have aft:Hid (∀W,Ext w8 W->Calls Tryz.prog 138 #[.agg #[.int .i64 a.nd.level,.int .i64 a.nd.next,.slice q a.nd.ai.length c],.int .i64 i,.string ⟨bound.toArray⟩,.int .i64 pg] W fun e' W'=>Ext W W'/\∃q9 c9,e'=.returned (.tuple #[.agg #[.int .i64 n.level,.int .i64 n.next,.slice q9 n.ai.length c9],.int .i64 0])/\W'.ownsRow w.heap.size 142 2 (.slice q9 n.ai.length c9) n.ai.length (aV n.ai)):=ag (fun W e=>(Ed.out W (H8.out.ext.trans e)).mono (by
    rintro e' W' ⟨h1,q9,c9,h2,h3⟩;subst Ee;exact⟨h1,q9,c9,h2,fJ h3 (H8.out.ext.trans e).size⟩))
   have Jc:=ag Ee;clear Ee Ed;refine kH 200 [(23,[(22,13)])] (Ext.refl w8) aj aj aj aj aj aj (rL _ _ 23 22 13 (j4 w8.heap.size 106) (th w8.heap.size w.heap.size n) (fun _ _ h=>h.below) (th.ay _ _ _) aj) ?_;refine gV ?_;repeat (first
    | (refine dY (o:=⟨some 13,_,_,_,_,_⟩) (fS w8.heap.size (.cells #[.int .i64 0,.int .i64 0,.slice none 0 0] 106)) (fS.ay _ _) vY aj aP ?_ ?_
       ·exact uU
       refine aE ?_)
    | (refine dF (o:=⟨some 62,_,_,_,_,_⟩) (v:=.agg (az d)) aj aP ?_ ?_
       ·exact Ya
       refine aE ?_)
    | (refine dF (o:=⟨some 69,_,_,_,_,_⟩) (v:=.agg (az d)) aj aP ?_ ?_
       ·exact Ya
       refine aE ?_)
    | (refine dF (o:=⟨some 60,_,_,_,_,_⟩) (v:=.agg #[.int .i64 a.nd.level,.int .i64 a.nd.next,.slice q a.nd.ai.length c]) aj aP ?_ ?_
       ·intro a' w' he hr K hK;simp[Reads,Oper.looksAt,Op.operands,Call.operands,aJ,Is] at hr;exact I6 106 (.tmp 59) rfl (w.heap.size+1) 1 dX _ _ #[.int .i64 a.nd.level,.int .i64 a.nd.next,.slice q a.nd.ai.length c] _ (he.blk _ _ H8.out.ar) (Cg a q c (some ⟨F,B,none⟩) m) cZ rfl bq (hK _ (Ext.refl _))
       refine aE ?_)
    | (refine dF (o:=⟨some 68,_,_,_,_,_⟩) (v:=.string ⟨k1.toArray⟩) aj aP ?_ ?_
       ·intro a w' he hr K hK;simp[Reads,Oper.looksAt,Op.operands,Call.operands,aJ,Is] at hr;go_simp;refine(N0.out _).mono ?_;exact kg
       refine aE ?_)
    | (refine dF (o:=⟨some 74,_,_,_,_,_⟩) (v:=.string ⟨k2.toArray⟩) aj aP ?_ ?_
       ·intro a w' he hr K hK;simp[Reads,Oper.looksAt,Op.operands,Call.operands,aJ,Is] at hr;go_simp;refine(mQ.out _).mono ?_;exact kg
       refine aE ?_)
    | (refine dF (o:=⟨some 75,_,_,_,_,_⟩) (v:=.string ⟨bound.toArray⟩) aj aP ?_ ?_
       ·intro a w' he hr K hK;simp[Reads,Oper.looksAt,Op.operands,Call.operands,aJ,Is] at hr;go_simp;refine(xI.out _).mono ?_;exact kg
       refine aE ?_)
    | (refine dY (o:=⟨some 77,_,_,_,_,_⟩) (iD w.heap.size n 0) (iD.ay _ _ _) (.inr (iD.bP _ _ _ _ _)) aj aP ?_ ?_
       ·intro a w' he hr K hK;simp[Reads,Oper.looksAt,Op.operands,Call.operands,aJ,Is] at hr;go_simp;refine(aft.out _ he).mono ?_;exact J2
       refine aE ?_)
    | (refine pG (o:=⟨some 58,_,_,_,_,_⟩) _ (iD w.heap.size n 0) aj aP lz rfl (iD.ay _ _ _) (.inr (iD.bP _ _ _ _ _)) ?_
       refine nO ?_)
    | (refine dY (o:=⟨some 78,_,_,_,_,_⟩) (ow w.heap.size n) (ow.ay _ _) (.inr (ow.bP _ _ _ _)) aj aP ?_ ?_
       ·intro a w' he hr K hK;obtain⟨q9,c9,h1,h9⟩:=hr 58 bO;exact uR
       refine aE ?_)
    | (refine dF (o:=⟨some 79,_,_,_,_,_⟩) (v:=.int .i64 0) aj aP ?_ ?_
       ·intro a w' he hr K hK;obtain⟨q9,c9,h1,h9⟩:=hr 58 bO;exact mO
       refine aE ?_)
    | (refine iU (o:=⟨none,_,_,_,_,_⟩) Any Any.ay (.inr Any.bP) aj aP ?_ ?_
       ·intro a w' he hr K hK;obtain⟨b,h1,h2,h3⟩:=hr 13 bO;obtain⟨q9,c9,hv,h9⟩:=hr 78 bO;refine nC 106 (.tmp 13) (.tmp 78) rfl b _ h1 hv _ _ h2 bq rfl cT ?_;exact Kr
       refine aE ?_)
    | (refine qD ?_)
    | (refine pH ?_))
   intro w2 t;simp only[iJ,iQ,jS,kW,bG,bN];repeat (first | with_reducible refine cH _ _ _ _ ?_ | (with_reducible refine cI _ _ _ _ ?_;intro _ _) | with_reducible refine cJ _ _ ?_)
   simp only[cF,cK,bQ,bE];rename_i IL xy x58 h58 x77 U7 U2 Eb;obtain⟨wn,rfl⟩:∃wn:World,wn=w2:=⟨_,rfl⟩;obtain⟨nb,rfl,q9,c9,rZ,fI,hnb⟩:=xy;clear h58 U7 Eb aft xI N0 mQ atw atx a1 a2 a3 la hw1 mi0 mi1 mi3 mi9;have H9:=ag (H8.out.more t);have HNB:=ag rZ;have HO9:=ag fI;have hnl:=ah.lt rZ;have U8:=ag (aO r7.out (vo.out.trans t));have sW:=H9.out.ext.size;clear rZ fI t H8 vo hnb s8 lb8 rQ;obtain⟨vs,uE,sx⟩:=Hv.out.ak;have hvl:vs.length=a.ak.length:=sx.1;have h1c:=aff sx;have htk:(vs.take i).length=i*1:=kQ;have wW:(vs.drop (i+1)).length=a.ak.length-(i+1):=xX;have tw:Hid (∀W,Ext w W->0<i->∃ad,(some ⟨F,B,none⟩:Option Addr)=some ad/\∀j u,(vs.take i)[j]? =some u->W.cell? (ad.add j)=some u):=ag (fun W e h0=>zl (Cells.take (uE.ext e) i) (fun h9=>Ki));have iZ:Hid (∀W,Ext w W->Cells W (if m=i+1 then some ⟨F,B,none⟩ else some ⟨F,B+(i+1),none⟩) (vs.drop (i+1))):=ag (fun W e=>by
    split
    ·refine .inl (gY ?_);have:=Hv.out.ic;rw[wW];omega
    ·exact Cells.drop (uE.ext e) (i+1))
   have wX:=ag htk;have yN:=ag wW;have U4:=ag h1c;have Br:=ag sx;have Hvl:=ag hvl;clear uE h1c htk wW sx hvl;obtain⟨_,_,_,_,e4,la⟩:=H9.out.ar.cells;have him:i<=m:=by have:=Hv.out.ic;omega
   have atg:(i:Int)<=m:=af;have hic:i<=a.ak.length:=af;go_upto_region 15 with(at_builtin;refine qE rfl fun _ hK=>?_;refine rN (.tmp 80) (.tmp 84) 107 31 rfl wn.heap.size (.slice none 0 0) 1 24 Tryz.underlying107 sY rfl wn.heap.size rfl (ah.new wn _) (aH _) (some ⟨F,B,none⟩) i m (vs.take i) rfl wX.out (fun h0=>tw.out _ (H9.out.ext.trans (Ext.alloc _ _)) h0) af aq (Ext.alloc _ _).size ?_;intro v1 wa gT t;refine hK _ _ ?_);obtain⟨q1,k1,rfl⟩:=cE gT;have Hxa:=ag ((Ext.alloc wn (.cells #[] 31)).trans t);have Dg:=ag gT;have mi4:(f:Int)<=l.length:=af;have mi5:f<=l.length:=af;have mi6:f<=L:=by have:=(gh U8.out).2.1;omega
   have mi7:(f:Int)<=L:=af;have mi8:¬L=f:=by have:=(gh U8.out).2.1;omega
   clear gT t e4 la tw;refine eR 8 (Ext.refl wa) aj aj aj ?_;simp only[cY,eF,gj,dV,dP,gC,dh,dQ];repeat (first
    | (refine jh (o:=⟨some 93,_,_,_,_,_⟩) (dx 2 2 (.cells #[.slice (some ⟨b5,o5,none⟩) f L,.slice (some ⟨b5,o5+f,none⟩) (l.length-f) (L-f)] 31)) (dx.ay _ _ _) rfl ?_ ?_
       ·exact wg
       refine aE ?_)
    | (refine kN ?_)
    | (refine fR ?_)
    | (refine iq ?_)
    | (refine fk ?_))
   intro w2 t;repeat (first | with_reducible refine cH _ _ _ _ ?_ | (with_reducible refine cI _ _ _ _ ?_;intro _ _) | with_reducible refine cJ _ _ ?_)
   simp only[cF,cK,bQ,bE];rename_i x93 h93;obtain⟨b93,rfl,afv⟩:=h93;have afw:=ag (n8 (ys:=[.slice (some ⟨b5,o5,none⟩) f L,.slice (some ⟨b5,o5+f,none⟩) (l.length-f) (L-f)]) afv);have BN:=ag (aO Dg.out t);have U9:=ag (Hxa.out.trans t);have Va:=U9.out.size;clear afv t Dg Hxa;generalize hv1:(Value.slice (some ⟨b5,o5,none⟩) f L)=v1 at *;generalize hv2:(Value.slice (some ⟨b5,o5+f,none⟩) (l.length-f) (L-f))=v2 at *;have o1:v1.oneCell'=true:=by rw[<-hv1];rfl
   have o2:v2.oneCell'=true:=by rw[<-hv2];rfl
   have HV1:=ag hv1;have N7:=ag hv2;clear hv1 hv2;obtain⟨wx,rfl⟩:∃wx:World,wx=w2:=⟨_,rfl⟩;have hlo:(vs.take i++[v1,v2]).length=i+2:=by have:=wX.out;rw[ew,this];simp
   go_upto_region 16 with(at_builtin;refine sV (o:=⟨some 94,_,_,_,_,_⟩) rfl (.tmp 86) (.tmp 93) 107 31 rfl wn.heap.size (.slice none 0 0) 1 24 Tryz.underlying107 sY rfl aq _ i _ rfl BN.out (some ⟨b93,0,none⟩) 2 2 [v1,v2] rfl rfl rfl afw.out (by intro u X;simp at X;rcases X with rfl | rfl;exact o1;exact o2) af aq Va ?_;intro v4 wb oR jV);obtain⟨q4,k4,rfl⟩:=cE oR;have r4:=pZ (T:=31) jV BN.out Va;have Hxd:=ag (Ext.trans' U9.out r4.1);have tQ:=ag oR;have szd:=Hxd.out.size;clear oR jV r4 BN U9 afw Va;obtain⟨e0,_,_,_,e4,la⟩:=H9.out.ar.cells;have hi1:i+1<=a.ak.length:=af;have U1:(i:Int)+1<=a.ak.length:=af;have as9:(0:Int)<=(i:Int)+1:=af;have hwi:IntKind.i64.wrap ((i:Int)+1)=(i:Int)+1:=IntWalk.i64_in _ af;refine Pre.kH 11 [(9,[])] (Hxd.out) aj aj aj aj aj aj (Lt _ _ _) (as0 (S:=fun W=>W.ownsRow wn.heap.size 31 1 (.slice q4 (i+2) k4) (i+2) (vs.take i++[v1,v2])) (fun _ _ e h=>aO h e)) (fun p hp=>tQ.out) ?_;simp only[cY,eF,gj,dV,dP,gC,dh,dQ];repeat (first
    | (refine Pre.dF (o:=⟨some 97,_,_,_,_,_⟩) (v:=.agg #[.int .i64 n.level,.int .i64 n.next,.slice q9 n.ai.length c9]) (fun k v=>Pre.iF.is _ _ _ _ k v) aj aP ?_ ?_
       ·intro a' w' he0 hp hr K' hK;simp[Reads,Oper.looksAt,Op.operands,aJ,Is] at hr;exact eG 106 (.tmp 13) rfl nb dX _ _ _ _ (he0.blk _ _ HNB.out) cZ rfl bq (hK _ (Ext.refl _))
       refine aE ?_)
    | (refine Pre.iU (o:=⟨some 104,_,_,_,_,_⟩) (dJ 31 wn.heap.size 1 (i+2+(a.ak.length-(i+1))) (vs.take i++[v1,v2]++vs.drop (i+1))) (dJ.ay _ _ _ _ _) (afg (.inr rfl)) aj aP ?_ ?_
       ·intro a' w' he0 hp hr K' hK;have hw:=hp 9 aj aj;have h98:=hr 98 gM;have atI:=hr 103 gM;refine afe (.tmp 98) (.tmp 103) rfl wn.heap.size _ (i+2) (vs.take i++[v1,v2]) h98 hw _ (a.ak.length-(i+1)) _ (vs.drop (i+1)) atI yN.out (iZ.out _ (H9.out.ext.trans he0)) (fun u X=>U4.out u (uh X)) af he0.size ?_;intro v' w'' ho' hg';obtain⟨q',c',rfl⟩:=cE ho';exact hK _ _ (Below.ij hg' hw (aH _) he0.size) ⟨q',c',rfl,ho'⟩ (fun x hx nQ y hy=>by simp at hx;subst hx;simp at hy)
       refine aE ?_)
    | (refine Pre.dY (o:=⟨some 105,_,_,_,_,_⟩) (sw a.base n.level n.next q9 n.ai.length c9 (i+2+(a.ak.length-(i+1))) wn.heap.size (vs.take i++[v1,v2]++vs.drop (i+1))) (sw.ay _ _ _ _ _ _ _ _ _) (afg (.inl aj)) aj aP ?_ ?_
       ·intro a' w' he0 hp hr K' hK;have h96:=hr 96 bO;have h97:=hr 97 bO;obtain⟨q',c',Vb,ho'⟩:=hr 104 bO;have tH:((#[(0,Operand.tmp 96),(1,Operand.tmp 97),(2,Operand.tmp 104)]:Array (Nat×Operand)).map fun(i,x)=>(i,a'.eval x)).toList=[(0,.int .i64 a.base),(1,.agg #[.int .i64 n.level,.int .i64 n.next,.slice q9 n.ai.length c9]),(2,.slice q' (i+2+(a.ak.length-(i+1))) c')]:=(by simp only[zN,dh,dQ];rw[show a'.eval (.tmp 96)=_ from h96,show a'.eval (.tmp 97)=_ from h97,show a'.eval (.tmp 104)=_ from Vb]);refine tJ 109 #[(0,.tmp 96),(1,.tmp 97),(2,.tmp 104)] rfl ?_ ?_
        ·rw[tH,D5];rfl
        ·rw[tH,D5];exact hK _ _ (Ext.refl _) ⟨q',c',rfl,ho'⟩
       refine aE ?_)
    | (refine CB ?_)
    | (refine E5 ?_))
   intro w2 t;simp only[iJ,iQ,jS,kW,bG,bN];repeat (first | with_reducible refine cH _ _ _ _ ?_ | (with_reducible refine cI _ _ _ _ ?_;intro _ _) | with_reducible refine cJ _ _ ?_)
   simp only[cF,cK,bQ,bE];rename_i aAg Vb x105 atL;obtain⟨q7,k7,rfl,xd⟩:=atL;clear Vb;have xJ:=t.blk _ _ H9.out.z;go_wp2_with(refine aU rfl 109 (.tmp 6) (.tmp 105) rfl _ #[.int .i64 a.base,.int .i64 n.level,.int .i64 n.next,.slice q9 n.ai.length c9,.slice q7 (i+2+(a.ak.length-(i+1))) k7] rfl rfl _ _ xJ aZ rfl cT ?_;intro w9 vJ oo);all_goals
    have rU:=H9.out.ext.trans t;have fI:=fo (aO HO9.out t) aq xJ oo;have vK:=fo xd aq xJ oo;have Vc:=fo (aO U8.out t) aq xJ oo;obtain⟨g1,g2,g3⟩:=gh fI;obtain⟨g4,g5,g6⟩:=gh vK;obtain⟨g7,g8,g9⟩:=gh Vc;have afy:=oo.ext rU af;have hrl:=Br.out.ext afy;have hty:gL w9 (some ⟨b5,o5,none⟩) 9:=gL.oe Vc;have afA:=CP Vc;have atM:gL w9 (some ⟨b5,o5+f,none⟩) 9:=fun g o e=>by
     simp only[mz,Addr.mk.injEq,kD] at e;obtain⟨rfl,_⟩:=e;exact hty _ _ rfl
    have e1:(l.take f).length=f:=kQ;have e2:(l.drop f).length=l.length-f:=eU;have r1:kX w9 v1 (l.take f):=by
     rw[<-HV1.out];exact⟨_,_,by rw[e1],afA.take f,by rw[e1];omega,g9,(fun h=>ot),hty⟩
    have r2:kX w9 v2 (l.drop f):=by
     rw[<-N7.out];exact⟨_,_,by rw[e2],afA.drop f,by rw[e2];omega,af,(fun h=>ot),atM⟩
    have DH:=asZ (vs:=vs) (V:=a.ak) (i:=i) (fun j hj _=>hrl.2 j hj) Hvl.out M r1 r2;have en:n.ai.length=(eD a.nd.ai i bound pg).length:=by rw[Jc.out]
    have el:(pR a.ak i (l.take f) (l.drop f)).length=i+2+(a.ak.length-(i+1)):=by rw[Lf M];omega
    have ec:vs.take i++v1::v2::vs.drop (i+1)=vs.take i++[v1,v2]++vs.drop (i+1):=av;have HZ:Hid (n={a.nd with ai:=eD a.nd.ai i bound pg}):=Jc;have hsub:=HZ.out;subst hsub;exact bY (pP Tryz.results96 _ _ _ _ _ _ rfl vJ cL rfl aZ) rfl ⟨afy,q9,c9,q7,k7,by unfold bn;simp only[el];rfl,
     ⟨g1,⟨_,g4,by rw[<-ec];exact DH⟩,g2,by simp only[el];exact g5,g6,gL.oe fI,gL.oe vK⟩⟩
 ·have Y:=ag (fun W e=>NX.out W e _ hf);rw[aC hf] at Z;have NZ:=Z.out;clear NX hf Z U;subst NZ;have DY:Hid (∀W,Ext w5 W->kX W (.slice q5 l.length L) l):=ag (fun W e=>kX.oe (aO r7.out e));have Lz:=ag (fun W (e:Ext w5 W)=>adS a q c (some ⟨F,B,none⟩) m i l q5 L W (Hv.out.ext (H5.out.ext.trans e)) M af (DY.out W e));clear DY;go_wp2_with(first
   | (go_at_call 107;refine(Y.out _ (Ext.refl _)).mono ?_;rintro e w6 ⟨rfl,C⟩;have H6:=H5.out.more C)
   | (refine bz (o:=⟨some 44,_,_,_,_,_⟩) rfl 109 (.tmp 4) rfl _ rfl _ _ _ H6.ar cL rfl aZ ?_)
   | (go_at_call 134;refine(Lz.out _ C).mono ?_;rintro e w7 ⟨E,q7,c7,rfl,Rn⟩;have G:=H6.more E)
   | (refine aU rfl 109 (.tmp 6) (.tmp 47) rfl _ (bn {a with ak:=a.ak.set i l} q c q7 c7) rfl rfl _ _ G.z aZ rfl (mE ..) ?_;intro w8 mU mc))
  exact bY (pP Tryz.results96 _ _ _ _ _ _ rfl mU cL rfl aZ) rfl ⟨mc.ext G.ext af,q,c,q7,c7,rfl,Rn.lE G.z aq aq aq mc⟩
end Go.Proofs.YteninnkbmoimgaaGreatDoor

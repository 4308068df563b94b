/- A part of the proof. -/
import Derived.Test.YteninnkbmoimgaaGreatDoorBJ
import Derived.Test.YteninnkbmoimgaaGreatDoorCC0
set_option linter.unusedSimpArgs false
set_option linter.unusedVariables false
set_option maxRecDepth 100000
set_option maxHeartbeats 16000000
namespace aD
theorem Sy:∀{b:List UInt8} {L:List aG},cR b L=true->∀k,k<L.length->((au L k).1.isEmpty=decide (k+1=L.length))
 | _,[],_,k,h=>jQ
 | b,x::L,g,k,h=>by
   obtain⟨_,d,_,_,f⟩:=iP g;cases k with
   | zero=>
     rw[uf,uZ,gu];show x.1=[]↔_;rw[d];constructor
     ·intro e;subst e;rfl
     ·intro e;exact gY zX
   | succ k=>
     have:=Sy f k nA;show(au L k).1.isEmpty=_;rw[this];simp
theorem ab7 {d:DS} {many:Bool} {V:List aB} {E:List aG} {low:List UInt8} {k:Nat} (h:k<V.length) (b:k<E.length):
 fC d many low (V.drop k) (E.drop k)=(!((V.getD k []).isEmpty&&many)&&eH d.interval (V.getD k [])&&jb d low (au E k).1 none (V.getD k [])&&fC d many (au E k).1 (V.drop (k+1)) (E.drop (k+1))):=by
 have e:au E k=E[k]:=by simp[au,List.getD,b]
 have f:V.getD k []=V[k]:=xZ;rw[gz h,gz b,fC,e,f]
def prevK (d:DS) (L:aB) (j:Nat):Option (List UInt8):=if j=0 then none else some (ax d (L.getD (j-1) []))
theorem ab8 {d:DS} {low below:List UInt8} {L:aB} {j:Nat} (h:j<L.length):
 jb d low below (prevK d L j) (L.drop j)=(cV d (L.getD j [])&&!bl (ax d (L.getD j [])) low&&(below.isEmpty||bl (ax d (L.getD j [])) below)&&sH (prevK d L j) (ax d (L.getD j []))&&jb d low below (prevK d L (j+1)) (L.drop (j+1))):=by
 have e:L.getD j []=L[j]:=xZ;have b:prevK d L (j+1)=some (ax d (L.getD j [])):=rfl;rw[gz h,jb,b,e]
theorem ajw (x:List UInt8):bl x []=false:=by cases x<;>rfl
end aD
namespace aD
open Go Go.RowKit
section
variable {P:Program} {ops:Array Oper} {Q:Exit->Act->World->Prop} {w0:World} {tail:List Oper} {ds:List Deferred} {rest:List Oper} {o:Oper} {L:List Fact}
theorem aoB {a:Act} {w:World} (m:Reads ops (aJ L) o a w) {g:Nat} {b:Bool} {t:Tmp} (f:o.guard=some (g,b)) (i:(ops[g]?).bind (·.dst)=some t) (l:L.getD t (Is undef)=Is undef):
 Region.wanted o (yielded ops a.tmps)=false:=by
 have d:=m t (by simp[Oper.looksAt,f,i]);unfold aJ at d;rw[l] at d;have e:a.tmps.getD t undef=undef:=d;have j:yielded ops a.tmps g=none:=by
  unfold yielded;rw[i];cases h:a.tmps[t]? with
  | none=>simp[h]
  | some x=>simp[h] at e;subst e;simp[h];rfl
 unfold Region.wanted;rw[f];simp only[j];rfl
theorem yw {g:Nat} {b:Bool} {t:Tmp} (e:o.guard=some (g,b)) (i:(ops[g]?).bind (·.dst)=some t) (d:L.getD t (Is undef)=Is undef)
 (h:nD P ops Q w0 tail ds rest (bZ L o.dst (Is undef))):nD P ops Q w0 tail ds (o::rest) L:=
 ⟨_,Is.ay undef,fun a w j f=>by unfold sK;rw[aA (by rw[aoB f e i d];simp)];rfl,h⟩
end
end aD
namespace Go.Proofs.YteninnkbmoimgaaGreatDoor
open Go.RowKit aD
theorem yY (d:DS) (a:Ar) (q:Option Addr) (c:Nat) (p:Option Addr) (m:Nat) (w:World) (Y:pW w a q c p m) (h1:a.nd.ai.length<=1000000) (h2:a.ak.length<=1000000) (h3:∀i,Small (a.ak.getD i [])):
 Calls Tryz.prog 70 #[.agg (az d),.agg (bn a q c p m)] w fun e w'=>e=.returned (.bool (dD d a))/\Ext w w':=by
 have HK:=ag (fun W=>Dp d W);have Hv:=ag Y;have H3:=ag h3;have n:Hid (dD d a=(dA d&&qO d a.base a.nd&&decide (a.ak.length=a.nd.ai.length)&&fC d (decide (1<a.ak.length)) [] a.ak a.nd.ai)):=ag rfl;clear h3;go_enter Tryz.func70,Tryz.ntmps70;go_upto_region 1 with(fail);refine aR (fun w0=>Ext w w0/\bI w0 w.heap.size d/\eS w0 (w.heap.size+1) a q c p m) (oJ w d a q c p m) ?_;rintro w0 ⟨he0,dr,ha0⟩;cases G:dA d
 ·rw[G] at HK n;clear G Y;go_wp2_with(first
   | (refine JR ?_)
   | (go_at_call 27;refine(HK.out _).mono ?_;rintro e w1 ⟨rfl,bU⟩;have hd1:=dr.ext bU;obtain⟨e0,e1,e2,e3,e4,la⟩:=(ha0.ext bU).cells))
  go_ret;exact⟨by rw[n.out];rfl,he0.trans bU⟩
 ·rw[G] at HK n;by_cases b1:a.base<1
  ·have Z:decide (a.base<1)=true:=bM b1;have hF:Hid (dD d a=false):=ag (by rw[n.out];unfold qO eX;rw[aM (show ¬1<=a.base by omega)];simp);clear G Y b1;exact Xe
  ·have Z:decide (a.base<1)=false:=aM b1;by_cases b2:16777208<a.base
   ·have i2:decide (16777208<a.base)=true:=bM b2;have hF:Hid (dD d a=false):=ag (by rw[n.out];unfold qO eX;rw[aM (show ¬a.base<=16777208 by omega)];simp);clear G Y b1 b2;exact Xe
   ·have i2:decide (16777208<a.base)=false:=aM b2;have R:eX a.base=true:=by unfold eX;rw[bM (show 1<=a.base by omega),bM (show a.base<=16777208 by omega)];rfl
    have I:=ag (fun W (e:Ext w W)=>abY d a.base q c a.nd W (Y.ai.ext e) h1 G R);rw[Sb R] at n;unfold dO at I;have O:=ag G;clear G Y b1 b2 R;cases hh:rV d a.base a.nd
    ·rw[hh] at I n;clear hh;go_wp2_with(first
     | (refine JR ?_)
     | (go_at_call 27;refine(HK.out _).mono ?_;rintro e w1 ⟨rfl,bU⟩;have hd1:=dr.ext bU;obtain⟨e0,e1,e2,e3,e4,la⟩:=(ha0.ext bU).cells)
     | (refine O7 ?_)
     | (go_at_call 68;refine(I.out _ (he0.trans bU)).mono ?_;rintro e w2 ⟨rfl,he2⟩;obtain⟨f0,f1,f2,f3,f4,lf⟩:=((ha0.ext bU).ext he2).cells))
     go_ret;exact⟨by rw[n.out];rfl,(he0.trans bU).trans he2⟩
    ·rw[hh] at I n;have V:eC a.nd=true:=by
      unfold rV kS at hh;simp only[eu] at hh;exact hh.1.1.1.1.2
     have J:=ag (Sy (ia.1 V).ai);have GG:=(ia.1 V).l2;clear hh V;by_cases u:a.ak.length=a.nd.ai.length
     ·have i3:((a.ak.length:Int)!=(a.nd.ai.length:Int))=false:=by rw[u];simp
      rw[bM u] at n;have CR:=ag u.symm;have hl2:a.ak.length<=120:=af;clear u;go_upto_region 3 with(first
      | (refine JR ?_)
      | (go_at_call 27;refine(HK.out _).mono ?_;rintro e w1 ⟨rfl,bU⟩;have hd1:=dr.ext bU;obtain⟨e0,e1,e2,e3,e4,la⟩:=(ha0.ext bU).cells)
      | (refine O7 ?_)
      | (go_at_call 68;refine(I.out _ (he0.trans bU)).mono ?_;rintro e w2 ⟨rfl,he2⟩;obtain⟨f0,f1,f2,f3,f4,lf⟩:=((ha0.ext bU).ext he2).cells))
      have Sz:=ag (hd1.ext he2);have SA:=ag ((ha0.ext bU).ext he2);have lJ:=ag ((he0.trans bU).trans he2);have GH:=ag (Hv.out.ext lJ.out);have SB:Hid (dD d a=fC d (decide (1<a.ak.length)) [] a.ak a.nd.ai):=ag (by rw[n.out];simp);clear dr ha0 hd1 he0 bU he2 n I HK Z i2 i3 e0 e1 e2 e3 e4 f0 f1 f2 f3 f4 la lf;go_upto_region 5 with(fail);go_loopw[5,6] (fun lo i wr=>∃k:Nat,k<=a.ak.length/\i=.int .i64 k/\lo=.string ⟨(sS a.nd.ai k).toArray⟩/\dD d a=fC d (decide (1<a.ak.length)) (sS a.nd.ai k) (a.ak.drop k) (a.nd.ai.drop k)/\Ext w2 wr) (fun _ i _=>a.ak.length-(intOf i).toNat)
      case atStart=>exact⟨0,bL _,rfl,rfl,SB.out,Ext.refl _⟩
      case round=>
       obtain⟨k,G,rfl,rfl,hiv,t⟩:=hrel;have zW:=ag hiv;have gZ:=ag t;have N:=ag (SA.out.ext t);obtain⟨e0,e1,e2,e3,e4,la⟩:=N.out.cells;have B:=Sz.out.ext t;clear hiv;by_cases hlt:k<a.ak.length
       ·have gB:(k:Int)<a.ak.length:=af;have g:k<a.nd.ai.length:=by have:=CR.out;omega
        obtain⟨ib,io,iv,rfl,hib,z,qi,ci,rfl,r,hr1,nY,GI⟩:=(GH.out.ak.ext t).at k hlt;obtain⟨gb,go,rfl,F,iz⟩:=(GH.out.ai.ext t).at k g;obtain⟨E,_⟩:=iz k g;have Mx:(k:Int)<a.nd.ai.length:=af;have rB:=ag (ab7 (d:=d) (many:=decide (1<a.ak.length)) (low:=sS a.nd.ai k) hlt g);have Qi:=ag (J.out k g);have Ft:=ag (aag a.nd.ai k);have XM:Hid (k=0->sS a.nd.ai k=[]):=ag (fun h=>by rw[h];rfl);have e7:wr.cell? ⟨w.heap.size,7,none⟩=some (.int .i64 d.interval):=ah.val B 7 _ rfl;have ld:=ah.lt B;have X:=H3.out k;have mV:Hid (∀W,Ext wr W->Calls Tryz.prog 107 #[.int .i64 d.interval,.slice qi (a.ak.getD k []).length ci] W fun e w'=>e=.returned (.bool (eH d.interval (a.ak.getD k [])))/\Ext W w'):=ag (fun W (e:Ext wr W)=>Zi qi ci _ (a.ak.getD k []) d.interval W (r.ext e) rfl X);have hLl:(a.ak.getD k []).length<=1000000:=X.1;have M:Hid ((a.ak.getD k []).isEmpty=decide ((a.ak.getD k []).length=0)):=ag (by cases a.ak.getD k []<;>rfl);clear iz GI t X g;generalize a.ak.getD k []=L at *;generalize(au a.nd.ai k).1=bp at *;generalize sS a.nd.ai k=low at *;by_cases nH:L.length=0
        ·have Z:((L.length:Int)==0)=true:=by rw[nH];rfl
         have tV:Hid (L.isEmpty=true):=ag (by rw[M.out];simp[nH]);have yj:Hid (L=[]):=ag (gY nH);by_cases yh:1<a.ak.length
         ·exact aay
         ·have i2:decide (1<(a.ak.length:Int))=false:=aM af;cases hf:eH d.interval L
          ·rw[hf] at mV;have hF:Hid (dD d a=false):=ag Km;clear nH yh hf;exact aaA
          ·rw[hf] at mV;have hN:Hid (dD d a=fC d (decide (1<a.ak.length)) bp (a.ak.drop (k+1)) (a.nd.ai.drop (k+1))):=ag XI;clear yh hf nH;go_upto_region 10 with(go_at_call 107;refine(mV.out wr (Ext.refl wr)).mono ?_;rintro e w4 ⟨rfl,ek⟩);have tX:=ag (gZ.out.trans ek);have Aj:=ag (N.out.ext ek);have jV:=fM F ek.size;have Fs:=(ek.cell gb _ F).trans E;obtain⟨x0,x1,x2,x3,x4,lx⟩:=Aj.out.cells;clear e0 e1 e2 e3 e4 la e7 ld z E r B ek Z i2;have SC:=yj.out;subst SC;clear M tV yj mV;go_upto_region 11 with(fail);go_loopw[8] (fun i wj=>i=.int .i64 0/\wj=w4) (fun _ _=>0)
           case atStart=>exact⟨rfl,rfl⟩
           case round=>
            exact Y3
        ·have Z:((L.length:Int)==0)=false:=wJ.2 af;have tV:Hid (L.isEmpty=false):=ag (by rw[M.out];simp[nH]);cases hf:eH d.interval L
         ·rw[hf] at mV;have hF:Hid (dD d a=false):=ag Km;clear nH hf;exact aaA
         ·rw[hf] at mV;have hN:Hid (dD d a=(jb d low bp none L&&fC d (decide (1<a.ak.length)) bp (a.ak.drop (k+1)) (a.nd.ai.drop (k+1)))):=ag (by rw[zW.out,rB.out,hf,tV.out];simp);clear hf nH;go_upto_region 10 with(go_at_call 107;refine(mV.out wr (Ext.refl wr)).mono ?_;rintro e w4 ⟨rfl,ek⟩);have tX:=ag (gZ.out.trans ek);have Aj:=ag (N.out.ext ek);have SD:=ag (B.ext ek);have SE:=ag (r.ext ek);have jV:=fM F ek.size;have Fs:=(ek.cell gb _ F).trans E;clear e0 e1 e2 e3 e4 la e7 ld z E r B ek Z;go_upto_region 11 with(fail);go_loopw[8] (fun i wr=>∃j:Nat,j<=L.length/\i=.int .i64 j/\jb d low bp none L=jb d low bp (prevK d L j) (L.drop j)/\(0<j->cV d (L.getD (j-1) [])=true)/\Ext w4 wr) (fun i _=>L.length-(intOf i).toNat)
          case atStart=>exact⟨0,bL _,rfl,rfl,fun h=>absurd h (Nat.lt_irrefl 0),Ext.refl _⟩
          case round=>
           obtain⟨j,hj,rfl,hrc,GJ,qJ⟩:=hrel;have sM:=ag hrc;have Qo:=ag GJ;have GK:=ag qJ;clear hrc GJ;by_cases U:j<L.length
           ·have YY:(j:Int)<L.length:=af;obtain⟨rb,ro,rfl,C,S⟩:=(SE.out.ext qJ).at j U;have hcj:=S j U;have GM:=ag (fun(h:0<j)=>S (j-1) af);have HS:=ag (ab8 (d:=d) (low:=low) (below:=bp) U);have SF:Hid (0<j+1->cV d (L.getD (j+1-1) [])=cV d (L.getD j [])):=ag (fun _=>rfl);have Fp:Hid (prevK d L j=if j=0 then none else some (ax d (L.getD (j-1) []))):=ag rfl;have KS:=ag (fun W=>Gs d (L.getD j []) O.out W);have SG:=ag (fun W h=>vf d (L.getD j []) O.out h W);have zS:=SD.out.ext qJ;have SH:=C;generalize L.getD j []=x at *;generalize L.getD (j-1) []=y at *;clear S qJ;go_upto_region 13 with(fail);cases f:cV d x
            ·rw[f] at KS;have hF:Hid (dD d a=false):=ag (by rw[hN.out,sM.out,HS.out,f];simp);clear f;refine eR 200 (Ext.refl wr) aj aj aj ?_;refine gV ?_;repeat (first
              | (refine XZ ?_)
              | (refine ym ?_)
              | (refine fR ?_)
              | (refine iq ?_)
              | (refine bT (o:=⟨some 81,_,_,_,_,_⟩) (v:=.bool false) rfl ?_ ?_
                 ·exact Y7
                 refine aE ?_)
              | (refine fk ?_))
             intro w2 he2;repeat (first | with_reducible refine cH _ _ _ _ ?_ | (with_reducible refine cI _ _ _ _ ?_;intro _ _) | with_reducible refine cJ _ _ ?_)
             simp only[cF,cK,bQ,bE];go_wp2_with fail;go_ret;exact⟨tK,((lJ.out.trans tX.out).trans GK.out).trans he2⟩
            ·rw[f] at KS;have HK:=ag (fun W=>SG.out W f);have Cs:Hid (dD d a=((!bl (ax d x) low&&(bp.isEmpty||bl (ax d x) bp)&&sH (prevK d L j) (ax d x)&&jb d low bp (prevK d L (j+1)) (L.drop (j+1)))&&fC d (decide (1<a.ak.length)) bp (a.ak.drop (k+1)) (a.nd.ai.drop (k+1)))):=ag (by rw[hN.out,sM.out,HS.out,f];simp only[wC]);have Fl:Hid (jb d low bp none L=(!bl (ax d x) low&&(bp.isEmpty||bl (ax d x) bp)&&sH (prevK d L j) (ax d x)&&jb d low bp (prevK d L (j+1)) (L.drop (j+1)))):=ag (by rw[sM.out,HS.out,f];simp only[wC]);have Ag:Hid (0<j+1->cV d (L.getD (j+1-1) [])=true):=ag (fun h=>by rw[SF.out h];exact f);clear f;refine eR 200 (Ext.refl wr) aj aj aj ?_;refine gV ?_;repeat (first
              | (refine XZ ?_)
              | (refine ym ?_)
              | (refine fR ?_)
              | (refine iq ?_)
              | (refine bT (o:=⟨some 81,_,_,_,_,_⟩) (v:=.bool true) rfl ?_ ?_
                 ·exact Y7
                 refine aE ?_)
              | (refine fk ?_))
             intro w2 he2;repeat (first | with_reducible refine cH _ _ _ _ ?_ | (with_reducible refine cI _ _ _ _ ?_;intro _ _) | with_reducible refine cJ _ _ ?_)
             simp only[cF,cK,bQ,bE];have GN:=ag (GK.out.trans he2);have T:=zS.ext he2;have aoC:=(he2.cell rb _ C).trans hcj;have D:=fM C he2.size;have H:=ag (fun(h:0<j)=>(he2.cell rb _ C).trans (GM.out h));clear he2 hcj zS C SH KS GM;go_upto_region 15 with(fail);generalize SI:ax d x=kx at *;clear SI;refine eR 200 (Ext.refl w2) aj aj aj ?_;simp only[cY,eF,gj,dV,dP,gC,dh,dQ];repeat (first
              | (refine bT (o:=⟨some 83,_,_,_,_,_⟩) (v:=.agg (az d)) rfl ?_ ?_
                 ·intro a w' he hr K hK;simp[Reads,Oper.looksAt,Op.operands,aJ,Is] at hr;exact eG 23 (.tmp 2) rfl (w.heap.size) dX _ _ _ _ (he.blk _ _ T) gr rfl gD (hK _ (Ext.refl _))
                 refine aE ?_)
              | (refine ym ?_)
              | (refine fR ?_)
              | (refine iq ?_)
              | (refine bT (o:=⟨some 88,_,_,_,_,_⟩) (v:=.string ⟨kx.toArray⟩) rfl ?_ ?_
                 ·exact Y9
                 refine aE ?_)
              | (refine fk ?_))
             intro w2 he2;repeat (first | with_reducible refine cH _ _ _ _ ?_ | (with_reducible refine cI _ _ _ _ ?_;intro _ _) | with_reducible refine cJ _ _ ?_)
             simp only[cF,cK,bQ,bE];have ox:=ag (GN.out.trans he2);have CS:=ag (T.ext he2);have aoD:=fM D he2.size;have Qn:=ag (fun(h:0<j)=>(he2.cell rb _ D).trans (H.out h));clear T aoC D H he2 HK GN;generalize w2=w7 at *;obtain⟨x0,x1,x2,x3,x4,lx⟩:=(Aj.out.ext ox.out).cells;have ays:=(ox.out.cell gb _ jV).trans Fs;have Sq:=fM jV ox.out.size;go_upto_region 16 with(fail);rcases CA j with l | l
             ·have v1:decide (0<(j:Int))=false:=aM af;have v1':¬0<j:=af;have hab:Hid (sH (prevK d L j) kx=true):=ag (by rw[Fp.out,aC l];rfl);clear l;exact XL
             ·have v1:decide (0<(j:Int))=true:=bM af;have v1':0<j:=l;have v3:(j:Int)-1=((j-1:Nat):Int):=af;have v4:((j-1:Nat):Int)<(L.length:Int):=af;have KN:=Qn.out l;have Fq:=Qo.out l;have mQ:=ag (fun W=>vf d y O.out Fq W);have Kg:Hid (prevK d L j=some (ax d y)):=ag (by rw[Fp.out,aA af]);generalize ax d y=ky at *;clear l Fq;cases hb:bl ky kx
              ·have v2:Go.Op.bytesLess ky kx=false:=hb;have hF:Hid (dD d a=false):=ag W6;clear hb;exact XO
              ·have v2:Go.Op.bytesLess ky kx=true:=hb;have hab:Hid (sH (prevK d L j) kx=true):=ag (by rw[Kg.out];exact hb);clear hb;exact XL
           ·exact YX
       ·exact aax
     ·have i3:((a.ak.length:Int)!=(a.nd.ai.length:Int))=true:=aY;rw[aM u] at n;have hF:Hid (dD d a=false):=ag (by rw[n.out];simp);clear u;go_wp2_with(first
      | (refine JR ?_)
      | (go_at_call 27;refine(HK.out _).mono ?_;rintro e w1 ⟨rfl,bU⟩;have hd1:=dr.ext bU;obtain⟨e0,e1,e2,e3,e4,la⟩:=(ha0.ext bU).cells)
      | (refine O7 ?_)
      | (go_at_call 68;refine(I.out _ (he0.trans bU)).mono ?_;rintro e w2 ⟨rfl,he2⟩;obtain⟨f0,f1,f2,f3,f4,lf⟩:=((ha0.ext bU).ext he2).cells))
      go_ret;exact⟨tK,(he0.trans bU).trans he2⟩
end Go.Proofs.YteninnkbmoimgaaGreatDoor

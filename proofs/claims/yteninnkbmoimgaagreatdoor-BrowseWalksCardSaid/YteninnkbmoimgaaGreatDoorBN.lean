/- A part of the proof. -/
import Derived.Test.YteninnkbmoimgaaGreatDoorBK
import Derived.Test.YteninnkbmoimgaaGreatDoorFF
set_option linter.unusedSimpArgs false
set_option linter.unusedVariables false
set_option maxRecDepth 100000
set_option maxHeartbeats 16000000
namespace Go.Proofs.YteninnkbmoimgaaGreatDoor
open Go.RowKit aD
theorem Ts (d:DS) (a:Ar) (q:Option Addr) (c:Nat) (p:Option Addr) (m:Nat) (w:World) (hv:pW w a q c p m) (h1:a.nd.ai.length<=1000000) (h2:a.ak.length<=1000000) (h3:∀i,Small (a.ak.getD i [])):
 Calls Tryz.prog 123 #[.agg (az d),.agg (bn a q c p m)] w fun e w'=>e=.returned (.bool (dD d a))/\Ext w w':=by
 have O:=ag (fun W=>abp d W);have Hv:=ag hv;have H3:=ag h3;have B:Hid (dD d a=(dA d&&qO d a.base a.nd&&decide (a.ak.length=a.nd.ai.length)&&fC d (decide (1<a.ak.length)) [] a.ak a.nd.ai)):=ag rfl;clear h3;go_enter Tryz.func123,Tryz.ntmps123;go_upto_region 1 with(fail);refine aR (fun w0=>Ext w w0/\bI w0 w.heap.size d/\eS w0 (w.heap.size+1) a q c p m) (oJ w d a q c p m) ?_;rintro w0 ⟨l,dr,D⟩;cases X:dA d
 ·rw[X] at O B;clear X hv;go_wp2_with(first
   | (refine OM ?_)
   | (go_at_call 118;refine(O.out _).mono ?_;rintro e w1 ⟨rfl,f⟩;have hd1:=dr.ext f;have ha1:=D.ext f))
  go_ret;exact⟨by rw[B.out];rfl,l.trans f⟩
 ·rw[X] at O B;have H:=ag (fun W (e:Ext w W)=>adl d a q c p m W X (hv.ext e) h1);have KO:=ag X;clear X hv;cases hh:qO d a.base a.nd
  ·rw[hh] at H B;clear hh;go_wp2_with(first
    | (refine OM ?_)
    | (go_at_call 118;refine(O.out _).mono ?_;rintro e w1 ⟨rfl,f⟩;have hd1:=dr.ext f;have ha1:=D.ext f)
    | (refine O8 ?_)
    | (refine O0 ?_)
    | (go_at_call 121;refine(H.out _ (l.trans f)).mono ?_;rintro e w2 ⟨rfl,he2⟩;obtain⟨f0,f1,f2,f3,f4,lf⟩:=(ha1.ext he2).cells))
   go_ret;exact⟨by rw[B.out];rfl,(l.trans f).trans he2⟩
  ·rw[hh] at H B;have Z:eC a.nd=true:=by
    unfold qO kS at hh;simp only[eu] at hh;exact hh.1.1.1.2.1.2
   have R:=ag (Sy (ia.1 Z).ai);have GG:=(ia.1 Z).l2;clear hh Z;by_cases z:a.ak.length=a.nd.ai.length
   ·have i3:((a.ak.length:Int)!=(a.nd.ai.length:Int))=false:=by rw[z];simp
    rw[bM z] at B;have CR:=ag z.symm;have hl2:a.ak.length<=120:=af;clear z;go_upto_region 3 with(first
     | (refine OM ?_)
     | (go_at_call 118;refine(O.out _).mono ?_;rintro e w1 ⟨rfl,f⟩;have hd1:=dr.ext f;have ha1:=D.ext f)
     | (refine O8 ?_)
     | (refine O0 ?_)
     | (go_at_call 121;refine(H.out _ (l.trans f)).mono ?_;rintro e w2 ⟨rfl,he2⟩;obtain⟨f0,f1,f2,f3,f4,lf⟩:=(ha1.ext he2).cells))
    have Sz:=ag (hd1.ext he2);have SA:=ag (ha1.ext he2);have lJ:=ag ((l.trans f).trans he2);have GH:=ag (Hv.out.ext lJ.out);have SB:Hid (dD d a=fC d (decide (1<a.ak.length)) [] a.ak a.nd.ai):=ag (by rw[B.out];simp);clear dr D hd1 ha1 l f he2 B H O i3;go_upto_region 5 with(fail);clear f0 f1 f2 f3 f4 lf;go_loopw[34,5] (fun i lo wr=>∃k:Nat,k<=a.ak.length/\i=.int .i64 k/\lo=.string ⟨(sS a.nd.ai k).toArray⟩/\dD d a=fC d (decide (1<a.ak.length)) (sS a.nd.ai k) (a.ak.drop k) (a.nd.ai.drop k)/\Ext w2 wr) (fun i _ _=>a.ak.length-(intOf i).toNat)
    case atStart=>exact⟨0,bL _,rfl,rfl,SB.out,Ext.refl _⟩
    case round=>
     obtain⟨k,X,rfl,rfl,hiv,u⟩:=hrel;have zW:=ag hiv;have gZ:=ag u;have T:=ag (SA.out.ext u);obtain⟨e0,e1,e2,e3,e4,la⟩:=T.out.cells;have F:=Sz.out.ext u;clear hiv;by_cases hlt:k<a.ak.length
     ·have gB:(k:Int)<a.ak.length:=af;have n:k<a.nd.ai.length:=by have:=CR.out;omega
      obtain⟨ib,io,iv,rfl,hib,E,qi,ci,rfl,t,hr1,nY,GI⟩:=(GH.out.ak.ext u).at k hlt;obtain⟨gb,go,rfl,M,iz⟩:=(GH.out.ai.ext u).at k n;obtain⟨I,_⟩:=iz k n;have Mx:(k:Int)<a.nd.ai.length:=af;have rB:=ag (ab7 (d:=d) (many:=decide (1<a.ak.length)) (low:=sS a.nd.ai k) hlt n);have Qi:=ag (R.out k n);have Ft:=ag (aag a.nd.ai k);have XM:Hid (k=0->sS a.nd.ai k=[]):=ag (fun h=>by rw[h];rfl);have e7:wr.cell? ⟨w.heap.size,7,none⟩=some (.int .i64 d.interval):=ah.val F 7 _ rfl;have ld:=ah.lt F;have m6:=H3.out k;have mV:Hid (∀W,Ext wr W->Calls Tryz.prog 159 #[.int .i64 d.interval,.slice qi (a.ak.getD k []).length ci] W fun e w'=>e=.returned (.bool (eH d.interval (a.ak.getD k [])))/\Ext W w'):=ag (fun W (e:Ext wr W)=>ako qi ci _ (a.ak.getD k []) d.interval W (t.ext e) rfl hr1 nY m6);have hLl:(a.ak.getD k []).length<=1000000:=m6.1;have S:Hid ((a.ak.getD k []).isEmpty=decide ((a.ak.getD k []).length=0)):=ag (by cases a.ak.getD k []<;>rfl);clear iz GI u m6 n;generalize a.ak.getD k []=L at *;generalize(au a.nd.ai k).1=bp at *;generalize sS a.nd.ai k=low at *;by_cases nH:L.length=0
      ·have i1:((L.length:Int)==0)=true:=by rw[nH];rfl
       have tV:Hid (L.isEmpty=true):=ag (by rw[S.out];simp[nH]);have yj:Hid (L=[]):=ag (gY nH);by_cases yh:1<a.ak.length
       ·exact aay
       ·have i2:decide (1<(a.ak.length:Int))=false:=aM af;cases hf:eH d.interval L
        ·rw[hf] at mV;have hF:Hid (dD d a=false):=ag Km;clear nH yh hf;exact aaB
        ·rw[hf] at mV;have hN:Hid (dD d a=fC d (decide (1<a.ak.length)) bp (a.ak.drop (k+1)) (a.nd.ai.drop (k+1))):=ag XI;clear yh hf nH;go_upto_region 10 with(go_at_call 159;refine(mV.out wr (Ext.refl wr)).mono ?_;rintro e w4 ⟨rfl,ek⟩);have tX:=ag (gZ.out.trans ek);have Aj:=ag (T.out.ext ek);have jV:=fM M ek.size;have Fs:=(ek.cell gb _ M).trans I;obtain⟨x0,x1,x2,x3,x4,lx⟩:=Aj.out.cells;clear e0 e1 e2 e3 e4 la e7 ld E I t F ek i1 i2;have SC:=yj.out;subst SC;clear S tV yj mV;go_upto_region 11 with(fail);go_loopw[64] (fun i wj=>i=.int .i64 0/\wj=w4) (fun _ _=>0)
         case atStart=>exact⟨rfl,rfl⟩
         case round=>
          exact Y3
      ·have i1:((L.length:Int)==0)=false:=wJ.2 af;have tV:Hid (L.isEmpty=false):=ag (by rw[S.out];simp[nH]);cases hf:eH d.interval L
       ·rw[hf] at mV;have hF:Hid (dD d a=false):=ag Km;clear nH hf;exact aaB
       ·rw[hf] at mV;have hN:Hid (dD d a=(jb d low bp none L&&fC d (decide (1<a.ak.length)) bp (a.ak.drop (k+1)) (a.nd.ai.drop (k+1)))):=ag (by rw[zW.out,rB.out,hf,tV.out];simp);clear hf nH;go_upto_region 10 with(go_at_call 159;refine(mV.out wr (Ext.refl wr)).mono ?_;rintro e w4 ⟨rfl,ek⟩);have tX:=ag (gZ.out.trans ek);have Aj:=ag (T.out.ext ek);have SD:=ag (F.ext ek);have SE:=ag (t.ext ek);have jV:=fM M ek.size;have Fs:=(ek.cell gb _ M).trans I;clear e0 e1 e2 e3 e4 la e7 ld E I t F ek i1;go_upto_region 11 with(fail);go_loopw[64] (fun i wr=>∃j:Nat,j<=L.length/\i=.int .i64 j/\jb d low bp none L=jb d low bp (prevK d L j) (L.drop j)/\(0<j->cV d (L.getD (j-1) [])=true)/\Ext w4 wr) (fun i _=>L.length-(intOf i).toNat)
        case atStart=>exact⟨0,bL _,rfl,rfl,fun h=>absurd h (Nat.lt_irrefl 0),Ext.refl _⟩
        case round=>
         obtain⟨j,hj,rfl,hrc,GJ,qJ⟩:=hrel;have sM:=ag hrc;have Qo:=ag GJ;have GK:=ag qJ;clear hrc GJ;by_cases Y:j<L.length
         ·have YY:(j:Int)<L.length:=af;obtain⟨rb,ro,rfl,N,U⟩:=(SE.out.ext qJ).at j Y;have hcj:=U j Y;have GM:=ag (fun(h:0<j)=>U (j-1) af);have H:=ag (ab8 (d:=d) (low:=low) (below:=bp) Y);have SF:Hid (0<j+1->cV d (L.getD (j+1-1) [])=cV d (L.getD j [])):=ag (fun _=>rfl);have Fp:Hid (prevK d L j=if j=0 then none else some (ax d (L.getD (j-1) []))):=ag rfl;have C:=ag (fun W=>amX d (L.getD j []) KO.out W);have SG:=ag (fun W h=>Qp d (L.getD j []) KO.out h W);have J:=SD.out.ext qJ;have SH:=N;generalize L.getD j []=x at *;generalize L.getD (j-1) []=y at *;clear U;cases g:cV d x
          ·rw[g] at C;have hF:Hid (dD d a=false):=ag (by rw[hN.out,sM.out,H.out,g];simp);clear g;go_wp2_with(first
            | ((with_reducible refine aW 69 ?_);refine bu rfl (.tmp 2) rfl _ rfl d J ?_)
            | (go_at_call 160;refine(C.out _).mono ?_;rintro e w6 ⟨rfl,r⟩))
           go_ret;exact⟨tK,((lJ.out.trans tX.out).trans GK.out).trans r⟩
          ·rw[g] at C;have HK:=ag (fun W=>SG.out W g);have Cs:Hid (dD d a=((!bl (ax d x) low&&(bp.isEmpty||bl (ax d x) bp)&&sH (prevK d L j) (ax d x)&&jb d low bp (prevK d L (j+1)) (L.drop (j+1)))&&fC d (decide (1<a.ak.length)) bp (a.ak.drop (k+1)) (a.nd.ai.drop (k+1)))):=ag (by rw[hN.out,sM.out,H.out,g];simp only[wC]);have Fl:Hid (jb d low bp none L=(!bl (ax d x) low&&(bp.isEmpty||bl (ax d x) bp)&&sH (prevK d L j) (ax d x)&&jb d low bp (prevK d L (j+1)) (L.drop (j+1)))):=ag (by rw[sM.out,H.out,g];simp only[wC]);have Ag:Hid (0<j+1->cV d (L.getD (j+1-1) [])=true):=ag (fun h=>by rw[SF.out h];exact g);clear g;generalize SI:ax d x=kx at *;clear SI;go_upto_region 16 with(first
            | ((with_reducible refine aW 69 ?_);refine bu rfl (.tmp 2) rfl _ rfl d J ?_)
            | (go_at_call 160;refine(C.out _).mono ?_;rintro e w6 ⟨rfl,r⟩;have V:=J.ext r)
            | ((with_reducible refine aW 73 ?_);refine bu rfl (.tmp 2) rfl _ rfl d V ?_)
            | (go_at_call 125;refine(HK.out _).mono ?_;rintro e w7 ⟨rfl,G⟩))
           have ox:=ag (GK.out.trans (r.trans G));have CS:=ag (V.ext G);have aoD:=fM N (r.trans G).size;have Qn:=ag (fun(h:0<j)=>((r.trans G).cell rb _ N).trans (GM.out h));clear V J hcj N SH GM r G HK C qJ;cases hb:bl kx low
           ·have u1:Go.Op.bytesLess kx low=false:=hb;have hlo:Hid (bl kx low=false):=ag hb;clear hb;cases hE:bp.isEmpty
            ·have u2:(bp !=[])=true:=by cases bp with
              | nil=>cases hE
              | cons=>rfl
             have u4:(bp==[])=false:=by cases bp with
              | nil=>cases hE
              | cons=>rfl
             clear hE;cases hb:bl kx bp
             ·have u3:Go.Op.bytesLess kx bp=false:=hb;have hF:Hid (dD d a=false):=ag (by
               have h9:bp.isEmpty=false:=by cases bp with
                | nil=>cases u4
                | cons=>rfl
               rw[Cs.out,hb,h9];simp)
              exact YW
             ·have u3:Go.Op.bytesLess kx bp=true:=hb;have hbe:Hid ((bp.isEmpty||bl kx bp)=true):=ag (by rw[hb];simp);clear hb;exact YV
            ·have xo:bp=[]:=uZ.1 hE;clear hE;subst xo;have hbe:Hid ((List.isEmpty ([]:List UInt8)||bl kx [])=true):=ag rfl;exact YV
           ·have u1:Go.Op.bytesLess kx low=true:=hb;have hF:Hid (dD d a=false):=ag (by rw[Cs.out,hb];simp);exact YW
         ·exact YX
     ·exact aax
   ·have i3:((a.ak.length:Int)!=(a.nd.ai.length:Int))=true:=aY;rw[aM z] at B;have hF:Hid (dD d a=false):=ag (by rw[B.out];simp);clear z;go_wp2_with(first
     | (refine OM ?_)
     | (go_at_call 118;refine(O.out _).mono ?_;rintro e w1 ⟨rfl,f⟩;have hd1:=dr.ext f;have ha1:=D.ext f)
     | (refine O8 ?_)
     | (refine O0 ?_)
     | (go_at_call 121;refine(H.out _ (l.trans f)).mono ?_;rintro e w2 ⟨rfl,he2⟩;obtain⟨f0,f1,f2,f3,f4,lf⟩:=(ha1.ext he2).cells))
    go_ret;exact⟨tK,(l.trans f).trans he2⟩
end Go.Proofs.YteninnkbmoimgaaGreatDoor

/- A part of the proof. -/
import Derived.Test.YteninnkbmoimgaaGreatDoorRows
import Derived.Test.YteninnkbmoimgaaGreatDoorZw
set_option linter.unusedSimpArgs false
set_option linter.unusedVariables false
set_option maxRecDepth 100000
set_option maxHeartbeats 16000000
variable{P:Prop}
theorem mB(h:P:=by
 go_enter Tryz.func43,Tryz.ntmps43;go_wp2_with(go_at_call 63;refine(Rj _ _ _ _).mono ?_;rintro e w' ⟨rfl,rfl⟩);all_goals go_ret
 all_goals exact⟨jz (tM (by unfold sC;omega)),Ext.alloc _ _⟩):P:=h
theorem yz(h:P:=by
 first
  | exact hK _ (Ext.refl _)
  | (go_at_call 125;refine(mQ.out _).mono ?_;rintro e w'' ⟨rfl,kP⟩;exact hK _ kP)):P:=h
theorem aan(h:P:=by
 go_wp2;go_ret;exact⟨by rw[HR.out];rfl,Ext.alloc _ _⟩):P:=h
theorem FW(h:P:=by
 go_wp2;go_ret;exact⟨by rw[hD.out];rfl,he0.trans (gZ.out.trans (Ext.alloc _ _))⟩):P:=h
theorem Xa(h:P:=by
 go_wp2_with((with_reducible refine aW 47 ?_);refine Rk rfl (.tmp 44) (.tmp 46) rfl rfl Lx pg rfl hwf.out false iZ.out ?_);go_ret;exact⟨by rw[FX.out,hF.out];rfl,oG.out⟩):P:=h
theorem aap(h:P:=by
 rw[h2] at hU;clear h1 h2;go_enter Tryz.func155,Tryz.ntmps155;go_wp2_with(go_at_call 174;refine(hU _).mono ?_;rintro e w' ⟨rfl,n,rfl⟩);go_ret;exact⟨CG hE.out.symm,n,rfl⟩):P:=h
theorem aaq(h:P:=by
 clear hb2 qB;go_wp2_with(go_at_call 183;refine(HP.out _).mono ?_;rintro e w2 ⟨rfl,rfl⟩);go_ret;exact⟨by rw[hD.out];rfl,he0.trans (gZ.out.trans (Ext.alloc _ _))⟩):P:=h
theorem Ly(h:P:=by
 go_wp2;go_ret;exact⟨by rw[HR.out,hD.out];rfl,HX1.out⟩):P:=h
theorem aar(h:P:=by
 have e1:decide (a<=n)=true:=bM h1;have e2:decide (n<=b)=true:=bM h2;go_wp2_with fail;go_ret;exact⟨rfl,rfl⟩):P:=h
theorem Db(h:P:=by
 go_enter Tryz.func43,Tryz.ntmps43;go_wp2_with(go_at_call 63;refine(Rj _ _ _ _).mono ?_;rintro e w' ⟨rfl,rfl⟩);all_goals go_ret
 all_goals first | exact⟨jz (tM vM),Ext.alloc _ _⟩ | exact⟨jz (FY af (.inl xV)),Ext.alloc _ _⟩ | exact⟨jz (FY af (.inr (.inl xV))),Ext.alloc _ _⟩ | exact⟨jz (FY af (.inr (.inr (.inl xV)))),Ext.alloc _ _⟩ | exact⟨jz (FY af (.inr (.inr (.inr (.inl xV))))),Ext.alloc _ _⟩ | exact⟨jz (alc af ajr af af af af),Ext.alloc _ _⟩):P:=h
theorem Xb(h:P:=by
 have jA:=jc.blk _ _ Rl;have kI:=FZ.trans jc;clear k0 k1 i0 l0 lq FZ xR yK Rl jc HT;go_wp2_with(first
  | (refine aiI ?_)
  | (refine aU rfl 37 (.tmp 4) (.tmp 55) rfl _ #[.string ⟨y1.toArray⟩,.string ⟨y2.toArray⟩] rfl rfl _ _ jA fE rfl (nU _ _) ?_;intro w5 nG mD))
 exact bY (dM Tryz.results30 _ _ _ _ _ _ rfl nG lW rfl fE) rfl ⟨ajo,mD.ext kI af⟩):P:=h
theorem Xc(h:P:=by
 go_wp2_with(first
  | (refine Wk ?_)
  | (go_at_call 88;refine(Dc.out wr (Ext.refl wr)).mono ?_;rintro e w5 ⟨rfl,uk⟩;have nG:=uk.blk _ _ vc.out)
  | (refine dW (o:=⟨some 108,_,_,_,_,_⟩) rfl 106 #[] rfl [] rfl _ uK ?_)
  | (refine aU rfl 106 (.tmp 4) (.tmp 108) rfl _ #[.int .i64 0,.int .i64 0,.slice none 0 0] rfl rfl _ _ nG bq rfl cT ?_;intro w6 pT iw))
 exact bY (dM Tryz.results67 _ _ _ _ _ _ rfl pT cZ rfl bq) rfl (HO.out _ _ (iw.ext (ve.out.trans uk) (aH _)) rfl)):P:=h
theorem Rm(h:P:=by
 go_enter Tryz.func43,Tryz.ntmps43;go_wp2_with(go_at_call 63;refine(Rj _ _ _ _).mono ?_;rintro e w' ⟨rfl,rfl⟩);all_goals go_ret
 all_goals first | exact⟨jz (tM vM),Ext.alloc _ _⟩ | exact⟨jz (aau OT OT),Ext.alloc _ _⟩):P:=h
theorem aav(h:P:=by
 go_wp2_with(first
  | (refine ajp ?_)
  | (go_at_call 134;refine(Lz.out _ (Ext.refl _)).mono ?_;rintro e w7 ⟨rM,q7,c7,rfl,Rn⟩;have H7:=HS.out.pr.more rM)
  | (refine aU rfl 109 (.tmp 6) (.tmp 77) rfl _ (bn {a with ak:=a.ak.set i O} q c q7 c7) rfl rfl _ _ H7.z aZ rfl (mE ..) ?_;intro w8 mU mc))
 exact bY (dM Tryz.results91 _ _ _ _ _ _ rfl mU cL rfl aZ) rfl ⟨mc.ext H7.ext af,by rw[aC rfl];exact⟨q,c,q7,c7,rfl,Rn.lE H7.z aq aq aq mc⟩⟩):P:=h
theorem Xd(h:P:=by
 go_wp2_with(first
  | (go_at_call 119;refine(HB.out _).mono ?_;rintro e w1 ⟨rfl,rfl⟩)
  | (refine OY ?_)
  | (go_at_call 153;refine(HV.out _ he0).mono ?_;rintro e w2 ⟨rfl,he2⟩;have ha2:=ha0.ext he2;have pU:=dr.ext he2;obtain⟨e0,e1,e2,e3,e4,LB⟩:=ha2.cells;have e8:=ah.val pU 8 _ rfl;have LC:=ah.lt pU))
 go_ret;exact⟨nR,he0.trans he2⟩):P:=h
theorem aax(h:P:=by
 have gB:decide ((k:Int)<a.ak.length)=false:=aM af;have hF:Hid (dD d a=true):=ag (by
  rw[zW.out,jI af,jI (by have:=CR.out;omega)];rfl)
 go_wp2;go_ret;exact⟨tK,lJ.out.trans gZ.out⟩):P:=h
theorem Dd(h:P:=by
 clear hno;go_enter Tryz.func169,Tryz.ntmps169;exact aan):P:=h
theorem De(h:P:=by
 clear hno;go_enter Tryz.func126,Tryz.ntmps126;exact aan):P:=h
theorem aay(h:P:=by
 have i2:decide (1<(a.ak.length:Int))=true:=bM af;have hF:Hid (dD d a=false):=ag (by rw[zW.out,rB.out,tV.out,bM yh];simp);clear nH yh;go_wp2;go_ret;exact⟨tK,lJ.out.trans gZ.out⟩):P:=h
theorem Xe(h:P:=by
 go_wp2_with(first
  | (refine JR ?_)
  | (go_at_call 27;refine(HK.out _).mono ?_;rintro e w1 ⟨rfl,bU⟩;have hd1:=dr.ext bU;obtain⟨e0,e1,e2,e3,e4,la⟩:=(ha0.ext bU).cells))
 go_ret;exact⟨tK,he0.trans bU⟩):P:=h
theorem aaA(h:P:=by
 go_wp2_with(go_at_call 107;refine(mV.out wr (Ext.refl wr)).mono ?_;rintro e w4 ⟨rfl,ek⟩);go_ret;exact⟨tK,(lJ.out.trans gZ.out).trans ek⟩):P:=h
theorem aaB(h:P:=by
 go_wp2_with(go_at_call 159;refine(mV.out wr (Ext.refl wr)).mono ?_;rintro e w4 ⟨rfl,ek⟩);go_ret;exact⟨tK,(lJ.out.trans gZ.out).trans ek⟩):P:=h
theorem LF(h:P:=by
 go_wp2;go_ret;exact⟨vQ,Ext.alloc _ _⟩):P:=h
namespace Go.Proofs.YteninnkbmoimgaaGreatDoor
open Go.RowKit aD
theorem Rj (n lo b:Int) (w:World):Calls Tryz.prog 63 #[.int .i64 n,.int .i64 lo,.int .i64 b] w fun e w'=>e=.returned (.bool (decide (lo<=n)&&decide (n<=b)))/\w=w':=by
 go_enter Tryz.func63,Tryz.ntmps63;go_wp2;all_goals go_ret
 all_goals first | (simp[*];done) | (simp[*];omega)
theorem F9 (n lo b:Int) (w:World):Calls Tryz.prog 72 #[.int .i64 n,.int .i64 lo,.int .i64 b] w fun e w'=>e=.returned (.bool (decide (lo<=n)&&decide (n<=b)))/\w=w':=by
 go_enter Tryz.func72,Tryz.ntmps72;go_wp2;all_goals go_ret
 all_goals first | (simp[*];done) | (simp[*];omega)
def sC (d:DS):Prop:=1<=d.org/\d.org<=3/\(d.interval=128∨d.interval=256∨d.interval=512)/\1<=d.length/\d.length<=200/\d.length<=d.interval-7/\d.format=0/\d.block=0/\
 (d.org=3->d.length<=d.interval/2-8/\0<=d.dm/\1<=d.bV/\d.bV<=d.interval/16/\d.dm+d.bV<=d.length/\2<=d.aN/\d.aN<=8/\0<=d.nF/\d.nF<=90/\0<=d.mS/\d.mS<=d.aN-1)/\
 (d.org≠3->d.dm=0/\d.bV=0/\d.aN=0/\d.nF=0/\d.mS=0)
theorem LG (d:DS):cr d=true↔sC d:=by
 unfold cr QI sC cQ;by_cases h:d.org=3
 ·simp only[h,pF];simp;omega
 ·simp only[h,uL];simp;omega
theorem tM {d:DS} (h:¬sC d):false=cr d:=by
 cases hb:cr d
 ·rfl
 ·exact absurd ((LG d).1 hb) h
theorem LH {d:DS} (h:sC d):true=cr d:=((LG d).2 h).symm
theorem aau {d:DS} {x y:Bool} (b:sC d->x=true/\y=true) (e:x=true->y=true->sC d):(x&&y)=cr d:=by
 cases hv:cr d
 ·cases x<;>cases y<;>first | rfl | (exact absurd ((LG d).2 (e rfl rfl)) (by rw[hv];simp))
 ·obtain⟨rfl,rfl⟩:=b ((LG d).1 hv);rfl
theorem FY {d:DS} (g:d.org≠3) (h:(d.dm==0)=false∨(d.bV==0)=false∨(d.aN==0)=false∨(d.nF==0)=false∨(d.mS==0)=false):false=cr d:=by
 refine tM fun k=>?_;obtain⟨a,b,c,e,f⟩:=k.2.2.2.2.2.2.2.2.2 g;rcases h with h | h | h | h | h
 ·rw[a] at h;cases h
 ·rw[b] at h;cases h
 ·rw[c] at h;cases h
 ·rw[e] at h;cases h
 ·rw[f] at h;cases h
def Pz (d:DS):Prop:=1<=d.org/\d.org<=3/\(d.interval=128∨d.interval=256∨d.interval=512)/\1<=d.length/\d.length<=200/\d.length<=d.interval-7/\d.format=0/\d.block=0
theorem alc {d:DS} (b:d.org≠3) (h:Pz d) (e:d.dm=0) (f:d.bV=0) (g:d.aN=0) (i:d.nF=0):(d.mS==0)=cr d:=by
 cases hz:d.mS==0
 ·exact FY b (.inr (.inr (.inr (.inr hz))))
 ·simp at hz;unfold Pz at h;exact LH ⟨h.1,h.2.1,h.2.2.1,h.2.2.2.1,h.2.2.2.2.1,h.2.2.2.2.2.1,h.2.2.2.2.2.2.1,h.2.2.2.2.2.2.2,fun h=>absurd h b,fun _=>⟨e,f,g,i,hz⟩⟩
theorem ald (d:DS) (w:World) (b:d.org=3) (i:d.interval=128) (g:d.format=0) (f:d.block=0):Calls Tryz.prog 43 #[.agg (az d)] w fun e w'=>e=.returned (.bool (cr d))/\Ext w w':=by
 exact Rm
theorem ale (d:DS) (w:World) (b:d.org=1) (i:d.interval=128) (g:d.format=0) (f:d.block=0):Calls Tryz.prog 43 #[.agg (az d)] w fun e w'=>e=.returned (.bool (cr d))/\Ext w w':=by
 exact Db
theorem alf (d:DS) (w:World) (b:d.org=2) (i:d.interval=128) (g:d.format=0) (f:d.block=0):Calls Tryz.prog 43 #[.agg (az d)] w fun e w'=>e=.returned (.bool (cr d))/\Ext w w':=by
 exact Db
theorem alg (d:DS) (w:World) (f:d.org=1) (i:d.interval=128) (g:¬d.format=0) (b:(d.format !=0)=true):Calls Tryz.prog 43 #[.agg (az d)] w fun e w'=>e=.returned (.bool (cr d))/\Ext w w':=by
 exact mB
theorem alh (d:DS) (w:World) (f:d.org=1) (j:d.interval=128) (i:d.format=0) (g:¬d.block=0) (b:(d.block !=0)=true):Calls Tryz.prog 43 #[.agg (az d)] w fun e w'=>e=.returned (.bool (cr d))/\Ext w w':=by
 exact mB
theorem ali (d:DS) (w:World) (f:d.org=2) (i:d.interval=128) (g:¬d.format=0) (b:(d.format !=0)=true):Calls Tryz.prog 43 #[.agg (az d)] w fun e w'=>e=.returned (.bool (cr d))/\Ext w w':=by
 exact mB
theorem alj (d:DS) (w:World) (f:d.org=2) (j:d.interval=128) (i:d.format=0) (g:¬d.block=0) (b:(d.block !=0)=true):Calls Tryz.prog 43 #[.agg (az d)] w fun e w'=>e=.returned (.bool (cr d))/\Ext w w':=by
 exact mB
theorem alk (d:DS) (w:World) (f:d.org=3) (i:d.interval=128) (g:¬d.format=0) (b:(d.format !=0)=true):Calls Tryz.prog 43 #[.agg (az d)] w fun e w'=>e=.returned (.bool (cr d))/\Ext w w':=by
 exact mB
theorem alm (d:DS) (w:World) (f:d.org=3) (j:d.interval=128) (i:d.format=0) (g:¬d.block=0) (b:(d.block !=0)=true):Calls Tryz.prog 43 #[.agg (az d)] w fun e w'=>e=.returned (.bool (cr d))/\Ext w w':=by
 exact mB
theorem aln (d:DS) (w:World) (f:d.interval=128) (l:d.org=1∨d.org=2∨d.org=3):Calls Tryz.prog 43 #[.agg (az d)] w fun e w'=>e=.returned (.bool (cr d))/\Ext w w':=by
 by_cases b:d.format=0
 ·by_cases g:d.block=0
  ·rcases l with h | h | h
   ·exact ale d w h f b g
   ·exact alf d w h f b g
   ·exact ald d w h f b g
  ·have i:(d.block !=0)=true:=by simpa using g
   rcases l with h | h | h
   ·exact alh d w h f b g i
   ·exact alj d w h f b g i
   ·exact alm d w h f b g i
 ·have j:(d.format !=0)=true:=by simpa using b
  rcases l with h | h | h
  ·exact alg d w h f b j
  ·exact ali d w h f b j
  ·exact alk d w h f b j
theorem alo (d:DS) (w:World) (b:d.org=3) (i:d.interval=256) (g:d.format=0) (f:d.block=0):Calls Tryz.prog 43 #[.agg (az d)] w fun e w'=>e=.returned (.bool (cr d))/\Ext w w':=by
 exact Rm
theorem alp (d:DS) (w:World) (b:d.org=1) (i:d.interval=256) (g:d.format=0) (f:d.block=0):Calls Tryz.prog 43 #[.agg (az d)] w fun e w'=>e=.returned (.bool (cr d))/\Ext w w':=by
 exact Db
theorem alq (d:DS) (w:World) (b:d.org=2) (i:d.interval=256) (g:d.format=0) (f:d.block=0):Calls Tryz.prog 43 #[.agg (az d)] w fun e w'=>e=.returned (.bool (cr d))/\Ext w w':=by
 exact Db
theorem alr (d:DS) (w:World) (f:d.org=1) (i:d.interval=256) (g:¬d.format=0) (b:(d.format !=0)=true):Calls Tryz.prog 43 #[.agg (az d)] w fun e w'=>e=.returned (.bool (cr d))/\Ext w w':=by
 exact mB
theorem als (d:DS) (w:World) (f:d.org=1) (j:d.interval=256) (i:d.format=0) (g:¬d.block=0) (b:(d.block !=0)=true):Calls Tryz.prog 43 #[.agg (az d)] w fun e w'=>e=.returned (.bool (cr d))/\Ext w w':=by
 exact mB
theorem alu (d:DS) (w:World) (f:d.org=2) (i:d.interval=256) (g:¬d.format=0) (b:(d.format !=0)=true):Calls Tryz.prog 43 #[.agg (az d)] w fun e w'=>e=.returned (.bool (cr d))/\Ext w w':=by
 exact mB
theorem alv (d:DS) (w:World) (f:d.org=2) (j:d.interval=256) (i:d.format=0) (g:¬d.block=0) (b:(d.block !=0)=true):Calls Tryz.prog 43 #[.agg (az d)] w fun e w'=>e=.returned (.bool (cr d))/\Ext w w':=by
 exact mB
theorem alw (d:DS) (w:World) (f:d.org=3) (i:d.interval=256) (g:¬d.format=0) (b:(d.format !=0)=true):Calls Tryz.prog 43 #[.agg (az d)] w fun e w'=>e=.returned (.bool (cr d))/\Ext w w':=by
 exact mB
theorem alx (d:DS) (w:World) (f:d.org=3) (j:d.interval=256) (i:d.format=0) (g:¬d.block=0) (b:(d.block !=0)=true):Calls Tryz.prog 43 #[.agg (az d)] w fun e w'=>e=.returned (.bool (cr d))/\Ext w w':=by
 exact mB
theorem aly (d:DS) (w:World) (f:d.interval=256) (l:d.org=1∨d.org=2∨d.org=3):Calls Tryz.prog 43 #[.agg (az d)] w fun e w'=>e=.returned (.bool (cr d))/\Ext w w':=by
 by_cases b:d.format=0
 ·by_cases g:d.block=0
  ·rcases l with h | h | h
   ·exact alp d w h f b g
   ·exact alq d w h f b g
   ·exact alo d w h f b g
  ·have i:(d.block !=0)=true:=by simpa using g
   rcases l with h | h | h
   ·exact als d w h f b g i
   ·exact alv d w h f b g i
   ·exact alx d w h f b g i
 ·have j:(d.format !=0)=true:=by simpa using b
  rcases l with h | h | h
  ·exact alr d w h f b j
  ·exact alu d w h f b j
  ·exact alw d w h f b j
theorem alz (d:DS) (w:World) (b:d.org=3) (i:d.interval=512) (g:d.format=0) (f:d.block=0):Calls Tryz.prog 43 #[.agg (az d)] w fun e w'=>e=.returned (.bool (cr d))/\Ext w w':=by
 exact Rm
theorem alA (d:DS) (w:World) (b:d.org=1) (i:d.interval=512) (g:d.format=0) (f:d.block=0):Calls Tryz.prog 43 #[.agg (az d)] w fun e w'=>e=.returned (.bool (cr d))/\Ext w w':=by
 exact Db
theorem alB (d:DS) (w:World) (b:d.org=2) (i:d.interval=512) (g:d.format=0) (f:d.block=0):Calls Tryz.prog 43 #[.agg (az d)] w fun e w'=>e=.returned (.bool (cr d))/\Ext w w':=by
 exact Db
theorem alC (d:DS) (w:World) (f:d.org=1) (i:d.interval=512) (g:¬d.format=0) (b:(d.format !=0)=true):Calls Tryz.prog 43 #[.agg (az d)] w fun e w'=>e=.returned (.bool (cr d))/\Ext w w':=by
 exact mB
theorem alD (d:DS) (w:World) (f:d.org=1) (j:d.interval=512) (i:d.format=0) (g:¬d.block=0) (b:(d.block !=0)=true):Calls Tryz.prog 43 #[.agg (az d)] w fun e w'=>e=.returned (.bool (cr d))/\Ext w w':=by
 exact mB
theorem alE (d:DS) (w:World) (f:d.org=2) (i:d.interval=512) (g:¬d.format=0) (b:(d.format !=0)=true):Calls Tryz.prog 43 #[.agg (az d)] w fun e w'=>e=.returned (.bool (cr d))/\Ext w w':=by
 exact mB
theorem alF (d:DS) (w:World) (f:d.org=2) (j:d.interval=512) (i:d.format=0) (g:¬d.block=0) (b:(d.block !=0)=true):Calls Tryz.prog 43 #[.agg (az d)] w fun e w'=>e=.returned (.bool (cr d))/\Ext w w':=by
 exact mB
theorem alG (d:DS) (w:World) (f:d.org=3) (i:d.interval=512) (g:¬d.format=0) (b:(d.format !=0)=true):Calls Tryz.prog 43 #[.agg (az d)] w fun e w'=>e=.returned (.bool (cr d))/\Ext w w':=by
 exact mB
theorem alH (d:DS) (w:World) (f:d.org=3) (j:d.interval=512) (i:d.format=0) (g:¬d.block=0) (b:(d.block !=0)=true):Calls Tryz.prog 43 #[.agg (az d)] w fun e w'=>e=.returned (.bool (cr d))/\Ext w w':=by
 exact mB
theorem alI (d:DS) (w:World) (f:d.interval=512) (l:d.org=1∨d.org=2∨d.org=3):Calls Tryz.prog 43 #[.agg (az d)] w fun e w'=>e=.returned (.bool (cr d))/\Ext w w':=by
 by_cases b:d.format=0
 ·by_cases g:d.block=0
  ·rcases l with h | h | h
   ·exact alA d w h f b g
   ·exact alB d w h f b g
   ·exact alz d w h f b g
  ·have i:(d.block !=0)=true:=by simpa using g
   rcases l with h | h | h
   ·exact alD d w h f b g i
   ·exact alF d w h f b g i
   ·exact alH d w h f b g i
 ·have j:(d.format !=0)=true:=by simpa using b
  rcases l with h | h | h
  ·exact alC d w h f b j
  ·exact alE d w h f b j
  ·exact alG d w h f b j
theorem alJ (d:DS) (w:World) (h1:d.org≠1) (h2:d.org≠2) (h3:d.org≠3):Calls Tryz.prog 43 #[.agg (az d)] w fun e w'=>e=.returned (.bool (cr d))/\Ext w w':=by
 have b:(d.org !=1)=true:=jP;have f:(d.org !=2)=true:=ru;have g:(d.org !=3)=true:=uO;exact mB
theorem alK (d:DS) (w:World) (b:d.org=1) (h1:d.interval≠128) (h2:d.interval≠256) (h4:d.interval≠512):Calls Tryz.prog 43 #[.agg (az d)] w fun e w'=>e=.returned (.bool (cr d))/\Ext w w':=by
 exact PV
theorem alL (d:DS) (w:World) (b:d.org=2) (h1:d.interval≠128) (h2:d.interval≠256) (h4:d.interval≠512):Calls Tryz.prog 43 #[.agg (az d)] w fun e w'=>e=.returned (.bool (cr d))/\Ext w w':=by
 exact PV
theorem alM (d:DS) (w:World) (b:d.org=3) (h1:d.interval≠128) (h2:d.interval≠256) (h4:d.interval≠512):Calls Tryz.prog 43 #[.agg (az d)] w fun e w'=>e=.returned (.bool (cr d))/\Ext w w':=by
 exact PV
theorem alN (d:DS) (w:World):Calls Tryz.prog 43 #[.agg (az d)] w fun e w'=>e=.returned (.bool (cr d))/\Ext w w':=by
 by_cases b:d.org=1∨d.org=2∨d.org=3
 ·by_cases f:d.interval=128
  ·exact aln d w f b
  ·by_cases g:d.interval=256
   ·exact aly d w g b
   ·by_cases i:d.interval=512
    ·exact alI d w i b
    ·rcases b with h | h | h
     ·exact alK d w h f g i
     ·exact alL d w h f g i
     ·exact alM d w h f g i
 ·exact alJ d w (fun h=>b (.inl h)) (fun h=>b (.inr (.inl h))) (fun h=>b (.inr (.inr h)))
end Go.Proofs.YteninnkbmoimgaaGreatDoor

/- A part of the proof. -/
import Derived.Test.YteninnkbmoimgaaGreatDoorDRl
import Derived.Test.YteninnkbmoimgaaGreatDoorFR
set_option linter.unusedSimpArgs false
set_option linter.unusedVariables false
set_option maxRecDepth 100000
set_option maxHeartbeats 16000000
namespace aD
def ou (d:DS) (a:Ar):List (List UInt8×List UInt8):=if dD d a=true then bW d (aX a) else[]
end aD
namespace Go.Proofs.YteninnkbmoimgaaGreatDoor
open Go.RowKit aD
theorem arR (d:DS) (a:Ar) (q:Option Addr) (c:Nat) (p:Option Addr) (m:Nat) (w:World) (hB:dD d a=true) (hv:pW w a q c p m) (J:a.nd.ai.length<=1000000) (Y:a.ak.length<=1000000) (Z:∀i,Small (a.ak.getD i [])):
 Calls Tryz.prog 86 #[.agg (az d),.agg (bn a q c p m)] w fun e w'=>Ext w w'/\∃v,e=.returned v/\w'.ownsRow w.heap.size 37 2 v (aX a).length (eV (bW d (aX a))):=by
 have s:fP d a:=lD.1 hB;have U:=ag (fun W (e:Ext w W)=>Ts d a q c p m W (hv.ext e) J Y Z);rw[hB] at U;obtain⟨n1,n2,n3,n4,n5⟩:=Mr s;have G:∀i,(a.ak.getD i []).length<=1000:=fun i=>by
  exact OX
 have S:=ag (fun W (e:Ext w W)=>ang p m a.ak W (hv.ak.ext e) n2 G);have hlen:(aX a).length<=120000:=by
  have J:=R5 a.ak a.ak.length;rw[rT] at J;have Y:=R6 (m:=1000) G (aH a.ak.length);have Z:a.ak.length*1000<=120*1000:=AE _ af;unfold aX;omega
 have D:Hid (∀i,i<(aX a).length->cV d ((aX a).getD i [])=true):=ag (fun i hi=>by
  have hm:=aaj hi;unfold aX at hm;obtain⟨L,G,hs⟩:=uu.1 hm;exact(FL s.ak L G).2.1 _ hs)
 have Hk:=ag s.keyed;have HF:Hid (a.ak.flatten=aX a):=ag rfl;rw[HF.out] at S;clear s hv G n1 n2 n3 n4 n5 HF J Y Z hB;generalize aX a=R at *;go_enter Tryz.func86,Tryz.ntmps86;go_upto_region 1 with(fail);refine aR (fun M=>Ext w M/\bI M w.heap.size d/\eS M (w.heap.size+1) a q c p m) (oJ w d a q c p m) ?_;rintro M ⟨r,z,ha0⟩;go_upto_region 5 with(first
  | (refine bu (o:=⟨some 8,_,_,_,_,_⟩) rfl (.tmp 2) rfl _ rfl d z ?_)
  | (refine XB ?_)
  | (go_at_call 123;refine(U.out _ r).mono ?_;rintro e w1 ⟨rfl,g⟩;have H:=ha0.ext g;obtain⟨_,_,_,_,x4,lx⟩:=H.cells)
  | (go_at_call 124;refine(S.out _ (r.trans g)).mono ?_;rintro e N ⟨v2,rfl,C,B⟩;obtain⟨q2,c2,rfl⟩:=cE C))
 have V:=ag ((z.ext g).ext B);have F:=ag ((r.trans g).trans B);have X:=ag (CP C);clear z ha0 r g B C H x4 lx S U;go_loopw[5,16] (fun out i wx=>∃k:Nat,k<=R.length/\i=.int .i64 k/\wx.ownsRow N.heap.size 37 2 out k (eV (bW d (R.take k)))/\Ext N wx) (fun _ i _=>R.length-(intOf i).toNat)
 case atStart=>exact⟨0,bL _,rfl,World.ownsRow_nil _ _ _ _,Ext.refl _⟩
 case round=>
  obtain⟨k,hk,rfl,f,l⟩:=hrel;by_cases t:k<R.length
  ·have I:(k:Int)<R.length:=af;obtain⟨b,off,rfl,hb,hc⟩:=(X.out.ext l).at k t;have oz:=hc k t;have n:=D.out k t;have T:=ag (anh (d:=d) t);have y:=ag f;have E:=ag l;have hdr:=V.out.ext l;generalize R.getD k []=x at oz n T;have HK:=ag (Qp d x Hk.out n);generalize ax d x=K at T HK;have hwz:=E.out.size;clear hc f l n;go_wp2_with(first
    | (refine bu (o:=⟨some 21,_,_,_,_,_⟩) rfl (.tmp 2) rfl _ rfl d hdr ?_)
    | (go_at_call 125;refine(HK.out _).mono ?_;rintro e O ⟨rfl,j⟩)
    | (at_builtin;refine sV (o:=⟨some 27,_,_,_,_,_⟩) rfl (.tmp 20) (.tmp 26) 33 37 rfl N.heap.size (.agg #[.string ByteArray.empty,.string ByteArray.empty]) 2 32 Tryz.underlying33 Gw rfl aq _ k _ rfl (aO y.out (j.trans (Ext.alloc _ _))) (some ⟨O.heap.size,0,none⟩) 1 1 [.string ⟨K.toArray⟩,.string ⟨x.toArray⟩] rfl rfl rfl (n8 (ys:=[.string ⟨K.toArray⟩,.string ⟨x.toArray⟩]) (ah.new O _)) vO af aq (by have:=j.size;simp;omega) ?_;intro v8 w8 gG jN))
   have oh:=aO y.out (j.trans (Ext.alloc O (.cells [.string ⟨K.toArray⟩,.string ⟨x.toArray⟩].toArray 37)));have hbx:=Below.ij jN oh (aH _) (by have:=j.size;simp;omega);have fI:=ag (show w8.ownsRow N.heap.size 37 2 v8 (k+1) (eV (bW d (R.take (k+1)))) by rw[T.out];exact gG);have rU:=ag (Ext.trans' ((E.out.trans j).trans (Ext.alloc O (.cells [.string ⟨K.toArray⟩,.string ⟨x.toArray⟩].toArray 37))) hbx);go_roundw
   case rel=>exact⟨k+1,af,bX,fI.out,rU.out⟩
   case measure=>exact ct
  ·have I:decide ((k:Int)<R.length)=false:=aY;have hkn:k=R.length:=af;subst hkn;rw[rT] at f;go_wp2;go_ret;exact⟨F.out.trans l,_,rfl,fJ f F.out.size⟩
theorem arT (d:DS) (a:Ar) (q:Option Addr) (c:Nat) (p:Option Addr) (m:Nat) (w:World) (u:dD d a=false) (y:pW w a q c p m) (n:a.nd.ai.length<=1000000) (r:a.ak.length<=1000000) (t:∀i,Small (a.ak.getD i [])):
 Calls Tryz.prog 86 #[.agg (az d),.agg (bn a q c p m)] w fun e w'=>Ext w w'/\e=.returned (.slice none 0 0):=by
 have l:=ag (fun W (e:Ext w W)=>Ts d a q c p m W (y.ext e) n r t);rw[u] at l;clear y n r t u;go_enter Tryz.func86,Tryz.ntmps86;go_upto_region 1 with(fail);refine aR (fun f=>Ext w f/\bI f w.heap.size d/\eS f (w.heap.size+1) a q c p m) (oJ w d a q c p m) ?_;rintro f ⟨b,g,ha0⟩;go_wp2_with(first
  | (refine bu (o:=⟨some 8,_,_,_,_,_⟩) rfl (.tmp 2) rfl _ rfl d g ?_)
  | (refine XB ?_)
  | (go_at_call 123;refine(l.out _ b).mono ?_;rintro e z ⟨rfl,j⟩))
 go_ret;exact⟨b.trans j,rfl⟩
theorem aeL (d:DS) (a:Ar) (q:Option Addr) (c:Nat) (p:Option Addr) (m:Nat) (w:World) (j:pW w a q c p m) (b:a.nd.ai.length<=1000000) (f:a.ak.length<=1000000) (g:∀i,Small (a.ak.getD i [])):
 Calls Tryz.prog 86 #[.agg (az d),.agg (bn a q c p m)] w fun e w'=>Ext w w'/\∃v,e=.returned v/\w'.ownsRow w.heap.size 37 2 v (ou d a).length (eV (ou d a)):=by
 unfold ou;cases hB:dD d a
 ·rw[aA av];exact(arT d a q c p m w hB j b f g).mono (by rintro e w' ⟨h,rfl⟩;exact⟨h,_,rfl,World.ownsRow_nil _ _ _ _⟩)
 ·rw[aC rfl];refine(arR d a q c p m w hB j b f g).mono ?_;rintro e w' ⟨h,v,rfl,l⟩;have e:(bW d (aX a)).length=(aX a).length:=by unfold bW;rw[kF]
  rw[e];exact⟨h,v,rfl,l⟩
theorem aeM (x y:List UInt8):Tryz.prog.built 37 [(0,.string ⟨x.toArray⟩),(1,.string ⟨y.toArray⟩)]=some #[.string ⟨x.toArray⟩,.string ⟨y.toArray⟩]:=aj
theorem aeN (d:DS) (a:Ar) (q:Option Addr) (c:Nat) (p:Option Addr) (m:Nat) (w:World) (hv:pW w a q c p m) (h1:a.nd.ai.length<=1000000) (h2:a.ak.length<=1000000) (h3:∀i,Small (a.ak.getD i [])):
 Calls Tryz.prog 47 #[.agg (az d),.agg (bn a q c p m)] w fun e w'=>Ext w w'/\∃v,e=.returned v/\w'.ownsRow w.heap.size 37 2 v (ou d a).length (eV (ou d a)):=by
 have HV:=ag (fun W (e:Ext w W)=>yY d a q c p m W (hv.ext e) h1 h2 h3);unfold ou;cases hB:dD d a
 ·rw[aA av];rw[hB] at HV;clear hv h1 h2 h3 hB;go_enter Tryz.func47,Tryz.ntmps47;go_upto_region 1 with(fail);refine aR (fun B=>Ext w B/\bI B w.heap.size d/\eS B (w.heap.size+1) a q c p m) (oJ w d a q c p m) ?_;rintro B ⟨l,O,M⟩;go_upto_region 2 with(fail);have G:=World.ownsRow_made (base:=w.heap.size) (e:=37) (size:=2) B #[] 0 l.size av rfl;refine aR (fun I=>Ext w I/\bI I w.heap.size d/\eS I (w.heap.size+1) a q c p m/\I.ownsRow w.heap.size 37 2 (.slice (some ⟨B.heap.size,0,none⟩) 0 0) 0 []) ⟨l.trans (Ext.alloc _ _),O.ext (Ext.alloc _ _),M.ext (Ext.alloc _ _),G⟩ ?_;clear G;rintro I ⟨n,E,ha1,S⟩;go_wp2_with(first
   | (refine bu (o:=⟨some 9,_,_,_,_,_⟩) rfl (.tmp 2) rfl _ rfl d E ?_)
   | (refine XA ?_)
   | (go_at_call 70;refine(HV.out _ n).mono ?_;rintro e w2 ⟨rfl,f⟩))
  go_ret;exact⟨n.trans f,_,rfl,aO S f⟩
 ·rw[aC rfl];rw[hB] at HV;have s:fP d a:=lD.1 hB;obtain⟨n1,n2,n3,n4,n5⟩:=Mr s;have D:∀i,(a.ak.getD i []).length<=1000:=fun i=>by
   exact OX
  have HT:Hid (∀k,k<=a.ak.length->mF a.ak k<=120000):=ag (fun k hk=>by
   have:=R6 (m:=1000) D hk;have h2:k*1000<=120*1000:=AE _ af;omega)
  have arU:Hid (∀i j,i<a.ak.length->j<(a.ak.getD i []).length->cV d ((a.ak.getD i []).getD j [])=true):=ag (fun i j hi hj=>by
   have hm:a.ak.getD i []∈a.ak:=by
    have e:a.ak.getD i []=a.ak[i]:=zQ;rw[e];exact mN _
   exact(FL s.ak _ hm).2.1 _ (aaj hj))
  have Hk:=ag s.keyed;have tV:=ag D;have HF:Hid (aX a=(a.ak.take a.ak.length).flatten):=ag (by rw[rT];rfl);have Hv:=ag hv;have xe:=ag n2;have HO:Hid (∀R,R=aX a->(bW d R).length=R.length):=ag (fun R _=>by unfold bW;rw[kF]);clear s hv D n1 n2 n3 n4 n5 h1 h2 h3 hB;go_enter Tryz.func47,Tryz.ntmps47;go_upto_region 1 with(fail);refine aR (fun B=>Ext w B/\bI B w.heap.size d/\eS B (w.heap.size+1) a q c p m) (oJ w d a q c p m) ?_;rintro B ⟨l,O,M⟩;go_upto_region 2 with(fail);have G:=World.ownsRow_made (base:=w.heap.size) (e:=37) (size:=2) B #[] 0 l.size av rfl;refine aR (fun I=>Ext w I/\bI I w.heap.size d/\eS I (w.heap.size+1) a q c p m/\I.ownsRow w.heap.size 37 2 (.slice (some ⟨B.heap.size,0,none⟩) 0 0) 0 []) ⟨l.trans (Ext.alloc _ _),O.ext (Ext.alloc _ _),M.ext (Ext.alloc _ _),G⟩ ?_;clear G;rintro I ⟨n,E,ha1,S⟩;go_upto_region 5 with(first
   | (refine bu (o:=⟨some 9,_,_,_,_,_⟩) rfl (.tmp 2) rfl _ rfl d E ?_)
   | (refine XA ?_)
   | (go_at_call 70;refine(HV.out _ n).mono ?_;rintro e w2 ⟨rfl,f⟩))
  have J:=ag (And.intro (n.trans f) (And.intro (E.ext f) (And.intro (ha1.ext f) (aO S f))));clear l O M n E ha1 S f HV;go_loopw[5,6] (fun out i wx=>∃k:Nat,k<=a.ak.length/\i=.int .i64 k/\wx.ownsRow w.heap.size 37 2 out (mF a.ak k) (eV (bW d ((a.ak.take k).flatten)))/\Ext w wx/\bI wx w.heap.size d/\eS wx (w.heap.size+1) a q c p m) (fun _ i _=>a.ak.length-(intOf i).toNat)
  case atStart=>exact⟨0,bL _,rfl,J.out.2.2.2,J.out.1,J.out.2.1,J.out.2.2.1⟩
  case round=>
   obtain⟨k,hk,rfl,y,hx,V,C⟩:=hrel;have hn2:=xe.out;have x4:wr.cell? ⟨w.heap.size+1,4,none⟩=some (.slice p a.ak.length m):=ah.val C 4 _ rfl;have lx:=ah.lt C;by_cases g:k<a.ak.length
   ·have gB:(k:Int)<a.ak.length:=af;have HQ:=ag (And.intro y (And.intro hx (And.intro V C)));have BK:=ag g;obtain⟨L,D⟩:∃L,L=a.ak.getD k []:=⟨_,rfl⟩;obtain⟨T,hT⟩:∃T,T=mF a.ak k:=⟨_,rfl⟩;obtain⟨F,hF⟩:∃F,F=(a.ak.take k).flatten:=⟨_,rfl⟩;have DY:Hid (∀W,Ext w W->∃b H qi ci,p=some ⟨b,H,none⟩/\b<W.heap.size/\W.cell? ⟨b,H+k,none⟩=some (.slice qi L.length ci)/\bk W qi L):=ag (fun W e=>by
     obtain⟨b,H,v,hpq,hb,N,qi,ci,rfl,z,_⟩:=(Hv.out.ak.ext e).at k g;rw[<-D] at N z;exact⟨b,H,qi,ci,hpq,hb,N,z⟩)
    have zx:Hid (∀t,t<L.length->cV d (L.getD t [])=true):=ag (fun t ht=>by rw[D] at ht⊢;exact arU.out k t g ht);have HB:Hid (T+L.length<=120000):=ag (by rw[hT,D,<-Dr g];exact HT.out (k+1) g);have zj:Hid (mF a.ak (k+1)=T+L.length):=ag (by rw[Dr g,hT,D]);have zk:Hid ((a.ak.take (k+1)).flatten=F++L):=ag (by rw[abu g,hF,D]);have UC:=y;rw[<-hT,<-hF] at UC;have Ho0:=ag UC;have UD:L.length<=1000:=by rw[D];exact tV.out k
    clear y hx V C UC D hT hF;go_upto_region 8 with fail;clear x4 lx;obtain⟨wk,rfl⟩:∃wk:World,wk=wr:=⟨_,rfl⟩;go_loopw[5,7] (fun out j wy=>∃t:Nat,t<=L.length/\j=.int .i64 t/\wy.ownsRow w.heap.size 37 2 out (T+t) (eV (bW d (F++L.take t)))/\Ext w wy/\bI wy w.heap.size d/\eS wy (w.heap.size+1) a q c p m) (fun _ j _=>L.length-(intOf j).toNat)
    case atStart=>exact⟨0,bL _,rfl,by rw[eF,FD];exact Ho0.out,HQ.out.2⟩
    case round=>
     obtain⟨t,ht,rfl,y,hx,V,C⟩:=hrel;have x4:wr.cell? ⟨w.heap.size+1,4,none⟩=some (.slice p a.ak.length m):=ah.val C 4 _ rfl;have lx:=ah.lt C;obtain⟨b,H,qi,ci,hpq,hb,N,z⟩:=DY.out _ hx;subst hpq;obtain⟨wz,rfl⟩:∃wz:World,wz=wr:=⟨_,rfl⟩;by_cases r:t<L.length
     ·have azn:(t:Int)<L.length:=af;have X:=zx.out t r;have hTk:eV (bW d (F++L.take (t+1)))=eV (bW d (F++L.take t))++[.string ⟨(ax d (L.getD t [])).toArray⟩,.string ⟨(L.getD t []).toArray⟩]:=by
       rw[jr r,<-jk];unfold bW;rw[jW,R7];simp[eV,List.getD,r]
      have Nk:=ag hTk;obtain⟨b2,o2,rfl,hl2,hc2⟩:=z.at t r;have hcs:=hc2 t r;have HO:=ag y;have HX:=ag hx;have HD:=ag V;have HA:=ag C;have Hjt:=ag r;clear hc2 hTk z y hx V C;generalize L.getD t []=x at *;have HK:=ag (fun W=>vf d x Hk.out X W);generalize ax d x=kx at *;clear X;go_upto_region 10 with fail;refine eR 21 (Ext.refl wz) aj aj aj ?_;refine gV ?_;repeat (first
       | (refine bT (o:=⟨some 32,_,_,_,_,_⟩) (v:=.agg (az d)) rfl ?_ ?_
          ·intro a w' he hr K hK;simp[Reads,Oper.looksAt,Op.operands,aJ,Is] at hr;exact eG 23 (.tmp 2) rfl (w.heap.size) dX _ _ _ _ (he.blk _ _ HD.out) gr rfl gD (hK _ (Ext.refl _))
          refine aE ?_)
       | (refine bT (o:=⟨some 41,_,_,_,_,_⟩) (v:=.string ⟨kx.toArray⟩) rfl ?_ ?_
          ·exact Y9
          refine aE ?_)
       | (refine bT (o:=⟨some 50,_,_,_,_,_⟩) (v:=.agg (#[.string ⟨kx.toArray⟩,.string ⟨x.toArray⟩])) rfl ?_ ?_
          ·intro a w' he hr K hK;simp[Reads,Oper.looksAt,Op.operands,aJ,Is] at hr;have tH:((#[(0,.tmp 41),(1,.tmp 49)]:Array (Nat×Operand)).map fun(i,x)=>(i,a.eval x)).toList=[(0,.string ⟨kx.toArray⟩),(1,.string ⟨x.toArray⟩)]:=dX;refine tJ 37 #[(0,.tmp 41),(1,.tmp 49)] rfl ?_ ?_
           ·rw[tH,aeM _ _];rfl
           ·rw[tH,aeM _ _];exact hK _ (Ext.refl _)
          refine aE ?_)
       | (refine jh (o:=⟨some 51,_,_,_,_,_⟩) (dx 1 1 (.cells #[.string ⟨kx.toArray⟩,.string ⟨x.toArray⟩] 37)) (dx.ay _ _ _) rfl ?_ ?_
          ·exact wg
          refine aE ?_)
       | (refine kN ?_)
       | (refine fR ?_)
       | (refine iq ?_)
       | (refine fk ?_))
      intro w2 f;repeat (first | with_reducible refine cH _ _ _ _ ?_ | (with_reducible refine cI _ _ _ _ ?_;intro _ _) | with_reducible refine cJ _ _ ?_)
      simp only[cF,cK,bQ,bE];rename_i x51 h51;obtain⟨b51,rfl,U⟩:=h51;have HO2:=ag (aO HO.out f);have sX:=ag (HX.out.trans f);have Fo:=ag (HD.out.ext f);have HA2:=ag (HA.out.ext f);have ar3:=ag U;have hsw:=sX.out.size;have hTm:=HB.out;clear f U hcs hl2 N hb x4 lx HO HX HD HA;go_wp2_with(at_builtin;go_must(refine nW (o:=⟨some 52,_,_,_,_,_⟩) rfl (.tmp 31) (.tmp 51) 33 37 rfl w.heap.size (.agg #[.string ByteArray.empty,.string ByteArray.empty]) 2 32 Tryz.underlying33 Gw rfl aq _ (T+t) _ rfl HO2.out _ [.string ⟨kx.toArray⟩,.string ⟨x.toArray⟩] rfl ar3.out rfl vO af aq af ?_;intro v8 w8 gG jN;have r8:=pZ (T:=37) jN HO2.out af;obtain⟨q8,k8,rfl⟩:=cE gG;have mA:=ag gG;have Y:=ag r8;clear gG jN r8));have azr:=Hjt.out;refine⟨⟨t+1,af,bX,by rw[Nk.out];exact mA.out,Ext.trans' sX.out Y.out.1,Y.out.2 _ _ _ aq Fo.out,Y.out.2 _ _ _ aq HA2.out⟩,uN⟩
     ·have hge:decide ((t:Int)<(L.length:Int))=false:=aM af;have hte:t=L.length:=af;have HO:=ag y;have HX:=ag (And.intro hx (And.intro V C));have Hte:=ag hte;clear y hx V C z hte;go_wp2_with fail;have vv:=BK.out;have gT:=HO.out;rw[Hte.out,rT] at gT;refine⟨⟨k+1,af,bX,by rw[zj.out,zk.out];exact gT,HX.out⟩,uN⟩
   ·have hge:decide ((k:Int)<(a.ak.length:Int))=false:=aM af;have hke:k=a.ak.length:=af;rw[hke] at y;rw[<-HF.out] at y;have Z:=R5 a.ak a.ak.length;rw[<-HF.out] at Z;rw[<-Z] at y;have HOo:=ag y;have HX:=ag hx;have yj:=ag (HO.out _ rfl);clear y hx V C Z hke hk;go_wp2_with fail;go_ret;refine⟨HX.out,_,rfl,?_⟩;rw[yj.out];exact HOo.out
end Go.Proofs.YteninnkbmoimgaaGreatDoor
namespace aD
theorem aeQ {g:Int->Int->List Int×Int} {most:Int}:∀(L:List aG) (b:List Int),(b.length:Int)<=most->((ng g most b L).1.length:Int)<=most
 | [],b,h=>h
 | x::L,b,h=>by
   unfold ng;split
   ·simp;omega
   ·split
    ·simp;omega
    ·exact aeQ L _ af
theorem ar6 (M:List (List UInt8)) (d:DS):∀(l:Nat) (b most:Int),0<=most->((je M d l b most).1.length:Int)<=most+1
 | 0,b,most,h=>by simp[je];omega
 | l+1,b,most,h=>by
   unfold je;split
   ·simp;omega
   ·have:=aeQ (g:=je M d l) (most:=most) (bF M d b ((l+1:Nat):Int)).1.ai [] nA;omega
theorem ar7 {g:Int->Int->List Int×Int} {most:Int} {E:List aG} {k:Nat} (d:k<E.length) (b:List Int):
 ng g most b (E.drop k)=if(g (au E k).2 (most-(b.length:Int))).2≠0 then([],(g (au E k).2 (most-(b.length:Int))).2)
  else if most<((b++(g (au E k).2 (most-(b.length:Int))).1).length:Int) then([],8)
  else ng g most (b++(g (au E k).2 (most-(b.length:Int))).1) (E.drop (k+1)):=by
 have e:E.drop k=au E k::E.drop (k+1):=by
  rw[gz d];simp[au,List.getD,d]
 rw[e,ng]
end aD
namespace Go.Proofs.YteninnkbmoimgaaGreatDoor
open Go.RowKit aD
theorem aeR {w:World} {ops:Array Oper} {rest:List Oper} {o:Oper} {a:Act} {Q:Exit->Act->World->Prop} (hgd:Region.wanted o (yielded ops a.tmps)=true) (d s:Operand)
 (ho:o.op=.call {callee:=.builtin .append,args:=#[d,s],argTypes:=#[101,101]}) (base:Nat) (v:Value) (n:Nat) (xs:List Value) (hv:a.eval d=v) (hown:w.ownsRow base 3 1 v n xs) (p:Option Addr) (m c:Nat) (f:List Value) (hs:a.eval s=.slice p m c) (z:f.length=m) (hc:Cells w p f)
 (y:∀u∈f,u.oneCell'=true) (C:n+m<=100000000) (i:base<=w.heap.size)
 (h:∀t w',w'.ownsRow base 3 1 t (n+m) (xs++f)->w.grownBy w' v.ownBlock->wpList Tryz.prog ops Q rest (a.put o.dst t) w'):wpList Tryz.prog ops Q (o::rest) a w:=by
 by_cases B:m=0
 ·subst B;obtain rfl:f=[]:=gY z;obtain⟨q,k,rfl⟩:=cE hown;have r:n<=k:=by
   exact OV
  obtain⟨G,l,D,F,E⟩:=lH uW;have hr:(Builtin.append_ #[101,101] o.type #[.slice q n k,.slice p 0 c]).run Tryz.prog w=.ok (.slice q n k) w:=by
   cases p<;>cases q<;>simp[Builtin.append_,pO Tryz.underlying101,Go.sizeOf,typeInfo,l,Builtin.lenOf,Builtin.firstCells,loadCells,loadCellsFrom,Go.storeCells,r]
  exact JQ
 ·obtain⟨j,rfl⟩:∃j,p=some j:=by
   exact Aa
  exact sV hgd d s 101 3 ho base (.int .i64 0) 1 8 Tryz.underlying101 uW rfl aq v n xs hv hown (some j) m c f hs rfl af hc y C aq i h
theorem ar9 (p:Option Addr) (cap n:Nat) (m:List (List UInt8)) (d:DS) (hn:m.length=n) (hm:Small m):∀(l:Nat),l<=6->∀(f most:Int) (w:World),bk w p m->0<=most->most<=4096->
 Calls Tryz.prog 65 #[.slice p n cap,.agg (az d),.int .i64 f,.int .i64 ((l:Nat):Int),.int .i64 most] w (mJ (je m d l f most).1 (je m d l f most).2 w):=by
 intro l;induction l with
 | zero=>
   intro _ f most w hs h0 h1;have hx:=(Ext.alloc w (.cells (az d) 23)).trans (Ext.alloc _ (.cells #[.int .i64 f] 3));have hb:ah ((w.alloc (.cells (az d) 23)).alloc (.cells #[.int .i64 f] 3)) (w.heap.size+1) (.cells #[.int .i64 f] 3):=ah.new1 _ _ _ av;have HO:Hid (mJ [f] 0 w (.returned (.tuple #[.slice (some ⟨w.heap.size+1,0,none⟩) 1 1,.int .i64 0])) ((w.alloc (.cells (az d) 23)).alloc (.cells #[.int .i64 f] 3))):=ag ⟨hx,_,1,rfl,Dy (xs:=[.int .i64 f]) hb af rfl (by show 1<=maxLen;decide)⟩;show Calls _ _ _ _ (mJ [f] 0 w);clear hx hb hs;generalize mJ [f] 0 w=OUT at *;go_enter Tryz.func65,Tryz.ntmps65;go_wp2;exact HO.out
 | succ l ih=>
   intro DA f most w hs hm0 hm1;have hsz:=(Ext.alloc w (.cells (az d) 23));have hdb:=ah.new w (.cells (az d) 23);have HL:=ag (Tx p cap n m d f ((l+1:Nat):Int));obtain⟨T,hT⟩:∃T,T=je m d (l+1) f most:=⟨_,rfl⟩;rw[<-hT];have Hs:=ag hs;have TE:=ag (fun pg ms W hh h1 h2=>ih af pg ms W hh h1 h2);have Bl:Hid (∀e w' c,T=([],c)->Ext w w'->e=.returned (.tuple #[.slice none 0 0,.int .i64 c])->mJ T.1 T.2 w e w'):=ag (fun e w' c hc h1 h2=>by rw[hc];exact MY h1 h2);have Ij:Hid (∀e w' L q c,T=(L,0)->Ext w w'->e=.returned (.tuple #[.slice q L.length c,.int .i64 0])->w'.ownsRow w.heap.size 3 1 (.slice q L.length c) L.length (cP L)->mJ T.1 T.2 w e w'):=ag (fun e w' L q c hc h1 h2 h3=>by rw[hc];exact⟨h1,q,c,h2,h3⟩);unfold je at hT;obtain⟨H,nM⟩:∃H,H=l+1:=⟨_,rfl⟩;rw[<-nM] at HL hT⊢;have hne:(((H:Nat):Int)==0)=false:=aY;have hnz:¬H=0:=af;have hw1:IntKind.i64.wrap (((H:Nat):Int)-1)=((l:Nat):Int):=pJ;have NB:=ag nM;clear nM hs ih;generalize mJ T.1 T.2 w=OUT at *;have Cf:Hid (∀W,Ext w W->Calls Tryz.prog 101 #[.slice p n cap,.agg (az d),.int .i64 f,.int .i64 ((H:Nat):Int)] W (mo m d f ((H:Nat):Int) W)):=ag (fun W e=>HL.out W (Hs.out.ext e) hn hm);unfold mo at Cf;by_cases hE:(bF m d f ((H:Nat):Int)).2=0
   ·have hsp:=(qW hE).1;rw[hE] at Cf;rw[aA (by rw[hE];simp)] at hT;have GG:=hsp.l2;clear hsp hE HL;generalize(bF m d f ((H:Nat):Int)).1=j at *;have HT:=ag hT;clear hT;go_enter Tryz.func65,Tryz.ntmps65;go_upto_region 1 with(fail);refine aR (fun w0=>Ext w w0/\bI w0 w.heap.size d) ⟨hsz,hdb⟩ ?_;clear hsz hdb;rintro w0 ⟨G,N⟩;go_upto_region 6 with(first
     | ((with_reducible refine aW 24 ?_);refine bu rfl (.tmp 6) rfl _ rfl d N ?_)
     | (go_at_call 101;refine(Cf.out _ G).mono ?_;rintro e Z ⟨O,q1,c1,rfl,jG⟩)
     | (refine aU rfl 106 (.tmp 12) (.tmp 28) rfl _ #[.int .i64 j.level,.int .i64 j.next,.slice q1 j.ai.length c1] rfl rfl _ _ (ah.new Z _) bq rfl cT ?_;intro w2 hn2 M;have X:=M.ext (Ext.alloc Z _) (aH _)))
    have zq:=(G.trans O).trans X;refine aR (fun w3=>Ext w w3/\bI w3 w.heap.size d/\ah w3 Z.heap.size (.cells #[.int .i64 j.level,.int .i64 j.next,.slice q1 j.ai.length c1] 106)/\w3.ownsRow 0 142 2 (.slice q1 j.ai.length c1) j.ai.length (aV j.ai)) ⟨zq,(N.ext O).ext X,hn2,fJ (fo (aO jG (Ext.alloc Z _)) aq (ah.new Z _) M) (bL _)⟩ ?_;clear G N O jG hn2 M X zq;generalize Z.heap.size=nb at *;clear w2 Z;rintro w3 ⟨kI,hd3,lY,ni⟩;have Hu:=World.ownsRow_made (base:=w.heap.size) (e:=3) (size:=1) w3 #[] 0 kI.size av rfl;have Y:=Ext.alloc w3 (.cells #[] 3);go_upto_region 8 with(fail);go_loopw[14,15] (fun out i wr=>∃(k:Nat) (L:List Int),k<=j.ai.length/\(L.length:Int)<=most/\i=.int .i64 k/\T=ng (je m d l) most L (j.ai.drop k)/\Ext w wr/\bI wr w.heap.size d/\ah wr nb (.cells #[.int .i64 j.level,.int .i64 j.next,.slice q1 j.ai.length c1] 106)/\wr.ownsRow 0 142 2 (.slice q1 j.ai.length c1) j.ai.length (aV j.ai)/\∃q c,out=.slice q L.length c/\wr.ownsRow w.heap.size 3 1 (.slice q L.length c) L.length (cP L)) (fun _ i _=>j.ai.length-(intOf i).toNat)
    case atStart=>exact⟨0,[],bL _,by simpa using hm0,rfl,HT.out,kI.trans Y,hd3.ext Y,Y.blk _ _ lY,aO ni Y,some ⟨w3.heap.size,0,none⟩,0,rfl,Hu⟩
    case round=>
     clear kI hd3 lY ni Hu Y;obtain⟨k,L,hk,UD,rfl,B,hx,hd,U,ho,q,c,rfl,V⟩:=hrel;have Bj:wr.cell? ⟨nb,2,none⟩=some (.slice q1 j.ai.length c1):=ah.val U 2 _ rfl;have DT:=ah.lt U;have HQ:=ag (And.intro hx (And.intro hd (And.intro U (And.intro ho V))));have asa:=ah.lt hd;by_cases S:k<j.ai.length
     ·have gB:(k:Int)<j.ai.length:=af;rw[ar7 S] at B;obtain⟨g,rfl,hgl,iz⟩:∃g,q1=some ⟨g,0,none⟩/\g<wr.heap.size/\wr.cell? ⟨g,k*2+1,none⟩=some (.int .i64 (au j.ai k).2):=by
       obtain⟨g,off,hq,hgl,iz⟩:=(mq ho).at k S;obtain⟨g',_,hq',_⟩:=jM ho af;rw[hq'] at hq;simp only[mz,Addr.mk.injEq,kD] at hq;obtain⟨rfl,rfl⟩:=hq;have:=(iz k S).2;rw[nB] at this;exact⟨g',hq',hgl,this⟩
      have hms:0<=most-(L.length:Int):=af;have zx:=ag (fun W (e:Ext wr W)=>TE.out (au j.ai k).2 (most-(L.length:Int)) W (Hs.out.ext (hx.trans e)) hms af);have hrl:=ar6 m d l (au j.ai k).2 (most-(L.length:Int)) hms;have hwm:IntKind.i64.wrap (most-(L.length:Int))=most-(L.length:Int):=IntWalk.i64_in _ af;generalize kC:(au j.ai k).2=pg at *;generalize je m d l pg (most-(L.length:Int))=r at *;obtain⟨u,re⟩:=r;simp only at B hrl zx;have aeS:Hid (∀W,Ext wr W->Calls Tryz.prog 65 #[.slice p n cap,.agg (az d),.int .i64 pg,.int .i64 ((l:Nat):Int),.int .i64 (most-(L.length:Int))] W fun e w'=>Ext W w'/\∃v,e=.returned v/\tG (mK 3 0 u.length (cP u)) (.int .i64 re) v w'):=ag (fun W e=>(zx.out W e).mono (fun e' w' ⟨a1,q,c,a2,a3⟩=>⟨a1,_,a2,_,rfl,q,c,rfl,fJ a3 (bL _)⟩));have I:=ag B;have azt:u.length<=5000:=af;have hLl:L.length<=4096:=af;have Hlm:=ag UD;clear B hx hd U ho V zx hrl kC hms UD;go_upto_region 10 with(fail);refine eR 200 (Ext.refl wr) aj aj aj ?_;refine gV ?_;repeat (first
       | (refine bT (o:=⟨some 43,_,_,_,_,_⟩) (v:=.agg (az d)) rfl ?_ ?_
          ·intro a w' he hr K hK;simp[Reads,Oper.looksAt,Op.operands,aJ,Is] at hr;exact eG 23 (.tmp 6) rfl (w.heap.size) dX _ _ _ _ (he.blk _ _ HQ.out.2.1) gr rfl gD (hK _ (Ext.refl _))
          refine aE ?_)
       | (refine jh (o:=⟨some 56,_,_,_,_,_⟩) (tG (mK 3 0 u.length (cP u)) (.int .i64 re)) (tG.ay (mK.ay _ _ _ _) _) rfl ?_ ?_
          ·intro a w' he hr K hK;simp[Reads,Oper.looksAt,Op.operands,Call.operands,aJ,Is] at hr;go_simp;refine(aeS.out _ he).mono ?_;rintro e w'' ⟨he',v,rfl,hf⟩;exact hK _ _ he' hf
          refine aE ?_)
       | (refine jh (o:=⟨some 57,_,_,_,_,_⟩) (mK 3 0 u.length (cP u)) (mK.ay _ _ _ _) rfl ?_ ?_
          ·intro a w' he hr K hK;obtain⟨y,h1,h9⟩:=hr 41 bO;simp at h1;go_simp;exact hK _ _ (Ext.refl _) h9
          refine aE ?_)
       | (refine bT (o:=⟨some 58,_,_,_,_,_⟩) (v:=.int .i64 re) rfl ?_ ?_
          ·intro a w' he hr K hK;obtain⟨y,h1,h9⟩:=hr 41 bO;exact mO
          refine aE ?_)
       | (refine kN ?_)
       | (refine fR ?_)
       | (refine iq ?_)
       | (refine fk ?_))
      intro w2 E;repeat (first | with_reducible refine cH _ _ _ _ ?_ | (with_reducible refine cI _ _ _ _ ?_;intro _ _) | with_reducible refine cJ _ _ ?_)
      simp only[cF,cK,bQ,bE];rename_i x16 h16 Um vP x56 h56 x57 h57;obtain⟨ql,cl,rfl,hol⟩:=h16;have t:=ag (And.intro (HQ.out.1.trans E) (And.intro (HQ.out.2.1.ext E) (And.intro (E.blk _ _ HQ.out.2.2.1) (And.intro (aO HQ.out.2.2.2.1 E) (aO HQ.out.2.2.2.2 E)))));have Hol:Hid (Cells w2 ql (cP u)):=ag (Nf hol);have hsw:=t.out.1.size;clear vP h56 h57 hol E iz hgl Bj DT HQ asa aeS;by_cases F:re=0
      ·have hri:(re !=0)=false:=by simp[F]
       have J:=I.out;rw[aA (by simp[F])] at J;subst F;by_cases z:most<((L++u).length:Int)
       ·have hmI:most<((L.length+u.length:Nat):Int):=by simpa using z
        have asg:most<(L.length:Int)+(u.length:Int):=by simpa using z
        have HO:=ag (fun e w'=>Bl.out e w' 8 (by rw[J,aC z]));clear J z I;go_wp2_with(at_builtin;refine aeR (o:=⟨some 64,_,_,_,_,_⟩) rfl (.tmp 62) (.tmp 63) rfl w.heap.size _ L.length _ rfl t.out.2.2.2.2 ql u.length cl (cP u) rfl (by simp[cP]) Hol.out (TV u) af hsw ?_;intro v8 w8 C R;have r8:=pZ (T:=3) R t.out.2.2.2.2 hsw;obtain⟨q8,k8,rfl⟩:=cE C;have D:=ag r8;have mA:=ag C;clear r8 C R);exact HO.out _ _ (Ext.trans' t.out.1 D.out.1) rfl
       ·have hmI:decide (most<((L.length+u.length:Nat):Int))=false:=aM (by simpa using z);have asg:decide (most<(L.length:Int)+(u.length:Int))=false:=aM (by simpa using z);have HT2:Hid (T=ng (je m d l) most (L++u) (j.ai.drop (k+1))):=ag (by rw[J,aA z]);have Hmo:=ag z;clear J z I;go_wp2_with(at_builtin;refine aeR (o:=⟨some 64,_,_,_,_,_⟩) rfl (.tmp 62) (.tmp 63) rfl w.heap.size _ L.length _ rfl t.out.2.2.2.2 ql u.length cl (cP u) rfl (by simp[cP]) Hol.out (TV u) af hsw ?_;intro v8 w8 C R;have r8:=pZ (T:=3) R t.out.2.2.2.2 hsw;obtain⟨q8,k8,rfl⟩:=cE C;have D:=ag r8;have mA:=ag C;clear r8 C R);go_roundw
        case rel=>exact⟨k+1,L++u,af,by have:=Hmo.out;omega,bX,HT2.out,Ext.trans' t.out.1 D.out.1,D.out.2 _ _ _ aq t.out.2.1,D.out.2 _ _ _ aq t.out.2.2.1,rC t.out.2.2.2.1 aq D.out,q8,k8,by rw[ew],by rw[ew,show cP (L++u)=cP L++cP u by simp[cP]];exact mA.out⟩
        case measure=>exact ct
      ·have hri:(re !=0)=true:=by simpa using F
       have HO:=ag (fun e w'=>Bl.out e w' re (by rw[I.out,aC F]));clear I F;go_wp2_with fail;exact HO.out _ _ t.out.1 rfl
     ·have gB:decide ((k:Int)<j.ai.length)=false:=aM af;have adH:¬k<j.ai.length:=S;rw[jI af] at B;have HO:=ag (fun e w' q c=>Ij.out e w' L q c B);clear B S hx hd U ho V;go_wp2_with fail;exact HO.out _ _ q c HQ.out.1 rfl HQ.out.2.2.2.2
   ·have HO:=ag (fun e w'=>Bl.out e w' _ (by rw[aC hE] at hT;exact hT));have vC:((bF m d f ((H:Nat):Int)).2 !=0)=true:=by simpa using hE
    clear hT hE Bl Ij HL;generalize(bF m d f ((H:Nat):Int)).2=er at *;generalize(bF m d f ((H:Nat):Int)).1=j at *;go_enter Tryz.func65,Tryz.ntmps65;go_upto_region 1 with(fail);refine aR (fun w0=>Ext w w0/\bI w0 w.heap.size d) ⟨hsz,hdb⟩ ?_;clear hsz hdb;rintro w0 ⟨G,N⟩;go_wp2_with(first
     | ((with_reducible refine aW 24 ?_);refine bu rfl (.tmp 6) rfl _ rfl d N ?_)
     | (go_at_call 101;refine(Cf.out _ G).mono ?_;rintro e Z ⟨O,q1,c1,rfl,jG⟩)
     | (refine aU rfl 106 (.tmp 12) (.tmp 28) rfl _ #[.int .i64 j.level,.int .i64 j.next,.slice q1 j.ai.length c1] rfl rfl _ _ (ah.new Z _) bq rfl cT ?_;intro w2 hn2 M;have X:=M.ext (Ext.alloc Z _) (aH _)))
    exact HO.out _ _ ((G.trans O).trans X) rfl
theorem asj (p:Option Addr) (r n:Nat) (m:List (List UInt8)) (h:Hd) (d:DS) (w:World) (E:bk w p m) (U:m.length=n) (T:Small m):
 Calls Tryz.prog 45 #[.slice p n r,.agg (aK h),.agg (az d)] w (mJ (oP m h d) (kM m h d) w):=by
 have l:=yL w h d;have g:=ag (fun W=>Mt h d W);have Hs:=ag E;by_cases hz:jg h d=0
 ·have u:oP m h d=(je m d h.height.toNat h.root 4096).1:=by unfold oP;rw[aA uP]
  have y:kM m h d=(je m d h.height.toNat h.root 4096).2:=by unfold kM;rw[aA uP]
  rw[u,y];rw[hz] at g;obtain⟨k1,k2,V,X,Y,Z,k7⟩:=xg hz;obtain⟨H,J⟩:∃H:Nat,h.height=H:=⟨h.height.toNat,af⟩;have z:h.height.toNat=H:=af;rw[z];have K:Hid (∀W,Ext w W->Calls Tryz.prog 65 #[.slice p n r,.agg (az d),.int .i64 h.root,.int .i64 h.height,.int .i64 4096] W fun e w'=>∃q c,Ext W w'/\e=.returned (.tuple #[.slice q (je m d H h.root 4096).1.length c,.int .i64 (je m d H h.root 4096).2])/\w'.ownsRow w.heap.size 3 1 (.slice q (je m d H h.root 4096).1.length c) (je m d H h.root 4096).1.length (cP (je m d H h.root 4096).1)):=ag (fun W e=>by
   rw[J];exact(ar9 p r n m d U T H af h.root 4096 W (E.ext e) af af).mono (fun e' w' ⟨O,q,c,Q,R⟩=>⟨q,c,O,Q,fJ R e.size⟩))
  clear E hz u y k1 k2 V X Y Z k7 J z;unfold mJ;generalize(je m d H h.root 4096).1=L at *;generalize(je m d H h.root 4096).2=er at *;go_enter Tryz.func45,Tryz.ntmps45;go_upto_region 1 with(fail);refine aR (fun o=>Ext w o/\fG o w.heap.size h/\bI o (w.heap.size+1) d) l ?_;clear l;rintro o ⟨t,i,j⟩;go_upto_region 4 with(first
   | ((with_reducible refine aW 9 ?_);refine mM rfl (.tmp 4) rfl _ rfl h i ?_)
   | ((with_reducible refine aW 10 ?_);refine bu rfl (.tmp 5) rfl _ rfl d j ?_)
   | (go_at_call 64;refine(g.out _).mono ?_;rintro e I ⟨rfl,f⟩))
  have C:=t.trans f;have b:=i.ext f;have B:=j.ext f;have c3:I.cell? ⟨w.heap.size,3,none⟩=some (.int .i64 h.root):=ah.val b 3 _ rfl;have c4:I.cell? ⟨w.heap.size,4,none⟩=some (.int .i64 h.height):=ah.val b 4 _ rfl;have l3:=ah.lt b;go_wp2_with(first
   | ((with_reducible refine aW 16 ?_);refine bu rfl (.tmp 5) rfl _ rfl d B ?_)
   | (go_at_call 65;refine(K.out _ C).mono ?_;rintro e w2 ⟨q2,S,F,rfl,G⟩))
  go_ret2;exact⟨C.trans F,q2,S,rfl,G⟩
 ·have D:jg h d=1:=EH;have u:oP m h d=[]:=by unfold oP;rw[aC hz]
  have y:kM m h d=1:=by unfold kM;rw[aC hz]
  rw[u,y];rw[D] at g;have M:=ag (fun e w'=>MY (w:=w) (w':=w') (e:=e) (c:=1));clear E hz D u y;generalize mJ [] 1 w=N at *;go_enter Tryz.func45,Tryz.ntmps45;go_upto_region 1 with(fail);refine aR (fun o=>Ext w o/\fG o w.heap.size h/\bI o (w.heap.size+1) d) l ?_;clear l;rintro o ⟨t,i,j⟩;go_wp2_with(first
   | ((with_reducible refine aW 9 ?_);refine mM rfl (.tmp 4) rfl _ rfl h i ?_)
   | ((with_reducible refine aW 10 ?_);refine bu rfl (.tmp 5) rfl _ rfl d j ?_)
   | (go_at_call 64;refine(g.out _).mono ?_;rintro e I ⟨rfl,f⟩))
  exact M.out _ _ (t.trans f) rfl
end Go.Proofs.YteninnkbmoimgaaGreatDoor

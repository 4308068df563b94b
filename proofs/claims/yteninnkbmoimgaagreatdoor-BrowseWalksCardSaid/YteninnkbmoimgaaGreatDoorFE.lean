/- A part of the proof. -/
import Derived.Test.YteninnkbmoimgaaGreatDoorFF
import Derived.Test.YteninnkbmoimgaaGreatDoorAW0
set_option linter.unusedSimpArgs false
set_option linter.unusedVariables false
set_option maxRecDepth 100000
set_option maxHeartbeats 16000000
namespace aD
theorem Bh {s:List UInt8} {a:Nat} (h:a<s.length):dI ((s.drop a).take 1)=aL s a:=by
 have e:(s.drop a).take 1=[s[a]]:=by rw[gz h];rfl
 rw[e,DJ];simp[aL,List.getD,h]
theorem ap3 {data:List UInt8} {s:PS} {a:Nat} (b:s.rest=data.drop a) (i:a+2<=data.length) (j:aL data a<=s.before.length) (l:a+2+aL data (a+1)+4<=data.length):
 y9 s=⟨s.before.take (aL data a)++(data.drop (a+2)).take (aL data (a+1)),data.drop (a+6+aL data (a+1)),s.ai++[(s.before.take (aL data a)++(data.drop (a+2)).take (aL data (a+1)),(dI ((data.drop (a+2+aL data (a+1))).take 4):Int))]⟩:=by
 have e:Be s=aL data a:=by
  unfold Be;rw[b,Bh af];omega
 have d:tg s=aL data (a+1):=by
  unfold tg;rw[b,sN,Bh af]
 have f:rY s=s.before.take (aL data a)++(data.drop (a+2)).take (aL data (a+1)):=by
  unfold rY;rw[e,d,b,sN]
 have g:qX s=data.drop (a+2+aL data (a+1)):=by
  unfold qX;rw[d,b,sN,sN,sD]
 unfold y9;rw[f,g,sN,show a+2+aL data (a+1)+4=a+6+aL data (a+1) by omega]
theorem ap4 {size:Int} {data:List UInt8} {k a:Nat} (g:k<uz data) (d:(eY data k).rest=data.drop a) (h:¬(a+2<=data.length/\aL data a<=(eY data k).before.length/\a+2+aL data (a+1)+4<=data.length)):lX size data=false:=by
 cases hd:lX size data
 ·rfl
 ·obtain⟨e,j⟩:=apD hd g;exfalso;apply h;have f:(eY data k).rest.length=data.length-a:=by rw[d,eU]
  have b:a+2<=data.length:=af;have i:tg (eY data k)=aL data (a+1):=by
   unfold tg;rw[d,sN,Bh af]
  rw[d,Bh af] at e;exact⟨b,e,af⟩
end aD
namespace Go.Proofs.YteninnkbmoimgaaGreatDoor
open Go.RowKit aD
theorem adn {w:World} {ops:Array Oper} {rest:List Oper} {o:Oper} {a:Act} {Q:Exit->Act->World->Prop} (hgd:Region.wanted o (yielded ops a.tmps)=true) (d s:Operand)
 (ho:o.op=.call {callee:=.builtin .append,args:=#[d,s],argTypes:=#[104,104]}) (base:Nat) (v:Value) (n:Nat) (xs:List Value) (hv:a.eval d=v) (hown:w.ownsRow base 142 2 v n xs) (p:Option Addr) (m c:Nat) (f:List Value) (hs:a.eval s=.slice p m c) (z:f.length=m*2) (hc:Cells w p f)
 (y:∀u∈f,u.oneCell'=true) (C:n+m<=100000000) (i:base<=w.heap.size)
 (h:∀t w',w'.ownsRow base 142 2 t (n+m) (xs++f)->w.grownBy w' v.ownBlock->wpList Tryz.prog ops Q rest (a.put o.dst t) w'):wpList Tryz.prog ops Q (o::rest) a w:=by
 by_cases B:m=0
 ·subst B;obtain rfl:f=[]:=gY af;obtain⟨q,k,rfl⟩:=cE hown;have r:n<=k:=by
   exact OV
  obtain⟨G,l,D,F,E⟩:=lH um;have hr:(Builtin.append_ #[104,104] o.type #[.slice q n k,.slice p 0 c]).run Tryz.prog w=.ok (.slice q n k) w:=by
   cases p<;>cases q<;>simp[Builtin.append_,pO Tryz.underlying104,Go.sizeOf,typeInfo,l,Builtin.lenOf,Builtin.firstCells,loadCells,loadCellsFrom,Go.storeCells,r]
  exact JQ
 ·obtain⟨j,rfl⟩:∃j,p=some j:=by
   exact Aa
  exact sV hgd d s 104 142 ho base (.agg #[.string ByteArray.empty,.int .i64 0]) 2 24 Tryz.underlying104 um rfl aq v n xs hv hown (some j) m c f hs rfl z hc y C aq i h
theorem ado (x y:Int):Tryz.prog.built 106 [(0,.int .i64 x),(1,.int .i64 y)]=some #[.int .i64 x,.int .i64 y,.slice none 0 0]:=aj
theorem ap5 {size:Int} {data:List UInt8} {w w':World} {e:Ending} (d:cQ size=true) (b:lX size data=false) (h1:Ext w w') (h2:e=.returned (.tuple #[.agg #[.int .i64 0,.int .i64 0,.slice none 0 0],.int .i64 11])):lG size data w e w':=by
 have h3:gH size data=11:=by unfold gH;rw[d,b];rfl
 exact Kv
theorem ap6 {size:Int} {data:List UInt8} {w w':World} {e:Ending} {q:Option Addr} {c B:Nat} (o:cQ size=true) (b:dS size (fQ data)=0) (d:iW size (fQ data)=data) (n:w.heap.size<=B) (i:Ext w w') (j:e=.returned (.tuple #[.agg #[.int .i64 (fQ data).level,.int .i64 (fQ data).next,.slice q (fQ data).ai.length c],.int .i64 0]))
 (m:w'.ownsRow B 142 2 (.slice q (fQ data).ai.length c) (fQ data).ai.length (aV (fQ data).ai)):lG size data w e w':=by
 have g:lX size data=true:=by
  unfold lX;rw[bM b,d];simp
 have f:gH size data=0:=by unfold gH;rw[o,g];rfl
 have l:dz size data=fQ data:=by unfold dz;rw[aC f]
 unfold lG;rw[f,l];exact⟨i,q,c,j,fJ m n⟩
theorem ap7 {size:Int} {data:List UInt8} (hc:dS size (fQ data)≠0∨iW size (fQ data)≠data):lX size data=false:=by
 exact WZ
theorem Gi:∀(L:List aG),∀u∈aV L,u.oneCell'=true
 | [],u,h=>by simp[aV] at h
 | x::L,u,h=>by
   have e:aV (x::L)=.string ⟨x.1.toArray⟩::.int .i64 x.2::aV L:=zV;rw[e] at h;simp only[fD] at h;rcases h with rfl | rfl | h
   ·rfl
   ·rfl
   ·exact Gi L u h
theorem qC:∀(L:List aG),(aV L).length=L.length*2
 | []=>rfl
 | x::L=>by
   have e:aV (x::L)=.string ⟨x.1.toArray⟩::.int .i64 x.2::aV L:=zV;rw[e,gW,gW,gW,qC L];omega
theorem adp (size:Int) (data:List UInt8) (hl:data.length<=1000000) (w:World):
 Calls Tryz.prog 67 #[.int .i64 size,.string ⟨data.toArray⟩] w (lG size data w):=by
 have HZ:=ag (fun W=>rG size W);have z:=ah.new w (.cells #[.int .i64 0,.int .i64 0,.slice none 0 0] 106);have C:=Ext.alloc w (.cells #[.int .i64 0,.int .i64 0,.slice none 0 0] 106);cases hz:cQ size
 ·rw[hz] at HZ;have HO:Hid (∀e w',Ext w w'->e=.returned (.tuple #[.agg #[.int .i64 0,.int .i64 0,.slice none 0 0],.int .i64 1])->lG size data w e w'):=ag (fun e w' h1 h2=>by
   have h3:gH size data=1:=by unfold gH;rw[hz,aC rfl]
   exact Kv)
  generalize lG size data w=OUT at *;have vc:=ag z;have ve:=ag C;clear hz hl z C;go_enter Tryz.func67,Tryz.ntmps67;go_upto_region 2 with(go_at_call 102;refine(HZ.out _).mono ?_;rintro e w2 ⟨rfl,rfl⟩);go_wp2_with(first
   | (refine dW (o:=⟨some 17,_,_,_,_,_⟩) rfl 106 #[] rfl [] rfl _ uK ?_)
   | (refine aU rfl 106 (.tmp 4) (.tmp 17) rfl _ #[.int .i64 0,.int .i64 0,.slice none 0 0] rfl rfl _ _ vc.out bq rfl cT ?_;intro w6 pT iw))
  exact bY (dM Tryz.results67 _ _ _ _ _ _ rfl pT cZ rfl bq) rfl (HO.out _ _ (iw.ext ve.out (aH _)) rfl)
 ·rw[hz] at HZ;have j:=ag (fun e w'=>ap5 (data:=data) (w:=w) (w':=w') (e:=e) hz);by_cases l:(data.length:Int)=size
  ·subst l;have hsp:=size_pos hz;have h128:128<=data.length:=af;have ajV:data.length<=512:=af;have HN:=ag (fun a (ha:a+4<=data.length) W=>ap0 data a ha hl W);obtain⟨nx,lQ⟩:∃nx,nx=DK data:=⟨_,rfl⟩;have HN1:Hid (∀W,Calls Tryz.prog 103 #[.string ⟨data.toArray⟩,.int .i64 1] W fun e w'=>e=.returned (.int .i64 (nx:Nat))/\Ext W w'):=ag (fun W=>by rw[lQ];exact HN.out 1 af W);have R:=ag (fun e w' q c B=>ap6 (data:=data) (w:=w) (w':=w') (e:=e) (q:=q) (c:=c) (B:=B) hz);have Bg:=ag lQ;have Tu:((data.length:Int)!=(data.length:Int))=false:=av;have Ic:=ag (fun q c n W hh hk=>Sl (data.length:Int) q c n W hh hk);have Tv:(0:Int)<data.length:=af;have h5I:(5:Int)<data.length:=af;have h0N:0<data.length:=af;have h5N:5<data.length:=af;have hb0:=nV data 0;clear hz hsp lQ;have HP:Hid (∀k a,k<aL data 5->(eY data k).rest=data.drop a->¬(a+2<=data.length/\aL data a<=(eY data k).before.length/\a+2+aL data (a+1)+4<=data.length)->lX (data.length:Int) data=false):=ag (fun k a hk hr h=>ap4 (by unfold uz;rw[Bh af];exact hk) hr h);generalize Bi:lG (data.length:Int) data w=OUT at *;clear Bi;go_enter Tryz.func67,Tryz.ntmps67;go_upto_region 5 with(go_at_call 102;refine(HZ.out _).mono ?_;rintro e w2 ⟨rfl,rfl⟩);refine aR (fun w0=>Ext w w0/\ah w0 w.heap.size (.cells #[.int .i64 0,.int .i64 0,.slice none 0 0] 106)) ⟨C,z⟩ ?_;clear C z;rintro w0 ⟨hx0,hz0⟩
   have hlz:=ah.lt hz0;refine kH 200 [(7,[(6,6)])] (Ext.refl w0) aj aj aj aj aj aj (rL _ _ 7 6 6 (j4 w0.heap.size 106) (fS w0.heap.size (.cells #[.int .i64 (aL data 0:Nat),.int .i64 (nx:Nat),.slice none 0 0] 106)) (fun _ _ h=>h.below) (fS.ay _ _) aj) ?_;refine gV ?_;repeat (first
    | (refine dY (o:=⟨some 6,_,_,_,_,_⟩) (fS w0.heap.size (.cells #[.int .i64 0,.int .i64 0,.slice none 0 0] 106)) (fS.ay _ _) vY aj aP ?_ ?_
       ·exact uU
       refine aE ?_)
    | (refine dF (o:=⟨some 24,_,_,_,_,_⟩) (v:=.int .u8 (aL data 0:Nat)) aj aP ?_ ?_
       ·intro a w' he hr K hK;exact E9
       refine aE ?_)
    | (refine dF (o:=⟨some 27,_,_,_,_,_⟩) (v:=.int .i64 (nx:Nat)) aj aP ?_ ?_
       ·intro a w' he hr K hK;simp[Reads,Oper.looksAt,Op.operands,Call.operands,aJ,Is] at hr;go_simp;refine(HN1.out _).mono ?_;exact kg
       refine aE ?_)
    | (refine dF (o:=⟨some 28,_,_,_,_,_⟩) (v:=.agg #[.int .i64 (aL data 0:Nat),.int .i64 (nx:Nat),.slice none 0 0]) aj aP ?_ ?_
       ·intro a w' he hr K hK;have h1:=hr 25 bO;have h2:=hr 27 bO;refine tJ 106 #[(0,.tmp 25),(1,.tmp 27)] rfl ?_ ?_
        ·rw[(show((#[(0,Operand.tmp 25),(1,Operand.tmp 27)]:Array (Nat×Operand)).map fun(i,x)=>(i,a.eval x)).toList=[(0,.int .i64 (aL data 0:Nat)),(1,.int .i64 (nx:Nat))] from WH),ado _ _];rfl
        ·rw[(show((#[(0,Operand.tmp 25),(1,Operand.tmp 27)]:Array (Nat×Operand)).map fun(i,x)=>(i,a.eval x)).toList=[(0,.int .i64 (aL data 0:Nat)),(1,.int .i64 (nx:Nat))] from WH),ado _ _];exact hK _ (Ext.refl _)
       refine aE ?_)
    | (refine iU (o:=⟨none,_,_,_,_,_⟩) Any Any.ay (.inr Any.bP) aj aP ?_ ?_
       ·intro a w' he hr K hK;obtain⟨b,h1,h2,h3⟩:=hr 6 bO;have hv:=hr 28 bO;refine nC 106 (.tmp 6) (.tmp 28) rfl b #[.int .i64 (aL data 0:Nat),.int .i64 (nx:Nat),.slice none 0 0] h1 hv _ _ h2 bq rfl cT ?_;exact WE
       refine aE ?_)
    | (refine qD ?_)
    | (refine pH ?_))
   intro w2 Z;simp only[iJ,iQ,jS,kW,bG,bN];repeat (first | with_reducible refine cH _ _ _ _ ?_ | (with_reducible refine cI _ _ _ _ ?_;intro _ _) | with_reducible refine cJ _ _ ?_)
   simp only[cF,cK,bQ,bE];rename_i x6 h6;obtain⟨nb,rfl,M,hnb⟩:=h6;have hz2:=Z.blk _ _ hz0;have ap9:=M;have hx2:=hx0.trans Z;have ayK:=ah.lt M;have DA:6<=data.length:=af;clear ap9 hz0 hx0 Z;go_upto_region 8 with(fail);go_loopw[7,8,9] (fun pa Tm i wr=>∃k a:Nat,k<=aL data 5/\a<=data.length/\i=.int .i64 k/\pa=.int .i64 a/\Tm=.string ⟨(eY data k).before.toArray⟩/\(eY data k).rest=data.drop a/\Ext w wr/\ah wr w.heap.size (.cells #[.int .i64 0,.int .i64 0,.slice none 0 0] 106)/\
    ∃q c,ah wr nb (.cells #[.int .i64 (aL data 0:Nat),.int .i64 (nx:Nat),.slice q k c] 106)/\wr.ownsRow w.heap.size 142 2 (.slice q k c) k (aV (eY data k).ai)) (fun _ _ i _=>aL data 5-(intOf i).toNat)
   case atStart=>exact⟨0,6,bL _,DA,rfl,rfl,rfl,rfl,hx2,hz2,none,0,M,rfl,.inl ⟨rfl,rfl⟩⟩
   case round=>
    clear M hz2 hx2;obtain⟨k,a,hk,ha,rfl,rfl,rfl,hr,om,mY,q,c,ku,N⟩:=hrel;have J:=ag (MS data k);have Tn:=acT data k;have ayL:=nV data 5;have ve:=ag om;have vc:=ag mY;have HQ:=ag (And.intro ku N);have ayM:=ah.lt ku;by_cases hlt:k<aL data 5
    ·have gB:(k:Int)<(aL data 5:Nat):=af;have d:=ag (HP.out k a hlt hr);have m:Hid (∀(h1:a+2<=data.length) (h2:aL data a<=(eY data k).before.length) (h3:a+2+aL data (a+1)+4<=data.length),eY data (k+1)=⟨(eY data k).before.take (aL data a)++(data.drop (a+2)).take (aL data (a+1)),data.drop (a+6+aL data (a+1)),(eY data k).ai++[((eY data k).before.take (aL data a)++(data.drop (a+2)).take (aL data (a+1)),(dI ((data.drop (a+2+aL data (a+1))).take 4):Int))]⟩):=ag (fun h1 h2 h3=>ap3 hr h1 h2 h3);clear om mY ku N hr;generalize eY data k=s at *;obtain⟨bf,rs,es⟩:=s;simp only at HQ Tn d m J⊢;have hb1:=nV data (a+1);have hba:=nV data a;by_cases g1:a+2<=data.length
     ·have g1I:decide ((data.length:Int)<(a:Int)+2)=false:=aM af;have i1:(a:Int)<data.length:=af;have i2:(a:Int)+1<data.length:=af;by_cases g2:aL data a<=bf.length
      ·have g2I:decide ((bf.length:Int)<(aL data a:Nat))=false:=aM af;by_cases g3:a+2+aL data (a+1)+4<=data.length
       ·have g3I:decide ((data.length:Int)<(a:Int)+2+(aL data (a+1):Nat)+4)=false:=aM af;have E:=ag (m.out g1 g2 g3);clear m d;go_upto_region 12 with(fail);go_quiet(fail);go_upto_region 15 with(fail);go_quiet(fail);go_upto_region 16 with(fail);refine aR (fun w5=>Ext wr w5) (by first | exact(Ext.drewN _ _).trans (Ext.drewN _ _) | exact(Ext.drew _).trans (Ext.drewN _ _)) ?_;intro w5 G;have r:=G.blk _ _ HQ.out.1;have Tw:=ag r;have r7:=ag (aO HQ.out.2 G);have Bj:w5.cell? ⟨nb,2,none⟩=some (.slice q k c):=ah.val r 2 _ rfl;have l5:=ah.lt r;have GA:=ag (ve.out.trans G);have Hz5:=ag (G.blk _ _ vc.out);have HNm:=HN.out (a+2+aL data (a+1)) af;have hen:=qC es;rw[J.out] at hen;have jR:=ag hen;have hkk:k<=256:=af;clear G r vc ve HQ g2I g3I g1I hen;generalize dI (List.take 4 (List.drop (a+2+aL data (a+1)) data))=nv at *;generalize List.take (aL data a) bf++List.take (aL data (a+1)) (List.drop (a+2) data)=X at *;have hm5:=World.ownsRow_made (base:=w5.heap.size) (e:=142) (size:=2) w5 #[] 0 (aH _) av rfl;have Hm5:=ag hm5;clear hm5;go_wp2_with(first
         | (at_builtin;refine adn (o:=⟨some 79,_,_,_,_,_⟩) rfl (.tmp 76) (.tmp 78) rfl w5.heap.size _ 0 [] rfl Hm5.out q k c (aV es) rfl jR.out (mq (aO r7.out (Ext.alloc w5 _))) (Gi es) af av ?_;intro v8 w8 O jN;have jC:=Ext.trans' (Ext.alloc w5 _) (Below.ij jN Hm5.out (aH _) av);rw[nB,bQ] at O;obtain⟨q8,k8,rfl⟩:=cE O;have mA:=ag O;have V:=ag jC;clear O jN jC)
         | (go_at_call 103;refine(HNm _).mono ?_;rintro e w9 ⟨rfl,Ie⟩;have F:=ag Ie;clear Ie)
         | ((with_reducible refine aW 87 ?_);refine dW rfl 142 #[(0,.tmp 80),(1,.tmp 86)] rfl [(0,.string ⟨X.toArray⟩),(1,.int .i64 (nv:Nat))] rfl _ (za _ _) ?_)
         | (at_builtin;refine sV (o:=⟨some 89,_,_,_,_,_⟩) rfl (.tmp 79) (.tmp 88) 104 142 rfl w5.heap.size (.agg #[.string ByteArray.empty,.int .i64 0]) 2 24 Tryz.underlying104 um rfl aq _ k _ rfl (aO mA.out (F.out.trans (Ext.alloc w9 _))) (some ⟨w9.heap.size,0,none⟩) 1 1 [.string ⟨X.toArray⟩,.int .i64 (nv:Nat)] rfl rfl rfl (n8 (ys:=[.string ⟨X.toArray⟩,.int .i64 (nv:Nat)]) (ah.new w9 _)) vO af aq (fN (V.out.trans F.out).size (Ext.alloc w9 _).size) ?_;intro v10 tj H U;have I:=Ext.trans' ((V.out.trans F.out).trans (Ext.alloc w9 _)) (Below.ij U (aO mA.out (F.out.trans (Ext.alloc w9 _))) (aH _) (fN (V.out.trans F.out).size (Ext.alloc w9 _).size));obtain⟨xp,k10,rfl⟩:=cE H;have g:=I.blk _ _ Tw.out;have f10:=ah.free g 2;have c10:tj.cell? ⟨nb,2,none⟩=some (.slice q k c):=ah.val g 2 _ rfl;have l10:=ah.lt g;have T:=ag I;have Bk:=ag H;have S:=ag g;clear I H U g))
        go_roundw
        case rel=>
         have MW:=GA.out.trans T.out;have hne:w.heap.size≠nb:=af;refine⟨k+1,a+6+aL data (a+1),af,af,bX,bX,by rw[E.out],by rw[E.out],(aI.setCell).ext MW af,(aI.setCell).blk (T.out.blk _ _ Hz5.out) hne,xp,k10,ah.setCell S.out,?_⟩;rw[E.out];simp only[ac4];exact fJ (fo Bk.out aq S.out aI.setCell) GA.out.size
        case measure=>exact ct
       ·have g3I:(data.length:Int)<(a:Int)+2+(aL data (a+1):Nat)+4:=af;have HO:=ag (fun e w'=>j.out e w' (d.out af));clear m d g3;exact aaQ
      ·have g2I:(bf.length:Int)<(aL data a:Nat):=af;have HO:=ag (fun e w'=>j.out e w' (d.out af));clear m d g2;exact aaQ
     ·have g1I:(data.length:Int)<(a:Int)+2:=af;have HO:=ag (fun e w'=>j.out e w' (d.out af));clear m d g1;go_wp2_with(first
       | (refine dW (o:=⟨some 40,_,_,_,_,_⟩) rfl 106 #[] rfl [] rfl _ uK ?_)
       | (refine aU rfl 106 (.tmp 4) (.tmp 40) rfl _ #[.int .i64 0,.int .i64 0,.slice none 0 0] rfl rfl _ _ vc.out bq rfl cT ?_;intro w6 pT iw))
      exact bY (dM Tryz.results67 _ _ _ _ _ _ rfl pT cZ rfl bq) rfl (HO.out _ _ (iw.ext ve.out (aH _)) rfl)
    ·have gB:decide ((k:Int)<(aL data 5:Nat))=false:=aM af;have zb:k=aL data 5:=af;have Hh:fQ data=⟨(aL data 0:Nat),(nx:Nat),(eY data k).ai⟩:=by
      unfold fQ;rw[show uz data=k from by unfold uz;rw[Bh af];exact zb.symm,<-Bg.out,show G8 data=aL data 0 from by have:=Bh (s:=data) (a:=0) af;rw[dP] at this;exact this]
     have t:dS (data.length:Int) (fQ data)≠0∨iW (data.length:Int) (fQ data)≠data->lX (data.length:Int) data=false:=ap7;have f:=R.out;rw[Hh] at t f;simp only at f;have hpl:=J.out;generalize(eY data k).ai=es at *;subst hpl;have Dc:=ag (fun W (e:Ext wr W)=>Ic.out q c ⟨(aL data 0:Nat),(nx:Nat),es⟩ W ((mq N).ext e) fj);unfold dO at Dc;simp only at Dc;have D:=ag t;have f:=ag f;have L:=ag (fun(h:dS (data.length:Int) ⟨(aL data 0:Nat),(nx:Nat),es⟩=0)=>ac3 h);clear om mY N Hh t hr zb HP J R Ic;by_cases Y:dS (data.length:Int) ⟨(aL data 0:Nat),(nx:Nat),es⟩=0
     ·have hS:=L.out Y;rw[Y,hS] at Dc;by_cases hD:iW (data.length:Int) ⟨(aL data 0:Nat),(nx:Nat),es⟩=data
      ·rw[hD] at Dc;have HO:=ag (fun e w' q c B=>f.out e w' q c B Y hD);clear f D Y hS hD L;have DN:(data !=data)=false:=av;go_wp2_with(first
        | (refine Wk ?_)
        | (go_at_call 88;refine(Dc.out wr (Ext.refl wr)).mono ?_;rintro e w5 ⟨rfl,uk⟩;have r:=uk.blk _ _ ku;have nG:=uk.blk _ _ vc.out)
        | ((with_reducible refine aW 109 ?_);refine bz rfl 106 (.tmp 6) rfl _ rfl _ _ _ r cZ rfl bq ?_)
        | (refine aU rfl 106 (.tmp 4) (.tmp 109) rfl _ #[.int .i64 (aL data 0:Nat),.int .i64 (nx:Nat),.slice q es.length c] rfl rfl _ _ nG bq rfl cT ?_;intro w6 pT iw))
       exact bY (dM Tryz.results67 _ _ _ _ _ _ rfl pT cZ rfl bq) rfl (HO.out _ _ q c _ (aH _) (iw.ext (ve.out.trans uk) (aH _)) rfl (fo (aO HQ.out.2 uk) aq nG iw))
      ·have HO:=ag (fun e w'=>j.out e w' (D.out (.inr hD)));clear f D Y hS L;generalize iW (data.length:Int) ⟨(aL data 0:Nat),(nx:Nat),es⟩=en at *;have DN:(en !=data)=true:=by simpa using hD
       have apS:(en==data)=false:=by simpa using hD
       exact Xc
     ·have HO:=ag (fun e w'=>j.out e w' (D.out (.inl Y)));have hEi:(dS (data.length:Int) ⟨(aL data 0:Nat),(nx:Nat),es⟩!=0)=true:=by simpa using Y
      clear f D L;generalize dS (data.length:Int) ⟨(aL data 0:Nat),(nx:Nat),es⟩=ee at *;exact Xc
  ·have Tu:((data.length:Int)!=size)=true:=by simpa using l
   have t:lX size data=false:=by
    cases hd:lX size data
    ·rfl
    ·obtain⟨_,_,_,_,h4,_⟩:=DD hd;exact absurd h4 l
   have HO:=ag (fun e w'=>j.out e w' t);generalize lG size data w=OUT at *;have vc:=ag z;have ve:=ag C;clear hz hl z C l t j;go_enter Tryz.func67,Tryz.ntmps67;go_upto_region 4 with(go_at_call 102;refine(HZ.out _).mono ?_;rintro e w2 ⟨rfl,rfl⟩);go_wp2_with(first
    | (refine dW (o:=⟨some 22,_,_,_,_,_⟩) rfl 106 #[] rfl [] rfl _ uK ?_)
    | (refine aU rfl 106 (.tmp 4) (.tmp 22) rfl _ #[.int .i64 0,.int .i64 0,.slice none 0 0] rfl rfl _ _ vc.out bq rfl cT ?_;intro w6 pT iw))
   exact bY (dM Tryz.results67 _ _ _ _ _ _ rfl pT cZ rfl bq) rfl (HO.out _ _ (iw.ext ve.out (aH _)) rfl)
theorem Tx (p:Option Addr) (Y n:Nat) (m:List (List UInt8)) (d:DS) (b level:Int) (w:World) (hs:bk w p m) (hn:m.length=n) (hm:Small m):
 Calls Tryz.prog 101 #[.slice p n Y,.agg (az d),.int .i64 b,.int .i64 level] w (mo m d b level w):=by
 have H:=ag (fun w h=>LM p Y n m b w h hn (by have:=hm.1;omega));have m6:=LN hm b;have j:=ag (fun W=>adp d.interval (aF m b).1 m6 W);have Hs:=ag hs;have i:=(Ext.alloc w (.cells (az d) 23)).trans (Ext.alloc _ (.cells #[.int .i64 0,.int .i64 0,.slice none 0 0] 106));have N:Hid (∀e w' c,bF m d b level=(Nd.zero,c)->(Ext w w'/\e=.returned (.tuple #[.agg #[.int .i64 0,.int .i64 0,.slice none 0 0],.int .i64 c]))->mo m d b level w e w'):=ag (fun e w' c hc ⟨h1,h2⟩=>by
  unfold mo;rw[hc];exact J0)
 clear hs;by_cases h1:(aF m b).2=0
 ·have HP:=ag h1;generalize S:(aF m b).2=ep at *;subst h1;cases hE:(decide (gH d.interval (aF m b).1=0))
  ·have l:gH d.interval (aF m b).1≠0:=Gj hE;have F:bF m d b level=(Nd.zero,11):=by
    unfold bF;rw[S,aA av,aC (.inl l)]
   have M:=ag (fun e w'=>N.out e w' 11 F);have hz0:dz d.interval (aF m b).1=Nd.zero:=by unfold dz;rw[aA l]
   unfold lG at j;rw[hz0] at j;clear N F hz0 hE;generalize gH d.interval (aF m b).1=de at *;have hdi:(de !=0)=true:=by simpa using l
   generalize(aF m b).1=s at *;generalize mo m d b level w=X at *;go_enter Tryz.func101,Tryz.ntmps101;go_upto_region 1 with(fail);refine aR (fun u=>Ext w u/\ah u w.heap.size (.cells (az d) 23)/\ah u (w.heap.size+1) (.cells #[.int .i64 0,.int .i64 0,.slice none 0 0] 106)) ⟨i,ah.alloc (ah.new w _) _,ah.new1 _ _ _ av⟩ ?_;clear i;rintro u ⟨f,y,U⟩;have c7:u.cell? ⟨w.heap.size,7,none⟩=some (.int .i64 d.interval):=ah.val y 7 _ rfl;have l0:=ah.lt y;go_wp2_with(first
    | (go_at_call 66;refine(H.out _ (Hs.out.ext f)).mono ?_;rintro e w1 ⟨rfl,rfl⟩)
    | (go_at_call 67;refine(j.out _).mono ?_;rintro e V ⟨g,T,O,rfl,R⟩;have hz2:=g.blk _ _ U)
    | (refine aU rfl 106 (.tmp 12) (.tmp 28) rfl _ #[.int .i64 0,.int .i64 0,.slice T 0 O] rfl rfl _ _ (ah.new V _) bq rfl cT ?_;intro w3 z r;have D:=r.blk (ah.alloc hz2 _) Cr)
    | (refine J3 ?_)
    | (refine aU rfl 106 (.tmp 8) (.tmp 38) rfl _ #[.int .i64 0,.int .i64 0,.slice none 0 0] rfl rfl _ _ D bq rfl cT ?_;intro w6 B t))
   have I:=g.size;have G:=f.size;exact bY (dM Tryz.results101 _ _ _ _ _ _ rfl B cZ rfl bq) rfl (M.out _ _ ⟨t.ext (r.ext ((f.trans g).trans (Ext.alloc _ _)) af) af,rfl⟩)
  ·have l:gH d.interval (aF m b).1=0:=qG hE;have HE':=ag l;unfold lG at j;rw[l] at j;have J:Hid ((dz d.interval (aF m b).1).level≠level->bF m d b level=(Nd.zero,11)):=ag (fun hne=>by
    unfold bF;rw[S,aA av,aC (.inr hne)])
   have K:Hid ((dz d.interval (aF m b).1).level=level->bF m d b level=(dz d.interval (aF m b).1,0)):=ag (fun he=>by
    unfold bF;rw[S,aA av,aA (by rw[l,he];simp)])
   have L:Hid (∀e w' q c,(dz d.interval (aF m b).1).level=level->Ext w w'->e=.returned (.tuple #[.agg #[.int .i64 (dz d.interval (aF m b).1).level,.int .i64 (dz d.interval (aF m b).1).next,.slice q (dz d.interval (aF m b).1).ai.length c],.int .i64 0])->w'.ownsRow w.heap.size 142 2 (.slice q (dz d.interval (aF m b).1).ai.length c) (dz d.interval (aF m b).1).ai.length (aV (dz d.interval (aF m b).1).ai)->mo m d b level w e w'):=ag (fun e w' q c he h1 h2 h3=>by
    unfold mo;rw[K.out he];exact⟨h1,q,c,h2,h3⟩)
   clear hE l;generalize dz d.interval (aF m b).1=E at *;generalize(aF m b).1=s at *;generalize mo m d b level w=X at *;go_enter Tryz.func101,Tryz.ntmps101;go_upto_region 1 with(fail);refine aR (fun u=>Ext w u/\ah u w.heap.size (.cells (az d) 23)/\ah u (w.heap.size+1) (.cells #[.int .i64 0,.int .i64 0,.slice none 0 0] 106)) ⟨i,ah.alloc (ah.new w _) _,ah.new1 _ _ _ av⟩ ?_;clear i;rintro u ⟨f,y,U⟩;have c7:u.cell? ⟨w.heap.size,7,none⟩=some (.int .i64 d.interval):=ah.val y 7 _ rfl;have l0:=ah.lt y;by_cases C:E.level=level
   ·have Sv:(E.level !=level)=false:=by simp[C]
    have M:=ag (fun e w' q c=>L.out e w' q c C);clear J K L N C;go_wp2_with(first
     | (go_at_call 66;refine(H.out _ (Hs.out.ext f)).mono ?_;rintro e w1 ⟨rfl,rfl⟩)
     | (go_at_call 67;refine(j.out _).mono ?_;rintro e V ⟨g,T,O,rfl,R⟩;have hz2:=g.blk _ _ U)
     | (refine aU rfl 106 (.tmp 12) (.tmp 28) rfl _ #[.int .i64 E.level,.int .i64 E.next,.slice T E.ai.length O] rfl rfl _ _ (ah.new V _) bq rfl cT ?_;intro w3 z r;have D:=r.blk (ah.alloc hz2 _) Cr;have Sw:=ah.val z 0 _ rfl;have Sx:=ah.lt z)
     | ((with_reducible refine aW 39 ?_);refine bz rfl 106 (.tmp 12) rfl _ rfl _ _ _ z cZ rfl bq ?_)
     | (refine aU rfl 106 (.tmp 8) (.tmp 39) rfl _ #[.int .i64 E.level,.int .i64 E.next,.slice T E.ai.length O] rfl rfl _ _ D bq rfl cT ?_;intro w6 B t))
    have I:=g.size;have G:=f.size;have hlz:=ah.lt hz2;have Z:Ext V w3:=r.ext (Ext.alloc _ _) (aH _);exact bY (dM Tryz.results101 _ _ _ _ _ _ rfl B cZ rfl bq) rfl (M.out _ _ T O (t.ext ((f.trans g).trans Z) af) rfl (fJ (fo (aO R Z) aq D t) G))
   ·have Sv:(E.level !=level)=true:=by simpa using C
    have M:=ag (fun e w'=>N.out e w' 11 (J.out C));clear J K L N C;go_wp2_with(first
     | (go_at_call 66;refine(H.out _ (Hs.out.ext f)).mono ?_;rintro e w1 ⟨rfl,rfl⟩)
     | (go_at_call 67;refine(j.out _).mono ?_;rintro e V ⟨g,T,O,rfl,R⟩;have hz2:=g.blk _ _ U)
     | (refine aU rfl 106 (.tmp 12) (.tmp 28) rfl _ #[.int .i64 E.level,.int .i64 E.next,.slice T E.ai.length O] rfl rfl _ _ (ah.new V _) bq rfl cT ?_;intro w3 z r;have D:=r.blk (ah.alloc hz2 _) Cr;have Sw:=ah.val z 0 _ rfl;have Sx:=ah.lt z)
     | (refine J3 ?_)
     | (refine aU rfl 106 (.tmp 8) (.tmp 38) rfl _ #[.int .i64 0,.int .i64 0,.slice none 0 0] rfl rfl _ _ D bq rfl cT ?_;intro w6 B t))
    have I:=g.size;have G:=f.size;exact bY (dM Tryz.results101 _ _ _ _ _ _ rfl B cZ rfl bq) rfl (M.out _ _ ⟨t.ext (r.ext ((f.trans g).trans (Ext.alloc _ _)) af) af,rfl⟩)
 ·have F:bF m d b level=(Nd.zero,(aF m b).2):=by unfold bF;rw[aC h1]
  have M:=ag (fun e w'=>N.out e w' _ F);have Mu:((aF m b).2 !=0)=true:=jP;clear N F j;generalize(aF m b).1=s at *;generalize(aF m b).2=ep at *;generalize mo m d b level w=X at *;go_enter Tryz.func101,Tryz.ntmps101;go_upto_region 1 with(fail);refine aR (fun u=>Ext w u/\ah u w.heap.size (.cells (az d) 23)/\ah u (w.heap.size+1) (.cells #[.int .i64 0,.int .i64 0,.slice none 0 0] 106)) ⟨i,ah.alloc (ah.new w _) _,ah.new1 _ _ _ av⟩ ?_;clear i;rintro u ⟨f,y,U⟩;have l0:=ah.lt y;go_wp2_with(first
   | (go_at_call 66;refine(H.out _ (Hs.out.ext f)).mono ?_;rintro e w1 ⟨rfl,rfl⟩)
   | (refine dW (o:=⟨some 21,_,_,_,_,_⟩) rfl 106 #[] rfl [] rfl _ uK ?_)
   | (refine aU rfl 106 (.tmp 8) (.tmp 21) rfl _ #[.int .i64 0,.int .i64 0,.slice none 0 0] rfl rfl _ _ U bq rfl cT ?_;intro w6 B t))
  exact bY (dM Tryz.results101 _ _ _ _ _ _ rfl B cZ rfl bq) rfl (M.out _ _ ⟨t.ext f af,rfl⟩)
end Go.Proofs.YteninnkbmoimgaaGreatDoor

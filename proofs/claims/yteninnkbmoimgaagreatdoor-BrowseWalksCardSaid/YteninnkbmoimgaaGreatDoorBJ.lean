/- A part of the proof. -/
import Derived.Test.YteninnkbmoimgaaGreatDoorCA
import Derived.Test.YteninnkbmoimgaaGreatDoorAM
set_option linter.unusedSimpArgs false
set_option linter.unusedVariables false
set_option maxRecDepth 100000
set_option maxHeartbeats 16000000
namespace aD
theorem abF {L:List aG} {k:Nat} {b:List UInt8} (h:k<L.length):j7 b (L.drop k)=[UInt8.ofNat (eO b (au L k).1),UInt8.ofNat ((au L k).1.length-eO b (au L k).1)]++(au L k).1.drop (eO b (au L k).1)++fu (au L k).2.toNat++j7 (au L k).1 (L.drop (k+1)):=by
 have e:au L k=L[k]:=Cp;rw[gz h,j7,e]
theorem Mn:∀{b:List UInt8} {L:List aG},cR b L=true->∀k,k<L.length->1<=(au L k).2/\(au L k).2<=16777216/\(au L k).1.length<=32
 | _,[],_,k,h=>jQ
 | b,x::L,g,k,h=>by
   obtain⟨d,_,e,_,f⟩:=iP g;cases k with
   | zero=>
     unfold gA at d;simp only[eu,gu] at d;exact⟨d.1,d.2,e⟩
   | succ k=>exact Mn f k nA
end aD
namespace Go.Proofs.YteninnkbmoimgaaGreatDoor
open Go.RowKit aD
theorem abU (x:Nat) (e:x<256) (W:World) (b:Nat) (h:ah W b (.cells #[.int .u8 (x:Int)] 5)):(convert 47 9 (.slice (some ⟨b,0,none⟩) 1 1)).run Tryz.prog W=.ok (.string ⟨[UInt8.ofNat x].toArray⟩) W:=by
 refine Fb W _ _ 5 b 0 1 [UInt8.ofNat x] Tryz.underlying47 Tryz.underlying5 Tryz.underlying9 fun i hi=>?_;have d:i=0:=pq;subst d;have:=ah.val h 0 _ rfl;rw[this];simp[aL,rD e]
theorem aoq (x y:Nat) (e:x<256) (f:y<256) (W:World) (b:Nat) (h:ah W b (.cells #[.int .u8 (x:Int),.int .u8 (y:Int)] 5)):(convert 47 9 (.slice (some ⟨b,0,none⟩) 2 2)).run Tryz.prog W=.ok (.string ⟨[UInt8.ofNat x,UInt8.ofNat y].toArray⟩) W:=by
 refine Fb W _ _ 5 b 0 2 [UInt8.ofNat x,UInt8.ofNat y] Tryz.underlying47 Tryz.underlying5 Tryz.underlying9 fun i hi=>?_;have d:i<2:=pq;rcases(show i=0∨i=1 by omega) with rfl | rfl
 ·have:=ah.val h 0 _ rfl;rw[this];simp[aL,rD e]
 ·have:=ah.val h 1 _ rfl;rw[this];simp[aL,rD f]
theorem abE (q:Option Addr) (c:Nat) (n:Nd) (w:World) (h:iV w q n.ai) (hv:eC n=true):
 Calls Tryz.prog 127 #[dO n q c] w fun e w'=>e=.returned (.string ⟨(dG n).toArray⟩)/\Ext w w':=by
 have Hn:=ag h;have G:=ia.1 hv;obtain⟨lv,rfl⟩:∃x,x=n.level.toNat:=⟨_,rfl⟩;have V:n.level=(n.level.toNat:Int):=by have:=G.v1;omega
 have X:n.next=(n.next.toNat:Int):=by have:=G.x1;omega
 have F1:=ag (abc n.next.toNat (by have:=G.x2;omega));have DA:n.level.toNat<=6:=by have:=G.v2;omega
 have hl1:=G.l1;have hl2:=G.l2;have HF:Hid (dG n=[UInt8.ofNat n.level.toNat]++fu n.next.toNat++[UInt8.ofNat n.ai.length]++j7 [] n.ai):=ag rfl;have HE:Hid (∀k,k<n.ai.length->1<=(au n.ai k).2/\(au n.ai k).2<=16777216/\(au n.ai k).1.length<=32):=ag (Mn G.ai);unfold dO;rw[V,X];clear h hv G V X;generalize n.level.toNat=lv at *;generalize n.next.toNat=nx at *;generalize dG n=fm at *;generalize n.ai=L at *;have lf:(fu nx).length<=4:=aH _;generalize fu nx=fx at *;have W1:IntKind.u8.wrap (lv:Int)=lv:=IntWalk.u8_in _ af;have W2:IntKind.u8.wrap (L.length:Int)=L.length:=IntWalk.u8_in _ af;have I:=ag (abU lv af);have C2:=ag (abU L.length af);generalize Y:[UInt8.ofNat lv]=z1 at *;generalize Z:[UInt8.ofNat L.length]=z2 at *;have l1:z1.length<=1:=by rw[<-Y];simp
 have l2:z2.length<=1:=by rw[<-Z];simp
 clear Y Z;go_enter Tryz.func127,Tryz.ntmps127;go_upto_region 1 with(fail);refine aR (fun w0=>Ext w w0/\ah w0 w.heap.size (.cells #[.int .i64 lv,.int .i64 nx,.slice q L.length c] 106)) ⟨Ext.alloc _ _,ah.new w _⟩ ?_;rintro w0 ⟨R,t⟩;have c0:=ah.val t 0 _ rfl;have c1:=ah.val t 1 _ rfl;have c2:=ah.val t 2 _ rfl;have m:=ah.lt t;have Gm:=ag (Hn.out.ext R);clear t;refine eR 200 (Ext.refl w0) aj aj aj ?_;simp only[cY,eF,gj,dV,dP,gC,dh,dQ];repeat (first
  | (refine ym ?_)
  | (refine fR ?_)
  | (refine iq ?_)
  | (refine jh (o:=⟨some 11,_,_,_,_,_⟩) (dx 1 1 (.cells #[.int .u8 (lv:Int)] 5)) (dx.ay _ _ _) rfl ?_ ?_
     ·exact wg
     refine aE ?_)
  | (refine bT (o:=⟨some 12,_,_,_,_,_⟩) (v:=.string ⟨z1.toArray⟩) rfl ?_ ?_
     ·intro a w' he hr K hK;obtain⟨b,M,N⟩:=hr 11 gM;simp at M;have D:=I.out w' b N;exact yo
     refine aE ?_)
  | (refine bT (o:=⟨some 15,_,_,_,_,_⟩) (v:=.string ⟨fx.toArray⟩) rfl ?_ ?_
     ·exact Y8
     refine aE ?_)
  | (refine jh (o:=⟨some 21,_,_,_,_,_⟩) (dx 1 1 (.cells #[.int .u8 (L.length:Int)] 5)) (dx.ay _ _ _) rfl ?_ ?_
     ·exact wg
     refine aE ?_)
  | (refine bT (o:=⟨some 22,_,_,_,_,_⟩) (v:=.string ⟨z2.toArray⟩) rfl ?_ ?_
     ·intro a w' he hr K hK;obtain⟨b,M,N⟩:=hr 21 gM;simp at M;have D:=C2.out w' b N;exact yo
     refine aE ?_)
  | (refine fk ?_))
 intro w2 j;repeat (first | with_reducible refine cH _ _ _ _ ?_ | (with_reducible refine cI _ _ _ _ ?_;intro _ _) | with_reducible refine cJ _ _ ?_)
 simp only[cF,cK,bQ,bE];clear I C2 F1 W1 W2;have HX:=ag j;have xe:=ag (Gm.out.ext j);have e0:=Ext.cell j w.heap.size 0 m;have e1:=Ext.cell j w.heap.size 1 m;have e2:=Ext.cell j w.heap.size 2 m;rw[c0] at e0;rw[c1] at e1;rw[c2] at e2;have r:=fM m j.size;clear c0 c1 c2 m j;go_upto_region 4 with(fail);go_loopw[3,4,5] (fun so sb i wr=>∃(k:Nat) (b o:List UInt8),k<=L.length/\i=.int .i64 k/\sb=.string ⟨b.toArray⟩/\so=.string ⟨o.toArray⟩/\fm=o++j7 b (L.drop k)/\b.length<=32/\o.length<=6+100*k/\Ext w2 wr) (fun _ _ i _=>L.length-(intOf i).toNat)
 case atStart=>exact⟨0,[],z1++(fx++z2),bL _,rfl,rfl,rfl,by rw[HF.out];simp only[jk,dP],av,aY,Ext.refl _⟩
 case round=>
  obtain⟨k,b,o,hk,rfl,rfl,rfl,T,hb,ho,l⟩:=hrel;have J:=ag T;have d0:=Ext.cell l w.heap.size 0 r;have d1:=Ext.cell l w.heap.size 1 r;have d2:=Ext.cell l w.heap.size 2 r;rw[e0] at d0;rw[e1] at d1;rw[e2] at d2;have E:w.heap.size<wr.heap.size:=fM r l.size;clear T;by_cases u:k<L.length
  ·have U:(k:Int)<L.length:=af;obtain⟨g,off,rfl,hgb,O⟩:=(xe.out.ext l).at k u;obtain⟨B,C⟩:=O k u;have HD:=ag (abF (b:=b) u);obtain⟨p1,p2,p3⟩:=HE.out k u;generalize au L k=x at *;obtain⟨d,pg⟩:=x;simp only at B C HD p1 p2 p3;have gZ:=ag l;clear O l;have Mo:=ag (amN b d uM);obtain⟨f1,f2⟩:=Av b d;generalize eO b d=f at *;go_upto_region 8 with(go_at_call 163;refine(Mo.out _).mono ?_;rintro e w3 ⟨rfl,H⟩);have V1:IntKind.u8.wrap (f:Int)=f:=IntWalk.u8_in _ af;have V2:IntKind.i64.wrap ((d.length:Int)-f)=((d.length-f:Nat):Int):=pJ;have V3:IntKind.u8.wrap (((d.length-f:Nat):Int))=((d.length-f:Nat):Int):=IntWalk.u8_in _ af;have I:=ag (aoq f (d.length-f) af af);obtain⟨pn,rfl⟩:=pN (show 0<=pg by omega);have F1:=ag (abc pn af);have lf:(fu pn).length<=4:=aH _;have Mq:=ag (gZ.out.trans ((Ext.alloc wr (.cells #[.string ⟨d.toArray⟩,.int .i64 (pn:Int)] 142)).trans H));have y:=H.blk _ _ (ah.new wr (.cells #[.string ⟨d.toArray⟩,.int .i64 (pn:Int)] 142));have v0:=ah.val y 0 _ rfl;have v1:=ah.val y 1 _ rfl;have z:=ah.lt y;have ayq:w.heap.size<w3.heap.size:=Nat.lt_trans E z;rw[jU] at HD;generalize jA:[UInt8.ofNat f,UInt8.ofNat (d.length-f)]=z3 at *;have l3:z3.length<=2:=by rw[<-jA];simp
   generalize fu pn=f4 at *;clear jA B C d0 d1 d2 H y E hgb;generalize wr.heap.size=vb at *;refine eR 200 (Ext.refl w3) aj aj aj ?_;refine gV ?_;repeat (first
    | (refine ym ?_)
    | (refine fR ?_)
    | (refine iq ?_)
    | (refine jh (o:=⟨some 49,_,_,_,_,_⟩) (dx 2 2 (.cells #[.int .u8 (f:Int),.int .u8 ((d.length-f:Nat):Int)] 5)) (dx.ay _ _ _) rfl ?_ ?_
       ·exact wg
       refine aE ?_)
    | (refine bT (o:=⟨some 50,_,_,_,_,_⟩) (v:=.string ⟨z3.toArray⟩) rfl ?_ ?_
       ·intro a w' he hr K hK;obtain⟨b,M,N⟩:=hr 49 gM;simp at M;have D:=I.out w' b N;exact yo
       refine aE ?_)
    | (refine bT (o:=⟨some 59,_,_,_,_,_⟩) (v:=.string ⟨f4.toArray⟩) rfl ?_ ?_
       ·exact Y8
       refine aE ?_)
    | (refine fk ?_))
   intro w2 j;repeat (first | with_reducible refine cH _ _ _ _ ?_ | (with_reducible refine cI _ _ _ _ ?_;intro _ _) | with_reducible refine cJ _ _ ?_)
   simp only[cF,cK,bQ,bE];have u0:=Ext.cell j vb 0 z;rw[v0] at u0;have lu:=fM z j.size;have HW:=ag (Mq.out.trans j);have F:Hid (fm=(o++(z3++(List.take (d.length-f) (List.drop f d)++f4)))++j7 d (L.drop (k+1))/\(o++(z3++(List.take (d.length-f) (List.drop f d)++f4))).length<=6+100*(k+1)):=ag ⟨by
    rw[J.out,HD.out,mC (by rw[eU];exact aH _)];simp only[jk],by
    simp only[ew,gF,eU];omega⟩
   clear j v0 v1 z I F1;go_wp2;go_roundw
   case rel=>exact⟨k+1,d,_,af,bX,rfl,rfl,F.out.1,p3,F.out.2,HW.out⟩
   case measure=>exact ct
  ·have U:decide ((k:Int)<L.length)=false:=aM af;have S:Hid (fm=o):=ag (by rw[J.out,jI af];simp[j7]);have HW:=ag (HX.out.trans l);clear l;go_wp2;go_ret;exact⟨by rw[S.out];rfl,R.trans HW.out⟩
theorem abV (q:Option Addr) (c:Nat) (n:Nd) (w:World) (h:iV w q n.ai) (l:n.ai.length<=1000000):
 Calls Tryz.prog 142 #[dO n q c] w fun e w'=>e=.returned (.int .i64 (ja n:Nat))/\Ext w w':=by
 have d:=ag (fun W (e:Ext w W)=>Gl q c n W (h.ext e) l);have hb:=ah.new w (.cells #[.int .i64 n.level,.int .i64 n.next,.slice q n.ai.length c] 106);cases hv:eC n
 ·have f:Hid (ja n=0):=ag (by unfold ja;rw[hv];rfl);rw[hv] at d;clear hv;unfold dO at d⊢;go_enter Tryz.func142,Tryz.ntmps142;go_wp2_with(first
   | (refine WW ?_)
   | (go_at_call 126;refine(d.out _ (Ext.alloc _ _)).mono ?_;rintro e m ⟨rfl,b⟩))
  go_ret;exact⟨by rw[f.out];rfl,(Ext.alloc _ _).trans b⟩
 ·have j:=ag (fun W (e:Ext w W)=>abE q c n W (h.ext e) hv);have f:Hid (ja n=(dG n).length):=ag PE;rw[hv] at d;clear hv;generalize dG n=r at *;unfold dO at d j⊢;go_enter Tryz.func142,Tryz.ntmps142;go_wp2_with(first
   | (refine WW ?_)
   | (go_at_call 126;refine(d.out _ (Ext.alloc _ _)).mono ?_;rintro e m ⟨rfl,b⟩;have g:=b.blk _ _ hb)
   | ((with_reducible refine aW 6 ?_);refine bz rfl 106 (.tmp 1) rfl _ rfl _ _ _ g cZ rfl bq ?_)
   | (go_at_call 127;refine(j.out _ ((Ext.alloc _ _).trans b)).mono ?_;rintro e t ⟨rfl,i⟩))
  go_ret;exact⟨by rw[f.out];rfl,((Ext.alloc _ _).trans b).trans i⟩
theorem aor (z:Int) (q:Option Addr) (c:Nat) (n:Nd) (w:World) (h:iV w q n.ai) (l:n.ai.length<=1000000):
 Calls Tryz.prog 104 #[.int .i64 z,dO n q c] w fun e w'=>e=.returned (.bool (kS z n))/\Ext w w':=by
 have f:=ag (fun W=>rG z W);have d:=ag (fun W (e:Ext w W)=>Gl q c n W (h.ext e) l);have j:=ag (fun W (e:Ext w W)=>abV q c n W (h.ext e) l);have HR:Hid (kS z n=(cQ z&&eC n&&decide ((ja n:Int)<=z))):=ag rfl;have hb:=ah.new w (.cells #[.int .i64 n.level,.int .i64 n.next,.slice q n.ai.length c] 106);cases hz:cQ z
 ·rw[hz] at f HR;clear hz;unfold dO;go_enter Tryz.func104,Tryz.ntmps104;go_wp2_with(go_at_call 102;refine(f.out _).mono ?_;rintro e m ⟨rfl,rfl⟩);go_ret;exact⟨nR,Ext.alloc _ _⟩
 ·rw[hz] at f HR;clear hz;cases hv:eC n
  ·rw[hv] at d HR;clear hv;unfold dO at d⊢;go_enter Tryz.func104,Tryz.ntmps104;go_wp2_with(first
    | (go_at_call 102;refine(f.out _).mono ?_;rintro e m ⟨rfl,rfl⟩)
    | (refine WX ?_)
    | (go_at_call 126;refine(d.out _ (Ext.alloc _ _)).mono ?_;rintro e t ⟨rfl,b⟩))
   go_ret;exact⟨nR,(Ext.alloc _ _).trans b⟩
  ·rw[hv] at d HR;clear hv;generalize ja n=r at *;unfold dO at d j⊢;cases hle:decide ((r:Int)<=z)
   all_goals
    rw[hle] at HR;go_enter Tryz.func104,Tryz.ntmps104;go_wp2_with(first
     | (go_at_call 102;refine(f.out _).mono ?_;rintro e m ⟨rfl,rfl⟩)
     | (refine WX ?_)
     | (go_at_call 126;refine(d.out _ (Ext.alloc _ _)).mono ?_;rintro e t ⟨rfl,b⟩;have g:=b.blk _ _ hb)
     | ((with_reducible refine aW 12 ?_);refine bz rfl 106 (.tmp 3) rfl _ rfl _ _ _ g cZ rfl bq ?_)
     | (go_at_call 142;refine(j.out _ ((Ext.alloc _ _).trans b)).mono ?_;rintro e u ⟨rfl,i⟩))
    go_ret;exact⟨nR,((Ext.alloc _ _).trans b).trans i⟩
end Go.Proofs.YteninnkbmoimgaaGreatDoor
namespace aD
def rV (d:DS) (base:Int) (n:Nd):Bool:=kS d.interval n&&decide (n.level=0)&&decide ((n.ai.length:Int)<=d.aN)&&iO base d.aN [] n.ai
theorem Sb {d:DS} {base:Int} {n:Nd} (h:eX base=true):qO d base n=rV d base n:=by unfold qO rV;rw[h];simp
def mZ (L:List aG) (k:Nat):List Int:=((L.take k).map (·.2)).reverse
theorem abW {L:List aG} {k:Nat} (h:k<L.length):mZ L (k+1)=(au L k).2::mZ L k:=by
 unfold mZ;rw[jr h,jW,LL];have e:au L k=L[k]:=Cp;rw[e];rfl
theorem aos {L:List aG} {k:Nat} {x:Int} (f:k<=L.length):x∈mZ L k↔∃i,i<k/\(au L i).2=x:=by
 unfold mZ;rw[Gb,fT];constructor
 ·rintro⟨y,e,rfl⟩;obtain⟨i,b,d⟩:=List.getElem_of_mem e;rw[gF] at b;refine⟨i,af,?_⟩;rw[<-d];simp[au,List.getD,show i<L.length by omega]
 ·rintro⟨i,b,rfl⟩;exact⟨au L i,by rw[List.mem_take_iff_getElem];exact⟨i,af,by simp[au,List.getD,show i<L.length by omega]⟩,rfl⟩
theorem abX {base aN:Int} {L:List aG} {k:Nat} {used:List Int} (h:k<L.length):iO base aN used (L.drop k)=(!(used.contains (au L k).2)&&decide (base<(au L k).2)&&decide ((au L k).2<=base+aN)&&iO base aN ((au L k).2::used) (L.drop (k+1))):=by
 have e:au L k=L[k]:=Cp;rw[gz h,iO,e]
end aD
namespace Go.Proofs.YteninnkbmoimgaaGreatDoor
open Go.RowKit aD
theorem aot (w:World) (d:DS) (n:Nd) (q:Option Addr) (c:Nat):Ext w ((w.alloc (.cells (az d) 23)).alloc (.cells #[.int .i64 n.level,.int .i64 n.next,.slice q n.ai.length c] 106))/\
 bI ((w.alloc (.cells (az d) 23)).alloc (.cells #[.int .i64 n.level,.int .i64 n.next,.slice q n.ai.length c] 106)) w.heap.size d/\ah ((w.alloc (.cells (az d) 23)).alloc (.cells #[.int .i64 n.level,.int .i64 n.next,.slice q n.ai.length c] 106)) (w.heap.size+1) (.cells #[.int .i64 n.level,.int .i64 n.next,.slice q n.ai.length c] 106):=
 ⟨(Ext.alloc _ _).trans (Ext.alloc _ _),(Ext.alloc _ _).blk _ _ (ah.new _ _),ah.new1 _ _ _ av⟩
theorem abY (d:DS) (base:Int) (q:Option Addr) (c:Nat) (n:Nd) (w:World) (h:iV w q n.ai) (hl:n.ai.length<=1000000) (hk:dA d=true) (hb:eX base=true):
 Calls Tryz.prog 68 #[.agg (az d),.int .i64 base,dO n q c] w fun e w'=>e=.returned (.bool (rV d base n))/\Ext w w':=by
 have Hn:=ag h;have y:=ag (fun W (e:Ext w W)=>aor d.interval q c n W (h.ext e) hl);have HR:Hid (rV d base n=(kS d.interval n&&decide (n.level=0)&&decide ((n.ai.length:Int)<=d.aN)&&iO base d.aN [] n.ai)):=ag rfl;have ha1:2<=d.aN:=Ko;have ha2:d.aN<=8:=Ko;have S:1<=base/\base<=16777208:=PM;have hwa:IntKind.i64.wrap (base+d.aN)=base+d.aN:=IntWalk.i64_in _ af;obtain⟨hb1,hb2⟩:=S;clear h hk hb;unfold dO at y⊢;go_enter Tryz.func68,Tryz.ntmps68;go_upto_region 1 with(fail);refine aR (fun J=>Ext w J/\bI J w.heap.size d/\ah J (w.heap.size+1) (.cells #[.int .i64 n.level,.int .i64 n.next,.slice q n.ai.length c] 106)) (aot w d n q c) ?_;rintro J ⟨f,u,hb0⟩;have c7:J.cell? ⟨w.heap.size,7,none⟩=some (.int .i64 d.interval):=ah.val u 7 _ rfl;have U:=ah.lt u;have D:=ag (And.intro u hb0);cases hv:kS d.interval n
 ·rw[hv] at y HR;clear hv;go_wp2_with(first
   | (refine JT ?_)
   | (go_at_call 104;refine(y.out _ f).mono ?_;rintro e C ⟨rfl,b⟩))
  go_ret;exact⟨nR,f.trans b⟩
 ·rw[hv] at y HR;have hll:n.ai.length<=120:=by
   unfold kS at hv;simp only[eu] at hv;exact(ia.1 hv.1.2).l2
  clear hv;by_cases l:n.level=0
  ·have M:(n.level !=0)=false:=by simp[l]
   rw[bM l] at HR;clear l;by_cases r:(n.ai.length:Int)<=d.aN
   ·have N:decide (d.aN<(n.ai.length:Int))=false:=aM af;rw[bM r] at HR;have ayr:=r;clear r;go_upto_region 3 with(first
     | (refine JT ?_)
     | (go_at_call 104;refine(y.out _ f).mono ?_;rintro e C ⟨rfl,b⟩;have n0:=ah.val (b.blk _ _ hb0) 0 _ rfl;have Z:=ah.val (b.blk _ _ hb0) 2 _ rfl;have nl:=ah.lt (b.blk _ _ hb0);have a8:C.cell? ⟨w.heap.size,8,none⟩=some (.int .i64 d.aN):=ah.val (b.blk _ _ D.out.1) 8 _ rfl;have la:=ah.lt (b.blk _ _ D.out.1)))
    have HX1:=ag (f.trans b);have R:=ag (Hn.out.ext (f.trans b));have m2:C.cell? ⟨w.heap.size+1,2,none⟩=some (.slice q n.ai.length c):=Z;clear c7 U D y u hb0 f b n0 Z M N Hn;generalize n.ai=L at *;go_upto_region 4 with(fail);go_loopw[7] (fun i wr=>∃(k:Nat),k<=L.length/\i=.int .i64 k/\iO base d.aN [] L=iO base d.aN (mZ L k) (L.drop k)/\wr=C) (fun i _=>L.length-(intOf i).toNat)
    case atStart=>exact⟨0,bL _,rfl,rfl,rfl⟩
    case round=>
     obtain⟨k,hkl,rfl,H,rfl⟩:=hrel;have m:=ag H;clear H;by_cases t:k<L.length
     ·have F:(k:Int)<L.length:=af;obtain⟨g,off,rfl,hgb,B⟩:=R.out.at k t;have Ss:=(B k t).2;have HC:=ag B;have K:=ag (abX (base:=base) (aN:=d.aN) (used:=mZ L k) t);have HM:=ag (fun x=>aos (x:=x) (Nat.le_of_lt t));have HN:=ag (abW t);generalize(au L k).2=pg at *;clear B;by_cases I:pg<=base
      ·have M:decide (pg<=base)=true:=bM I;have hD:Hid (iO base d.aN [] L=false):=ag (by rw[m.out,K.out,aM (show ¬base<pg by omega)];simp);clear I;exact Ly
      ·have M:decide (pg<=base)=false:=aM I;by_cases O:base+d.aN<pg
       ·have N:decide (base+d.aN<pg)=true:=bM O;have hD:Hid (iO base d.aN [] L=false):=ag (by rw[m.out,K.out,aM (show ¬pg<=base+d.aN by omega)];simp);clear I O;exact Ly
       ·have N:decide (base+d.aN<pg)=false:=aM O;have HQ:Hid (iO base d.aN [] L=(!((mZ L k).contains pg)&&iO base d.aN (pg::mZ L k) (L.drop (k+1)))):=ag (by rw[m.out,K.out,bM (show base<pg by omega),bM (show pg<=base+d.aN by omega)];simp);clear I O K m;go_upto_region 10 with(fail);go_loopw[9] (fun j wj=>∃(x:Nat),x<=k/\j=.int .i64 x/\(∀i,i<x->(au L i).2≠pg)/\wj=wr) (fun j _=>k-(intOf j).toNat)
        case atStart=>exact⟨0,bL _,rfl,fun i h=>absurd h (ur _),rfl⟩
        case round=>
         obtain⟨x,hx,rfl,G,rfl⟩:=hrel;have E:=ag G;clear G;by_cases Y:x<k
         ·have X:(x:Int)<k:=af;have hxl:(x:Int)<L.length:=af;have DC:=(HC.out x af).2;by_cases z:(au L x).2=pg
          ·have T:((au L x).2==pg)=true:=by simp[z]
           have hD:Hid (iO base d.aN [] L=false):=ag (by
            rw[HQ.out];have:(mZ L k).contains pg=true:=by rw[Lh,gu];exact(HM.out pg).2 ⟨x,Y,z⟩
            rw[this];rfl)
           generalize(au L x).2=px at *;clear z;exact Ly
          ·have T:((au L x).2==pg)=false:=by simp[z]
           have V:Hid (∀i,i<x+1->(au L i).2≠pg):=ag fun i hi=>by
            by_cases h:i=x
            ·rw[h];exact z
            ·exact E.out i af
           generalize(au L x).2=px at *;clear z;go_wp2;go_roundw
           case rel=>exact⟨x+1,af,bX,V.out,trivial⟩
           case measure=>exact ct
         ·have X:decide ((x:Int)<k)=false:=aM af;have hD:Hid (iO base d.aN [] L=iO base d.aN (mZ L (k+1)) (L.drop (k+1))):=ag (by
           rw[HQ.out,HN.out];have:(mZ L k).contains pg=false:=by
            rw[Lh,Q2];intro hm;obtain⟨i,hi,z⟩:=(HM.out pg).1 hm;exact E.out i af z
           rw[this];simp)
          go_wp2;go_roundw
          case rel=>exact⟨k+1,af,bX,hD.out,trivial⟩
          case measure=>exact ct
     ·have F:decide ((k:Int)<L.length)=false:=aM af;have hD:Hid (iO base d.aN [] L=true):=ag (by rw[m.out,jI af];rfl);exact Ly
   ·have N:decide (d.aN<(n.ai.length:Int))=true:=bM af;rw[aM r] at HR;clear r;go_wp2_with(first
     | (refine JT ?_)
     | (go_at_call 104;refine(y.out _ f).mono ?_;rintro e C ⟨rfl,b⟩;have n0:=ah.val (b.blk _ _ hb0) 0 _ rfl;have Z:=ah.val (b.blk _ _ hb0) 2 _ rfl;have nl:=ah.lt (b.blk _ _ hb0);have a8:C.cell? ⟨w.heap.size,8,none⟩=some (.int .i64 d.aN):=ah.val (b.blk _ _ D.out.1) 8 _ rfl;have la:=ah.lt (b.blk _ _ D.out.1)))
    go_ret;exact⟨nR,f.trans b⟩
  ·have M:(n.level !=0)=true:=by simp[l]
   rw[aM l] at HR;clear l;go_wp2_with(first
    | (refine JT ?_)
    | (go_at_call 104;refine(y.out _ f).mono ?_;rintro e C ⟨rfl,b⟩;have n0:=ah.val (b.blk _ _ hb0) 0 _ rfl;have nl:=ah.lt (b.blk _ _ hb0)))
   go_ret;exact⟨nR,f.trans b⟩
end Go.Proofs.YteninnkbmoimgaaGreatDoor

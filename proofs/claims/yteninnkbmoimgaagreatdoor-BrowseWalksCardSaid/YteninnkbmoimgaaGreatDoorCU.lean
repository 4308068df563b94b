/- A part of the proof. -/
import Derived.Test.YteninnkbmoimgaaGreatDoorDH
import Derived.Test.YteninnkbmoimgaaGreatDoorPW
import Derived.Test.YteninnkbmoimgaaGreatDoorFE
import Derived.Test.YteninnkbmoimgaaGreatDoorBN
set_option linter.unusedSimpArgs false
set_option linter.unusedVariables false
set_option maxRecDepth 100000
set_option maxHeartbeats 16000000
namespace Go.Proofs.YteninnkbmoimgaaGreatDoor
open Go.RowKit aD
theorem adQ:∀(L:List aG) (i:Nat) (pg:Int),i<L.length->aV (L.set i ((au L i).1,pg))=(aV L).set (i*2+1) (.int .i64 pg)
 | x::L,0,pg,_=>by simp[aV,au]
 | x::L,i+1,pg,h=>by
   have b:=adQ L i pg nA;rw[bG,AR,AR,show(i+1)*2+1=(i*2+1)+1+1 by omega,bG,bG];have e:au (x::L) (i+1)=au L i:=by simp[au]
   rw[e,b]
def xw (p:Int) (E:List aG) (i:Nat):List aG:=iI p (E.take i)++E.drop i
theorem adR:∀(A:List aG) (p:Int) (x:aG),iI p (A++[x])=iI p A++[(x.1,p+A.length)]
 | [],p,x=>by simp[iI]
 | y::A,p,x=>by
   rw[bE,iI,adR A (p+1) x,iI,bE,gW];congr 4
   push_cast
   omega
theorem aqM {p:Int} {E:List aG} {i:Nat} (h:i<E.length):(xw p E i).set i ((au (xw p E i) i).1,p+i)=xw p E (i+1):=by
 have b:(iI p (E.take i)).length=i:=by rw[Ll,gF];omega
 unfold xw;have e:au (iI p (E.take i)++E.drop i) i=E[i]:=by
  unfold au;rw[List.getD,CU af,b,yS,CE];simp[h]
 rw[e,RH _ _ af,b,yS,gz h,bN,jr h,adR,gF,Ap af,jk];rfl
theorem zl {w:World} {q:Option Addr} {xs:List Value} (h:Cells w q xs) (hx:xs≠[]):∃d,q=some d/\∀j u,xs[j]? =some u->w.cell? (d.add j)=some u:=by
 exact Ws
theorem og.set {w:World} {vs:List Value} {V:List aB} {i:Nat} {v:Value} {L:aB} (h:og w vs V) (f:kX w v L) (g:i<V.length):og w (vs.set i v) (V.set i L):=by
 refine⟨by simp[h.1],fun j d=>?_⟩;rw[pE] at d;have l:=h.1;by_cases b:j=i
 ·subst b;rw[an1 af];have e:(V.set j L).getD j []=L:=by simp[List.getD,d]
  rw[e];exact f
 ·rw[getD_set_ne (fun e=>b e.symm)];have e:(V.set i L).getD j []=V.getD j []:=by rw[List.getD,List.getElem?_set_ne (fun e=>b e.symm)];rfl
  rw[e];exact h.2 j d
theorem adS (a:Ar) (q:Option Addr) (c:Nat) (p:Option Addr) (m:Nat) (i:Nat) (L:aB) (I:Option Addr) (F:Nat) (w:World) (hv:cX w a q c p m) (hi:i<a.ak.length) (hl:a.ak.length<=1000) (hL:kX w (.slice I L.length F) L):
 Calls Tryz.prog 134 #[.agg (bn a q c p m),.int .i64 i,.slice I L.length F] w fun e w'=>Ext w w'/\∃p' m',e=.returned (.agg (bn {a with ak:=a.ak.set i L} q c p' m'))/\cX w' {a with ak:=a.ak.set i L} q c p' m':=by
 obtain⟨vs,V,N⟩:=hv.ak;have hvl:=N.1;obtain⟨z,b,v0,rfl,ke,_⟩:=hv.ak.at i hi;have S:Hid (∀W,Ext w W->∃ad,(some ⟨z,b,none⟩:Option Addr)=some ad/\∀j u,vs[j]? =some u->W.cell? (ad.add j)=some u):=ag (fun W e=>zl (V.ext e) (fun h0=>by rw[h0] at hvl;simp at hvl;omega));have Hv:=ag hv;have Br:=ag N;have HL:=ag hL;have hx2:=(Ext.alloc w (.cells (bn a q c (some ⟨z,b,none⟩) m) 109)).trans (Ext.alloc (w.alloc (.cells (bn a q c (some ⟨z,b,none⟩) m) 109)) (.cells cA 109));have ha:=(Ext.alloc (w.alloc (.cells (bn a q c (some ⟨z,b,none⟩) m) 109)) (.cells cA 109)).blk _ _ (ah.new w (.cells (bn a q c (some ⟨z,b,none⟩) m) 109));have hz:ah ((w.alloc (.cells (bn a q c (some ⟨z,b,none⟩) m) 109)).alloc (.cells cA 109)) (w.heap.size+1) (.cells cA 109):=ah.new1 _ _ _ av;clear hv V N hL;go_enter Tryz.func134,Tryz.ntmps134;go_upto_region 1 with(fail);refine aR (fun B=>Ext w B/\eS B w.heap.size a q c (some ⟨z,b,none⟩) m/\ah B (w.heap.size+1) (.cells cA 109)) ⟨hx2,ha,hz⟩ ?_;clear hx2 ha hz;rintro B ⟨M,T,hz0⟩;obtain⟨e0,e1,e2,e3,e4,la⟩:=T.cells
 go_upto_region 2 with(at_builtin;refine qE rfl fun _ hK=>?_;refine rN (.tmp 8) (.tmp 10) 107 31 rfl B.heap.size (.slice none 0 0) 1 24 Tryz.underlying107 sY rfl B.heap.size rfl (ah.new B _) (aH _) (some ⟨z,b,none⟩) a.ak.length m vs rfl af (fun _=>S.out _ (M.trans (Ext.alloc _ _))) af aq (Ext.alloc _ _).size ?_;intro v1 w2 D X;refine hK _ _ ?_);obtain⟨q1,y,rfl⟩:=cE D;obtain⟨g,rfl,hg0,hgl,hgf,hgc,Y⟩:=Fk D i hi;obtain⟨g2,cu,hq,_,K,_⟩:=jM D af;simp only[mz,Addr.mk.injEq,kD] at hq;subst hq;have f:=(Ext.alloc B (.cells #[] 31)).trans X;have J:=f.blk _ _ T;have O:=f.blk _ _ hz0;have C:aI g w2 (w2.setCell ⟨g,i,none⟩ (.slice I L.length F)):=aI.setCell;have G:=AZ J K aq;have H:=AZ O K aq;have n:=(Y (.slice I L.length F)).1;have r:Ext w (w2.setCell ⟨g,i,none⟩ (.slice I L.length F)):=C.ext (M.trans f) (by have:=M.size;omega);have IC:(i:Int)<(a.ak.length:Int):=af;have R:Hid (∃E,E=w2.setCell ⟨g,i,none⟩ (.slice I L.length F)/\Ext w E/\eS E w.heap.size a q c (some ⟨z,b,none⟩) m/\ah E (w.heap.size+1) (.cells cA 109)/\E.ownsRow B.heap.size 31 1 (.slice (some ⟨g,0,none⟩) a.ak.length y) a.ak.length (vs.set i (.slice I L.length F))):=
  ag ⟨_,rfl,r,C.blk J G,C.blk O H,n⟩
 clear e0 e1 e2 e3 e4 la f J O C G H n r X D Y K;go_upto_region 3 with(fail);obtain⟨E,zm,r,l,jA,n⟩:=R.out;rw[<-zm];clear hgc hgf hgl zm R;obtain⟨_,_,_,_,e4,la⟩:=l.cells;have f4:=ah.free l 4;have d:aI w.heap.size E (E.setCell ⟨w.heap.size,4,none⟩ (.slice (some ⟨g,0,none⟩) a.ak.length y)):=aI.setCell;have R:Hid (∃Q,Q=E.setCell ⟨w.heap.size,4,none⟩ (.slice (some ⟨g,0,none⟩) a.ak.length y)/\Ext w Q/\eS Q w.heap.size {a with ak:=a.ak.set i L} q c (some ⟨g,0,none⟩) y/\ah Q (w.heap.size+1) (.cells cA 109)/\Q.ownsRow B.heap.size 31 1 (.slice (some ⟨g,0,none⟩) a.ak.length y) a.ak.length (vs.set i (.slice I L.length F))):=
  ag ⟨_,rfl,d.ext r (aH _),by
   have h:=ah.setCell (i:=4) (v:=.slice (some ⟨g,0,none⟩) a.ak.length y) l;unfold eS;have e:bn {a with ak:=a.ak.set i L} q c (some ⟨g,0,none⟩) y=(bn a q c (some ⟨z,b,none⟩) m).setIfInBounds 4 (.slice (some ⟨g,0,none⟩) a.ak.length y):=by
    unfold bn;simp
   rw[e];exact h,d.blk jA af,fo n aq l d⟩
 clear r jA n d;go_upto_region 4 with(fail);obtain⟨Q,ID,om,ye,mY,oR⟩:=R.out;rw[<-ID];clear e4 la f4 l R ID;go_wp2_with(first
  | (refine bz (o:=⟨some 18,_,_,_,_,_⟩) rfl 109 (.tmp 3) rfl _ rfl _ _ _ ye cL rfl aZ ?_)
  | (refine aU rfl 109 (.tmp 6) (.tmp 18) rfl _ (bn {a with ak:=a.ak.set i L} q c (some ⟨g,0,none⟩) y) rfl rfl _ _ mY aZ rfl (mE ..) ?_;intro w5 nG U))
 have t:=U.ext om af;have Z:=fo oR aq mY U;obtain⟨g4,g5,g6⟩:=gh Z;exact bY (Si Tryz.results134 _ _ _ _ _ _ rfl nG cL rfl aZ) rfl ⟨t,some ⟨g,0,none⟩,y,rfl,
  ⟨(Hv.out.ai.ext t),⟨_,g4,(Br.out.ext t).set (HL.out.ext t) hi⟩,Hv.out.ec,by simpa using g5,g6,Hv.out.te.ext t,gL.oe Z⟩⟩
@[local go_sem] theorem ayU (P:Program) (b:Array TypeId) (g:TypeId) (x y:List UInt8) (W:World):(Builtin.max_ b g #[.string ⟨x.toArray⟩,.string ⟨y.toArray⟩]).run P W=.ok (.string ⟨(if bl x y=true then y else x).toArray⟩) W:=by
  have e:((⟨x.toArray⟩:ByteArray).toList,(⟨y.toArray⟩:ByteArray).toList)=(x,y):=av;have d:=gP Prod.fst e;have f:=gP Prod.snd e;simp only at d f;cases hb:Go.Op.bytesLess x y<;>simp[Builtin.max_,Builtin.max2,Op.stringOp,d,f,bl,hb,go_sem]
end Go.Proofs.YteninnkbmoimgaaGreatDoor
namespace aD
open Go.Proofs.YteninnkbmoimgaaGreatDoor (dS dH)
theorem TT {d:DS} {a:Ar} (s:fP d a) (i:Nat):Small (a.ak.getD i []):=by
 by_cases e:i<a.ak.length
 ·obtain⟨g,b⟩:=JY (s.iv e).1;exact⟨af,fun x f=>by have:=b x f;omega⟩
 ·simp[List.getD,tL (show a.ak.length<=i by omega),Small]
theorem Nc {d:DS} {a:Ar} (s:fP d a):(fX d a).length<=9/\∀x∈fX d a,x.2.length<=512:=by
 obtain⟨_,_,_,_,_,_,_,_,D⟩:=iM s.keyed;have C:=size_pos s.size;refine⟨?_,fun x b=>?_⟩
 ·have g:=s.few;have q:(j9 d a d.aN.toNat).length<=(ju d a.nd.ai a.ak).length:=by
   have o:=(RR s).1;obtain⟨u,_⟩:=RP o d.aN.toNat;have l:(j9 d a d.aN.toNat).Nodup:=by
    unfold List.Nodup;exact u.imp fun f e=>by rw[e] at f;omega
   exact l.length_le_of_subset (fun x b=>((RQ x _).1 b).1)
  rw[Gq s.len] at q;have B:=s.len;unfold fX;rw[gW];omega
 ·rcases(Mj s x).1 b with rfl | b
  ·obtain⟨n,_,_,_,z,_⟩:=DD (Sa (abw s)).1;simp only;omega
  ·unfold ju at b;obtain⟨y,t,rfl⟩:=fT.1 b;have r:y.2∈a.ak:=(List.of_mem_zip t).2;obtain⟨i,j,m⟩:=nT.1 r;have g:=(s.iv j).1;have e:a.ak.getD i []=y.2:=by simp[List.getD,j,m]
   rw[e] at g;have:=Qz (abv g);simp only;omega
theorem TU {d:DS} {a:Ar} (s:fP d a):(gQ d a).length<=9/\∀x∈gQ d a,x.2.length<=512:=by
 have e:gQ d a=fX d a:=by unfold gQ;rw[aC (lD.2 s)]
 rw[e];exact Nc s
theorem CF {d:DS} {a b:Ar} (l:fP d a) (f:fP d b):(fZ d a b).length<=9/\∀x∈fZ d a b,x.2.length<=512:=by
 have g:fZ d a b=mh (fX d a) (fX d b):=by unfold fZ;rw[aC ⟨lD.2 l,lD.2 f⟩]
 obtain⟨i,j⟩:=Nc f;have e:(mh (fX d a) (fX d b)).Sublist (fX d b):=List.filter_sublist;rw[g];exact⟨fN e.length_le i,fun x m=>j x (e.subset m)⟩
theorem IE {d:DS} {a b:Ar} (e:fP d a) (f:fP d b):sJ d a=0/\rS d a b=0:=by
 unfold sJ rS;rw[aC (lD.2 e),aC ⟨lD.2 e,lD.2 f⟩];exact⟨rfl,rfl⟩
end aD
namespace Go.Proofs.YteninnkbmoimgaaGreatDoor
open Go.RowKit aD
theorem TV (L:List Int):∀u∈cP L,u.oneCell'=true:=by
 intro u b;simp[cP] at b;obtain⟨x,_,rfl⟩:=b;rfl
theorem Nf {w:World} {B n c:Nat} {q:Option Addr} {L:List Int} (h:w.ownsRow B 3 1 (.slice q n c) n (cP L)):Ints w q L:=by
 obtain⟨l,⟨b,g⟩ | ⟨m,e,f,b,o,i,r,t,u,j⟩⟩:=h
 ·cases b
  refine .inl ?_;have d:L.length=0:=by simpa[cP,g] using l
  rw[gY d];rfl
 ·simp only[Value.slice.injEq] at b;obtain⟨rfl,_,rfl⟩:=b;exact Gk i j
end Go.Proofs.YteninnkbmoimgaaGreatDoor
namespace aD
theorem aqO {d:DS} {E:List aG} {V:List aB} (h:V.length=E.length) {k:Nat} (b:k<V.length):(ju d E V).take (k+1)=(ju d E V).take k++[((au E k).2,iL d.interval (V.getD k []))]:=by
 have e:=Gq (d:=d) h;rw[jr af];congr 1;simp[ju,au,List.getD,b,show k<E.length by omega]
end aD
namespace Go.Proofs.YteninnkbmoimgaaGreatDoor
open Go.RowKit aD
theorem adT:(Tryz.prog.info? 133).map (fun i=>(i.zero,i.size,i.bytes))=some (some (.agg #[.int .i64 0,.string ByteArray.empty]),2,24):=aj
theorem adU (k:Int) (s:ByteArray):Tryz.prog.built 133 [(0,.int .i64 k),(1,.string s)]=some #[.int .i64 k,.string s]:=aj
theorem Ng {w:World} {B g n c:Nat} {L:List Wr} (h:w.ownsRow B 133 2 (.slice (some ⟨g,0,none⟩) n c) n (ck L)):rW w g (c*2) L/\L.length=n/\n<=c/\c<=maxLen/\B<=g:=by
 have e:=h.1;rw[rP] at e;obtain⟨_,⟨b,_⟩ | ⟨r,f,d,b,i,j,l,m,o,q⟩⟩:=h
 ·simp at b
 ·simp only[Value.slice.injEq,mz,Addr.mk.injEq,kD] at b;obtain⟨rfl,_,rfl⟩:=b;exact⟨⟨d,j,o,by rw[e];exact q⟩,af,l,m,i⟩
def Bs (d:DS) (a:Ar) (w:World) (e:Ending) (w':World):Prop:=Ext w w'/\∃v,e=.returned (.tuple #[v,.int .i64 (sJ d a)])/\w'.ownsRow w.heap.size 133 2 v (gQ d a).length (ck (gQ d a))
end Go.Proofs.YteninnkbmoimgaaGreatDoor
namespace aD
theorem aqP {L:List Wr} {k:Nat} {x:Wr} {p:Int} (h:L.take (k+1)=L.take k++[x]):(L.take (k+1)).filter (fun y=>y.1==p)=(L.take k).filter (fun y=>y.1==p)++(if x.1=p then[x] else[]):=by
 rw[h,Nh];congr 1;by_cases e:x.1=p
 ·simp[e]
 ·simp[e]
end aD
namespace Go.Proofs.YteninnkbmoimgaaGreatDoor
open Go.RowKit aD
theorem Ni (d:DS) (a:Ar) (q:Option Addr) (c:Nat) (p:Option Addr) (m:Nat) (w:World) (hv:pW w a q c p m) (h1:a.nd.ai.length<=1000000) (h2:a.ak.length<=1000000) (h3:∀i,Small (a.ak.getD i [])):
 Calls Tryz.prog 58 #[.agg (az d),.agg (bn a q c p m)] w (Bs d a w):=by
 have HV:=ag (fun W (e:Ext w W)=>yY d a q c p m W (hv.ext e) h1 h2 h3);have U:Hid (∀e w',Bs d a w e w'↔(Ext w w'/\∃v,e=.returned (.tuple #[v,.int .i64 (sJ d a)])/\w'.ownsRow w.heap.size 133 2 v (gQ d a).length (ck (gQ d a)))):=ag (fun _ _=>Iff.rfl);cases hA:dD d a
 ·have HE:Hid (sJ d a=1/\gQ d a=[]):=ag PA;rw[hA] at HV;generalize Bs d a w=OUT at *;clear hA hv;go_enter Tryz.func58,Tryz.ntmps58;go_upto_region 1 with(fail);refine aR (fun S=>Ext w S/\bI S w.heap.size d/\eS S (w.heap.size+1) a q c p m) (oJ w d a q c p m) ?_;rintro S ⟨r,D,ha0⟩;go_wp2_with(first
   | ((with_reducible refine aW 13 ?_);refine bu rfl (.tmp 2) rfl _ rfl d D ?_)
   | (refine WS ?_)
   | (go_at_call 70;refine(HV.out _ r).mono ?_;rintro e w1 ⟨rfl,z⟩))
  exact(U.out _ _).2 ⟨r.trans z,_,by rw[HE.out.1];rfl,by rw[HE.out.2];exact World.ownsRow_nil _ _ _ _⟩
 ·have I:=lD.1 hA;have HE:Hid (sJ d a=0/\gQ d a=(a.base,iW d.interval a.nd)::j9 d a d.aN.toNat):=ag PA;rw[hA] at HV;have TW:dS d.interval a.nd=0:=by
   unfold dS;rw[I.size,I.node,aA aq,aA (by have:=I.fits;omega)]
  have Y:=ag (fun W (e:Ext w W)=>Sl d.interval q c a.nd W (hv.ai.ext e) h1);have hES:dH d.interval a.nd=iW d.interval a.nd:=by unfold dH;rw[aC TW]
  rw[TW,hES] at Y;have Hv:=ag hv;obtain⟨N,har,ayV⟩:∃N:Nat,d.aN=(N:Int)/\N<=8:=by
   obtain⟨_,_,_,_,_,_,_,k8,k9⟩:=iM I.keyed;exact⟨d.aN.toNat,af,af⟩
  have V:d.aN.toNat=N:=af;rw[V] at HE;have Har:=ag har;have HL:=ag I.len;have qB:1<=a.base/\a.base<=16777208:=by
   have hb:=I.base;unfold eX at hb;simpa only[eu,gu] using hb
  have vH:a.ak.length<=8:=by have:=I.few;have:=I.len;omega
  have ayW:(ju d a.nd.ai a.ak).length<=8:=by rw[Gq I.len];have:=I.few;omega
  have rB:=ag (fun k (hk:k<a.ak.length)=>aqO (d:=d) I.len hk);have DY:Hid (∀pg,Dk d a.nd.ai a.ak pg=((ju d a.nd.ai a.ak).take a.ak.length).filter fun y=>y.1==pg):=ag (fun pg=>by rw[mC (by rw[Gq I.len,I.len];exact aH _)];rfl);have HTl:Hid (∀t,(j9 d a t).length<=t*8):=ag (fun t=>by
   induction t with
   | zero=>simp[j9]
   | succ t ih=>
     rw[Gn,ew];have:=(abk d a.nd.ai a.ak (a.base+1+(t:Int))).length_le;omega)
  generalize Bs d a w=OUT at *;clear hA hv I TW hES har V;generalize iW d.interval a.nd=F at *;go_enter Tryz.func58,Tryz.ntmps58;go_upto_region 1 with(fail);refine aR (fun S=>Ext w S/\bI S w.heap.size d/\eS S (w.heap.size+1) a q c p m) (oJ w d a q c p m) ?_;rintro S ⟨r,D,ha0⟩;go_upto_region 4 with(first
   | ((with_reducible refine aW 13 ?_);refine bu rfl (.tmp 2) rfl _ rfl d D ?_)
   | (refine WS ?_)
   | (go_at_call 70;refine(HV.out _ r).mono ?_;rintro e w1 ⟨rfl,z⟩;have R:=D.ext z;have ha1:=ha0.ext z;have e7:w1.cell? ⟨w.heap.size,7,none⟩=some (.int .i64 d.interval):=ah.val R 7 _ rfl;have ld:=ah.lt R)
   | ((with_reducible refine aW 21 ?_);refine oY rfl 106 (.tmp 20) rfl (w.heap.size+1) 1 rfl _ (bn a q c p m) #[.int .i64 a.nd.level,.int .i64 a.nd.next,.slice q a.nd.ai.length c] _ ha1 (Cg a q c p m) cZ rfl bq ?_)
   | (go_at_call 88;refine(Y.out _ (r.trans z)).mono ?_;rintro e G ⟨rfl,l⟩))
  have H:=ag (R.ext l);have SA:=ag (ha1.ext l);have M:=ag ((r.trans z).trans l);obtain⟨f0,f1,f2,f3,f4,lf⟩:=SA.out.cells;clear D ha0 R ha1 r z l e7 ld HV Y;go_upto_region 6 with(first
   | ((with_reducible refine aW 28 ?_);refine dW rfl 133 #[(0,.tmp 26),(1,.tmp 27)] rfl [(0,.int .i64 a.base),(1,.string ⟨F.toArray⟩)] rfl _ (adU _ _) ?_))
  have hB:w.heap.size+1<G.heap.size:=lf;have Nj:=ag (ah.new G (.cells #[.int .i64 a.base,.string ⟨F.toArray⟩] 133));have Bu:=ag (Ext.alloc G (.cells #[.int .i64 a.base,.string ⟨F.toArray⟩] 133));clear f0 f1 f2 f3 f4 lf;go_loopw[8,9] (fun out pv wr=>∃t:Nat,t<=N/\pv=.int .i64 (a.base+1+(t:Int))/\wr.ownsRow G.heap.size 133 2 out (1+(j9 d a t).length) (ck ((a.base,F)::j9 d a t))/\Ext G wr) (fun _ pv _=>(a.base+20-intOf pv).toNat)
  case atStart=>exact⟨0,bL _,bX,Dy (xs:=[.int .i64 a.base,.string ⟨F.toArray⟩]) Nj.out (aH _) rfl aq,Bu.out⟩
  case round=>
   obtain⟨t,ht,rfl,g,f⟩:=hrel;have B:=ag g;have J:=ag f;obtain⟨f0,f1,f2,f3,f4,lf⟩:=(SA.out.ext f).cells;have e8:wr.cell? ⟨w.heap.size,8,none⟩=some (.int .i64 d.aN):=ah.val (H.out.ext f) 8 _ rfl;rw[Har.out] at e8;have ld:=ah.lt (H.out.ext f);have hTl:=HTl.out t;by_cases E:t<N
   ·have C:decide (a.base+1+(t:Int)<=a.base+N)=true:=bM af;clear g f;go_upto_region 9 with(fail);obtain⟨j,O⟩:∃j,j=a.base+1+(t:Int):=⟨_,rfl⟩;rw[<-O];have HPG:=ag O;have HRt:Hid (j9 d a (t+1)=j9 d a t++((ju d a.nd.ai a.ak).take a.ak.length).filter fun y=>y.1==j):=ag (by rw[Gn,<-O,DY.out]);have ayY:1<=j/\j<=20000000:=af;have HF:Hid (∀k,(((ju d a.nd.ai a.ak).take k).filter fun y=>y.1==j).length<=8):=ag (fun k=>fN (IG _ _) kQ);have hlt':=ag E;clear O C f0 f1 f2 f3 f4 lf e8 ld E;generalize j9 d a t=RT at *;go_loopw[8,10] (fun out i wr=>∃k:Nat,k<=a.ak.length/\i=.int .i64 k/\wr.ownsRow G.heap.size 133 2 out (1+RT.length+(((ju d a.nd.ai a.ak).take k).filter fun y=>y.1==j).length) (ck ((a.base,F)::RT++((ju d a.nd.ai a.ak).take k).filter fun y=>y.1==j))/\Ext G wr) (fun _ i _=>a.ak.length-(intOf i).toNat)
    case atStart=>exact⟨0,bL _,rfl,by simpa using B.out,J.out⟩
    case round=>
     obtain⟨k,hk,rfl,g,f⟩:=hrel;have B:=ag g;have J:=ag f;obtain⟨f0,f1,f2,f3,f4,lf⟩:=(SA.out.ext f).cells;have e7:wr.cell? ⟨w.heap.size,7,none⟩=some (.int .i64 d.interval):=ah.val (H.out.ext f) 7 _ rfl;have ld:=ah.lt (H.out.ext f);by_cases E:k<a.ak.length
     ·have C:(k:Int)<a.ak.length:=af;obtain⟨ib,io,iv,rfl,hib,hcell,qi,ci,rfl,X,hr1,nY,GI⟩:=(Hv.out.ak.ext (M.out.trans f)).at k E;have Mx:k<a.nd.ai.length:=by have:=HL.out;omega
      have wV:(k:Int)<a.nd.ai.length:=af;obtain⟨gb,go,rfl,hgb,iz⟩:=(Hv.out.ai.ext (M.out.trans f)).at k Mx;have hc1:=(iz k Mx).2;have Nk:=ag (aqP (p:=j) (rB.out k E));have m6:=h3 k;have mV:Hid (∀W,Ext wr W->Calls Tryz.prog 89 #[.int .i64 d.interval,.slice qi (a.ak.getD k []).length ci] W fun e w'=>e=.returned (.tuple #[.string ⟨(iL d.interval (a.ak.getD k [])).toArray⟩,.int .i64 (gR d.interval (a.ak.getD k []))])/\Ext W w'):=ag (fun W (e:Ext wr W)=>KW qi ci _ (a.ak.getD k []) d.interval W (X.ext e) rfl m6);have hFk:=HF.out k;clear m6 GI iz g f X hr1 nY;generalize gR d.interval (a.ak.getD k [])=ec at *;generalize a.ak.getD k []=L at *;generalize iL d.interval L=es at *;generalize(au a.nd.ai k).2=pg at *;generalize hFl:((ju d a.nd.ai a.ak).take (k+1)).filter (fun y=>y.1==j)=F1 at *;generalize ay0:((ju d a.nd.ai a.ak).take k).filter (fun y=>y.1==j)=F0 at *;by_cases n:pg=j
      ·have i1:(pg==j)=true:=by rw[n];simp
       have Z:Hid (F1=F0++[(j,es)]):=ag (by rw[Nk.out,aC n,n]);have zn:=ag n;clear n;go_upto_region 12 with(fail);refine eR 200 (Ext.refl wr) aj aj aj ?_;refine gV ?_;repeat (first
        | (refine pI ?_)
        | (refine fR ?_)
        | (refine iq ?_)
        | (refine bT (o:=⟨some 66,_,_,_,_,_⟩) (v:=.tuple #[.string ⟨es.toArray⟩,.int .i64 ec]) rfl ?_ ?_
           ·intro a w' he hr K hK;simp[Reads,Oper.looksAt,Op.operands,Call.operands,aJ,Is] at hr;go_simp;refine(mV.out _ he).mono ?_;exact kg
           refine aE ?_)
        | (refine fk ?_))
       intro w2 l;repeat (first | with_reducible refine cH _ _ _ _ ?_ | (with_reducible refine cI _ _ _ _ ?_;intro _ _) | with_reducible refine cJ _ _ ?_)
       simp only[cF,cK,bQ,bE];have Hx9:=ag (J.out.trans l);have vI:=ag (aO B.out l);clear l f0 f1 f2 f3 f4 lf e7 ld hcell hib hgb hc1;go_wp2_with(first
        | ((with_reducible refine aW 72 ?_);refine dW rfl 133 #[(0,.tmp 70),(1,.tmp 71)] rfl [(0,.int .i64 j),(1,.string ⟨es.toArray⟩)] rfl _ (adU _ _) ?_)
        | (at_builtin;refine sV (o:=⟨some 74,_,_,_,_,_⟩) rfl (.tmp 69) (.tmp 73) 95 133 rfl G.heap.size (.agg #[.int .i64 0,.string ByteArray.empty]) 2 24 Tryz.underlying95 adT rfl aq _ (1+RT.length+F0.length) _ rfl (aO vI.out (Ext.alloc _ _)) (some ⟨w2.heap.size,0,none⟩) 1 1 [.int .i64 j,.string ⟨es.toArray⟩] rfl rfl rfl (n8 (ys:=[.int .i64 j,.string ⟨es.toArray⟩]) (ah.new w2 _)) vO af aq (fN Hx9.out.size (Ext.alloc _ _).size) ?_;intro v8 w8 gG jN))
       have oh:=aO vI.out (Ext.alloc w2 (.cells [.int .i64 j,.string ⟨es.toArray⟩].toArray 133));have mG:=Hx9.out.trans (Ext.alloc w2 (.cells [.int .i64 j,.string ⟨es.toArray⟩].toArray 133));have TX:=ag (Ext.trans' mG (Below.ij jN oh (aH _) mG.size));have Bk:Hid (w8.ownsRow G.heap.size 133 2 v8 (1+RT.length+F1.length) (ck ((a.base,F)::RT++F1))):=ag (by
        rw[Z.out,<-jk,abe,ew];exact gG)
       clear oh mG gG jN;go_roundw
       case rel=>exact⟨k+1,af,bX,by rw[hFl];exact Bk.out,TX.out⟩
       case measure=>exact ct
      ·have i1:(pg==j)=false:=by simpa using n
       have Z:Hid (F1=F0):=ag (by rw[Nk.out,aA n,FD]);clear n;go_wp2;go_roundw
       case rel=>exact⟨k+1,af,bX,by rw[hFl,Z.out];exact B.out,J.out⟩
       case measure=>exact ct
     ·have C:decide ((k:Int)<a.ak.length)=false:=aM af;have hkn:k=a.ak.length:=af;have T:Hid (1+RT.length+(((ju d a.nd.ai a.ak).take k).filter fun y=>y.1==j).length=1+(j9 d a (t+1)).length/\(a.base,F)::RT++((ju d a.nd.ai a.ak).take k).filter (fun y=>y.1==j)=(a.base,F)::j9 d a (t+1)):=ag (by
       rw[HRt.out,hkn,ew];exact⟨af,rfl⟩)
      have qZ:Hid (wr.ownsRow G.heap.size 133 2 u8 (1+(j9 d a (t+1)).length) (ck ((a.base,F)::j9 d a (t+1)))):=ag (by rw[<-T.out.1,<-T.out.2];exact g);clear g hkn;go_wp2;go_roundw
      case rel=>exact⟨t+1,by have:=hlt'.out;omega,by rw[HPG.out];go_num,qZ.out,f⟩
      case measure=>simp[intOf];have:=HPG.out;omega
   ·have C:decide (a.base+1+(t:Int)<=a.base+N)=false:=aM af;have hta:t=N:=af;have Hfo:Hid (OUT (.returned (.tuple #[u8,.int .i64 0])) wr):=ag ((U.out _ _).2 ⟨M.out.trans f,u8,by rw[HE.out.1],by
     rw[HE.out.2,<-hta,gW,Nat.add_comm];exact fJ g M.out.size⟩)
    clear g f hta;go_wp2;exact Hfo.out
end Go.Proofs.YteninnkbmoimgaaGreatDoor
namespace aD
open Go Go.RowKit
theorem aqU {L:List Wr} {f:Wr->Bool} {j:Nat} (h:j<L.length):(L.take (j+1)).filter f=(L.take j).filter f++(if f (eM L j)=true then[eM L j] else[]):=by
 rw[jr h,Nh,abh h];congr 1;cases hf:f L[j]
 ·simp[hf]
 ·simp[hf]
end aD
namespace Go.Proofs.YteninnkbmoimgaaGreatDoor
open Go.RowKit aD
theorem ad0 {w:World} {g z:Nat} {L:List Wr} (h:rW w g z L):iC w (some ⟨g,0,none⟩) L:=by
 obtain⟨b,d,m,j⟩:=h;refine .inr ⟨g,0,rfl,⟨ah.lt d,b,d⟩,fun i l=>?_⟩;obtain⟨e,f,_⟩:=rW.at ⟨b,d,m,j⟩ i l;rw[nB];exact⟨e,f⟩
end Go.Proofs.YteninnkbmoimgaaGreatDoor
namespace aD
theorem aqV {X Y:List Wr} {j:Nat} (h:j<Y.length):mh X (Y.take (j+1))=mh X (Y.take j)++(if X.contains (eM Y j)=true then[] else[eM Y j]):=by
 unfold mh;rw[aqU h];congr 1;cases X.contains (eM Y j)<;>simp
end aD
namespace Go.Proofs.YteninnkbmoimgaaGreatDoor
open Go.RowKit aD
theorem aqW (w:World) (d:DS) (a b:Ar) (q:Option Addr) (c:Nat) (p:Option Addr) (m:Nat) (i:Option Addr) (e:Nat) (g:Option Addr) (f:Nat):
 Ext w (((w.alloc (.cells (az d) 23)).alloc (.cells (bn a q c p m) 109)).alloc (.cells (bn b i e g f) 109))/\
 bI (((w.alloc (.cells (az d) 23)).alloc (.cells (bn a q c p m) 109)).alloc (.cells (bn b i e g f) 109)) w.heap.size d/\
 eS (((w.alloc (.cells (az d) 23)).alloc (.cells (bn a q c p m) 109)).alloc (.cells (bn b i e g f) 109)) (w.heap.size+1) a q c p m/\
 eS (((w.alloc (.cells (az d) 23)).alloc (.cells (bn a q c p m) 109)).alloc (.cells (bn b i e g f) 109)) (w.heap.size+1+1) b i e g f:=by
 obtain⟨j,l,n⟩:=oJ w d a q c p m;exact⟨j.trans (Ext.alloc _ _),l.ext (Ext.alloc _ _),n.ext (Ext.alloc _ _),ah.new1 _ _ _ av⟩
def zo (d:DS) (a b:Ar) (w:World) (e:Ending) (w':World):Prop:=Ext w w'/\∃q c,e=.returned (.tuple #[.slice q (fZ d a b).length c,.int .i64 (rS d a b)])/\iC w' q (fZ d a b)
theorem ad1 {d:DS} {a:Ar} (I:fP d a):1<=(fX d a).length/\(fX d a).length<=1000:=by
 have b:∀t,(j9 d a t).length<=t*8:=fun t=>by
  induction t with
  | zero=>simp[j9]
  | succ t g=>
    rw[Gn,ew];have:=(abk d a.nd.ai a.ak (a.base+1+(t:Int))).length_le;rw[Gq I.len] at this;have:=I.few;obtain⟨_,_,_,_,_,_,_,e,f⟩:=iM I.keyed;omega
 have:=b d.aN.toNat;obtain⟨_,_,_,_,_,_,_,e,f⟩:=iM I.keyed;unfold fX;rw[gW];omega
end Go.Proofs.YteninnkbmoimgaaGreatDoor
namespace aD
theorem aqX {X:List Wr} {k:Nat} (h:k<X.length) (y:Wr):(X.take (k+1)).contains y=((X.take k).contains y||(eM X k==y)):=by
 rw[jr h,abh h,List.contains_append];congr 1;rw[uf];simp;exact eq_comm
end aD
namespace Go.Proofs.YteninnkbmoimgaaGreatDoor
open Go.RowKit aD
theorem TY (d:DS) (a b:Ar) (q:Option Addr) (c:Nat) (p:Option Addr) (m:Nat) (q':Option Addr) (U:Nat) (p':Option Addr) (m':Nat) (w:World) (Z:pW w a q c p m) (G:pW w b q' U p' m')
 (h1:a.nd.ai.length<=1000000) (h2:a.ak.length<=1000000) (h3:∀i,Small (a.ak.getD i [])) (k1:b.nd.ai.length<=1000000) (k2:b.ak.length<=1000000) (k3:∀i,Small (b.ak.getD i [])):
 Calls Tryz.prog 92 #[.agg (az d),.agg (bn a q c p m),.agg (bn b q' U p' m')] w (zo d a b w):=by
 have HV:=ag (fun W (e:Ext w W)=>yY d a q c p m W (Z.ext e) h1 h2 h3);have t:=ag (fun W (e:Ext w W)=>yY d b q' U p' m' W (G.ext e) k1 k2 k3);have E:Hid (∀e w',zo d a b w e w'↔(Ext w w'/\∃q c,e=.returned (.tuple #[.slice q (fZ d a b).length c,.int .i64 (rS d a b)])/\iC w' q (fZ d a b))):=ag (fun _ _=>Iff.rfl);have B:=aqW w d a b q c p m q' U p' m';cases hA:dD d a
 ·have HE:Hid (rS d a b=1/\fZ d a b=[]):=ag (by unfold rS fZ;rw[hA];exact⟨rfl,rfl⟩);generalize zo d a b w=OUT at *;rw[hA] at HV;clear hA Z G t;go_enter Tryz.func92,Tryz.ntmps92;go_upto_region 1 with(fail);refine aR (fun l=>Ext w l/\bI l w.heap.size d/\eS l (w.heap.size+1) a q c p m/\eS l (w.heap.size+1+1) b q' U p' m') B ?_;clear B;rintro l ⟨g,dr,ha0,z⟩;go_wp2_with(first
   | (refine EG ?_)
   | (refine Ch ?_)
   | (go_at_call 70;refine(HV.out _ g).mono ?_;rintro e w1 ⟨rfl,f⟩))
  exact(E.out _ _).2 ⟨g.trans f,none,0,xW,by rw[HE.out.2];exact .inl rfl⟩
 ·have I:=lD.1 hA;rw[hA] at HV;cases hB:dD d b
  ·have HE:Hid (rS d a b=1/\fZ d a b=[]):=ag (by unfold rS fZ;rw[hB];simp);rw[hB] at t;generalize zo d a b w=OUT at *;clear hA hB Z G I;go_enter Tryz.func92,Tryz.ntmps92;go_upto_region 1 with(fail);refine aR (fun l=>Ext w l/\bI l w.heap.size d/\eS l (w.heap.size+1) a q c p m/\eS l (w.heap.size+1+1) b q' U p' m') B ?_;clear B;rintro l ⟨g,dr,ha0,z⟩;go_wp2_with(first
    | (refine EG ?_)
    | (refine Ch ?_)
    | (go_at_call 70;(with_reducible refine(HV.out _ g).mono ?_);rintro e w1 ⟨rfl,f⟩;have K:=dr.ext f;have hb1:=z.ext f)
    | ((with_reducible refine aW 21 ?_);refine bu rfl (.tmp 3) rfl _ rfl d K ?_)
    | (refine WT ?_)
    | (go_at_call 70;(with_reducible refine(t.out _ (g.trans f)).mono ?_);rintro e w2 ⟨rfl,r⟩))
   exact(E.out _ _).2 ⟨(g.trans f).trans r,none,0,xW,by rw[HE.out.2];exact .inl rfl⟩
  ·have J:=lD.1 hB;rw[hB] at t;obtain⟨hX1,zq⟩:=ad1 I;obtain⟨hY1,hY2⟩:=ad1 J;have HP:=ag (fun W (e:Ext w W)=>Ni d a q c p m W (Z.ext e) h1 h2 h3);have HQ:=ag (fun W (e:Ext w W)=>Ni d b q' U p' m' W (G.ext e) k1 k2 k3);have HE:Hid (rS d a b=0/\fZ d a b=mh (fX d a) (fX d b)):=ag (by unfold rS fZ;rw[aC ⟨hA,hB⟩,aC ⟨hA,hB⟩];exact⟨rfl,rfl⟩);have HPE:Hid (sJ d a=0/\gQ d a=fX d a):=ag PA;have S:Hid (sJ d b=0/\gQ d b=fX d b):=ag (by unfold sJ gQ;rw[hB];exact⟨rfl,rfl⟩);generalize zo d a b w=OUT at *;clear hA hB Z G I J;unfold Bs at HP HQ;rw[HPE.out.1,HPE.out.2] at HP;rw[S.out.1,S.out.2] at HQ;generalize fX d a=X at *;generalize fX d b=Y at *;go_enter Tryz.func92,Tryz.ntmps92;go_upto_region 1 with(fail);refine aR (fun l=>Ext w l/\bI l w.heap.size d/\eS l (w.heap.size+1) a q c p m/\eS l (w.heap.size+1+1) b q' U p' m') B ?_;clear B;rintro l ⟨g,dr,ha0,z⟩;go_upto_region 3 with(first
    | (refine EG ?_)
    | (refine Ch ?_)
    | (go_at_call 70;(with_reducible refine(HV.out _ g).mono ?_);rintro e w1 ⟨rfl,f⟩;have K:=dr.ext f;have hb1:=z.ext f)
    | ((with_reducible refine aW 21 ?_);refine bu rfl (.tmp 3) rfl _ rfl d K ?_)
    | (refine WT ?_)
    | (go_at_call 70;(with_reducible refine(t.out _ (g.trans f)).mono ?_);rintro e w2 ⟨rfl,r⟩))
   have lJ:=ag ((g.trans f).trans r);have pU:=dr.ext (f.trans r);have ha2:=ha0.ext (f.trans r);have hb2:=z.ext (f.trans r);clear g f r dr ha0 z K hb1 HV t;go_upto_region 4 with(first
    | ((with_reducible refine aW 27 ?_);refine bu rfl (.tmp 3) rfl _ rfl d pU ?_)
    | ((with_reducible refine aW 28 ?_);refine bz rfl 109 (.tmp 4) rfl _ rfl _ _ _ ha2 cL rfl aZ ?_)
    | (go_at_call 58;refine(HP.out _ lJ.out).mono ?_;rintro e w3 ⟨L,v1,rfl,M⟩;obtain⟨qx,cx,rfl⟩:=cE M))
   obtain⟨gx,_,rfl,_⟩:=jM M af;have Hrx:=ag (Ng M).1;have Bu:=ag (lJ.out.trans L);have hd3:=pU.ext L;have lS:=hb2.ext L;clear L M pU ha2 hb2 HP;go_upto_region 5 with(first
    | ((with_reducible refine aW 33 ?_);refine bu rfl (.tmp 3) rfl _ rfl d hd3 ?_)
    | ((with_reducible refine aW 34 ?_);refine bz rfl 109 (.tmp 5) rfl _ rfl _ _ _ lS cL rfl aZ ?_)
    | (go_at_call 58;refine(HQ.out _ Bu.out).mono ?_;rintro e w4 ⟨ek,v2,rfl,N⟩;obtain⟨qy,cy,rfl⟩:=cE N))
   obtain⟨gy,_,rfl,_⟩:=jM N af;have Hry:=ag (Ng N).1;have aqZ:=ag (Hrx.out.ext ek);have Hx4:=ag (Bu.out.trans ek);clear ek N hd3 lS HQ Hrx;go_upto_region 7 with(fail);have Gm:=ag (ah.new w4 (.cells #[] 133));go_loopw[12,13] (fun out iv wr=>∃i:Nat,i<=Y.length/\iv=.int .i64 i/\wr.ownsRow w4.heap.size 133 2 out (mh X (Y.take i)).length (ck (mh X (Y.take i)))/\Ext w4 wr) (fun _ iv _=>Y.length-(intOf iv).toNat)
   case atStart=>exact⟨0,bL _,rfl,Dy (xs:=[]) Gm.out (aH _) rfl aq,Ext.alloc _ _⟩
   case round=>
    obtain⟨i,hi,rfl,j,C⟩:=hrel;have T:=ag j;have gZ:=ag C;by_cases hlt:i<Y.length
    ·have gB:(i:Int)<Y.length:=af;obtain⟨y0,y1,ly⟩:=(Hry.out.ext C).at i hlt;have HT:=ag (aqV (X:=X) hlt);have aq1:=ag (aqZ.out.ext C);have hwl:(mh X (Y.take i)).length<=1000:=by
      have h1:(mh X (Y.take i)).length<=(Y.take i).length:=IG _ _;rw[gF] at h1;omega
     clear j C;generalize eM Y i=y at *;generalize mh X (Y.take i)=WL at *;go_upto_region 11 with(fail);obtain⟨H,rfl⟩:∃H:World,H=wr:=⟨_,rfl⟩;go_loopw[14,15] (fun sv kv wr=>∃k:Nat,k<=X.length/\kv=.int .i64 k/\sv=.bool ((X.take k).contains y)/\∃n,wr=H.drewN n) (fun _ kv _=>X.length-(intOf kv).toNat)
     case atStart=>exact⟨0,bL _,rfl,av,0,rfl⟩
     case round=>
      obtain⟨k,hk,rfl,rfl,nr,rfl⟩:=hrel;by_cases V:k<X.length
      ·have aq2:(k:Int)<X.length:=af;obtain⟨x0,x1,lx⟩:=aq1.out.at k V;have HC:=ag (aqX V y);generalize eM X k=x at *;obtain⟨u,s⟩:=x;obtain⟨R,O⟩:=y;simp only at x0 x1 y0 y1;generalize(X.take k).contains (R,O)=bb at *;have hE:=amn u R s O;have hG:=aml;generalize((u,s)==(R,O))=eb at hE HC;cases bb
       ·exact aaS
       ·exact aaS
      ·have aq2:decide ((k:Int)<X.length)=false:=aM af;rw[mC (show X.length<=k by omega)];generalize X.contains y=bb at *;have D:=ag (gZ.out.trans (Ext.drewN H nr));obtain⟨R,O⟩:=y;simp only at y0 y1;cases bb
       ·have TZ:Hid (mh X (Y.take (i+1))=WL++[(R,O)]):=ag (by rw[HT.out];rfl);have F:=ag (aO T.out (Ext.drewN H nr));go_wp2_with(at_builtin;refine sV (o:=⟨some 71,_,_,_,_,_⟩) rfl (.tmp 65) (.tmp 70) 95 133 rfl w4.heap.size (.agg #[.int .i64 0,.string ByteArray.empty]) 2 24 Tryz.underlying95 adT rfl aq _ WL.length _ rfl (aO F.out (Ext.alloc _ _)) (some ⟨(H.drewN nr).heap.size,0,none⟩) 1 1 [.int .i64 R,.string ⟨O.toArray⟩] rfl rfl rfl (n8 (ys:=[.int .i64 R,.string ⟨O.toArray⟩]) (ah.new (H.drewN nr) _)) (by intro v Z;simp at Z;rcases Z with rfl | rfl<;>rfl) af aq (fN D.out.size (Ext.alloc _ _).size) ?_;intro v8 w8 gG jN);have oh:=aO F.out (Ext.alloc (H.drewN nr) (.cells [.int .i64 R,.string ⟨O.toArray⟩].toArray 133));have mG:=D.out.trans (Ext.alloc (H.drewN nr) (.cells [.int .i64 R,.string ⟨O.toArray⟩].toArray 133));have TX:=ag (Ext.trans' mG (Below.ij jN oh (aH _) mG.size));have Bk:Hid (w8.ownsRow w4.heap.size 133 2 v8 (mh X (Y.take (i+1))).length (ck (mh X (Y.take (i+1))))):=ag (by
         rw[TZ.out,abe,ew];exact gG)
        clear oh mG gG jN;go_roundw
        case rel=>exact⟨i+1,af,bX,Bk.out,TX.out⟩
        case measure=>exact ct
       ·have TZ:Hid (mh X (Y.take (i+1))=WL):=ag (by rw[HT.out,aC rfl,FD]);go_wp2;go_roundw
        case rel=>exact⟨i+1,af,bX,by rw[TZ.out];exact aO T.out (Ext.drewN H nr),D.out⟩
        case measure=>exact ct
    ·have gB:decide ((i:Int)<Y.length)=false:=aM af;rw[mC (show Y.length<=i by omega)] at j;obtain⟨qo,co,rfl⟩:=cE j;have HF:Hid (OUT (.returned (.tuple #[.slice qo (mh X Y).length co,.int .i64 0])) wr):=ag ((E.out _ _).2 ⟨Hx4.out.trans C,qo,co,by rw[HE.out.1,HE.out.2],by
      rw[HE.out.2];by_cases h0:(mh X Y).length=0
      ·exact .inl (gY h0)
      ·obtain⟨go,_,rfl,_⟩:=jM j af;exact ad0 (Ng j).1⟩)
     clear j C;go_wp2;exact HF.out
end Go.Proofs.YteninnkbmoimgaaGreatDoor

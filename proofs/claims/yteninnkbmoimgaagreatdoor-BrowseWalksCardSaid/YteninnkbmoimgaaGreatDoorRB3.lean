/- A part of the proof. -/
import Derived.Test.YteninnkbmoimgaaGreatDoorRB6
import Derived.Test.YteninnkbmoimgaaGreatDoorRP
import Derived.Test.YteninnkbmoimgaaGreatDoorRB0
set_option linter.unusedSimpArgs false
set_option linter.unusedVariables false
set_option maxRecDepth 100000
set_option maxHeartbeats 16000000
namespace aD
open Go Go.RowKit in
theorem avy {P:Program} {o:Oper} {a:Act} {w:World} {K:Act->World->Prop} {Q:Exit->Act->World->Prop} (d:TypeId) (x y:Operand) (n:o.op=.store d x y)
 (g i:Nat) (v:Int) (u:Value) (r:a.eval x=.pointer (some ⟨g,i,none⟩)) (z:a.eval y=.int .i64 v) (hi:(P.info? d).map (·.size)=some 1) (j:w.cell? ⟨g,i,none⟩=some u) (l:w.frozen? ⟨g,i,none⟩=false)
 (h:K (a.put o.dst undef) (w.setCell ⟨g,i,none⟩ (.int .i64 v))):o.wp P a w K Q:=by
 have b:(⟨g,i,none⟩:Addr).add 0=⟨g,i,none⟩:=by rw[addr_add];rfl
 have e:(storeVar d ⟨g,i,none⟩ (.int .i64 v)).run P w=.ok () (w.setCell ⟨g,i,none⟩ (.int .i64 v)):=by
  cases hq:P.info? d with
  | none=>simp[hq] at hi
  | some t=>
    have q:t.size=1:=E3;have f:=fun m=>run_store P w (⟨g,i,none⟩:Addr) (.int .i64 v) m rfl;simp[storeVar,Go.sizeOf,typeInfo,hq,Value.cells,q,storeCells,Sem.run_bind,b,f,j,l]
 unfold Oper.wp execOp;simp only[n,r,z,Instr.storeAt,Instr.sureAddr,Sem.run_bind,Sem.run_pure,Result.andThen_ok,e];exact h
def agU (d:DS) (h:Hd) (a b:Ar) (r:List UInt8):Hd:=
 {h with count:=h.count+(if(eJ d (aX a) (ax d r)).isSome then 0 else 1),splits:=h.splits+(if a.ak.length<b.ak.length then 1 else 0)}
theorem agV (d:DS) (k:List UInt8):∀L:aB,(bW d L).any (fun z=>z.1==k)=(eJ d L k).isSome
 | []=>rfl
 | s::L=>by
   have b:=agV d k L;unfold eJ at b⊢;unfold bW at b⊢;rw[dh,List.any_cons,b,List.find?_cons];cases h:ax d s==k<;>simp[h]
end aD
namespace Go.Proofs.YteninnkbmoimgaaGreatDoor
open Go.RowKit aD
theorem jq.wZ {w:World} {h:Hd} {d:DS} {b e:World} {g:Nat} (k:jq w h d b) (c:aI g b e) (f:w.heap.size+1+1<g):jq w h d e:=⟨c.ext k.ext af,c.blk k.hd af,c.blk k.ds af,c.blk k.z af⟩
structure oX (w:World) (h:Hd) (d:DS) (yb yl gp jf:Nat) (P:List Int) (a x y:Ar) (q1:Option Addr) (c1:Nat) (p1:Option Addr) (m1:Nat) (q2:Option Addr) (c2:Nat) (p2:Option Addr) (m2:Nat) (q3:Option Addr) (c3:Nat) (p3:Option Addr) (m3:Nat) (W:World):Prop where
 ad:jq w h d W
 aa:eS W yb a q1 c1 p1 m1
 va:cX W a q1 c1 p1 m1
 al:eS W yl x q2 c2 p2 m2
 vl:cX W x q2 c2 p2 m2
 ar:eS W (yl+1) y q3 c3 p3 m3
 vr:cX W y q3 c3 p3 m3
 path:Ints W (some ⟨gp,jf,none⟩) P
 lt:w.heap.size+1+1<yb/\w.heap.size<gp/\yb<yl/\gp<yl
section
variable {w:World} {h:Hd} {d:DS} {yb yl gp jf:Nat} {P:List Int} {a x y:Ar} {q1:Option Addr} {c1:Nat} {p1:Option Addr} {m1:Nat} {q2:Option Addr} {c2:Nat} {p2:Option Addr} {m2:Nat} {q3:Option Addr} {c3:Nat} {p3:Option Addr} {m3:Nat} {W W':World}
theorem oX.more (k:oX w h d yb yl gp jf P a x y q1 c1 p1 m1 q2 c2 p2 m2 q3 c3 p3 m3 W) (e:Ext W W'):oX w h d yb yl gp jf P a x y q1 c1 p1 m1 q2 c2 p2 m2 q3 c3 p3 m3 W':=
 ⟨k.ad.more e,k.aa.ext e,k.va.ext e,k.al.ext e,k.vl.ext e,k.ar.ext e,k.vr.ext e,k.path.ext e,k.lt⟩
theorem oX.set (k:oX w h d yb yl gp jf P a x y q1 c1 p1 m1 q2 c2 p2 m2 q3 c3 p3 m3 W) {h':Hd} (i:Nat) (v:Value) (e:((aK h):Array Value).setIfInBounds i v=(aK h')):oX w h' d yb yl gp jf P a x y q1 c1 p1 m1 q2 c2 p2 m2 q3 c3 p3 m3 (W.setCell ⟨w.heap.size,i,none⟩ v):=by
 have b:=aI.setCell (w:=W) (g:=w.heap.size) (i:=i) (v:=v);have f:=k.lt;exact⟨k.ad.set i v e,b.blk k.aa af,k.va.lE k.ad.hd aq aq aq b,b.blk k.al af,k.vl.lE k.ad.hd aq aq aq b,b.blk k.ar af,k.vr.lE k.ad.hd aq aq aq b,Jn k.path af b,f⟩
theorem oX.left (k:oX w h d yb yl gp jf P a x y q1 c1 p1 m1 q2 c2 p2 m2 q3 c3 p3 m3 W) {z:Ar} {j:Option Addr} {f:Nat} {i:Option Addr} {g:Nat} (b:eS W' yl z j f i g) (v:cX W z j f i g) (e:aI yl W W'):oX w h d yb yl gp jf P a z y q1 c1 p1 m1 j f i g q3 c3 p3 m3 W':=by
 have l:=k.lt;exact⟨k.ad.wZ e af,e.blk k.aa af,k.va.lE k.al aq aq aq e,b,v.lE k.al aq aq aq e,e.blk k.ar af,k.vr.lE k.al aq aq aq e,Jn k.path af e,l⟩
theorem oX.right (k:oX w h d yb yl gp jf P a x y q1 c1 p1 m1 q2 c2 p2 m2 q3 c3 p3 m3 W) {z:Ar} {j:Option Addr} {f:Nat} {i:Option Addr} {g:Nat} (b:eS W' (yl+1) z j f i g) (v:cX W z j f i g) (e:aI (yl+1) W W'):oX w h d yb yl gp jf P a x z q1 c1 p1 m1 q2 c2 p2 m2 j f i g W':=by
 have l:=k.lt;exact⟨k.ad.wZ e af,e.blk k.aa af,k.va.lE k.ar aq aq aq e,e.blk k.al af,k.vl.lE k.ar aq aq aq e,b,v.lE k.ar aq aq aq e,Jn k.path af e,l⟩
end
theorem avz {l:List Oper} {m A:Nat} {xs:List (Nat×Tmp)} {R:Nat->Rel} {S:World->Prop} (b:∀w w',Ext w w'->S w->S w') (_:gI .any l.toArray m=true):Pre.sU .any l.toArray [(A,xs)] R (fun _ w=>S w):=
 ⟨fun _ _ w w' e h=>b w w' e h,fun p q g i f=>by simp[eN] at g i;omega⟩
theorem avA:(Tryz.prog.info? 3).map (·.size)=some 1:=aj
theorem avB {n0 g:Nat} {A B:World} (c:aI g A B) (b:n0<=g):Below n0 A B:=⟨c.os,c.tape,c.output,Cl,fun k e=>c.block k af⟩
theorem avC {M:List (List UInt8)} {d:DS} {h:Hd} {S:List aQ} {C:List Int} {n:Nat} (K:dL M d h S C n) (r:List UInt8) (G:cV d r=false)
 (p:Option Addr) (l m:Nat) (w:World):
 Calls Tryz.prog 62 #[.slice p m l,.agg (aK h),.agg (az d),.string ⟨r.toArray⟩] w (BZ 2 w):=by
 have f:=ag (fun W=>Ob h d W K.door);have D:=ag (fun W=>Gs d r K.k.tree.keyed W);rw[G] at D;have h0:=Vz w h d;generalize b:BZ 2 w=j;have i:Hid (∀e w',BZ 2 w e w'->j e w'):=ag (fun e w' g=>by rw[<-b];exact g);clear b K G;go_enter Tryz.func62,Tryz.ntmps62;go_upto_region 1 with(fail);refine aR (jq w h d) h0 ?_;clear h0;intro H h0;go_wp2_with(first
  | (refine Xy ?_)
  | (refine bu (o:=⟨some 37,_,_,_,_,_⟩) rfl (.tmp 6) rfl _ rfl d h0.ds ?_)
  | (go_at_call 44;refine(f.out _).mono ?_;rintro e I ⟨rfl,t⟩;have E:=h0.more t)
  | (refine bu (o:=⟨some 43,_,_,_,_,_⟩) rfl (.tmp 6) rfl _ rfl d E.ds ?_)
  | (go_at_call 93;refine(D.out _).mono ?_;rintro e J ⟨rfl,u⟩;have F:=E.more u)
  | (refine dW (o:=⟨some 47,_,_,_,_,_⟩) rfl 30 #[] rfl [] rfl _ agW ?_)
  | (refine aU rfl 30 (.tmp 8) (.tmp 47) rfl _ #[.int .i64 0,.int .i64 0,.int .i64 0,.int .i64 0,.int .i64 0,.int .i64 0,.int .i64 0] rfl rfl _ _ F.z dg rfl cT ?_;intro L B q))
 exact bY (pP Tryz.results62 _ _ _ _ _ _ rfl B fH rfl dg) rfl (i.out _ _ ⟨q.ext F.ext af,rfl⟩)
theorem agX {M:List (List UInt8)} {d:DS} {h:Hd} {pre:List aQ} {s:aQ} {post:List aQ} {dn:List Int} {n:Nat} (K:dL M d h (pre++s::post) dn n) (tq:n<100) (r:List UInt8) (hr:cV d r=true) (kC:bJ M h d (ax d r) h.height.toNat=s.2.base)
 (g1:bl (ax d r) s.1=false) (g2:post≠[]->bl (ax d r) (nj post)=true)
 (p:Option Addr) (cap m:Nat) (w:World) (hs:bk w p M) (hn:M.length=m):
 Calls Tryz.prog 62 #[.slice p m cap,.agg (aK h),.agg (az d),.string ⟨r.toArray⟩] w fun e w'=>
  (lU d s.2 r).2=true/\uH (agU d h s.2 (lU d s.2 r).1 r) (fZ d s.2 (lU d s.2 r).1) w e w'∨
  (lU d s.2 r).2=false/\∃W g',G3 M d h (jE d h s.2 r (uB d s.2 (h.fin+1) r)) (gK s.2) (h.fin+1) (iy (pre++s::post)) dn W g'/\
    uH g' (dB (fZ d s.2 (uB d s.2 (h.fin+1) r).1++gQ d (uB d s.2 (h.fin+1) r).2++dB W)) w e w':=by
 have hin:s∈pre++s::post:=av;have qA:=K.k.tree.keyed;have I:jm d s.2:=K.k.inv s hin;have Hn:=ag hn;have Jo:=ag (fun W (e:bk W p M)=>US p cap m M d s.2.base W e hn K.small);rw[(K.k.holds s hin).read I.spec] at Jo;unfold mw at Jo;have Jp:=ag (fun W (e:bk W p M)=>agY K (ax d r) p cap m W e hn);have zJ:=ag (fun W=>Ob h d W K.door);have HI:=ag (fun W=>Gs d r qA W);rw[hr] at HI;have VA:=ag (fun q c p m W (e:cX W s.2 q c p m)=>U6 d s.2 q c p m r W I hr e);have hP:=DZ I hr;obtain⟨a1,a2,a3⟩:=lV I.spec;obtain⟨b1,b2,b3⟩:=lV hP.inv.spec;have VB:=ag (fun q c p m W (e:cX W s.2 q c p m)=>aeN d s.2 q c p m W e.x a1 a2 a3);have xM:ou d s.2=bW d (aX s.2):=PD;have hpl:Hid ((ou d s.2).length<=1000000):=ag (by
  have h1:=K.cn;have h2:=K.n0;rw[qd,oU] at h1;rw[xM];unfold bW;simp only[ew,kF] at h1⊢;omega)
 have hany:=agV d (ax d r) (aX s.2);rw[<-xM] at hany;have zF:=ag (fun q c p m q' c' p' m' W (e:cX W s.2 q c p m) (e':cX W (lU d s.2 r).1 q' c' p' m')=>TY d s.2 (lU d s.2 r).1 q c p m q' c' p' m' W e.x e'.x a1 a2 a3 b1 b2 b3);have Ov:rS d s.2 (lU d s.2 r).1=0:=(IE I.spec hP.inv.spec).2;have Hs:=ag hs;obtain⟨Y,Jq⟩:∃c:Int,c=if(eJ d (aX s.2) (ax d r)).isSome then 0 else 1:=⟨_,rfl⟩;have aAU:0<=Y/\Y<=1:=by rw[Jq];split<;>omega
 have zG:Hid (∀W,Calls Tryz.prog 95 #[.bool (!((ou d s.2).any fun z=>z.1==ax d r))] W fun e w'=>e=.returned (.int .i64 Y)/\w'=W):=ag (fun W=>by
  have:=Vf (!((ou d s.2).any fun z=>z.1==ax d r)) W;rw[hany] at this⊢;rw[Jq];cases hw:(eJ d (aX s.2) (ax d r)).isSome
  ·rw[hw] at this;exact this
  ·rw[hw] at this;exact this)
 have Ow:=K.door;obtain⟨hA,zK⟩:∃g:Hd,g={h with count:=h.count+Y}:=⟨_,rfl⟩;have HA:Hid (((aK h):Array Value).setIfInBounds 1 (.int .i64 (h.count+Y))=(aK hA)):=ag (by rw[zK];rfl);have hcw:IntKind.i64.wrap (h.count+Y)=h.count+Y:=IntWalk.i64_in _ (by have:=Ow.1;have:=Ow.2.1;omega);obtain⟨z1,z2,z3,z4,z5,z6,z7,z8,z9⟩:=iM qA;have hz:=oB (qM z1).2.2.1;have DH:=CY hr;have hw:IntKind.i64.wrap (d.dm+d.bV)=d.dm+d.bV:=IntWalk.i64_in _ af;have i1:(0:Int)<=d.dm+d.bV:=af;have i2:d.dm+d.bV<=(r.length:Int):=DH.1;have i3:d.dm<=d.dm+d.bV:=af;have HE:Hid (ax d r=(r.drop d.dm.toNat).take d.bV.toNat):=ag rfl;have HT:Hid ((d.dm+d.bV).toNat-d.dm.toNat=d.bV.toNat):=ag af;obtain⟨H,hH⟩:∃H:Nat,h.height.toNat=H:=⟨_,rfl⟩;have Eh:H<=5:=Cv;have HpH:=ag hH;have Ug:Hid (h.height=H):=ag Cv;rw[hH] at kC Jp;have hpat:(eW M h d (ax d r) H).getD H 0=s.2.base:=EJ;have B6:=tO M h d (ax d r) H;have h0:=Vz w h d;have z10:0<=d.aN/\d.aN<=8:=af;have HK:=ag K;have HP:=ag hP;have E:=ag I;have KO:=ag qA;have Hr:=ag hr;have Hg1:=ag g1;have Hg2:=ag g2;have Hdo:=ag Ow;clear hs hn a1 a2 a3 b1 b2 b3 xM hany K hP I qA hr g1 g2 Ow hin z1 z2 hz DH hH kC;have Hpt:=ag (show ∃P,P=eW M h d (ax d r) H from⟨_,rfl⟩);obtain⟨P,VC⟩:=Hpt.out;rw[<-VC] at Jp hpat B6;have HPP:=ag VC;clear VC Hpt
 obtain⟨k,hk⟩:∃k,k=ax d r:=⟨_,rfl⟩;rw[<-hk] at Jp zG HE;have Hk:=ag hk;obtain⟨a,ha⟩:∃a,a=s.2:=⟨_,rfl⟩;have Ha:=ag ha;rw[<-ha] at Jo VA VB hpl zG zF Ov hpat⊢;rw[<-ha,<-hk] at Jq;have Jr:=ag Jq;clear hk ha Jq;generalize hD:lU d a r=D at *;obtain⟨b,ok⟩:=D;simp only at zF Ov;have HD:=ag hD;clear hD;cases ok
 case' true=>
  obtain⟨cS,hc2⟩:∃c:Int,c=if a.ak.length<b.ak.length then 1 else 0:=⟨_,rfl⟩;have ag2:0<=cS/\cS<=1:=by rw[hc2];split<;>omega
  obtain⟨gE,VD⟩:∃g:Hd,g={hA with splits:=h.splits+cS}:=⟨_,rfl⟩;have HgE:Hid (((aK hA):Array Value).setIfInBounds 5 (.int .i64 (h.splits+cS))=(aK gE)):=ag (by rw[VD];rfl);have MM:Hid (hA.splits=h.splits):=ag (by rw[zK]);have hcs:IntKind.i64.wrap (h.splits+cS)=h.splits+cS:=IntWalk.i64_in _ (by have:=Hdo.out;unfold Eg at this;omega);have avH:Hid (∀W,Calls Tryz.prog 95 #[.bool (decide (a.ak.length<b.ak.length))] W fun e w'=>e=.returned (.int .i64 cS)/\w'=W):=ag (fun W=>by
   have:=Vf (decide (a.ak.length<b.ak.length)) W;rw[hc2];by_cases U:a.ak.length<b.ak.length
   ·rw[aC U];rw[bM U] at this⊢;exact this
   ·rw[aA U];rw[aM U] at this⊢;exact this)
  refine Calls.mono (R:=uH gE (fZ d a b) w) ?_ (fun e w' g=>.inl ⟨rfl,by
   have e1:agU d h a b r=gE:=by rw[VD,zK,hc2,Jr.out,Hk.out];rfl
   rw[e1];exact g⟩)
  clear hc2 VD ag2;generalize Bi:uH gE (fZ d a b) w=OUT;have Js:Hid (∀e w',uH gE (fZ d a b) w e w'->OUT e w'):=ag (fun e w' g=>by rw[<-Bi];exact g);clear Bi
 case' false=>
  have hu:=(HP.out.no (by rw[<-Ha.out,HD.out])).2;have m6:s∈pre++s::post:=av;obtain⟨b1,b2⟩:=HK.out.k.base s m6;have hfin:=HK.out.fin;have hn0:=HK.out.n0;have O:eX (h.fin+1)=true:=by
   exact Ky
  have I9:1<s.2.nd.ai.length:=by have:=Uf E.out.spec hu;omega
  obtain⟨X,hX⟩:∃X,uB d s.2 (h.fin+1) r=X:=⟨_,rfl⟩;obtain⟨W,g',hAd,f,hnd⟩:=HK.out.auf tq Hr.out Hg1.out Hg2.out hu hX HpH.out;have HV:=Nn E.out Hr.out O hu;rw[hX] at HV;obtain⟨Il,Ir,-⟩:=aaf E.out O I9;refine Calls.mono (R:=uH g' (dB (fZ d s.2 X.1++gQ d X.2++dB W)) w) ?_ (fun e w' g=>.inr ⟨rfl,W,g',by rw[Ha.out,hX];exact hAd,by rw[Ha.out,hX];exact g⟩);have zL:=hX;unfold uB at zL;obtain⟨x1,x2⟩:=X;simp only at f hnd;obtain⟨bs,hbs⟩:∃z:Int,z=h.fin+1:=⟨_,rfl⟩;obtain⟨f2,A7⟩:∃z:Int,z=h.fin+d.aN+1:=⟨_,rfl⟩;obtain⟨cS,hc2⟩:∃c:Int,c=if a.ak.length<x1.ak.length+x2.ak.length then 1 else 0:=⟨_,rfl⟩;have ag2:0<=cS/\cS<=1:=by rw[hc2];split<;>omega
  have avI:Hid (∀(b:Bool),b=decide (a.ak.length<x1.ak.length+x2.ak.length)->∀W,Calls Tryz.prog 95 #[.bool b] W fun e w'=>e=.returned (.int .i64 cS)/\w'=W):=ag (fun b hb W=>by
   subst hb;have:=Vf (decide (a.ak.length<x1.ak.length+x2.ak.length)) W;rw[hc2];by_cases U:a.ak.length<x1.ak.length+x2.ak.length
   ·rw[aC U];rw[bM U] at this⊢;exact this
   ·rw[aA U];rw[aM U] at this⊢;exact this)
  obtain⟨hB,En⟩:∃g:Hd,g={hA with fin:=f2}:=⟨_,rfl⟩;obtain⟨hC,VE⟩:∃g:Hd,g={hB with splits:=h.splits+cS}:=⟨_,rfl⟩;obtain⟨hD,VF⟩:∃g:Hd,g={hC with kG:=h.kG+1}:=⟨_,rfl⟩;have HB:Hid (((aK hA):Array Value).setIfInBounds 2 (.int .i64 f2)=(aK hB)):=ag (by rw[En];rfl);have HC:Hid (((aK hB):Array Value).setIfInBounds 5 (.int .i64 (h.splits+cS))=(aK hC)):=ag (by rw[VE];rfl);have HDD:Hid (((aK hC):Array Value).setIfInBounds 6 (.int .i64 (h.kG+1))=(aK hD)):=ag (by rw[VF];rfl);have hE:jE d h s.2 r (x1,x2)=hD:=by
   rw[VF,VE,En,zK,A7,hc2,Jr.out,Hk.out,Ha.out];rfl
  rw[hE,<-hbs] at f;have St:Hid (hA.fin=h.fin):=ag (by rw[zK]);have avK:Hid (hB.fin=f2):=ag (by rw[En]);have avL:Hid (hB.splits=h.splits):=ag (by rw[En,zK]);have avM:Hid (hB.kG=h.kG):=ag (by rw[En,zK]);have ag4:=Hdo.out;unfold Eg at ag4;have hcs:IntKind.i64.wrap (h.splits+cS)=h.splits+cS:=IntWalk.i64_in _ af;have hwa:IntKind.i64.wrap (h.kG+1)=h.kG+1:=IntWalk.i64_in _ af;have hwb:IntKind.i64.wrap (h.fin+1)=bs:=by rw[hbs];exact IntWalk.i64_in _ af
  have hwf:IntKind.i64.wrap (h.fin+d.aN)=h.fin+d.aN:=IntWalk.i64_in _ af;have hwg:IntKind.i64.wrap (h.fin+d.aN+1)=f2:=by rw[A7];exact IntWalk.i64_in _ af
  have hbig:decide (16777152<f2)=false:=aM af;obtain⟨mid,hmid⟩:∃z,z=gK s.2:=⟨_,rfl⟩;obtain⟨lA,uy⟩:∃z,z=oC s.2 bs:=⟨_,rfl⟩;obtain⟨rA,Ox⟩:∃z,z=oD s.2 bs:=⟨_,rfl⟩;rw[<-hmid] at f zL;rw[<-hbs] at Il Ir O zL;rw[<-uy] at Il zL;rw[<-Ox] at Ir zL;rw[<-Hk.out] at zL;have VG:s.2.ak.length≠1:=by have:=E.out.spec.len;omega
  have xI:Hid (∀q c p m W',cX W' a q c p m->Calls Tryz.prog 97 #[.agg (az d),.agg (bn a q c p m),.int .i64 bs] W' fun e w'=>Ext W' w'/\∃q1 c1 p1 m1 q2 c2 p2 m2,e=.returned (.tuple #[.agg (bn lA q1 c1 p1 m1),.agg (bn rA q2 c2 p2 m2),.string ⟨mid.toArray⟩,.int .i64 0])/\cX w' lA q1 c1 p1 m1/\cX w' rA q2 c2 p2 m2):=ag (fun q c p m W' e=>by
   obtain⟨a1,a2,a3⟩:=lV E.out.spec;rw[<-Ha.out] at a1 a2 a3 VG uy Ox hmid;refine(asA d a q c p m bs W' e a1 a2 a3).mono ?_;intro e w' g;unfold tv at g;rw[Ha.out,lD.2 E.out.spec,O,<-Ha.out,aA av,aA VG,<-uy,<-Ox,<-hmid] at g;exact g)
  have Eo:=ag (fun q c p m W (e:cX W lA q c p m)=>U6 d lA q c p m r W Il Hr.out e);have AL:=ag (fun q c p m W (e:cX W rA q c p m)=>U6 d rA q c p m r W Ir Hr.out e);have xN:=ag (fun q c p m q' c' p' m' W (e:cX W s.2 q c p m) (e':cX W x1 q' c' p' m')=>TY d s.2 x1 q c p m q' c' p' m' W e.x e'.x (lV E.out.spec).1 (lV E.out.spec).2.1 (lV E.out.spec).2.2 (lV HV.il.spec).1 (lV HV.il.spec).2.1 (lV HV.il.spec).2.2);have hw0:rS d s.2 x1=0:=(IE E.out.spec HV.il.spec).2;unfold zo at xN;rw[hw0] at xN;have vG:=ag (fun q c p m W (e:cX W x2 q c p m)=>Ni d x2 q c p m W e.x (lV HV.ir.spec).1 (lV HV.ir.spec).2.1 (lV HV.ir.spec).2.2);have sr:sJ d x2=0:=(IE HV.ir.spec HV.ir.spec).1;unfold Bs at vG;rw[sr] at vG;have HAdd:Hid (∀n2 qp cp W',n2=H+1->bk W' p M->Ints W' qp P->Calls Tryz.prog 98 #[.slice p m cap,.agg (aK hD),.agg (az d),.slice qp n2 cp,.string ⟨mid.toArray⟩,.int .i64 bs] W' fun e w'=>Ext W' w'/\∃q c,e=.returned (.tuple #[.agg (aK g'),.slice q W.length c,.int .i64 0])/\w'.ownsRow W'.heap.size 133 2 (.slice q W.length c) W.length (ck (dB W))):=ag (fun n2 qp cp W' e1 e2 e3=>by
   subst e1;rw[HPP.out,f.path] at e3;exact auo p cap m M hD g' d H qp cp mid bs W W' e2 Hn.out HK.out.small f.door f.height Eh f.er f.idx e3 f.b0 f.b32 f.bs f.go f.fin f.nodup)
  have HlW:=ag f.len;have VH:=ag (CF E.out.spec HV.il.spec).1;have VI:=ag (TU HV.ir.spec).1;obtain⟨Z,hxW⟩:∃z,z=fZ d s.2 x1:=⟨_,rfl⟩;obtain⟨yW,hyW⟩:∃z,z=gQ d x2:=⟨_,rfl⟩;rw[<-hxW] at hnd xN VH⊢;rw[<-hyW] at hnd vG VI⊢;have HNd:=ag (show((dB (Z++yW++dB W)).map (·.1)).Nodup from(((Bx _).trans ((Bx W).append_left _)).map _).nodup_iff.2 hnd);have Oy:=ag zL;have UI:=ag (show x1.ak.length<=1000000 from(lV HV.il.spec).2.1);have I2:=ag (show x2.ak.length<=1000000 from(lV HV.ir.spec).2.1);have hwl:IntKind.i64.wrap ((x1.ak.length:Int)+x2.ak.length)=((x1.ak.length+x2.ak.length:Nat):Int):=by rw[IntWalk.i64_in _ (by have:=UI.out;have:=I2.out;omega)];omega
  rw[<-Ha.out] at xN;generalize Bi:uH g' (dB (Z++yW++dB W)) w=OUT;have Jt:(Z++yW++dB W).length=Z.length+yW.length+W.length:=by rw[ew,ew,xK]
  have Js:Hid (∀e w',(Ext w w'/\∃q c,e=.returned (.tuple #[.agg (aK g'),.slice q (Z.length+yW.length+W.length) c,.int .i64 0])/\iC w' q (dB (Z++yW++dB W)))->OUT e w'):=ag (fun e w' g=>by
   rw[<-Bi];obtain⟨g1,q,c,g2,g3⟩:=g;exact⟨g1,q,c,by rw[xK,Jt];exact g2,g3⟩)
  have ag8:Z.length+yW.length+W.length<=1000:=by have:=VH.out;have:=VI.out;have:=HlW.out;omega
  have HSo:Hid (∀q c W',iC W' q (Z++yW++dB W)->Calls Tryz.prog 99 #[.slice q (Z.length+yW.length+W.length) c] W' fun e w'=>Ext W' w'/\∃q' c',e=.returned (.slice q' (Z.length+yW.length+W.length) c')/\iC w' q' (dB (Z++yW++dB W))):=ag (fun q c W' e=>by
   have:=atV q c (Z++yW++dB W) W' e af;rw[Jt] at this;refine this.mono ?_;rintro e w' ⟨g1,q',c',g2,g3⟩;exact⟨g1,q',c',g2,(zE g3).1⟩)
  have HTw:Hid (∀q c W',iC W' q (dB (Z++yW++dB W))->Calls Tryz.prog 100 #[.slice q (Z.length+yW.length+W.length) c] W' fun e w'=>e=.returned (.bool false)/\Ext W' w'):=ag (fun q c W' e=>by
   have:=afB q c _ W' e HNd.out (by rw[xK];omega);rw[xK,Jt] at this;exact this)
  have HlL:=ag Jt;have aAY:=ag ag8;clear Jt ag8;clear Bi hnd hxW hyW hw0 sr HV VG hmid uy Ox f hAd hE En VE VF hc2 hbs A7 zL hX hu m6 b1 b2 hfin hn0 O I9 Il Ir ag4
 all_goals
  clear zK;go_enter Tryz.func62,Tryz.ntmps62;go_upto_region 1 with(fail);refine aR (jq w h d) h0 ?_;clear h0;intro w0 h0;go_upto_region 6 with(first
   | (refine Xy ?_)
   | (refine bu (o:=⟨some 37,_,_,_,_,_⟩) rfl (.tmp 6) rfl _ rfl d h0.ds ?_)
   | (go_at_call 44;refine(zJ.out _).mono ?_;rintro e w1 ⟨rfl,bU⟩;have h1:=h0.more bU)
   | (refine bu (o:=⟨some 43,_,_,_,_,_⟩) rfl (.tmp 6) rfl _ rfl d h1.ds ?_)
   | (go_at_call 93;refine(HI.out _).mono ?_;rintro e w2 ⟨rfl,l⟩;have h2:=h1.more l;have c5:=ah.val h2.ds 5 _ rfl;have c6:=ah.val h2.ds 6 _ rfl;have l5:=ah.lt h2.ds))
  go_upto_region 7 with(fail);rw[HT.out,<-HE.out];clear HT HE hw i1 i2 i3 c5 c6 l5 z3 z4 z5 z6 z7 z8 z9;go_upto_region 10 with(first
   | (refine bz (o:=⟨some 59,_,_,_,_,_⟩) rfl 30 (.tmp 5) rfl _ rfl _ _ _ h2.hd fH rfl dg ?_)
   | (refine bu (o:=⟨some 60,_,_,_,_,_⟩) rfl (.tmp 6) rfl _ rfl d h2.ds ?_)
   | (go_at_call 90;refine(Jp.out _ (Hs.out.ext h2.ext)).mono ?_;rintro e w3 ⟨jc,qp,cp,rfl,xH,LV⟩;have h3:=h2.more jc;have UH:=ah.lt h2.z))
  have H3:=ag h3;have Hs3:=ag (Hs.out.ext h3.ext);have ahc:=ag xH;obtain⟨gp,jf,rfl,ke,qj⟩:=xH.at H (by rw[B6];omega);have sG:=qj H (by rw[B6];omega);have avO:w.heap.size<gp:=by have:=LV _ _ rfl;omega
  clear LV UH;rw[hpat] at sG;have avP:=ag B6;clear B6;generalize nM:H+1=n1;have hw1:IntKind.i64.wrap ((n1:Int)-1)=(H:Int):=pJ;have hn2:(H:Int)<n1:=af;have lY:H<n1:=af;clear h0 h1 h2 h3 bU l jc xH qj zJ Jp HI hpat;refine kH 200 [(13,[(12,15)])] (Ext.refl w3) aj aj aj aj aj aj (rL _ _ 13 12 15 (j4 w3.heap.size 109) (vL w3.heap.size a) (fun _ _ h=>h.below) (vL.ay _ _) aj) ?_;simp only[cY,eF,gj,dV,dP,gC,dh,dQ];repeat (first
   | (refine dY (o:=⟨some 15,_,_,_,_,_⟩) (fS w3.heap.size (.cells cA 109)) (fS.ay _ _) vY aj aP ?_ ?_
      ·exact uU
      refine aE ?_)
   | (refine dF (o:=⟨some 71,_,_,_,_,_⟩) (v:=.agg (az d)) aj aP ?_ ?_
      ·intro a w' he hr K hK;simp[Reads,Oper.looksAt,Op.operands,aJ,Is] at hr;exact eG 23 (.tmp 6) rfl ((w.heap.size+1)) dX _ _ _ _ (he.blk _ _ H3.out.ds) gr rfl gD (hK _ (Ext.refl _))
      refine aE ?_)
   | (refine dY (o:=⟨some 78,_,_,_,_,_⟩) (jy a) (jy.ay _) (.inr (jy.bP _ _ _)) aj aP ?_ ?_
      ·intro a' w' he hr K hK;simp[Reads,Oper.looksAt,Op.operands,Call.operands,aJ,Is] at hr;go_simp;refine(Jo.out _ (Hs3.out.ext he)).mono ?_;exact EI
      refine aE ?_)
   | (refine pG (o:=⟨some 69,_,_,_,_,_⟩) _ (jy a) aj aP lz rfl (jy.ay _) (.inr (jy.bP _ _ _)) ?_
      refine nO ?_)
   | (refine dY (o:=⟨some 79,_,_,_,_,_⟩) (nN a) (nN.ay _) (.inr (nN.bP _ _ _)) aj aP ?_ ?_
      ·intro a w' he hr K hK;obtain⟨q9,c9,p9,m9,h1,h9⟩:=hr 69 bO;exact KM
      refine aE ?_)
   | (refine dF (o:=⟨some 80,_,_,_,_,_⟩) (v:=.int .i64 0) aj aP ?_ ?_
      ·intro a w' he hr K hK;obtain⟨q9,c9,p9,m9,h1,h9⟩:=hr 69 bO;exact mO
      refine aE ?_)
   | (refine iU (o:=⟨none,_,_,_,_,_⟩) Any Any.ay (.inr Any.bP) aj aP ?_ ?_
      ·intro a w' he hr K hK;obtain⟨b,h1,h2,h3⟩:=hr 15 bO;obtain⟨q9,c9,p9,m9,hv,h9⟩:=hr 79 bO;refine nC 109 (.tmp 15) (.tmp 79) rfl b (bn _ q9 c9 p9 m9) h1 hv _ _ h2 aZ rfl (mE ..) ?_;exact Ku
      refine aE ?_)
   | (refine qD ?_)
   | (refine pH ?_))
  intro w2 l;simp only[iJ,iQ,jS,kW,bG,bN];repeat (first | with_reducible refine cH _ _ _ _ ?_ | (with_reducible refine cI _ _ _ _ ?_;intro _ _) | with_reducible refine cJ _ _ ?_)
  simp only[cF,cK,bQ,bE];rename_i x15 Ep x69 h69 U2 Eb x79 h79;obtain⟨yb,rfl,q1,c1,p1,m1,hyb,hv1,Em⟩:=Ep;clear h69 Eb h79;have h3:=H3.out.more l;have U:=ah.lt H3.out.z;have ahd:=ag (ahc.out.ext l);clear Jo ke sG hw1 hn2 lY ahc;go_upto_region 13 with(fail);refine aR (fun w4=>jq w h d w4/\eS w4 yb a q1 c1 p1 m1/\cX w4 a q1 c1 p1 m1/\w.heap.size+1+1<yb/\Ints w4 (some ⟨gp,jf,none⟩) P) ⟨h3,hyb,hv1,af,ahd.out⟩ ?_;clear hyb hv1 Em h3 H3 l U Hs3 ahd;clear w2;rintro w4 ⟨h4,ye,Er,Em,vg⟩;have ahe:=ag (VB.out _ _ _ _ _ Er);have oG:=ag (And.intro Er vg);clear VB Er vg;go_upto_region 14 with(first
   | (refine bu (o:=⟨some 86,_,_,_,_,_⟩) rfl (.tmp 6) rfl _ rfl d h4.ds ?_)
   | (refine bz (o:=⟨some 87,_,_,_,_,_⟩) rfl 109 (.tmp 15) rfl _ rfl _ _ _ ye cL rfl aZ ?_)
   | (go_at_call 47;refine ahe.out.mono ?_;rintro e w5 ⟨jD,v5,rfl,iX⟩;obtain⟨q5,c5,rfl,ahf,_⟩:=yM iX)
   | (go_at_call 94;refine(aug q5 c5 (ou d a) k _ ahf hpl.out).mono ?_;rintro e w6 ⟨he6,xk,xr,rfl⟩)
   | (refine aU rfl 37 (.tmp 16) (.tmp 91) rfl _ #[.string ⟨xk.toArray⟩,.string ⟨xr.toArray⟩] rfl rfl _ _ (ah.new w6 _) fE rfl (nU xk xr) ?_;intro w7 Hf xm))
  have rM:Ext w4 w7:=(jD.trans he6).trans (xm.ext (Ext.alloc _ _) (aH _));have h7:=h4.more rM;have ha7:=ye.ext rM;have ox:=ag (And.intro (oG.out.1.ext rM) (oG.out.2.ext rM));clear h4 ye oG ahe jD he6 Hf xm iX ahf rM hpl;have e1:=ah.val h7.hd 1 _ rfl;have l1:=ah.lt h7.hd;refine eR 6 (Ext.refl w7) aj aj aj ?_;simp only[cY,eF,gj,dV,dP,gC,dh,dQ];repeat (first
   | (refine pI ?_)
   | (refine fR ?_)
   | (apply bT rfl
      ·intro a w' he hr K hK;simp[Reads,Oper.looksAt,Op.operands,Call.operands,aJ,Is] at hr;have hx:=he.cell;go_simp;try go_bits
       try(rw[aA af];go_simp)
       first
        | exact hK _ (Ext.refl _)
        | (refine(zG.out _).mono ?_;rintro e w'' ⟨rfl,rfl⟩;exact hK _ (Ext.refl _))
      simp only[bZ,bG,bN])
   | (refine fk ?_))
  intro w2 l;repeat (first | with_reducible refine cH _ _ _ _ ?_ | (with_reducible refine cI _ _ _ _ ?_;intro _ _) | with_reducible refine cJ _ _ ?_)
  simp only[cF,cK,bQ,bE];have h8:=h7.more l;have ha8:=ha7.ext l;have VJ:=ag (And.intro (ox.out.1.ext l) (ox.out.2.ext l));have l8:=ah.lt h8.hd;have f8:=ah.free h8.hd 1;have e8:=ah.val h8.hd 1 _ rfl;clear h7 ha7 ox e1 l1 l;go_upto_region 15 with(fail);have h9:=h8.set (h':=hA) 1 (.int .i64 (h.count+Y)) HA.out;have cg:=aI.setCell (w:=w2) (g:=w.heap.size) (i:=1) (v:=.int .i64 (h.count+Y));have xF:=cg.blk ha8 af;have VK:=VJ.out.1.lE h8.hd aq aq aq cg;have ahj:=ag (Jn VJ.out.2 af cg);have ahk:=ag (VA.out _ _ _ _ _ VK);have HV9:=ag VK;clear h8 ha8 VJ l8 f8 e8 VA VK cg zG;generalize w2.setCell ⟨w.heap.size,1,none⟩ (.int .i64 (h.count+Y))=w9 at *;go_upto_region 16 with(first
   | (refine bu (o:=⟨some 101,_,_,_,_,_⟩) rfl (.tmp 6) rfl _ rfl d h9.ds ?_)
   | (refine bz (o:=⟨some 102,_,_,_,_,_⟩) rfl 109 (.tmp 15) rfl _ rfl _ _ _ xF cL rfl aZ ?_)
   | (go_at_call 96;refine ahk.out.mono ?_;rintro e tj ⟨Es,q2,c2,p2,m2,rfl,ahm⟩)
   | (refine aU rfl 109 (.tmp 18) (.tmp 105) rfl _ (bn b q2 c2 p2 m2) rfl rfl _ _ (ah.new tj _) aZ rfl (mE ..) ?_;intro DB ahn aho))
  have Et:Ext tj DB:=aho.ext (Ext.alloc _ _) (aH _);refine aR (fun C=>jq w hA d C/\eS C yb a q1 c1 p1 m1/\cX C a q1 c1 p1 m1/\Ints C (some ⟨gp,jf,none⟩) P/\eS C tj.heap.size b q2 c2 p2 m2/\w.heap.size<tj.heap.size/\cX C b q2 c2 p2 m2) ⟨(h9.more Es).more Et,Et.blk _ _ (Es.blk _ _ xF),(HV9.out.ext Es).ext Et,(ahj.out.ext Es).ext Et,ahn,by have:=ah.lt (h9.more Es).z;omega,ahm.ext Et⟩ ?_;clear h9 xF HV9 ahj ahk Es ahm ahn aho Et;clear DB;generalize tj.heap.size=yb2;rintro C ⟨B,Eu,ahp,ahq,Ju,avT,ahr⟩;have Ev:=ag (And.intro ahp (And.intro ahq ahr));clear ahp ahq ahr
 ·have F:=ag (And.intro Ev.out.1 Ev.out.2.1);clear Ju Ev avT zF Ov HpH Jr;go_upto_region 20 with(fail);have e2:C.cell? ⟨w.heap.size,2,none⟩=some (.int .i64 h.fin):=by rw[<-St.out];exact ah.val B.hd 2 _ rfl
  have d8:=ah.val B.ds 8 _ rfl;have l2:=ah.lt B.hd;have l8:=ah.lt B.ds;have g2:=ah.free B.hd 2;go_upto_region 22 with(fail);have t:=B.set (h':=hB) 2 (.int .i64 f2) HB.out;have cg:=aI.setCell (w:=C) (g:=w.heap.size) (i:=2) (v:=.int .i64 f2);have N:=cg.blk Eu af;have Jv:=ag (And.intro (F.out.1.lE B.hd aq aq aq cg) (Jn F.out.2 af cg));clear B Eu F e2 d8 l2 l8 g2 cg;generalize C.setCell ⟨w.heap.size,2,none⟩ (.int .i64 f2)=Mp at *;have e2:Mp.cell? ⟨w.heap.size,2,none⟩=some (.int .i64 f2):=by rw[<-avK.out];exact ah.val t.hd 2 _ rfl
  have l2:=ah.lt t.hd;go_upto_region 24 with(fail);clear e2 l2;have ahs:=ag (xI.out _ _ _ _ _ Jv.out.1);go_upto_region 25 with(first
   | (refine bu (o:=⟨some 145,_,_,_,_,_⟩) rfl (.tmp 6) rfl _ rfl d t.ds ?_)
   | (refine bz (o:=⟨some 146,_,_,_,_,_⟩) rfl 109 (.tmp 15) rfl _ rfl _ _ _ N cL rfl aZ ?_)
   | (go_at_call 97;refine ahs.out.mono ?_;rintro e Ew ⟨u,q3,c3,p3,m3,q4,c4,p4,m4,rfl,hvl,hvr⟩)
   | (refine aU rfl 109 (.tmp 24) (.tmp 149) rfl _ (bn lA q3 c3 p3 m3) rfl rfl _ _ ((Ext.alloc _ _).blk _ _ (ah.new Ew _)) aZ rfl (mE ..) ?_;intro w15 ahv VL)
   | (refine aU rfl 109 (.tmp 25) (.tmp 150) rfl _ (bn rA q4 c4 p4 m4) rfl rfl _ _ (VL.blk (ah.new1 _ _ _ av) af) aZ rfl (mE ..) ?_;intro w16 ahx Ey))
  have ahy:=VL.ext ((Ext.alloc Ew _).trans (Ext.alloc _ _)) (aH _);have V:=Ey.ext ahy af;have ahz:=ah.lt (u.blk _ _ N);have avU:=ah.lt (t.more u).z;refine aR (fun W=>oX w hB d yb Ew.heap.size gp jf P a lA rA q1 c1 p1 m1 q3 c3 p3 m3 q4 c4 p4 m4 W)
   ⟨(t.more u).more V,V.blk _ _ (u.blk _ _ N),(Jv.out.1.ext u).ext V,Ey.blk ahv af,hvl.ext V,ahx,hvr.ext V,(Jv.out.2.ext u).ext V,Em,avO,ahz,by
     rcases Jv.out.2.ext u with h | ⟨b9,o9,e9,h9,_⟩
     ·have:=gP List.length h;rw[kF,avP.out] at this;cases this
     ·cases e9;exact h9⟩ ?_
  clear ahs xI t N Jv u hvl hvr ahv VL ahx Ey ahy V ahz avU;clear w15 w16;generalize Ew.heap.size=yl at *;clear Ew;clear Mp;intro w17 j;have VM:=j.aa.cells.2.2.2.2.1;have la:=ah.lt j.aa;go_upto_region 26 with(fail);clear VM la;cases hbl:bl k mid
  case' true=>
   have e9:=Oy.out;rw[hbl,aC rfl] at e9;simp only[jZ] at e9;obtain⟨e1,e2⟩:=e9;rw[e2] at j;have Oz:=ag (Eo.out _ _ _ _ _ j.vl);unfold U5 at Oz;rw[e1] at Oz;clear e1 e2 Oy Eo AL;generalize(lU d lA r).2=fl at *;go_upto_region 29 with(first
    | (refine bu (o:=⟨some 160,_,_,_,_,_⟩) rfl (.tmp 6) rfl _ rfl d j.ad.ds ?_)
    | (refine bz (o:=⟨some 161,_,_,_,_,_⟩) rfl 109 (.tmp 24) rfl _ rfl _ _ _ j.al cL rfl aZ ?_)
    | (go_at_call 96;refine Oz.out.mono ?_;rintro e w18 ⟨T,q5,c5,p5,m5,rfl,Jw⟩)
    | (refine aU rfl 109 (.tmp 24) (.tmp 164) rfl _ (bn x1 q5 c5 p5 m5) rfl rfl _ _ (j.al.ext T) aZ rfl (mE ..) ?_;intro Ez Jy Jz))
   obtain⟨qa,ca,pa,ma,qb,cb,pb,mb,J⟩:∃qa ca pa ma qb cb pb mb,oX w hB d yb yl gp jf P a x1 x2 q1 c1 p1 m1 qa ca pa ma qb cb pb mb Ez:=⟨_,_,_,_,_,_,_,_,(j.more T).left Jy Jw Jz⟩;clear Jy Jw Jz T Oz
  case' false=>
   have e9:=Oy.out;rw[hbl,aA aq] at e9;simp only[jZ] at e9;obtain⟨e1,e2⟩:=e9;rw[e1] at j;have OA:=ag (AL.out _ _ _ _ _ j.vr);unfold U5 at OA;rw[e2] at OA;clear e1 e2 Oy Eo AL;generalize(lU d rA r).2=fl at *;go_upto_region 29 with(first
    | (refine bu (o:=⟨some 168,_,_,_,_,_⟩) rfl (.tmp 6) rfl _ rfl d j.ad.ds ?_)
    | (refine bz (o:=⟨some 169,_,_,_,_,_⟩) rfl 109 (.tmp 25) rfl _ rfl _ _ _ j.ar cL rfl aZ ?_)
    | (go_at_call 96;refine OA.out.mono ?_;rintro e w18 ⟨T,q5,c5,p5,m5,rfl,Jw⟩)
    | (refine aU rfl 109 (.tmp 25) (.tmp 172) rfl _ (bn x2 q5 c5 p5 m5) rfl rfl _ _ (j.ar.ext T) aZ rfl (mE ..) ?_;intro Ez Jy Jz))
   obtain⟨qa,ca,pa,ma,qb,cb,pb,mb,J⟩:∃qa ca pa ma qb cb pb mb,oX w hB d yb yl gp jf P a x1 x2 q1 c1 p1 m1 qa ca pa ma qb cb pb mb Ez:=⟨_,_,_,_,_,_,_,_,(j.more T).right Jy Jw Jz⟩;clear Jy Jw Jz T OA
  all_goals
   clear j hbl w18 w17;have e5:Ez.cell? ⟨w.heap.size,5,none⟩=some (.int .i64 h.splits):=by rw[<-avL.out];exact ah.val J.ad.hd 5 _ rfl
   have e6:Ez.cell? ⟨w.heap.size,6,none⟩=some (.int .i64 h.kG):=by rw[<-avM.out];exact ah.val J.ad.hd 6 _ rfl
   have el4:=J.al.cells.2.2.2.2.1;have er4:=J.ar.cells.2.2.2.2.1;have ll:=ah.lt J.al;have lr:=ah.lt J.ar;have lh:=ah.lt J.ad.hd;refine Pre.kH 19 [(17,[(0,175)])] (J.ad.ext) aj aj aj aj aj aj (rL _ _ 17 0 175 (Below w.heap.size) (fun _ W=>oX w hC d yb yl gp jf P a x1 x2 q1 c1 p1 m1 qa ca pa ma qb cb pb mb W) (fun _ _ h=>h) (fun _ _ _ he h=>h.more he) aj) (avz (S:=fun W=>Ext Ez W) (fun _ _ e h=>h.trans e)) (fun _ _=>Ext.refl _) ?_;simp only[cY,eF,gj,dV,dP,gC,dh,dQ];repeat (first
    | (refine Pre.dF (o:=⟨some 186,_,_,_,_,_⟩) (v:=.int .i64 cS) (fun k v=>Pre.iF.is _ _ _ _ k v) aj aP ?_ ?_
       ·intro a' w' he0 hp hr K' hK;simp[Reads,Oper.looksAt,Op.operands,Call.operands,aJ,Is] at hr;go_simp;refine(avI.out _ (by first | rfl | exact decide_eq_decide.2 af) _).mono ?_;rintro e w'' ⟨rfl,rfl⟩;exact hK _ (Ext.refl _)
       refine aE ?_)
    | (refine Pre.dF (o:=⟨some 190,_,_,_,_,_⟩) (v:=.int .i64 (h.kG+1)) (fun k v=>Pre.iF.is _ _ _ _ k v) aj aP ?_ ?_
       ·exact Yr
       refine aE ?_)
    | (refine Pre.dF (o:=⟨some 192,_,_,_,_,_⟩) (v:=.pointer (some ⟨w.heap.size,6,none⟩)) (fun k v=>Pre.iF.is _ _ _ _ k v) aj aP ?_ ?_
       ·exact Yr
       refine aE ?_)
    | (refine Pre.iU (o:=⟨none,_,_,_,_,_⟩) Any Any.ay (fun x hx=>.inr fun _ _ _ _ _=>trivial) aj aP ?_ ?_
       ·intro a' w' he0 hp hr K' hK;have he:=hp 17 aj aj;have hF:=J.more he;have hx:=hr 191 bO;have hy:=hr 187 bO;refine avy 3 (.tmp 191) (.tmp 187) rfl w.heap.size 5 (h.splits+cS) _ hx hy avA (ah.val hF.ad.hd 5 _ rfl) (ah.free hF.ad.hd 5) ?_;exact hK _ _ (avB (aI.setCell) (aH _)) trivial (fun x hx _ y hy=>by simp at hx;subst hx;simp at hy;subst hy;exact hF.set 5 _ HC.out)
       refine aE ?_)
    | (refine CB ?_)
    | (apply Pre.dF (fun k v=>Pre.iF.is _ _ _ _ k v) aj aP
       ·intro a w' he0 hp hr K hK;have he:=(hp 17) aj aj;exact zY
       simp only[bZ,bG,bN]))
   intro w2 l;simp only[iJ,iQ,jS,kW,bG,bN];repeat (first | with_reducible refine cH _ _ _ _ ?_ | (with_reducible refine cI _ _ _ _ ?_;intro _ _) | with_reducible refine cJ _ _ ?_)
   simp only[cF,cK,bQ,bE];rename_i aA1 JA;clear J e5 e6 el4 er4 ll lr lh l;have e6:=ah.val JA.ad.hd 6 _ rfl;have l6:=ah.lt JA.ad.hd;have g6:=ah.free JA.ad.hd 6;go_upto_region 30 with(fail);have Ca:=JA.set (h':=hD) 6 (.int .i64 (h.kG+1)) HDD.out;clear JA e6 l6 g6;generalize w2.setCell ⟨w.heap.size,6,none⟩ (.int .i64 (h.kG+1))=w20 at *;have HAd:=ag (HAdd.out n1 _ cp w20 nM.symm (Hs.out.ext Ca.ad.ext) Ca.path);go_upto_region 33 with(first
    | (refine bz (o:=⟨some 195,_,_,_,_,_⟩) rfl 30 (.tmp 5) rfl _ rfl _ _ _ Ca.ad.hd fH rfl dg ?_)
    | (refine bu (o:=⟨some 196,_,_,_,_,_⟩) rfl (.tmp 6) rfl _ rfl d Ca.ad.ds ?_)
    | (go_at_call 98;refine HAd.out.mono ?_;rintro e JB ⟨VN,q6,c6,rfl,nJ⟩)
    | (refine aU rfl 30 (.tmp 29) (.tmp 201) rfl _ (aK g') rfl rfl _ _ (ah.new JB _) dg rfl cT ?_;intro w22 ahE ahF))
   have VO:Ext JB w22:=ahF.ext (Ext.alloc _ _) (aH _);have G:=Ca.more (VN.trans VO);have ahG:=ag ((gh nJ).1.ext VO);have hlg:w.heap.size+1+1<JB.heap.size:=by have:=ah.lt (Ca.more VN).ad.z;omega
   generalize JB.heap.size=yg at *;clear Ca HAd HAdd VN VO nJ ahF;clear w20 JB;have ahH:=ag (xN.out _ _ _ _ _ _ _ _ _ G.va G.vl);go_upto_region 34 with(first
    | ((with_reducible refine aW 209 ?_);refine bu rfl (.tmp 6) rfl _ rfl d G.ad.ds ?_)
    | ((with_reducible refine aW 210 ?_);refine bz rfl 109 (.tmp 15) rfl _ rfl _ _ _ G.aa cL rfl aZ ?_)
    | ((with_reducible refine aW 211 ?_);refine bz rfl 109 (.tmp 24) rfl _ rfl _ _ _ G.al cL rfl aZ ?_)
    | (go_at_call 92;refine ahH.out.mono ?_;rintro e w23 ⟨OB,q7,c7,rfl,Cb⟩))
   have JC:=G.more OB;have ahI:=OB.blk _ _ ahE;have VP:=ag (And.intro (ahG.out.ext OB) Cb);have ahJ:=ag (vG.out _ _ _ _ _ JC.vr);clear G ahE ahG Cb OB ahH xN vG;clear w22;go_upto_region 35 with(first
    | ((with_reducible refine aW 216 ?_);refine bu rfl (.tmp 6) rfl _ rfl d JC.ad.ds ?_)
    | ((with_reducible refine aW 217 ?_);refine bz rfl 109 (.tmp 25) rfl _ rfl _ _ _ JC.ar cL rfl aZ ?_)
    | (go_at_call 58;refine ahJ.out.mono ?_;rintro e EB ⟨JD,v8,rfl,gG⟩;obtain⟨q8,c8,rfl⟩:=cE gG))
   have ahK:=(JC.more JD).ad;have ahL:=JD.blk _ _ ahI;have OC:=ag (And.intro (Vd (VP.out.2.ext JD)) (And.intro (gh gG).1 (VP.out.1.ext JD)));clear JC ahI VP ahJ JD gG;clear w23;have hlx:=VH.out;have hly:=VI.out;have hlW:=HlW.out;have VQ:=ag (rP Z);have HyL:=ag (rP yW);have HwL:=ag (show(ck (dB W)).length=W.length*2 by rw[rP,xK]);go_upto_region 36 with(first
    | (at_builtin;refine qE rfl fun _ hK=>?_;refine rN (.tmp 221) (.tmp 222) 95 133 rfl EB.heap.size (.agg #[.int .i64 0,.string ByteArray.empty]) 2 24 Tryz.underlying95 AJ rfl EB.heap.size rfl (ah.new EB _) (aH _) q7 Z.length c7 (ck Z) rfl VQ.out (fun h0=>zl (OC.out.1.ext (Ext.alloc _ _)) (fun e=>by have:=gP List.length e;rw[VQ.out] at this;simp at this;omega)) af aq (Ext.alloc _ _).size ?_;intro v1 wa jG bU;obtain⟨q31,c31,rfl⟩:=cE jG;have hxa:=(Ext.alloc EB (.cells #[] 133)).trans bU;refine hK _ _ ?_)
    | (at_builtin;refine qE rfl fun _ hK=>?_;refine LR (.tmp 223) (.tmp 224) rfl EB.heap.size _ Z.length (ck Z) rfl jG q8 yW.length c8 (ck yW) rfl HyL.out (OC.out.2.1.ext hxa) (LS _) af hxa.size ?_;intro v2 wb gT qQ;obtain⟨q32,c32,rfl⟩:=cE gT;have JE:=Ext.trans' hxa (Below.ij qQ jG (aH _) hxa.size);refine hK _ _ ?_)
    | (at_builtin;refine qE rfl fun _ hK=>?_;refine LR (.tmp 225) (.tmp 226) rfl EB.heap.size _ (Z.length+yW.length) _ rfl gT q6 W.length c6 (ck (dB W)) rfl HwL.out (OC.out.2.2.ext JE) (LS _) af JE.size ?_;intro v3 wc ni rR;obtain⟨q33,c33,rfl⟩:=cE ni;have VR:=Ext.trans' JE (Below.ij rR gT (aH _) JE.size);refine hK _ _ ?_)
    | (go_at_call 99;refine(HSo.out _ _ _ (zE (L:=Z++yW++dB W) (by rw[EK,EK];exact ni)).1).mono ?_;rintro e w25 ⟨VS,q9,c9,rfl,El⟩))
   have av0:=ahK.more (VR.trans VS);have av1:=(VR.trans VS).blk _ _ ahL;have av2:=ag (HTw.out q9 c9 w25 El);have av3:=ag El;clear ahK ahL OC jG bU hxa gT qQ JE ni rR VR VS El HTw HSo VQ HyL HwL;clear wa wb wc;go_wp2_with(first
    | (go_at_call 100;refine av2.out.mono ?_;rintro e w26 ⟨rfl,VT⟩;have VU:=av0.more VT;have av4:=VT.blk _ _ av1)
    | (refine bz (o:=⟨some 232,_,_,_,_,_⟩) rfl 30 (.tmp 29) rfl _ rfl _ _ _ av4 fH rfl dg ?_)
    | (refine aU rfl 30 (.tmp 8) (.tmp 232) rfl _ (aK g') rfl rfl _ _ VU.z dg rfl cT ?_;intro w27 av5 ahO))
   exact bY (pP Tryz.results62 _ _ _ _ _ _ rfl av5 fH rfl dg) rfl (Js.out _ _ ⟨ahO.ext VU.ext af,q9,c9,rfl,(av3.out.ext VT).oI VU.z aq ahO⟩)
 ·
  have HW:=ag (fun W (e:cX W a q1 c1 p1 m1) (e':cX W b q2 c2 p2 m2)=>zF.out _ _ _ _ _ _ _ _ _ e e');unfold zo at HW;rw[Ov] at HW;clear zF;go_upto_region 17 with(fail);have e5:C.cell? ⟨w.heap.size,5,none⟩=some (.int .i64 h.splits):=by rw[<-MM.out];exact ah.val B.hd 5 _ rfl
  have VM:=Eu.cells.2.2.2.2.1;have eb4:=Ju.cells.2.2.2.2.1;have la:=ah.lt Eu;have lb:=ah.lt Ju;have lh:=ah.lt B.hd;refine eR 11 (Ext.refl C) aj aj aj ?_;simp only[cY,eF,gj,dV,dP,gC,dh,dQ];repeat (first
   | (refine pI ?_)
   | (refine fR ?_)
   | (apply bT rfl
      ·intro a w' he hr K hK;simp[Reads,Oper.looksAt,Op.operands,Call.operands,aJ,Is] at hr;have hx:=he.cell;go_simp;try go_bits
       try(rw[aA af];go_simp)
       first
        | exact hK _ (Ext.refl _)
        | (refine(avH.out _).mono ?_;rintro e w'' ⟨rfl,rfl⟩;exact hK _ (Ext.refl _))
      simp only[bZ,bG,bN])
   | (refine fk ?_))
  intro w2 l;repeat (first | with_reducible refine cH _ _ _ _ ?_ | (with_reducible refine cI _ _ _ _ ?_;intro _ _) | with_reducible refine cJ _ _ ?_)
  simp only[cF,cK,bQ,bE];have t:=B.more l;have N:=l.blk _ _ Eu;have ahP:=l.blk _ _ Ju;have F:=ag (And.intro (Ev.out.1.ext l) (Ev.out.2.2.ext l));have l13:=ah.lt t.hd;have f13:=ah.free t.hd 5;have e13:=ah.val t.hd 5 _ rfl;clear B Eu Ju Ev e5 VM eb4 la lb lh l;go_upto_region 18 with(fail);have OD:=t.set (h':=gE) 5 (.int .i64 (h.splits+cS)) HgE.out;have cg:=aI.setCell (w:=w2) (g:=w.heap.size) (i:=5) (v:=.int .i64 (h.splits+cS));have av9:=cg.blk N af;have awa:=cg.blk ahP af;have awb:=ag (HW.out _ (F.out.1.lE t.hd aq aq aq cg) (F.out.2.lE t.hd aq aq aq cg));clear t N ahP F l13 f13 e13 HW cg;generalize w2.setCell ⟨w.heap.size,5,none⟩ (.int .i64 (h.splits+cS))=Ew at *;go_wp2_with(first
   | ((with_reducible refine aW 122 ?_);refine bu rfl (.tmp 6) rfl _ rfl d OD.ds ?_)
   | ((with_reducible refine aW 123 ?_);refine bz rfl 109 (.tmp 15) rfl _ rfl _ _ _ av9 cL rfl aZ ?_)
   | ((with_reducible refine aW 124 ?_);refine bz rfl 109 (.tmp 18) rfl _ rfl _ _ _ awa cL rfl aZ ?_)
   | (go_at_call 92;refine awb.out.mono ?_;rintro e w15 ⟨awc,q7,c7,rfl,Cb⟩;have Ep:=OD.more awc)
   | ((with_reducible refine aW 128 ?_);refine bz rfl 30 (.tmp 5) rfl _ rfl _ _ _ Ep.hd fH rfl dg ?_)
   | (refine aU rfl 30 (.tmp 8) (.tmp 128) rfl _ (aK gE) rfl rfl _ _ Ep.z dg rfl cT ?_;intro w16 awd Ey))
  exact bY (pP Tryz.results62 _ _ _ _ _ _ rfl awd fH rfl dg) rfl (Js.out _ _ ⟨Ey.ext Ep.ext af,q7,c7,rfl,Cb.oI Ep.z aq Ey⟩)
end Go.Proofs.YteninnkbmoimgaaGreatDoor

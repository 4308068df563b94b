/- A part of the proof. -/
import Derived.Test.YteninnkbmoimgaaGreatDoorRB3
import Derived.Test.YteninnkbmoimgaaGreatDoorQE
set_option linter.unusedSimpArgs false
set_option linter.unusedVariables false
set_option maxRecDepth 100000
set_option maxHeartbeats 16000000
namespace Go.Proofs.YteninnkbmoimgaaGreatDoor
open Go.RowKit aD
structure VY (M:List (List UInt8)) (d:DS) (S:List aQ) (n:Nat) (x:oL) (g:Hd) (all:List Wr) (z:Int):Prop where
 yes:z=0->all.length<=100/\∃S' y8,dL (fV M all) d g S' y8 (n+1)/\(x.2=false->cV d x.1=true->aT S'=cw d x.1 (aT S))
 no:z≠0->x.2=false->cV d x.1=false
def tF (g:Hd) (b:List Wr) (z:Int) (w:World) (e:Ending) (w':World):Prop:=
 Ext w w'/\∃q c,e=.returned (.tuple #[.agg (aK g),.slice q b.length c,.int .i64 z])/\iC w' q b
theorem tF.no {z:Int} {w:World} {e:Ending} {w':World} (h:BZ z w e w'):tF ⟨0,0,0,0,0,0,0⟩ [] z w e w':=⟨h.1,none,0,h.2,.inl rfl⟩
theorem tF.yes {g:Hd} {L:List Wr} {w:World} {e:Ending} {w':World} (h:uH g L w e w'):tF g L 0 w e w':=by
 obtain⟨f,q,c,b,d⟩:=h;exact⟨f,q,c,b,d⟩
section
variable {M:List (List UInt8)} {d:DS} {h:Hd} {S:List aQ} {dn:List Int} {n:Nat} (K:dL M d h S dn n) (tq:n<100)
include K tq
theorem awo (r:List UInt8):∃g j z,VY M d S n (r,false) g j z/\∀(p:Option Addr) (f m:Nat) (w:World),bk w p M->M.length=m->
 Calls Tryz.prog 62 #[.slice p m f,.agg (aK h),.agg (az d),.string ⟨r.toArray⟩] w (tF g j z w):=by
 cases hr:cV d r with
 | false=>exact⟨⟨0,0,0,0,0,0,0⟩,[],2,⟨fun h=>absurd h aq,fun _ _=>hr⟩,fun p f m w _ _=>(avC K r hr p f m w).mono fun _ _ h=>tF.no h⟩
 | true=>
   obtain⟨_,pre,s,post,rfl,l,t,u⟩:=K.k.at (ax d r);have I:=K.k.inv s av;have P:=DZ I hr;cases hp:(lU d s.2 r).2 with
   | true=>
     obtain⟨k1,k2⟩:=K.room tq hr t u (b:=(lU d s.2 r).1) (by rw[<-hp]);refine⟨_,_,0,⟨fun _=>⟨fN (CF I.spec P.inv.spec).1 aq,_,_,k1,fun _ _=>k2⟩,fun h=>absurd rfl h⟩,fun p f m w D C=>(agX K tq r hr l t u p f m w D C).mono ?_⟩;rintro e w' (⟨_,h⟩ | ⟨h,_⟩)
     ·exact tF.yes h
     ·rw[hp] at h;cases h
   | false=>
     have J:=(P.no hp).2;obtain⟨G,N,E,Y,V,q⟩:=K.full tq hr t u J rfl;obtain⟨L,B⟩:=V (dB (fZ d s.2 (uB d s.2 (h.fin+1) r).1++gQ d (uB d s.2 (h.fin+1) r).2++dB G)) ((Bx _).trans ((Bx G).append_left _));have H:=K.fin;have O:=K.xx;have R:=K.zu;have X:=K.n0;obtain⟨Z,b2⟩:=K.k.base s av;have i:eX (h.fin+1)=true:=by
      exact Ky
     have F:=Nn I hr i J;have l1:=(CF I.spec F.il.spec).1;have l2:=(TU F.ir.spec).1;have l3:=E.len;obtain⟨T,U⟩:=K.height;refine⟨N,_,0,⟨fun _=>⟨?_,_,_,B,fun _ _=>q⟩,fun h=>absurd rfl h⟩,fun p f m w D C=>(agX K tq r hr l t u p f m w D C).mono ?_⟩
     ·rw[xK,ew,ew,xK];omega
     ·rintro e w' (⟨h,_⟩ | ⟨_,W,g',A,h⟩)
      ·rw[hp] at h;cases h
      ·have y:=A.go;rw[E.go] at y;simp only[jZ,kD] at y;obtain⟨rfl,rfl⟩:=y;exact tF.yes h
theorem awp (k:List UInt8) (r:List UInt8):∃g i z,VY M d S n (r,true) g i z/\∀(p:Option Addr) (f m:Nat) (w:World),bk w p M->M.length=m->
 Calls Tryz.prog 60 #[.slice p m f,.agg (aK h),.agg (az d),.string ⟨k.toArray⟩] w (tF g i z w):=by
 obtain⟨_,pre,s,post,rfl,j,q,t⟩:=K.k.at k;have I:=K.k.inv s av;have P:=Ue (k:=k) I;cases hp:(qf d s.2 k).2 with
 | true=>
   obtain⟨k1,k2⟩:=K.gone tq q (b:=(qf d s.2 k).1) (by rw[<-hp]);refine⟨_,_,0,⟨fun _=>⟨fN (CF I.spec P.inv.spec).1 aq,_,_,k1,(fun e=>by cases e)⟩,fun h=>absurd rfl h⟩,fun p f m w o l=>(ahQ K k j p f m w o l).mono ?_⟩;rintro e w' (⟨_,h⟩ | ⟨h,_⟩)
   ·exact tF.yes h
   ·rw[hp] at h;cases h
 | false=>
   refine⟨⟨0,0,0,0,0,0,0⟩,[],6,⟨fun h=>absurd h aq,(fun _ e=>by cases e)⟩,fun p f m w o l=>(ahQ K k j p f m w o l).mono ?_⟩;rintro e w' (⟨h,_⟩ | ⟨_,h⟩)
   ·rw[hp] at h;cases h
   ·exact tF.no h
end
theorem ah1:Tryz.prog.underlying 73=some (.struct (Tryz.prog.fieldsOf 73)):=aj
theorem ah2:(Tryz.prog.info? 73).map (·.size)=some 2:=aj
structure JG (w:World) (h:Hd) (d:DS) (r:List UInt8) (er:Bool) (W:World):Prop where
 ext:Ext w W
 hd:fG W w.heap.size h
 ds:bI W (w.heap.size+1) d
 op:ah W (w.heap.size+1+1) (.cells #[.string ⟨r.toArray⟩,.bool er] 73)
 z:ah W (w.heap.size+1+1+1) (.cells #[.int .i64 0,.int .i64 0,.int .i64 0,.int .i64 0,.int .i64 0,.int .i64 0,.int .i64 0] 30)
theorem JG.more {w:World} {h:Hd} {d:DS} {r:List UInt8} {b:Bool} {f g:World} (k:JG w h d r b f) (e:Ext f g):JG w h d r b g:=⟨k.ext.trans e,k.hd.ext e,k.ds.ext e,e.blk _ _ k.op,e.blk _ _ k.z⟩
theorem ah3 (w:World) (h:Hd) (d:DS) (r:List UInt8) (b:Bool):JG w h d r b ((((w.alloc (.cells (aK h) 30)).alloc (.cells (az d) 23)).alloc (.cells #[.string ⟨r.toArray⟩,.bool b] 73)).alloc (.cells #[.int .i64 0,.int .i64 0,.int .i64 0,.int .i64 0,.int .i64 0,.int .i64 0,.int .i64 0] 30)):=by
 have y:=ah.new w (.cells (aK h) 30);have z:=Ext.alloc w (.cells (aK h) 30);have j:(w.alloc (.cells (aK h) 30)).heap.size=w.heap.size+1:=av;generalize w.alloc (.cells (aK h) 30)=e at *;have l:=ah.new e (.cells (az d) 23);have q:=Ext.alloc e (.cells (az d) 23);have t:(e.alloc (.cells (az d) 23)).heap.size=e.heap.size+1:=av;generalize e.alloc (.cells (az d) 23)=f at *;have m:=ah.new f (.cells #[.string ⟨r.toArray⟩,.bool b] 73);have i:=Ext.alloc f (.cells #[.string ⟨r.toArray⟩,.bool b] 73);have B:(f.alloc (.cells #[.string ⟨r.toArray⟩,.bool b] 73)).heap.size=f.heap.size+1:=av;generalize f.alloc (.cells #[.string ⟨r.toArray⟩,.bool b] 73)=u at *;have o:=ah.new u (.cells #[.int .i64 0,.int .i64 0,.int .i64 0,.int .i64 0,.int .i64 0,.int .i64 0,.int .i64 0] 30);have g:=Ext.alloc u (.cells #[.int .i64 0,.int .i64 0,.int .i64 0,.int .i64 0,.int .i64 0,.int .i64 0,.int .i64 0] 30);rw[B,t,j] at o;rw[t,j] at m;rw[j] at l;exact⟨((z.trans q).trans i).trans g,((q.trans i).trans g).blk _ _ y,(i.trans g).blk _ _ l,g.blk _ _ m,o⟩
structure VZ where
 h:Hd
 w:List Wr
 e:Int
def tW (R:VZ):Fact:=fun x w=>∃q c,x=.tuple #[.agg #[.int .i64 R.h.applied,.int .i64 R.h.count,.int .i64 R.h.fin,.int .i64 R.h.root,.int .i64 R.h.height,.int .i64 R.h.splits,.int .i64 R.h.kG],.slice q R.w.length c,.int .i64 R.e]/\iC w q R.w
theorem tW.ay (R:VZ):(tW R).ay:=fun _ _ _ f ⟨q,c,b,e⟩=>⟨q,c,b,e.ext f⟩
theorem tW.bP (R:VZ) (K:dR) (B:Nat) (t:TypeId) (b:133≠t):(tW R).bP K (fun _=>j4 B t):=fun _ _ _ _ _ c ⟨q,e,f,g⟩=>⟨q,e,f,g.Gh b c⟩
theorem awq {M:List (List UInt8)} {d:DS} {h:Hd} {S:List aQ} {dn:List Int} {n:Nat} (K:dL M d h S dn n) (tq:n<100) (x:oL):∃g f z,VY M d S n x g f z/\∀(p:Option Addr) (u m:Nat) (w:World),bk w p M->M.length=m->
 Calls Tryz.prog 42 #[.slice p m u,.agg (aK h),.agg (az d),.agg #[.string ⟨x.1.toArray⟩,.bool x.2]] w (tF g f z w):=by
 obtain⟨r,C⟩:=x;have B:=ag (fun s C W=>anX d s C K.k.tree.keyed W);cases C
 case' false=>obtain⟨g,f,z,F,t⟩:=awo K tq r
 case' true=>obtain⟨g,f,z,F,t⟩:=awp K tq (Dl d r) r
 all_goals
  refine⟨g,f,z,F,fun p u m w T R=>?_⟩;have t:=ag t;have O:=ag T;have N:=ag R;clear T R F K
 case' false=>have j:=ah3 w h d r false
 case' true=>have j:=ah3 w h d r true
 all_goals
  go_enter Tryz.func42,Tryz.ntmps42;go_upto_region 1 with(fail);refine aR (JG w h d r _) j ?_;clear j;intro U j;have c1:=ah.val j.op 1 _ rfl;have Z:=ah.val j.op 0 _ rfl;have lo:=ah.lt j.op;have H0:=ag j
 ·go_upto_region 2 with(fail);refine eR 10 (Ext.refl U) aj aj aj ?_;refine gV ?_;repeat (first
   | (refine pI ?_)
   | (refine fR ?_)
   | (apply bT rfl
      ·intro a w' he hr K hK;simp[Reads,Oper.looksAt,Op.operands,Call.operands,aJ,Is] at hr;have hx:=he.cell;go_simp;try go_bits
       try(rw[aA af];go_simp)
       first
        | exact hK _ (Ext.refl _)
        | (refine(B.out _ _ _).mono ?_;rintro e L ⟨rfl,y⟩;exact hK _ y)
      simp only[bZ,bG,bN])
   | (refine bT (o:=⟨some 14,_,_,_,_,_⟩) (v:=.agg (aK h)) rfl ?_ ?_
      ·intro a w' he hr K hK;simp[Reads,Oper.looksAt,Op.operands,aJ,Is] at hr;exact eG 30 (.tmp 5) rfl (w.heap.size) dX _ _ _ _ (he.blk _ _ H0.out.hd) fH rfl dg (hK _ (Ext.refl _))
      refine aE ?_)
   | (refine bT (o:=⟨some 15,_,_,_,_,_⟩) (v:=.agg (az d)) rfl ?_ ?_
      ·exact X9
      refine aE ?_)
   | (refine bT (o:=⟨some 16,_,_,_,_,_⟩) (v:=.agg (az d)) rfl ?_ ?_
      ·exact X9
      refine aE ?_)
   | (refine bT (o:=⟨some 17,_,_,_,_,_⟩) (v:=.agg #[.string ⟨r.toArray⟩,.bool true]) rfl ?_ ?_
      ·intro a w' he hr K hK;simp[Reads,Oper.looksAt,Op.operands,aJ,Is] at hr;exact eG 73 (.tmp 7) rfl (w.heap.size+1+1) dX _ _ _ _ (he.blk _ _ H0.out.op) ah1 rfl ah2 (hK _ (Ext.refl _))
      refine aE ?_)
   | (refine jh (o:=⟨some 19,_,_,_,_,_⟩) (tW ⟨g,f,z⟩) (tW.ay _) rfl ?_ ?_
      ·intro a w' he hr K hK;simp[Reads,Oper.looksAt,Op.operands,Call.operands,aJ,Is] at hr;go_simp;refine((t.out _ _ _ _ (O.out.ext (H0.out.ext.trans he)) N.out)).mono ?_;rintro e L ⟨G,q9,c9,rfl,h9⟩;exact hK _ _ G ⟨q9,c9,rfl,h9⟩
      refine aE ?_)
   | (refine bT (o:=⟨some 20,_,_,_,_,_⟩) (v:=.agg (aK g)) rfl ?_ ?_
      ·intro a w' he hr K hK;obtain⟨q9,c9,h1,h9⟩:=hr 19 bO;exact mO
      refine aE ?_)
   | (refine jh (o:=⟨some 21,_,_,_,_,_⟩) (kO f) (kO.ay _) rfl ?_ ?_
      ·intro a w' he hr K hK;obtain⟨q9,c9,h1,h9⟩:=hr 19 bO;exact uR
      refine aE ?_)
   | (refine bT (o:=⟨some 22,_,_,_,_,_⟩) (v:=.int .i64 z) rfl ?_ ?_
      ·intro a w' he hr K hK;obtain⟨q9,c9,h1,h9⟩:=hr 19 bO;exact mO
      refine aE ?_)
   | (refine fk ?_))
  intro V I;repeat (first | with_reducible refine cH _ _ _ _ ?_ | (with_reducible refine cI _ _ _ _ ?_;intro _ _) | with_reducible refine cJ _ _ ?_)
  simp only[cF,cK,bQ,bE];rename_i X D Y E;obtain⟨q,c,rfl,J⟩:=E;clear D;have h1:=H0.out.more I;go_wp2_with(refine aU rfl 30 (.tmp 8) (.tmp 20) rfl _ (aK g) rfl rfl _ _ h1.z dg rfl cT ?_;intro w3 l i);exact bY (pP Tryz.results42 _ _ _ _ _ _ rfl l fH rfl dg) rfl ⟨i.ext h1.ext af,q,c,rfl,J.oI h1.z aq i⟩
 ·go_wp2_with(first
   | (refine bz (o:=⟨some 24,_,_,_,_,_⟩) rfl 30 (.tmp 5) rfl _ rfl _ _ _ H0.out.hd fH rfl dg ?_)
   | (refine bu (o:=⟨some 25,_,_,_,_,_⟩) rfl (.tmp 6) rfl _ rfl d H0.out.ds ?_)
   | (go_at_call 62;refine(t.out _ _ _ _ (O.out.ext H0.out.ext) N.out).mono ?_;rintro e w1 ⟨H,q,c,rfl,J⟩;have h1:=H0.out.more H)
   | (refine aU rfl 30 (.tmp 8) (.tmp 29) rfl _ (aK g) rfl rfl _ _ h1.z dg rfl cT ?_;intro V l i))
  exact bY (pP Tryz.results42 _ _ _ _ _ _ rfl l fH rfl dg) rfl ⟨i.ext h1.ext af,q,c,rfl,J.oI h1.z aq i⟩
end Go.Proofs.YteninnkbmoimgaaGreatDoor
namespace aD
def Cc (d:DS) (L:List (List UInt8×Bool)):aB:=L.foldl (fun R x=>cw d x.1 R) []
end aD
namespace Go.Proofs.YteninnkbmoimgaaGreatDoor
open Go.RowKit aD
theorem awr (x:Int) (w:World) (u:eX x=true):Calls Tryz.prog 59 #[.int .i64 x] w fun e w'=>Ext w w'/\∃q c p m,e=.returned (.agg (bn (gS x) q c p m))/\cX w' (gS x) q c p m:=by
 unfold eX at u;simp only[eu,gu] at u;obtain⟨E,F⟩:=u;go_enter Tryz.func59,Tryz.ntmps59;go_wp2;have B:=ah.new w (.cells #[.int .i64 x,.int .i64 0,.int .i64 0,.slice (some ⟨w.heap.size+1,0,none⟩) 1 1,.slice (some ⟨w.heap.size+1+1,0,none⟩) 1 1] 109);generalize f:w.alloc (.cells #[.int .i64 x,.int .i64 0,.int .i64 0,.slice (some ⟨w.heap.size+1,0,none⟩) 1 1,.slice (some ⟨w.heap.size+1+1,0,none⟩) 1 1] 109)=l at B;have z:w.heap.size+1=l.heap.size:=by rw[<-f];simp
 have y:Ext w l:=by rw[<-f];exact Ext.alloc _ _
 have r:=ah.new l (.cells #[.string ⟨#[]⟩,.int .i64 (x+1)] 142);generalize g:l.alloc (.cells #[.string ⟨#[]⟩,.int .i64 (x+1)] 142)=o at r;have C:w.heap.size+1+1=o.heap.size:=by rw[<-g,z];simp
 have j:Ext l o:=by rw[<-g];exact Ext.alloc _ _
 have t:=ah.new o (.cells #[.slice none 0 0] 31);have b:=Ext.alloc o (.cells #[.slice none 0 0] 31);generalize o.alloc (.cells #[.slice none 0 0] 31)=G at *;rw[<-C] at t;rw[<-z] at r;exact bY (Si Tryz.results59 _ _ _ _ (bn (gS x) (some ⟨w.heap.size+1,0,none⟩) 1 (some ⟨w.heap.size+1+1,0,none⟩) 1) _ rfl (b.blk _ _ (j.blk _ _ B)) cL rfl aZ) rfl
  ⟨(y.trans j).trans b,_,_,_,_,rfl,n8 (ys:=aV [([],x+1)]) (b.blk _ _ r),⟨[.slice none 0 0],n8 (ys:=[.slice none 0 0]) t,rfl,fun i D=>by
    have:i=0:=by simp[gS] at D;omega
    subst this;exact⟨none,0,rfl,.inl rfl,aH 0,aq,(fun _=>⟨rfl,rfl⟩),gL.nil _ _⟩⟩,aH 1,aH 1,aq,gL.RW (b.blk _ _ r),gL.RW t⟩
def JH (L:List Wr):Fact:=fun x w=>∃q c,x=.tuple #[.slice q L.length c,.int .i64 0]/\iC w q L
theorem JH.ay (L:List Wr):(JH L).ay:=fun _ _ _ f ⟨q,c,b,e⟩=>⟨q,c,b,e.ext f⟩
theorem aws (a b:Int):Tryz.prog.built 30 [(0,.int .i64 a),(3,.int .i64 1),(2,.int .i64 b),(6,.int .i64 1)]=some (aK (⟨a,0,b,1,0,0,1⟩:Hd)):=aj
theorem awt (d:DS) (E:dA d=true) (w:World):
 Calls Tryz.prog 40 #[.agg (az d),.int .i64 0] w fun e w'=>Ext w w'/\∃q c,e=.returned (.tuple #[.agg (aK (qg d)),.slice q (gQ d (gS 1)).length c,.int .i64 0])/\iC w' q (gQ d (gS 1)):=by
 have I:=Rd E (base:=1) aq;have O:=ag (fun W=>Dp d W);rw[E] at O;have V:=ag (fun W=>awr 1 W aq);have F:=ag (fun q c p m W (e:cX W (gS 1) q c p m)=>Ni d (gS 1) q c p m W e.x (lV I.spec).1 (lV I.spec).2.1 (lV I.spec).2.2);have y:sJ d (gS 1)=0:=(IE I.spec I.spec).1;unfold Bs at F;rw[y] at F;obtain⟨z1,z2,z3,z4,z5,z6,z7,z8,z9⟩:=iM E;have hwr:IntKind.i64.wrap (1+d.aN)=1+d.aN:=IntWalk.i64_in _ af;have T:Ext w ((w.alloc (.cells (az d) 23)).alloc (.cells #[.int .i64 0,.int .i64 0,.int .i64 0,.int .i64 0,.int .i64 0,.int .i64 0,.int .i64 0] 30))/\bI ((w.alloc (.cells (az d) 23)).alloc (.cells #[.int .i64 0,.int .i64 0,.int .i64 0,.int .i64 0,.int .i64 0,.int .i64 0,.int .i64 0] 30)) w.heap.size d/\ah ((w.alloc (.cells (az d) 23)).alloc (.cells #[.int .i64 0,.int .i64 0,.int .i64 0,.int .i64 0,.int .i64 0,.int .i64 0,.int .i64 0] 30)) (w.heap.size+1) (.cells #[.int .i64 0,.int .i64 0,.int .i64 0,.int .i64 0,.int .i64 0,.int .i64 0,.int .i64 0] 30):=
  ⟨(Ext.alloc _ _).trans (Ext.alloc _ _),(Ext.alloc _ _).blk _ _ (ah.new w _),ah.new1 _ _ _ av⟩
 clear I y E z1 z2 z3 z4 z5 z6 z7;go_enter Tryz.func40,Tryz.ntmps40;go_upto_region 1 with(fail);refine aR (fun W=>Ext w W/\bI W w.heap.size d/\ah W (w.heap.size+1) (.cells #[.int .i64 0,.int .i64 0,.int .i64 0,.int .i64 0,.int .i64 0,.int .i64 0,.int .i64 0] 30)) T ?_;clear T;rintro w0 ⟨t,g,B⟩;go_upto_region 3 with(first
  | (refine bu (o:=⟨some 9,_,_,_,_,_⟩) rfl (.tmp 2) rfl _ rfl d g ?_)
  | (go_at_call 27;refine(O.out _).mono ?_;rintro e w1 ⟨rfl,f⟩))
 have u:=t.trans f;have i:=g.ext f;have C:=f.blk _ _ B;clear t g B f;refine eR 200 (Ext.refl w1) aj aj aj ?_;simp only[cY,eF,gj,dV,dP,gC,dh,dQ];repeat (first
  | (refine pI ?_)
  | (refine fR ?_)
  | (refine iq ?_)
  | (refine bT (o:=⟨some 22,_,_,_,_,_⟩) (v:=.agg (az d)) rfl ?_ ?_
     ·intro a w' he hr K hK;simp[Reads,Oper.looksAt,Op.operands,aJ,Is] at hr;exact eG 23 (.tmp 2) rfl (w.heap.size) dX _ _ _ _ (he.blk _ _ i) gr rfl gD (hK _ (Ext.refl _))
     refine aE ?_)
  | (refine jh (o:=⟨some 23,_,_,_,_,_⟩) (nN (gS 1)) (nN.ay _) rfl ?_ ?_
     ·intro a w' he hr K hK;simp[Reads,Oper.looksAt,Op.operands,Call.operands,aJ,Is] at hr;go_simp;refine((V.out _)).mono ?_;exact EI
     refine aE ?_)
  | (refine jh (o:=⟨some 24,_,_,_,_,_⟩) (JH (gQ d (gS 1))) (JH.ay _) rfl ?_ ?_
     ·intro a w' he hr K hK;obtain⟨q9,c9,p9,m9,h1,h9⟩:=hr 23 gM;simp[Reads,Oper.looksAt,Op.operands,Call.operands,aJ,Is] at hr;simp at h1;go_simp;refine(F.out _ _ _ _ _ h9).mono ?_;rintro e w'' ⟨he',v,rfl,U⟩;obtain⟨q8,R,rfl⟩:=cE U;exact hK _ _ he' ⟨q8,R,rfl,(zE U).1⟩
     refine aE ?_)
  | (refine uJ _ _ rfl lz rfl (by first | exact JH.ay _ | exact kO.ay _) ?_
     refine nO ?_)
  | (refine jh (o:=⟨some 25,_,_,_,_,_⟩) (kO (gQ d (gS 1))) (kO.ay _) rfl ?_ ?_
     ·intro a w' he hr K hK;obtain⟨q9,c9,h1,h9⟩:=hr 21 bO;exact uR
     refine aE ?_)
  | (refine bT (o:=⟨some 26,_,_,_,_,_⟩) (v:=.int .i64 0) rfl ?_ ?_
     ·intro a w' he hr K hK;obtain⟨q9,c9,h1,h9⟩:=hr 21 bO;exact mO
     refine aE ?_)
  | (refine fk ?_))
 intro w2 j;repeat (first | with_reducible refine cH _ _ _ _ ?_ | (with_reducible refine cI _ _ _ _ ?_;intro _ _) | with_reducible refine cJ _ _ ?_)
 simp only[cF,cK,bQ,bE];rename_i x7 Y x21 G x23 H x24 J x25 L;obtain⟨q3,X,rfl,z⟩:=Y;clear G H J L;have r:=i.ext j;have D:=j.blk _ _ C;have Z:=ag z;clear z;go_upto_region 4 with(fail);have R:=ah.val r 8 _ rfl;have l8:=ah.lt r;clear i C;go_wp2_with(first
  | (refine dW (o:=⟨some 31,_,_,_,_,_⟩) rfl 30 #[(0,.tmp 27),(3,.const (.int .i64 1)),(2,.tmp 30),(6,.const (.int .i64 1))] rfl [(0,.int .i64 0),(3,.int .i64 1),(2,.int .i64 (1+d.aN)),(6,.int .i64 1)] rfl _ (aws 0 (1+d.aN)) ?_)
  | (refine aU rfl 30 (.tmp 4) (.tmp 31) rfl _ (aK (qg d)) rfl rfl _ _ D dg rfl cT ?_;intro w4 N l))
 exact bY (pP Tryz.results40 _ _ _ _ _ _ rfl N fH rfl dg) rfl ⟨l.ext (u.trans j) af,q3,X,rfl,Z.out.oI D aq l⟩
structure ED (w:World) (hb:Nat) (d:DS) (h:Hd) (W:World):Prop where
 ext:Ext w W
 ds:bI W w.heap.size d
 z:ah W (w.heap.size+1) (.cells #[.int .i64 0,.int .i64 0,.int .i64 0,.int .i64 0,.int .i64 0,.int .i64 0,.int .i64 0] 30)
 hd:fG W hb h
theorem ED.more {w:World} {b:Nat} {d:DS} {h:Hd} {f g:World} (k:ED w b d h f) (e:Ext f g):ED w b d h g:=⟨k.ext.trans e,k.ds.ext e,e.blk _ _ k.z,k.hd.ext e⟩
theorem awu {W:World} {b:Nat} (h:ah W b (.cells #[.string ⟨#[]⟩] 9)):bk W (some ⟨b,0,none⟩) [[]]:=
 .inr ⟨b,0,rfl,ah.lt h,fun i hi=>by
  obtain rfl:i=0:=yc;exact ah.val h 0 _ rfl⟩
def V0 (M:List (List UInt8)):List Value:=M.map fun s:List UInt8=>Value.string ⟨s.toArray⟩
def OE (d:DS) (L:List oL) (w:World) (e:Ending) (w':World):Prop:=
 Ext w w'/\∃M h S dn n p c,e=.returned (.tuple #[.agg (aK h),.slice p M.length c])/\bk w' p M/\M.length<=c/\dL M d h S dn n/\((∀x∈L,x.2=false/\cV d x.1=true)->aT S=Cc d L)
theorem ah4 (d:DS) (hd:dA d=true) (pl:Option Addr) (cl:Nat) (L:List oL) (w:World) (hs:mH w pl L) (hL:L.length<=100):
 Calls Tryz.prog 26 #[.agg (az d),.slice pl L.length cl] w (OE d L w):=by
 have Z:=ag (fun W=>awt d hd W);have Hs:=ag hs;have K0:=ag (dL.start hd);have I:=Rd hd (base:=1) aq;have NN:=(TU I.spec).1;have h0:Ext w ((w.alloc (.cells (az d) 23)).alloc (.cells #[.int .i64 0,.int .i64 0,.int .i64 0,.int .i64 0,.int .i64 0,.int .i64 0,.int .i64 0] 30))/\bI ((w.alloc (.cells (az d) 23)).alloc (.cells #[.int .i64 0,.int .i64 0,.int .i64 0,.int .i64 0,.int .i64 0,.int .i64 0,.int .i64 0] 30)) w.heap.size d/\ah ((w.alloc (.cells (az d) 23)).alloc (.cells #[.int .i64 0,.int .i64 0,.int .i64 0,.int .i64 0,.int .i64 0,.int .i64 0,.int .i64 0] 30)) (w.heap.size+1) (.cells #[.int .i64 0,.int .i64 0,.int .i64 0,.int .i64 0,.int .i64 0,.int .i64 0,.int .i64 0] 30):=
  ⟨(Ext.alloc _ _).trans (Ext.alloc _ _),(Ext.alloc _ _).blk _ _ (ah.new w _),ah.new1 _ _ _ av⟩
 clear I hs hd;generalize F:OE d L w=OUT;have NQ:Hid (∀e w',OE d L w e w'->OUT e w'):=ag (fun e w' g=>by rw[<-F];exact g);clear F;go_enter Tryz.func26,Tryz.ntmps26;go_upto_region 1 with(fail);refine aR (fun W=>Ext w W/\bI W w.heap.size d/\ah W (w.heap.size+1) (.cells #[.int .i64 0,.int .i64 0,.int .i64 0,.int .i64 0,.int .i64 0,.int .i64 0,.int .i64 0] 30)) h0 ?_;clear h0;rintro w0 ⟨he0,N,R⟩;go_upto_region 2 with(first
  | (refine bu (o:=⟨some 15,_,_,_,_,_⟩) rfl (.tmp 2) rfl _ rfl d N ?_)
  | (go_at_call 40;refine(Z.out _).mono ?_;rintro e Y ⟨t,q1,c1,rfl,hw1⟩)
  | (refine aU rfl 30 (.tmp 6) (.tmp 17) rfl _ (aK (qg d)) rfl rfl _ _ (ah.new Y _) dg rfl cT ?_;intro B hb2 hc2))
 have f:Ext Y B:=hc2.ext (Ext.alloc _ _) (aH _);have Uo:w.heap.size+1<Y.heap.size:=by have:=ah.lt (t.blk _ _ R);omega
 refine aR (fun W=>ED w Y.heap.size d (qg d) W/\iC W q1 (gQ d (gS 1))) ⟨⟨(he0.trans t).trans f,f.blk _ _ ((t.blk _ _ N)),f.blk _ _ (t.blk _ _ R),hb2⟩,hw1.ext f⟩ ?_;clear he0 N R hb2 hc2 hw1 f;clear B;generalize hhb:Y.heap.size=G at *;clear hhb t Z;clear Y;rintro B ⟨h2,hw2⟩;have H2:=ag h2;have C:=ag (fun W (e:Ext B W) (hm:bk W (some ⟨B.heap.size,0,none⟩) [[]])=>ah5 (some ⟨B.heap.size,0,none⟩) q1 1 1 (gQ d (gS 1)).length c1 [[]] (gQ d (gS 1)) W hm rfl (hw2.ext e) rfl aq af);clear hw2 h2;go_upto_region 3 with(go_at_call 41;refine(C.out _ (Ext.alloc _ _) (awu (ah.new _ _))).mono ?_;rintro e w3 ⟨jc,v3,rfl,u⟩;obtain⟨q3,c3,rfl⟩:=cE u);have vv:=ah.lt H2.out.hd;refine aR (fun W=>ED w G d (qg d) W/\W.ownsRow (G+1) 9 1 (.slice q3 (fV [[]] (gQ d (gS 1))).length c3) (fV [[]] (gQ d (gS 1))).length (V0 (fV [[]] (gQ d (gS 1))))) ⟨H2.out.more ((Ext.alloc _ _).trans jc),fJ u aY⟩ ?_;clear u jc C H2 vv;clear w3;rintro w3 ⟨h3,u⟩;go_upto_region 4 with(fail);go_loopw[9,10] (fun mv iv wr=>∃(i n:Nat) (M:List (List UInt8)) (h:Hd) (S:List aQ) (dn:List Int) (p:Option Addr) (c:Nat),i<=L.length/\n<=i/\iv=.int .i64 i/\mv=.slice p M.length c/\ED w G d h wr/\wr.ownsRow (G+1) 9 1 (.slice p M.length c) M.length (V0 M)/\dL M d h S dn n/\
  Hid ((∀x∈L.take i,x.2=false/\cV d x.1=true)->aT S=Cc d (L.take i))) (fun _ iv _=>L.length-(intOf iv).toNat)
 case atStart=>exact⟨0,0,_,qg d,_,_,q3,c3,bL _,aH _,rfl,rfl,h3,u,K0.out,ag (fun _=>rfl)⟩
 case round=>
  obtain⟨i,n,M,h,S,dn,p,c,hi,hn,rfl,rfl,hB,X,K,HR⟩:=hrel;by_cases m:i<L.length
  ·have gB:(i:Int)<L.length:=af;obtain⟨b,T,rfl,hb1,hc1⟩:=Hs.out.at i m;obtain⟨x,hx⟩:∃x,x=L.getD i ([],false):=⟨_,rfl⟩;have U:=ag hB;have Ho:=ag X;have HK:=ag K;obtain⟨g,j,z,hF,hC⟩:=awq K af x;have rB:=ag (fun W (e:Ext wr W)=>hC p c M.length W (CP (aO X e)) rfl);have Z:=ag hF;have D:=ag (show ∀V,(x.2=false->cV d x.1=true->aT V=cw d x.1 (aT S))->(∀y∈L.take (i+1),y.2=false/\cV d y.1=true)->aT V=Cc d (L.take (i+1)) from fun V h1 h2=>by
    have e1:L.take (i+1)=L.take i++[x]:=by rw[jr m,hx];simp[List.getD,m]
    rw[e1] at h2⊢;obtain⟨h3,h4⟩:=h2 x av;rw[h1 h3 h4,HR.out (fun y hy=>h2 y (oM _ hy))];unfold Cc;rw[List.foldl_append];rfl)
   have BU:=ag (show(x.2=false->cV d x.1=false)->¬(∀y∈L.take (i+1),y.2=false/\cV d y.1=true) from fun h1 h2=>by
    have e1:L.take (i+1)=L.take i++[x]:=by rw[jr m,hx];simp[List.getD,m]
    rw[e1] at h2;obtain⟨h3,h4⟩:=h2 x av;rw[h1 h3] at h4;cases h4)
   have HX:=ag (show w.cell? ⟨b,T+i*2,none⟩=some (.string ⟨x.1.toArray⟩)/\w.cell? ⟨b,T+i*2+1,none⟩=some (.bool x.2) from by rw[hx];exact hc1 i m);have HbW:=ag hb1;have E:=ag m;obtain⟨r,er⟩:=x;clear hB X K hc1 hx HR hb1 hF hC;go_upto_region 6 with(fail);refine kH 200 [(13,[(12,11)])] (Ext.refl wr) aj aj aj aj aj aj (rL _ _ 13 12 11 (j4 wr.heap.size 30) (fS wr.heap.size (.cells (aK g) 30)) (fun _ _ h=>h.below) (fS.ay _ _) aj) ?_;refine gV ?_;repeat (first
    | (refine dY (o:=⟨some 11,_,_,_,_,_⟩) (fS wr.heap.size (.cells #[.int .i64 0,.int .i64 0,.int .i64 0,.int .i64 0,.int .i64 0,.int .i64 0,.int .i64 0] 30)) (fS.ay _ _) PO aj aP ?_ ?_
       ·exact uU
       refine aE ?_)
    | (refine dF (o:=⟨some 35,_,_,_,_,_⟩) (v:=.agg (aK h)) aj aP ?_ ?_
       ·intro a w' he hr K hK;simp[Reads,Oper.looksAt,Op.operands,aJ,Is] at hr;exact eG 30 (.tmp 6) rfl (G) dX _ _ _ _ (he.blk _ _ U.out.hd) fH rfl dg (hK _ (Ext.refl _))
       refine aE ?_)
    | (refine dF (o:=⟨some 36,_,_,_,_,_⟩) (v:=.agg (az d)) aj aP ?_ ?_
       ·intro a w' he hr K hK;simp[Reads,Oper.looksAt,Op.operands,aJ,Is] at hr;exact eG 23 (.tmp 2) rfl (w.heap.size) dX _ _ _ _ (he.blk _ _ U.out.ds) gr rfl gD (hK _ (Ext.refl _))
       refine aE ?_)
    | (refine dF (o:=⟨some 40,_,_,_,_,_⟩) (v:=.agg #[.string ⟨r.toArray⟩,.bool er]) aj aP ?_ ?_
       ·intro a w' he hr K hK;have h39:=hr 39 bO;exact Ke 73 ah1 ah2 (.tmp 39) rfl b (T+i*2) h39 _ _ (((U.out.ext.trans he).cell b _ HbW.out).trans HX.out.1) (((U.out.ext.trans he).cell b _ HbW.out).trans HX.out.2) (hK _ (Ext.refl _))
       refine aE ?_)
    | (refine dY (o:=⟨some 41,_,_,_,_,_⟩) (tW ⟨g,j,z⟩) (tW.ay _) PO aj aP ?_ ?_
       ·intro a w' he hr K hK;simp[Reads,Oper.looksAt,Op.operands,Call.operands,aJ,Is] at hr;go_simp;refine((rB.out _ he)).mono ?_;rintro e w'' ⟨O,q9,c9,rfl,h9⟩;exact hK _ _ O ⟨q9,c9,rfl,h9⟩
       refine aE ?_)
    | (refine dF (o:=⟨some 42,_,_,_,_,_⟩) (v:=.agg (aK g)) aj aP ?_ ?_
       ·intro a w' he hr K hK;obtain⟨q9,c9,h1,h9⟩:=hr 33 bO;exact mO
       refine aE ?_)
    | (refine dF (o:=⟨some 44,_,_,_,_,_⟩) (v:=.int .i64 z) aj aP ?_ ?_
       ·intro a w' he hr K hK;obtain⟨q9,c9,h1,h9⟩:=hr 33 bO;exact mO
       refine aE ?_)
    | (refine dY (o:=⟨some 43,_,_,_,_,_⟩) (kO j) (kO.ay _) PO aj aP ?_ ?_
       ·intro a w' he hr K hK;obtain⟨q9,c9,h1,h9⟩:=hr 33 bO;exact uR
       refine aE ?_)
    | (refine iU (o:=⟨none,_,_,_,_,_⟩) Any Any.ay (.inr Any.bP) aj aP ?_ ?_
       ·intro a w' he hr K hK;obtain⟨b,h1,h2,h3⟩:=hr 11 bO;have hv:=hr 42 bO;refine nC 30 (.tmp 11) (.tmp 42) rfl b (aK g) h1 hv _ _ h2 dg rfl (wU g) ?_;exact WE
       refine aE ?_)
    | (refine pG _ _ aj aP lz rfl (by first | exact Is.ay _ | exact dJ.ay _ _ _ _ _ | exact nP.ay _ _ | exact dx.ay _ _ _ | exact tW.ay _ | exact kO.ay _ | exact fS.ay _ _ | exact PlF.ay _ _) (by first | exact .inr (Is.bP _ _ _) | exact .inr (tW.bP _ _ _ _ aq) | exact .inr (kO.bP _ _ _ _ aq) | exact .inr (dJ.bP _ _ _ _ _ _ _ _ aq) | exact .inl aj) ?_
       refine nO ?_)
    | (refine pH ?_))
   intro B f;simp only[iJ,iQ,jS,kW,bG,bN];repeat (first | with_reducible refine cH _ _ _ _ ?_ | (with_reducible refine cI _ _ _ _ ?_;intro _ _) | with_reducible refine cJ _ _ ?_)
   simp only[cF,cK,bQ,bE];rename_i x11 h11 x12 h12 x33 h33 Um vP x43 vT;obtain⟨yb,rfl,H,hyb⟩:=h11;obtain⟨q,c4,rfl,hw⟩:=h12;clear h33 vP vT;have h5:=U.out.more f;have r7:=ag (aO Ho.out f);have aBh:G<yb:=by have:=ah.lt U.out.hd;omega
   clear f rB;go_upto_region 7 with(fail);by_cases hz:z=0
   ·subst hz;obtain⟨hl,V,y8,K',hr'⟩:=Z.out.yes rfl;have HK':=ag K';have Hr':=ag hr';have C:=ag (fun W (e:Ext B W)=>ah5 p q M.length c j.length c4 M j W (CP (aO r7.out e)) rfl (hw.ext e) rfl (by have:=HK.out.mem;have:=HK.out.n0;omega) hl);have H5:=ag h5;have Hb5:=ag H;clear hw hl K' hr' h5 H;go_upto_region 8 with(fail);refine eR 4 (Ext.refl B) aj aj aj ?_;refine gV ?_;repeat (first
     | (refine pI ?_)
     | (refine fR ?_)
     | (refine iq ?_)
     | (refine bT (o:=⟨some 47,_,_,_,_,_⟩) (v:=.agg (aK g)) rfl ?_ ?_
        ·intro a w' he hr K hK;simp[Reads,Oper.looksAt,Op.operands,aJ,Is] at hr;exact eG 30 (.tmp 11) rfl (yb) dX _ _ _ _ (he.blk _ _ Hb5.out) fH rfl dg (hK _ (Ext.refl _))
        refine aE ?_)
     | (refine jh (o:=⟨some 50,_,_,_,_,_⟩) (dJ 9 (G+1) 1 (fV M j).length (V0 (fV M j))) (dJ.ay _ _ _ _ _) rfl ?_ ?_
        ·intro a w' he hr K hK;simp[Reads,Oper.looksAt,Op.operands,Call.operands,aJ,Is] at hr;go_simp;refine((C.out w' he)).mono ?_;rintro e w'' ⟨O,v,rfl,ho'⟩;exact hK _ _ O (by obtain⟨q',c',rfl⟩:=cE ho';exact⟨q',c',rfl,fJ ho' (by have:=he.size;have:=ah.lt H5.out.hd;omega)⟩)
        refine aE ?_)
     | (refine fk ?_))
    intro B f;repeat (first | with_reducible refine cH _ _ _ _ ?_ | (with_reducible refine cI _ _ _ _ ?_;intro _ _) | with_reducible refine cJ _ _ ?_)
    simp only[cF,cK,bQ,bE];rename_i x50 h50;obtain⟨q6,c6,rfl,nJ⟩:=h50;have h6:=H5.out.more f;clear f;go_wp2_with(refine aU rfl 30 (.tmp 6) (.tmp 47) rfl _ (aK g) rfl rfl _ _ h6.hd dg rfl cT ?_;intro w7 J l);go_roundw
    case rel=>exact⟨i+1,n+1,fV M j,g,V,y8,q6,c6,by have:=E.out;omega,af,bX,rfl,⟨l.ext h6.ext af,l.blk h6.ds af,l.blk h6.z af,J⟩,Qf nJ l af,HK'.out,ag (D.out V Hr'.out)⟩
    case measure=>have:=E.out;simp[intOf];omega
   ·have H5:=ag h5;have HN:=ag (Z.out.no hz);clear h5 H hw;have hzI:decide (z=0)=false:=aM hz;go_wp2_with fail;go_roundw
    case rel=>exact⟨i+1,n,M,h,S,dn,p,c,by have:=E.out;omega,af,bX,rfl,H5.out,r7.out,HK.out,ag (fun h=>absurd h (BU.out HN.out))⟩
    case measure=>have:=E.out;simp[intOf];omega
  ·have gB:decide ((i:Int)<L.length)=false:=aM af;obtain rfl:i=L.length:=af;have HO:=ag (And.intro X (gh X).2.1);have HK:=ag K;have D:=ag (HR.out);rw[rT] at D;clear X K HR;go_wp2_with(first
    | (refine bz (o:=⟨some 51,_,_,_,_,_⟩) rfl 30 (.tmp 6) rfl _ rfl _ _ _ hB.hd fH rfl dg ?_)
    | (refine aU rfl 30 (.tmp 4) (.tmp 51) rfl _ (aK h) rfl rfl _ _ hB.z dg rfl cT ?_;intro w7 J l))
   exact bY (dM Tryz.results26 _ _ _ _ _ _ rfl J fH rfl dg) rfl (NQ.out _ _ ⟨l.ext hB.ext af,M,h,S,dn,n,p,c,rfl,CP (Qf HO.out.1 l af),HO.out.2,HK.out,D.out⟩)
end Go.Proofs.YteninnkbmoimgaaGreatDoor

/- A part of the proof. -/
import Derived.Test.YteninnkbmoimgaaGreatDoorKC
import Derived.Test.YteninnkbmoimgaaGreatDoorRP0
import Derived.Test.YteninnkbmoimgaaGreatDoorCL
set_option linter.unusedSimpArgs false
set_option linter.unusedVariables false
set_option maxRecDepth 100000
set_option maxHeartbeats 16000000
namespace Go.Proofs.YteninnkbmoimgaaGreatDoor
open Go.ChangeShapes Go.WideShapes Go.Deep Go.RowKit aD
theorem aua:(Tryz.prog.fieldsOf 73).toList.map (fun f=>f.type)=[9,4]:=aj
theorem aub:Tryz.prog.underlying 73=some (.struct (Tryz.prog.fieldsOf 73)):=aj
theorem afP {H:Type} {enc:TypeId×Value->H} {w:World} {base:Nat} {q:Nat->Bool} {y:Bool} {t:TypeId} {a:Option Addr} {e o:Nat} {d:DataW H} {ps:List MemPlace}
 (ht:Tryz.prog.underlying t=some (.slice 73)) (h:DataW.Trod enc Tryz.prog w base q y t (.slice a e o) d ps):
 ∃L:List oL,mH w a L/\L.length=e/\e<=o/\o<=maxLen:=by
 obtain⟨M,Y⟩:=h;have z:=aua;have I:(Tryz.prog.fieldsOf 73).size=2:=aj;rcases amP ht aub aj aj Y with⟨g,_⟩ | ⟨x,l,c,m,D,Pl,g,_,hl,hm,G,_,Z⟩
 ·simp[Value.cells] at g;obtain⟨rfl,rfl,rfl⟩:=g;exact⟨[],.inl rfl,rfl,aH _,av⟩
 ·simp[Value.cells] at g;obtain⟨rfl,rfl,rfl⟩:=g;have hlm:e<=m:=by rw[G];split<;>omega
  have f:∀i,i<e->(∃s:ByteArray,w.cell? (x.add (i*2))=some (.string s))/\∃u:Bool,w.cell? (x.add (i*2+1))=some (.bool u):=by
   intro i j;obtain⟨ys,n,_,_,_,F⟩:=Z i af;rw[I] at F;generalize Tryz.prog.fieldsOf 73=fs at *;have N:=gP (fun l=>l[0]?) z;have O:=gP (fun l=>l[1]?) z;simp at N O;obtain⟨V,T,t0⟩:=N;obtain⟨X,U,t1⟩:=O;obtain⟨v0,y0,r,_,B⟩:=F 0 V T;obtain⟨v1,y1,E,_,Q⟩:=F 1 X U;rw[t0] at B;rw[t1] at Q;obtain⟨s,R,_,_⟩:=DataW.trod_string Tryz.underlying9 B;obtain⟨b,C,_⟩:=DataW.trod_bool Tryz.underlying4 Q;simp at C R;subst C R;exact⟨⟨s,r⟩,b,E⟩
  refine⟨(List.range e).map fun i=>(Mb w (x.add (i*2)),RU w (x.add (i*2+1))),?_,av,hl,hm⟩;by_cases B:e=0
  ·subst B;exact .inl av
  ·obtain⟨⟨s,r⟩,_⟩:=f 0 af;have J:=amS r;simp only[Nat.zero_mul,Addr.add,pF] at J;obtain⟨b,K,sp⟩:=x;simp only at J;obtain⟨rfl,C⟩:=J;refine .inr ⟨b,K,rfl,C,fun i j=>?_⟩;simp only[kF,List.length_range] at j;obtain⟨⟨s,r⟩,u,E⟩:=f i j;have S:=(amR r).1;have k1:=amQ E;rw[addr_add] at S k1;simp only[List.getD,JX,List.getElem?_range j,Option.map_some,Option.getD_some,addr_add];exact⟨S,by rw[sD];exact k1⟩
end Go.Proofs.YteninnkbmoimgaaGreatDoor
namespace aD
open Go.Proofs.YteninnkbmoimgaaGreatDoor (dS dH)
section
variable {M:List (List UInt8)} {d:DS} {g h:Hd} {k:List UInt8} (hr:g.root=h.root) (hh:g.height=h.height)
include hr hh
theorem Ef:∀j,bJ M g d k j=bJ M h d k j
 | 0=>hr
 | j+1=>by rw[ux,ux];unfold bR;rw[Ef j,hh]
theorem afQ (j:Nat):bR M g d k j=bR M h d k j:=by unfold bR;rw[Ef hr hh,hh]
theorem auc (j:Nat):kZ M g d k j=kZ M h d k j:=by unfold kZ;rw[Ef hr hh,hh]
theorem afR:∀j,ig M g d k j=ig M h d k j
 | 0=>rfl
 | j+1=>by unfold ig;rw[afR j,auc hr hh]
theorem afS:∀j,m7 M g d k j=m7 M h d k j
 | 0=>rfl
 | j+1=>by rw[m7,m7,afS j];unfold MQ;rw[Ef hr hh,afQ hr hh]
theorem aud (j:Nat):eW M g d k j=eW M h d k j:=by
 unfold eW;exact List.map_congr_left fun j _=>Ef hr hh j
end
structure aue (M:List (List UInt8)) (d:DS) (h g g':Hd) (k b:List UInt8) (base:Int) (W:List Wr) (H:Nat):Prop where
 height:g.height=H
 er:ig M g d b H=0
 idx:∀j,j<H->oK (bJ M g d b (j+1)) (bR M g d b j).ai=some (bK (bR M g d b j).ai b)
 path:eW M h d k H=eW M g d b H
 b0:b≠[]
 b32:b.length<=32
 bs:1<=base/\base<=16777208
 go:jx d (m7 M g d b H) g [] b base=(g',W,0)
 fin:g.fin<=100000
 nodup:(W.map (·.1)).Nodup
 len:W.length<=11
 door:jg g d=0
theorem dL.auf {M:List (List UInt8)} {d:DS} {h:Hd} {q:List Int} {n:Nat} {pre:List aQ} {s:aQ} {post:List aQ} (K:dL M d h (pre++s::post) q n) (hn:n<100) {r:List UInt8} (hr:cV d r=true) (J:bl (ax d r) s.1=false) (L:post≠[]->bl (ax d r) (nj post)=true) (S:kY d s.2=0)
 {x:Ar×Ar} (T:uB d s.2 (h.fin+1) r=x) {H:Nat} (N:h.height.toNat=H):
 ∃W u,G3 M d h (jE d h s.2 r x) (gK s.2) (h.fin+1) (iy (pre++s::post)) q W u/\aue M d h (jE d h s.2 r x) u (ax d r) (gK s.2) (h.fin+1) W H/\
  ((fZ d s.2 x.1++gQ d x.2++W).map (·.1)).Nodup:=by
 obtain⟨W,u,A,F,_,_⟩:=K.full hn hr J L S T;have m:s∈pre++s::post:=av;have y:=K.k.inv s m;obtain⟨_,_,_,_,_,ky6,_,z,U⟩:=iM y.spec.keyed;have hz:=oB y.spec.size;have O:=K.fin;have E:=K.n0;obtain⟨b1,b2⟩:=K.k.base s m;have e:eX (h.fin+1)=true:=by
  exact Ky
 have f:=Nn y hr e S;rw[T] at f;obtain⟨Ug,hh5⟩:=K.height;obtain⟨l,_⟩:=K.k.at (gK s.2);have i:=K.k.keys pre s post rfl;have B:bl (gK s.2) s.1=false:=by
  obtain⟨t,I,D⟩:=f.lne;cases hb:bl (gK s.2) s.1 with
  | false=>rfl
  | true=>have:=(i t I).1;rw[iN D hb] at this;cases this
 have C:post≠[]->bl (gK s.2) (nj post)=true:=fun G=>by
  obtain⟨t,I,D⟩:=f.rne;exact FH D ((i t I).2 G)
 have b:=K.k.same J L B C;rw[N] at l b;refine⟨W,u,A,⟨?_,?_,?_,?_,f.aee,?_,?_,?_,?_,A.ok.nodup,?_,?_⟩,F⟩
 ·have:(jE d h s.2 r x).height=h.height:=rfl;rw[this];omega
 ·rw[afR (g:=jE d h s.2 r x) (h:=h) rfl rfl];exact l
 ·intro j R;rw[Ef (g:=jE d h s.2 r x) (h:=h) rfl rfl,afQ (g:=jE d h s.2 r x) (h:=h) rfl rfl];exact K.k.idx z _ af
 ·rw[aud (g:=jE d h s.2 r x) (h:=h) rfl rfl];unfold eW;refine List.map_congr_left fun j R=>?_;simp at R;exact b j af
 ·have:=f.aef;omega
 ·omega
 ·rw[afS (g:=jE d h s.2 r x) (h:=h) rfl rfl,<-N];exact A.go
 ·simp only[jE];omega
 ·have:=A.len;omega
 ·have h9:=K.xx;have Z:=K.zu;have V:(jE d h s.2 r x).root=h.root:=rfl;have X:(jE d h s.2 r x).height=h.height:=rfl;have Y:(jE d h s.2 r x).fin=h.fin+d.aN+1:=rfl;unfold jg;rw[aC];refine Cj ?_;rw[V,X,Y];exact Yl
end aD
namespace Go.Proofs.YteninnkbmoimgaaGreatDoor
open Go.RowKit aD
def Eg (h:Hd) (d:DS):Prop:=0<=h.count/\h.count<=16777216/\0<=h.kG/\h.kG<=1073741824/\0<=h.splits/\h.splits<=1073741824/\jg h d=0
theorem _root_.aD.dL.door {M:List (List UInt8)} {d:DS} {h:Hd} {S:List aQ} {b:List Int} {n:Nat} (K:dL M d h S b n):Eg h d:=by
 have j:=K.n0;have l:=K.cnt;have m:=K.cn;have q:=K.Nq;have r:=K.Nr;have t:=K.Ns;have u:=K.Nt;have y:=K.fin;have z:=K.xx;have e:=K.zu;obtain⟨f,i⟩:=K.height;refine⟨af,af,af,af,af,af,?_⟩;unfold jg;rw[aC];refine Cj ?_;exact Yl
theorem Ob (h:Hd) (d:DS) (w:World) (r:Eg h d):Calls Tryz.prog 44 #[.agg (aK h),.agg (az d)] w fun e w'=>e=.returned (.int .i64 0)/\Ext w w':=by
 obtain⟨u,y,z,B,C,D,t⟩:=r;have q:=ag (fun W=>Mt h d W);rw[t] at q;have i:=Ext.alloc w (.cells (aK h) 30);have f:=Ext.alloc (w.alloc (.cells (aK h) 30)) (.cells (az d) 23);have b:fG ((w.alloc (.cells (aK h) 30)).alloc (.cells (az d) 23)) w.heap.size h:=f.blk _ _ (ah.new w _);have j:bI ((w.alloc (.cells (aK h) 30)).alloc (.cells (az d) 23)) (w.heap.size+1) d:=ah.new1 _ _ _ av;go_enter Tryz.func44,Tryz.ntmps44;go_upto_region 1 with(fail);refine aR (fun l=>Ext w l/\fG l w.heap.size h/\bI l (w.heap.size+1) d) ⟨i.trans f,b,j⟩ ?_;clear i f b j;rintro l ⟨m,b,j⟩;have E:=ah.val b 1 _ rfl;have F:=ah.val b 5 _ rfl;have G:=ah.val b 6 _ rfl;have O:=ah.lt b;have H:decide (h.count<0)=false:=aM af;have I:decide (16777216<h.count)=false:=aM af;have J:decide (h.kG<0)=false:=aM af;have K:decide (1073741824<h.kG)=false:=aM af;have L:decide (h.splits<0)=false:=aM af;have N:decide (1073741824<h.splits)=false:=aM af;go_wp2_with(first
  | (refine bz (o:=⟨some 33,_,_,_,_,_⟩) rfl 30 (.tmp 2) rfl _ rfl _ _ _ b fH rfl dg ?_)
  | (refine bu (o:=⟨some 34,_,_,_,_,_⟩) rfl (.tmp 3) rfl _ rfl d j ?_)
  | (go_at_call 64;refine(q.out _).mono ?_;rintro e Q ⟨rfl,n⟩))
 go_ret;exact⟨rfl,m.trans n⟩
theorem Vf (b:Bool) (w:World):Calls Tryz.prog 95 #[.bool b] w fun e w'=>e=.returned (.int .i64 (if b=true then 1 else 0))/\w'=w:=by
 go_enter Tryz.func95,Tryz.ntmps95;cases b
 ·go_wp2;go_ret;exact⟨rfl,rfl⟩
 ·go_wp2;go_ret;exact⟨rfl,rfl⟩
theorem fE:(Tryz.prog.info? 37).map (·.size)=some 2:=aj
theorem Oc {ops:Array Oper} {rest:List Oper} {o:Oper} {a:Act} {w:World} {Q:Exit->Act->World->Prop} (r:Region.wanted o (yielded ops a.tmps)=true) (x:Operand) (n:o.op=.load 37 x)
 (g b:Nat) (t:a.eval x=.pointer (some ⟨g,b,none⟩)) (u v:List UInt8) (h0:w.cell? ⟨g,b,none⟩=some (.string ⟨u.toArray⟩)) (h1:w.cell? ⟨g,b+1,none⟩=some (.string ⟨v.toArray⟩))
 (h:wpList Tryz.prog ops Q rest (a.put o.dst (.agg #[.string ⟨u.toArray⟩,.string ⟨v.toArray⟩])) w):wpList Tryz.prog ops Q (o::rest) a w:=
 BigFrame.wpList_want r fun _ l=>by
  have m:(loadCells ⟨g,b,none⟩ 2).run Tryz.prog w=.ok #[.string ⟨u.toArray⟩,.string ⟨v.toArray⟩] w:=
   Fc (P:=Tryz.prog) w ⟨g,b,none⟩ [.string ⟨u.toArray⟩,.string ⟨v.toArray⟩] (fun j y hy=>by
    exact W9)
  have f:(loadVar 37 ⟨g,b,none⟩).run Tryz.prog w=.ok (.agg #[.string ⟨u.toArray⟩,.string ⟨v.toArray⟩]) w:=by
   have hi:=fE;cases hq:Tryz.prog.info? 37 with
   | none=>simp[hq] at hi
   | some i=>
     have q:i.size=2:=E3;have e:(isAgg 37).run Tryz.prog w=.ok true w:=by
      unfold isAgg;rw[Sem.run_bind,pO lW w];rfl
     simp[loadVar,Sem.run_bind,e,Go.sizeOf,typeInfo,hq,q,m]
  unfold Oper.wp execOp;simp only[n,t,Instr.loadAt,Instr.sureAddr,Sem.run_bind,Sem.run_pure,Result.andThen_ok,f];exact l _ _ h
theorem nU (x y:List UInt8):(#[.string ⟨x.toArray⟩,.string ⟨y.toArray⟩]:Array Value).all (·.oneCell')=true:=cT
theorem AO:Tryz.prog.built 37 []=some #[.string ⟨#[]⟩,.string ⟨#[]⟩]:=aj
abbrev Jg:=List (List UInt8×List UInt8)
theorem aug (q:Option Addr) (c:Nat) (L:Jg) (k:List UInt8) (w:World) (I:pV w q L) (U:L.length<=1000000):
 Calls Tryz.prog 94 #[.slice q L.length c,.string ⟨k.toArray⟩] w fun e w'=>Ext w w'/\∃x y:List UInt8,e=.returned (.tuple #[.agg #[.string ⟨x.toArray⟩,.string ⟨y.toArray⟩],.bool (L.any fun z=>z.1==k)]):=by
 have N:=ag I;have J:=Ext.alloc w (.cells #[.string ⟨#[]⟩,.string ⟨#[]⟩] 37);have K:=ah.new w (.cells #[.string ⟨#[]⟩,.string ⟨#[]⟩] 37);clear I;go_enter Tryz.func94,Tryz.ntmps94;go_upto_region 1 with(fail);refine aR (fun C=>Ext w C/\ah C w.heap.size (.cells #[.string ⟨#[]⟩,.string ⟨#[]⟩] 37)) ⟨J,K⟩ ?_;clear J K;rintro C ⟨t,B⟩;have r:=ag (And.intro t B);clear t B;go_upto_region 2 with(fail);go_loopw[6] (fun iv wr=>wr=C/\∃i:Nat,i<=L.length/\iv=.int .i64 i/\Hid ((L.take i).any (fun z=>z.1==k)=false)) (fun iv _=>L.length-(intOf iv).toNat)
 case atStart=>exact⟨rfl,0,bL _,rfl,ag av⟩
 case round=>
  obtain⟨rfl,i,T,rfl,H⟩:=hrel;by_cases j:i<L.length
  ·have u:(i:Int)<L.length:=af;obtain⟨b,F,rfl,S,E⟩:=(N.out.ext r.out.1).at i j;obtain⟨O,Q⟩:=E i j;have l:(L.take (i+1)).any (fun z=>z.1==k)=((L.take i).any (fun z=>z.1==k)||((L.getD i ([],[])).1==k)):=by
    rw[jr j,List.any_append];simp[List.getD,j]
   rw[H.out,Bool.false_or] at l;by_cases he:(L.getD i ([],[])).1=k
   ·have f:Hid (L.any (fun z=>z.1==k)=true):=ag (Ci.2 ⟨L.getD i ([],[]),afi j _,zT⟩);have G:((L.getD i ([],[])).1==k)=true:=zT;clear E l he;generalize(L.getD i ([],[])).1=x at *;generalize(L.getD i ([],[])).2=y at *;go_wp2_with(first
     | (refine Oc (o:=⟨some 23,_,_,_,_,_⟩) rfl (.tmp 22) rfl b (F+i*2) rfl x y O Q ?_)
     | (refine aU rfl 37 (.tmp 4) (.tmp 23) rfl _ #[.string ⟨x.toArray⟩,.string ⟨y.toArray⟩] rfl rfl _ _ r.out.2 fE rfl (nU x y) ?_;intro R n m))
    exact bY (dM Tryz.results94 _ _ _ _ _ _ rfl n lW rfl fE) rfl ⟨m.ext r.out.1 (aH _),x,y,by rw[f.out];rfl⟩
   ·have G:((L.getD i ([],[])).1==k)=false:=zT;rw[G] at l;have D:=ag l;clear E l he;generalize(L.getD i ([],[])).1=x at *;go_wp2_with fail;go_roundw
    case rel=>exact⟨trivial,i+1,af,bX,D⟩
    case measure=>exact ct
  ·have u:decide ((i:Int)<L.length)=false:=aM af;have f:Hid (L.any (fun z=>z.1==k)=false):=ag (by have:=H.out;rwa[mC af] at this);go_wp2_with(first
    | (refine dW (o:=⟨some 24,_,_,_,_,_⟩) rfl 37 #[] rfl [] rfl _ AO ?_)
    | (refine aU rfl 37 (.tmp 4) (.tmp 24) rfl _ #[.string ⟨#[]⟩,.string ⟨#[]⟩] rfl rfl _ _ r.out.2 fE rfl cT ?_;intro R n m))
   exact bY (dM Tryz.results94 _ _ _ _ _ _ rfl n lW rfl fE) rfl ⟨m.ext r.out.1 (aH _),[],[],by rw[f.out];rfl⟩
def jy (b:Ar):Fact:=fun x w=>∃q c p m,x=.tuple #[.agg (bn b q c p m),.int .i64 0]/\cX w b q c p m
theorem jy.ay (b:Ar):(jy b).ay:=fun _ _ _ i ⟨q,c,p,m,e,f⟩=>⟨q,c,p,m,e,f.ext i⟩
theorem jy.bP (a:Ar) (K:dR) (B:Nat):(jy a).bP K (fun _=>j4 B 109):=fun _ _ _ _ _ ⟨_,_,_,f,k⟩ ⟨q,c,p,m,b,e⟩=>⟨q,c,p,m,b,e.lE f aq aq aq k⟩
def nN (a:Ar):Fact:=fun x w=>∃q c p m,x=.agg (bn a q c p m)/\cX w a q c p m
theorem nN.ay (a:Ar):(nN a).ay:=fun _ _ _ f ⟨q,c,p,m,b,e⟩=>⟨q,c,p,m,b,e.ext f⟩
theorem nN.bP (a:Ar) (K:dR) (B:Nat):(nN a).bP K (fun _=>j4 B 109):=fun _ _ _ _ _ ⟨_,_,_,f,k⟩ ⟨q,c,p,m,b,e⟩=>⟨q,c,p,m,b,e.lE f aq aq aq k⟩
def vL (B:Nat) (a:Ar):Fact:=fun x w=>∃b,x=.pointer (some ⟨b,0,none⟩)/\∃q c p m,ah w b (.cells (bn a q c p m) 109)/\cX w a q c p m/\B<=b
theorem vL.ay (B:Nat) (a:Ar):(vL B a).ay:=fun _ _ _ e ⟨b,f,q,c,p,m,i,j,l⟩=>⟨b,f,q,c,p,m,e.blk _ _ i,j.ext e,l⟩
theorem lV {d:DS} {a:Ar} (s:fP d a):a.nd.ai.length<=1000000/\a.ak.length<=1000000/\∀i,Small (a.ak.getD i []):=by
 have b:=(ia.1 s.node).l2;have e:=s.len;exact⟨af,af,TT s⟩
end Go.Proofs.YteninnkbmoimgaaGreatDoor
namespace aD
open Go.Proofs.YteninnkbmoimgaaGreatDoor (dS dH DP)
theorem auh (x:aG) (E:List aG):au (x::E) 0=x:=rfl
theorem aui (x:aG) (E:List aG) (k:Nat):au (x::E) (k+1)=au E k:=by simp[au,List.getD]
theorem afT {f:Int->Int->List Int×Int} {most:Int}:∀(E:List aG) (P:List Part) (b:List Int),P.length=E.length->(∀k,k<P.length->∀j:Int,(((P.getD k ([],[])).1.length:Nat):Int)<=j->f (au E k).2 j=((P.getD k ([],[])).1.map (·.2),0))->
 (b.length:Int)+((eT P).length:Int)<=most->ng f most b E=(b++(eT P).map (·.2),0)
 | [],P,b,i,_,_=>by
   obtain rfl:P=[]:=gY i;simp[ng,eT]
 | x::E,[],b,i,_,_=>by simp at i
 | x::E,y::P,b,i,n,o=>by
   have e:eT (y::P)=y.1++eT P:=A4 y P;rw[e,ew] at o;have m:=n 0 av (most-(b.length:Int)) (by simp only[qu];omega);rw[auh,qu] at m;unfold ng;rw[m,aA av,aA (by simp only[ew,kF];omega)];rw[afT E P (b++y.1.map (·.2)) (by simpa using i) (fun k hk j l=>by
    have:=n (k+1) vR j (by rw[qt];exact l)
    rwa[aui,qt] at this) (by simp only[ew,kF];omega),e]
   simp
theorem afU {M:List (List UInt8)} {d:DS} {r:Nat}:∀{l:Nat} {b:Int} {f:List dK} {e:List Int},Sub M d r l b f e->∀most:Int,(f.length:Int)<=most->je M d l b most=(f.map (·.2),0)
 | 0,b,f,e,⟨⟨low,h⟩,_⟩,most,_=>by rw[h];rfl
 | l+1,b,f,e,q,most,o=>by
   obtain⟨m,_,P,j,rfl,_⟩:=yZ q;unfold je;rw[aA (by rw[m];simp)];rw[afT _ P [] j.1 (fun k n t i=>afU (j.2 k n).1 t i) (by simpa using o)];rfl
def dU (S:List aQ):List Int:=S.map fun s=>s.2.base
theorem dL.bases {M:List (List UInt8)} {d:DS} {h:Hd} {S:List aQ} {e:List Int} {n:Nat} (K:dL M d h S e n):kM M h d=0/\oP M h d=dU S/\DP M h d=true:=by
 have hz:=K.door.2.2.2.2.2.2;have l:=K.an;have m:=K.n0;have o:(iy S).length=S.length:=by simp[iy]
 have b:=afU (GQ (aH _) (fN aq (DE d)) K.k.tree.sub) 4096 af;have j:(iy S).map (·.2)=dU S:=by unfold iy dU;rw[FE];rfl
 rw[j] at b;have f:kM M h d=0:=by unfold kM;rw[aA uP,b]
 have i:oP M h d=dU S:=by unfold oP;rw[aA uP,b]
 refine⟨f,i,?_⟩;unfold Go.Proofs.YteninnkbmoimgaaGreatDoor.DP;rw[f,i,eu,gu];exact⟨aq,by unfold dU;rw[kF];omega⟩
def jL (d:DS) (L:aB) (k:List UInt8):Option (List UInt8):=L.find? fun s=>bl k (ax d s)
def jt (d:DS) (L:aB) (k:List UInt8):Option (List UInt8):=L.reverse.find? fun s=>bl (ax d s) k
theorem afV (p:List UInt8->Bool):∀S:List aQ,(aT S).find? p=S.findSome? fun s=>(aX s.2).find? p
 | []=>rfl
 | s::S=>by
   rw[oU,C4,afV p S,List.findSome?_cons];cases(aX s.2).find? p<;>rfl
theorem afW (p:List UInt8->Bool):∀S:List aQ,(aT S).reverse.find? p=S.reverse.findSome? fun s=>(aX s.2).reverse.find? p
 | []=>rfl
 | s::S=>by
   rw[oU,LL,C4,afW p S,cF,List.findSome?_append];congr 1;simp
theorem iK.next {M:List (List UInt8)} {d:DS} {h:Hd} {b:List Int} {pre:List aQ} {s:aQ} {post:List aQ} (K:iK M d h (pre++s::post) b) {k:List UInt8} (i:bl k s.1=false):
 jL d (aT (pre++s::post)) k=(s::post).findSome? fun t=>jL d (aX t.2) k:=by
 obtain⟨f,l⟩:=K.sides rfl;unfold jL;rw[qd,C4,afV _ (s::post)];have:(aT pre).find? (fun s=>bl k (ax d s))=none:=rJ.2 fun t j=>by
  have:=f t j;cases hb:bl k (ax d t) with
  | false=>simp
  | true=>have e:=iN hb this;rw[i] at e;cases e
 rw[this];rfl
theorem iK.prev {M:List (List UInt8)} {d:DS} {h:Hd} {f:List Int} {pre:List aQ} {s:aQ} {post:List aQ} (K:iK M d h (pre++s::post) f) {k:List UInt8} (m:post≠[]->bl k (nj post)=true):
 jt d (aT (pre++s::post)) k=(pre++[s]).reverse.findSome? fun t=>jt d (aX t.2) k:=by
 obtain⟨o,l⟩:=K.sides rfl;unfold jt;rw[show pre++s::post=(pre++[s])++post by simp,qd,LL,C4,afW _ (pre++[s])];have:(aT post).reverse.find? (fun s=>bl (ax d s) k)=none:=rJ.2 fun t j=>by
  have i:=l t (Gb.1 j);have e:post≠[]:=by rintro rfl;simp[aT] at j
  cases hb:bl (ax d t) k with
  | false=>simp
  | true=>
    have n:=m e;have b:=iN hb n
    first
     | (rw[i] at b;cases b)
     | (have:=iN b i;exact absurd rfl (lZ this))
 rw[this];rfl
end aD
namespace Go.Proofs.YteninnkbmoimgaaGreatDoor
open Go.RowKit aD
structure Jh (f:FuncId) (caps:Array Value) (n:Nat) (P:Nat->Bool) (w:World):Prop where
 call:∀args W,(callFunc f args).run Tryz.prog W=.ok (.enter f args) W
 ask:∀i,i<n->∀W,Ext w W->Calls Tryz.prog f (#[.int .i64 (i:Nat)]++caps) W fun e W'=>e=.returned (.bool (P i))/\Ext W W'
theorem Od (f:FuncId) (u:Array Value) (n:Nat) (P:Nat->Bool) (w:World) (O:Jh f u n P w) (X:∀i j,i<=j->j<n->P i=true->P j=true) (hn:n<=1000000):
 Calls Tryz.prog 38 #[.int .i64 (n:Nat),.func (.func f) #[] u] w fun e w'=>Ext w w'/\∃k:Nat,e=.returned (.int .i64 k)/\k<=n/\(∀i,i<k->P i=false)/\∀i,k<=i->i<n->P i=true:=by
 have R:=O.call;have D:=ag O.ask;have G:=ag X;clear O X;go_enter Tryz.func38,Tryz.ntmps38;go_wp2_with fail;obtain⟨T,rfl⟩:∃T:World,T=w:=⟨_,rfl⟩;go_loopw[5,6] (fun i j wr=>∃lo b:Nat,lo<=b/\b<=n/\i=.int .i64 lo/\j=.int .i64 b/\(∀t,t<lo->P t=false)/\(∀t,b<=t->t<n->P t=true)/\Ext T wr) (fun i j _=>(intOf j).toNat-(intOf i).toNat)
 case atStart=>exact⟨0,n,bL _,aH _,rfl,rfl,fun t K=>absurd K (ur _),fun t h1 N=>absurd N af,Ext.refl _⟩
 case round=>
  obtain⟨lo,b,Z,I,rfl,rfl,J,H,m⟩:=hrel;have F:=ag J;have E:=ag H;have l:=ag m;clear J H;by_cases hlt:lo<b
  ·have o:(lo:Int)<(b:Int):=af;have q:(lo+b)/2<n:=af;have C:lo<=(lo+b)/2/\(lo+b)/2<b:=af;have Y:=D.out _ q _ m;have z:Hid (P ((lo+b)/2)=false->∀t,t<(lo+b)/2+1->P t=false):=ag (fun h t K=>by
    cases N:P t with
    | false=>rfl
    | true=>rw[G.out t _ af q N] at h;cases h)
   have y:Hid (P ((lo+b)/2)=true->∀t,(lo+b)/2<=t->t<n->P t=true):=ag (fun h t K S=>G.out _ t K S h);have U:Hid (((lo:Int)+b)/2=(((lo+b)/2:Nat):Int)):=ag af;have r:=ag Y;have V:=ag (And.intro q C);clear q C o Y m;have o:(lo:Int)<(b:Int):=af;go_upto_region 4 with(fail);rw[U.out];obtain⟨q,C,Hu⟩:=V.out;clear V U;generalize(lo+b)/2=mid at *;cases hb:P mid
   ·rw[hb] at r;have L:=ag (z.out hb);clear y z hb;go_wp2_with(refine r.out.mono ?_;rintro e w1 ⟨rfl,B⟩);go_roundw
    case rel=>exact⟨mid+1,b,af,I,bX,rfl,L.out,E.out,l.out.trans B⟩
    case measure=>exact ct
   ·rw[hb] at r;have L:=ag (y.out hb);clear y z hb;go_wp2_with(refine r.out.mono ?_;rintro e w1 ⟨rfl,B⟩);go_roundw
    case rel=>exact⟨lo,mid,af,af,rfl,rfl,F.out,L.out,l.out.trans B⟩
    case measure=>exact ct
  ·have o:decide ((lo:Int)<(b:Int))=false:=aY;have Q:lo=b:=af;subst Q;go_wp2_with fail;go_ret;exact⟨l.out,lo,rfl,I,F.out,E.out⟩
theorem yf:Tryz.prog.underlying 117=some (.struct (Tryz.prog.fieldsOf 117)):=aj
theorem rz:(Tryz.prog.info? 117).map (·.size)=some 29:=aj
theorem auj (p:Option Addr) (n b:Nat) (h:Hd) (d:DS):Tryz.prog.built 117 [(0,.iface 32 (.slice p n b)),(1,.agg (aK h)),(2,.agg (az d))]=some (bH (.slice p n b) h d):=aj
theorem auk (n a b:Int) (w:World) (h1:a<=n) (h2:n<=b):Calls Tryz.prog 81 #[.int .i64 n,.int .i64 a,.int .i64 b] w fun e w'=>e=.returned (.bool true)/\w'=w:=by
 go_enter Tryz.func81,Tryz.ntmps81;exact aar
theorem aul (d:DS) (n:dA d=true) (w:World):Calls Tryz.prog 80 #[.agg (az d)] w fun e w'=>e=.returned (.bool true)/\Ext w w':=by
 have j:cr d=true/\d.org=3:=by
  have:=iM n;exact⟨this.1,this.2.1⟩
 have l:=ag (fun W=>LJ d W);rw[j.1] at l;have t:(d.org==3)=true:=by rw[j.2];rfl
 have m:=ah.new w (.cells (az d) 23);have o:=Ext.alloc w (.cells (az d) 23);clear j n;go_enter Tryz.func80,Tryz.ntmps80;go_upto_region 1 with(fail);refine aR (fun W=>Ext w W/\bI W w.heap.size d) ⟨o,m⟩ ?_;clear m o;rintro u ⟨i,b⟩;go_wp2_with(first | (refine bu rfl (.tmp 1) rfl _ rfl d b ?_) | (go_at_call 48;refine(l.out _).mono ?_;rintro e y ⟨rfl,f⟩;have q:=ah.val (f.blk _ _ b) 1 _ rfl;have r:=ah.lt (f.blk _ _ b)));go_ret;exact⟨rfl,i.trans f⟩
theorem Oe (p:Option Addr) (n i:Nat) (h:Hd) (d:DS) (w:World) (D:dA d=true) (G:Eg h d):
 Calls Tryz.prog 53 #[.iface 32 (.slice p n i),.agg (aK h),.agg (az d)] w fun e w'=>e=.returned (.tuple #[.agg (bH (.slice p n i) h d),.int .i64 0])/\Ext w w':=by
 have Hd:=ag (fun W=>aul d D W);obtain⟨H,I,J,K,L,N,E⟩:=G;obtain⟨k1,k2,V,X,Y,Z,k7⟩:=xg E;have F:=ag (fun(n a b:Int) W (h:a<=n/\n<=b)=>auk n a b W h.1 h.2);have r:=Rv w h d mI 117;clear E k1 D;go_enter Tryz.func53,Tryz.ntmps53;go_upto_region 1 with(fail);refine aR (fun t=>Ext w t/\fG t w.heap.size h/\bI t (w.heap.size+1) d/\ah t (w.heap.size+1+1) (.cells mI 117)) r ?_;clear r;rintro t ⟨C,u,l,y⟩;go_wp2_with(first
  | ((with_reducible refine aW 8 ?_);refine bu rfl (.tmp 5) rfl _ rfl d l ?_)
  | (go_at_call 80;refine(Hd.out _).mono ?_;rintro e w1 ⟨rfl,j⟩;have f:=u.ext j;have m:=l.ext j;have q:=j.blk _ _ y;have O:=ah.val f 1 _ rfl;have Q:=ah.val f 2 _ rfl;have R:=ah.val f 3 _ rfl;have S:=ah.val f 4 _ rfl;have T:=ah.val f 5 _ rfl;have U:=ah.val f 6 _ rfl;have l1:=ah.lt f)
  | (go_at_call 81;refine(F.out _ _ _ _ af).mono ?_;rintro e w2 ⟨rfl,rfl⟩)
  | ((with_reducible refine aW 49 ?_);refine bz rfl 30 (.tmp 4) rfl _ rfl _ _ _ f fH rfl dg ?_)
  | ((with_reducible refine aW 50 ?_);refine bu rfl (.tmp 5) rfl _ rfl d m ?_)
  | (refine dW (o:=⟨some 51,_,_,_,_,_⟩) rfl 117 #[(0,.tmp 48),(1,.tmp 49),(2,.tmp 50)] rfl [(0,.iface 32 (.slice p n i)),(1,.agg (aK h)),(2,.agg (az d))] rfl _ (auj p n i h d) ?_)
  | (refine aU rfl 117 (.tmp 6) (.tmp 51) rfl _ (bH (.slice p n i) h d) rfl rfl _ _ q rz rfl (vu p n i h d) ?_;intro w3 z B))
 exact bY (dM Tryz.results53 _ _ _ _ _ _ rfl z yf rfl rz) rfl ⟨rfl,B.ext (C.trans j) af⟩
end Go.Proofs.YteninnkbmoimgaaGreatDoor

/- A part of the proof. -/
import Derived.Test.YteninnkbmoimgaaGreatDoorDC
set_option linter.unusedSimpArgs false
set_option linter.unusedVariables false
set_option maxRecDepth 100000
set_option maxHeartbeats 16000000
namespace Go.Proofs.YteninnkbmoimgaaGreatDoor
open Go.RowKit aD
theorem G9 {a b c:World} {g:Nat} (h:Ext a b) (k:b.grownBy c (some g)) (e:a.heap.size<=g):Ext a c:=
 ⟨k.os.trans h.os,k.tape.trans h.tape,k.output.trans h.output,fN h.size k.size,fun i d=>(k.block i (fM d h.size) aY).trans (h.block i d)⟩
theorem ac2 (data:List UInt8):∀k,(eY data k).rest.length<=data.length
 | 0=>by simp[eY]
 | k+1=>by
   have:=ac2 data k;simp only[eY,y9,qX,eU];omega
theorem mq {w:World} {B:Nat} {e:TypeId} {n c:Nat} {q:Option Addr} {L:List aG} (h:w.ownsRow B e 2 (.slice q n c) n (aV L)):iV w q L:=by
 obtain⟨u,⟨b,l⟩ | ⟨j,d,f,b,m,g,o,r,t,i⟩⟩:=h
 ·cases b
  exact .inl (gY af)
 ·simp only[Value.slice.injEq] at b;obtain⟨rfl,_,rfl⟩:=b;exact Gk g i
theorem ac3 {size:Int} {n:Nd} (h:dS size n=0):dH size n=iW size n:=by unfold dH;rw[aC h]
theorem uK:Tryz.prog.built 106 []=some #[.int .i64 0,.int .i64 0,.slice none 0 0]:=aj
theorem ac4 (L:List aG) (x:aG):aV (L++[x])=aV L++[.string ⟨x.1.toArray⟩,.int .i64 x.2]:=by unfold aV;rw[Gp];rfl
theorem za (s:ByteArray) (k:Int):Tryz.prog.built 142 [(0,.string s),(1,.int .i64 k)]=some #[.string s,.int .i64 k]:=aj
theorem DM {w:World} {a b:Nat} {f g:Array Value} {t u:TypeId} (h:ah w a (.cells f t)) (k:ah w b (.cells g u)) (d:t≠u):a≠b:=fun e=>by
 subst e;have i:=jF (h.symm.trans k);injection i with _ j;exact d j
def Bf (w:World) (B:Nat):World:={w with heap:=w.heap.extract 0 B}
theorem ac5 (w:World) (B:Nat):Ext (Bf w B) w:=by
 refine⟨rfl,rfl,rfl,?_,fun k b=>?_⟩
 ·simp[Bf];omega
 ·simp[Bf] at b⊢;simp[Array.getElem?_extract,show k<B by omega,show k<w.heap.size by omega];omega
theorem ac6 {w:World} {B:Nat} (h:B<=w.heap.size):(Bf w B).heap.size=B:=by simp[Bf];omega
def oO (B:Nat) (T:TypeId):Rel:=fun w w'=>Below B w w'/\∀b d t,t≠T->ah w b (.cells d t)->ah w' b (.cells d t)
theorem rC {B:Nat} {T:TypeId} {w w':World} {base:Nat} {e:TypeId} {size:Nat} {v:Value} {n:Nat} {xs:List Value} (h:w.ownsRow base e size v n xs) (g:e≠T) (c:oO B T w w'):w'.ownsRow base e size v n xs:=by
 refine⟨h.1,?_⟩;rcases h.2 with l | ⟨b,f,d,rfl,i,j,rest⟩
 ·exact .inl l
 ·exact .inr ⟨b,f,d,rfl,i,c.2 b d e g j,rest⟩
theorem He {B b:Nat} {T:TypeId} {w w':World} {e:Array Value} (h:ah w b (.cells e T)) (i:B<=b) (c:aI b w w'):oO B T w w':=
 ⟨⟨c.os,c.tape,c.output,by rw[c.size];have:=ah.lt h;omega,fun k j=>c.block k af⟩,fun g f t d h'=>c.blk h' (DM h' h d)⟩
theorem ac7 {B b:Nat} {T:TypeId} {w w':World} {f:Array Value} (h:ah w b (.cells f T)) (j:B<=b) (c:w.grownBy w' (some b)):oO B T w w':=
 ⟨⟨c.os,c.tape,c.output,by have:=c.size;have:=ah.lt h;omega,fun k l=>c.block k (by have:=ah.lt h;omega) aY⟩,fun i g t d h'=>ah.grown h' c (by
   have:=DM h' h d;simp;exact fun e=>this e.symm)⟩
theorem pZ {w w':World} {B size n:Nat} {T:TypeId} {v:Value} {xs:List Value} (j:w.grownBy w' v.ownBlock) (l:w.ownsRow B T size v n xs) (q:B<=w.heap.size):oO B T w w':=by
 refine⟨Below.ij j l (aH _) q,fun b r t i d=>(j.block b (ah.lt d) (fun e=>?_)).trans d⟩;obtain⟨_,⟨rfl,_⟩ | ⟨g,m,o,rfl,_,f,_⟩⟩:=l
 ·simp[Value.ownBlock] at e
 ·simp[Value.ownBlock] at e;exact DM d f i e
def RD (B nb:Nat) (b:Array Value):Nat->Rel:=fun i=>if i=4 then oO B 216 else if i=7 then(fun w w'=>oO B 142 w w'/\ah w nb (.cells b 106)) else oO B 106
def PrD (B rb nb:Nat) (r3:List UInt8) (b:Array Value) (q:Option Addr) (k c:Nat) (es:List aG):Nat->World->Prop:=fun p w=>
 (p=4->ah w rb (.cells #[.string ⟨r3.toArray⟩] 216))/\(p=7->w.ownsRow B 142 2 (.slice q k c) k (aV es))/\(p=9->ah w nb (.cells b 106))
def apK (rb:Nat) (r4:List UInt8):Fact:=fun _ w=>ah w rb (.cells #[.string ⟨r4.toArray⟩] 216)
def ac8 (B nb k:Nat) (lv nx:Int) (es:List aG):Fact:=fun _ w=>∃d b,ah w nb (.cells #[.int .i64 lv,.int .i64 nx,.slice d (k+1) b] 106)/\w.ownsRow B 142 2 (.slice d (k+1) b) (k+1) (aV es)
def GD (B rb nb k:Nat) (r4:List UInt8) (lv nx:Int) (es:List aG):Nat->Nat->Fact:=fun p _=>if p=4 then apK rb r4 else if p=9 then ac8 B nb k lv nx es else Any
theorem apL {l:List Oper} {u:World} {B rb nb k c:Nat} {q:Option Addr} {r4:List UInt8} {lv nx:Int} {es:List aG} (E:u.heap.size<=B) (C:kU .any l 3 4=true) (D:kU .any l 8 9=true):
 uj l u [(4,[(3,48)]),(7,[(1,46),(6,51)]),(9,[(8,53)])] (RD B nb #[.int .i64 lv,.int .i64 nx,.slice q k c]) (GD B rb nb k r4 lv nx es):=by
 refine⟨fun i w w' h=>?_,fun i j=>?_,fun p j i d t hne x a b h e=>?_,fun p j d=>?_⟩
 ·have f:Below B w w':=by
   unfold RD at h;split at h
   ·exact h.1
   ·split at h
    ·exact h.1.1
    ·exact h.1
  exact⟨f.os,f.tape,f.output,f.size,fun k d=>f.block k af⟩
 ·unfold GD;split
  ·exact fun _ _ _ m h=>m.blk _ _ h
  ·split
   ·exact fun _ _ _ m ⟨r,n,g,o⟩=>⟨r,n,m.blk _ _ g,aO o m⟩
   ·exact Any.ay
 ·simp[iT] at d;simp[eN] at t;unfold GD at e⊢;rcases d with⟨rfl,_⟩ | ⟨rfl,_⟩ | ⟨rfl,_⟩
  ·rw[aC rfl] at e⊢;unfold RD at h;rw[aA hne] at h;split at h
   ·exact h.1.2 _ _ _ aq e
   ·exact h.2 _ _ _ aq e
  ·trivial
  ·rw[aA aq,aC rfl] at e⊢;obtain⟨r,n,g,o⟩:=e;rcases t with rfl | rfl | rfl
   ·exact⟨r,n,h.2 _ _ _ aq g,rC o aq h⟩
   ·obtain⟨_,y⟩:=h;have z:=jF (g.symm.trans y);simp at z
   ·exact tP
 ·simp[iT] at d;unfold GD;rcases d with⟨rfl,rfl⟩ | ⟨rfl,_⟩ | ⟨rfl,rfl⟩
  ·exact .inr C
  ·exact .inl rfl
  ·exact .inr D
theorem apM {l:List Oper} {N B rb nb k c:Nat} {q:Option Addr} {r3:List UInt8} {lv nx:Int} {es:List aG} (n:kU .any l 4 7=true) (o:kU .any l 4 9=true) (t:kU .any l 7 9=true) (i:gI .any l.toArray N=true):
 Pre.sU .any l.toArray [(4,[(3,48)]),(7,[(1,46),(6,51)]),(9,[(8,53)])] (RD B nb #[.int .i64 lv,.int .i64 nx,.slice q k c]) (PrD B rb nb r3 #[.int .i64 lv,.int .i64 nx,.slice q k c] q k c es):=by
 refine⟨fun p _ w w' j ⟨f,d,b⟩=>⟨fun e=>j.blk _ _ (f e),fun e=>aO (d e) j,fun e=>j.blk _ _ (b e)⟩,fun p q m g hne=>?_⟩;simp[eN] at m g;rcases m with rfl | rfl | rfl
 ·rcases g with rfl | rfl | rfl
  ·exact tP
  ·exact .inl (rK i n)
  ·exact .inl (rK i o)
 ·rcases g with rfl | rfl | rfl
  ·exact .inr fun w w' r ⟨f,d,b⟩=>⟨fun e=>af,fun _=>rC (d rfl) aq r,fun e=>af⟩
  ·exact tP
  ·exact .inl (rK i t)
 ·rcases g with rfl | rfl | rfl
  ·exact .inr fun w w' r ⟨f,d,b⟩=>⟨fun e=>af,fun e=>af,fun _=>r.2 _ _ _ aq (b rfl)⟩
  ·exact .inr fun w w' r ⟨f,d,b⟩=>⟨fun e=>af,fun e=>af,fun _=>r.1.2 _ _ _ aq (b rfl)⟩
  ·exact tP
def lG (size:Int) (data:List UInt8) (w:World) (e:Ending) (w':World):Prop:=Ext w w'/\∃q c,e=.returned (.tuple #[.agg #[.int .i64 (dz size data).level,.int .i64 (dz size data).next,.slice q (dz size data).ai.length c],.int .i64 (gH size data)])/\
 w'.ownsRow w.heap.size 142 2 (.slice q (dz size data).ai.length c) (dz size data).ai.length (aV (dz size data).ai)
theorem ab5 (size:Int) (data:List UInt8) (hl:data.length<=1000000) (w:World):
 Calls Tryz.prog 120 #[.int .i64 size,.string ⟨data.toArray⟩] w (lG size data w):=by
 have HZ:=ag (fun W=>RK size W);cases hz:cQ size
 ·rw[hz] at HZ;have HO:Hid (∀e w',(Ext w w'/\e=.returned (.tuple #[.agg #[.int .i64 0,.int .i64 0,.slice none 0 0],.int .i64 1]))->lG size data w e w'):=ag (fun e w' ⟨h1,h2⟩=>by
   have h3:gH size data=1:=by unfold gH;rw[hz,aC rfl]
   exact Kv)
  generalize lG size data w=OUT at *;clear hz hl;have f:=ah.new w (.cells #[.int .i64 0,.int .i64 0,.slice none 0 0] 106);have MV:=Ext.alloc w (.cells #[.int .i64 0,.int .i64 0,.slice none 0 0] 106);go_enter Tryz.func120,Tryz.ntmps120;go_upto_region 2 with(go_at_call 149;refine(HZ.out _).mono ?_;rintro e S ⟨rfl,rfl⟩);have d0:=ah.val f 0 _ rfl;have d1:=ah.val f 1 _ rfl;have d2:=ah.val f 2 _ rfl;have f0:=ah.free f 0;have f1:=ah.free f 1;have f2:=ah.free f 2;have vv:=ah.lt f;go_wp2_with fail;exact bY (dM Tryz.results120 _ _ _ _ _ _ rfl f cZ rfl bq) rfl (HO.out _ _ ⟨MV,rfl⟩)
 ·rw[hz] at HZ;have L:=ag (fun(rb:Nat) (rest:List UInt8) (hr:rest.length<=1000000) W (hb:ah W rb (.cells #[.string ⟨rest.toArray⟩] 216))=>apH rb rest hr W hb);have vw:=ag (fun(rb:Nat) (rest:List UInt8) (hr:rest.length<=1000000) W (hb:ah W rb (.cells #[.string ⟨rest.toArray⟩] 216))=>apI rb rest hr W hb);have MV:=(Ext.alloc w (.cells #[.int .i64 0,.int .i64 0,.slice none 0 0] 106)).trans (Ext.alloc _ (.cells #[.string ⟨data.toArray⟩] 216));have f:ah ((w.alloc (.cells #[.int .i64 0,.int .i64 0,.slice none 0 0] 106)).alloc (.cells #[.string ⟨data.toArray⟩] 216)) w.heap.size (.cells #[.int .i64 0,.int .i64 0,.slice none 0 0] 106):=ah.alloc (ah.new w _) _;have hrb:ah ((w.alloc (.cells #[.int .i64 0,.int .i64 0,.slice none 0 0] 106)).alloc (.cells #[.string ⟨data.toArray⟩] 216)) (w.heap.size+1) (.cells #[.string ⟨data.toArray⟩] 216):=ah.new1 _ _ _ av;have E:Hid (∀e w',(dS size (fQ data)≠0∨iW size (fQ data)≠data)->(Ext w w'/\e=.returned (.tuple #[.agg #[.int .i64 0,.int .i64 0,.slice none 0 0],.int .i64 11]))->lG size data w e w'):=ag (fun e w' hc ⟨h1,h2⟩=>by
   have h0:lX size data=false:=by
    exact WZ
   have h3:gH size data=11:=by unfold gH;rw[hz,h0];rfl
   exact Kv)
  have F:Hid (∀e w' (q:Option Addr) (c:Nat),dS size (fQ data)=0->iW size (fQ data)=data->Ext w w'->e=.returned (.tuple #[.agg #[.int .i64 (fQ data).level,.int .i64 (fQ data).next,.slice q (fQ data).ai.length c],.int .i64 0])->
   w'.ownsRow (w.heap.size+1) 142 2 (.slice q (fQ data).ai.length c) (fQ data).ai.length (aV (fQ data).ai)->lG size data w e w'):=ag (fun e w' q c hc1 hc2 h1 h2 h5=>by
   have h0:lX size data=true:=by
    unfold lX;rw[bM hc1,hc2];simp
   have h3:gH size data=0:=by unfold gH;rw[hz,h0];rfl
   have h4:dz size data=fQ data:=by unfold dz;rw[aC h3]
   unfold lG;rw[h3,h4];exact⟨h1,q,c,h2,fJ h5 af⟩)
  generalize lG size data w=OUT at *;clear hz;go_enter Tryz.func120,Tryz.ntmps120;go_upto_region 5 with(go_at_call 149;refine(HZ.out _).mono ?_;rintro e S ⟨rfl,rfl⟩);refine aR (fun w0=>Ext w w0/\ah w0 w.heap.size (.cells #[.int .i64 0,.int .i64 0,.slice none 0 0] 106)/\ah w0 (w.heap.size+1) (.cells #[.string ⟨data.toArray⟩] 216)) ⟨MV,f,hrb⟩ ?_;clear MV f hrb;rintro w0 ⟨hx0,hz0,hb0⟩;go_upto_region 8 with(first
   | (go_at_call 150;(with_reducible refine(L.out _ _ af _ hb0).mono ?_);rintro e w1 ⟨rfl,X,hg1⟩)
   | (go_at_call 150;(with_reducible refine(vw.out _ _ xX _ X).mono ?_);rintro e S ⟨rfl,Y,qQ⟩)
   | (go_at_call 150;refine(L.out _ _ (by rw[eU,eU];omega) _ (ah.alloc Y _)).mono ?_;rintro e w3 ⟨rfl,lS,rR⟩))
  have e6:List.drop 1 (List.drop 4 (List.drop 1 data))=data.drop 6:=by simp[sN]
  rw[e6] at lS;have apN:=ah.lt hz0;have aa7:=ah.lt hb0;have hs1:=hg1.size;have vk:=qQ.size;have hz2:=ah.grown (ah.grown hz0 hg1 av) qQ av;have jA:=ah.grown (ah.alloc hz2 (.cells #[.int .i64 (dI (List.take 1 data):Nat),.int .i64 (dI (List.take 4 data.tail):Nat),.slice none 0 0] 106)) rR av;have lY:=ah.grown (ah.new S (.cells #[.int .i64 (dI (List.take 1 data):Nat),.int .i64 (dI (List.take 4 data.tail):Nat),.slice none 0 0] 106)) rR aY;have kI:Ext w w3:=G9 ((G9 (G9 hx0 hg1 af) qQ af).trans (Ext.alloc S (.cells #[.int .i64 (dI (List.take 1 data):Nat),.int .i64 (dI (List.take 4 data.tail):Nat),.slice none 0 0] 106))) rR af;have Hlv:Hid (dI (List.take 1 data)=G8 data):=ag rfl;have Bg:Hid (dI (List.take 4 data.tail)=DK data):=ag (by unfold DK;rw[List.drop_one]);have Hct:Hid (dI (List.take 1 (List.drop 5 data))=uz data):=ag rfl;have Sn:dI (List.take 1 (List.drop 5 data))<256:=MR _;have ayB:w.heap.size+1<S.heap.size:=af;clear hz0 hb0 hx0 X Y hg1 qQ rR hz2 e6 hs1 vk apN aa7;generalize dI (List.take 1 data)=lv at *;generalize dI (List.take 4 data.tail)=nx at *;generalize dI (List.take 1 (List.drop 5 data))=N at *;generalize S.heap.size=nb at *
  go_loopw[9,30] (fun Tm i wr=>∃k:Nat,k<=N/\i=.int .i64 k/\Tm=.string ⟨(eY data k).before.toArray⟩/\ah wr (w.heap.size+1) (.cells #[.string ⟨(eY data k).rest.toArray⟩] 216)/\Ext w wr/\ah wr w.heap.size (.cells #[.int .i64 0,.int .i64 0,.slice none 0 0] 106)/\
   ∃q c,ah wr nb (.cells #[.int .i64 lv,.int .i64 nx,.slice q k c] 106)/\wr.ownsRow (w.heap.size+1) 142 2 (.slice q k c) k (aV (eY data k).ai)) (fun _ i _=>N-(intOf i).toNat)
  case atStart=>exact⟨0,bL _,rfl,rfl,lS,kI,jA,none,0,lY,rfl,.inl ⟨rfl,rfl⟩⟩
  case round=>
   clear lS kI jA lY;obtain⟨k,hk,rfl,rfl,m,om,mY,q,c,ku,H⟩:=hrel;by_cases hlt:k<N
   ·have gB:(k:Int)<N:=af;have wV:k<256:=af;have O:(eY data k).rest.length<=1000000:=fN (ac2 data k) hl;have Tn:=acT data k;have Di:Hid (eY data (k+1)=y9 (eY data k)):=ag rfl;have HE:=ag (MS data k);generalize eY data k=s at *;obtain⟨C,rs,es⟩:=s;simp only at m O Tn H HE⊢;have J:=ag (And.intro om (And.intro mY (And.intro ku H)));clear om mY ku H;have hmin:min ((dI (rs.take 1):Nat):Int) (C.length:Int)=((min (dI (rs.take 1)) C.length:Nat):Int):=af;go_upto_region 10 with(go_at_call 150;(with_reducible refine(L.out _ _ O _ m).mono ?_);rintro e w5 ⟨rfl,rQ,qV⟩);have ayC:min (dI (rs.take 1)) C.length<=C.length:=Nat.min_le_right _ _;have HF:Hid (Be ⟨C,rs,es⟩=min (dI (rs.take 1)) C.length):=ag rfl;clear hmin;generalize min (dI (rs.take 1)) C.length=fr at *;have ayD:(fr:Int)<=C.length:=af;obtain⟨D,hr1⟩:∃D,D=rs.drop 1:=⟨_,rfl⟩;have Hr1:=ag hr1;rw[<-hr1] at rQ;have hd1:D.length<=1000000:=by rw[hr1,eU];omega
    clear hr1;have pU:(D.drop 1).length<=1000000:=xX;have hmo:=MR D;have ade:=(Ext.drew w5).blk _ _ rQ;go_region_with(first
     | (go_at_call 150;refine(L.out _ _ hd1 _ ade).mono ?_;rintro e w6 ⟨rfl,vz,p6⟩)
     | (go_at_call 151;refine(ac0 _ _ _ af pU _ vz).mono ?_;rintro e w7 ⟨rfl,Hf,xm⟩))
    have T:=ag (Dv (Dv (Dv qV (Mk _ (Ext.drew w5)) (ah.lt m)) p6 (ah.lt m)) (Sh xm) (ah.lt m));have HB:Hid (C.take fr++List.take (dI (List.take 1 D)) D.tail=rY ⟨C,rs,es⟩/\List.drop (dI (List.take 1 D)) (List.drop 1 D)=qX ⟨C,rs,es⟩):=ag (by
     unfold rY qX tg;rw[HF.out];simp only;rw[<-Hr1.out,show rs.drop 2=D.drop 1 by rw[Hr1.out,sN],List.drop_one];exact⟨rfl,rfl⟩)
    clear rQ ade vz p6 qV xm;generalize List.drop (dI (List.take 1 D)) (List.drop 1 D)=r3 at *;generalize C.take fr++List.take (dI (List.take 1 D)) D.tail=l at *;have hd3:r3.length<=1000000:=by
     rw[HB.out.2];unfold qX;simp only[eU];omega
    have hQ7:ah w7 nb (.cells #[.int .i64 lv,.int .i64 nx,.slice q k c] 106):=ah.grown J.out.2.2.1 T.out aY;have hrd:oO (w.heap.size+1) 216 wr w7:=ac7 m (aH _) T.out;have hO7:=rC J.out.2.2.2 aq hrd;have hZ7:=ah.grown J.out.2.1 T.out av;have M:Ext w w7:=G9 J.out.1 T.out af;have hB7:w.heap.size+1<=w7.heap.size:=by have:=ah.lt Hf;omega
    have n:=ac5 w7 (w.heap.size+1);have hcs:=ac6 (w:=w7) (B:=w.heap.size+1) hB7;generalize Bf w7 (w.heap.size+1)=wc at n hcs;have adj:w.heap.size+1<=nb:=af;obtain⟨I,Tp⟩:∃I,I=dI (r3.take 4):=⟨_,rfl⟩;have Hnv:Hid (∀(w:World),Is (.int .i64 (I:Nat)) (.int .i64 (dI (r3.take 4):Nat)) w):=ag (fun _=>by rw[Tp];rfl);have apP:=ag Tp;clear Tp;go_upto_region 11 with(fail);refine Pre.kH 200 [(4,[(3,48)]),(7,[(1,46),(6,51)]),(9,[(8,53)])] (n) aj aj aj aj aj aj (apL (B:=w.heap.size+1) (rb:=w.heap.size+1) (nb:=nb) (k:=k) (c:=c) (q:=q) (r4:=r3.drop 4) (lv:=(lv:Int)) (nx:=(nx:Int)) (es:=(es++[(l,(I:Int))])) af aj aj) (apM (rb:=w.heap.size+1) (r3:=r3) (es:=es) aj aj aj) (fun p hp=>⟨fun _=>Hf,fun _=>hO7,fun _=>hQ7⟩) ?_;simp only[cY,eF,gj,dV,dP,gC,dh,dQ];repeat (first
     | (refine Pre.dF (o:=⟨some 46,_,_,_,_,_⟩) (v:=.slice q k c) (fun k v=>Pre.iF.is _ _ _ _ k v) aj aP ?_ ?_
        ·intro a' w' he0 hp hr K' hK;have hw:=(hp 9 aj aj).2.2 rfl;have hv:=ah.val hw 2 _ rfl;have hl:=ah.lt hw;exact E9
        refine aE ?_)
     | (refine Pre.iU (o:=⟨some 49,_,_,_,_,_⟩) (Is (.int .i64 (I:Nat))) (Is.ay _) (Pre.iF.is _ _ _ _ _ _) aj aP ?_ ?_
        ·intro a' w' he0 hp hr K' hK;have hw:=(hp 4 aj aj).1 rfl;simp[Reads,Oper.looksAt,Op.operands,Call.operands,aJ,Is] at hr;go_simp;refine(vw.out _ _ hd3 _ hw).mono ?_;rintro e w'' ⟨rfl,wm,jN⟩;exact hK _ _ (ac7 hw (aH _) jN) (Hnv.out _) (fun x hx t y hy=>by
          simp at hx;rcases hx with rfl | rfl | rfl
          ·simp at hy;subst hy;exact wm
          ·simp at t
          ·simp at t)
        refine aE ?_)
     | (refine Pre.dF (o:=⟨some 50,_,_,_,_,_⟩) (v:=.agg #[.string ⟨l.toArray⟩,.int .i64 (I:Nat)]) (fun k v=>Pre.iF.is _ _ _ _ k v) aj aP ?_ ?_
        ·intro a' w' he0 hp hr K' hK;have EP:=hr 47 bO;have Pp:=hr 49 bO;refine tJ 142 #[(0,.tmp 47),(1,.tmp 49)] rfl ?_ ?_
         ·rw[(show((#[(0,Operand.tmp 47),(1,Operand.tmp 49)]:Array (Nat×Operand)).map fun(i,x)=>(i,a'.eval x)).toList=[(0,.string ⟨l.toArray⟩),(1,.int .i64 (I:Nat))] from WD),za];rfl
         ·rw[(show((#[(0,Operand.tmp 47),(1,Operand.tmp 49)]:Array (Nat×Operand)).map fun(i,x)=>(i,a'.eval x)).toList=[(0,.string ⟨l.toArray⟩),(1,.int .i64 (I:Nat))] from WD),za];exact hK _ (Ext.refl _)
        refine aE ?_)
     | (refine Pre.dY (o:=⟨some 51,_,_,_,_,_⟩) (dx 1 1 (.cells #[.string ⟨l.toArray⟩,.int .i64 (I:Nat)] 142)) (dx.ay _ _ _) (fun x hx=>by
         simp at hx;rcases hx with rfl | rfl | rfl
         ·exact .inl aj
         ·exact .inl aj
         ·exact Ys) aj aP ?_ ?_
        ·intro a' w' he0 hp hr K' hK;exact Fa
        simp only[bZ,bG,bN])
     | (refine Pre.iU (o:=⟨some 52,_,_,_,_,_⟩) (dJ 142 (w.heap.size+1) 2 (k+1) (aV (es++[(l,(I:Int))]))) (dJ.ay _ _ _ _ _) (fun x hx=>by
         simp at hx;rcases hx with rfl | rfl | rfl
         ·exact .inl aj
         ·exact .inl aj
         ·exact Yn) aj aP ?_ ?_
        ·intro a' w' he0 hp hr K' hK;have hn:=(hp 9 aj aj).2.2 rfl;have ho:=(hp 7 aj aj).2.1 rfl;have h46:=hr 46 gM;obtain⟨b,X,Y⟩:=hr 51 gM;have hsz:w.heap.size+1<=w'.heap.size:=by have:=he0.size;omega
         refine wS (.tmp 46) (.tmp 51) 104 142 rfl (w.heap.size+1) (.agg #[.string ByteArray.empty,.int .i64 0]) 2 24 Tryz.underlying104 um rfl aq _ k _ h46 ho (some ⟨b,0,none⟩) 1 1 [.string ⟨l.toArray⟩,.int .i64 (I:Nat)] X rfl rfl (n8 (ys:=[.string ⟨l.toArray⟩,.int .i64 (I:Nat)]) Y) vO af aq hsz ?_;intro v' w'' ho' hg;obtain⟨q',c',rfl⟩:=cE ho';exact hK _ _ ⟨pZ hg ho hsz,hn⟩ ⟨q',c',rfl,by rw[ac4];exact ho'⟩ (fun x hx t y hy=>by
          simp at hx;rcases hx with rfl | rfl | rfl
          ·simp at t
          ·trivial
          ·simp at t)
        simp only[bZ,bG,bN])
     | (refine Pre.iU (o:=⟨none,_,_,_,_,_⟩) Any Any.ay (fun x hx=>.inr fun _ _ _ _ _=>trivial) aj aP ?_ ?_
        ·intro a' w' he0 hp hr K' hK;have hn:=(hp 9 aj aj).2.2 rfl;have Tq:a'.tmps.getD 53 undef=.pointer (some ⟨nb,2,none⟩):=hr 53 bO;obtain⟨q',c',Tr,ho⟩:=hr 52 bO;have hv:=ah.val hn 2 _ rfl;have hf:=ah.free hn 2;have hl:=ah.lt hn;have Tr:a'.tmps.getD 52 undef=.slice q' (k+1) c':=Tr;simp at Tq Tr;go_simp;exact hK undef _ (He hn adj aI.setCell) trivial (fun x hx t y hy=>by
          simp at hx;rcases hx with rfl | rfl | rfl
          ·simp at t
          ·simp at t
          ·simp at hy;subst hy;exact⟨q',c',ah.setCell hn,rC ho aq (He hn adj aI.setCell)⟩)
        refine aE ?_)
     | (refine CB ?_)
     | (refine E5 ?_))
    intro S he2;simp only[iJ,iQ,jS,kW,bG,bN];simp only[dh,dQ,bG,bN,qt,qu];repeat (first | with_reducible refine cH _ _ _ _ ?_ | (with_reducible refine cI _ _ _ _ ?_;intro _ _) | with_reducible refine cJ _ _ ?_)
    try simp only[cF,cK,bQ,bE]
    rename_i v1 F1 v2 F2 v3 F3 v4 F4 v5 F5;have Z:ah S (w.heap.size+1) (.cells #[.string ⟨(r3.drop 4).toArray⟩] 216):=F2;have F5':ac8 (w.heap.size+1) nb k lv nx (es++[(l,(I:Int))]) v5 S:=F5;obtain⟨q',c',rZ,fI⟩:=F5';have hlz:w.heap.size<wc.heap.size:=af;have V:=he2.blk _ _ ((n.block _ hlz).symm.trans hZ7);have hXc:Ext w wc:=⟨n.os.symm.trans M.os,n.tape.symm.trans M.tape,n.output.symm.trans M.output,af,fun j hj=>(n.block j af).symm.trans (M.block j hj)⟩;have U:Ext w S:=hXc.trans he2;have HR:=ag (And.intro Z (And.intro rZ (And.intro fI (And.intro V U))));clear F1 F2 F3 F4 F5 Z rZ fI V U he2 n hcs hlz Hf hO7 hQ7 hZ7 M hB7 hrd m;go_wp2_with fail;go_roundw
    case rel=>
     obtain⟨Z,rZ,fI,V,U⟩:=HR.out;obtain⟨e1,e2⟩:=HB.out;refine⟨k+1,af,bX,?_,?_,U,V,q',c',rZ,?_⟩
     ·rw[Di.out,e1];rfl
     ·rw[Di.out];show ah _ _ (.cells #[.string ⟨((qX ⟨C,rs,es⟩).drop 4).toArray⟩] _);rw[<-e2];exact Z
     ·rw[Di.out];show World.ownsRow _ _ _ _ _ _ (aV (es++[(rY ⟨C,rs,es⟩,((dI ((qX ⟨C,rs,es⟩).take 4):Nat):Int))]));rw[<-e1,<-e2,<-apP.out];exact fI
    case measure=>exact ct
   ·have gB:decide ((k:Int)<N)=false:=aM af;have zb:k=N:=af;subst zb;have Hh:fQ data=⟨(lv:Int),(nx:Int),(eY data k).ai⟩:=by
     unfold fQ;rw[<-Hlv.out,<-Bg.out,<-Hct.out]
    have hpl:=MS data k;rw[Hh] at E F;simp only at F;generalize(eY data k).ai=es at *;subst hpl;have z:=ag (fun W (e:Ext wr W)=>an8 size q c ⟨(lv:Int),(nx:Int),es⟩ W ((mq H).ext e) fj);unfold dO at z;simp only at z;have J:=ag (And.intro om (And.intro mY (And.intro ku H)));have hlz:w.heap.size<nb:=af;clear om mY H m Hh Hlv Bg Hct hlt L vw;have HSn:=ag (fun(h:dS size ⟨(lv:Int),(nx:Int),es⟩=0)=>ac3 h);by_cases hE:dS size ⟨(lv:Int),(nx:Int),es⟩=0
    ·have hS:=HSn.out hE;rw[hE,hS] at z;by_cases hD:iW size ⟨(lv:Int),(nx:Int),es⟩=data
     ·rw[hD] at z;have HO:=ag (fun e w' q c=>F.out e w' q c hE hD);clear E F hE hS hD;have DN:(data !=data)=false:=av;go_wp2_with(first
       | (refine OZ ?_)
       | (go_at_call 152;refine(z.out wr (Ext.refl wr)).mono ?_;rintro e w5 ⟨rfl,g⟩;have Ht:=g.blk _ _ ku;have d:=g.blk _ _ J.out.2.1)
       | ((with_reducible refine aW 70 ?_);refine bz rfl 106 (.tmp 8) rfl _ rfl _ _ _ Ht cZ rfl bq ?_)
       | (refine aU rfl 106 (.tmp 4) (.tmp 70) rfl _ #[.int .i64 lv,.int .i64 nx,.slice q es.length c] rfl rfl _ _ d bq rfl cT ?_;intro w6 R G))
      exact bY (dM Tryz.results120 _ _ _ _ _ _ rfl R cZ rfl bq) rfl (HO.out _ _ q c (G.ext (J.out.1.trans g) (aH _)) rfl (Qf (aO J.out.2.2.2 g) G af))
     ·have HO:=ag (fun e w'=>E.out e w' (.inr hD));clear E F hE hS;generalize iW size ⟨(lv:Int),(nx:Int),es⟩=en at *;have DN:(en !=data)=true:=by simpa using hD
      have apS:(en==data)=false:=by simpa using hD
      go_wp2_with(first
       | (refine OZ ?_)
       | (go_at_call 152;refine(z.out wr (Ext.refl wr)).mono ?_;rintro e w5 ⟨rfl,g⟩;have d:=g.blk _ _ J.out.2.1;have d0:=ah.val d 0 _ rfl;have d1:=ah.val d 1 _ rfl;have d2:=ah.val d 2 _ rfl;have f0:=ah.free d 0;have f1:=ah.free d 1;have f2:=ah.free d 2;have ayE:=ah.lt d)
       | (refine dW (o:=⟨some 69,_,_,_,_,_⟩) rfl 106 #[] rfl [] rfl _ uK ?_)
       | (refine aU rfl 106 (.tmp 4) (.tmp 69) rfl _ #[.int .i64 0,.int .i64 0,.slice none 0 0] rfl rfl _ _ d bq rfl cT ?_;intro w6 R G))
      exact bY (dM Tryz.results120 _ _ _ _ _ _ rfl R cZ rfl bq) rfl (HO.out _ _ ⟨G.ext (J.out.1.trans g) (aH _),rfl⟩)
    ·have HO:=ag (fun e w'=>E.out e w' (.inl hE));have hEi:(dS size ⟨(lv:Int),(nx:Int),es⟩!=0)=true:=by simpa using hE
     clear E F HSn;generalize dS size ⟨(lv:Int),(nx:Int),es⟩=ee at *;go_wp2_with(first
      | (refine OZ ?_)
      | (go_at_call 152;refine(z.out wr (Ext.refl wr)).mono ?_;rintro e w5 ⟨rfl,g⟩;have d:=g.blk _ _ J.out.2.1)
      | (refine dW (o:=⟨some 69,_,_,_,_,_⟩) rfl 106 #[] rfl [] rfl _ uK ?_)
      | (refine aU rfl 106 (.tmp 4) (.tmp 69) rfl _ #[.int .i64 0,.int .i64 0,.slice none 0 0] rfl rfl _ _ d bq rfl cT ?_;intro w6 R G))
     exact bY (dM Tryz.results120 _ _ _ _ _ _ rfl R cZ rfl bq) rfl (HO.out _ _ ⟨G.ext (J.out.1.trans g) (aH _),rfl⟩)
end Go.Proofs.YteninnkbmoimgaaGreatDoor

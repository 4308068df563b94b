/- A part of the proof. -/
import Derived.Test.YteninnkbmoimgaaGreatDoorRV
import Derived.Test.YteninnkbmoimgaaGreatDoorDD
set_option linter.unusedSimpArgs false
set_option linter.unusedVariables false
set_option maxRecDepth 100000
set_option maxHeartbeats 16000000
namespace aD
theorem apU {L:List aG} {k:Nat} {x:Int}:(vm L k x).getD false=(mZ L k).contains x:=by
 unfold vm mZ;rw[Lh,uf,gu,Gb];split
 ·rename_i h;exact⟨fun _=>h,fun _=>rfl⟩
 ·rename_i h;exact⟨fun e=>(by cases e),fun e=>absurd e h⟩
end aD
namespace Go.Proofs.YteninnkbmoimgaaGreatDoor
open Go.RowKit aD
theorem adl (d:DS) (a:Ar) (q:Option Addr) (c:Nat) (p:Option Addr) (m:Nat) (w:World) (hk:dA d=true) (hv:pW w a q c p m) (hl:a.nd.ai.length<=1000000):
 Calls Tryz.prog 121 #[.agg (az d),.agg (bn a q c p m)] w fun e w'=>e=.returned (.bool (qO d a.base a.nd))/\Ext w w':=by
 have HB:=ag (fun W=>abo a.base W);have HV:=ag (fun W (e:Ext w W)=>amD d.interval q c a.nd W (hv.ai.ext e) hl);have HR:Hid (qO d a.base a.nd=(eX a.base&&kS d.interval a.nd&&decide (a.nd.level=0)&&decide ((a.nd.ai.length:Int)<=d.aN)&&iO a.base d.aN [] a.nd.ai)):=ag rfl;have ha1:2<=d.aN:=Ko;have ayF:d.aN<=8:=Ko;have C:=ag hv.ai;unfold dO at HV;have hmm:=@run_makeMap Tryz.prog;clear hk hv;go_enter Tryz.func121,Tryz.ntmps121;go_upto_region 1 with(fail);refine aR (fun T=>Ext w T/\bI T w.heap.size d/\eS T (w.heap.size+1) a q c p m) (oJ w d a q c p m) ?_;rintro T ⟨he0,dr,ha0⟩;obtain⟨c0,c1,c2,c3,c4,la⟩:=ha0.cells;have d7:=ah.val dr 7 _ rfl;have ld:=ah.lt dr;cases hb:eX a.base
 ·rw[hb] at HB HR;clear hb;go_wp2_with(go_at_call 119;refine(HB.out _).mono ?_;rintro e w1 ⟨rfl,rfl⟩);go_ret;exact⟨nR,he0⟩
 ·rw[hb] at HB HR;have hb1:1<=a.base:=XE;have hb2:a.base<=16777208:=XE;have hw1:IntKind.i64.wrap (a.base+d.aN)=a.base+d.aN:=IntWalk.i64_in _ af;clear hb;cases hn:kS d.interval a.nd
  ·rw[hn] at HV HR;clear hn;go_wp2_with(first
    | (go_at_call 119;refine(HB.out _).mono ?_;rintro e w1 ⟨rfl,rfl⟩)
    | (refine OY ?_)
    | (go_at_call 153;refine(HV.out _ he0).mono ?_;rintro e w2 ⟨rfl,he2⟩))
   go_ret;exact⟨nR,he0.trans he2⟩
  ·rw[hn] at HV HR;have M:eC a.nd=true:=by unfold kS at hn;simp only[eu] at hn;exact hn.1.2
   have ns:=ia.1 M;have HP:=ag (fun k (hk:k<a.nd.ai.length)=>(K5 a.nd.ai [] ns.ai (au a.nd.ai k) Co).2);have f:=ns.l2;clear hn M ns hl;by_cases l:a.nd.level=0
   ·have i1:(a.nd.level !=0)=false:=by rw[l];rfl
    rw[bM l] at HR;clear l;by_cases u:(a.nd.ai.length:Int)<=d.aN
    ·have i2:decide (d.aN<(a.nd.ai.length:Int))=false:=aM af;have FX:Hid (qO d a.base a.nd=iO a.base d.aN [] a.nd.ai):=ag (by rw[HR.out,bM u];simp);clear u HR;go_upto_region 3 with(first
      | (go_at_call 119;refine(HB.out _).mono ?_;rintro e w1 ⟨rfl,rfl⟩)
      | (refine OY ?_)
      | (go_at_call 153;refine(HV.out _ he0).mono ?_;rintro e w2 ⟨rfl,he2⟩;have ha2:=ha0.ext he2;have pU:=dr.ext he2;obtain⟨e0,e1,e2,e3,e4,LB⟩:=ha2.cells;have e8:=ah.val pU 8 _ rfl;have LC:=ah.lt pU))
     have D:=ag (he0.trans he2);clear c0 c1 c2 c3 c4 d7 la ld;go_upto_region 5 with(fail);refine aR (fun w3=>Ext w2 w3/\j6 Dw w3 w2.heap.size 0 (vm a.nd.ai 0) 0) ⟨Ext.alloc _ _,by rw[anY];exact j6.made Dw _⟩ ?_;rintro w3 ⟨Z,Hu⟩;have HU:=ag (fun k (hk:k<a.nd.ai.length)=>anZ hk);have HL:=ag f;have G:=ag (And.intro pU ha2);have H:=ag (C.out.ext D.out);clear e0 e1 e2 e3 e4 e8 LB LC pU ha2 hmm i1 i2 f HV HB he0 he2;generalize a.nd.ai=L at *;go_loopw[40] (fun i wr=>∃k:Nat,k<=L.length/\i=.int .i64 k/\(∃sz,j6 Dw wr w2.heap.size k (vm L k) sz)/\iO a.base d.aN [] L=iO a.base d.aN (mZ L k) (L.drop k)/\Ext w2 wr) (fun i _=>L.length-(intOf i).toNat)
     case atStart=>exact⟨0,bL _,rfl,⟨_,Hu⟩,rfl,Z⟩
     case round=>
      obtain⟨k,hk,rfl,⟨sz,hM⟩,N,E⟩:=hrel;have t:=ag E;have n:=ag N;clear N;by_cases j:k<L.length
      ·have K:(k:Int)<L.length:=af;obtain⟨g,off,rfl,hgb,I⟩:=(H.out.ext E).at k j;obtain⟨z,B⟩:=I k j;have F:=ag (HU.out k j);have iZ:Hid ((vm L k (au L k).2).getD false=(mZ L k).contains (au L k).2):=ag apU;have b:=ag (abX (base:=a.base) (aN:=d.aN) (used:=mZ L k) j);have HN:=ag (abW j);have y:=HP.out k j;clear I;generalize au L k=x at *;obtain⟨U,pg⟩:=x;simp only at z B F iZ y b HN;unfold gA at y;simp only[eu,gu] at y;have hwf:Hid ((Lit.int .i64 pg).wf=true):=ag (by simp[Lit.wf,IntKind.min,IntKind.max,IntKind.signed,IntKind.bits];omega);have HM:=ag hM;clear hM;go_upto_region 7 with(fail);refine aR (fun w4=>Ext wr w4/\ah w4 wr.heap.size (.cells #[.string ⟨U.toArray⟩,.int .i64 pg] 142)) ⟨Ext.alloc _ _,ah.new _ _⟩ ?_;rintro w4 ⟨r,O⟩;have Lx:=HM.out.ext r;have J:=G.out.1.ext (t.out.trans r);have X:=G.out.2.ext (t.out.trans r);have oG:=ag (D.out.trans (t.out.trans r));obtain⟨e0,e1,e2,e3,e4,la4⟩:=X.cells;have e8:=ah.val J 8 _ rfl;have ld4:=ah.lt J;have x1:=ah.val O 1 _ rfl;have lx:=ah.lt O;clear z B y hgb;have f:=HL.out;cases hc:(mZ L k).contains pg
       ·rw[hc] at iZ b;clear hc;by_cases R:pg<=a.base
        ·have j1:decide (pg<=a.base)=true:=bM R;have hF:Hid (iO a.base d.aN [] L=false):=ag (by rw[n.out,b.out,aM (show ¬a.base<pg by omega)];simp);clear R;exact Xa
        ·have j1:decide (pg<=a.base)=false:=aM R;by_cases S:a.base+d.aN<pg
         ·have j2:decide (a.base+d.aN<pg)=true:=bM S;have hF:Hid (iO a.base d.aN [] L=false):=ag (by rw[n.out,b.out,aM (show ¬pg<=a.base+d.aN by omega)];simp);clear R S;exact Xa
         ·have j2:decide (a.base+d.aN<pg)=false:=aM S;have hQ:Hid (iO a.base d.aN [] L=iO a.base d.aN (mZ L (k+1)) (L.drop (k+1))):=ag (by rw[n.out,b.out,HN.out,bM (show a.base<pg by omega),bM (show pg<=a.base+d.aN by omega)];simp);clear R S;go_wp2_with(first
           | ((with_reducible refine aW 47 ?_);refine Rk rfl (.tmp 44) (.tmp 46) rfl rfl Lx pg rfl hwf.out false iZ.out ?_)
           | (refine an0 (o:=⟨none,_,_,_,_,_⟩) rfl (.tmp 65) (.tmp 67) rfl rfl Lx (by have:=HL.out;unfold maxLen;omega) pg rfl hwf.out ?_;rw[F.out];intro w5 V Y;have jD:=ag (Y.ext (t.out.trans r) (aH _))))
          go_roundw
          case rel=>exact⟨k+1,af,bX,⟨_,V⟩,hQ.out,jD.out⟩
          case measure=>exact ct
       ·rw[hc] at iZ b;clear hc;have hF:Hid (iO a.base d.aN [] L=false):=ag (by rw[n.out,b.out];simp);go_wp2_with((with_reducible refine aW 47 ?_);refine Rk rfl (.tmp 44) (.tmp 46) rfl rfl Lx pg rfl hwf.out true iZ.out ?_);go_ret;exact⟨by rw[FX.out,hF.out];rfl,oG.out⟩
      ·have K:decide ((k:Int)<L.length)=false:=aY;have hF:Hid (iO a.base d.aN [] L=true):=ag (by rw[n.out,jI af];rfl);go_wp2;go_ret;exact⟨by rw[FX.out,hF.out];rfl,D.out.trans E⟩
    ·have i2:decide (d.aN<(a.nd.ai.length:Int))=true:=bM af;rw[aM u] at HR;clear u;exact Xd
   ·have i1:(a.nd.level !=0)=true:=by simp[l]
    rw[aM l] at HR;clear l;exact Xd
end Go.Proofs.YteninnkbmoimgaaGreatDoor
namespace aD
theorem adm:∀(a b:List UInt8) (k:Nat),k<=eO a b->b.take k=a.take k
 | a,b,0,_=>av
 | [],b,k+1,h=>by simp[eO] at h
 | x::a,[],k+1,h=>by simp[eO] at h
 | x::a,y::b,k+1,h=>by
   rw[eO] at h;split at h
   ·rename_i e;have d:x=y:=zX;subst d;rw[cY,cY,adm a b k af]
   ·omega
end aD
namespace Go.Proofs.YteninnkbmoimgaaGreatDoor
open Go.RowKit aD
theorem apW (a b:List UInt8) (l:bl a b=true) (D:b.length<=1000000) (w:World):Calls Tryz.prog 139 #[.string ⟨a.toArray⟩,.string ⟨b.toArray⟩] w fun e w'=>e=.returned (.string ⟨(uc a b).toArray⟩)/\Ext w w':=by
 have y:Hid (uc a b=b.take (eO a b+1)):=ag (by unfold uc;rw[aC l]);have C:=QM l;have o:Hid (∀k,k<=eO a b->bl a (b.take k)=false):=ag (fun k m=>by rw[adm a b k m];exact QO a k);have n:Hid (bl a (b.take (eO a b+1))=true):=ag (QN l);have t:(ByteArray.mk b.toArray).size=b.length:=ES;clear l;generalize eO a b=f at *;go_enter Tryz.func139,Tryz.ntmps139;go_upto_region 2 with(fail);go_loopw[5] (fun i wr=>wr=w/\∃k:Nat,k<=f+1/\i=.int .i64 k) (fun i _=>f+2-(intOf i).toNat)
 case atStart=>exact⟨rfl,0,af,rfl⟩
 case round=>
  obtain⟨rfl,k,m,rfl⟩:=hrel;have z:(k:Int)<=(b.length:Int):=af;have B:k<=b.length:=af;by_cases j:k<=f
  ·have g:=o.out k j;clear m;rcases Au a (b.take k) with d | d | d
   ·rw[g] at d;cases d
   ·have q:Go.Op.bytesLess (b.take k) a=false:=by rw[<-d];exact rI a
    have u:(b.take k==a)=true:=by rw[<-d];simp
    clear d g;go_wp2;refine⟨⟨trivial,k+1,af,bX⟩,uN⟩
   ·have q:Go.Op.bytesLess (b.take k) a=true:=d;clear d g;go_wp2;refine⟨⟨trivial,k+1,af,bX⟩,uN⟩
  ·have r:Hid (k=f+1):=ag af;have g:=n.out;rw[<-r.out] at g;have q:Go.Op.bytesLess (b.take k) a=false:=sR g;have u:(b.take k==a)=false:=by simpa using fun e=>lZ g e.symm
   clear g j m;go_wp2;go_ret;exact⟨by rw[y.out,<-r.out];rfl,Ext.refl _⟩
theorem Tt (q:Option Addr) (c:Nat) (n:Nd) (key:List UInt8) (w:World) (h:iV w q n.ai) (O:n.ai.length<=1000000) (r:n.ai≠[]):
 Calls Tryz.prog 133 #[dO n q c,.string ⟨key.toArray⟩] w fun e w'=>e=.returned (.int .i64 (bK n.ai key:Nat))/\Ext w w':=by
 unfold dO;have E:=ag h;have d:=ah.new w (.cells #[.int .i64 n.level,.int .i64 n.next,.slice q n.ai.length c] 106);have t:=Ext.alloc w (.cells #[.int .i64 n.level,.int .i64 n.next,.slice q n.ai.length c] 106);have D:=ag (fun k (z:k<n.ai.length)=>aa8 (key:=key) z);have B:=uY.2 r;have y:Hid (bK n.ai key=(j3 key n.ai).getD (n.ai.length-1)):=ag rfl;clear h r;generalize n.ai=L at *;generalize bK L key=I at *;go_enter Tryz.func133,Tryz.ntmps133;go_upto_region 2 with(fail);generalize w.alloc (.cells #[.int .i64 n.level,.int .i64 n.next,.slice q L.length c] 106)=J at *;have M:=ah.val d 2 _ rfl;have Q:=ah.lt d;have u:=ag t;clear d t;generalize w.heap.size=K at *;go_loopw[5] (fun i wr=>wr=J/\∃k:Nat,k<=L.length/\i=.int .i64 k/\j3 key L=(j3 key (L.drop k)).map (·+k)) (fun i _=>L.length-(intOf i).toNat)
 case atStart=>exact⟨rfl,0,bL _,rfl,av⟩
 case round=>
  obtain⟨rfl,k,z,rfl,b⟩:=hrel;by_cases f:k<L.length
  ·have o:(k:Int)<L.length:=af;obtain⟨g,H,rfl,N,m⟩:=(E.out.ext u.out).at k f;have F:=(m k f).1;have C:=D.out k f;have l:=yT (au L k).1 key;rw[C] at b;clear m C;generalize(au L k).1=x at *;cases hb:bl key x
   ·rw[hb,aA av] at b;rw[hb] at l;have j:=ag b;clear b;go_wp2;go_roundw
    case rel=>exact⟨trivial,k+1,af,bX,by rw[j.out];cases j3 key (L.drop (k+1))<;>simp;omega⟩
    case measure=>exact ct
   ·rw[hb,aC rfl] at b;rw[hb] at l;have j:=ag b;clear b;go_wp2;go_ret;exact⟨by rw[y.out,j.out];simp,u.out⟩
  ·have o:decide ((k:Int)<L.length)=false:=aM af;rw[jI af] at b;have j:=ag b;have G:IntKind.i64.wrap ((L.length:Int)-1)=((L.length-1:Nat):Int):=pJ;clear b;go_wp2;go_ret;exact⟨by rw[y.out,j.out];simp[j3],u.out⟩
def Ib (a b c d:Nat):Nat:=a+256*b+65536*c+16777216*d
theorem apX {s:List UInt8} {a:Nat} (h:a+4<=s.length):dI ((s.drop a).take 4)=Ib (aL s a) (aL s (a+1)) (aL s (a+2)) (aL s (a+3)):=by
 have e:(s.drop a).take 4=[s.getD a 0,s.getD (a+1) 0,s.getD (a+2) 0,s.getD (a+3) 0]:=by
  rw[gz af,gz af,gz af,gz af];have g:∀k (hk:k<s.length),s.getD k 0=s[k]:=fun k hk=>E4;simp only[cY,eF];rw[g a af,g (a+1) af,g (a+2) af,g (a+3) af]
 rw[e];simp only[dI,Ib,aL];omega
theorem apY (k1 k2 e a b c d:Int) (j:0<=a/\a<4294967296) (l:0<=b/\b<4294967296) (m:0<=c/\c<4294967296) (n:0<=d/\d<4294967296) (f:0<=k1*b/\k1*b<4294967296) (g:0<=k2*c/\k2*c<4294967296) (i:0<=e*d/\e*d<4294967296):
 wrap64 (wrap64 (wrap64 (wrap64 a+wrap64 (k1*wrap64 b))+wrap64 (k2*wrap64 c))+wrap64 (e*wrap64 d))=a+k1*b+k2*c+e*d:=by
 rw[IntWalk.wrap64_in a af,IntWalk.wrap64_in b af,IntWalk.wrap64_in c af,IntWalk.wrap64_in d af];generalize k1*b=x at *;generalize k2*c=y at *;generalize e*d=z at *;rw[IntWalk.wrap64_in x af,IntWalk.wrap64_in y af,IntWalk.wrap64_in z af];rw[IntWalk.wrap64_in (a+x) af,IntWalk.wrap64_in (a+x+y) af,IntWalk.wrap64_in (a+x+y+z) af]
theorem apZ {a b c d:Nat} (e:a<256) (f:b<256) (g:c<256) (i:d<256):
 wrap64 (wrap64 (wrap64 (wrap64 (a:Int)+wrap64 (256*wrap64 (b:Int)))+wrap64 (65536*wrap64 (c:Int)))+wrap64 (16777216*wrap64 (d:Int)))=((Ib a b c d:Nat):Int):=
 (apY 256 65536 16777216 a b c d af af af af af af af).trans (by unfold Ib;omega)
theorem ap0 (s:List UInt8) (a:Nat) (h:a+4<=s.length) (l:s.length<=1000000) (w:World):
 Calls Tryz.prog 103 #[.string ⟨s.toArray⟩,.int .i64 a] w fun e w'=>e=.returned (.int .i64 (dI ((s.drop a).take 4):Nat))/\Ext w w':=by
 rw[apX h];have b:=ag (apZ (nV s a) (nV s (a+1)) (nV s (a+2)) (nV s (a+3)));have f:(a:Int)<s.length:=af;have g:(a:Int)+1<s.length:=af;have i:(a:Int)+2<s.length:=af;have j:(a:Int)+3<s.length:=af;generalize Ib (aL s a) (aL s (a+1)) (aL s (a+2)) (aL s (a+3))=d at *;go_enter Tryz.func103,Tryz.ntmps103;go_upto_region 1 with(fail);go_quiet(fail);rw[b.out];go_wp2;go_ret;refine⟨rfl,?_⟩
 first
  | exact Ext.drewN _ _
  | exact Ext.drew _
  | exact Ext.refl _
def iD (B:Nat) (n:Nd) (b:Int):Fact:=fun x w=>∃q c,x=.tuple #[.agg #[.int .i64 n.level,.int .i64 n.next,.slice q n.ai.length c],.int .i64 b]/\w.ownsRow B 142 2 (.slice q n.ai.length c) n.ai.length (aV n.ai)
theorem iD.ay (B:Nat) (n:Nd) (b:Int):(iD B n b).ay:=fun _ _ _ f ⟨q,c,d,e⟩=>⟨q,c,d,aO e f⟩
theorem iD.bP (B:Nat) (n:Nd) (b:Int) (K:dR) (R:Nat):(iD B n b).bP K (fun _=>j4 R 106):=fun _ _ _ _ _ k ⟨q,c,d,e⟩=>⟨q,c,d,E6 e aq k⟩
def ow (B:Nat) (n:Nd):Fact:=fun x w=>∃q c,x=.agg #[.int .i64 n.level,.int .i64 n.next,.slice q n.ai.length c]/\w.ownsRow B 142 2 (.slice q n.ai.length c) n.ai.length (aV n.ai)
theorem ow.ay (B:Nat) (n:Nd):(ow B n).ay:=fun _ _ _ e ⟨q,c,b,d⟩=>⟨q,c,b,aO d e⟩
theorem ow.bP (B:Nat) (n:Nd) (K:dR) (R:Nat):(ow B n).bP K (fun _=>j4 R 106):=fun _ _ _ _ _ k ⟨q,c,b,d⟩=>⟨q,c,b,E6 d aq k⟩
def th (R B:Nat) (n:Nd):Fact:=fun x w=>∃b,x=.pointer (some ⟨b,0,none⟩)/\∃q c,ah w b (.cells #[.int .i64 n.level,.int .i64 n.next,.slice q n.ai.length c] 106)/\w.ownsRow B 142 2 (.slice q n.ai.length c) n.ai.length (aV n.ai)/\R<=b
theorem th.ay (R B:Nat) (n:Nd):(th R B n).ay:=fun _ _ _ d ⟨b,e,q,c,f,g,i⟩=>⟨b,e,q,c,d.blk _ _ f,aO g d,i⟩
theorem ap1 (x:Int) (q:Option Addr) (n c:Nat):Tryz.prog.built 106 [(0,.int .i64 x),(2,.slice q n c)]=some #[.int .i64 x,.int .i64 0,.slice q n c]:=aj
theorem ap2 (k:Int):Tryz.prog.built 142 [(1,.int .i64 k)]=some #[.string ByteArray.empty,.int .i64 k]:=aj
theorem AJ:(Tryz.prog.info? 133).map (fun i=>(i.zero,i.size,i.bytes))=some (some (.agg #[.int .i64 0,.string ByteArray.empty]),2,24):=aj
theorem Wg (k:Int) (s:ByteArray):Tryz.prog.built 133 [(0,.int .i64 k),(1,.string s)]=some #[.int .i64 k,.string s]:=aj
end Go.Proofs.YteninnkbmoimgaaGreatDoor

/- A part of the proof. -/
import Derived.Test.YteninnkbmoimgaaGreatDoorCB
import Derived.Test.YteninnkbmoimgaaGreatDoorCC0
import Derived.Laws.IdiomStrings
import Derived.Lib.EndianBits
set_option linter.unusedSimpArgs false
set_option linter.unusedVariables false
set_option maxRecDepth 100000
set_option maxHeartbeats 16000000
namespace aD
open Go.Proofs.YteninnkbmoimgaaGreatDoor (dS dH)
def dI:List UInt8->Nat
 | []=>0
 | x::l=>x.toNat+256*dI l
theorem ofNat_toNat {x:Nat} (h:x<256):(UInt8.ofNat x).toNat=x:=by rw[UInt8.toNat_ofNat'];exact rD h
theorem acS {n:Nat} (h:n<4294967296):dI (fu n)=n:=by
 simp only[fu,dI];rw[ofNat_toNat af,ofNat_toNat af,ofNat_toNat af,ofNat_toNat af];omega
theorem DJ (x:UInt8):dI [x]=x.toNat:=by simp[dI]
theorem Tj:∀(l:List UInt8),dI l<256 ^ l.length
 | []=>by simp[dI]
 | x::l=>by
   have b:=Tj l;have d:=UInt8.toNat_lt x;simp only[dI,gW,Nat.pow_succ];omega
theorem MR (l:List UInt8):dI (l.take 1)<256:=by
 have h:=Tj (l.take 1);have b:256 ^ (l.take 1).length<=256 ^ 1:=Nat.pow_le_pow_right af kQ;omega
structure PS where
 before:List UInt8
 rest:List UInt8
 ai:List aG
def Be (s:PS):Nat:=min (dI (s.rest.take 1)) s.before.length
def tg (s:PS):Nat:=dI ((s.rest.drop 1).take 1)
def rY (s:PS):List UInt8:=s.before.take (Be s)++(s.rest.drop 2).take (tg s)
def qX (s:PS):List UInt8:=(s.rest.drop 2).drop (tg s)
def y9 (s:PS):PS:=⟨rY s,(qX s).drop 4,s.ai++[(rY s,(dI ((qX s).take 4):Int))]⟩
def eY (data:List UInt8):Nat->PS
 | 0=>⟨[],data.drop 6,[]⟩
 | k+1=>y9 (eY data k)
def uz (data:List UInt8):Nat:=dI ((data.drop 5).take 1)
def G8 (data:List UInt8):Nat:=dI (data.take 1)
def DK (data:List UInt8):Nat:=dI ((data.drop 1).take 4)
def fQ (data:List UInt8):Nd:=⟨G8 data,DK data,(eY data (uz data)).ai⟩
theorem MS (data:List UInt8):∀k,(eY data k).ai.length=k
 | 0=>rfl
 | k+1=>by simp[eY,y9,MS data k]
theorem apC (s:PS):(rY s).length<=510:=by
 have b:=MR s.rest;have d:=MR (s.rest.drop 1);unfold rY Be tg;rw[ew,gF,gF];omega
theorem acT (data:List UInt8):∀k,(eY data k).before.length<=510
 | 0=>by simp[eY]
 | k+1=>apC _
def lX (size:Int) (data:List UInt8):Bool:=decide (dS size (fQ data)=0)&&(iW size (fQ data)==data)
def gH (size:Int) (data:List UInt8):Int:=if cQ size=false then 1 else if lX size data then 0 else 11
def dz (size:Int) (data:List UInt8):Nd:=if gH size data=0 then fQ data else Nd.zero
theorem GY {size:Int} {n:Nd} (h:dS size n=0):cQ size=true/\eC n=true/\(ja n:Int)<=size:=by
 unfold dS at h;split at h
 ·cases h
 ·rename_i h1;split at h
  ·cases h
  ·have b:(cQ size&&eC n)=true:=jP;obtain⟨d,e⟩:=Bool.and_eq_true_iff.1 b;exact⟨d,e,af⟩
theorem acU:∀{E:List aG} {b:List UInt8},cR b E=true->∀x∈E,gA x.2=true/\x.1.length<=32
 | [],_,_,x,h=>ot
 | y::E,b,g,x,h=>by
   obtain⟨d,_,e,_,f⟩:=iP g;rcases fD.1 h with rfl | h
   ·exact⟨d,e⟩
   ·exact acU f x h
theorem acV {n:Nd} (h:pS n) {k:Nat} (hk:k<n.ai.length):(1<=(au n.ai k).2/\(au n.ai k).2<=16777216)/\(au n.ai k).1.length<=32:=by
 have e:au n.ai k=n.ai[k]:=Co;obtain⟨b,d⟩:=acU h.ai _ (mN hk);rw[<-e] at b d;unfold gA at b;simp only[eu,gu] at b;exact⟨b,d⟩
theorem Tk {n:Nd} (h:pS n) (b:List UInt8):∀k,k<=n.ai.length->eY (dG n++b) k=⟨jB n.ai k,j7 (jB n.ai k) (n.ai.drop k)++b,n.ai.take k⟩
 | 0,_=>by
   have e:(dG n++b).drop 6=j7 [] n.ai++b:=by
    unfold dG fu;simp
   simp only[eY,e,jB,pF,dP,eF]
 | k+1,C=>by
   have f:=Tk h b k af;obtain⟨D,E⟩:=acV h (by omega:k<n.ai.length);have z:=RI n.ai k;have y:=Av (jB n.ai k) (au n.ai k).1;rw[<-Dj] at y;have d:=ZJ (jB n.ai k) (au n.ai k).1;rw[<-Dj] at d;have o:=Sm (L:=n.ai) (k:=k) af;have g:(j7 (jB n.ai k) (n.ai.drop k)++b)=UInt8.ofNat (jo n.ai k)::UInt8.ofNat ((au n.ai k).1.length-jo n.ai k)::((au n.ai k).1.drop (jo n.ai k)++(fu (au n.ai k).2.toNat++(j7 (jB n.ai (k+1)) (n.ai.drop (k+1))++b))):=by
    rw[o];simp
   have q:Be (eY (dG n++b) k)=jo n.ai k:=by
    rw[f];unfold Be;simp only[g,cY,eF,DJ];rw[ofNat_toNat af];omega
   have j:tg (eY (dG n++b) k)=(au n.ai k).1.length-jo n.ai k:=by
    rw[f];unfold tg;simp only[g,dV,dP,cY,eF,DJ];exact ofNat_toNat af
   have m:((au n.ai k).1.drop (jo n.ai k)).length=(au n.ai k).1.length-jo n.ai k:=eU;have r:rY (eY (dG n++b) k)=(au n.ai k).1:=by
    unfold rY;rw[q,j,f];simp only[g,dV,dP];rw[List.take_left' m,d,pM]
   have l:qX (eY (dG n++b) k)=fu (au n.ai k).2.toNat++(j7 (jB n.ai (k+1)) (n.ai.drop (k+1))++b):=by
    unfold qX;rw[j,f];simp only[g,dV,dP];rw[MT m]
   have t:dI ((qX (eY (dG n++b) k)).take 4)=(au n.ai k).2.toNat:=by
    rw[l,List.take_left' (by simp[fu])];exact acS af
   have B:n.ai.take (k+1)=n.ai.take k++[au n.ai k]:=by
    rw[jr af];simp[au,List.getD,show k<n.ai.length by omega]
   have i:jB n.ai (k+1)=(au n.ai k).1:=by simp[jB]
   have u:((dI ((qX (eY (dG n++b) k)).take 4):Nat):Int)=(au n.ai k).2:=by rw[t];omega
   show y9 (eY (dG n++b) k)=_;unfold y9;rw[u,r,l,MT (by simp[fu]),f,B,i]
theorem acW {n:Nd} (h:pS n) (b:List UInt8):fQ (dG n++b)=n/\uz (dG n++b)=n.ai.length:=by
 have d:=h.v1;have o:=h.v2;have f:=h.x1;have q:=h.x2;have m:=h.l2;have e:dG n++b=UInt8.ofNat n.level.toNat::(fu n.next.toNat++(UInt8.ofNat n.ai.length::(j7 [] n.ai++b))):=by
  unfold dG;simp
 have i:(fu n.next.toNat).length=4:=by simp[fu]
 have j:G8 (dG n++b)=n.level.toNat:=by
  unfold G8;rw[e];simp only[cY,eF,DJ];exact ofNat_toNat af
 have l:DK (dG n++b)=n.next.toNat:=by
  unfold DK;rw[e];simp only[dV,dP];rw[List.take_left' i];exact acS af
 have g:uz (dG n++b)=n.ai.length:=by
  unfold uz;rw[e];simp only[dV];rw[MT i];simp only[cY,eF,DJ];exact ofNat_toNat af
 refine⟨?_,g⟩;unfold fQ;rw[j,l,g,Tk h b _ (aH _)];obtain⟨lv,nx,E⟩:=n;simp only[rT,Nd.mk.injEq,kD];simp only at d f;exact⟨af,af⟩
theorem Sa {size:Int} {n:Nd} (h:dS size n=0):lX size (iW size n)=true/\fQ (iW size n)=n:=by
 obtain⟨e,d,f⟩:=GY h;have b:=(acW (ia.1 d) (List.replicate (size.toNat-(dG n).length) 0)).1;refine⟨?_,b⟩;unfold lX;rw[show fQ (iW size n)=n from b,h];simp
theorem size_pos {size:Int} (h:cQ size=true):128<=size/\size<=512:=by
 unfold cQ at h;simp at h;omega
theorem DD {size:Int} {data:List UInt8} (h:lX size data=true):∃n,pS n/\cQ size=true/\fQ data=n/\(data.length:Int)=size/\uz data=n.ai.length/\dS size n=0/\iW size n=data/\∃i,data=dG n++i:=by
 unfold lX at h;obtain⟨b,h2⟩:=Bool.and_eq_true_iff.1 h;have b:=qG b;have h2:iW size (fQ data)=data:=ru;obtain⟨d,e,f⟩:=GY b;have g:=ia.1 e;have j:=size_pos d;refine⟨fQ data,g,d,rfl,?_,?_,b,h2,List.replicate (size.toNat-(dG (fQ data)).length) 0,h2.symm⟩
 ·rw[<-h2];unfold iW;rw[ew,Aq,PF];unfold ja at f;rw[aC e] at f;omega
 ·have:=(acW g (List.replicate (size.toNat-(dG (fQ data)).length) 0)).2;rw[show dG (fQ data)++List.replicate (size.toNat-(dG (fQ data)).length) 0=data from h2] at this;exact this
theorem apD {size:Int} {data:List UInt8} (h:lX size data=true) {k:Nat} (d:k<uz data):
 dI ((eY data k).rest.take 1)<=(eY data k).before.length/\6+tg (eY data k)<=(eY data k).rest.length:=by
 obtain⟨n,g,_,o,_,l,_,_,e,m⟩:=DD h;rw[l] at d;have b:=Tk g e k af;rw[<-m] at b;obtain⟨q,r⟩:=acV g d;have f:=Av (jB n.ai k) (au n.ai k).1;rw[<-Dj] at f;have i:=Sm (L:=n.ai) (k:=k) d;have j:(j7 (jB n.ai k) (n.ai.drop k)++e)=UInt8.ofNat (jo n.ai k)::UInt8.ofNat ((au n.ai k).1.length-jo n.ai k)::((au n.ai k).1.drop (jo n.ai k)++(fu (au n.ai k).2.toNat++(j7 (jB n.ai (k+1)) (n.ai.drop (k+1))++e))):=by
  rw[i];simp
 rw[b];unfold tg;simp only[j,cY,eF,dV,dP,DJ];rw[ofNat_toNat af,ofNat_toNat af];refine⟨f.1,?_⟩;simp only[gW,ew,eU,fu];omega
def bF (M:List (List UInt8)) (d:DS) (b level:Int):Nd×Int:=
 if(aF M b).2≠0 then(Nd.zero,(aF M b).2)
 else if gH d.interval (aF M b).1≠0∨(dz d.interval (aF M b).1).level≠level then(Nd.zero,11)
 else(dz d.interval (aF M b).1,0)
theorem Su {size:Int} {data:List UInt8} (h:gH size data=0):cQ size=true/\lX size data=true/\dz size data=fQ data:=by
 have h':=h;unfold gH at h;split at h
 ·cases h
 ·rename_i h1;split at h
  ·rename_i b;exact⟨jP,b,by unfold dz;rw[aC h']⟩
  ·cases h
theorem qW {M:List (List UInt8)} {d:DS} {page level:Int} (h:(bF M d page level).2=0):pS (bF M d page level).1/\(bF M d page level).1.level=level:=by
 unfold bF at h⊢;split at h
 ·rename_i b;exact absurd h b
 ·rename_i b;rw[aA b];split at h
  ·cases h
  ·rename_i h2;rw[aA h2];have g:gH d.interval (aF M page).1=0:=by
    exact XJ
   have i:(dz d.interval (aF M page).1).level=level:=by
    by_cases h4:(dz d.interval (aF M page).1).level=level
    ·exact h4
    ·exact absurd (.inr h4) h2
   obtain⟨_,e,f⟩:=Su g;obtain⟨n,l,_,j,_⟩:=DD e;refine⟨?_,i⟩;rw[f,j];exact l
theorem Tl {L:List aG} {key:List UInt8} (h:1<=L.length):bK L key<L.length:=by
 unfold bK;cases hf:j3 key L with
 | none=>simp;omega
 | some i=>exact RM hf
def jg (h:Hd) (d:DS):Int:=if dA d&&decide (1<=h.root)&&decide (h.root<=16777216)&&decide (0<=h.height)&&decide (h.height<=6)&&decide (0<=h.fin)&&decide (h.fin<=16777152) then 0 else 1
theorem xg {h:Hd} {d:DS} (k:jg h d=0):dA d=true/\1<=h.root/\h.root<=16777216/\0<=h.height/\h.height<=6/\0<=h.fin/\h.fin<=16777152:=by
 unfold jg at k;split at k
 ·rename_i i;simp only[eu,gu] at i;obtain⟨⟨⟨⟨⟨⟨a,b⟩,c⟩,d⟩,e⟩,f⟩,g⟩:=i;exact⟨a,b,c,d,e,f,g⟩
 ·cases k
def bJ (M:List (List UInt8)) (h:Hd) (d:DS) (key:List UInt8):Nat->Int
 | 0=>h.root
 | j+1=>(au (bF M d (bJ M h d key j) (h.height-(j:Int))).1.ai (bK (bF M d (bJ M h d key j) (h.height-(j:Int))).1.ai key)).2
def bR (M:List (List UInt8)) (h:Hd) (d:DS) (key:List UInt8) (j:Nat):Nd:=(bF M d (bJ M h d key j) (h.height-(j:Int))).1
def kZ (M:List (List UInt8)) (h:Hd) (d:DS) (key:List UInt8) (j:Nat):Int:=(bF M d (bJ M h d key j) (h.height-(j:Int))).2
theorem ux (M:List (List UInt8)) (h:Hd) (d:DS) (key:List UInt8) (j:Nat):bJ M h d key (j+1)=(au (bR M h d key j).ai (bK (bR M h d key j).ai key)).2:=rfl
def ig (M:List (List UInt8)) (h:Hd) (d:DS) (key:List UInt8):Nat->Int
 | 0=>0
 | k+1=>if ig M h d key k≠0 then ig M h d key k else kZ M h d key k
theorem G7 {M:List (List UInt8)} {h:Hd} {d:DS} {key:List UInt8} {k:Nat} (b:ig M h d key k=0):ig M h d key (k+1)=kZ M h d key k:=by
 show(if ig M h d key k≠0 then ig M h d key k else kZ M h d key k)=_;rw[b];simp
theorem DL {M:List (List UInt8)} {h:Hd} {d:DS} {key:List UInt8} {k:Nat} (b:ig M h d key k≠0):∀j,k<=j->ig M h d key j=ig M h d key k
 | 0,g=>by rw[show k=0 by omega]
 | j+1,g=>by
   by_cases f:k=j+1
   ·rw[f]
   ·have e:=DL b j af;show(if ig M h d key j≠0 then ig M h d key j else kZ M h d key j)=_;rw[aC (by rw[e];exact b),e]
theorem apE {M:List (List UInt8)} {h:Hd} {d:DS} {key:List UInt8} {K:Nat} (f:ig M h d key K=0) {k:Nat} (g:k<K):kZ M h d key k=0:=by
 by_cases b:ig M h d key (k+1)=0
 ·by_cases e:ig M h d key k=0
  ·rw[<-G7 e];exact b
  ·have:=DL e (k+1) af;rw[b] at this;exact absurd this.symm e
 ·have:=DL b K af;rw[f] at this;exact absurd this.symm b
def eW (M:List (List UInt8)) (h:Hd) (d:DS) (key:List UInt8) (k:Nat):List Int:=(List.range (k+1)).map fun j=>bJ M h d key j
theorem tO (M:List (List UInt8)) (h:Hd) (d:DS) (key:List UInt8) (k:Nat):(eW M h d key k).length=k+1:=by simp[eW]
theorem acX (M:List (List UInt8)) (h:Hd) (d:DS) (key:List UInt8) (k:Nat):eW M h d key (k+1)=eW M h d key k++[bJ M h d key (k+1)]:=by
 unfold eW;rw[L0,jW];rfl
theorem zO (M:List (List UInt8)) (h:Hd) (d:DS) (key:List UInt8) (k:Nat) {j:Nat} (b:j<=k):(eW M h d key k).getD j 0=bJ M h d key j:=by
 unfold eW;simp[List.getD,show j<k+1 by omega]
def oN (M:List (List UInt8)) (h:Hd) (d:DS) (key:List UInt8):Int:=if jg h d≠0 then 1 else ig M h d key h.height.toNat
def sE (M:List (List UInt8)) (h:Hd) (d:DS) (key:List UInt8):List Int:=if oN M h d key=0 then eW M h d key h.height.toNat else[]
def Te (low:List UInt8) (n:Nd) (i:Nat):List UInt8:=if 0<i then(if bl low (au n.ai (i-1)).1=true then(au n.ai (i-1)).1 else low) else low
def Tf (high:List UInt8) (n:Nd) (i:Nat):List UInt8:=if(au n.ai i).1≠[]/\(high=[]∨bl (au n.ai i).1 high=true) then(au n.ai i).1 else high
def G5 (M:List (List UInt8)) (h:Hd) (d:DS) (key:List UInt8):Nat->List UInt8
 | 0=>[]
 | k+1=>Te (G5 M h d key k) (bR M h d key k) (bK (bR M h d key k).ai key)
def G6 (M:List (List UInt8)) (h:Hd) (d:DS) (key:List UInt8):Nat->List UInt8
 | 0=>[]
 | k+1=>Tf (G6 M h d key k) (bR M h d key k) (bK (bR M h d key k).ai key)
end aD
namespace Go.Proofs.YteninnkbmoimgaaGreatDoor
open Go.RowKit aD
theorem apB (x:Int) (f:-1000000<=x) (g:x<=1000000) (w:World):Calls Tryz.prog 166 #[.int .i64 x] w fun e w'=>e=.returned (.int .i64 (if x< -x then -x else x))/\w'=w:=by
 have i:IntKind.i64.wrap (-x)=-x:=IntWalk.i64_in _ af;go_enter Tryz.func166,Tryz.ntmps166;by_cases b:x< -x
 ·have d:decide (x< -x)=true:=bM b;go_wp2;go_ret;exact⟨aY,rfl⟩
 ·have d:decide (x< -x)=false:=aM b;go_wp2;go_ret;exact⟨aY,rfl⟩
theorem acY (q:Option Addr) (c:Nat) (n:Nd) (b:Int) (w:World) (h:iV w q n.ai) (K:n.ai.length<=1000000):
 Calls Tryz.prog 141 #[dO n q c,.int .i64 b] w fun e w'=>e=.returned (.int .i64 (Sk (oK b n.ai)))/\Ext w w':=by
 unfold dO;have D:=ag h;have f:=ah.new w (.cells #[.int .i64 n.level,.int .i64 n.next,.slice q n.ai.length c] 106);have t:=Ext.alloc w (.cells #[.int .i64 n.level,.int .i64 n.next,.slice q n.ai.length c] 106);clear h;generalize n.ai=L at *;have C:=ag (fun k (z:k<L.length)=>an2 (n:=b) z);go_enter Tryz.func141,Tryz.ntmps141;go_upto_region 2 with(fail);generalize w.alloc (.cells #[.int .i64 n.level,.int .i64 n.next,.slice q L.length c] 106)=G at *;have I:=ah.val f 2 _ rfl;have M:=ah.lt f;have u:=ag t;clear f t;generalize w.heap.size=H at *;go_loopw[5] (fun i wr=>wr=G/\∃k:Nat,k<=L.length/\i=.int .i64 k/\oK b L=(oK b (L.drop k)).map (·+k)) (fun i _=>L.length-(intOf i).toNat)
 case atStart=>exact⟨rfl,0,bL _,rfl,av⟩
 case round=>
  obtain⟨rfl,k,z,rfl,d⟩:=hrel;by_cases j:k<L.length
  ·have o:(k:Int)<L.length:=af;obtain⟨g,F,rfl,J,m⟩:=(D.out.ext u.out).at k j;have E:=(m k j).2;have B:=C.out k j;rw[B] at d;clear m B;generalize(au L k).2=x at *;cases hb:x==b
   ·have r:¬x=b:=by simpa using hb
    rw[aA r] at d;have l:=ag d;clear d r;go_wp2;go_roundw
    case rel=>exact⟨trivial,k+1,af,bX,by rw[l.out];cases oK b (L.drop (k+1))<;>simp;omega⟩
    case measure=>exact ct
   ·have y:x=b:=by simpa using hb
    rw[aC y] at d;have l:=ag d;clear d y;go_wp2;go_ret;exact⟨by rw[l.out];simp[Sk],u.out⟩
  ·have o:decide ((k:Int)<L.length)=false:=aM af;obtain rfl:k=L.length:=af;have l:=ag d;clear d;go_wp2;go_ret;rw[jI (aH _)] at l;exact⟨by rw[l.out];simp[oK,Sk],u.out⟩
theorem apF (d:DS) (a:Ar) (q:Option Addr) (c:Nat) (p:Option Addr) (m:Nat) (w:World) (Q:dA d=true) (b:eX a.base=true) (R:iV w q a.nd.ai) (hl:a.nd.ai.length<=1000000):
 Calls Tryz.prog 136 #[.agg (az d),.agg (bn a q c p m)] w fun e w'=>e=.returned (.int .i64 (kY d a))/\Ext w w':=by
 have J:2<=d.aN/\d.aN<=8:=by
  obtain⟨_,_,_,_,_,_,_,J,k9⟩:=iM Q;exact⟨J,k9⟩
 unfold eX at b;simp only[eu,gu] at b;obtain⟨X,Y⟩:=b;obtain⟨A,H⟩:=pN (show 0<=d.aN by omega);have M:Hid (kY d a=qU (a.nd.ai.map (·.2)) A (a.base+1)):=ag (by unfold kY;rw[H];rfl);have T:=ag R;have V:A<=8:=af;have S:=ag H;clear Q R H J;go_enter Tryz.func136,Tryz.ntmps136;go_upto_region 1 with(fail);refine aR (fun F=>Ext w F/\bI F w.heap.size d/\eS F (w.heap.size+1) a q c p m) (oJ w d a q c p m) ?_;rintro F ⟨o,n,C⟩;have t:=ag o;have G:=ag (T.out.ext o);obtain⟨e0,N,e2,e3,e4,la⟩:=C.cells;have U:=ah.val n 8 _ rfl;rw[show((az d):Array Value)[8]=.int .i64 d.aN from rfl,S.out] at U;have ld:=ah.lt n;clear n C o;generalize a.nd.ai=L at *;generalize a.base=B at *;go_upto_region 2 with(fail);go_loopw[5,6,7] (fun pg _ _ wr=>wr=F/\∃k:Nat,k<=A/\pg=.int .i64 (B+1+k)/\Hid (qU (L.map (·.2)) A (B+1)=qU (L.map (·.2)) (A-k) (B+1+k))) (fun pg _ _ _=>(B+1+A-intOf pg).toNat)
 case atStart=>exact⟨rfl,0,bL _,av,ag av⟩
 case round=>
  obtain⟨rfl,k,hk,rfl,l⟩:=hrel;by_cases hlt:k<A
  ·have i1:decide (B+1+(k:Int)<=B+(A:Int))=true:=bM af;have O:A-k=(A-(k+1))+1:=af;have y:Hid (qU (L.map (·.2)) (A-k) (B+1+k)=if B+1+k∈L.map (·.2) then qU (L.map (·.2)) (A-(k+1)) (B+1+(k+1:Nat)) else B+1+k):=ag (by
    rw[O,qU,show B+1+(k:Int)+1=B+1+((k+1:Nat):Int) by push_cast;omega])
   clear O;go_upto_region 6 with(fail);obtain⟨K,rfl⟩:∃K:World,K=wr:=⟨_,rfl⟩;go_loopw[6,7] (fun u i wv=>wv=K/\∃j:Nat,j<=L.length/\i=.int .i64 j/\u=.bool (decide (B+1+(k:Int)∈(L.take j).map (·.2)))) (fun _ i _=>L.length-(intOf i).toNat)
   case atStart=>exact⟨rfl,0,bL _,rfl,av⟩
   case round=>
    obtain⟨rfl,j,hj,rfl,rfl⟩:=hrel;by_cases f:j<L.length
    ·have I:(j:Int)<L.length:=af;obtain⟨g,off,rfl,hg,D⟩:=G.out.at j f;have Z:=(D j f).2;have E:decide (B+1+(k:Int)∈(L.take (j+1)).map (·.2))=(decide (B+1+(k:Int)∈(L.take j).map (·.2))||((au L j).2==B+1+(k:Int))):=by
      have N:L.take (j+1)=L.take j++[au L j]:=by
       rw[jr f];simp[au,List.getD,f]
      rw[N,jW,uf];simp;constructor
      ·rintro(h | h)
       ·exact .inl h
       ·exact .inr h.symm
      ·rintro(h | h)
       ·exact .inl h
       ·exact .inr h.symm
     have HT:=ag E;clear D E;generalize decide (B+1+(k:Int)∈(L.take j).map (·.2))=ub at *;generalize(au L j).2=x at *;cases ub
     ·cases hx:x==B+1+(k:Int)
      ·exact Za
      ·exact Za
     ·go_wp2;go_roundw
      case rel=>exact⟨trivial,j+1,af,bX,by rw[HT.out];rfl⟩
      case measure=>exact ct
    ·have I:decide ((j:Int)<L.length)=false:=aM af;rw[mC af];by_cases r:B+1+(k:Int)∈L.map (·.2)
     ·rw[bM r];rw[aC r] at y;clear r;go_wp2;go_roundw
      case rel=>first | exact⟨trivial,k+1,af,bX,ag (l.out.trans y.out)⟩ | exact⟨k+1,af,bX,ag (l.out.trans y.out)⟩
      case measure=>exact ct
     ·rw[aM r];rw[aA r] at y;clear r;go_wp2;go_ret;exact⟨(gP (fun z=>Ending.returned (Value.int .i64 z)) (M.out.trans (l.out.trans y.out))).symm,t.out⟩
  ·have i1:decide (B+1+(k:Int)<=B+(A:Int))=false:=aM af;obtain rfl:k=A:=af;go_wp2;go_ret;exact⟨by rw[M.out,l.out];simp[qU],t.out⟩
end Go.Proofs.YteninnkbmoimgaaGreatDoor
namespace aD
theorem acZ:∀{l:List UInt8} {j:Nat},j<l.length->dI (l.take (j+1))=dI (l.take j)+(l.getD j 0).toNat*256 ^ j
 | [],_,h=>jQ
 | x::l,0,_=>by simp[dI]
 | x::l,j+1,h=>by
   have:=acZ (l:=l) (j:=j) (by simp at h;omega);simp only[cY,dI,qt,this,Nat.pow_succ];rw[Nat.mul_add,Nat.mul_comm 256 ((l.getD j 0).toNat*256 ^ j),Nat.mul_assoc];omega
end aD
namespace Go.Proofs.YteninnkbmoimgaaGreatDoor
open Go.RowKit aD
theorem ac0 (rb:Nat) (rest:List UInt8) (k:Nat) (m:k<=1000000) (n:rest.length<=1000000) (w:World) (b:ah w rb (.cells #[.string ⟨rest.toArray⟩] 216)):
 Calls Tryz.prog 151 #[.pointer (some ⟨rb,0,none⟩),.int .i64 k] w fun e w'=>e=.returned (.string ⟨(rest.take k).toArray⟩)/\ah w' rb (.cells #[.string ⟨(rest.drop k).toArray⟩] 216)/\aI rb w w':=by
 have f:Hid (∀x,x=rest.drop k->ah (w.setCell ⟨rb,0,none⟩ (.string ⟨x.toArray⟩)) rb (.cells #[.string ⟨(rest.drop k).toArray⟩] 216)/\aI rb w (w.setCell ⟨rb,0,none⟩ (.string ⟨x.toArray⟩))):=ag (fun x e=>by subst e;exact⟨ah.setCell b,aI.setCell⟩);have j:w.cell? ⟨rb,0,none⟩=some (.string ⟨rest.toArray⟩):=ah.val b 0 _ rfl;have o:=ah.lt b;have l:=ah.free b 0;clear b;by_cases i:rest.length<=k
 ·have d:min (k:Int) rest.length=rest.length:=af;have g:=ag i;clear i;go_enter Tryz.func151,Tryz.ntmps151;go_wp2;go_ret;exact⟨by rw[mC g.out];rfl,f.out [] (by rw[jI g.out])⟩
 ·have d:min (k:Int) rest.length=k:=af;go_enter Tryz.func151,Tryz.ntmps151;go_wp2;go_ret;exact⟨rfl,f.out _ (mC xX)⟩
theorem MU (i:Nat) {a m:Nat} (b:a<2 ^ i) (d:m%2 ^ i=0) (g:m<2 ^ 62) (e:i<=62):bits .or .i64 (a:Int) (m:Int)=((a+m:Nat):Int):=by
 have f:∀n:Int,0<=n->n<2 ^ 63->IntKind.i64.wrap n=n:=fun n j l=>IntWalk.i64_in n af;have q:(2:Nat) ^ i<=2 ^ 62:=Nat.pow_le_pow_right af e;have o:(2:Nat) ^ 62<2 ^ 63:=aq;have:=bits_join_low .i64 63 aq f i (a:Int) (m:Int) af (by exact_mod_cast b) (by exact_mod_cast (show a<2 ^ 63 by omega)) af (by exact_mod_cast d) (by exact_mod_cast (show m<2 ^ 63 by omega));rw[this];simp
theorem apG (w:World) (l:List UInt8):∃w' b,(convert 9 47 (.string ⟨l.toArray⟩)).run Tryz.prog w=.ok (.slice (some ⟨w.heap.size,0,none⟩) l.length b) w'/\Ext w w'/\w.heap.size<w'.heap.size/\
 ∀i,i<l.length->w'.cell? ⟨w.heap.size,i,none⟩=some (.int .u8 ((l.getD i 0).toNat:Nat)):=by
 refine⟨_,_,run_bytes_of_string w 9 47 5 ⟨l.toArray⟩ Tryz.underlying9 Tryz.underlying47 Tryz.underlying5,(Ext.drew _).trans (Ext.alloc _ _),by simp[World.alloc,World.drew,-World.alloc_eq,-World.drew_eq],fun i e=>?_⟩;have d:∀(C:Array Value) m,(w.drew.alloc (.cells C 5 m)).heap[w.heap.size]? =some (.cells C 5 m):=fun C m=>by
  show(w.heap.push (.cells C 5 m))[w.heap.size]? =_;simp
 unfold World.cell?;rw[d];simp[bytesRow,Array.getElem?_append,e,List.getD]
theorem ac1 (rb:Nat) (rest:List UInt8) (k:Nat) (X:k=1∨k=4) (R:rest.length<=1000000) (w:World) (z:ah w rb (.cells #[.string ⟨rest.toArray⟩] 216)):
 Calls Tryz.prog 150 #[.pointer (some ⟨rb,0,none⟩),.int .i64 k] w fun e w'=>e=.returned (.int .i64 (dI (rest.take k):Nat))/\ah w' rb (.cells #[.string ⟨(rest.drop k).toArray⟩] 216)/\w.grownBy w' (some rb):=by
 have D:=ag (ac0 rb rest k af R w z);have N:(rest.take k).length<=4:=kQ;have q:=ah.lt z;clear z;generalize rest.take k=l at *;go_enter Tryz.func150,Tryz.ntmps150;go_upto_region 3 with(first
  | (go_at_call 151;refine D.out.mono ?_;rintro e F ⟨rfl,g,n⟩;obtain⟨V,J,o,f,O,b⟩:=apG F l)
  | simp only[o])
 have G:=ag (And.intro (f.blk _ _ g) (And.intro n f));have H:=ag b;clear g n f b o D;generalize F.heap.size=Y at *;go_loopw[5,13] (fun B i wr=>wr=V/\∃j:Nat,j<=l.length/\i=.int .i64 j/\B=.int .i64 (dI (l.take j):Nat)) (fun _ i _=>l.length-(intOf i).toNat)
 case atStart=>exact⟨rfl,0,bL _,rfl,rfl⟩
 case round=>
  obtain⟨rfl,j,M,rfl,rfl⟩:=hrel;by_cases d:j<l.length
  ·have r:(j:Int)<l.length:=af;have I:=H.out j d;have C:=ag (acZ d);have S:=UInt8.toNat_lt (l.getD j 0);have t:=Tj (l.take j);rw[gF,Ap M] at t;generalize l.getD j 0=x at *;generalize dI (l.take j)=U at *;obtain⟨y,T⟩:∃y:Nat,x.toNat=y:=⟨_,rfl⟩;rw[T] at I S C;have u:Hid (∀m:Nat,m=y*256 ^ j->bits .or .i64 (U:Int) (m:Int)=((dI (l.take (j+1)):Nat):Int)):=ag (fun m Q=>by
    rw[C.out,<-Q];have E:j<=3:=af;rcases(show j=0∨j=1∨j=2∨j=3 by omega) with rfl | rfl | rfl | rfl
    ·rw[MU 0 (by simpa using t) af af aq]
    ·rw[MU 8 (by simpa using t) af af aq]
    ·rw[MU 16 (by simpa using t) af af aq]
    ·rw[MU 24 (by simpa using t) af af aq])
   rcases(show j=0∨j=1∨j=2∨j=3 by omega) with rfl | rfl | rfl | rfl
   ·go_wp2;exact⟨⟨trivial,1,af,rfl,by rw[<-u.out y av]⟩,uN⟩
   ·go_wp2;exact⟨⟨trivial,2,af,rfl,by rw[<-u.out (y*256) av];rfl⟩,uN⟩
   ·go_wp2;exact⟨⟨trivial,3,af,rfl,by rw[<-u.out (y*65536) av];rfl⟩,uN⟩
   ·go_wp2;exact⟨⟨trivial,4,af,rfl,by rw[<-u.out (y*16777216) av];rfl⟩,uN⟩
  ·have r:decide ((j:Int)<l.length)=false:=aY;rw[mC af];go_wp2;go_ret;obtain⟨K,L,E⟩:=G.out;exact⟨rfl,K,Dv (Sh L) (Mk rb E) q⟩
theorem apH (rb:Nat) (rest:List UInt8) (d:rest.length<=1000000) (w:World) (b:ah w rb (.cells #[.string ⟨rest.toArray⟩] 216)):
 Calls Tryz.prog 150 #[.pointer (some ⟨rb,0,none⟩),.int .i64 1] w fun e w'=>e=.returned (.int .i64 (dI (rest.take 1):Nat))/\ah w' rb (.cells #[.string ⟨(rest.drop 1).toArray⟩] 216)/\w.grownBy w' (some rb):=ac1 rb rest 1 (.inl rfl) d w b
theorem apI (rb:Nat) (rest:List UInt8) (d:rest.length<=1000000) (w:World) (b:ah w rb (.cells #[.string ⟨rest.toArray⟩] 216)):
 Calls Tryz.prog 150 #[.pointer (some ⟨rb,0,none⟩),.int .i64 4] w fun e w'=>e=.returned (.int .i64 (dI (rest.take 4):Nat))/\ah w' rb (.cells #[.string ⟨(rest.drop 4).toArray⟩] 216)/\w.grownBy w' (some rb):=ac1 rb rest 4 (.inr rfl) d w b
end Go.Proofs.YteninnkbmoimgaaGreatDoor

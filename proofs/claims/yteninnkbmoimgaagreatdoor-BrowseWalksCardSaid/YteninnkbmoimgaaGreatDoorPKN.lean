/- A part of the proof. -/
import Derived.Test.YteninnkbmoimgaaGreatDoorPK5
set_option linter.unusedSimpArgs false
set_option linter.unusedVariables false
set_option maxRecDepth 100000
set_option maxHeartbeats 16000000
namespace aD
theorem dL.keyed {M:List (List UInt8)} {d:DS} {h:Hd} {S:List aQ} {b:List Int} {n:Nat} (K:dL M d h S b n):dA d=true:=by
 obtain⟨_,pre,s,post,e,_⟩:=K.k.at [];exact(K.k.inv s (by rw[e];simp)).spec.keyed
theorem dL.V4 {M:List (List UInt8)} {d:DS} {h:Hd} {S:List aQ} {b:List Int} {n:Nat} (K:dL M d h S b n) {s:aQ} (f:s∈S):(aX s.2).length<=100:=by
 have e:=K.cn;have g:=K.n0;obtain⟨A,B,rfl⟩:=List.append_of_mem f;rw[qd,oU] at e;simp only[ew] at e;omega
end aD
namespace Go.Proofs.YteninnkbmoimgaaGreatDoor
open Go.RowKit aD
theorem awF {M:List (List UInt8)} {d:DS} {h:Hd} {S:List aQ} {dn:List Int} {n:Nat} (K:dL M d h S dn n) (k:List UInt8) (p:Option Addr) (b m:Nat) (w:World) (hs:bk w p M) (hn:M.length=m):
 Calls Tryz.prog 37 #[.iface 32 (.slice p m b),.agg (aK h),.agg (az d),.string ⟨k.toArray⟩] w fun e w'=>e=.returned (.tuple #[.string ⟨(jn d (eJ d (aT S) k)).2.toArray⟩,.int .i64 (yQ (eJ d (aT S) k))])/\Ext w w':=by
 obtain⟨_,pre,s,post,he,V,h1,h2⟩:=K.k.at k;have i:s∈S:=by rw[he];simp
 have I:=K.k.inv s i;have ze:=ag (fun W=>Oe p m b h d W K.keyed K.door);have j:=ag (fun W (e:bk W p M)=>ave K k i V p b m W e hn);have t:=ag (fun q c p' Z W (hv:cX W s.2 q c p' Z)=>avp d h (.slice p m b) s.2 k q c p' Z W I.spec I.spec.inc (by have:=K.V4 i;omega) hv);rw[K.k.want he h1 h2];generalize eJ d (aX s.2) k=o at *;have Hs:=ag hs;obtain⟨a,ha⟩:∃a,a=s.2:=⟨_,rfl⟩;rw[<-ha] at j t;have H:=yL w h d;clear hs he V h1 h2 I ha i K;go_enter Tryz.func37,Tryz.ntmps37;go_upto_region 1 with(fail);refine aR (fun W=>Ext w W/\fG W w.heap.size h/\bI W (w.heap.size+1) d) H ?_;clear H;rintro w0 ⟨J,hb1,hb2⟩;have C:=ag J;clear J;go_upto_region 4 with(first
  | (refine Pn ?_)
  | (refine Po ?_)
  | (go_at_call 53;refine(ze.out _).mono ?_;rintro e w1 ⟨rfl,L⟩)
  | (refine aU rfl 117 (.tmp 10) (.tmp 21) rfl _ (bH (.slice p m b) h d) rfl rfl _ _ (ah.new w1 _) rz rfl (vu p m b h d) ?_;intro w2 f O))
 have Y:=C.out.trans (L.trans (O.ext (Ext.alloc w1 _) (aH _)));have u:=ag Y;have l2:=ah.lt f;generalize w1.heap.size=cb at *;clear L O Y hb1 hb2 C;go_upto_region 7 with(first
  | (refine bz (o:=⟨some 27,_,_,_,_,_⟩) rfl 117 (.tmp 10) rfl _ rfl _ _ _ f yf rfl rz ?_)
  | (go_at_call 56;refine(j.out _ (Hs.out.ext u.out)).mono ?_;rintro e w3 ⟨z,qp,np,cp,q,c,p',Z,rfl,X⟩)
  | (refine aU rfl 109 (.tmp 13) (.tmp 31) rfl _ (bn a q c p' Z) rfl rfl _ _ (ah.new w3 _) aZ rfl (mE ..) ?_;intro w4 F R))
 have g:=R.ext (Ext.alloc w3 _) (aH _);have G:=(z.trans g).blk _ _ f;have B:=ag (X.ext g);have D:=ag (u.out.trans (z.trans g));clear f l2 z X R g u j;generalize w3.heap.size=ab at *;have l:=ag (t.out _ _ _ _ _ B.out);clear t;obtain⟨y,hy⟩:∃y,y=jn d o:=⟨_,rfl⟩;rw[<-hy] at l;have Hy:=ag hy;clear hy;obtain⟨y1,y2⟩:=y;go_upto_region 8 with(first
  | (refine bz (o:=⟨some 37,_,_,_,_,_⟩) rfl 117 (.tmp 10) rfl _ rfl _ _ _ G yf rfl rz ?_)
  | (refine bz (o:=⟨some 38,_,_,_,_,_⟩) rfl 109 (.tmp 13) rfl _ rfl _ _ _ F cL rfl aZ ?_)
  | (go_at_call 57;refine l.out.mono ?_;rintro e w5 ⟨N,rfl⟩)
  | (refine aU rfl 37 (.tmp 14) (.tmp 41) rfl _ #[.string ⟨y1.toArray⟩,.string ⟨y2.toArray⟩] rfl rfl _ _ (ah.new w5 _) fE rfl (nU y1 y2) ?_;intro w6 U T))
 have E:=ag ((D.out.trans N).trans (T.ext (Ext.alloc w5 _) (aH _)));have i1:w6.cell? ⟨w5.heap.size,1,none⟩=some (.string ⟨y2.toArray⟩):=ah.val U 1 _ rfl;have l6:=ah.lt U;clear G F l N T B D;cases o with
 | none=>
   go_wp2_with fail;go_ret2;exact⟨rfl,E.out⟩
 | some r=>
   go_wp2_with fail;go_ret2;exact⟨by rw[<-Hy.out];rfl,E.out⟩
theorem awG (d:DS) (R:aB) (k:List UInt8) (q:Option Addr) (f c Q:Nat) (w:World) (hi:dN d R) (hl:R.length<=1000) (O:R.length=f) (hp:pV w q (bW d R)) (hk:ah w Q (.cells #[.string ⟨k.toArray⟩] 9)):
 Calls Tryz.prog 77 #[.slice q f c,.pointer (some ⟨Q,0,none⟩)] w fun e w'=>e=.returned (.tuple #[.agg (fF (jn d (jL d R k))),.bool (jL d R k).isSome])/\Ext w w':=by
 have h0:=BW w (.cells #[.slice q f c] 33) (.cells #[.string ⟨#[]⟩,.string ⟨#[]⟩] 37);have M:=ag hp;have Z:=ag (avo hi k);have Y:=ag (fun r h1 h2=>ava (d:=d) (R:=R) (k:=k) (n:=r) (agJ (d:=d) (R:=R) (k:=k) (r:=r) h1 h2).1 (agJ h1 h2).2);have L:=ag (tC d R);have g:Hid ((bW d R).length=f):=ag (by rw[oW,O]);generalize bW d R=V at *;clear hp hi;go_enter Tryz.func77,Tryz.ntmps77;go_upto_region 1 with(fail);refine aR (fun W=>Ext w W/\ah W w.heap.size (.cells #[.slice q f c] 33)/\ah W (w.heap.size+1) (.cells #[.string ⟨#[]⟩,.string ⟨#[]⟩] 37)) h0 ?_;clear h0;rintro T ⟨j,i,H⟩;have E:=j.blk _ _ hk;have HS:=ag (Od _ _ f _ T (avm q f c V k w.heap.size Q T i E (M.out.ext j) g.out) (by rw[<-g.out];exact Z.out) af);have c2:T.cell? ⟨w.heap.size,0,none⟩=some (.slice q f c):=ah.val i 0 _ rfl;have l2:=ah.lt i;have J:=ag (And.intro j (And.intro i H));clear hk E j i H Z;go_upto_region 2 with(first | (go_at_call 38;refine HS.out.mono ?_;rintro e w3 ⟨l,r,rfl,hr,F,G⟩));have K:=Y.out r F (by rw[g.out];exact G);have z:=J.out.1.trans l;have u:=l.blk _ _ J.out.2.1;have I:=l.blk _ _ J.out.2.2;have N:=ag (M.out.ext z);have i2:w3.cell? ⟨w.heap.size,0,none⟩=some (.slice q f c):=ah.val u 0 _ rfl;have j2:=ah.lt u;clear F G HS J l c2 l2 Y M u;by_cases m:r<f
 ·have e1:((r:Int)==(f:Int))=false:=aY;have e2:(r:Int)<(f:Int):=af;have e4:¬r=f:=af;obtain⟨b,S,rfl,hb,hc⟩:=N.out.at r (by rw[g.out];exact m);obtain⟨c0,C⟩:=hc r (by rw[g.out];exact m);have D:=L.out r;have HE:=ag (show jn d (jL d R k)=V.getD r ([],[])/\(jL d R k).isSome=true by
   rw[K,aC (by rw[O];exact m)];exact⟨D.symm,rfl⟩)
  clear hc K D;generalize V.getD r ([],[])=y at *;obtain⟨U,X⟩:=y;simp only at c0 C;go_wp2_with(first
   | (refine Oc (o:=⟨some 18,_,_,_,_,_⟩) rfl (.tmp 17) rfl b (S+r*2) rfl U X c0 C ?_)
   | (refine aU rfl 37 (.tmp 3) (.tmp 18) rfl _ #[.string ⟨U.toArray⟩,.string ⟨X.toArray⟩] rfl rfl _ _ I fE rfl (nU U X) ?_;intro w5 B t))
  exact bY (dM Tryz.results77 _ _ _ _ _ _ rfl B lW rfl fE) rfl ⟨xW,t.ext z af⟩
 ·have e1:((r:Int)==(f:Int))=true:=aY;have e4:r=f:=af;have HE:=ag (show jn d (jL d R k)=([],[])/\(jL d R k).isSome=false by
   rw[K,aA (by rw[O];exact m)];exact⟨rfl,rfl⟩)
  clear K;go_wp2_with(first
   | (refine dW (o:=⟨some 14,_,_,_,_,_⟩) rfl 37 #[] rfl [] rfl _ AO ?_)
   | (refine aU rfl 37 (.tmp 3) (.tmp 14) rfl _ #[.string ⟨#[]⟩,.string ⟨#[]⟩] rfl rfl _ _ I fE rfl cT ?_;intro w5 B t))
  exact bY (dM Tryz.results77 _ _ _ _ _ _ rfl B lW rfl fE) rfl ⟨xW,t.ext z af⟩
theorem awH {M:List (List UInt8)} {d:DS} {h:Hd} {S:List aQ} {i:List Int} {n:Nat} (K:dL M d h S i n) (j:List aQ) (b:∀s∈j,s∈S) (k:List UInt8) (g:Nat) (w:World) (o:ah w g (.cells #[.string ⟨k.toArray⟩] 9)):
 Vw 77 #[.pointer (some ⟨g,0,none⟩)] d j (fun s=>jL d (aX s.2) k) w:=by
 refine⟨fun args W=>by simp[callFunc,Tryz.func77];kernel_rfl,fun y l W m f=>?_⟩;obtain⟨t,r,q,e,_⟩:=yM f;cases q
 exact awG d (aX y.2.2.2) k y.1 _ y.2.1 g W (K.k.inv _ (b _ l)).spec.inc (by have:=K.V4 (b _ l);omega) rfl e (m.blk _ _ o)
theorem awI (d:DS) (R:aB) (k:List UInt8) (q:Option Addr) (l c T U:Nat) (w:World) (hi:dN d R) (hl:R.length<=1000) (hn:R.length=l) (hp:pV w q (bW d R)) (ha:ah w T (.cells #[.bool false] 4)) (hk:ah w U (.cells #[.string ⟨k.toArray⟩] 9)):
 Calls Tryz.prog 113 #[.slice q l c,.pointer (some ⟨T,0,none⟩),.pointer (some ⟨U,0,none⟩)] w fun e w'=>e=.returned (.tuple #[.agg (fF (jn d (jt d R k))),.bool (jt d R k).isSome])/\Ext w w':=by
 have h0:=BW w (.cells #[.slice q l c] 33) (.cells #[.string ⟨#[]⟩,.string ⟨#[]⟩] 37);have Q:=ag hp;have HG:=ag (Vt hi k);have HF:=ag (fun r hr h1 h2=>avb (d:=d) (R:=R) (k:=k) (n:=r) hr (Jm (d:=d) (R:=R) (k:=k) (r:=r) h1 h2).1 (Jm h1 h2).2);have O:=ag (tC d R);have g:Hid ((bW d R).length=l):=ag (by rw[oW,hn]);generalize bW d R=V at *;clear hp hi;go_enter Tryz.func113,Tryz.ntmps113;go_upto_region 1 with(fail);refine aR (fun W=>Ext w W/\ah W w.heap.size (.cells #[.slice q l c] 33)/\ah W (w.heap.size+1) (.cells #[.string ⟨#[]⟩,.string ⟨#[]⟩] 37)) h0 ?_;clear h0;rintro N ⟨i,j,J⟩;have F:=i.blk _ _ hk;have t:=i.blk _ _ ha;have HS:=ag (Od _ _ l _ N (avn q l c V k w.heap.size U N j F (Q.out.ext i) g.out) (by rw[<-g.out];exact HG.out) af);have c2:N.cell? ⟨w.heap.size,0,none⟩=some (.slice q l c):=ah.val j 0 _ rfl;have l2:=ah.lt j;have ca:N.cell? ⟨T,0,none⟩=some (.bool false):=ah.val t 0 _ rfl;have la:=ah.lt t;have L:=ag (And.intro i (And.intro j J));clear hk F i j J HG ha t;go_upto_region 4 with(first | (go_at_call 38;refine HS.out.mono ?_;rintro e w3 ⟨m,r,rfl,hr,H,I⟩));have M:=HF.out r af H (by rw[g.out];exact I);have B:=L.out.1.trans m;have z:=m.blk _ _ L.out.2.1;have K:=m.blk _ _ L.out.2.2;have S:=ag (Q.out.ext B)
 have i2:w3.cell? ⟨w.heap.size,0,none⟩=some (.slice q l c):=ah.val z 0 _ rfl;have j2:=ah.lt z;clear H I HS L m c2 l2 HF Q z ca la;by_cases G:0<r
 ·obtain⟨f,rfl⟩:∃f,r=f+1:=⟨r-1,af⟩;have e1:(((f+1:Nat):Int)==0)=false:=aY;have e4:¬((f+1:Nat):Int)=0:=af;have e5:IntKind.i64.wrap (((f+1:Nat):Int)-1)=(f:Int):=pJ;have e2:(f:Int)<(l:Int):=af;obtain⟨b,X,rfl,hb,hc⟩:=S.out.at f (by rw[g.out];omega);obtain⟨c0,D⟩:=hc f (by rw[g.out];omega);have E:=O.out f;have HE:=ag (show jn d (jt d R k)=V.getD f ([],[])/\(jt d R k).isSome=true by
   rw[M,aC G];exact⟨E.symm,rfl⟩)
  clear hc M E;generalize V.getD f ([],[])=y at *;obtain⟨Y,Z⟩:=y;simp only at c0 D;generalize TM:((f+1:Nat):Int)=r5 at *;go_wp2_with(first
   | (refine Oc (o:=⟨some 22,_,_,_,_,_⟩) rfl (.tmp 21) rfl b (X+f*2) rfl Y Z c0 D ?_)
   | (refine aU rfl 37 (.tmp 4) (.tmp 22) rfl _ #[.string ⟨Y.toArray⟩,.string ⟨Z.toArray⟩] rfl rfl _ _ K fE rfl (nU Y Z) ?_;intro w5 C u))
  exact bY (dM Tryz.results113 _ _ _ _ _ _ rfl C lW rfl fE) rfl ⟨xW,u.ext B af⟩
 ·obtain rfl:r=0:=af;have HE:=ag (show jn d (jt d R k)=([],[])/\(jt d R k).isSome=false by
   rw[M,aA G];exact⟨rfl,rfl⟩)
  clear M;go_wp2_with(first
   | (refine dW (o:=⟨some 17,_,_,_,_,_⟩) rfl 37 #[] rfl [] rfl _ AO ?_)
   | (refine aU rfl 37 (.tmp 4) (.tmp 17) rfl _ #[.string ⟨#[]⟩,.string ⟨#[]⟩] rfl rfl _ _ K fE rfl cT ?_;intro w5 C u))
  exact bY (dM Tryz.results113 _ _ _ _ _ _ rfl C lW rfl fE) rfl ⟨xW,u.ext B af⟩
theorem awJ {M:List (List UInt8)} {d:DS} {h:Hd} {S:List aQ} {j:List Int} {n:Nat} (K:dL M d h S j n) (l:List aQ) (b:∀s∈l,s∈S) (k:List UInt8) (f i:Nat) (w:World) (q:ah w f (.cells #[.bool false] 4)) (r:ah w i (.cells #[.string ⟨k.toArray⟩] 9)):
 Vw 113 #[.pointer (some ⟨f,0,none⟩),.pointer (some ⟨i,0,none⟩)] d l (fun s=>jt d (aX s.2) k) w:=by
 refine⟨fun args W=>by simp[callFunc,Tryz.func113];kernel_rfl,fun y o W m g=>?_⟩;obtain⟨z,u,t,e,_⟩:=yM g;cases t
 exact awI d (aX y.2.2.2) k y.1 _ y.2.1 f i W (K.k.inv _ (b _ o)).spec.inc (by have:=K.V4 (b _ o);omega) rfl e (m.blk _ _ q) (m.blk _ _ r)
end Go.Proofs.YteninnkbmoimgaaGreatDoor
namespace aD
theorem ah7 (L:List Int) (k t v:_) (d:k<L.length):(L.set k v).getD t 0=if t=k then v else L.getD t 0:=by
 simp only[List.getD,List.getElem?_set];by_cases e:t=k
 ·subst e;simp[d]
 ·have b:¬k=t:=fun h=>e h.symm;simp[e,b]
def JI (L X:List Int) (k:Nat):Prop:=X.length=L.length/\∀t,t<L.length->X.getD t 0=if t<k∨L.length<=t+k then L.getD (L.length-1-t) 0 else L.getD t 0
theorem awK (L:List Int):JI L L 0:=⟨rfl,fun t b=>by rw[aA af]⟩
theorem awL {L X:List Int} {k:Nat} (h:JI L X k) (i:k<L.length-1-k):JI L ((X.set k (X.getD (L.length-1-k) 0)).set (L.length-1-k) (X.getD k 0)) (k+1):=by
 obtain⟨h1,b⟩:=h;refine⟨sI,fun t g=>?_⟩;rw[ah7 _ _ _ _ aY,ah7 _ _ _ _ af,b k af,b (L.length-1-k) af,b t g];by_cases d:t=L.length-1-k
 ·rw[aC d,aA af,aC af];congr 1;omega
 ·rw[aA d];by_cases e:t=k
  ·rw[aC e,aA af,aC af];congr 1;omega
  ·rw[aA e];by_cases f:t<k∨L.length<=t+k
   ·rw[aC f,aC af]
   ·rw[aA f,aA af]
theorem awM {L X:List Int} {k:Nat} (h:JI L X k) (j:¬k<L.length-1-k):X=L.reverse:=by
 obtain⟨h1,d⟩:=h;refine List.ext_getElem sI fun t g _=>?_;have e:=d t af;have f:X.getD t 0=X[t]:=by simp[List.getD,g]
 rw[<-f,e,Oo];have b:∀i (hi:i<L.length),L.getD i 0=L[i]:=fun i hi=>zQ;split
 ·rw[b _ af]
 ·rw[b _ af];congr 1;omega
end aD
namespace Go.Proofs.YteninnkbmoimgaaGreatDoor
open Go.RowKit aD
def qq (w:World) (g:Nat) (L:List Int):Prop:=∃b,ah w g (.cells b 3)/\b.toList.take L.length=cP L
theorem qq.ext {w w':World} {g:Nat} {L:List Int} (h:qq w g L) (e:Ext w w'):qq w' g L:=by obtain⟨b,d,f⟩:=h;exact⟨b,e.blk _ _ d,f⟩
theorem qq.free {w:World} {g:Nat} {L:List Int} (h:qq w g L) (i:Nat):w.frozen? ⟨g,i,none⟩=false:=by obtain⟨b,d,_⟩:=h;exact ah.free d i
theorem qq.at {w:World} {g:Nat} {L:List Int} (h:qq w g L) (i:Nat) (e:i<L.length):w.cell? ⟨g,i,none⟩=some (.int .i64 (L.getD i 0)):=by
 obtain⟨b,f,j⟩:=h;refine ah.val f i _ ?_;have d:(b.toList.take L.length)[i]? =some (.int .i64 (L.getD i 0)):=by rw[j];simp[cP,List.getD,e]
 rw[D4 e] at d;simpa using d
theorem qq.set {w:World} {g:Nat} {L:List Int} (h:qq w g L) (i:Nat) (v:Int):qq (w.setCell ⟨g,i,none⟩ (.int .i64 v)) g (L.set i v):=by
 obtain⟨b,d,e⟩:=h;refine⟨_,ah.setCell d,?_⟩;rw[pE,Du,Ae,e];simp[cP,List.map_set]
theorem awN (p:Option Addr) (f n:Nat) (A B:List Int) (x:Int) (w:World) (t:Ints w p (A++x::B)) (z:x∉A) (D:(A++x::B).length=n) (H:n<=1000000):
 Calls Tryz.prog 110 #[.slice p n f,.int .i64 x] w fun e w'=>e=.returned (.int .i64 A.length)/\w'=w:=by
 have u:=ag t;have C:A.length<n:=by rw[<-D];simp
 clear t;go_enter Tryz.func110,Tryz.ntmps110;obtain⟨l,rfl⟩:∃l:World,l=w:=⟨_,rfl⟩;go_upto_region 2 with(fail);go_loopw[8] (fun i wr=>∃k:Nat,k<=A.length/\i=.int .i64 k/\wr=l) (fun i _=>n-(intOf i).toNat)
 case atStart=>exact oZ
 case round=>
  obtain⟨k,G,rfl,rfl⟩:=hrel;have q:(k:Int)<n:=af;obtain⟨b,E,rfl,F,m⟩:=u.out.at k af;have g:=m k af;clear m;by_cases d:k<A.length
  ·have j:¬x=(A++x::B).getD k 0:=fun e=>z (by
    rw[e];have:(A++x::B).getD k 0=A[k]:=by simp[List.getD,rF d,d]
    rw[this];exact mN _)
   generalize(A++x::B).getD k 0=y at *;have r:(x==y)=false:=by simpa using j
   go_wp2_with fail;go_roundw
   case rel=>exact⟨k+1,af,bX,trivial⟩
   case measure=>exact ct
  ·obtain rfl:k=A.length:=af;have o:(A++x::B).getD A.length 0=x:=by simp[List.getD]
   rw[o] at g;clear o;go_wp2_with fail;go_ret;exact⟨rfl,rfl⟩
theorem awO (p:Option Addr) (b n:Nat) (g:List Value) (w:World) (t:Cells w p g) (y:g.length=n*1) (r:∀u∈g,u.oneCell'=true) (z:n<=1000000) (o:p=none->n=0/\b=0):
 Calls Tryz.prog 111 #[.slice p n b] w fun e w'=>Ext w w'/\∃v,e=.returned v/\w'.ownsRow w.heap.size 3 1 v n g:=by
 cases p with
 | none=>
   obtain⟨rfl,rfl⟩:=o rfl;obtain rfl:g=[]:=gY af;have j:∀W,(binOp BinOp.eql 101 (.slice none 0 0) (.slice none 0 0)).run Tryz.prog W=.ok (.bool true) W:=fun W=>aj;go_enter Tryz.func111,Tryz.ntmps111;go_wp2;go_ret;exact⟨Ext.refl _,_,rfl,World.ownsRow_nil _ _ _ _⟩
 | some l=>
   clear o;have j:∀W,(binOp BinOp.eql 101 (.slice (some l) n b) (.slice none 0 0)).run Tryz.prog W=.ok (.bool false) W:=fun W=>aj;go_enter Tryz.func111,Tryz.ntmps111;have m:=Ext.alloc w (.cells #[] 3);have d:(w.alloc (.cells #[] 3)).ownsRow w.heap.size 3 1 (.slice (some ⟨w.heap.size,0,none⟩) 0 0) 0 []:=World.ownsRow_made w #[] 0 (aH _) av rfl;have q:w.heap.size<=(w.alloc (.cells #[] 3)).heap.size:=av;go_wp2_with(at_builtin;go_must(refine sV (by rfl) (.tmp 5) (.tmp 6) 101 3 rfl w.heap.size (.int .i64 0) 1 8 Tryz.underlying101 uW rfl aq _ 0 [] rfl d (some l) n b g rfl rfl y (Cells.ext t m) r af aq q ?_;intro B C f i));go_ret;refine⟨Ext.trans' m (Below.ij i d (aH _) q),_,rfl,?_⟩;simpa using f
theorem awP (g n B:Nat) (L:List Int) (w:World) (r:L.length=n) (Z:1<=n) (hm:n<=1000000) (K:qq w g L) (o:g<w.heap.size):
 Calls Tryz.prog 112 #[.slice (some ⟨g,0,none⟩) n B] w fun e w'=>e=.returned (.tuple #[])/\w.grownBy w' (some g)/\qq w' g L.reverse:=by
 have N:=ag K;obtain⟨D,rfl⟩:∃D:World,D=w:=⟨_,rfl⟩;have f:=ag o;clear K o;go_enter Tryz.func112,Tryz.ntmps112;go_upto_region 1 with(fail);go_loopw[2,3] (fun i j wr=>∃(k:Nat) (X:List Int),k<=n/\i=.int .i64 k/\j=.int .i64 ((n:Int)-1-k)/\D.grownBy wr (some g)/\qq wr g X/\JI L X k) (fun i _ _=>n-(intOf i).toNat)
 case atStart=>exact⟨0,L,bL _,rfl,bX,Mk g (Ext.refl _),N.out,awK L⟩
 case round=>
  obtain⟨k,X,hk,rfl,rfl,b,d,m⟩:=hrel;by_cases l:k<n-1-k
  ·obtain⟨j,F⟩:∃j,j=n-1-k:=⟨_,rfl⟩;have q:(n:Int)-1-k=(j:Int):=af;rw[q];have R:(k:Int)<(j:Int):=af;have S:(k:Int)<n:=af;have Q:(j:Int)<n:=af;have I:¬k=j:=af;have J:¬j=k:=af;have T:=d.at k (by rw[m.1,r];omega);have U:=d.at j (by rw[m.1,r];omega);have V:=d.free k;have Y:=d.free j;have O:g<wr.heap.size:=fM f.out b.size;have C:IntKind.i64.wrap ((j:Int)-1)=(n:Int)-1-(k+1:Nat):=pJ;have E:=ag (awL m (by rw[r];exact l));rw[r,<-F] at E;have t:=ag (d.set k (X.getD j 0));have u:=ag (t.out.set j (X.getD k 0));have z:=ag b;clear d m b t F l q;generalize X.getD k 0=x at *;generalize X.getD j 0=y at *;go_upto_region 3 with(fail);go_region;all_goals
    go_wp2_with fail;go_roundw
    case rel=>exact⟨k+1,_,af,bX,by first | rfl | (congr 1;omega) | (rw[C]),Dv (Dv z.out (Sh (aI.setCell.trans aI.setCell)) f.out) (Mk g (Ext.drew _)) f.out,u.out.ext (Ext.drew _),E.out⟩
    case measure=>exact ct
  ·have G:decide ((k:Int)<(n:Int)-1-k)=false:=aM af;have H:¬(k:Int)<(n:Int)-1-k:=af;have M:Hid (X=L.reverse):=ag (awM m (by rw[r];exact l));have t:=ag d;have z:=ag b;clear d m b;go_wp2_with fail;go_end0;exact⟨rfl,z.out,by rw[<-M.out];exact t.out⟩
end Go.Proofs.YteninnkbmoimgaaGreatDoor
namespace aD
theorem OG (A B:List aQ):dU (A++B)=dU A++dU B:=by unfold dU;rw[jW]
theorem awQ (A:List aQ):(dU A).reverse=dU A.reverse:=by unfold dU;rw[List.map_reverse]
theorem xO (A:List aQ):(dU A).length=A.length:=by unfold dU;rw[kF]
theorem dL.awR {M:List (List UInt8)} {d:DS} {h:Hd} {S:List aQ} {b:List Int} {n:Nat} (K:dL M d h S b n) {pre:List aQ} {s:aQ} {post:List aQ} (e:S=pre++s::post):s.2.base∉dU pre:=by
 intro g;unfold dU at g;obtain⟨t,l,j⟩:=fT.1 g;have f:=K.k.apart;rw[e,mT] at f;have i:=f.2.2 t l s av;have m:=(iM K.keyed).2;have o:0<=d.aN:=af;rw[j] at i;omega
end aD
namespace Go.Proofs.YteninnkbmoimgaaGreatDoor
open Go.RowKit aD
theorem ah8 {M:List (List UInt8)} {d:DS} {h:Hd} {S:List aQ} {F:List Int} {n:Nat} (K:dL M d h S F n) {pre:List aQ} {s:aQ} {post:List aQ} (e:S=pre++s::post) (p:Option Addr) (b m:Nat) (P:List Int) (N:Option Addr) (U H:Nat) (w:World) (J:bk w p M) (hn:M.length=m) (G:Ints w N P) (Y:P.length=H+1) (u:P.getD H 0=s.2.base) (hH:H<=100):
 Calls Tryz.prog 75 #[.agg (bH (.slice p m b) h d),.slice N (H+1) U] w fun e w'=>Ext w w'/\∃q c,e=.returned (.tuple #[.slice q S.length c,.int .i64 pre.length,.int .i64 0])/\w'.ownsRow w.heap.size 3 1 (.slice q S.length c) S.length (cP (dU S)):=by
 have f:=ag (fun W (e:bk W p M)=>adI p b m M h d W e hn K.small K.bases.2.2);rw[K.bases.1,K.bases.2.1] at f;unfold mJ at f;simp only[pF,xO] at f;have j:=K.awR e;have Z:S.length<=101:=EW;have l:dU S=dU pre++s.2.base::dU post:=by rw[e,OG];rfl
 have hpl:pre.length<S.length:=by rw[e];simp
 have t:=ag (fun q c W (X:Ints W q (dU S))=>awN q c S.length (dU pre) (dU post) s.2.base W (by rw[<-l];exact X) j (by rw[<-l,xO]) af);rw[xO] at t;have T:=ag J;have B:=ag G;have L:=Ext.alloc w (.cells (bH (.slice p m b) h d) 117);have I:=ah.new w (.cells (bH (.slice p m b) h d) 117);generalize s.2.base=x at *;clear j l J G K e;go_enter Tryz.func75,Tryz.ntmps75;go_upto_region 1 with(fail);refine aR (fun W=>Ext w W/\ah W w.heap.size (.cells (bH (.slice p m b) h d) 117)) ⟨L,I⟩ ?_;clear L I;rintro w0 ⟨i,g⟩;have i0:w0.cell? ⟨w.heap.size,0,none⟩=some (.iface 32 (.slice p m b)):=ah.val g 0 _ rfl;have l0:=ah.lt g;go_upto_region 4 with(first
  | (refine oY (o:=⟨some 13,_,_,_,_,_⟩) rfl 30 (.tmp 12) rfl w.heap.size 1 rfl _ (bH (.slice p m b) h d) (aK h) _ g (JP _ h d) fH rfl dg ?_)
  | (refine oY (o:=⟨some 15,_,_,_,_,_⟩) rfl 23 (.tmp 14) rfl w.heap.size 8 rfl _ (bH (.slice p m b) h d) (az d) _ g (xS _ h d) gr rfl gD ?_)
  | (go_at_call 54;refine(f.out _ (T.out.ext i)).mono ?_;rintro e w1 ⟨z,q,c,rfl,D⟩))
 have r:=i.trans z;have O:=ag (show Ints w1 q (dU S) from(gh D).1);have Q:=ag (fJ D i.size);have R:=ag r;obtain⟨gp,V,rfl,ke,y⟩:=(B.out.ext r).at H af;have C:=y H af;rw[u] at C;generalize nM:H+1=E;have hw1:IntKind.i64.wrap ((E:Int)-1)=(H:Int):=pJ;have hn2:(H:Int)<E:=af;have lY:H<E:=af;have EE:¬((pre.length:Int)<0):=af;clear i z r g i0 l0 D y u f;go_wp2_with(go_at_call 110;refine(t.out _ _ _ O.out).mono ?_;rintro e w2 ⟨rfl,rfl⟩);go_ret3;exact⟨R.out,q,c,rfl,Q.out⟩
theorem awS {M:List (List UInt8)} {d:DS} {h:Hd} {S:List aQ} {dn:List Int} {n:Nat} (K:dL M d h S dn n) (p:Option Addr) (r m:Nat) (hn:M.length=m) (b:List aQ) (y:∀s∈b,s∈S) (X:Addr) (cb nb:Nat) (l:b.length=nb) (h1:1<=nb) (h2:nb<=1000) (k:List UInt8) (w:World) (D:bk w p M) (V:Ints w (some X) (dU b)):
 Calls Tryz.prog 79 #[.agg (bH (.slice p m r) h d),.slice (some X) nb cb,.string ⟨k.toArray⟩,.bool false] w (BX d (b.reverse.findSome? fun s=>jt d (aX s.2) k) w):=by
 have E:=ag (fun W (hI:Ints W (some X) (dU b))=>awO (some X) cb nb (cP (dU b)) W hI (by rw[Nat.mul_one,<-l,<-xO b];simp[cP]) (TV _) af (fun h=>ot));have t:=ag (fun g c W (hr:qq W g (dU b)) hg=>awP g nb c (dU b) W (by rw[xO,l]) h1 af hr hg);rw[awQ] at t;have u:=ag (fun q c ab kb W (Ei:bk W p M) (hI:Ints W q (dU b.reverse)) (ha:ah W ab (.cells #[.bool false] 4)) (hk:ah W kb (.cells #[.string ⟨k.toArray⟩] 9))=>agS K p r m hn b.reverse (fun s D=>y s (by simpa using D)) q c 113 #[.pointer (some ⟨ab,0,none⟩),.pointer (some ⟨kb,0,none⟩)] (fun s=>jt d (aX s.2) k) W Ei hI aY (awJ K b.reverse (fun s D=>y s (by simpa using D)) k ab kb W ha hk));simp only[Ga,l] at u;have hln:(dU b).length=nb:=by rw[xO,l]
 have Hs:=ag D;have Hb:=ag V;have h0:=zB w (.cells (bH (.slice p m r) h d) 117) (.cells #[.string ⟨k.toArray⟩] 9) (.cells #[.bool false] 4);generalize(b.reverse.findSome? fun s=>jt d (aX s.2) k)=o at *;clear D V K y l;go_enter Tryz.func79,Tryz.ntmps79;go_upto_region 1 with(fail);refine aR (fun W=>Ext w W/\ah W w.heap.size (.cells (bH (.slice p m r) h d) 117)/\ah W (w.heap.size+1) (.cells #[.string ⟨k.toArray⟩] 9)/\ah W (w.heap.size+1+1) (.cells #[.bool false] 4)) h0 ?_;clear h0;rintro w0 ⟨L,J,N,F⟩;have f:=ag (And.intro L (And.intro J (And.intro N F)));clear L J N F;go_upto_region 2 with(go_at_call 111;refine(E.out _ (Hb.out.ext f.out.1)).mono ?_;rintro e w1 ⟨i,v1,rfl,B⟩);obtain⟨q1,c1,rfl⟩:=cE B;obtain⟨g,cur,rfl,hg0,z,hnc,hcm,JJ,Q⟩:=jM B af;have Z:=ag (show qq w1 g (dU b) from⟨cur,z,by rw[hln,<-Q,Nat.mul_one]⟩);have hgl:=ah.lt z;have R:=f.out.1.trans i;have G:=i.blk _ _ f.out.2.1;have H:=i.blk _ _ f.out.2.2.1;have I:=i.blk _ _ f.out.2.2.2;have hz0:=ah.lt f.out.2.2.2;clear B JJ Q z i E;go_upto_region 3 with(go_at_call 112;refine(t.out _ _ _ Z.out hgl).mono ?_;rintro e w2 ⟨rfl,j,O⟩);have C:=G9 R j (by have:=f.out.1.size;omega);have kb1:=ah.grown G j aY;have T:=ah.grown H j aY;have U:=ah.grown I j aY
 have Y:=ag (show Ints w2 (some ⟨g,0,none⟩) (dU b.reverse) by obtain⟨aBk,V,ht⟩:=O;exact Gk V ht);have iZ:=ag (u.out (some ⟨g,0,none⟩) c1 (w.heap.size+1+1) (w.heap.size+1) w2 (Hs.out.ext C) Y.out U T);have sX:=ag C;clear R G H I j O C T U t u;go_wp2_with(first
  | (refine bz (o:=⟨some 15,_,_,_,_,_⟩) rfl 117 (.tmp 4) rfl _ rfl _ _ _ kb1 yf rfl rz ?_)
  | (go_at_call 76;refine iZ.out.mono ?_;rintro e w3 ⟨rfl,jc⟩))
 go_ret3;exact⟨rfl,sX.out.trans jc⟩
theorem awU {w:World} {g:Nat} {L:List Int} (h:Ints w (some ⟨g,0,none⟩) L) (i:Nat):Ints w (some ⟨g,i,none⟩) (L.drop i):=by
 by_cases l:i<L.length
 ·obtain⟨b,n,d,e,f⟩:=h.at i l;simp only[mz,Addr.mk.injEq,kD] at d;obtain⟨rfl,rfl⟩:=d;refine .inr ⟨g,i,rfl,e,fun j m=>?_⟩;simp only[kF,eU] at m;have:=f (i+j) af;rw[nB] at this;rw[this,KA _ _ aY];simp[List.getD]
 ·rw[jI af];exact .inl rfl
theorem awV {w:World} {q:Option Addr} {L:List Int} (h:Ints w q L) (i:Nat):Ints w q (L.take i):=by
 by_cases e:0<L.length
 ·obtain⟨b,d,m,f,g⟩:=h.at 0 e;refine .inr ⟨b,d,m,f,fun j l=>?_⟩;simp only[kF,gF] at l;rw[g j af,KA _ _ aY];have:j<i:=af;simp[List.getD,qF,this]
 ·have:L=[]:=gY af;subst this;simp only[gj];exact .inl rfl
theorem awW {M:List (List UInt8)} {d:DS} {h:Hd} {S:List aQ} {dn:List Int} {n:Nat} (K:dL M d h S dn n) (k:List UInt8) (p:Option Addr) (cap m:Nat) (w:World) (hs:bk w p M) (hn:M.length=m):
 Calls Tryz.prog 49 #[.iface 32 (.slice p m cap),.agg (aK h),.agg (az d),.string ⟨k.toArray⟩] w (BX d (jL d (aT S) k) w):=by
 obtain⟨_,pre,s,post,he,kC,h1,h2⟩:=K.k.at k;subst he;have G:=ag (fun W=>Oe p m cap h d W K.keyed K.door);have E:=ag (fun W (e:bk W p M)=>Vr K k p cap m W e hn);have Eh:h.height.toNat<=5:=Cv;have hpat:(eW M h d k h.height.toNat).getD h.height.toNat 0=s.2.base:=EJ;have B6:=tO M h d k h.height.toNat;have HOr:=ag (fun q c W (e:bk W p M) (hP:Ints W q (eW M h d k h.height.toNat))=>ah8 K rfl p cap m _ q c h.height.toNat W e hn hP B6 hpat af);have l:∀t∈s::post,t∈pre++s::post:=fun t ht=>by rw[iG];exact .inr ht
 have Z:(pre++s::post).length-pre.length=(s::post).length:=av;have N:(dU (pre++s::post)).drop pre.length=dU (s::post):=by rw[OG,MT (xO pre)]
 have z:=ag (fun g c kb W (e:bk W p M) (hI:Ints W (some ⟨g,0,none⟩) (dU (pre++s::post))) (hk:ah W kb (.cells #[.string ⟨k.toArray⟩] 9))=>agS K p cap m hn (s::post) l (some ⟨g,pre.length,none⟩) (c-pre.length) 77 #[.pointer (some ⟨kb,0,none⟩)] (fun t=>jL d (aX t.2) k) W e (by rw[<-N];exact awU hI _) (by have:=K.an;have:=K.n0;simp only[ew] at *;omega) (awH K (s::post) l k kb W hk));rw[K.k.next h1];simp only[<-Z] at z;have VW:(pre++s::post).length<=101:=EW;have hlt:pre.length<(pre++s::post).length:=av;generalize((s::post).findSome? fun t=>jL d (aX t.2) k)=o at *;generalize(pre++s::post).length=ns at *;generalize pre.length=i at *;generalize dU (pre++s::post)=BS at *;generalize hHH:h.height.toNat=H at *;generalize eW M h d k H=P at *;have Hs:=ag hs;clear K kC h1 h2 hs l Z N;have h0:=zB w (.cells (aK h) 30) (.cells (az d) 23) (.cells #[.string ⟨k.toArray⟩] 9);go_enter Tryz.func49,Tryz.ntmps49;go_upto_region 1 with(fail);refine aR (fun W=>Ext w W/\fG W w.heap.size h/\bI W (w.heap.size+1) d/\ah W (w.heap.size+1+1) (.cells #[.string ⟨k.toArray⟩] 9)) h0 ?_;clear h0;rintro w0 ⟨T,hb1,hb2,j⟩;have I:=ag T;clear T;go_upto_region 4 with(first
  | (refine Pn ?_)
  | (refine Po ?_)
  | (go_at_call 53;refine(G.out _).mono ?_;rintro e w1 ⟨rfl,U⟩)
  | (refine aU rfl 117 (.tmp 11) (.tmp 21) rfl _ (bH (.slice p m cap) h d) rfl rfl _ _ (ah.new w1 _) rz rfl (vu p m cap h d) ?_;intro w2 O V))
 have f:=U.trans (V.ext (Ext.alloc w1 _) (aH _));have hx2:=I.out.trans f
 replace hb1:=hb1.ext f
 replace hb2:=hb2.ext f
 replace j:=f.blk _ _ j
 have B:=ag hx2;have i7:w2.cell? ⟨w.heap.size+1+1,0,none⟩=some (.string ⟨k.toArray⟩):=ah.val j 0 _ rfl;have l7:=ah.lt j;generalize w1.heap.size=cb at *;clear U V f hx2 I;go_upto_region 7 with(first
  | (refine mM (o:=⟨some 28,_,_,_,_,_⟩) rfl (.tmp 5) rfl _ rfl h hb1 ?_)
  | (refine bu (o:=⟨some 29,_,_,_,_,_⟩) rfl (.tmp 6) rfl _ rfl d hb2 ?_)
  | (go_at_call 74;refine(E.out _ (Hs.out.ext B.out)).mono ?_;rintro e w3 ⟨r,q,c,rfl,L⟩))
 have iA:=r.blk _ _ O;have X:=r.blk _ _ j;have C:=ag (B.out.trans r);have F:=ag (HOr.out _ c _ (Hs.out.ext C.out) L);clear hb1 hb2 j i7 l7 r O L B HOr E G;go_upto_region 10 with(first
  | (refine Xz ?_)
  | (go_at_call 75;refine F.out.mono ?_;rintro e w4 ⟨u,q4,c4,rfl,D⟩))
 obtain⟨g,cur,rfl,hg0,hgb,hnc,hcm,JJ,htk⟩:=jM D af;have DU:=ag (show Ints w4 (some ⟨g,0,none⟩) BS from(gh D).1);have R:=u.blk _ _ iA;have Y:=u.blk _ _ X;have J:=ag (C.out.trans u);have tQ:=ag (fun W (e:Ext w4 W)=>z.out g c4 (w.heap.size+1+1) W (Hs.out.ext (J.out.trans e)) (DU.out.ext e) (e.blk _ _ Y));have IC:(i:Int)<=ns:=af;have vN:¬i=c4:=af;have hin:i<=ns:=af;have hic:i<=c4:=af;obtain⟨y,hy⟩:∃y,y=jn d o:=⟨_,rfl⟩;unfold BX at tQ⊢;have XX:=ag R;clear JJ htk hgb D u iA X Y C F z R;refine eR 200 (Ext.refl w4) aj aj aj ?_;simp only[cY,eF,gj,dV,dP,gC,dh,dQ];repeat (first
  | (refine pI ?_)
  | (refine fR ?_)
  | (refine Y1 ?_)
  | (refine XW ?_)
  | (refine fk ?_))
 intro w2 f;repeat (first | with_reducible refine cH _ _ _ _ ?_ | (with_reducible refine cI _ _ _ _ ?_;intro _ _) | with_reducible refine cJ _ _ ?_)
 simp only[cF,cK,bQ,bE];go_wp2_with fail;go_ret3;exact⟨rfl,J.out.trans f⟩
theorem awY {M:List (List UInt8)} {d:DS} {h:Hd} {S:List aQ} {dn:List Int} {n:Nat} (K:dL M d h S dn n) (k:List UInt8) (p:Option Addr) (cap m:Nat) (w:World) (hs:bk w p M) (hn:M.length=m):
 Calls Tryz.prog 50 #[.iface 32 (.slice p m cap),.agg (aK h),.agg (az d),.string ⟨k.toArray⟩] w (BX d (jt d (aT S) k) w):=by
 obtain⟨_,pre,s,post,he,kC,h1,h2⟩:=K.k.at k;subst he;have E:=ag (fun W=>Oe p m cap h d W K.keyed K.door);have C:=ag (fun W (e:bk W p M)=>Vr K k p cap m W e hn);have Eh:h.height.toNat<=5:=Cv;have V:(eW M h d k h.height.toNat).getD h.height.toNat 0=s.2.base:=EJ;have X:=tO M h d k h.height.toNat;have HOr:=ag (fun q c W (e:bk W p M) (hP:Ints W q (eW M h d k h.height.toNat))=>ah8 K rfl p cap m _ q c h.height.toNat W e hn hP X V af);have j:∀t∈pre++[s],t∈pre++s::post:=fun t ht=>by
  rw[iG] at ht⊢;exact ht.imp id (fun h=>by simp at h;subst h;simp)
 have L:(dU (pre++s::post)).take (pre.length+1)=dU (pre++[s]):=by
  rw[OG,OG,<-xO pre,List.take_length_add_append];rfl
 have F:=ag (fun g c W (e:bk W p M) (hI:Ints W (some ⟨g,0,none⟩) (dU (pre++s::post)))=>awS K p cap m hn (pre++[s]) j ⟨g,0,none⟩ c (pre.length+1) av af (by have:=K.an;have:=K.n0;simp only[ew,gW] at *;omega) k W e (by rw[<-L];exact awV hI _));rw[K.k.prev h2];have VW:(pre++s::post).length<=101:=EW;have hlt:pre.length<(pre++s::post).length:=av;generalize((pre++[s]).reverse.findSome? fun t=>jt d (aX t.2) k)=o at *;generalize(pre++s::post).length=ns at *;generalize pre.length=i at *;generalize dU (pre++s::post)=BS at *;generalize hHH:h.height.toNat=H at *;generalize eW M h d k H=P at *;have Hs:=ag hs;clear K kC h1 h2 hs j L;have h0:=BW w (.cells (aK h) 30) (.cells (az d) 23);go_enter Tryz.func50,Tryz.ntmps50;go_upto_region 1 with(fail);refine aR (fun W=>Ext w W/\fG W w.heap.size h/\bI W (w.heap.size+1) d) h0 ?_;clear h0;rintro w0 ⟨R,hb1,hb2⟩;have G:=ag R;clear R;go_upto_region 4 with(first
  | (refine Pn ?_)
  | (refine Po ?_)
  | (go_at_call 53;refine(E.out _).mono ?_;rintro e w1 ⟨rfl,T⟩)
  | (refine aU rfl 117 (.tmp 11) (.tmp 21) rfl _ (bH (.slice p m cap) h d) rfl rfl _ _ (ah.new w1 _) rz rfl (vu p m cap h d) ?_;intro w2 N U))
 have f:=T.trans (U.ext (Ext.alloc w1 _) (aH _));have Y:=G.out.trans f
 replace hb1:=hb1.ext f
 replace hb2:=hb2.ext f
 have l:=ag Y;generalize w1.heap.size=cb at *;clear T U f Y G;go_upto_region 7 with(first
  | (refine mM (o:=⟨some 28,_,_,_,_,_⟩) rfl (.tmp 5) rfl _ rfl h hb1 ?_)
  | (refine bu (o:=⟨some 29,_,_,_,_,_⟩) rfl (.tmp 6) rfl _ rfl d hb2 ?_)
  | (go_at_call 74;refine(C.out _ (Hs.out.ext l.out)).mono ?_;rintro e w3 ⟨u,q,c,rfl,J⟩))
 have iA:=u.blk _ _ N;have r:=ag (l.out.trans u);have D:=ag (HOr.out _ c _ (Hs.out.ext r.out) J);clear hb1 hb2 u N J l HOr C E;go_upto_region 10 with(first
  | (refine Xz ?_)
  | (go_at_call 75;refine D.out.mono ?_;rintro e w4 ⟨z,q4,c4,rfl,B⟩))
 obtain⟨g,cur,rfl,hg0,hgb,hnc,hcm,JJ,htk⟩:=jM B af;have Z:=ag (show Ints w4 (some ⟨g,0,none⟩) BS from(gh B).1);have O:=z.blk _ _ iA;have I:=ag (r.out.trans z);have tQ:=ag (fun W (e:Ext w4 W)=>F.out g c4 W (Hs.out.ext (I.out.trans e)) (Z.out.ext e));generalize nM:i+1=n1 at *;have hw1:IntKind.i64.wrap ((i:Int)+1)=(n1:Int):=pJ;have hn2:(n1:Int)<=c4:=af;have lY:n1<=c4:=af;obtain⟨y,hy⟩:∃y,y=jn d o:=⟨_,rfl⟩;unfold BX at tQ⊢;have XX:=ag O;clear JJ htk hgb B z iA r D F O;refine eR 200 (Ext.refl w4) aj aj aj ?_;simp only[cY,eF,gj,dV,dP,gC,dh,dQ];repeat (first
  | (refine pI ?_)
  | (refine fR ?_)
  | (refine Y1 ?_)
  | (refine XW ?_)
  | (refine fk ?_))
 intro w2 f;repeat (first | with_reducible refine cH _ _ _ _ ?_ | (with_reducible refine cI _ _ _ _ ?_;intro _ _) | with_reducible refine cJ _ _ ?_)
 simp only[cF,cK,bQ,bE];go_wp2_with fail;go_ret3;exact⟨rfl,I.out.trans f⟩
end Go.Proofs.YteninnkbmoimgaaGreatDoor

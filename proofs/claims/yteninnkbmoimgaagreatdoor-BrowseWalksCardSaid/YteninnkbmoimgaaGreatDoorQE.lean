/- A part of the proof. -/
import Derived.Test.YteninnkbmoimgaaGreatDoorPKN
import Derived.Test.YteninnkbmoimgaaGreatDoorRB0
import Derived.Test.YteninnkbmoimgaaGreatDoorRB6
set_option linter.unusedSimpArgs false
set_option linter.unusedVariables false
set_option maxRecDepth 100000
set_option maxHeartbeats 16000000
namespace Go.Proofs.YteninnkbmoimgaaGreatDoor
open Go.RowKit aD
theorem awZ (O:List (List UInt8)) (j:Nat):((O++List.replicate j []).map fun s:List UInt8=>Value.string ⟨s.toArray⟩)++[.string ⟨#[]⟩]=(O++List.replicate (j+1) []).map fun s:List UInt8=>Value.string ⟨s.toArray⟩:=by
 rw[List.replicate_succ'];simp
theorem grow_end {O:List (List UInt8)} {j:Nat} {pg:Int} (h:j=0∨((O.length:Int)+j<=pg+1/\pg<10000)) (d:¬((O.length:Int)+j<=pg/\pg<10000)):O++List.replicate j []=lK O pg:=by
 unfold lK;by_cases b:pg<10000
 ·rw[aC b];have:(pg+1-(O.length:Int)).toNat=j:=af;rw[this]
 ·rw[aA b];have:j=0:=af;subst this;simp
def aia:Value->Nat
 | .slice _ n _=>n
 | _=>0
theorem ah5 (ad:Option Addr) (q:Option Addr) (n V k c:Nat) (m:List (List UInt8)) (L:List (Int×List UInt8)) (w:World) (hs:bk w ad m) (hn:m.length=n) (hw:iC w q L) (hk:L.length=k) (hm:n<=100000) (hL:k<=100):
 Calls Tryz.prog 41 #[.slice ad n V,.slice q k c] w fun e w'=>Ext w w'/\∃v,e=.returned v/\w'.ownsRow w.heap.size 9 1 v (fV m L).length ((fV m L).map fun s=>.string ⟨s.toArray⟩):=by
 subst hk;have Hs:=ag hs;have Hn:=ag hn;have Hw:=ag hw;clear hs hw hn;go_enter Tryz.func41,Tryz.ntmps41;go_wp2_with(first | (at_builtin;go_must(refine qE rfl (fun K hK=>rN (.tmp 7) (.tmp 8) 32 9 rfl w.heap.size (.string ByteArray.empty) 1 16 Tryz.underlying32 uV rfl w.heap.size rfl (ah.new w _) (aH _) ad n V (m.map fun s:List UInt8=>Value.string ⟨s.toArray⟩) rfl (by simpa using Hn.out) (fun T=>al9 (bk.ext Hs.out (Ext.alloc _ _)) (by rw[Hn.out];exact T)) af aq av (fun v' w1 C Z=>hK _ _ ?_)))));have uD:Ext w w1:=(Ext.alloc _ _).trans Z;have M:=ag C;have zj:=ag uD;clear C Z uD;go_loopw[5,6] (fun v i wr=>∃j:Nat,j<=L.length/\i=.int .i64 j/\Ext w wr/\wr.ownsRow w.heap.size 9 1 v (fV m (L.take j)).length ((fV m (L.take j)).map fun s=>.string ⟨s.toArray⟩)) (fun _ i _=>L.length-(intOf i).toNat)
 case atStart=>exact⟨0,bL _,rfl,zj.out,by have:=M.out;rw[<-Hn.out] at this;simpa[fV] using this⟩
 case round=>
  obtain⟨j,hj,rfl,d,f⟩:=hrel;have J:=(ZI m (L.take j)).2;have J:(fV m (L.take j)).length<=1200000:=by
   have h1:(L.take j).length<=100:=aY;have h2:=AE 10000 h1;have:=Hn.out;omega
  by_cases S:j<L.length
  ·have HT:=ag (akK m L j S);obtain⟨b,off,rfl,hb,hc⟩:=Hw.out.at j S;obtain⟨D,E⟩:=hc j S;have gB:(j:Int)<L.length:=af;generalize fV m (L.take j)=O at *;generalize L.getD j (0,[])=x at *;obtain⟨pg,s⟩:=x;simp only at D E;have V5:=ag D;have OH:=ag E;have Hb:=ag hb;have z:=ag f;have U:=ag d;clear hc D E f d hb;obtain⟨qv,cv,rfl,_,_,_,_⟩:=CO z.out;go_wp2_with fail;obtain⟨wo,rfl⟩:∃wo:World,wo=wr:=⟨_,rfl⟩;go_loopw[5] (fun v wr=>∃i:Nat,Ext w wr/\wr.ownsRow w.heap.size 9 1 v (O.length+i) ((O++List.replicate i []).map fun s:List UInt8=>.string ⟨s.toArray⟩)/\(i=0∨((O.length:Int)+i<=pg+1/\pg<10000))) (fun v _=>(pg+1).toNat-aia v)
   case atStart=>exact⟨0,U.out,by simpa using z.out,.inl rfl⟩
   case round=>
    obtain⟨i,d,f,hij⟩:=hrel;have aBl:O.length+i<=1300000:=af;obtain⟨q2,c2,rfl,xl,_,_,_⟩:=CO f;have D:=(d.cell b _ Hb.out).trans V5.out;have E:=(d.cell b _ Hb.out).trans OH.out;have hbw:=fM Hb.out d.size;have r:=ag f;have Qq:=ag d;have Hij:=ag hij;have hws:=d.size;clear xl f d hij;by_cases hgo:(O.length:Int)+i<=pg/\pg<10000
    ·obtain⟨hg1,F⟩:=hgo;have aBo:decide (((O.length+i:Nat):Int)<=pg)=true:=bM af;have aBp:decide (pg<10000)=true:=bM F;go_wp2_with(first | (at_builtin;go_must(refine nW rfl (.tmp 32) (.tmp 33) 32 9 rfl w.heap.size (.string ByteArray.empty) 1 16 Tryz.underlying32 uV rfl aq _ _ _ rfl (r.out.alloc _) _ [.string ⟨#[]⟩] rfl (ah.new _ _) rfl nk af aq aY ?_;intro v2 w2 t I;have hb2:=Below.ij (B:=w.heap.size) I (r.out.alloc _) (aH _) aY;clear I)));rw[awZ] at t;obtain⟨q3,c3,rfl,_,_,_,_⟩:=CO t;go_roundw
     case rel=>exact⟨i+1,Ext.trans' (Qq.out.trans (Ext.alloc _ _)) hb2,t,.inr ⟨af,F⟩⟩
     case measure=>simp[aia];omega
    ·have hG:=grow_end Hij.out hgo;have hGl:(lK O pg).length=O.length+i:=by rw[<-hG];simp
     have y:=r.out;rw[hG] at y;have HP:=ag (show jl O (pg,s)=if 0<=pg/\pg<(lK O pg).length then(lK O pg).set pg.toNat s else lK O pg from rfl);generalize lK O pg=G at *;have KQ:=ag hGl;have Qr:=ag y;clear hG hGl y;by_cases N:((O.length+i:Nat):Int)<=pg
     ·have Y:decide (((O.length+i:Nat):Int)<=pg)=true:=bM N;have h10:decide (pg<10000)=false:=aM af;have X:decide (0<=pg)=true:=bM af;have Tu:decide (pg<((O.length+i:Nat):Int))=false:=aM af;have qK:Hid (jl O (pg,s)=G):=ag (by rw[HP.out,aA (by rw[KQ.out];omega)]);exact Y4
     ·have Y:decide (((O.length+i:Nat):Int)<=pg)=false:=aM N;have Tu:decide (pg<((O.length+i:Nat):Int))=true:=bM af;by_cases T:0<=pg
      ·have X:decide (0<=pg)=true:=bM T;have qK:Hid (jl O (pg,s)=G.set pg.toNat s):=ag (by rw[HP.out,aC ⟨T,by rw[KQ.out];omega⟩]);obtain⟨P,rfl⟩:=pN T;rw[jU] at qK;have MG:P<O.length+i:=af;obtain⟨g,rfl,hg1,F,rR,jV,l⟩:=Fk Qr.out P MG;have hPI:(P:Int)<((O.length+i:Nat):Int):=af;clear hgo l jV rR N;go_upto_region 8 with(fail);refine eR 12 (Ext.refl wr) aj aj aj ?_;refine gV ?_;repeat (first
        | (refine pI ?_)
        | (refine fR ?_)
        | (refine iq ?_)
        | (refine fk ?_))
       intro w2 R;repeat (first | with_reducible refine cH _ _ _ _ ?_ | (with_reducible refine cI _ _ _ _ ?_;intro _ _) | with_reducible refine cJ _ _ ?_)
       simp only[cF,cK,bQ,bE];have hgb:=fM F R.size;obtain⟨g',hgg,aBr,aBs,aBt,aBu,l⟩:=Fk (aO Qr.out R) P MG;simp at hgg;obtain rfl:=hgg;have l:=l (.string ⟨s.toArray⟩);rw[ajR] at l;have H:=ag l;have zk:=ag (Qq.out.trans R);clear l;go_wp2_with fail;go_roundw
       case rel=>exact⟨j+1,af,bX,Ext.trans' zk.out H.out.2,by rw[HT.out,qK.out,pE,KQ.out];exact H.out.1⟩
       case measure=>exact ct
      ·have X:decide (0<=pg)=false:=aM T;have qK:Hid (jl O (pg,s)=G):=ag (by rw[HP.out,aA af]);exact Y4
  ·have gB:decide ((j:Int)<L.length)=false:=aY;obtain rfl:j=L.length:=af;rw[rT] at f J;obtain⟨qv,cv,rfl,_,_,_,_⟩:=CO f;have z:=ag f;clear f;go_wp2_with fail;go_ret;exact⟨d,_,rfl,z.out⟩
theorem aid:Tryz.prog.underlying 79=some (.struct (Tryz.prog.fieldsOf 79)):=aj
theorem OI:(Tryz.prog.info? 79).map (·.size)=some 29:=aj
theorem aw0 (p:Option Addr) (n b:Nat) (h:Hd) (d:DS):Tryz.prog.built 79 [(0,.iface 32 (.slice p n b)),(1,.agg (aK h)),(2,.agg (az d))]=some (bH (.slice p n b) h d):=aj
theorem Pm (k:List UInt8) (b:Bool):Tryz.prog.built 26 [(0,.string ⟨k.toArray⟩),(1,.bool b)]=some (cD ⟨k,b,false,false⟩):=aj
theorem Wc (x y:List UInt8):Tryz.prog.built 37 [(0,.string ⟨x.toArray⟩),(1,.string ⟨y.toArray⟩)]=some #[.string ⟨x.toArray⟩,.string ⟨y.toArray⟩]:=aj
theorem aw1 (n a b:Int) (w:World) (h1:a<=n) (h2:n<=b):Calls Tryz.prog 31 #[.int .i64 n,.int .i64 a,.int .i64 b] w fun e w'=>e=.returned (.bool true)/\w'=w:=by
 go_enter Tryz.func31,Tryz.ntmps31;exact aar
theorem aw2 (p:Option Addr) (n g:Nat) (h:Hd) (d:DS) (w:World) (E:dA d=true) (I:Eg h d):
 Calls Tryz.prog 29 #[.iface 32 (.slice p n g),.agg (aK h),.agg (az d)] w fun e w'=>e=.returned (.tuple #[.agg (bH (.slice p n g) h d),.int .i64 0])/\Ext w w':=by
 have C:cr d=true/\d.org=3:=by
  have:=iM E;exact⟨this.1,this.2.1⟩
 have D:=ag (fun W=>LJ d W);rw[C.1] at D;have F:(d.org !=3)=false:=by rw[C.2];rfl
 obtain⟨J,K,L,M,N,O,G⟩:=I;obtain⟨k1,k2,Y,Z,k5,k6,k7⟩:=xg G;have H:=ag (fun(n a b:Int) W (h:a<=n/\n<=b)=>aw1 n a b W h.1 h.2);have q:=Rv w h d mI 79;clear G k1 E C;go_enter Tryz.func29,Tryz.ntmps29;go_upto_region 1 with(fail);refine aR (fun r=>Ext w r/\fG r w.heap.size h/\bI r (w.heap.size+1) d/\ah r (w.heap.size+1+1) (.cells mI 79)) q ?_;clear q;rintro r ⟨B,t,l,u⟩;go_wp2_with(first
  | ((with_reducible refine aW 8 ?_);refine bu rfl (.tmp 5) rfl _ rfl d l ?_)
  | (go_at_call 48;refine(D.out _).mono ?_;rintro e w1 ⟨rfl,j⟩;have f:=t.ext j;have i:=l.ext j;have m:=j.blk _ _ u;have Q:=ah.val f 1 _ rfl;have R:=ah.val f 2 _ rfl;have S:=ah.val f 3 _ rfl;have T:=ah.val f 4 _ rfl;have U:=ah.val f 5 _ rfl;have V:=ah.val f 6 _ rfl;have l1:=ah.lt f;have X:=ah.val i 1 _ rfl;have ld:=ah.lt i)
  | (go_at_call 31;refine(H.out _ _ _ _ af).mono ?_;rintro e w2 ⟨rfl,rfl⟩)
  | ((with_reducible refine aW 54 ?_);refine bz rfl 30 (.tmp 4) rfl _ rfl _ _ _ f fH rfl dg ?_)
  | ((with_reducible refine aW 55 ?_);refine bu rfl (.tmp 5) rfl _ rfl d i ?_)
  | (refine dW (o:=⟨some 56,_,_,_,_,_⟩) rfl 79 #[(0,.tmp 53),(1,.tmp 54),(2,.tmp 55)] rfl [(0,.iface 32 (.slice p n g)),(1,.agg (aK h)),(2,.agg (az d))] rfl _ (aw0 p n g h d) ?_)
  | (refine aU rfl 79 (.tmp 6) (.tmp 56) rfl _ (bH (.slice p n g) h d) rfl rfl _ _ m OI rfl (vu p n g h d) ?_;intro w3 y z))
 exact bY (dM Tryz.results29 _ _ _ _ _ _ rfl y aid rfl OI) rfl ⟨rfl,z.ext (B.trans j) af⟩
theorem Fu (k:List UInt8) (b:Bool) (w:World):Calls Tryz.prog 14 #[.string ⟨k.toArray⟩,.bool b] w fun e w'=>e=.returned (.agg (cD ⟨k,b,false,false⟩))/\Ext w w':=by
 have g:=ah.new w (.cells mX 26);go_enter Tryz.func14,Tryz.ntmps14;go_wp2_with(first
  | (refine dW (o:=⟨some 7,_,_,_,_,_⟩) rfl 26 #[(0,.tmp 5),(1,.tmp 6)] rfl [(0,.string ⟨k.toArray⟩),(1,.bool b)] rfl _ (Pm k b) ?_)
  | (refine aU rfl 26 (.tmp 4) (.tmp 7) rfl _ (cD ⟨k,b,false,false⟩) rfl rfl _ _ g kE rfl (uS _) ?_;intro i d f))
 exact bY (Si Tryz.results14 _ _ _ _ _ _ rfl d nS rfl kE) rfl ⟨rfl,f.ext (Ext.alloc _ _) (aH _)⟩
theorem aw3:∀args W,(callFunc 49 args).run Tryz.prog W=.ok (.enter 49 args) W:=fun args W=>by simp[callFunc,Tryz.func49];kernel_rfl
theorem aw4:∀args W,(callFunc 50 args).run Tryz.prog W=.ok (.enter 50 args) W:=fun args W=>by simp[callFunc,Tryz.func50];kernel_rfl
theorem aw5 {M:List (List UInt8)} {d:DS} {h:Hd} {S:List aQ} {C:List Int} {n:Nat} (K:dL M d h S C n) (c:eZ) (p:Option Addr) (cap m:Nat) (w:World) (E:bk w p M) (u:M.length=m):
 Calls Tryz.prog 30 #[.agg (bH (.slice p m cap) h d),.agg (cD c)] w fun e w'=>e=.returned (.tuple #[.agg (fF (jn d (fW d (aT S) c))),.int .i64 (yQ (fW d (aT S) c))])/\Ext w w':=by
 have i:=ag (fun W (e:bk W p M)=>awF K c.key p cap m W e u);have Di:=ag (fun W (e:bk W p M)=>awW K c.key p cap m W e u);have Xj:=ag (fun W (e:bk W p M)=>awY K c.key p cap m W e u);unfold BX at Di Xj;have Hs:=ag E;generalize aT S=R at *;have D:=zB w (.cells (bH (.slice p m cap) h d) 79) (.cells (cD c) 26) (.cells #[.string ⟨#[]⟩,.string ⟨#[]⟩] 37);have G:=aw3;have H:=aw4;clear E K;go_enter Tryz.func30,Tryz.ntmps30;go_upto_region 1 with(fail);refine aR (fun W=>Ext w W/\ah W w.heap.size (.cells (bH (.slice p m cap) h d) 79)/\ah W (w.heap.size+1) (.cells (cD c) 26)/\ah W (w.heap.size+1+1) (.cells #[.string ⟨#[]⟩,.string ⟨#[]⟩] 37)) D ?_;clear D;rintro q ⟨g,hc0,f,j⟩;have k0:q.cell? ⟨w.heap.size+1,0,none⟩=some (.string ⟨c.key.toArray⟩):=ah.val f 0 _ rfl;have k2:q.cell? ⟨w.heap.size+1,2,none⟩=some (.bool c.used):=ah.val f 2 _ rfl;have l:q.cell? ⟨w.heap.size+1,3,none⟩=some (.bool c.done):=ah.val f 3 _ rfl;have i0:q.cell? ⟨w.heap.size,0,none⟩=some (.iface 32 (.slice p m cap)):=ah.val hc0 0 _ rfl;have l0:=ah.lt hc0;have lq:=ah.lt f;cases hd:c.done
 ·rw[hd] at l;cases hu:c.used
  ·rw[hu] at k2;cases ho:eJ d R c.key with
   | none=>
     have Hm:Hid (fW d R c=if c.back then jt d R c.key else jL d R c.key):=ag (Jf hd (.inr ho));rw[ho] at i;clear hu hd ho;go_upto_region 7 with(first
      | (refine Wp ?_)
      | (refine Wq ?_)
      | (go_at_call 37;refine(i.out _ (Hs.out.ext g)).mono ?_;rintro e F ⟨rfl,b⟩))
     refine aR (fun W=>Ext w W/\ah W w.heap.size (.cells (bH (.slice p m cap) h d) 79)/\ah W (w.heap.size+1) (.cells (cD c) 26)/\ah W (w.heap.size+1+1) (.cells #[.string ⟨#[]⟩,.string ⟨#[]⟩] 37)) ⟨g.trans b,b.blk _ _ hc0,b.blk _ _ f,b.blk _ _ j⟩ ?_;clear k0 k2 l i0 l0 lq g hc0 f j b i;rintro wT ⟨FZ,xR,yK,Rl⟩;have k0:wT.cell? ⟨w.heap.size+1,0,none⟩=some (.string ⟨c.key.toArray⟩):=ah.val yK 0 _ rfl;have k1:wT.cell? ⟨w.heap.size+1,1,none⟩=some (.bool c.back):=ah.val yK 1 _ rfl;have i0:wT.cell? ⟨w.heap.size,0,none⟩=some (.iface 32 (.slice p m cap)):=ah.val xR 0 _ rfl;have l0:=ah.lt xR;have lq:=ah.lt yK;cases hb:c.back
     ·exact Xh
     ·exact Xi
   | some r=>
     have Ho:Hid (fW d R c=some r):=ag (afJ hd hu ho);have t:ax d r=c.key:=by
      have:=CZ ho;simpa using this
     rw[ho] at i;clear hu hd ho;go_upto_region 6 with(first
      | (refine Wp ?_)
      | (refine Wq ?_)
      | (go_at_call 37;refine(i.out _ (Hs.out.ext g)).mono ?_;rintro e F ⟨rfl,b⟩))
     have I:F.cell? ⟨w.heap.size+1,0,none⟩=some (.string ⟨c.key.toArray⟩):=ah.val (b.blk _ _ f) 0 _ rfl;have J:=ah.lt (b.blk _ _ f);have B:=b.blk _ _ j;have z:=g.trans b;clear k0 k2 l i0 l0 lq g hc0 f j b i;go_wp2_with(first
      | ((with_reducible refine aW 35 ?_);refine dW rfl 37 #[(0,.tmp 33),(1,.tmp 34)] rfl [(0,.string ⟨c.key.toArray⟩),(1,.string ⟨r.toArray⟩)] rfl _ (Wc c.key r) ?_)
      | (refine aU rfl 37 (.tmp 4) (.tmp 35) rfl _ #[.string ⟨c.key.toArray⟩,.string ⟨r.toArray⟩] rfl rfl _ _ B fE rfl (nU _ _) ?_;intro w5 nG mD))
     exact bY (dM Tryz.results30 _ _ _ _ _ _ rfl nG lW rfl fE) rfl ⟨by rw[Ho.out,<-t];rfl,mD.ext z af⟩
  ·rw[hu] at k2;have Hm:Hid (fW d R c=if c.back then jt d R c.key else jL d R c.key):=ag (Jf hd (.inl hu));clear hu hd;go_upto_region 7 with(fail);refine aR (fun W=>Ext w W/\ah W w.heap.size (.cells (bH (.slice p m cap) h d) 79)/\ah W (w.heap.size+1) (.cells (cD c) 26)/\ah W (w.heap.size+1+1) (.cells #[.string ⟨#[]⟩,.string ⟨#[]⟩] 37)) ⟨g,hc0,f,j⟩ ?_;clear k0 k2 l i0 l0 lq g hc0 f j i;rintro wT ⟨FZ,xR,yK,Rl⟩;have k0:wT.cell? ⟨w.heap.size+1,0,none⟩=some (.string ⟨c.key.toArray⟩):=ah.val yK 0 _ rfl;have k1:wT.cell? ⟨w.heap.size+1,1,none⟩=some (.bool c.back):=ah.val yK 1 _ rfl;have i0:wT.cell? ⟨w.heap.size,0,none⟩=some (.iface 32 (.slice p m cap)):=ah.val xR 0 _ rfl;have l0:=ah.lt xR;have lq:=ah.lt yK;cases hb:c.back
   ·exact Xh
   ·exact Xi
 ·rw[hd] at l;have Ho:Hid (fW d R c=none):=ag (Je hd);clear hd;go_wp2_with(first
   | ((with_reducible refine aW 14 ?_);refine dW rfl 37 #[] rfl [] rfl _ AO ?_)
   | (refine aU rfl 37 (.tmp 4) (.tmp 14) rfl _ #[.string ⟨#[]⟩,.string ⟨#[]⟩] rfl rfl _ _ j fE rfl cT ?_;intro w5 nG mD))
  exact bY (dM Tryz.results30 _ _ _ _ _ _ rfl nG lW rfl fE) rfl ⟨by rw[Ho.out];rfl,mD.ext g af⟩
theorem V6 {M:List (List UInt8)} {d:DS} {h:Hd} {S:List aQ} {dn:List Int} {n:Nat} (K:dL M d h S dn n) (c:eZ) (p:Option Addr) (j m:Nat) (w:World) (hs:bk w p M) (hn:M.length=m):
 Calls Tryz.prog 12 #[.iface 32 (.slice p m j),.agg (aK h),.agg (az d),.agg (cD c)] w fun e w'=>e=.returned (.tuple #[.agg (cD (c.next d (fW d (aT S) c))),.agg (fF (jn d (fW d (aT S) c))),.int .i64 (yQ (fW d (aT S) c))])/\Ext w w':=by
 have N:=ag (fun W=>aw2 p m j h d W K.keyed K.door);have H:=ag (fun W (e:bk W p M)=>aw5 K c p j m W e hn);have Hs:=ag hs;generalize fW d (aT S) c=o at *;have h0:=agP w (.cells (aK h) 30) (.cells (az d) 23) (.cells (cD c) 26) (.cells mX 26) (.cells #[.string ⟨#[]⟩,.string ⟨#[]⟩] 37);clear hs K;go_enter Tryz.func12,Tryz.ntmps12;go_upto_region 1 with(fail);refine aR (fun W=>Ext w W/\fG W w.heap.size h/\bI W (w.heap.size+1) d/\ah W (w.heap.size+1+1) (.cells (cD c) 26)/\ah W (w.heap.size+1+1+1) (.cells mX 26)/\ah W (w.heap.size+1+1+1+1) (.cells #[.string ⟨#[]⟩,.string ⟨#[]⟩] 37)) h0 ?_;clear h0;rintro w0 ⟨X,O,Q,NA,hz0,hy0⟩;go_upto_region 4 with(first
  | (refine mM (o:=⟨some 16,_,_,_,_,_⟩) rfl (.tmp 5) rfl _ rfl h O ?_)
  | (refine bu (o:=⟨some 17,_,_,_,_,_⟩) rfl (.tmp 6) rfl _ rfl d Q ?_)
  | (go_at_call 29;refine(N.out _).mono ?_;rintro e w1 ⟨rfl,Y⟩)
  | (refine aU rfl 79 (.tmp 11) (.tmp 19) rfl _ (bH (.slice p m j) h d) rfl rfl _ _ (ah.new w1 _) OI rfl (vu p m j h d) ?_;intro w2 R Z))
 have l:=Y.trans (Z.ext (Ext.alloc w1 _) (aH _));have G:=ag (And.intro (X.trans l) (And.intro (l.blk _ _ NA) (And.intro (l.blk _ _ hz0) (l.blk _ _ hy0))));have AP:=G.out.2.1;clear X O Q NA hz0 hy0 Y Z l N;generalize w1.heap.size=cb at *;obtain⟨y,J⟩:∃y,y=jn d o:=⟨_,rfl⟩;rw[<-J] at H;obtain⟨u,L⟩:=y;have z:=ag J;clear J;go_upto_region 5 with(first
  | ((with_reducible refine aW 27 ?_);refine bz rfl 79 (.tmp 11) rfl _ rfl _ _ _ R aid rfl OI ?_)
  | ((with_reducible refine aW 28 ?_);refine bz rfl 26 (.tmp 7) rfl _ rfl _ _ _ AP nS rfl kE ?_)
  | (go_at_call 30;refine(H.out _ (Hs.out.ext G.out.1)).mono ?_;rintro e w3 ⟨rfl,I⟩)
  | (refine aU rfl 37 (.tmp 13) (.tmp 30) rfl _ #[.string ⟨u.toArray⟩,.string ⟨L.toArray⟩] rfl rfl _ _ (ah.new w3 _) fE rfl (nU u L) ?_;intro w4 vg jV))
 have q:=I.trans (jV.ext (Ext.alloc w3 _) (aH _));have aBv:=fN (Nat.succ_le_of_lt (ah.lt G.out.2.2.2)) I.size;refine aR (fun W=>Ext w W/\ah W w3.heap.size (.cells #[.string ⟨u.toArray⟩,.string ⟨L.toArray⟩] 37)/\ah W (w.heap.size+1+1) (.cells #[.string ⟨c.key.toArray⟩,.bool c.back,.bool c.used,.bool c.done] 26)/\ah W (w.heap.size+1+1+1) (.cells #[.string ⟨#[]⟩,.bool false,.bool false,.bool false] 26)/\ah W (w.heap.size+1+1+1+1) (.cells #[.string ⟨#[]⟩,.string ⟨#[]⟩] 37)) ⟨G.out.1.trans q,vg,q.blk _ _ G.out.2.1,q.blk _ _ G.out.2.2.1,q.blk _ _ G.out.2.2.2⟩ ?_;clear I vg jV q G AP R H;generalize w3.heap.size=xb at *;rintro w5 ⟨C,t,f,F,E⟩;have p0:w5.cell? ⟨xb,0,none⟩=some (.string ⟨u.toArray⟩):=ah.val t 0 _ rfl;have lp:=ah.lt t;have lq:=ah.lt f;have k0:=ah.val f 0 _ rfl;have k2:=ah.val f 2 _ rfl;have k3:=ah.val f 3 _ rfl;have f0:=ah.free f 0;have f2:=ah.free f 2;have f3:=ah.free f 3;cases o with
 | some r=>
   have J:=z.out;have Hy:=ag J;clear z;have V:c.next d (some r)=⟨u,c.back,true,c.done⟩:=by rw[show u=ax d r from gP Prod.fst J];rfl
   have Hcu:=ag V;clear J V;go_upto_region 8 with(fail);refine aR (fun W=>Ext w W/\ah W xb (.cells #[.string ⟨u.toArray⟩,.string ⟨L.toArray⟩] 37)/\ah W (w.heap.size+1+1) (.cells #[.string ⟨u.toArray⟩,.bool c.back,.bool true,.bool c.done] 26)/\ah W (w.heap.size+1+1+1) (.cells #[.string ⟨#[]⟩,.bool false,.bool false,.bool false] 26)/\ah W (w.heap.size+1+1+1+1) (.cells #[.string ⟨#[]⟩,.string ⟨#[]⟩] 37)) ⟨(aI.setCell.trans aI.setCell).ext C af,(aI.setCell.trans aI.setCell).blk t af,ah.setCell (ah.setCell f),(aI.setCell.trans aI.setCell).blk F af,(aI.setCell.trans aI.setCell).blk E af⟩ ?_;clear p0 lp lq k0 k2 k3 f0 f2 f3 C t f F E;rintro w6 ⟨D,B,i,b,g⟩;have p0:=ah.val B 0 _ rfl;have p1:=ah.val B 1 _ rfl;have k0:=ah.val i 0 _ rfl;have k1:=ah.val i 1 _ rfl;have k2:=ah.val i 2 _ rfl;have k3:=ah.val i 3 _ rfl;have z0:=ah.val b 0 _ rfl;have z1:=ah.val b 1 _ rfl;have z2:=ah.val b 2 _ rfl;have z3:=ah.val b 3 _ rfl;have q0:=ah.val g 0 _ rfl;have q1:=ah.val g 1 _ rfl;have g0:=ah.free b 0;have g1:=ah.free b 1;have g2:=ah.free b 2;have g3:=ah.free b 3;have e0:=ah.free g 0;have e1:=ah.free g 1;have l0:=ah.lt B;have l1:=ah.lt i;have l2:=ah.lt b;have l3:=ah.lt g;have n1:xb≠w.heap.size+1+1+1:=af;have n2:xb≠w.heap.size+1+1+1+1:=af
   have H6:=ag (abz b g af (.string ⟨u.toArray⟩) (.bool c.back) (.bool true) (.bool c.done) (.string ⟨u.toArray⟩) (.string ⟨L.toArray⟩));have Ou:=ag D;clear D B i b g;go_region;all_goals
    go_wp2_with fail;exact bY (LW Tryz.results12 _ _ _ _ _ _ _ _ _ _ rfl ((Ext.drew _).blk _ _ H6.out.1) nS rfl kE rfl ((Ext.drew _).blk _ _ H6.out.2.1) lW rfl fE) rfl ⟨by rw[Hcu.out,<-Hy.out];rfl,(H6.out.2.2 w Ou.out af af).trans (Ext.drew _)⟩
 | none=>
   obtain⟨rfl,rfl⟩:u=[]/\L=[]:=by
    have:=z.out;simpa[jn] using this
   clear z;go_upto_region 11 with(fail);refine aR (fun W=>Ext w W/\ah W (w.heap.size+1+1) (.cells (cD {c with done:=true}) 26)/\ah W (w.heap.size+1+1+1) (.cells mX 26)/\ah W (w.heap.size+1+1+1+1) (.cells #[.string ⟨#[]⟩,.string ⟨#[]⟩] 37)) ⟨aI.setCell.ext C af,ah.setCell f,aI.setCell.blk F af,aI.setCell.blk E af⟩ ?_;clear p0 lp lq k0 k2 k3 f0 f2 f3 C t f F E;rintro w6 ⟨D,i,b,g⟩;go_wp2_with(first
    | ((with_reducible refine aW 44 ?_);refine bz rfl 26 (.tmp 7) rfl _ rfl _ _ _ i nS rfl kE ?_)
    | ((with_reducible refine aW 45 ?_);refine dW rfl 37 #[] rfl [] rfl _ AO ?_)
    | (refine aU rfl 26 (.tmp 8) (.tmp 44) rfl _ (cD {c with done:=true}) rfl rfl _ _ b kE rfl (uS _) ?_;intro w7 xJ T;have hy7:=T.blk g af)
    | (refine aU rfl 37 (.tmp 9) (.tmp 45) rfl _ #[.string ⟨#[]⟩,.string ⟨#[]⟩] rfl rfl _ _ hy7 fE rfl cT ?_;intro w8 hy8 U))
   exact bY (LW Tryz.results12 _ _ _ _ _ _ _ _ _ _ rfl (U.blk xJ af) nS rfl kE rfl hy8 lW rfl fE) rfl ⟨rfl,U.ext (T.ext D af) af⟩
end Go.Proofs.YteninnkbmoimgaaGreatDoor
namespace Go.Proofs.YteninnkbmoimgaaGreatDoor
open Go.RowKit aD
attribute [local go_sem] Oper.semAt_some
def tAl (_:Nat) (t:TypeId):Prop:=t=33∨t=37
theorem aw8 (pre:List Yd) (x:Yd):iS (pre++[x])=iS pre++[x.2.2]:=by simp[iS]
theorem V7 (A:List aQ) (s:aQ):aT (A++[s])=aT A++aX s.2:=by rw[qd,oU];simp[aT]
theorem aw9 {A:List aQ} {s:aQ} {S:List aQ} (h:A++[s] <+: S):(aT A).length+(aX s.2).length<=(aT S).length:=by
 obtain⟨C,rfl⟩:=h;rw[qd,V7];simp only[ew];omega
theorem axa {M:List (List UInt8)} {d:DS} {h:Hd} {S:List aQ} {dn:List Int} {n:Nat} (K:dL M d h S dn n) (p:Option Addr) (r m:Nat) (w:World) (hs:bk w p M) (hn:M.length=m):
 Calls Tryz.prog 35 #[.iface 32 (.slice p m r),.agg (aK h),.agg (az d)] w fun e w'=>Ext w w'/\∃q c,e=.returned (.tuple #[.slice q (bW d (aT S)).length c,.int .i64 0])/\
  w'.ownsRow w.heap.size 37 2 (.slice q (bW d (aT S)).length c) (bW d (aT S)).length (eV (bW d (aT S))):=by
 have ze:=ag (fun W=>Oe p m r h d W K.keyed K.door);have G:=ag (fun W (e:bk W p M)=>adI p r m M h d W e hn K.small K.bases.2.2);rw[K.bases.1,K.bases.2.1] at G;unfold mJ at G;simp only[pF,xO] at G;have VW:S.length<=101:=EW;have hcn:(aT S).length<=100:=EV;have zg:=ag (agM K p r m hn S (fun _ h=>h));have Hs:=ag hs;have h0:=BW w (.cells (aK h) 30) (.cells (az d) 23);clear hs K;refine MZ Tryz.func35 rfl ?_;simp only[Tryz.ntmps35,CD,gW,lC,Nat.reduceAdd,Nat.reduceSub,Array.replicate_succ,Array.replicate_zero,List.push_toArray,List.append_toArray,bQ,bE];go_upto_region 1 with(fail);refine aR (fun W=>Ext w W/\fG W w.heap.size h/\bI W (w.heap.size+1) d) h0 ?_;clear h0;rintro w0 ⟨he0,hb1,hb2⟩;go_upto_region 2 with(first
  | (refine mM (o:=⟨some 15,_,_,_,_,_⟩) rfl (.tmp 4) rfl _ rfl h hb1 ?_)
  | (refine bu (o:=⟨some 16,_,_,_,_,_⟩) rfl (.tmp 5) rfl _ rfl d hb2 ?_)
  | (go_at_call 53;refine(ze.out _).mono ?_;rintro e R ⟨rfl,Y⟩)
  | (refine aU rfl 117 (.tmp 8) (.tmp 18) rfl _ (bH (.slice p m r) h d) rfl rfl _ _ (ah.alloc (ah.new R _) _) rz rfl (vu p m r h d) ?_;intro w3 Bm iA;have L:=iA.blk (ah.new1 (R.alloc (.cells mI 117)) (.cells #[.int .i64 0] 38) (R.heap.size+1) av) af;have Ik:w3.cell? ⟨R.heap.size+1,0,none⟩=some (.int .i64 0):=ah.val L 0 _ rfl;have Im:=ah.free L 0;have Io:=ah.lt L))
 have xu:Ext w0 w3:=iA.ext (Y.trans ((Ext.alloc R _).trans (Ext.alloc _ _))) Y.size;have vD:=aI.setCell (w:=w3) (g:=R.heap.size+1) (i:=0) (v:=.int .i64 0);have Dh:=Y.size;have U:Ext w0 (w3.setCell ⟨R.heap.size+1,0,none⟩ (.int .i64 0)):=vD.ext xu af;refine aR (fun w4=>Ext w w4/\fG w4 w.heap.size h/\bI w4 (w.heap.size+1) d/\ah w4 R.heap.size (.cells (bH (.slice p m r) h d) 117)/\ah w4 (R.heap.size+1) (.cells #[.int .i64 0] 38)/\w.heap.size<=R.heap.size) ⟨he0.trans U,hb1.ext U,hb2.ext U,vD.blk Bm af,ah.setCell L,by have:=he0.size;omega⟩ ?_;clear xu vD U he0 Y hb1 hb2 Bm iA L Ik Im Io Dh;generalize R.heap.size=F at *;rintro w4 ⟨om,oQ,xB,zP,Z,htb⟩;have oG:=ag om;have c9:w4.cell? ⟨F+1,0,none⟩=some (.int .i64 0):=ah.val Z 0 _ rfl;have l9:=ah.lt Z;clear om;go_upto_region 5 with(first
  | (refine mM (o:=⟨some 25,_,_,_,_,_⟩) rfl (.tmp 4) rfl _ rfl h oQ ?_)
  | (refine bu (o:=⟨some 26,_,_,_,_,_⟩) rfl (.tmp 5) rfl _ rfl d xB ?_)
  | (go_at_call 54;refine(G.out _ (Hs.out.ext oG.out)).mono ?_;rintro e w5 ⟨jD,q5,c5,rfl,iX⟩;have E:=jD.blk _ _ Z;have c95:w5.cell? ⟨F+1,0,none⟩=some (.int .i64 0):=ah.val E 0 _ rfl;have f95:=ah.free E 0;have l95:=ah.lt E))
 have X:=aI.setCell (w:=w5) (g:=F+1) (i:=0) (v:=.int .i64 0);have ht5:=jD.blk _ _ zP;refine aR (fun W=>Ext w W/\ah W F (.cells (bH (.slice p m r) h d) 117)/\ah W (F+1) (.cells #[.int .i64 0] 38)/\Ints W q5 (dU S)) ⟨X.ext (oG.out.trans jD) af,X.blk ht5 af,ah.setCell E,gh (fo iX aq E X) |>.1⟩ ?_;clear X ht5 jD iX E c95 f95 l95 zP oQ xB Z c9 l9 oG G ze;rintro j ⟨JF,ht6,N,hi6⟩;have c9:j.cell? ⟨F+1,0,none⟩=some (.int .i64 0):=ah.val N 0 _ rfl;have l9:=ah.lt N;have GN:=ag JF;have pT:=JF.size;clear JF;go_upto_region 8 with(fail);refine aR (fun W=>Ext j W/\ah W j.heap.size (.cells #[.slice none 0 0] 33)) ⟨Ext.alloc _ _,ah.new _ _⟩ ?_;rintro w7 ⟨rM,xd⟩;have ht7:=rM.blk _ _ ht6;clear c9 l9;go_upto_region 9 with(first
  | (refine bz (o:=⟨some 33,_,_,_,_,_⟩) rfl 117 (.tmp 8) rfl _ rfl _ _ _ ht7 yf rfl rz ?_)
  | (go_at_call 55;refine(agK _ h d q5 S.length c5 (F+1) w7).mono ?_;rintro e w8 ⟨jC,g0,g1,g2,hg0,rfl,hat⟩))
 have Q:=rM.trans jC;have Iv:=ag (zg.out q5 c5 g0 g1 g2 (F+1) j w8 (Hs.out.ext GN.out) hi6 af Q hat tAl (by rintro b t (rfl | rfl | rfl) (h | h)<;>exact absurd h aq));have ail:=Q.blk _ _ N;have Iu:Hid (Ext j w8/\ah w8 (F+1) (.cells #[.int .i64 0] 38)/\∃v,ah w8 j.heap.size (.cells #[v] 33)/\w8.ownsRow j.heap.size 37 2 v (aT (iS [])).length (eV (bW d (aT (iS []))))):=ag ⟨Q,ail,_,jC.blk _ _ xd,World.ownsRow_nil _ _ _ _⟩;have hzt:F+1<j.heap.size:=ah.lt N;clear zg hat ail rM jC xd ht6 ht7 N hi6;go_wp2_with fail;refine Tz (n0:=j.heap.size) Q.size (tI:=fun _ _=>False) rfl (enters_of Tryz.func84 aj rfl) (encs:=zI) (fun x=>rfl) (fun xs A B k hS=>hS) (fun xs A B k hS=>hS) Iv.out
  (fun pre W=>Ext j W/\ah W (F+1) (.cells #[.int .i64 0] 38)/\∃v,ah W j.heap.size (.cells #[v] 33)/\W.ownsRow j.heap.size 37 2 v (aT (iS pre)).length (eV (bW d (aT (iS pre))))) (fun _ _ _=>False)
  (fun pre A B k ⟨h1,h2,v,h3,h4⟩=>⟨Ext.trans' h1 k.below,k.blk h2 (fun h=>h),v,k.blk h3 (fun h=>h),xq h4 k (fun _ h=>h)⟩) (fun _ _ _ _ _ h=>h) Iu.out ?round ?done (fun _ _ _ _ _ _ h=>h.elim)
 case round=>
  rintro l pre x W hz ⟨O,C,v,z,f⟩ ⟨lQ,y7⟩;dsimp only[zI]
  gi_wp2
  refine⟨KeepsFrom.lP (Ext.refl _),?_⟩;intro W2 u hz2;have Iw:Ext j W2:=Ext.trans' O u.below;have Hk:Hid (Kc j.heap.size tAl W W2):=ag (u.mono (fun _ _ h=>h.elim));have I:=ag (xq f u (fun _ h=>h));have Hyd:=ag (xq y7 u (fun _ h=>h));obtain⟨qo,co,rfl⟩:=cE f;have y:=u.blk z (fun h=>h);have H:=ag (And.intro (u.blk C (fun h=>h)) (And.intro Iw y));have hle:=aw9 lQ;have M5:=ag (show iS (pre++[x])=iS pre++[x.2.2] from aw8 pre x);obtain⟨qy,cy,s⟩:=x;dsimp only at *;have vE:=ag (show eV (bW d (aT (iS pre++[s])))=eV (bW d (aT (iS pre)))++eV (bW d (aX s.2)) by rw[V7,VV];simp[eV]);have HRl:=ag (show(aT (iS pre++[s])).length=(aT (iS pre)).length+(aX s.2).length by rw[V7,ew]);have hln:=oW d (aX s.2);generalize hnn:(aT (iS pre)).length=nn at *;generalize hmm:(aX s.2).length=mm at *;generalize bW d (aX s.2)=V at *;have c0:W2.cell? ⟨j.heap.size,0,none⟩=some (.slice qo nn co):=ah.val y 0 _ rfl;have l0:=ah.lt y;clear O C z y f u hz2 lQ y7 Iw;refine wpIn_block ?_;refine TB (.inr ⟨l,rfl⟩) (fun⟨_,_,h⟩=>h) (by rfl) ?_
  go_wp2_with(at_builtin;refine qE rfl fun _ hK=>?_;refine ahV (.tmp 37) (.tmp 38) 33 37 rfl j.heap.size (.agg #[.string ByteArray.empty,.string ByteArray.empty]) 2 32 Tryz.underlying33 Gw rfl aq _ nn _ rfl I.out qy mm cy (eV V) rfl (by rw[Df];omega) (gh Hyd.out).1 (ahU _) af aq H.out.2.1.size ?_;intro v8 w9 gG jN;obtain⟨q8,c8,rfl⟩:=cE gG;have Bp:=Kc.ij (n0:=j.heap.size) (tc:=fun _ t=>t=37) jN I.out (aH _) H.out.2.1.size (fun _=>rfl);have Iz:=KeepsFrom.ij (B:=w8.heap.size) jN I.out;have J:=Bp.blk H.out.2.2 aq;have c8':=(show w9.cell? ⟨j.heap.size,0,none⟩=some (.slice qo nn co) from ah.val J 0 _ rfl);have f8:=ah.free J 0;have l8:=ah.lt J;have mA:=ag gG;have zh:=ag Bp;have TR:=ag Iz;have T:=ag J;clear gG jN Bp Iz J;refine hK _ _ ?_);have hc:=aI.setCell (w:=w9) (g:=j.heap.size) (i:=0) (v:=.slice q8 (nn+mm) c8);exact⟨TR.out.trans (KeepsFrom.qY hc T.out),Hk.out.trans ((zh.out.mono (fun _ _ h=>.inr h)).trans (Kc.qY hc (aH _) T.out (.inl rfl))),hc.ext (Ext.trans' H.out.2.1 zh.out.below) (aH _),hc.blk (zh.out.blk H.out.1 aq) af,_,ah.setCell T.out,by rw[M5.out,vE.out,HRl.out];exact fo mA.out aq T.out hc⟩
 case done=>
  rintro D xs W hD hS ⟨O,C,v,z,f⟩ hK;rw[hS] at f;have aBy:=Q.size;obtain⟨qv,cv,rfl⟩:=cE f;have c9:W.cell? ⟨F+1,0,none⟩=some (.int .i64 0):=ah.val C 0 _ rfl;have l9:=ah.lt C;have c11:W.cell? ⟨j.heap.size,0,none⟩=some (.slice qv (aT S).length cv):=ah.val z 0 _ rfl;have l11:=ah.lt z;have hkp:=Kc.p7 (n0:=j.heap.size) (tc:=fun _ _=>False) (.deferred none) hK rfl af;have HO:=ag (And.intro (GN.out.trans (Ext.trans' O hkp.below)) (fJ (xq f hkp (fun _ h=>h)) pT));have HK:=ag hK;clear O C z f hK hkp;dsimp only;go_wp2_with fail;exact Ig HK.out (results_tmp2 rfl _ _ _) ⟨HO.out.1,qv,cv,by rw[oW];rfl,by rw[oW];exact HO.out.2⟩
end Go.Proofs.YteninnkbmoimgaaGreatDoor
namespace Go.Proofs.YteninnkbmoimgaaGreatDoor
open Go.RowKit aD
theorem axf (p:Option Addr) (n c:Nat) (L:Jg) (k:List UInt8) (g f:Nat) (w:World) (j:ah w g (.cells #[.slice p n c] 33)) (l:ah w f (.cells #[.string ⟨k.toArray⟩] 9)) (q:pV w p L) (B:L.length=n):
 Jh 39 #[.pointer (some ⟨g,0,none⟩),.pointer (some ⟨f,0,none⟩)] n (fun i=>!(bl (L.getD i ([],[])).1 k)) w:=by
 refine⟨fun args W=>by simp[callFunc,Tryz.func39];kernel_rfl,fun i z W d=>?_⟩;obtain⟨b,m,rfl,t,o⟩:=(q.ext d).at i af;obtain⟨y,_⟩:=o i af;have C:W.cell? ⟨g,0,none⟩=some (.slice (some ⟨b,m,none⟩) n c):=ah.val (d.blk _ _ j) 0 _ rfl;have D:W.cell? ⟨f,0,none⟩=some (.string ⟨k.toArray⟩):=ah.val (d.blk _ _ l) 0 _ rfl;have E:=ah.lt (d.blk _ _ j);have F:=ah.lt (d.blk _ _ l);have u:(i:Int)<n:=af;show Calls Tryz.prog 39 #[.int .i64 (i:Nat),.pointer (some ⟨g,0,none⟩),.pointer (some ⟨f,0,none⟩)] W fun e r=>e=.returned (.bool (!(bl (L.getD i ([],[])).1 k)))/\Ext W r;generalize(L.getD i ([],[])).1=x at *;have hgt:(!Go.Op.bytesLess x k&&!x==k)=bl k x:=yT _ _;clear o q j l;go_enter Tryz.func39,Tryz.ntmps39;go_upto_region 1 with(fail);go_quiet(fail);go_wp2_with fail;go_ret;exact⟨J5,J8⟩
theorem axg {M:List (List UInt8)} {d:DS} {h:Hd} {S:List aQ} {I:List Int} {n:Nat} (K:dL M d h S I n) (k:List UInt8) (p:Option Addr) (y m:Nat) (w:World) (T:bk w p M) (hn:M.length=m):
 Calls Tryz.prog 25 #[.iface 32 (.slice p m y),.agg (aK h),.agg (az d),.string ⟨k.toArray⟩] w fun e w'=>Ext w w'/\∃r:Nat,e=.returned (.tuple #[.int .i64 r,.int .i64 0])/\r<=(aT S).length/\(∀i,i<r->bl (ax d ((aT S).getD i [])) k=true)/\∀i,r<=i->i<(aT S).length->bl (ax d ((aT S).getD i [])) k=false:=by
 have t:=ag (fun W (e:bk W p M)=>axa K p y m W e hn);have hR:(aT S).length<=100:=EV;have L:=ag (Vt K.k.inc k);have U:=ag (fun r h1 h2=>Jm (d:=d) (R:=aT S) (k:=k) (r:=r) h1 h2);have Z:=ag T;have u:=ag (oW d (aT S));generalize aT S=R at *;generalize bW d R=V at *;have N:=zB w (.cells (aK h) 30) (.cells (az d) 23) (.cells #[.string ⟨k.toArray⟩] 9);clear T K;go_enter Tryz.func25,Tryz.ntmps25;go_upto_region 1 with(fail);refine aR (fun W=>Ext w W/\fG W w.heap.size h/\bI W (w.heap.size+1) d/\ah W (w.heap.size+1+1) (.cells #[.string ⟨k.toArray⟩] 9)) N ?_;clear N;rintro w0 ⟨j,z,B,C⟩;go_upto_region 2 with(first
  | (refine mM (o:=⟨some 14,_,_,_,_,_⟩) rfl (.tmp 5) rfl _ rfl h z ?_)
  | (refine bu (o:=⟨some 15,_,_,_,_,_⟩) rfl (.tmp 6) rfl _ rfl d B ?_)
  | (go_at_call 35;refine(t.out _ (Z.out.ext j)).mono ?_;rintro e E ⟨l,q,c,rfl,Q⟩))
 refine aR (fun W=>Ext E W/\ah W E.heap.size (.cells #[.slice q V.length c] 33)) ⟨Ext.alloc _ _,ah.new _ _⟩ ?_;rintro J ⟨b,f⟩;obtain⟨q',c',hq,g,_⟩:=yM Q;cases hq
 have D:=(l.trans b).blk _ _ C;have X:=ag (Od _ _ V.length _ J (axf q V.length c V k E.heap.size (w.heap.size+1+1) J f D (g.ext b) rfl) L.out (by rw[u.out];omega));have Y:=ag ((j.trans l).trans b);have c8:J.cell? ⟨E.heap.size,0,none⟩=some (.slice q V.length c):=ah.val f 0 _ rfl;have l8:=ah.lt f;generalize E.heap.size=lb at *;clear j z B C l Q b f D g t L;go_wp2_with(go_at_call 38;refine X.out.mono ?_;rintro e w3 ⟨F,r,rfl,hr,G,H⟩);go_ret2;have O:=U.out r G H;exact⟨Y.out.trans F,r,rfl,by rw[<-u.out];exact hr,O.1,O.2⟩
end Go.Proofs.YteninnkbmoimgaaGreatDoor

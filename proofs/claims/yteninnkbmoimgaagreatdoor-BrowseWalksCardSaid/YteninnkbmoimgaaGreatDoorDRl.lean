/- A part of the proof. -/
import Derived.Test.YteninnkbmoimgaaGreatDoorCU
set_option linter.unusedSimpArgs false
set_option linter.unusedVariables false
set_option maxRecDepth 100000
set_option maxHeartbeats 16000000
variable{P:Prop}
theorem Nv(h:P:=by
 go_wp2_with fail;go_meet;exact⟨rfl,rfl⟩):P:=h
namespace aD
def ri (d:DS) (r:List UInt8):Bool->aB->aB
 | false,[]=>[r]
 | true,[]=>[]
 | b,s::L=>(if b=false/\bl (ax d s) (ax d r)=false then[r] else[])++((if ax d s=ax d r then[] else[s])++ri d r (b||!bl (ax d s) (ax d r)) L)
theorem aem {d:DS} {r:List UInt8}:∀{L:aB},(∀s∈L,ax d s≠ax d r)->ri d r true L=L
 | [],_=>rfl
 | s::L,h=>by
   rw[ri,aA av,aA (h s av),Bool.true_or,aem (fun t b=>h t (by simp[b]))];rfl
theorem aen {d:DS} {r:List UInt8}:∀{L:aB},dN d L->ri d r false L=cw d r L
 | [],_=>rfl
 | s::L,h=>by
   unfold dN at h;rw[lM] at h;rw[ri,cw];cases hb:bl (ax d s) (ax d r) with
   | true=>simp[lZ hb,aen h.2]
   | false=>
     have b:∀t∈L,ax d t≠ax d r:=fun t f e=>by
      have:=h.1 t f;rw[e,hb] at this;cases this
     have g:=aem b;by_cases e:ax d s=ax d r<;>simp[e,g]
theorem ari {d:DS} {r:List UInt8} {L:aB} {k:Nat} (h:k<L.length) (b:Bool):ri d r b (L.drop k)=(if b=false/\bl (ax d (L.getD k [])) (ax d r)=false then[r] else[])++((if ax d (L.getD k [])=ax d r then[] else[L.getD k []])++ri d r (b||!bl (ax d (L.getD k [])) (ax d r)) (L.drop (k+1))):=by
 have e:L.getD k []=L[k]:=xZ;rw[gz h,ri,e]
end aD
namespace Go.Proofs.YteninnkbmoimgaaGreatDoor
open Go.RowKit aD
structure zw (w:World) (d:DS) (out:Value) (O:aB) (wr:World):Prop where
 ext:Ext w wr
 ds:bI wr w.heap.size d
 own:wr.ownsRow (w.heap.size+1) 9 1 out O.length (O.map fun s=>.string ⟨s.toArray⟩)
theorem zw.more {w:World} {d:DS} {b:Value} {O:aB} {f g:World} (h:zw w d b O f) (e:Ext f g):zw w d b O g:=⟨h.ext.trans e,h.ds.ext e,aO h.own e⟩
theorem zw.app {w:World} {d:DS} {b v:Value} {O:aB} {x:List UInt8} {f e:World} (h:zw w d b O f) (i:e.ownsRow (w.heap.size+1) 9 1 v (O.length+1) (O.map (fun s:List UInt8=>Value.string ⟨s.toArray⟩)++[.string ⟨x.toArray⟩])) (g:f.grownBy e b.ownBlock):zw w d v (O++[x]) e:=by
 have r:=pZ (T:=9) (B:=w.heap.size) g (fJ h.own af) (by have:=ah.lt h.ds;omega);exact⟨Ext.trans' h.ext r.1,r.2 _ _ _ aq h.ds,by simpa using i⟩
theorem arj (d:DS) (q:Option Addr) (c:Nat) (L:aB) (r:List UInt8) (w:World) (hd:dA d=true) (hr:cV d r=true) (hR:∀s∈L,cV d s=true) (hI:dN d L) (hs:bk w q L) (hl:L.length<=10000):
 Calls Tryz.prog 135 #[.agg (az d),.slice q L.length c,.string ⟨r.toArray⟩] w fun e w'=>Ext w w'/\∃v,e=.returned v/\w'.ownsRow w.heap.size 9 1 v (cw d r L).length ((cw d r L).map fun s=>.string ⟨s.toArray⟩):=by
 have HP:Hid (cw d r L=ri d r false L):=ag (aen hI).symm;have Hk:=ag hd;have HR:=ag (fun(k:Nat) (hk:k<L.length)=>hR (L.getD k []) (by
  have e:L.getD k []=L[k]:=E4;exact Cu))
 have HG:=ag (fun(k:Nat) (hk:k<L.length) (J:Bool)=>ari (d:=d) (r:=r) hk J);have z:=ag (fun W=>vf d r hd hr W);have hm:(ri d r false L).length<=10001:=by rw[<-HP.out];have:=C3 d r L;omega
 have Hm:=ag hm;have Hs:=ag hs;have hb0:=ah.new w (.cells (az d) 23);have hx0:=Ext.alloc w (.cells (az d) 23);clear hd hr hR hI hm hs;generalize cw d r L=Z at *;generalize ax d r=V at *;go_enter Tryz.func135,Tryz.ntmps135;try simp only[az]
 go_upto_region 1 with(fail);refine aR (fun w0=>Ext w w0/\bI w0 w.heap.size d/\w0.heap.size=w.heap.size+1) ⟨hx0,hb0,av⟩ ?_;rintro w0 ⟨he0,dr,Ip⟩;clear hb0 hx0;have h0:zw w d (.slice (some ⟨w0.heap.size,0,none⟩) 0 0) [] (w0.alloc (.cells #[] 9)):=by
  refine⟨he0.trans (Ext.alloc _ _),dr.ext (Ext.alloc _ _),⟨rfl,.inr ⟨w0.heap.size,0,#[],rfl,af,ah.new _ _,aH _,av,av,av⟩⟩⟩
 have H0:=ag h0;clear h0 dr he0 Ip;go_upto_region 4 with(fail);go_loopw[7,8,9] (fun ov dv kv wr=>∃(k:Nat) (O:aB) (J:Bool),k<=L.length/\kv=.int .i64 k/\dv=.bool J/\zw w d ov O wr/\Hid (O++ri d r J (L.drop k)=ri d r false L)) (fun _ _ kv _=>L.length-(intOf kv).toNat)
 case atStart=>exact⟨0,[],false,bL _,rfl,rfl,H0.out,ag av⟩
 case round=>
  obtain⟨k,O,J,hk,rfl,rfl,hS,hO⟩:=hrel;have Nw:O.length<=10001:=by
   have:=gP List.length hO.out;rw[ew] at this;have:=Hm.out;omega
  have I:=ag hS;obtain⟨qo,co,rfl⟩:=cE hS.own;clear hS;by_cases N:k<L.length
  ·have gB:(k:Int)<L.length:=af;obtain⟨b,off,rfl,H,hc⟩:=Hs.out.at k N;have g:Hid (∀W,Ext w W->W.cell? ⟨b,off+k,none⟩=some (.string ⟨(L.getD k []).toArray⟩)/\b<W.heap.size):=ag (fun W e=>⟨(e.cell b _ H).trans (hc k N),fM H e.size⟩);obtain⟨oz,Y⟩:=g.out _ I.out.ext;clear H;have Fv:=ag (fun W=>vf d (L.getD k []) Hk.out (HR.out k N) W);have hq:=hO.out;rw[HG.out k N J] at hq;have G:=ag hq;clear hc hq hO;generalize L.getD k []=s at *;generalize ax d s=X at *;go_upto_region 6 with(fail);refine eR 200 (Ext.refl wr) aj aj aj ?_;refine gV ?_;repeat (first
    | (refine bT (o:=⟨some 18,_,_,_,_,_⟩) (v:=.agg (az d)) rfl ?_ ?_
       ·intro a w' he hr K hK;simp[Reads,Oper.looksAt,Op.operands,aJ,Is] at hr;exact eG 23 (.tmp 3) rfl (w.heap.size) dX _ _ _ _ (he.blk _ _ I.out.ds) gr rfl gD (hK _ (Ext.refl _))
       refine aE ?_)
    | (refine bT (o:=⟨some 23,_,_,_,_,_⟩) (v:=.string ⟨X.toArray⟩) rfl ?_ ?_
       ·exact Yy
       refine aE ?_)
    | (refine kN ?_)
    | (refine fR ?_)
    | (refine iq ?_)
    | (refine fk ?_))
   intro w2 M;repeat (first | with_reducible refine cH _ _ _ _ ?_ | (with_reducible refine cI _ _ _ _ ?_;intro _ _) | with_reducible refine cJ _ _ ?_)
   simp only[cF,cK,bQ,bE];have iZ:=ag (I.out.more M);have l2:=M.size;have hcS:=iZ.out.ext;have MO:=(M.cell b (off+k) Y).trans oz;have Ny:=fM Y l2;have lt2:=ah.lt iZ.out.ds;clear I Fv oz Y M hcS;by_cases he:X=V
   ·have HE:=ag he;have e1:(X==V)=true:=by rw[he];simp
    have e2:bl X V=false:=by rw[he];exact rI V
    rw[e2,aC he] at G;clear he;cases J
    ·go_wp2_with(first
      | (refine Pk ?_)
      | (go_at_call 71;refine(z.out _).mono ?_;rintro e w3 ⟨rfl,y⟩;have f:=ag (iZ.out.more y);have R:=ah.lt f.out.ds;(try obtain⟨B,D⟩:=g.out _ f.out.ext))
      | (at_builtin;(refine nW (o:=⟨some 36,_,_,_,_,_⟩) rfl (.tmp 33) (.tmp 35) 31 9 rfl (w.heap.size+1) (.string ByteArray.empty) 1 16 Tryz.underlying31 uV rfl aq _ (O).length _ rfl (aO f.out.own (Ext.alloc _ _)) _ [.string ⟨(r).toArray⟩] rfl (ah.new _ _) rfl nk aY aq aY ?_;intro v4 w4 n m;have j:=(f.out.more (Ext.alloc _ _)).app n m;clear n m;generalize l:O++[r]=F at j;have Uh:F.length<=(O).length+1:=(by rw[<-l];simp);obtain⟨q4,c4,rfl⟩:=cE j.own;have i:=ag j;have S:=ah.lt j.ds;(try obtain⟨C,E⟩:=g.out _ j.ext);clear j))
      | (refine bu (o:=⟨some 38,_,_,_,_,_⟩) rfl (.tmp 3) rfl _ rfl d i.out.ds ?_)
      | (go_at_call 71;refine(z.out _).mono ?_;rintro e w5 ⟨rfl,jD⟩;have t:=ag (i.out.more jD);have lt5:=ah.lt t.out.ds;(try obtain⟨T,U⟩:=g.out _ t.out.ext))
      | fail)
     go_roundw
     case rel=>exact⟨k+1,F,true,af,bX,rfl,t.out,ag (by rw[<-l];have:=G.out;simpa using this)⟩
     case measure=>exact ct
    ·go_wp2_with(first
      | (refine bu (o:=⟨some 38,_,_,_,_,_⟩) rfl (.tmp 3) rfl _ rfl d iZ.out.ds ?_)
      | (go_at_call 71;refine(z.out _).mono ?_;rintro e w3 ⟨rfl,y⟩;have f:=ag (iZ.out.more y);have R:=ah.lt f.out.ds;(try obtain⟨B,D⟩:=g.out _ f.out.ext))
      | fail)
     go_roundw
     case rel=>exact⟨k+1,O,true,af,bX,rfl,f.out,ag (by have:=G.out;simpa using this)⟩
     case measure=>exact ct
   ·have e1:(X==V)=false:=zT;rw[aA he] at G;clear he;cases J
    ·cases hb:bl X V
     ·rw[hb] at G;have g1:Go.Op.bytesLess X V=false:=hb;clear hb;go_wp2_with(first
       | (refine Pk ?_)
       | (go_at_call 71;refine(z.out _).mono ?_;rintro e w3 ⟨rfl,y⟩;have f:=ag (iZ.out.more y);have R:=ah.lt f.out.ds;(try obtain⟨B,D⟩:=g.out _ f.out.ext))
       | (at_builtin;(refine nW (o:=⟨some 36,_,_,_,_,_⟩) rfl (.tmp 33) (.tmp 35) 31 9 rfl (w.heap.size+1) (.string ByteArray.empty) 1 16 Tryz.underlying31 uV rfl aq _ (O).length _ rfl (aO f.out.own (Ext.alloc _ _)) _ [.string ⟨(r).toArray⟩] rfl (ah.new _ _) rfl nk aY aq aY ?_;intro v4 w4 n m;have j:=(f.out.more (Ext.alloc _ _)).app n m;clear n m;generalize l:O++[r]=F at j;have Uh:F.length<=(O).length+1:=(by rw[<-l];simp);obtain⟨q4,c4,rfl⟩:=cE j.own;have i:=ag j;have S:=ah.lt j.ds;(try obtain⟨C,E⟩:=g.out _ j.ext);clear j))
       | (refine bu (o:=⟨some 38,_,_,_,_,_⟩) rfl (.tmp 3) rfl _ rfl d i.out.ds ?_)
       | (go_at_call 71;refine(z.out _).mono ?_;rintro e w5 ⟨rfl,jD⟩;have t:=ag (i.out.more jD);have lt5:=ah.lt t.out.ds;(try obtain⟨T,U⟩:=g.out _ t.out.ext))
       | (at_builtin;(refine nW (o:=⟨some 48,_,_,_,_,_⟩) rfl (.tmp 42) (.tmp 47) 31 9 rfl (w.heap.size+1) (.string ByteArray.empty) 1 16 Tryz.underlying31 uV rfl aq _ (F).length _ rfl (aO t.out.own (Ext.alloc _ _)) _ [.string ⟨(s).toArray⟩] rfl (ah.new _ _) rfl nk aY aq aY ?_;intro v6 w6 nJ p6;have S6:=(t.out.more (Ext.alloc _ _)).app nJ p6;clear nJ p6;generalize Nz:F++[s]=O6 at S6;have lO6:O6.length<=(F).length+1:=(by rw[<-Nz];simp);obtain⟨q6,c6,rfl⟩:=cE S6.own;have Ui:=ag S6;have lt6:=ah.lt S6.ds;(try obtain⟨ay7,ay8⟩:=g.out _ S6.ext);clear S6))
       | fail)
      go_roundw
      case rel=>exact⟨k+1,O6,true,af,bX,rfl,Ui.out,ag (by rw[<-Nz,<-l];have:=G.out;simpa using this)⟩
      case measure=>exact ct
     ·rw[hb] at G;have g1:Go.Op.bytesLess X V=true:=hb;clear hb;go_wp2_with(first
       | (refine Pk ?_)
       | (go_at_call 71;refine(z.out _).mono ?_;rintro e w3 ⟨rfl,y⟩;have f:=ag (iZ.out.more y);have R:=ah.lt f.out.ds;(try obtain⟨B,D⟩:=g.out _ f.out.ext))
       | (refine bu (o:=⟨some 38,_,_,_,_,_⟩) rfl (.tmp 3) rfl _ rfl d f.out.ds ?_)
       | (go_at_call 71;refine(z.out _).mono ?_;rintro e w4 ⟨rfl,ek⟩;have i:=ag (f.out.more ek);have S:=ah.lt i.out.ds;(try obtain⟨C,E⟩:=g.out _ i.out.ext))
       | (at_builtin;(refine nW (o:=⟨some 48,_,_,_,_,_⟩) rfl (.tmp 42) (.tmp 47) 31 9 rfl (w.heap.size+1) (.string ByteArray.empty) 1 16 Tryz.underlying31 uV rfl aq _ (O).length _ rfl (aO i.out.own (Ext.alloc _ _)) _ [.string ⟨(s).toArray⟩] rfl (ah.new _ _) rfl nk aY aq aY ?_;intro v5 w5 iX qV;have S5:=(i.out.more (Ext.alloc _ _)).app iX qV;clear iX qV;generalize hO5:O++[s]=O5 at S5;have lO5:O5.length<=(O).length+1:=(by rw[<-hO5];simp);obtain⟨q5,c5,rfl⟩:=cE S5.own;have t:=ag S5;have lt5:=ah.lt S5.ds;(try obtain⟨T,U⟩:=g.out _ S5.ext);clear S5))
       | fail)
      go_roundw
      case rel=>exact⟨k+1,O5,false,af,bX,rfl,t.out,ag (by rw[<-hO5];have:=G.out;simpa using this)⟩
      case measure=>exact ct
    ·go_wp2_with(first
      | (refine bu (o:=⟨some 38,_,_,_,_,_⟩) rfl (.tmp 3) rfl _ rfl d iZ.out.ds ?_)
      | (go_at_call 71;refine(z.out _).mono ?_;rintro e w3 ⟨rfl,y⟩;have f:=ag (iZ.out.more y);have R:=ah.lt f.out.ds;(try obtain⟨B,D⟩:=g.out _ f.out.ext))
      | (at_builtin;(refine nW (o:=⟨some 48,_,_,_,_,_⟩) rfl (.tmp 42) (.tmp 47) 31 9 rfl (w.heap.size+1) (.string ByteArray.empty) 1 16 Tryz.underlying31 uV rfl aq _ (O).length _ rfl (aO f.out.own (Ext.alloc _ _)) _ [.string ⟨(s).toArray⟩] rfl (ah.new _ _) rfl nk aY aq aY ?_;intro v4 w4 n m;have j:=(f.out.more (Ext.alloc _ _)).app n m;clear n m;generalize l:O++[s]=F at j;have Uh:F.length<=(O).length+1:=(by rw[<-l];simp);obtain⟨q4,c4,rfl⟩:=cE j.own;have i:=ag j;have S:=ah.lt j.ds;(try obtain⟨C,E⟩:=g.out _ j.ext);clear j))
      | fail)
     go_roundw
     case rel=>exact⟨k+1,F,true,af,bX,rfl,i.out,ag (by rw[<-l];have:=G.out;simpa using this)⟩
     case measure=>exact ct
  ·have gB:decide ((k:Int)<L.length)=false:=aM af;have hq:=hO.out;rw[jI af] at hq;have G:=ag hq;clear hq hO;cases J
   ·have Uj:O.length<=10001:=Nw;have lt9:=ah.lt I.out.ds;go_wp2_with(first
     | (at_builtin;(refine nW (o:=⟨some 54,_,_,_,_,_⟩) rfl (.tmp 51) (.tmp 53) 31 9 rfl (w.heap.size+1) (.string ByteArray.empty) 1 16 Tryz.underlying31 uV rfl aq _ (O).length _ rfl (aO I.out.own (Ext.alloc _ _)) _ [.string ⟨(r).toArray⟩] rfl (ah.new _ _) rfl nk aY aq aY ?_;intro v4 w4 n m;have j:=(I.out.more (Ext.alloc _ _)).app n m;clear n m;generalize l:O++[r]=F at j;have Uh:F.length<=(O).length+1:=(by rw[<-l];simp);obtain⟨q4,c4,rfl⟩:=cE j.own;have i:=ag j;have S:=ah.lt j.ds;(try obtain⟨C,E⟩:=g.out _ j.ext);clear j))
     | fail)
    go_ret;have ho:=i.out.own;have e:F=Z:=by rw[HP.out,<-G.out,<-l];simp[ri]
    subst e;exact⟨i.out.ext,_,rfl,fJ ho af⟩
   ·go_wp2_with fail;go_ret;have ho:=I.out.own;have e:O=Z:=by rw[HP.out,<-G.out];simp[ri]
    subst e;exact⟨I.out.ext,_,rfl,fJ ho af⟩
theorem ark (p:Option Addr) (cap n:Nat) (m:List (List UInt8)) (h:Hd) (d:DS) (key:List UInt8) (w:World) (hs:bk w p m) (hn:m.length=n) (hm:Small m):
 Calls Tryz.prog 90 #[.slice p n cap,.agg (aK h),.agg (az d),.string ⟨key.toArray⟩] w (sF m h d key w):=by
 have R:=yL w h d;have D:Hid (∀e w' c,oN m h d key=c->c≠0->Ext w w'->e=.returned (.tuple #[.slice none 0 0,.int .i64 c])->sF m h d key w e w'):=ag (fun e w' c hc h0 h1 h2=>by
  exact Yk)
 have O:=ag (fun W=>Mt h d W);by_cases hz:jg h d=0
 ·have ry:oN m h d key=ig m h d key h.height.toNat:=by unfold oN;rw[aA uP]
  have Z:Hid (∀e w' q c,ig m h d key h.height.toNat=0->Ext w w'->e=.returned (.tuple #[.slice q (eW m h d key h.height.toNat).length c,.int .i64 0])->w'.ownsRow w.heap.size 3 1 (.slice q (eW m h d key h.height.toNat).length c) (eW m h d key h.height.toNat).length (cP (eW m h d key h.height.toNat))->sF m h d key w e w'):=ag (fun e w' q c hc h1 h2 h3=>by
   exact Wz)
  rw[ry] at D;obtain⟨k1,k2,k3,k4,k5,k6,k7⟩:=xg hz;rw[hz] at O;have HL:=ag (fun page level W (hh:bk W p m)=>Tx p cap n m d page level W hh hn hm);have Hs:=ag hs;obtain⟨H,hH⟩:∃H:Nat,h.height=H:=⟨h.height.toNat,af⟩;have Uk:h.height.toNat=H:=af;rw[Uk] at D Z;have HHn:=ag Uk;have HH:=ag hH;have TJ:H<=6:=af;clear hH;clear hs hz k1 k2 k3 k4 k5 k6 k7 Uk ry;generalize sF m h d key w=OUT at *;go_enter Tryz.func90,Tryz.ntmps90;go_upto_region 1 with(fail);refine aR (fun Y=>Ext w Y/\fG Y w.heap.size h/\bI Y (w.heap.size+1) d) R ?_;clear R;rintro Y ⟨f,I,J⟩;go_upto_region 4 with(first
   | ((with_reducible refine aW 15 ?_);refine mM rfl (.tmp 5) rfl _ rfl h I ?_)
   | ((with_reducible refine aW 16 ?_);refine bu rfl (.tmp 6) rfl _ rfl d J ?_)
   | (go_at_call 64;refine(O.out _).mono ?_;rintro e w1 ⟨rfl,r⟩))
  have t:=I.ext r;have aeq:=J.ext r;have c3:=ah.val t 3 _ rfl;have c4:w1.cell? ⟨w.heap.size,4,none⟩=some (.int .i64 h.height):=ah.val t 4 _ rfl;have l3:=ah.lt t;rw[HH.out] at c4;go_upto_region 6 with(fail);have mG:=(f.trans r).trans (Ext.alloc w1 (.cells #[.int .i64 h.root] 3));have aK:=aeq.ext (Ext.alloc w1 (.cells #[.int .i64 h.root] 3));have oh:(w1.alloc (.cells #[.int .i64 h.root] 3)).ownsRow w.heap.size 3 1 (.slice (some ⟨w1.heap.size,0,none⟩) 1 1) 1 (cP (eW m h d key 0)):=Dy (xs:=[.int .i64 h.root]) (ah.new w1 _) (f.trans r).size rfl aq;go_loopw[11,12] (fun out lv wr=>∃j:Nat,j<=H/\lv=.int .i64 ((H-j:Nat):Int)/\ig m h d key j=0/\Ext w wr/\bI wr (w.heap.size+1) d/\∃q c,out=.slice q (j+1) c/\wr.ownsRow w.heap.size 3 1 (.slice q (j+1) c) (j+1) (cP (eW m h d key j))) (fun _ lv _=>(intOf lv).toNat)
  case atStart=>exact⟨0,bL _,av,rfl,mG,aK,some ⟨w1.heap.size,0,none⟩,1,rfl,oh⟩
  case round=>
   clear f r I J t aeq c3 c4 l3 mG aK oh;obtain⟨j,hj,rfl,N,hx,hds,q,c,rfl,z⟩:=hrel;by_cases vv:j<H
   ·have hpos:(0:Int)<((H-j:Nat):Int):=af;have U:h.height-(j:Int)=((H-j:Nat):Int):=by have:=HH.out;omega
    have hL:=HL.out (bJ m h d key j) ((H-j:Nat):Int);have G:=G7 N;have V:bR m h d key j=(bF m d (bJ m h d key j) ((H-j:Nat):Int)).1:=by unfold bR;rw[U]
    have S:kZ m h d key j=(bF m d (bJ m h d key j) ((H-j:Nat):Int)).2:=by unfold kZ;rw[U]
    unfold mo at hL;rw[<-V,<-S] at hL;have KR:Hid (∀W,Ext wr W->Calls Tryz.prog 101 #[.slice p n cap,.agg (az d),.int .i64 (bJ m h d key j),.int .i64 ((H-j:Nat):Int)] W fun e w'=>Ext W w'/\∃q c,e=.returned (.tuple #[.agg #[.int .i64 (bR m h d key j).level,.int .i64 (bR m h d key j).next,.slice q (bR m h d key j).ai.length c],.int .i64 (kZ m h d key j)])/\
     w'.ownsRow 0 142 2 (.slice q (bR m h d key j).ai.length c) (bR m h d key j).ai.length (aV (bR m h d key j).ai)):=ag (fun W e=>(hL W (Hs.out.ext (hx.trans e))).mono (fun e' w' ⟨a1,q,c,a2,a3⟩=>⟨a1,q,c,a2,fJ a3 (bL _)⟩))
    obtain⟨pb,off,NA,s6,L⟩:=(Nf z).at j vU;subst NA;have hcj:=L j vU;rw[zO m h d key j (aH _)] at hcj;obtain⟨n1,nM⟩:∃n1,n1=j+1:=⟨_,rfl⟩;rw[<-nM];have hw1:IntKind.i64.wrap ((n1:Int)-1)=(j:Int):=pJ;have hwj:(n1:Int)-1=(j:Int):=af;have FA:(j:Int)<(n1:Int):=af;have hjN:j<n1:=af;have NB:=ag nM;clear nM;have Hx:=ag hx;have PU:=ag hds;have ady:=ag z;have HPs:=ag (acX m h d key j);have vG:=ag (ux m h d key j);have Tc:=ah.lt hds;clear hL L hx z;by_cases f:kZ m h d key j=0
    ·have hsp:pS (bR m h d key j):=by
      rw[V];exact(qW (by rw[<-S];exact f)).1
     have hne:(bR m h d key j).ai≠[]:=Kf;have hfl:=yG key hne;have HF:=ag (fun W q c (hh:iV W q (bR m h d key j).ai)=>Tt q c (bR m h d key j) key W hh (by have:=hsp.l2;omega) hne);unfold dO at HF;have Bq:=ag (G.trans f);have GG:=hsp.l2;rw[f] at KR;clear G V S N f hsp hne U;generalize aer:bJ m h d key (j+1)=X at *;have qK:=ag aer;clear aer;generalize bK (bR m h d key j).ai key=i at *;generalize bR m h d key j=nd at *;generalize bJ m h d key j=pg at *;have hfI:(i:Int)<nd.ai.length:=af;go_upto_region 8 with(fail);refine kH 200 [(14,[(13,13)])] (Ext.refl wr) aj aj aj aj aj aj (rL _ _ 14 13 13 (j4 wr.heap.size 106) (th wr.heap.size 0 nd) (fun _ _ h=>h.below) (th.ay _ _ _) aj) ?_;refine gV ?_;repeat (first
      | (refine Yw ?_)
      | (refine XT ?_)
      | (refine dY (o:=⟨some 40,_,_,_,_,_⟩) (iD 0 nd 0) (iD.ay _ _ _) (.inr (iD.bP _ _ _ _ _)) aj aP ?_ ?_
         ·exact Y5
         refine aE ?_)
      | (refine pG (o:=⟨some 30,_,_,_,_,_⟩) _ (iD 0 nd 0) aj aP lz rfl (iD.ay _ _ _) (.inr (iD.bP _ _ _ _ _)) ?_
         refine nO ?_)
      | (refine X6 ?_)
      | (refine dF (o:=⟨some 42,_,_,_,_,_⟩) (v:=.int .i64 0) aj aP ?_ ?_
         ·intro a w' he hr K hK;obtain⟨q9,c9,h1,h9⟩:=hr 30 bO;exact mO
         refine aE ?_)
      | (refine Yu ?_)
      | (refine qD ?_)
      | (refine pH ?_))
     intro w2 l;simp only[iJ,iQ,jS,kW,bG,bN];repeat (first | with_reducible refine cH _ _ _ _ ?_ | (with_reducible refine cI _ _ _ _ ?_;intro _ _) | with_reducible refine cJ _ _ ?_)
     simp only[cF,cK,bQ,bE];rename_i IL xy x30 Ul x40 AK Um vP;obtain⟨nb,rfl,q2,c2,B,C,hnb⟩:=xy;clear Ul AK vP hnb;obtain⟨g,rfl,hgl,iz⟩:∃g,q2=some ⟨g,0,none⟩/\g<w2.heap.size/\w2.cell? ⟨g,i*2+1,none⟩=some (.int .i64 (au nd.ai i).2):=by
      obtain⟨g,off,hq,hgl,iz⟩:=(mq C).at i hfl;obtain⟨g',_,hq',_⟩:=jM C af;exact Wy
     rw[<-vG.out] at iz;obtain⟨wb,rfl⟩:∃wb:World,wb=w2:=⟨_,rfl⟩;have E:=ag (aO ady.out l);have lJ:=ag (Hx.out.trans l);have awg:=ag (PU.out.ext l);have Bj:wb.cell? ⟨nb,2,none⟩=some (.slice (some ⟨g,0,none⟩) nd.ai.length c2):=ah.val B 2 _ rfl;have DT:=ah.lt B;have xe:=ag B;have HF2:Hid (∀W,Ext wb W->Calls Tryz.prog 133 #[.agg #[.int .i64 nd.level,.int .i64 nd.next,.slice (some ⟨g,0,none⟩) nd.ai.length c2],.string ⟨key.toArray⟩] W fun e w'=>e=.returned (.int .i64 (i:Nat))/\Ext W w'):=ag (fun W e=>HF.out W _ c2 (mq (aO C e)));clear B C l s6 hcj Tc HF ady Hx PU;go_upto_region 11 with(fail);refine eR 10 (Ext.refl wb) aj aj aj ?_;simp only[cY,eF,gj,dV,dP,gC,dh,dQ];repeat (first
      | (refine bT (o:=⟨some 49,_,_,_,_,_⟩) (v:=.agg #[.int .i64 nd.level,.int .i64 nd.next,.slice (some ⟨g,0,none⟩) nd.ai.length c2]) rfl ?_ ?_
         ·intro a w' he hr K hK;simp[Reads,Oper.looksAt,Op.operands,aJ,Is] at hr;exact eG 106 (.tmp 13) rfl (nb) dX _ _ _ _ (he.blk _ _ xe.out) cZ rfl bq (hK _ (Ext.refl _))
         refine aE ?_)
      | (refine bT (o:=⟨some 51,_,_,_,_,_⟩) (v:=.int .i64 (i:Nat)) rfl ?_ ?_
         ·intro a w' he hr K hK;simp[Reads,Oper.looksAt,Op.operands,Call.operands,aJ,Is] at hr;go_simp;refine(HF2.out _ he).mono ?_;exact kg
         refine aE ?_)
      | (refine jh (o:=⟨some 55,_,_,_,_,_⟩) (dx 1 1 (.cells #[.int .i64 X] 3)) (dx.ay _ _ _) rfl ?_ ?_
         ·exact wg
         refine aE ?_)
      | (refine kN ?_)
      | (refine fR ?_)
      | (refine iq ?_)
      | (refine fk ?_))
     intro w2 l;repeat (first | with_reducible refine cH _ _ _ _ ?_ | (with_reducible refine cI _ _ _ _ ?_;intro _ _) | with_reducible refine cJ _ _ ?_)
     simp only[cF,cK,bQ,bE];rename_i x55 h55;obtain⟨b55,rfl,aes⟩:=h55;have F:=ag (aO E.out l);have Bu:=ag (lJ.out.trans l);have arq:=ag (awg.out.ext l);have ars:=ag aes;have hsw:=Bu.out.size;clear l aes Bj DT iz hgl E lJ awg;go_wp2_with(at_builtin;refine nW (o:=⟨some 56,_,_,_,_,_⟩) rfl (.tmp 46) (.tmp 55) 101 3 rfl w.heap.size (.int .i64 0) 1 8 Tryz.underlying101 uW rfl aq _ n1 _ rfl (by have e:=NB.out;rw[e];exact F.out) _ [.int .i64 X] rfl ars.out rfl nk af aq af ?_;intro v8 w8 gG jN;have vq:=pZ (T:=3) (size:=1) (n:=n1) jN (by have e:=NB.out;rw[e];exact F.out) af;obtain⟨q8,k8,rfl⟩:=cE gG;have mA:=ag gG;have vo:=ag vq;clear gG jN vq);go_roundw
     case rel=>
      have e:=NB.out;subst e;refine⟨j+1,af,bX,Bq.out,Ext.trans' Bu.out vo.out.1,vo.out.2 _ _ _ aq arq.out,q8,k8,rfl,?_⟩;rw[HPs.out,show cP (eW m h d key j++[X])=cP (eW m h d key j)++[.int .i64 X] by simp[cP]];exact mA.out
     case measure=>exact ct
    ·have hst:=DL (M:=m) (h:=h) (d:=d) (key:=key) (k:=j+1) (by rw[G];exact f) H af;have yx:=ag (hst.trans G);have vC:(kZ m h d key j !=0)=true:=by simpa using f
     have HO:=ag (fun e w'=>D.out e w' _ yx.out f);clear G V S N f U hst yx vG;generalize kZ m h d key j=er at *;generalize bR m h d key j=nd at *;generalize bJ m h d key j=pg at *;go_upto_region 8 with(fail);refine kH 200 [(14,[(13,13)])] (Ext.refl wr) aj aj aj aj aj aj (rL _ _ 14 13 13 (j4 wr.heap.size 106) (th wr.heap.size 0 nd) (fun _ _ h=>h.below) (th.ay _ _ _) aj) ?_;refine gV ?_;repeat (first
      | (refine Yw ?_)
      | (refine XT ?_)
      | (refine dY (o:=⟨some 40,_,_,_,_,_⟩) (iD 0 nd er) (iD.ay _ _ _) (.inr (iD.bP _ _ _ _ _)) aj aP ?_ ?_
         ·exact Y5
         refine aE ?_)
      | (refine pG (o:=⟨some 30,_,_,_,_,_⟩) _ (iD 0 nd er) aj aP lz rfl (iD.ay _ _ _) (.inr (iD.bP _ _ _ _ _)) ?_
         refine nO ?_)
      | (refine X6 ?_)
      | (refine dF (o:=⟨some 42,_,_,_,_,_⟩) (v:=.int .i64 er) aj aP ?_ ?_
         ·intro a w' he hr K hK;obtain⟨q9,c9,h1,h9⟩:=hr 30 bO;exact mO
         refine aE ?_)
      | (refine Yu ?_)
      | (refine qD ?_)
      | (refine pH ?_))
     intro w2 l;simp only[iJ,iQ,jS,kW,bG,bN];repeat (first | with_reducible refine cH _ _ _ _ ?_ | (with_reducible refine cI _ _ _ _ ?_;intro _ _) | with_reducible refine cJ _ _ ?_)
     simp only[cF,cK,bQ,bE];rename_i IL xy x30 Ul x40 AK Um vP;obtain⟨nb,rfl,q2,c2,B,C,hnb⟩:=xy;clear Ul AK vP hnb B C;go_wp2_with fail;exact HO.out _ _ (Hx.out.trans l) rfl
   ·have gB:decide ((0:Int)<((H-j:Nat):Int))=false:=aM af;have TS:j=H:=af;subst TS;have HO:=ag (fun e w' q c=>Z.out e w' q c N);have hpl:=tO m h d key j;rw[hpl] at HO;have hz0:j-j=0:=yS j;clear N;go_wp2_with fail;exact HO.out _ _ q c hx rfl z
 ·have hz1:jg h d=1:=EH;have ry:oN m h d key=1:=by unfold oN;rw[aC hz]
  have HN:=ag (fun e w'=>D.out e w' 1 ry aq);rw[hz1] at O;clear D hz hz1 ry hs;generalize sF m h d key w=OUT at *;go_enter Tryz.func90,Tryz.ntmps90;go_upto_region 1 with(fail);refine aR (fun Y=>Ext w Y/\fG Y w.heap.size h/\bI Y (w.heap.size+1) d) R ?_;clear R;rintro Y ⟨f,I,J⟩;go_wp2_with(first
   | ((with_reducible refine aW 15 ?_);refine mM rfl (.tmp 5) rfl _ rfl h I ?_)
   | ((with_reducible refine aW 16 ?_);refine bu rfl (.tmp 6) rfl _ rfl d J ?_)
   | (go_at_call 64;refine(O.out _).mono ?_;rintro e w1 ⟨rfl,r⟩))
  exact HN.out _ _ (f.trans r) rfl
theorem aet {n:Nd} {I:Nat} {b:List UInt8} {d:Int} (h:(kT n (I:Int) b d).2=0):
 eC n=true/\gA d=true/\I<n.ai.length/\b≠[]/\b.length<=32/\(0<I->bl (au n.ai (I-1)).1 b=true)/\((au n.ai I).1≠[]->bl b (au n.ai I).1=true)/\n.ai.length≠120/\(kT n (I:Int) b d).1={n with ai:=eD n.ai I b d}:=by
 unfold kT at h⊢;by_cases g:eC n=false∨gA d=false∨(I:Int)<0∨(n.ai.length:Int)<=(I:Int)
 ·rw[aC g] at h;cases h
 rw[aA g] at h⊢;simp only[jU] at h⊢;by_cases f:b=[]∨32<b.length∨((0:Int)<(I:Int)/\bl (au n.ai (I-1)).1 b=false)∨((au n.ai I).1≠[]/\bl b (au n.ai I).1=false)
 ·rw[aC f] at h;cases h
 rw[aA f] at h⊢;by_cases i:n.ai.length=120
 ·rw[aC i] at h;cases h
 rw[aA i];refine⟨?_,?_,af,fun e=>f (.inl e),af,fun j=>?_,fun j=>?_,i,rfl⟩
 ·cases hb:eC n
  ·exact absurd (.inl hb) g
  ·rfl
 ·cases hb:gA d
  ·exact absurd (.inr (.inl hb)) g
  ·rfl
 ·cases hb:bl (au n.ai (I-1)).1 b
  ·exact absurd (.inr (.inr (.inl ⟨af,hb⟩))) f
  ·rfl
 ·cases hb:bl b (au n.ai I).1
  ·exact absurd (.inr (.inr (.inr ⟨j,hb⟩))) f
  ·rfl
theorem aeu (q:Option Addr) (c:Nat) (n:Nd) (I:Nat) (d:List UInt8) (f:Int) (w:World) (h:iV w q n.ai) (hcap:n.ai.length<=c) (hok:(kT n (I:Int) d f).2=0):
 Calls Tryz.prog 138 #[dO n q c,.int .i64 I,.string ⟨d.toArray⟩,.int .i64 f] w fun e w'=>Ext w w'/\∃q' c',e=.returned (.tuple #[dO {n with ai:=eD n.ai I d f} q' c',.int .i64 0])/\w'.ownsRow w.heap.size 142 2 (.slice q' (eD n.ai I d f).length c') (eD n.ai I d f).length (aV (eD n.ai I d f)):=by
 obtain⟨k1,k2,k3,k4,k5,k6,k7,k8,_⟩:=aet hok;have hn:=ia.1 k1;have hl2:=hn.l2;have HP:=ag (fun W (e:Ext w W)=>Gl q c n W (h.ext e) af);rw[k1] at HP;obtain⟨m,g,rfl,r,Y⟩:=h.at I k3;have G:=Lg hn.ai (i:=I) k3;unfold gA at k2;simp only[eu,gu] at k2;have d1:decide (f<1)=false:=aM af;have d2:decide (16777216<f)=false:=aM af;have d3:decide ((I:Int)<0)=false:=aM af;have d4:decide ((n.ai.length:Int)<=(I:Int))=false:=aM af;have d5:(d==[])=false:=by cases d with
  | nil=>exact absurd rfl k4
  | cons=>rfl
 have d6:decide ((32:Int)<(d.length:Int))=false:=aM af;have d7:((n.ai.length:Int)==120)=false:=wJ.2 af;have Hcc:=ag Y;have HN:=ag h;have HlE:=ag (AB k3 d f);have HB:Hid (aV (eD n.ai I d f)=(aV (n.ai.take I)++[.string ⟨d.toArray⟩,.int .i64 (au n.ai I).2,.string ⟨((au n.ai I).1).toArray⟩,.int .i64 f])++aV (n.ai.drop (I+1))):=ag (by
  unfold eD aV;simp)
 obtain⟨c1,c2⟩:=Y I k3;have K6:=ag k6;have K7:=ag k7;have E:=ag G;clear hn hok Y k1 k2 k4 k5 h k6 k7 k8 G;generalize eD n.ai I d f=E2 at *;unfold dO;unfold dO at HP;have hx:=(Ext.alloc w (.cells #[.int .i64 n.level,.int .i64 n.next,.slice (some ⟨m,g,none⟩) n.ai.length c] 106)).trans (Ext.alloc (w.alloc (.cells #[.int .i64 n.level,.int .i64 n.next,.slice (some ⟨m,g,none⟩) n.ai.length c] 106)) (.cells #[.int .i64 0,.int .i64 0,.slice none 0 0] 106));have C:=(Ext.alloc (w.alloc (.cells #[.int .i64 n.level,.int .i64 n.next,.slice (some ⟨m,g,none⟩) n.ai.length c] 106)) (.cells #[.int .i64 0,.int .i64 0,.slice none 0 0] 106)).blk _ _ (ah.new w (.cells #[.int .i64 n.level,.int .i64 n.next,.slice (some ⟨m,g,none⟩) n.ai.length c] 106));have F:ah ((w.alloc (.cells #[.int .i64 n.level,.int .i64 n.next,.slice (some ⟨m,g,none⟩) n.ai.length c] 106)).alloc (.cells #[.int .i64 0,.int .i64 0,.slice none 0 0] 106)) (w.heap.size+1) (.cells #[.int .i64 0,.int .i64 0,.slice none 0 0] 106):=ah.new1 _ _ _ av;go_enter Tryz.func138,Tryz.ntmps138;go_upto_region 1 with(fail);refine aR (fun w0=>Ext w w0/\ah w0 w.heap.size (.cells #[.int .i64 n.level,.int .i64 n.next,.slice (some ⟨m,g,none⟩) n.ai.length c] 106)/\ah w0 (w.heap.size+1) (.cells #[.int .i64 0,.int .i64 0,.slice none 0 0] 106)) ⟨hx,C,F⟩ ?_;clear hx C F;rintro w0 ⟨he0,C,F⟩;go_upto_region 3 with(first
  | (refine bz (o:=⟨some 11,_,_,_,_,_⟩) rfl 106 (.tmp 4) rfl _ rfl _ _ _ C cZ rfl bq ?_)
  | (go_at_call 126;refine(HP.out _ he0).mono ?_;rintro e J ⟨rfl,N⟩;have z:=N.blk _ _ C;have f2:=ah.val z 2 _ rfl;have lb:=ah.lt z))
 have B:=ag (he0.trans N);have NC:=ag z;have CT:=ag (N.blk _ _ F);have s1:=B.out.size;have c1':=(B.out.cell m _ r).trans c1;have D1:=(B.out.cell m _ r).trans c2;have lg:m<J.heap.size:=af;go_cut[73] (fun v wx=>v=.bool false/\J=wx)
 case first=>
  by_cases A9:I=0
  ·have e0:decide ((0:Int)<(I:Int))=false:=aM af;by_cases t:I+1=n.ai.length
   ·have e1:decide ((I:Int)<(n.ai.length:Int)-1)=false:=aM af;have e0':¬0<I:=af;clear A9 t;exact Nv
   ·have e1:(I:Int)<(n.ai.length:Int)-1:=af;obtain⟨c1,c2⟩:=Hcc.out I k3;have M:=K7.out (fun h=>t (E.out.1 h));have g1:Go.Op.bytesLess d (au n.ai I).1=true:=M;have g2:Go.Op.bytesLess (au n.ai I).1 d=false:=sR M;have g3:(d==(au n.ai I).1)=false:=by simpa using lZ M
    have e0':¬0<I:=af;clear A9 t M;generalize(au n.ai I).1=x at *;exact Nv
  ·have e0:(0:Int)<(I:Int):=af;have e0':0<I:=af;have hJ0:(0:Int)<=(I:Int)-1:=af;have hJl:(I:Int)-1<n.ai.length:=af;have hJn:I-1<n.ai.length:=af;obtain⟨p1,p2⟩:=Hcc.out (I-1) af;have p1':=(B.out.cell m _ r).trans p1;have hp:=K6.out af;have f1:Go.Op.bytesLess (au n.ai (I-1)).1 d=true:=hp;have f2':Go.Op.bytesLess d (au n.ai (I-1)).1=false:=sR hp;have f3:(d==(au n.ai (I-1)).1)=false:=by simpa using fun e=>lZ hp e.symm
   clear A9 hp p1 p2;by_cases t:I+1=n.ai.length
   ·have e1:decide ((I:Int)<(n.ai.length:Int)-1)=false:=aM af;clear t;generalize(au n.ai (I-1)).1=y at *;exact Nv
   ·have e1:(I:Int)<(n.ai.length:Int)-1:=af;have M:=K7.out (fun h=>t (E.out.1 h));have g1:Go.Op.bytesLess d (au n.ai I).1=true:=M;have g2:Go.Op.bytesLess (au n.ai I).1 d=false:=sR M;have g3:(d==(au n.ai I).1)=false:=by simpa using lZ M
    clear t M;generalize(au n.ai I).1=x at *;generalize(au n.ai (I-1)).1=y at *;exact Nv
 case rest=>
  obtain⟨rfl,rfl⟩:=hcut;clear d1 d2 d3 d4 d5 d6 HP;have hIn:I<=n.ai.length:=af;have hIc:I<=c:=af;have htk:(aV (n.ai.take I)).length=I*2:=PJ;have wW:(aV (n.ai.drop (I+1))).length=(n.ai.length-(I+1))*2:=by rw[qC,eU]
  have Hs1:Hid (∀W,Ext w W->0<I->∃ad,(some ⟨m,g,none⟩:Option Addr)=some ad/\∀j u,(aV (n.ai.take I))[j]? =some u->W.cell? (ad.add j)=some u):=ag (fun W e h0=>by
   refine zl (xs:=aV (n.ai.take I)) ?_ (fun h9=>Ki);rw[AU];exact Cells.take (HN.out.ext e) _)
  have ND:Hid (∀W,Ext w W->Cells W (some ⟨m,g+(I+1)*2,none⟩) (aV (n.ai.drop (I+1)))):=ag (fun W e=>by
   rw[Mc];exact Cells.drop (HN.out.ext e) _)
  have hwr:IntKind.i64.wrap ((I:Int)+1)=(I:Int)+1:=IntWalk.i64_in _ af;clear z he0 N C F;go_upto_region 8 with(at_builtin;refine qE rfl fun _ hK=>?_;refine rN (.tmp 80) (.tmp 84) 104 142 rfl J.heap.size (.agg #[.string ByteArray.empty,.int .i64 0]) 2 24 Tryz.underlying104 um rfl J.heap.size rfl (ah.new J _) (aH _) (some ⟨m,g,none⟩) I c (aV (n.ai.take I)) rfl htk (fun h0=>Hs1.out _ (B.out.trans (Ext.alloc _ _)) h0) af aq (Ext.alloc _ _).size ?_;intro v1 wb gT l;refine hK _ _ ?_);obtain⟨q1,k1,rfl⟩:=cE gT;have X:=ag (B.out.trans ((Ext.alloc J (.cells #[] 142)).trans l));have R:=ag (((Ext.alloc J (.cells #[] 142)).trans l).blk _ _ NC.out);have Bn:=ag (((Ext.alloc J (.cells #[] 142)).trans l).blk _ _ CT.out);have Bz:=ag gT;have s2:=((Ext.alloc J (.cells #[] 142)).trans l).size;have a2:=ah.val R.out 2 _ rfl;have l2:=ah.lt R.out;have p1:=(X.out.cell m _ r).trans c1;have p2:=(X.out.cell m _ r).trans c2;have lg2:m<wb.heap.size:=af;clear c1 c2 c1' D1 f2 lb gT l;generalize(au n.ai I).1=x at *;generalize(au n.ai I).2=y at *;refine eR 18 (Ext.refl wb) aj aj aj ?_;refine gV ?_;repeat (first
   | (refine bT (o:=⟨some 94,_,_,_,_,_⟩) (v:=.agg (#[.string ⟨d.toArray⟩,.int .i64 y])) rfl ?_ ?_
      ·intro a w' he hr K hK;simp[Reads,Oper.looksAt,Op.operands,aJ,Is] at hr;have H:((#[(0,.tmp 87),(1,.tmp 93)]:Array (Nat×Operand)).map fun(i,x)=>(i,a.eval x)).toList=[(0,.string ⟨d.toArray⟩),(1,.int .i64 y)]:=dX;refine tJ 142 #[(0,.tmp 87),(1,.tmp 93)] rfl ?_ ?_
       ·rw[H,za _ _];rfl
       ·rw[H,za _ _];exact hK _ (Ext.refl _)
      refine aE ?_)
   | (refine bT (o:=⟨some 102,_,_,_,_,_⟩) (v:=.agg (#[.string ⟨x.toArray⟩,.int .i64 f])) rfl ?_ ?_
      ·intro a w' he hr K hK;simp[Reads,Oper.looksAt,Op.operands,aJ,Is] at hr;have H:((#[(0,.tmp 100),(1,.tmp 101)]:Array (Nat×Operand)).map fun(i,x)=>(i,a.eval x)).toList=[(0,.string ⟨x.toArray⟩),(1,.int .i64 f)]:=dX;refine tJ 142 #[(0,.tmp 100),(1,.tmp 101)] rfl ?_ ?_
       ·rw[H,za _ _];rfl
       ·rw[H,za _ _];exact hK _ (Ext.refl _)
      refine aE ?_)
   | (refine jh (o:=⟨some 103,_,_,_,_,_⟩) (dx 2 2 (.cells #[.string ⟨d.toArray⟩,.int .i64 y,.string ⟨x.toArray⟩,.int .i64 f] 142)) (dx.ay _ _ _) rfl ?_ ?_
      ·exact wg
      refine aE ?_)
   | (refine kN ?_)
   | (refine fR ?_)
   | (refine iq ?_)
   | (refine fk ?_))
  intro w2 l;repeat (first | with_reducible refine cH _ _ _ _ ?_ | (with_reducible refine cI _ _ _ _ ?_;intro _ _) | with_reducible refine cJ _ _ ?_)
  simp only[cF,cK,bQ,bE];rename_i x3 h3;obtain⟨b3,rfl,lS⟩:=h3;have Nj:=ag (n8 (ys:=[.string ⟨d.toArray⟩,.int .i64 y,.string ⟨x.toArray⟩,.int .i64 f]) lS);have S:=ag (X.out.trans l);have M7:=ag (l.blk _ _ R.out);have HC3:=ag (l.blk _ _ Bn.out);have V:=ag (fJ (aO Bz.out l) (show w.heap.size<=J.heap.size by omega));have s3:=S.out.size;clear lS l a2 l2 p1 p2 lg2;go_upto_region 9 with(at_builtin;refine sV (o:=⟨some 104,_,_,_,_,_⟩) rfl (.tmp 86) (.tmp 103) 104 142 rfl w.heap.size (.agg #[.string ByteArray.empty,.int .i64 0]) 2 24 Tryz.underlying104 um rfl aq _ I _ rfl V.out (some ⟨b3,0,none⟩) 2 2 [.string ⟨d.toArray⟩,.int .i64 y,.string ⟨x.toArray⟩,.int .i64 f] rfl rfl rfl Nj.out (by intro u hu;simp at hu;rcases hu with rfl | rfl | rfl | rfl<;>rfl) af aq af ?_;intro v4 w4 oR jV);obtain⟨q4,k4,rfl⟩:=cE oR;have r4:=pZ (T:=142) jV V.out af;have U:=ag (Ext.trans' S.out r4.1);have L:=ag (r4.2 _ _ _ aq M7.out);have HC4:=ag (r4.2 _ _ _ aq HC3.out);have uA:=ag oR;have s4:=U.out.size;have a4:=ah.val L.out 2 _ rfl;have l4:=ah.lt L.out;have HP9:Hid (∀W,Ext w W->Cells W (if c=I+1 then some ⟨m,g,none⟩ else some ⟨m,g+(I+1)*2,none⟩) (aV (n.ai.drop (I+1)))):=ag (fun W e=>by
   split
   ·refine .inl (gY ?_);rw[wW];omega
   ·exact ND.out W e)
  have hI1:I+1<=n.ai.length:=af;have azi:(I:Int)+1<=n.ai.length:=af;have hI0:(0:Int)<=(I:Int)+1:=af;have f4:=ah.free L.out 2;clear oR jV r4 S M7 HC3 V Nj;have HE9:Hid (E2.length=I+2+(n.ai.length-(I+1))):=ag (by rw[HlE.out];omega);go_upto_region 10 with(at_builtin;refine adn (o:=⟨some 111,_,_,_,_,_⟩) rfl (.tmp 105) (.tmp 110) rfl w.heap.size _ (I+2) _ rfl uA.out _ (n.ai.length-(I+1)) (c-(I+1)) (aV (n.ai.drop (I+1))) rfl wW (HP9.out _ U.out) (Gi _) af af ?_;intro v5 w5 O qV;have r5:=pZ (T:=142) qV uA.out af;have D:=ag (r5.2 _ _ _ aq L.out);have HC5:=ag (r5.2 _ _ _ aq HC4.out);have NF:=ag (Ext.trans' U.out r5.1);have l5:=ah.lt D.out;have f5:=ah.free D.out 2;have a5:=ah.val D.out 2 _ rfl;have r7:=ag O;clear O qV r5;obtain⟨q5,k5,rfl⟩:=cE r7.out);all_goals
   have Z:aI w.heap.size w5 (w5.setCell ⟨w.heap.size,2,none⟩ (.slice q5 (I+2+(n.ai.length-(I+1))) k5)):=aI.setCell;have uk:=Z.ext NF.out (aH _);have rQ:=ah.setCell (i:=2) (v:=.slice q5 (I+2+(n.ai.length-(I+1))) k5) D.out;have mD:=Z.blk HC5.out af;have O:=fo r7.out aq D.out Z;go_wp2_with(first
    | (refine bz (o:=⟨some 113,_,_,_,_,_⟩) rfl 106 (.tmp 4) rfl _ rfl _ _ _ rQ cZ rfl bq ?_)
    | (refine aU rfl 106 (.tmp 8) (.tmp 113) rfl _ #[.int .i64 n.level,.int .i64 n.next,.slice q5 (I+2+(n.ai.length-(I+1))) k5] rfl rfl _ _ mD bq rfl cT ?_;intro w6 vz iw))
   all_goals exact bY (dM Tryz.results138 _ _ _ _ _ _ rfl vz cZ rfl bq) rfl ⟨iw.ext uk af,q5,k5,by rw[HE9.out];rfl,by rw[HE9.out,HB.out];exact fo O aq mD iw⟩
end Go.Proofs.YteninnkbmoimgaaGreatDoor

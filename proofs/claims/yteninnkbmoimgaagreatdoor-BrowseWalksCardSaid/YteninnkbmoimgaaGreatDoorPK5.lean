/- A part of the proof. -/
import Derived.Test.YteninnkbmoimgaaGreatDoorPK4
import Derived.Shelf.RegionOpen
set_option linter.unusedSimpArgs false
set_option linter.unusedVariables false
set_option maxRecDepth 100000
set_option maxHeartbeats 16000000
namespace aD
open Go Go.RowKit
def Ot (R:Act->World->Prop):Exit->Act->World->Prop
 | .normal,a,w=>R a w
 | _,_,_=>False
theorem avs {P:Program} {o:Oper} {a:Act} {w:World} {K R:Act->World->Prop} {Q:Exit->Act->World->Prop} (h:o.wp P a w K (Ot R)):o.wp P a w K Q:=by
 unfold Oper.wp at *;generalize(execOp a.eval o).run P w=r at *;cases r with
 | ok x w'=>
   cases x<;>simp only[Oper.upon] at h⊢ <;>
    first
     | exact h
     | exact Calls.mono h (fun e f b=>by
        cases e
        ·exact b
        ·exact False.elim b
        ·obtain⟨_,_,d⟩:=b;exact False.elim d)
 | halt x w'=>cases x<;>simp only[Oper.upon] at h⊢ <;>first | exact False.elim h | exact h
theorem Vu {F:Fence} (d:si F) {n:Nat} {P:Program} {ops:Array Oper} {Q:Exit->Act->World->Prop} {g:List Oper}:∀(l:List Oper) (a:Act) (w:World),l.all DQ=true->wpList P ops (Ot (wpListIn F n P ops Q g)) l a w->wpListIn F n P ops Q (l++g) a w
 | [],_,_,_,h=>h
 | o::l,a,w,b,h=>by
   rw[List.all_cons,eu] at b;unfold wpList at h;show wpListIn F n P ops Q (o::(l++g)) a w;unfold wpListIn;split
   ·rename_i e;rw[aC e] at h;rcases h with h | h
    ·exact adz d (adA b.1) (avs (Oper.wp_mono (fun a w h=>Vu d l a w b.2 h) h))
    ·obtain⟨_,_,_,i⟩:=h;exact False.elim i
   ·rename_i e;rw[aA e] at h;exact⟨fun f _=>d.fn f,Vu d l _ _ b.2 h⟩
theorem avt {F:Fence} (d:si F) {n:Nat} {P:Program} {id:Nat} {l:List Oper} {Q:Exit->Act->World->Prop} {a:Act} {w:World} (k:Nat) (b:(l.take k).all DQ=true) (h:wpList P l.toArray (Ot (wpListIn F n P l.toArray Q (l.drop k))) (l.take k) a w):(Code.region id l.toArray false).wpIn F n P Q a w:=
 wpIn_region_lit (by have:=Vu d (l.take k) a w b h;rwa[pM] at this)
end aD
namespace Go.Proofs.YteninnkbmoimgaaGreatDoor
open Go.RowKit aD
attribute [local go_sem] Oper.semAt_some
structure uG (g0 g1 g2 eb:Nat) (x:Value) (h:Hd) (d:DS) (v:Value) (w:World):Prop where
 bs:ah w g0 (.cells #[v] 101)
 cl:ah w g1 (.cells (bH x h d) 117)
 pt:ah w g2 (.cells #[.pointer (some ⟨eb,0,none⟩)] 88)
theorem uG.ext {f g j b:Nat} {x:Value} {h:Hd} {d:DS} {v:Value} {w w':World} (i:uG f g j b x h d v w) (e:Ext w w'):uG f g j b x h d v w':=⟨e.blk _ _ i.bs,e.blk _ _ i.cl,e.blk _ _ i.pt⟩
theorem agK (x:Value) (h:Hd) (d:DS) (g:Option Addr) (nb b f:Nat) (w:World):
 Calls Tryz.prog 55 #[.agg (bH x h d),.slice g nb b,.pointer (some ⟨f,0,none⟩)] w fun e w'=>Ext w w'/\∃i j l,w.heap.size<=i/\e=.returned (.func (.func 84) #[] #[.pointer (some ⟨i,0,none⟩),.pointer (some ⟨j,0,none⟩),.pointer (some ⟨l,0,none⟩)])/\uG i j l f x h d (.slice g nb b) w':=by
 obtain⟨q,m,n,o⟩:=zB w (.cells (bH x h d) 117) (.cells #[.slice g nb b] 101) (.cells #[.pointer (some ⟨f,0,none⟩)] 88);have t:=ag q;have r:=ag (show uG (w.heap.size+1) w.heap.size (w.heap.size+1+1) f x h d (.slice g nb b) _ from⟨n,m,o⟩);clear q m n o;go_enter Tryz.func55,Tryz.ntmps55;go_wp2;go_ret;exact⟨t.out,_,_,_,af,rfl,r.out⟩
abbrev Yd:=Option Addr×Nat×aQ
def zI (x:Yd):Array Value:=#[.slice x.1 (aX x.2.2.2).length x.2.1]
def iS (xs:List Yd):List aQ:=xs.map fun x=>x.2.2
def Vv (d:DS) (x:Yd) (w:World):Prop:=w.ownsRow 0 37 2 (.slice x.1 (aX x.2.2.2).length x.2.1) (aX x.2.2.2).length (eV (bW d (aX x.2.2.2)))
def agL (t:TypeId):Prop:=t=117∨t=101∨t=88
theorem uG.kc {g j l f n0:Nat} {x:Value} {h:Hd} {d:DS} {v:Value} {w w':World} {m:Nat->TypeId->Prop} (i:uG g j l f x h d v w) (k:Kc n0 m w w') (e:∀b t,agL t->¬m b t):uG g j l f x h d v w':=
 ⟨k.blk i.bs (e _ _ (.inr (.inl rfl))),k.blk i.cl (e _ _ (.inl rfl)),k.blk i.pt (e _ _ (.inr (.inr rfl)))⟩
theorem agM {M:List (List UInt8)} {d:DS} {h:Hd} {S:List aQ} {dn:List Int} {n:Nat} (K:dL M d h S dn n) (p:Option Addr) (i m:Nat) (hn:M.length=m) (f:List aQ) (hbs:∀s∈f,s∈S) (qb:Option Addr) (cb:Nat) (g0 F g2 eb:Nat) (N w:World) (hs:bk N p M) (hb:Ints N qb (dU f)) (hl:f.length<=1000) (he:Ext N w)
 (hi:uG g0 F g2 eb (.slice p m i) h d (.slice qb f.length cb) w) (tB:Nat->TypeId->Prop) (hB:∀b t,agL t->¬tB b t):
 Ty Tryz.prog 84 #[.pointer (some ⟨g0,0,none⟩),.pointer (some ⟨F,0,none⟩),.pointer (some ⟨g2,0,none⟩)] zI N.heap.size (fun _ _=>False) tB (fun xs _=>iS xs=f) (fun _ _=>True) (fun pre x W=>iS pre++[x.2.2] <+: f/\Vv d x W) w:=by
 intro l J Jx W Y hJ hJx hY h0;have HY:=ag hY;have HB:=ag hB;have Hs:=ag hs;have Hb:=ag hb;have HK:=ag K;have HBs:=ag hbs;have Hn:=ag hn;have HJ:=ag (fun pre A B (xj:Ext A B) (hz:N.heap.size<=A.heap.size) (H:J pre A)=>hJ pre A B (Kc.lP xj hz) (KeepsFrom.lP xj) H);have Z:=ag (And.intro (he.trans Y) (And.intro (hi.ext Y) h0));clear hY hB hs hb K hbs hn hJ hJx hi he h0;have c1:W.cell? ⟨g0,0,none⟩=some (.slice qb f.length cb):=ah.val Z.out.2.1.bs 0 _ rfl;have l1:=ah.lt Z.out.2.1.bs;have hbl:(dU f).length=f.length:=by simp[dU]
 show Calls Tryz.prog 84 #[.func (.yield l) #[] #[],.pointer (some ⟨g0,0,none⟩),.pointer (some ⟨F,0,none⟩),.pointer (some ⟨g2,0,none⟩)] W _;go_enter Tryz.func84,Tryz.ntmps84;go_upto_region 1 with(fail);clear c1 l1;go_loopw[11] (fun iv wr=>∃(k:Nat) (pre:List Yd),k<=f.length/\iv=.int .i64 k/\iS pre=f.take k/\Ext N wr/\uG g0 F g2 eb (.slice p m i) h d (.slice qb f.length cb) wr/\J pre wr) (fun iv _=>f.length-(intOf iv).toNat)
 case atStart=>exact⟨0,[],bL _,rfl,by simp[iS],Z.out.1,Z.out.2.1,Z.out.2.2⟩
 case round=>
  obtain⟨k,pre,hk,rfl,g,Y,r,H⟩:=hrel;clear Z;by_cases D:k<f.length
  ·have gB:(k:Int)<f.length:=af;have U:f[k]∈S:=HBs.out _ (mN D);have I:=HK.out.k.inv _ U;have z:=ag (fun W (e:Ext N W)=>aeJ p i m M d (f[k]).2.base W (Hs.out.ext e) Hn.out HK.out.small);rw[(HK.out.k.holds _ U).read I.spec] at z;unfold mw at z;obtain⟨a1,a2,a3⟩:=lV I.spec;have xM:ou d (f[k]).2=bW d (aX (f[k]).2):=PD;have u:=ag (fun q c p m W (e:cX W (f[k]).2 q c p m)=>aeL d (f[k]).2 q c p m W e.x a1 a2 a3);rw[xM] at u;simp only[oW] at u;obtain⟨gb,off,rfl,hgb,hc⟩:=(Hb.out.ext Y).at k af;have oz:=hc k af;have hbk:(dU f).getD k 0=(f[k]).2.base:=by simp[dU,List.getD,D]
   rw[hbk] at oz;have hpx:iS pre++[f[k]] <+: f:=by rw[g,<-jr D];exact List.take_prefix _ _
   have Ag:=ag (show iS pre++[f[k]]=f.take (k+1) by rw[g,<-jr D]);have HYk:=ag (fun W1 (y:Yd) (hy:y.2.2=f[k]) (H:J pre W1) (ho:Vv d y W1)=>HY.out pre y W1 H ⟨by rw[hy];exact hpx,ho⟩);have O:=ag r;have Hx:=ag Y;have Hj:=ag H;generalize f[k]=s at *;obtain⟨low,a⟩:=s;dsimp only at *;have i1:wr.cell? ⟨F,0,none⟩=some (.iface 32 (.slice p m i)):=ah.val r.cl 0 _ rfl;have l1:=ah.lt r.cl;clear hc xM U I a1 a2 a3 g Y r H hbk hpx;go_upto_region 4 with(first
    | (refine oY (o:=⟨some 19,_,_,_,_,_⟩) rfl 23 (.tmp 18) rfl F 8 rfl _ (bH (.slice p m i) h d) (az d) _ O.out.cl (xS _ h d) gr rfl gD ?_)
    | (go_at_call 85;refine(z.out _ Hx.out).mono ?_;rintro e w1 ⟨bU,q,c,p2,m2,rfl,hv⟩)
    | (refine aU rfl 109 (.tmp 7) (.tmp 22) rfl _ (bn a q c p2 m2) rfl rfl _ _ (ah.new w1 _) aZ rfl (mE ..) ?_;intro w2 R hc2))
   have T:=hc2.ext (Ext.alloc w1 (.cells cA 109)) (aH _);have E:Ext wr w2:=bU.trans T;have j:=ag (And.intro (Hx.out.trans E) (O.out.ext E));have N7:=ag (hv.ext T);have Hj2:=ag (HJ.out pre _ _ E Hx.out.size Hj.out);have l7:=ah.lt R;have G:=j.out.2.cl;generalize w1.heap.size=ab at *;clear bU hv hc2 T E i1 l1 oz hgb z Hx Hj O;go_upto_region 6 with(fail);refine(wpIn_wide (n:=3)).1 ?_;refine avt (.inl rfl) 5 (by rfl) ?_;simp only[cY,eF,dV,dP];go_wp2_with(first
    | (refine oY (o:=⟨some 31,_,_,_,_,_⟩) rfl 23 (.tmp 30) rfl F 8 rfl _ (bH (.slice p m i) h d) (az d) _ G (xS _ h d) gr rfl gD ?_)
    | (refine bz (o:=⟨some 32,_,_,_,_,_⟩) rfl 109 (.tmp 7) rfl _ rfl _ _ _ R cL rfl aZ ?_)
    | (go_at_call 86;refine(u.out _ _ _ _ _ N7.out).mono ?_;rintro e w3 ⟨C,v3,rfl,X⟩;obtain⟨q3,c3,rfl⟩:=cE X))
   obtain⟨fn,tmps,assign,body,hy,hR⟩:=HYk.out w3 (q3,c3,(low,a)) rfl (HJ.out pre _ _ C j.out.1.size Hj2.out) (fJ X (bL _));dsimp only[zI] at hy;have Mq:=ag (And.intro (j.out.1.trans C) (j.out.2.ext C));clear X C G R l7 j N7 Hj2 u HYk;simp only[Ot]
   gi_wp2
   refine hR.mono ?_;rintro e W' (⟨rfl,hj',V⟩ | ⟨rfl,L⟩)
   ·have Q:Hid (iS (pre++[(q3,c3,(low,a))])=f.take (k+1)/\Ext N W'/\uG g0 F g2 eb (.slice p m i) h d (.slice (some ⟨gb,off,none⟩) f.length cb) W'/\J (pre++[(q3,c3,(low,a))]) W'):=
     ag ⟨by rw[<-Ag.out];simp[iS],Ext.trans' Mq.out.1 V.below,Mq.out.2.kc V HB.out,hj'⟩
    clear hj' V hy hR
    gi_wp2
    go_wp2_with fail;go_roundw
    case rel=>exact⟨k+1,_,af,bX,Q.out⟩
    case measure=>exact ct
   ·have Q:=ag L;clear hy hR L
    gi_wp2
    go_wp2_with fail;exact bY (results_none rfl _ _ _) rfl ⟨⟨_,rfl⟩,.inr ⟨_,trivial,Q.out⟩⟩
  ·have gB:decide ((k:Int)<f.length)=false:=aM af;obtain rfl:k=f.length:=af;rw[rT] at g;have HE:=ag (And.intro g H);clear g H Y r;go_wp2_with fail;go_end0;exact⟨⟨_,rfl⟩,.inl ⟨pre,HE.out.1,HE.out.2⟩⟩
end Go.Proofs.YteninnkbmoimgaaGreatDoor
namespace aD
theorem avv {α:Type} {b A:List aQ} {s:aQ} {f:aQ->Option α} {x:α} (d:∀t∈A,f t=none) (g:f s=some x) (e:A++[s] <+: b):b.findSome? f=some x:=by
 obtain⟨C,rfl⟩:=e;rw[jk,List.findSome?_append,List.findSome?_eq_none_iff.2 d];simp[g]
theorem avw {α:Type} {b:List aQ} {f:aQ->Option α} (d:∀t∈b,f t=none):b.findSome? f=none:=List.findSome?_eq_none_iff.2 d
end aD
namespace Go.Proofs.YteninnkbmoimgaaGreatDoor
open Go.RowKit aD
attribute [local go_sem] Oper.semAt_some
theorem agP (w:World) (b d e f g:Obj):Ext w (((((w.alloc b).alloc d).alloc e).alloc f).alloc g)/\ah (((((w.alloc b).alloc d).alloc e).alloc f).alloc g) w.heap.size b/\ah (((((w.alloc b).alloc d).alloc e).alloc f).alloc g) (w.heap.size+1) d/\ah (((((w.alloc b).alloc d).alloc e).alloc f).alloc g) (w.heap.size+1+1) e/\ah (((((w.alloc b).alloc d).alloc e).alloc f).alloc g) (w.heap.size+1+1+1) f/\ah (((((w.alloc b).alloc d).alloc e).alloc f).alloc g) (w.heap.size+1+1+1+1) g:=by
 obtain⟨i,j,l,m,n⟩:=agI w b d e f;have k:=ah.new ((((w.alloc b).alloc d).alloc e).alloc f) g;simp only[World.size_alloc] at k;exact⟨i.trans (Ext.alloc _ _),(Ext.alloc _ _).blk _ _ j,(Ext.alloc _ _).blk _ _ l,(Ext.alloc _ _).blk _ _ m,(Ext.alloc _ _).blk _ _ n,k⟩
structure rm (b:Nat) (x s:List UInt8) (e:Int) (w:World):Prop where
 c1:ah w b (.cells #[.string ⟨x.toArray⟩] 9)
 c2:ah w (b+1) (.cells #[.string ⟨s.toArray⟩] 9)
 c3:ah w (b+1+1) (.cells #[.int .i64 e] 38)
theorem rm.ext {b:Nat} {x s:List UInt8} {e:Int} {w w':World} (n:rm b x s e w) (h:Ext w w'):rm b x s e w':=⟨h.blk _ _ n.c1,h.blk _ _ n.c2,h.blk _ _ n.c3⟩
theorem rm.kc {b:Nat} {x s:List UInt8} {e:Int} {w w':World} {n0:Nat} (n:rm b x s e w) (k:Kc n0 (fun _ _=>False) w w'):rm b x s e w':=⟨k.blk n.c1 (fun h=>h),k.blk n.c2 (fun h=>h),k.blk n.c3 (fun h=>h)⟩
theorem agQ {b:Nat} {J I:List UInt8} {C:Int} {W:World} (n:rm b J I C W) (x s:List UInt8) (e:Int):
 rm b x s e (((W.setCell ⟨b,0,none⟩ (.string ⟨x.toArray⟩)).setCell ⟨b+1,0,none⟩ (.string ⟨s.toArray⟩)).setCell ⟨b+1+1,0,none⟩ (.int .i64 e)).drew/\
  (∀w,Ext w W->w.heap.size<=b->Ext w (((W.setCell ⟨b,0,none⟩ (.string ⟨x.toArray⟩)).setCell ⟨b+1,0,none⟩ (.string ⟨s.toArray⟩)).setCell ⟨b+1+1,0,none⟩ (.int .i64 e)).drew)/\
  ∀B,KeepsFrom B W (((W.setCell ⟨b,0,none⟩ (.string ⟨x.toArray⟩)).setCell ⟨b+1,0,none⟩ (.string ⟨s.toArray⟩)).setCell ⟨b+1+1,0,none⟩ (.int .i64 e)).drew:=by
 have k1:=aI.setCell (w:=W) (g:=b) (i:=0) (v:=.string ⟨x.toArray⟩);have o:ah (W.setCell ⟨b,0,none⟩ (.string ⟨x.toArray⟩)) b (.cells #[.string ⟨x.toArray⟩] 9):=ah.setCell n.c1;have l:=k1.blk n.c2 af;have q:=k1.blk n.c3 af;have F:=fun B=>KeepsFrom.qY (B:=B) k1 n.c1;generalize W.setCell ⟨b,0,none⟩ (.string ⟨x.toArray⟩)=f at *;have k2:=aI.setCell (w:=f) (g:=b+1) (i:=0) (v:=.string ⟨s.toArray⟩);have r:=k2.blk o af;have t:ah (f.setCell ⟨b+1,0,none⟩ (.string ⟨s.toArray⟩)) (b+1) (.cells #[.string ⟨s.toArray⟩] 9):=ah.setCell l;have m:=k2.blk q af;have G:=fun B=>KeepsFrom.qY (B:=B) k2 l;generalize f.setCell ⟨b+1,0,none⟩ (.string ⟨s.toArray⟩)=j at *;have d:=aI.setCell (w:=j) (g:=b+1+1) (i:=0) (v:=.int .i64 e);have u:=d.blk r af;have y:=d.blk t af;have z:ah (j.setCell ⟨b+1+1,0,none⟩ (.int .i64 e)) (b+1+1) (.cells #[.int .i64 e] 38):=ah.setCell m;have H:=fun B=>KeepsFrom.qY (B:=B) d m;generalize j.setCell ⟨b+1+1,0,none⟩ (.int .i64 e)=K at *;exact⟨⟨u,y,z⟩,fun w E D=>((d.ext (k2.ext (k1.ext E D) af) af)).trans (Ext.drew _),fun B=>(((F B).trans (G B)).trans (H B)).trans (KeepsFrom.lP (Ext.drew _))⟩
theorem agR {d:Array Value} {w:World} {b:Nat} {x s:List UInt8} {e:Int} (n:rm b x s e w)
 (h1:d.getD 6 undef=.pointer (some ⟨b,0,none⟩)) (h2:d.getD 7 undef=.pointer (some ⟨b+1,0,none⟩)) (h3:d.getD 8 undef=.pointer (some ⟨b+1+1,0,none⟩)):
 (results Tryz.f76 d).run Tryz.prog w=.ok (.tuple #[.string ⟨x.toArray⟩,.string ⟨s.toArray⟩,.int .i64 e]) w:=by
 have j:=ah.val n.c1 0 _ rfl;have l:=ah.val n.c2 0 _ rfl;have m:=ah.val n.c3 0 _ rfl;have f:d[6]?.getD undef=.pointer (some ⟨b,0,none⟩):=jP;have g:d[7]?.getD undef=.pointer (some ⟨b+1,0,none⟩):=ru;have i:d[8]?.getD undef=.pointer (some ⟨b+1+1,0,none⟩):=uO;simp[results,Tryz.results76,asAddr,Sem.run_bind,f,g,i,go_sem,j,l,m]
def BX (d:DS) (o:Option (List UInt8)) (w:World) (e:Ending) (w':World):Prop:=
 e=.returned (.tuple #[.string ⟨(jn d o).1.toArray⟩,.string ⟨(jn d o).2.toArray⟩,.int .i64 (yQ o)])/\Ext w w'
structure Vw (f:FuncId) (caps:Array Value) (d:DS) (bs:List aQ) (g:aQ->Option (List UInt8)) (w:World):Prop where
 call:∀args W,(callFunc f args).run Tryz.prog W=.ok (.enter f args) W
 pick:∀y:Yd,y.2.2∈bs->∀W,Ext w W->Vv d y W->Calls Tryz.prog f (zI y++caps) W fun e W'=>e=.returned (.tuple #[.agg (fF (jn d (g y.2.2))),.bool (g y.2.2).isSome])/\Ext W W'
theorem agS {M:List (List UInt8)} {d:DS} {h:Hd} {S:List aQ} {dn:List Int} {n:Nat} (K:dL M d h S dn n) (p:Option Addr) (Z m:Nat) (hn:M.length=m) (H:List aQ) (hbs:∀s∈H,s∈S) (qb:Option Addr) (cb:Nat) (f:FuncId) (q:Array Value) (g:aQ->Option (List UInt8)) (w:World) (hs:bk w p M) (hb:Ints w qb (dU H)) (hl:H.length<=1000)
 (hP:Vw f q d H g w):
 Calls Tryz.prog 76 #[.agg (bH (.slice p m Z) h d),.slice qb H.length cb,.func (.func f) #[] q] w (BX d (H.findSome? g) w):=by
 have HP:=ag hP.pick;have hcall:=hP.call;have h0:=agP w (.cells (bH (.slice p m Z) h d) 117) (.cells #[.func (.func f) #[] q] 153) (.cells #[.string ⟨#[]⟩] 9) (.cells #[.string ⟨#[]⟩] 9) (.cells #[.int .i64 0] 38);have zg:=ag (agM K p Z m hn H hbs qb cb);clear hP;refine MZ Tryz.func76 rfl ?_;simp only[Tryz.ntmps76,CD,gW,lC,Nat.reduceAdd,Nat.reduceSub,Array.replicate_succ,Array.replicate_zero,List.push_toArray,List.append_toArray,bQ,bE];go_upto_region 1 with(fail);refine aR (fun W=>Ext w W/\ah W w.heap.size (.cells (bH (.slice p m Z) h d) 117)/\ah W (w.heap.size+1) (.cells #[.func (.func f) #[] q] 153)/\rm (w.heap.size+1+1) [] [] 0 W) ⟨h0.1,h0.2.1,h0.2.2.1,h0.2.2.2.1,h0.2.2.2.2.1,h0.2.2.2.2.2⟩ ?_;clear h0;rintro w0 ⟨he0,hc0,sr,Vx⟩;go_upto_region 2 with(fail);refine aR (fun W=>Ext w0 W/\ah W w0.heap.size (.cells #[.int .i64 0] 38)) ⟨Ext.alloc _ _,ah.new _ _⟩ ?_;rintro w1 ⟨L,hb1⟩;have hc1:=L.blk _ _ hc0;have sj:=L.blk _ _ sr;have hv1:=Vx.ext L;have hx1:=he0.trans L;have hz0:=ah.lt Vx.c3;have hz1:=he0.size;generalize w0.heap.size=I at *;have J:=ag (And.intro hb1 (And.intro sj (And.intro hv1 hx1)));clear he0 hc0 sr Vx L hb1 sj hv1 hx1;go_upto_region 3 with(first
  | ((with_reducible refine aW 13 ?_);refine bz rfl 117 (.tmp 3) rfl _ rfl _ _ _ hc1 yf rfl rz ?_)
  | (go_at_call 55;refine(agK _ h d qb H.length cb I w1).mono ?_;rintro e w2 ⟨N,g0,g1,g2,hg0,rfl,hat⟩))
 have zq:Ext w w2:=J.out.2.2.2.trans N;have tD:=N.blk _ _ J.out.2.1;have hv2:=J.out.2.2.1.ext N;have O:=N.blk _ _ J.out.1;have Iv:=ag (zg.out g0 g1 g2 I w w2 hs hb hl zq hat (fun _ _=>False) (fun _ _ _ h=>h));have Iu:Hid (Ext w w2/\ah w2 (w.heap.size+1) (.cells #[.func (.func f) #[] q] 153)/\rm (w.heap.size+1+1) [] [] 0 w2/\ah w2 I (.cells #[.int .i64 0] 38)/\iS [] <+: H/\∀s∈iS [],g s=none):=ag ⟨zq,tD,hv2,O,by simp[iS],fun s h=>by simp[iS] at h⟩;have hzE:I<w2.heap.size:=ah.lt O;have hzV:w.heap.size+1+1+1+1<w2.heap.size:=ah.lt hv2.c3;have aAP:=zq.size;clear N tD hv2 O J hc1 zg hat hs hb;go_wp2_with fail;refine Tz (n0:=w.heap.size) zq.size (tI:=fun _ _=>False) rfl (enters_of Tryz.func84 aj rfl) (encs:=zI) (fun x=>rfl) (fun xs A B k hS=>hS) (fun xs A B k hS=>hS) Iv.out
  (fun pre W=>Ext w W/\ah W (w.heap.size+1) (.cells #[.func (.func f) #[] q] 153)/\rm (w.heap.size+1+1) [] [] 0 W/\ah W I (.cells #[.int .i64 0] 38)/\iS pre <+: H/\∀s∈iS pre,g s=none)
  (fun c pre W=>c=.ret/\Ext w W/\∃A s r,A++[s] <+: H/\(∀t∈A,g t=none)/\g s=some r/\rm (w.heap.size+1+1) (ax d r) r 0 W)
  (fun pre A B k ⟨h1,h2,h3,h4,h5,h6⟩=>⟨Ext.trans' h1 k.below,k.blk h2 (fun h=>h),h3.kc k,k.blk h4 (fun h=>h),h5,h6⟩) (fun c pre A B k ⟨h0,h1,A',s,r,h2,h3,h4,h5⟩=>⟨h0,Ext.trans' h1 k.below,A',s,r,h2,h3,h4,h5.kc k⟩) Iu.out ?round ?done ?stop
 case round=>
  rintro l pre x W hz ⟨u,hpk,b,o,G,T⟩ ⟨lQ,y7⟩;dsimp only[zI]
  gi_wp2
  refine⟨KeepsFrom.lP (Ext.refl _),?_⟩;intro W2 C hz2;have E:Ext w W2:=Ext.trans' u C.below;have F:=C.blk hpk (fun h=>h);have hp:=HP.out x (lQ.subset av) W2 E (xq y7 C (fun _ h=>h));dsimp only[zI] at hp;have V:=ag hp;have X:=ag (And.intro C (And.intro E (And.intro F (And.intro (b.kc C) (C.blk o (fun h=>h))))));have HN:=ag (show iS (pre++[x])=iS pre++[x.2.2] by simp[iS]);have i5:W2.cell? ⟨w.heap.size+1,0,none⟩=some (.func (.func f) #[] q):=ah.val F 0 _ rfl;have l5:=ah.lt F;have M5:=ag G;have qZ:=ag T;have Bg:=ag lQ;have hzW:=E.size;obtain⟨q1,c1,s⟩:=x;dsimp only at *;clear C u hpk b o T y7 E F hp hz2 G lQ;refine wpIn_block ?_;refine wpIn_seq_k (fun K7 Iy=>?_);have M6:=ag Iy;clear Iy;refine TB (.inr ⟨l,rfl⟩) (fun⟨_,_,h⟩=>h) (by rfl) ?_;cases hg:g s with
  | none=>
    rw[hg] at V;go_wp2_with(first
     | (refine V.out.mono ?_;rintro e w5 ⟨rfl,Q⟩)
     | (refine aU rfl 37 (.tmp 11) (.tmp 21) rfl _ #[.string ⟨#[]⟩,.string ⟨#[]⟩] rfl rfl _ _ (ah.new w5 _) fE rfl cT ?_;intro w6 U p6))
    have y:=Q.trans (p6.ext (Ext.alloc w5 _) (aH _));refine M6.out _ _ ?_
    gi_wp2
    exact⟨KeepsFrom.lP y,X.out.1.trans (Kc.lP y X.out.2.1.size),X.out.2.1.trans y,y.blk _ _ X.out.2.2.1,X.out.2.2.2.1.ext y,y.blk _ _ X.out.2.2.2.2,by rw[HN.out];exact Bg.out,by
     rw[HN.out];intro t ht;rw[iG] at ht;rcases ht with ht | ht
     ·exact qZ.out t ht
     ·simp at ht;subst ht;exact hg⟩
  | some r=>
    rw[hg] at V;go_wp2_with(first
     | (refine V.out.mono ?_;rintro e w5 ⟨rfl,Q⟩)
     | (refine aU rfl 37 (.tmp 11) (.tmp 21) rfl _ #[.string ⟨(ax d r).toArray⟩,.string ⟨r.toArray⟩] rfl rfl _ _ (ah.new w5 _) fE rfl (nU _ _) ?_;intro w6 U p6))
    have y:=Q.trans (p6.ext (Ext.alloc w5 _) (aH _));have nG:=Q.size;generalize w5.heap.size=xb at *;have c1:w6.cell? ⟨xb,0,none⟩=some (.string ⟨(ax d r).toArray⟩):=ah.val U 0 _ rfl;have c2:w6.cell? ⟨xb,1,none⟩=some (.string ⟨r.toArray⟩):=ah.val U 1 _ rfl;have lx:=ah.lt U;have j:=X.out.2.2.2.1.ext y;have d1:w6.cell? ⟨w.heap.size+1+1,0,none⟩=some (.string ⟨#[]⟩):=ah.val j.c1 0 _ rfl;have d2:w6.cell? ⟨w.heap.size+1+1+1,0,none⟩=some (.string ⟨#[]⟩):=ah.val j.c2 0 _ rfl;have d3:w6.cell? ⟨w.heap.size+1+1+1+1,0,none⟩=some (.int .i64 0):=ah.val j.c3 0 _ rfl;have f1:=ah.free j.c1 0;have f2:=ah.free j.c2 0;have f3:=ah.free j.c3 0;have hzn:=ah.lt j.c3;have aAS:=ah.lt X.out.2.2.2.1.c3;have g1:xb≠w.heap.size+1+1:=af;have g2:xb≠w.heap.size+1+1+1:=af;have g3:xb≠w.heap.size+1+1+1+1:=af;have Vy:=ag (agQ j (ax d r) r 0);have Ou:=ag y;clear Q p6 y U j;refine M6.out _ _ ?_
    gi_wp2
    have hmo:Tryz.prog.follows .mixedOrders=true:=aj
    gi_region_with_o (fail)
    all_goals
     gi_wp2
     exact⟨(KeepsFrom.lP Ou.out).trans (Vy.out.2.2 _),rfl,Vy.out.2.1 w (X.out.2.1.trans Ou.out) af,iS pre,s,r,Bg.out,qZ.out,hg,Vy.out.1⟩
 case done=>
  rintro D xs W hD hS ⟨u,hpk,b,o,G,T⟩ hK;have HO:Hid (H.findSome? g=none):=ag (avw (by rw[<-hS];exact T));have c9:W.cell? ⟨I,0,none⟩=some (.int .i64 0):=ah.val o 0 _ rfl;have f9:=ah.free o 0;have l9:=ah.lt o;have z:=ag (And.intro u (And.intro b (And.intro o hK)));have hzs:=ah.lt b.c3;dsimp only;clear u hpk b o G T hK hS;go_upto_region 9 with(fail);have hc:=aI.setCell (w:=W) (g:=I) (i:=0) (v:=.int .i64 6);refine aR (fun Y=>Ext w Y/\rm (w.heap.size+1+1) [] [] 0 Y/\ah Y I (.cells #[.int .i64 6] 38)/\Y.heap[D]? =some (.deferred (some []))) ⟨hc.ext z.out.1 af,⟨hc.blk z.out.2.1.c1 af,hc.blk z.out.2.1.c2 af,hc.blk z.out.2.1.c3 af⟩,ah.setCell z.out.2.2.1,(KeepsFrom.qY (B:=0) hc z.out.2.2.1).same _ _ (bL _) z.out.2.2.2 rfl⟩ ?_;clear hc c9 f9 l9 z;rintro Y ⟨u,b,o,hK⟩;have c9:Y.cell? ⟨I,0,none⟩=some (.int .i64 6):=ah.val o 0 _ rfl;have l9:=ah.lt o;have d1:Y.cell? ⟨w.heap.size+1+1,0,none⟩=some (.string ⟨#[]⟩):=ah.val b.c1 0 _ rfl;have d2:Y.cell? ⟨w.heap.size+1+1+1,0,none⟩=some (.string ⟨#[]⟩):=ah.val b.c2 0 _ rfl;have d3:Y.cell? ⟨w.heap.size+1+1+1+1,0,none⟩=some (.int .i64 0):=ah.val b.c3 0 _ rfl;have f1:=ah.free b.c1 0;have f2:=ah.free b.c2 0;have f3:=ah.free b.c3 0;have hzv:=ah.lt b.c3;have hne:I≠w.heap.size+1+1+1+1:=af;have adM:I≠w.heap.size+1+1+1:=af;have aAT:I≠w.heap.size+1+1:=af
  have Hsv:=ag (agQ b [] [] 6);have gZ:=ag u;have mQ:=ag hK;clear b u hK o;go_region;all_goals
   go_wp2_with fail;have hns:=Hsv.out;have vF:=(hns.2.2 0).same _ _ (bL _) mQ.out rfl;have R:=Kc.p7 (n0:=w.heap.size) (tc:=fun _ _=>False) (.deferred none) vF rfl af;exact Ig vF (agR (hns.1.kc R) rfl rfl rfl) ⟨by rw[HO.out];rfl,Ext.trans' (hns.2.1 w gZ.out af) R.below⟩
 case stop=>
  rintro D c pre W hD hS ⟨rfl,u,A,s,r,h1,h2,h3,b⟩ hK;have HO:Hid (H.findSome? g=some r):=ag (avv h2 h3 h1);have R:=Kc.p7 (n0:=w.heap.size) (tc:=fun _ _=>False) (.deferred none) hK rfl af;have HKP:=ag R;have HN:=ag b;have HX:=ag u;have mQ:=ag hK;clear R b u hK hS h1 h2 h3;dsimp only;go_wp2_with fail;exact Ig mQ.out (agR (HN.out.kc HKP.out) rfl rfl rfl) ⟨by rw[HO.out];rfl,Ext.trans' HX.out HKP.out.below⟩
end Go.Proofs.YteninnkbmoimgaaGreatDoor

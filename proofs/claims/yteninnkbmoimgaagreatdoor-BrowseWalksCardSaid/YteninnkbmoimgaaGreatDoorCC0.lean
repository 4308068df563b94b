/- A part of the proof. -/
import Derived.Test.YteninnkbmoimgaaGreatDoorCA
import Derived.Test.YteninnkbmoimgaaGreatDoorAM
import Derived.RegionTactic
import Derived.Lib.BufferWrite
import Derived.Lib.Builder
import Derived.Lib.Bytealg
import Derived.Deep.LoopGhost
set_option linter.unusedSimpArgs false
set_option linter.unusedVariables false
set_option maxRecDepth 100000
set_option maxHeartbeats 16000000
variable{P:Prop}
theorem aby(h:P:=by
 skip;go_upto_region 20 with(fail);refine aR (fun W=>Ext w W/\ah W w.heap.size (.cells #[.string ⟨(ax d r).toArray⟩,.bool c.back,.bool true,.bool c.done] 26)/\ah W (w.heap.size+1) (.cells #[.string ⟨#[]⟩,.bool false,.bool false,.bool false] 26)/\ah W (w.heap.size+1+1) (.cells #[.string ⟨#[]⟩,.string ⟨#[]⟩] 37)) ⟨(aI.setCell.trans aI.setCell).ext HX.out.1 (aH _),ah.setCell (ah.setCell HX.out.2.1),(aI.setCell.trans aI.setCell).blk HX.out.2.2.1 af,(aI.setCell.trans aI.setCell).blk HX.out.2.2.2 af⟩ ?_;clear c0 c1 c2 c3 l0 f0 f2 HX k0 k1;rintro w1 ⟨bU,hc1,hz1,hq1⟩;have hgl:=fM hg bU.size;have k0:=(bU.cell g _ hg).trans Ds;have k1:=(bU.cell g _ hg).trans Dt;have aye:g≠w.heap.size+1:=af;have ayf:g≠w.heap.size+1+1:=af;clear Ds Dt hg;have c0:=ah.val hc1 0 _ rfl;have c1:=ah.val hc1 1 _ rfl;have c2:=ah.val hc1 2 _ rfl;have c3:=ah.val hc1 3 _ rfl;have z0:=ah.val hz1 0 _ rfl;have z1:=ah.val hz1 1 _ rfl;have z2:=ah.val hz1 2 _ rfl;have z3:=ah.val hz1 3 _ rfl;have q0:=ah.val hq1 0 _ rfl;have q1:=ah.val hq1 1 _ rfl;have y0:=ah.free hz1 0;have y1:=ah.free hz1 1;have y2:=ah.free hz1 2;have y3:=ah.free hz1 3;have x0:=ah.free hq1 0;have x1:=ah.free hq1 1;have l0:=ah.lt hc1;have l1:=ah.lt hz1;have l2:=ah.lt hq1;have H6:=ag (abz hz1 hq1 af (.string ⟨(ax d r).toArray⟩) (.bool c.back) (.bool true) (.bool c.done) (.string ⟨(ax d r).toArray⟩) (.string ⟨r.toArray⟩));have AX:=ag bU
 clear bU hc1 hz1 hq1;go_region;all_goals
  go_wp2_with fail;exact bY (LW Tryz.results13 _ _ _ _ _ _ _ _ _ _ rfl ((Ext.drew _).blk _ _ H6.out.1) nS rfl kE rfl ((Ext.drew _).blk _ _ H6.out.2.1) lW rfl fE) rfl ⟨(H6.out.2.2 w AX.out af af).trans (Ext.drew _),by rw[HN.out];rfl⟩):P:=h
namespace Go.Proofs.YteninnkbmoimgaaGreatDoor
open Go.RowKit aD
theorem ank (l:List UInt8) (i x:Nat) (b:x<256):(aao l).setIfInBounds i (.int .u8 (x:Int))=aao (l.set i (UInt8.ofNat x)):=by
 unfold aao;apply Array.ext';simp[List.map_set,rD b]
structure Page (W:World) (px bb n l r:Nat) (bytes:List UInt8):Prop where
 box:ah W px (.cells #[.slice (some ⟨bb,0,none⟩) n n,.int .i64 (l:Nat),.int .i64 (r:Nat)] 252)
 row:ah W bb (.cells (aao bytes) 5)
 len:bytes.length=n
 ne:px≠bb
structure Only (px bb:Nat) (W W':World):Prop where
 os:W'.os=W.os
 tape:W'.tape=W.tape
 output:W'.output=W.output
 size:W.heap.size<=W'.heap.size
 block:∀k,k<W.heap.size->k≠px->k≠bb->W'.heap[k]? =W.heap[k]?
theorem Only.refl (d b:Nat) (W:World):Only d b W W:=⟨rfl,rfl,rfl,aH _,fun _ _ _ _=>rfl⟩
theorem Only.trans {e d:Nat} {a b c:World} (h:Only e d a b) (k:Only e d b c):Only e d a c:=
 ⟨k.os.trans h.os,k.tape.trans h.tape,k.output.trans h.output,fN h.size k.size,fun i j f g=>(k.block i (fM j h.size) f g).trans (h.block i j f g)⟩
theorem Only.drewN {e d:Nat} {a b:World} (h:Only e d a b) (n:Nat):Only e d a (b.drewN n):=⟨h.os,h.tape,h.output,h.size,h.block⟩
theorem Only.drew {e d:Nat} {a b:World} (h:Only e d a b):Only e d a b.drew:=⟨h.os,h.tape,h.output,h.size,h.block⟩
theorem Only.lP {f d:Nat} {a b:World} (h:Ext a b):Only f d a b:=⟨h.os,h.tape,h.output,h.size,fun k e _ _=>Ext.block h k e⟩
theorem Only.set {e d:Nat} {a b:World} (h:Only e d a b) (x:Addr) (v:Value) (f:x.block=e∨x.block=d):Only e d a (b.setCell x v):=
 h.trans ⟨rfl,rfl,rfl,av,fun k j g i=>yu _ _ _ _ (by rcases f with h | h<;>omega)⟩
theorem Only.ext {f d:Nat} {w a b:World} (h:Only f d a b) (e:Ext w a) (i:w.heap.size<=f) (j:w.heap.size<=d):Ext w b:=
 e.trans' ⟨h.os,h.tape,h.output,h.size,fun k g=>h.block k (fM g e.size) af af⟩
section
variable {W:World} {px bb n l r:Nat} {bytes:List UInt8}
theorem Page.drewN (h:Page W px bb n l r bytes) (k:Nat):Page (W.drewN k) px bb n l r bytes:=⟨h.box,h.row,h.len,h.ne⟩
theorem Page.ext (h:Page W px bb n l r bytes) {b:World} (e:Ext W b):Page b px bb n l r bytes:=⟨e.blk _ _ h.box,e.blk _ _ h.row,h.len,h.ne⟩
theorem Page.drew (h:Page W px bb n l r bytes):Page W.drew px bb n l r bytes:=⟨h.box,h.row,h.len,h.ne⟩
theorem Page.cells (h:Page W px bb n l r bytes):W.cell? ⟨px,0,none⟩=some (.slice (some ⟨bb,0,none⟩) n n)/\W.cell? ⟨px,1,none⟩=some (.int .i64 (l:Nat))/\W.cell? ⟨px,2,none⟩=some (.int .i64 (r:Nat)):=by
 have b:W.heap[px]? =_:=h.box;simp[World.cell?,b]
theorem Page.byte (h:Page W px bb n l r bytes) (i:Nat) (e:i<n):W.cell? ⟨bb,i,none⟩=some (.int .u8 (aL bytes i:Nat)):=by
 have d:W.heap[bb]? =_:=h.row;have:=h.len;have b:i<bytes.length:=af;simp[World.cell?,d,aao,b,aL,List.getD]
theorem Page.soft (h:Page W px bb n l r bytes) (i:Nat):W.frozen? ⟨bb,i,none⟩=false/\W.frozen? ⟨px,i,none⟩=false:=by
 have b:W.heap[bb]? =_:=h.row;have d:W.heap[px]? =_:=h.box;simp[World.frozen?,b,d]
theorem Page.Sd (h:Page W px bb n l r bytes) (i x:Nat) (b:x<256):Page (W.setCell ⟨bb,i,none⟩ (.int .u8 (x:Int))) px bb n l r (bytes.set i (UInt8.ofNat x)):=by
 refine⟨?_,?_,by simp[h.len],h.ne⟩
 ·have:=yu W ⟨bb,i,none⟩ px (.int .u8 (x:Int)) h.ne;exact this.trans h.box
 ·have:=Fj W bb i _ _ (.int .u8 (x:Int)) h.row;unfold ah;rw[this,ank _ _ _ b]
theorem Page.anl (h:Page W px bb n l r bytes) (k:Nat):Page (W.setCell ⟨px,1,none⟩ (.int .i64 (k:Int))) px bb n k r bytes:=by
 refine⟨?_,?_,h.len,h.ne⟩
 ·have:=Fj W px 1 _ _ (.int .i64 (k:Int)) h.box;unfold ah;rw[this];rfl
 ·have:=yu W ⟨px,1,none⟩ bb (.int .i64 (k:Int)) (sL h.ne);exact this.trans h.row
theorem Page.anm (h:Page W px bb n l r bytes) (k:Nat):Page (W.setCell ⟨px,2,none⟩ (.int .i64 (k:Int))) px bb n l k bytes:=by
 refine⟨?_,?_,h.len,h.ne⟩
 ·have:=Fj W px 2 _ _ (.int .i64 (k:Int)) h.box;unfold ah;rw[this];rfl
 ·have:=yu W ⟨px,2,none⟩ bb (.int .i64 (k:Int)) (sL h.ne);exact this.trans h.row
end
theorem ann (px bb n l r:Nat) (bytes:List UInt8) (a x:Nat) (i:a+1<n) (y:n<=512) (z:x<=65535) (W:World) (h:Page W px bb n l r bytes):
 Calls Tryz.prog 193 #[.pointer (some ⟨px,0,none⟩),.int .i64 a,.int .i64 x] W fun e d=>e=.returned (.tuple #[])/\Page d px bb n l r ((bytes.set a (UInt8.ofNat x)).set (a+1) (UInt8.ofNat (x/256)))/\Only px bb W d:=by
 obtain⟨m,_,_⟩:=h.cells;have o:=h.byte a af;have q:=h.byte (a+1) i;have t:=(h.soft a).1;have u:=(h.soft (a+1)).1;have g:=ag h;clear h;have j:(a:Int)<n:=af;have f:(a:Int)+1<n:=af;go_enter Tryz.func193,Tryz.ntmps193;go_wp2;go_region;go_wp2;go_end0;have b:=(g.out.Sd a (x%256) af).Sd (a+1) (x/256) af;rw[ofNat_mod] at b;simp only[Int.natCast_emod,Int.natCast_ediv,Int.cast_ofNat_Int] at b;exact⟨rfl,b.drew,(((Only.refl px bb W).set _ _ (.inr rfl)).set _ _ (.inr rfl)).drew⟩
theorem Sg (px bb n l r:Nat) (bytes:List UInt8) (a x:Int) (f:0<=a) (i:a+1<n) (g:n<=512) (b:0<=x) (j:x<=65535) (W:World) (h:Page W px bb n l r bytes):
 Calls Tryz.prog 193 #[.pointer (some ⟨px,0,none⟩),.int .i64 a,.int .i64 x] W fun e d=>e=.returned (.tuple #[])/\Page d px bb n l r ((bytes.set a.toNat (UInt8.ofNat x.toNat)).set (a.toNat+1) (UInt8.ofNat (x.toNat/256)))/\Only px bb W d:=by
 obtain⟨a,rfl⟩:=pN f;obtain⟨x,rfl⟩:=pN b;rw[jU,jU];exact ann px bb n l r bytes a x af g af W h
def RY (bytes:List UInt8) (a c x:Nat):List UInt8:=((bytes.set a (UInt8.ofNat c)).set (a+1) (UInt8.ofNat x)).set (a+2) (UInt8.ofNat (x/256))
theorem R3 (px bb n l r:Nat) (bytes:List UInt8) (c x:Nat) (J:3<=l) (q:l<=n) (t:n<=512) (m:c<256) (K:x<=65535) (W:World) (h:Page W px bb n l r bytes):
 Calls Tryz.prog 180 #[.pointer (some ⟨px,0,none⟩),.int .u8 c,.int .i64 x] W fun e d=>e=.returned (.tuple #[])/\Page d px bb n (l-3) r (RY bytes (l-3) c x)/\Only px bb W d:=by
 obtain⟨l,rfl⟩:∃k,l=k+3:=⟨l-3,af⟩;rw[C6];obtain⟨C,D,E⟩:=h.cells;have F:=h.byte l af;have H:=(h.soft l).1;have I:=(h.soft 1).2;have u:=h.ne;have f:=sL h.ne;have o:(l:Int)<n:=af;have G:((l+3:Nat):Int)-3=l:=af;have i:=(h.anl l).Sd l c m;have b:=ag i;have z:=ag h.len;clear i h;go_enter Tryz.func180,Tryz.ntmps180;go_wp2;go_region;go_wp2_with(go_at_call 193;go_must(refine(Sg px bb n l r _ _ _ af af t af af _ b.out.drew).mono ?_;rintro e B ⟨rfl,g,y⟩));go_end0;refine⟨rfl,?_,((((Only.refl px bb W).set _ _ (.inl rfl)).set _ _ (.inr rfl)).drew).trans y⟩;have j:((l:Int)+1).toNat=l+1:=af;rw[j,jU] at g;exact g
def AY (W:World) (g:Nat) (b:Array Value):World:=W.setRow g b
@[go_sem] theorem ayg (W:World) (g p i:Nat) (b:Array Value) (h:p≠g):(AY W g b).cell? ⟨p,i,none⟩=W.cell? ⟨p,i,none⟩:=World.cell?_of_block (Fw W g p b h)
@[go_sem] theorem ayh (W:World) (g p i:Nat) (b:Array Value) (h:p≠g):(AY W g b).frozen? ⟨p,i,none⟩=W.frozen? ⟨p,i,none⟩:=World.frozen?_of_block (Fw W g p b h)
theorem ano {W:World} {px bb n l r:Nat} {bytes new:List UInt8} (h:Page W px bb n l r bytes) (b:new.length=n):Page (AY W bb (aao new)) px bb n l r new:=
 ⟨(Fw W bb px _ h.ne).trans h.box,setRow_heap W bb _ _ _ _ h.row,b,h.ne⟩
theorem anp (px bb:Nat) (W:World) (b:Array Value):Only px bb W (AY W bb b):=⟨rfl,rfl,rfl,by simp[AY,World.setRow],fun k _ _ d=>Fw W bb k b d⟩
def uq (bytes:List UInt8) (r:Nat) (s:List UInt8):List UInt8:=bytes.take r++s++bytes.drop (r+s.length)
theorem anq (bytes:List UInt8) (r:Nat) (s:List UInt8) (h:r+s.length<=bytes.length):(uq bytes r s).length=bytes.length:=by simp[uq];omega
theorem am7 (px bb n l r:Nat) (bytes s:List UInt8) (I:r+s.length<=n) (B:r<n) (H:n<=512) (W:World) (h:Page W px bb n l r bytes):
 Calls Tryz.prog 181 #[.pointer (some ⟨px,0,none⟩),.string ⟨s.toArray⟩] W fun e b=>e=.returned (.tuple #[])/\Page b px bb n l (r+s.length) (uq bytes r s)/\Only px bb W b:=by
 obtain⟨C,D,E⟩:=h.cells;have G:=(h.soft 2).2;have y:=h.ne;have j:=sL h.ne;have i:=h.row;have d:(Tryz.prog.info? 5).map (·.size)=some 1:=aj;have g:∀b:World,ah b bb (.cells (aao bytes) 5)->(Builtin.copy_ #[47,9] 3 #[.slice (some ⟨bb,r,none⟩) (n-r) (n-r),.string ⟨s.toArray⟩]).run Tryz.prog b=.ok (goInt s.length) (AY b bb (aao (uq bytes r s))):=fun b f=>by
  have:=Lib.run_copy_row_string (P:=Tryz.prog) b 47 9 3 5 bb r (n-r) (n-r) ⟨s.toArray⟩ (aao bytes) 5 Tryz.underlying47 d f (by simp[ByteArray.size];omega) (by have:=h.len;simp[ByteArray.size,aao];omega);rw[this];have e:(aao bytes).toList.take r++Lib.byteCells s++(aao bytes).toList.drop (r+s.length)=(aao (uq bytes r s)).toList:=by
   simp[aao,uq,Lib.byteCells,Ao,CL]
  have u:(ByteArray.mk s.toArray).size=s.length:=ES;simp only[u];rw[e];rfl
 have q:Hid (∀b:World,Page b px bb n l r bytes->Page (AY b bb (aao (uq bytes r s))) px bb n l r (uq bytes r s)):=ag fun b h'=>ano h' ((anq bytes r s (by have:=h'.len;omega)).trans h'.len);have t:=ag h;have z:(r:Int)<n:=af;have m:(r:Int)<=n:=af;generalize aao (uq bytes r s)=F at *;clear h d;go_enter Tryz.func181,Tryz.ntmps181;go_wp2;go_region;go_wp2;go_end0;have o:=(q.out W.drew t.out.drew).anm (r+s.length);simp only[Int.natCast_add] at o;exact⟨rfl,o,(((Only.refl px bb W).drew).trans (anp px bb _ _)).set _ _ (.inl rfl)⟩
def Md (bytes:List UInt8) (n r g:Nat):List UInt8:=
 (((bytes.set (n-4) (UInt8.ofNat r)).set (n-4+1) (UInt8.ofNat (r/256))).set (n-2) (UInt8.ofNat g)).set (n-2+1) (UInt8.ofNat (g/256))
theorem am9 (px bb n l r:Nat) (bytes:List UInt8) (hr:r<=l) (hl:l<=n) (h4:4<=n) (F:n<=512) (W:World) (h:Page W px bb n l r bytes):
 Calls Tryz.prog 182 #[.pointer (some ⟨px,0,none⟩)] W fun e I=>e=.returned (.string ⟨(Md bytes n r (l-r)).toArray⟩)/\Only px bb W I:=by
 obtain⟨g,rfl⟩:∃g,l=r+g:=⟨l-r,af⟩;rw[Mg];obtain⟨L,M,N⟩:=h.cells;have D:=ag h;clear h;have T:((r+g:Nat):Int)-r=g:=af;have X:IntKind.i64.wrap ((n:Int)-4)=n-4:=IntWalk.i64_in _ af;have Y:IntKind.i64.wrap ((n:Int)-2)=n-2:=IntWalk.i64_in _ af;have Z:IntKind.i64.wrap ((r:Int)+g-r)=g:=pJ;have C:=D.out.box.lt;go_enter Tryz.func182,Tryz.ntmps182;go_wp2;refine eR 11 (Ext.refl W) aj aj aj ?_;simp only[cY,eF,gj,dV,dP,gC,dh,dQ];repeat (first
  | (refine pI ?_)
  | (refine fR ?_)
  | (refine iq ?_)
  | (refine fk ?_))
 intro w2 d;repeat (first | with_reducible refine cH _ _ _ _ ?_ | (with_reducible refine cI _ _ _ _ ?_;intro _ _) | with_reducible refine cJ _ _ ?_)
 simp only[cF,cK,bQ,bE];go_wp2_with(go_at_call 193;go_must(refine(Sg px bb n (r+g) r _ _ _ af af F af af _ (D.out.ext d)).mono ?_;rintro e J ⟨rfl,i,u⟩));have m:=(Only.lP d).trans u;have U:((n:Int)-4).toNat=n-4:=af;rw[U,jU] at i;obtain⟨O,R,S⟩:=i.cells;have j:=ag i;have G:=j.out.box.lt;have w4:((r:Int)+g-r)=g:=af;have H:=ag m;clear i L M N T X d u m C;refine eR 16 (Ext.refl J) aj aj aj ?_;simp only[cY,eF,gj,dV,dP,gC,dh,dQ];repeat (first
  | (refine pI ?_)
  | (refine fR ?_)
  | (refine iq ?_)
  | (refine fk ?_))
 intro w2 d;repeat (first | with_reducible refine cH _ _ _ _ ?_ | (with_reducible refine cI _ _ _ _ ?_;intro _ _) | with_reducible refine cJ _ _ ?_)
 simp only[cF,cK,bQ,bE];go_wp2_with fail;refine(Sg px bb n (r+g) r _ _ _ af af F af af _ (j.out.ext d)).mono ?_;rintro e B ⟨rfl,f,y⟩;have E:((n:Int)-2).toNat=n-2:=af;rw[E,jU] at f;obtain⟨g0,g1,g2⟩:=f.cells;have q:=f.row;have t:=f.len;have V:(convert 47 9 (.slice (some ⟨bb,0,none⟩) n n)).run Tryz.prog B=.ok (.string ⟨(Md bytes n r g).toArray⟩) B:=
  P9 B _ _ 5 bb n n _ 5 (0,0) Tryz.underlying47 Tryz.underlying5 Tryz.underlying9 q t
 have z:=ag ((H.out.trans (Only.lP d)).trans y);clear f O R S q t E Y Z w4 y d;go_wp2;go_ret;exact⟨rfl,z.out⟩
def yV (b:List (List UInt8)):List Value:=b.map fun s=>.string ⟨s.toArray⟩
theorem anr (b:List (List UInt8)) (s:List UInt8):yV (b++[s])=yV b++[.string ⟨s.toArray⟩]:=by simp[yV]
structure vh (S bo ba q n:Nat) (d:List UInt8) (a:Nat) (v:Value) (out:List (List UInt8)) (W:World):Prop where
 size:ah W S (.cells #[.int .i64 n] 3)
 data:ah W (S+1) (.cells #[.string ⟨d.toArray⟩] 9)
 var:ah W bo (.cells #[v] 31)
 loc:ah W ba (.cells #[.int .i64 a] 3)
 row:W.ownsRow q 9 1 v out.length (yV out)
 qS:S+1<q
 oS:S+1<bo
 aS:S+1<ba
 ne:bo≠ba
 qs:q<=W.heap.size
 flat:out.flatten=d.take a
 len:out.flatten.length=a
 le:a<=n
 pos:out.length<=a
 small:∀s∈out,s.length<=1000000
theorem vh.ext {S i g q n:Nat} {d:List UInt8} {a:Nat} {v:Value} {b:List (List UInt8)} {W f:World} (h:vh S i g q n d a v b W) (e:Ext W f):vh S i g q n d a v b f:=
 {h with size:=e.blk _ _ h.size,data:=e.blk _ _ h.data,var:=e.blk _ _ h.var,loc:=e.blk _ _ h.loc,row:=aO h.row e,qs:=fN h.qs e.size}
theorem ant {S g j q n:Nat} {d:List UInt8} {a:Nat} {v o:Value} {m:List (List UInt8)} {W t:World} (h:vh S g j q n d a v m W) (b:Nat) (Q:1<=b) (M:a+b<=n) (T:d.length=n) (R:n<=512)
 (f:t.ownsRow q 9 1 o (m.length+1) (yV m++[.string ⟨((d.drop a).take b).toArray⟩])) (i:W.grownBy t v.ownBlock):
 vh S g j q n d (a+b) o (m++[(d.drop a).take b]) ((t.setCell ⟨g,0,none⟩ o).setCell ⟨j,0,none⟩ (.int .i64 ((a+b:Nat):Int)))/\
 Below (S+1) W ((t.setCell ⟨g,0,none⟩ o).setCell ⟨j,0,none⟩ (.int .i64 ((a+b:Nat):Int)))/\ah t g (.cells #[v] 31)/\ah t j (.cells #[.int .i64 (a:Nat)] 3):=by
 have D:v.ownBlock≠some g:=Lib.ownBlock_ne h.row h.var aq;have E:v.ownBlock≠some j:=Lib.ownBlock_ne h.row h.loc aq;have lt:=h.row.lt;have F:v.ownBlock≠some S:=fun e=>by have:=(lt _ e).1;have:=h.qS;omega
 have G:v.ownBlock≠some (S+1):=fun e=>by have:=(lt _ e).1;have:=h.qS;omega
 have z:=ah.grown h.var i D;have B:=ah.grown h.loc i E;have N:=ah.grown h.size i F;have O:=ah.grown h.data i G;have H:o.ownBlock≠some g:=Lib.ownBlock_ne f z aq;have I:o.ownBlock≠some j:=Lib.ownBlock_ne f B aq;have K:=h.oS;have J:=h.aS;have C:((d.drop a).take b).length=b:=aY;refine⟨⟨?_,?_,?_,?_,?_,h.qS,h.oS,h.aS,h.ne,?_,?_,?_,M,?_,?_⟩,?_,z,?_⟩
 ·exact ah.other (ah.other N _ _ af) _ _ af
 ·exact ah.other (ah.other O _ _ af) _ _ af
 ·exact ah.other (ah.put z) _ _ h.ne
 ·exact ah.put (ah.other B _ _ (sL h.ne))
 ·rw[anr];have:=ownsRow_setCell_other (ownsRow_setCell_other (a:=⟨g,0,none⟩) f H o) (a:=⟨j,0,none⟩) I (.int .i64 ((a+b:Nat):Int));simpa using this
 ·have:=i.size;have:=h.qs;simp;omega
 ·rw[Al,h.flat];simp[List.take_add]
 ·rw[Al,ew,h.len];simp;omega
 ·have:=h.pos;simp;omega
 ·intro s u;rw[iG] at u;rcases u with u | u
  ·exact h.small s u
  ·simp at u;subst u;omega
 ·refine⟨i.os,i.tape,i.output,by have:=i.size;simpa using this,fun k U=>?_⟩;have L:=yu (t.setCell ⟨g,0,none⟩ o) ⟨j,0,none⟩ k (.int .i64 ((a+b:Nat):Int)) aY;have y:=yu t ⟨g,0,none⟩ k o aY;rw[L,y];refine i.block k (by have:=ah.lt h.data;omega) (fun e=>?_);have:=(lt k e.symm).1;have:=h.qS;omega
 ·exact B
def anu (S m j q n:Nat) (d:List UInt8) (a:Nat) (g:List (List UInt8)) (k b:Nat) (W:World) (e:Ending) (i:World):Prop:=
 Below (S+1) W i/\((e=.returned (.bool true)/\∃o f,vh S m j q n d (a+k*b) o f i/\f.map List.length=g.map List.length++List.replicate k b)∨
  (e=.returned (.bool false)/\(1<=k->1<=b->a+k*b<=n->False)))
theorem abA (S V U q n:Nat) (d:List UInt8) (hd:d.length=n) (h5:n<=512) (a:Nat) (v:Value) (out:List (List UInt8)) (k e:Nat) (hk:k<=65535) (hl:e<=65535) (W:World) (h:vh S V U q n d a v out W):
 Calls Tryz.prog 157 #[.int .i64 k,.int .i64 e,.pointer (some ⟨U,0,none⟩),.pointer (some ⟨S,0,none⟩),.pointer (some ⟨V,0,none⟩),.pointer (some ⟨S+1,0,none⟩)] W (anu S V U q n d a out k e W):=by
 have Hd:=ag hd;have HH:=ag h;clear hd h;go_enter Tryz.func157,Tryz.ntmps157;go_wp2;go_loopw[10] (fun i wr=>∃(j:Nat) (v':Value) (g:List (List UInt8)),j<=k/\i=.int .i64 j/\vh S V U q n d (a+j*e) v' g wr/\g.map List.length=out.map List.length++List.replicate j e/\Below (S+1) W wr) (fun i _=>k-(intOf i).toNat)
 case atStart=>exact⟨0,v,out,bL _,rfl,by simpa using HH.out,av,Below.refl _ _⟩
 case round=>
  obtain⟨j,v',g,hj,rfl,f,R,y⟩:=hrel;have c1:=ah.cell f.size;have c2:=ah.cell f.data;have c3:=ah.cell f.var;have c4:=ah.cell f.loc;have l1:=ah.lt f.size;have l2:=ah.lt f.data;have l3:=ah.lt f.var;have l4:=ah.lt f.loc;have hle:=f.le;have E:Hid (a+j*e+e=a+(j+1)*e):=ag (by rw[Nat.add_mul];omega);have z:j<k->a+(j+1)*e<=a+k*e:=fun h=>Nat.add_le_add_left (AE _ h) _;have HM:=ag z;clear z;generalize hb:a+j*e=b at *;have Hb:=ag hb;clear hb;have J:=ag f;have I:=ag R;clear f R;by_cases hjk:j<k
  ·by_cases h1:e<1
   ·go_wp2;go_ret;exact⟨y,.inr ⟨rfl,fun _ h _=>af⟩⟩
   ·by_cases h2:n<b+e
    ·have RC:(n:Int)<b+e:=af;have Z:decide ((e:Int)<1)=false:=aY;go_wp2;go_ret;exact⟨y,.inr ⟨rfl,fun _ _ h=>by have:=E.out;have:=HM.out hjk;omega⟩⟩
    ·have RC:decide ((n:Int)<b+e)=false:=aY;have Z:decide ((e:Int)<1)=false:=aY;have CQ:b+e<=d.length:=Cx;have ayi:(b:Int)+e<=d.length:=af;have ayj:d.length<=1000:=Cx;have hs1:(0:Int)<=b+e:=af;have vk:(b:Int)<=b+e:=af;have hs3:((b:Int)+e).toNat-b=e:=af;go_wp2;refine eR 8 (Ext.refl wr) aj aj aj ?_;refine gV ?_;repeat (first
      | (refine pI ?_)
      | (refine fR ?_)
      | (refine iq ?_)
      | (refine jh (dx 1 1 (.cells #[.string ⟨((d.drop b).take e).toArray⟩] 9)) (dx.ay _ _ _) rfl ?_ ?_
         ·exact wg
         refine aE ?_)
      | (refine fk ?_))
     intro w2 N;repeat (first | with_reducible refine cH _ _ _ _ ?_ | (with_reducible refine cI _ _ _ _ ?_;intro _ _) | with_reducible refine cJ _ _ ?_)
     simp only[cF,cK,bQ,bE];clear hs1 vk hs3;rename_i sl hfr;obtain⟨fb,rfl,M⟩:=hfr;have m:=J.out.ext N;have hol:g.length<=1000:=by have:=m.pos;omega
     have F:=ag m;have T:=m.row;have hqs:=m.qs;clear m;go_wp2_with(first | (at_builtin;go_must(refine nW rfl (.tmp 21) (.tmp 28) 31 9 rfl q (.string ByteArray.empty) 1 16 Tryz.underlying31 ajO rfl aq _ _ _ rfl T _ [.string _] rfl M rfl nk af aq hqs ?_;intro v2 w1 t C;obtain⟨n2,X,B,rfl⟩:∃n2 X B,v2=.slice X n2 B:=(by obtain⟨X,B,hv2,_⟩:=CK t;exact⟨_,X,B,hv2⟩);obtain⟨D,H,G,L⟩:=ant F.out e af af Hd.out h5 t C;have f1:=ah.cell G;have f2:=ah.soft G;have f3:=ah.cell L;have f4:=ah.soft L;have f5:=ah.lt G;have f6:=F.out.ne;have f7:=sL F.out.ne;have Y:=ag D;clear D t C)));rw[<-Int.natCast_add];go_roundw
     case rel=>exact⟨j+1,_,g++[(d.drop b).take e],af,bX,by rw[<-E.out];exact Y.out,by rw[jW,I.out,List.replicate_succ'];simp;omega,y.trans ((Below.mono N af).trans H)⟩
     case measure=>exact ct
  ·have FA:decide ((j:Int)<k)=false:=aY;have O:j=k:=af;subst O;go_wp2;go_ret;exact⟨y,.inl ⟨rfl,v',g,by rw[Hb.out];exact J.out,I.out⟩⟩
end Go.Proofs.YteninnkbmoimgaaGreatDoor
namespace Go.Proofs.YteninnkbmoimgaaGreatDoor
open Go.ChangeShapes Go.WideShapes Go.RowKit aD
end Go.Proofs.YteninnkbmoimgaaGreatDoor
namespace Go.Proofs.YteninnkbmoimgaaGreatDoor
open Go.ChangeShapes Go.WideShapes Go.Deep Go.RowKit aD
theorem anx:(Tryz.prog.fieldsOf 23).toList.map (fun f=>(f.offset,Tryz.prog.cellsOf f.type,Tryz.prog.underlying f.type))=[(0,1,some (.int .i64)),(1,1,some (.int .i64)),(2,1,some (.int .i64)),(3,1,some (.int .i64)),(4,1,some (.int .i64)),(5,1,some (.int .i64)),(6,1,some (.int .i64)),(7,1,some (.int .i64)),(8,1,some (.int .i64)),(9,1,some (.int .i64)),(10,1,some (.int .i64)),(11,1,some (.int .i64)),(12,1,some (.int .i64)),(13,1,some (.int .i64)),(14,1,some .bool),(15,1,some (.int .i64)),(16,1,some .string),(17,1,some .string),(18,1,some (.int .i64)),(19,1,some (.int .i64)),(20,1,some .bool)]:=aj
theorem abB {H:Type} {enc:TypeId×Value->H} {w:World} {r:Reach} {b0 base:Nat} {f:Nat->Bool} {O:Bool} {v:Value} {d:DataW H} {ps:List MemPlace}
 (hv:Value.okWide Tryz.prog w r b0 23 v) (h:DataW.Trod enc Tryz.prog w base f O 23 v d ps):∃x:DS,v=.agg (az x):=by
 have Q:=anx;obtain⟨cs,rfl,e⟩:=okWide_struct gr hv;obtain⟨fuel,hf⟩:=h;obtain⟨xs,n,_,_,_,R,b⟩:=DataW.trod_struct gr hf;have hC:Tryz.prog.cellsOf 23=21:=aj;have hF:(Tryz.prog.fieldsOf 23).size=21:=aj;rw[hC] at e;rw[hF] at R;generalize Tryz.prog.fieldsOf 23=fs at *;obtain⟨fl⟩:=fs;obtain⟨l⟩:=cs;simp only[CD] at e hF
 match l,e,fl,hF with
 | [c0,c1,c2,c3,c4,c5,c6,c7,c8,c9,c10,c11,c12,c13,c14,c15,c16,c17,c18,c19,c20],_,[f0,f1,f2,f3,f4,f5,f6,f7,f8,f9,f10,f11,f12,f13,f14,f15,f16,f17,f18,f19,f20],_=>
   simp only[dh,dQ,mR,jZ,kD] at Q;obtain⟨⟨o0,k0,u0⟩,⟨o1,k1,u1⟩,⟨o2,k2,u2⟩,⟨o3,k3,u3⟩,⟨o4,k4,u4⟩,⟨o5,k5,u5⟩,⟨o6,k6,u6⟩,⟨o7,k7,u7⟩,⟨o8,k8,u8⟩,⟨o9,k9,u9⟩,⟨o10,k10,u10⟩,⟨o11,k11,u11⟩,⟨o12,k12,u12⟩,⟨o13,k13,u13⟩,⟨o14,k14,u14⟩,⟨o15,k15,u15⟩,⟨o16,k16,u16⟩,⟨o17,k17,u17⟩,⟨o18,k18,u18⟩,⟨o19,k19,u19⟩,o20,k20,u20⟩:=Q;have h0:=b 0 f0 rfl;rw[o0,k0,iB af] at h0;obtain⟨a0,e0,_⟩:=DataW.trod_int u0 h0;have h1:=b 1 f1 rfl;rw[o1,k1,iB af] at h1;obtain⟨a1,e1,_⟩:=DataW.trod_int u1 h1;have h2:=b 2 f2 rfl;rw[o2,k2,iB af] at h2;obtain⟨a2,e2,_⟩:=DataW.trod_int u2 h2;have h3:=b 3 f3 rfl;rw[o3,k3,iB af] at h3;obtain⟨a3,e3,_⟩:=DataW.trod_int u3 h3;have h4:=b 4 f4 rfl;rw[o4,k4,iB af] at h4;obtain⟨a4,e4,_⟩:=DataW.trod_int u4 h4;have h5:=b 5 f5 rfl;rw[o5,k5,iB af] at h5;obtain⟨a5,e5,_⟩:=DataW.trod_int u5 h5;have h6:=b 6 f6 rfl;rw[o6,k6,iB af] at h6;obtain⟨a6,e6,_⟩:=DataW.trod_int u6 h6;have h7:=b 7 f7 rfl;rw[o7,k7,iB af] at h7;obtain⟨a7,e7,_⟩:=DataW.trod_int u7 h7;have h8:=b 8 f8 rfl;rw[o8,k8,iB af] at h8;obtain⟨a8,e8,_⟩:=DataW.trod_int u8 h8;have h9:=b 9 f9 rfl;rw[o9,k9,iB af] at h9;obtain⟨a9,e9,_⟩:=DataW.trod_int u9 h9;have C:=b 10 f10 rfl
   rw[o10,k10,iB af] at C;obtain⟨S,g,_⟩:=DataW.trod_int u10 C;have D:=b 11 f11 rfl;rw[o11,k11,iB af] at D;obtain⟨T,i,_⟩:=DataW.trod_int u11 D;have E:=b 12 f12 rfl;rw[o12,k12,iB af] at E;obtain⟨U,j,_⟩:=DataW.trod_int u12 E;have F:=b 13 f13 rfl;rw[o13,k13,iB af] at F;obtain⟨V,m,_⟩:=DataW.trod_int u13 F;have G:=b 14 f14 rfl;rw[o14,k14,iB af] at G;obtain⟨X,o,_⟩:=DataW.trod_bool u14 G;have I:=b 15 f15 rfl;rw[o15,k15,iB af] at I;obtain⟨Y,q,_⟩:=DataW.trod_int u15 I;have J:=b 16 f16 rfl;rw[o16,k16,iB af] at J;obtain⟨Z,t,_,_⟩:=DataW.trod_string u16 J;have K:=b 17 f17 rfl;rw[o17,k17,iB af] at K;obtain⟨a17,u,_,_⟩:=DataW.trod_string u17 K;have L:=b 18 f18 rfl;rw[o18,k18,iB af] at L;obtain⟨a18,y,_⟩:=DataW.trod_int u18 L;have M:=b 19 f19 rfl;rw[o19,k19,iB af] at M;obtain⟨a19,z,_⟩:=DataW.trod_int u19 M;have N:=b 20 f20 rfl;rw[o20,k20,iB af] at N;obtain⟨a20,B,_⟩:=DataW.trod_bool u20 N;simp only[Value.cells,dV,dP,cY,eF,mR,kD] at e0 e1 e2 e3 e4 e5 e6 e7 e8 e9 g i j m o q t u y z B
   subst e0 e1 e2 e3 e4 e5 e6 e7 e8 e9 g i j m o q t u y z B;exact⟨⟨a0,a1,a2,a3,a4,a5,a6,a7,a8,a9,S,T,U,V,X,Y,Z.data.toList,a17.data.toList,a18,a19,a20⟩,rfl⟩
end Go.Proofs.YteninnkbmoimgaaGreatDoor
namespace Go.Proofs.YteninnkbmoimgaaGreatDoor
open Go.RowKit aD
def rW (w:World) (g z:Nat) (L:List Wr):Prop:=∃b:Array Value,ah w g (.cells b 133)/\b.size=z/\b.toList.take (L.length*2)=ck L
theorem rW.ext {w w':World} {g z:Nat} {L:List Wr} (h:rW w g z L) (e:Ext w w'):rW w' g z L:=by obtain⟨c,b,d⟩:=h;exact⟨c,e.blk _ _ b,d⟩
theorem rW.at {w:World} {g z:Nat} {L:List Wr} (h:rW w g z L) (i:Nat) (f:i<L.length):
 w.cell? ⟨g,i*2,none⟩=some (.int .i64 (eM L i).1)/\w.cell? ⟨g,i*2+1,none⟩=some (.string ⟨(eM L i).2.toArray⟩)/\g<w.heap.size:=by
 obtain⟨d,b,_,e⟩:=h;obtain⟨h1,h2⟩:=L9 L i f;rw[<-e,qF,aC af] at h1 h2;exact⟨ah.val b _ _ jP,ah.val b _ _ ru,ah.lt b⟩
theorem rW.free {w:World} {g z:Nat} {L:List Wr} (h:rW w g z L) (i:Nat):w.frozen? ⟨g,i,none⟩=false:=by obtain⟨b,d,_⟩:=h;exact ah.free d i
theorem rW.set {w:World} {g z:Nat} {L:List Wr} (h:rW w g z L) (i:Nat) (f:i<L.length) (y:Wr):
 rW ((w.setCell ⟨g,i*2,none⟩ (.int .i64 y.1)).setCell ⟨g,i*2+1,none⟩ (.string ⟨y.2.toArray⟩)) g z (L.set i y):=by
 obtain⟨b,d,j,e⟩:=h;refine⟨_,ah.setCell (ah.setCell d),by simpa using j,?_⟩;rw[Du,Du,pE,Ae,Ae,e,abf _ _ _ f]
theorem Dv {a b c:World} {g:Nat} (h:a.grownBy b (some g)) (k:b.grownBy c (some g)) (f:g<a.heap.size):a.grownBy c (some g):=
 ⟨k.os.trans h.os,k.tape.trans h.tape,k.output.trans h.output,fN h.size k.size,fun i e d=>(k.block i (fM e h.size) d).trans (h.block i e d)⟩
theorem Mk {a b:World} (g:Nat) (h:Ext a b):a.grownBy b (some g):=⟨h.os,h.tape,h.output,h.size,fun i d _=>h.block i d⟩
theorem Sh {a b:World} {g:Nat} (h:aI g a b):a.grownBy b (some g):=⟨h.os,h.tape,h.output,by rw[h.size];exact aH _,fun i _ d=>h.block i (fun e=>d (by rw[e]))⟩
theorem anX (d:DS) (s:List UInt8) (u:Bool) (z:dA d=true) (w:World):Calls Tryz.prog 61 #[.agg (az d),.agg #[.string ⟨s.toArray⟩,.bool u]] w fun e w'=>e=.returned (.string ⟨(Dl d s).toArray⟩)/\Ext w w':=by
 have y:=ag (Gs d s z);obtain⟨C,G,K,L,M,N,O,Q,R⟩:=iM z;have T:=oB (qM C).2.2.1;have g:=ah.alloc (ah.new w (.cells (az d) 23)) (.cells #[.string ⟨s.toArray⟩,.bool u] 73);have i:=ah.new (w.alloc (.cells (az d) 23)) (.cells #[.string ⟨s.toArray⟩,.bool u] 73);clear C G;cases hr:cV d s
 ·rw[hr] at y;have HE:Hid (Dl d s=s):=ag (by unfold Dl;rw[hr];rfl);go_enter Tryz.func61,Tryz.ntmps61;go_upto_region 1 with(fail);refine aR (fun q=>Ext w q/\bI q w.heap.size d/\ah q (w.heap.size+1) (.cells #[.string ⟨s.toArray⟩,.bool u] 73)) ⟨(Ext.alloc _ _).trans (Ext.alloc _ _),g,by simpa using i⟩ ?_;clear g i;rintro q ⟨t,j,b⟩;have E:=ah.val b 0 _ rfl;have H:=ah.lt b;go_wp2_with(first | (refine bu rfl (.tmp 2) rfl _ rfl d j ?_) | (go_at_call 93;refine(y.out _).mono ?_;rintro e J ⟨rfl,f⟩;have F:=ah.val (f.blk _ _ b) 0 _ rfl;have I:=ah.lt (f.blk _ _ b)));go_ret;exact⟨vQ,t.trans f⟩
 ·rw[hr] at y;have D:=ag (vf d s z hr);have HE:Hid (Dl d s=ax d s):=ag (by unfold Dl;rw[hr];rfl);have S:=CY hr;have U:decide (d.dm<0)=false:=aM af;have V:decide (d.bV<0)=false:=aM af;have X:decide ((s.length:Int)<d.dm)=false:=aM af;have Y:decide ((s.length:Int)-d.dm<d.bV)=false:=aM af;have Z:IntKind.i64.wrap ((s.length:Int)-d.dm)=(s.length:Int)-d.dm:=IntWalk.i64_in _ af;go_enter Tryz.func61,Tryz.ntmps61;go_upto_region 1 with(fail);refine aR (fun q=>Ext w q/\bI q w.heap.size d/\ah q (w.heap.size+1) (.cells #[.string ⟨s.toArray⟩,.bool u] 73)) ⟨(Ext.alloc _ _).trans (Ext.alloc _ _),g,by simpa using i⟩ ?_;clear g i;rintro q ⟨t,j,b⟩;have E:=ah.val b 0 _ rfl;have H:=ah.lt b;go_wp2_with(first | (refine bu (o:=⟨some 5,_,_,_,_,_⟩) rfl (.tmp 2) rfl _ rfl d j ?_) | (go_at_call 93;refine(y.out _).mono ?_;rintro e J ⟨rfl,f⟩;have F:=ah.val (f.blk _ _ b) 0 _ rfl;have I:=ah.lt (f.blk _ _ b);have m:=j.ext f;have k5:=ah.val m 5 _ rfl;have k6:=ah.val m 6 _ rfl;have l2:=ah.lt m) | (refine bu (o:=⟨some 41,_,_,_,_,_⟩) rfl (.tmp 2) rfl _ rfl d m ?_) | (go_at_call 71;refine(D.out _).mono ?_;rintro e w2 ⟨rfl,B⟩));go_ret;exact⟨vQ,(t.trans f).trans B⟩
end Go.Proofs.YteninnkbmoimgaaGreatDoor
namespace aD
def vm (L:List aG) (k:Nat):Int->Option Bool:=fun x=>if x∈(L.take k).map (·.2) then some true else none
theorem anY (L:List aG):vm L 0=fun _=>none:=by funext x;simp[vm]
theorem anZ {L:List aG} {k:Nat} (h:k<L.length):sZ (vm L k) (au L k).2 (some true)=vm L (k+1):=by
 funext x;have e:au L k=L[k]:=Cp;unfold sZ vm;rw[jr h,jW,e];simp only[iG,dh,dQ,List.mem_singleton];by_cases b:x=L[k].2
 ·rw[aC b,aC (.inr b)]
 ·rw[aA b];by_cases d:x∈(L.take k).map (·.2)
  ·rw[aC d,aC (.inl d)]
  ·rw[aA d,aA (fun h=>h.elim d b)]
end aD
namespace Go.Proofs.YteninnkbmoimgaaGreatDoor
open Go.RowKit aD
theorem cL:Tryz.prog.underlying 109=some (.struct (Tryz.prog.fieldsOf 109)):=aj
theorem aZ:(Tryz.prog.info? 109).map (·.size)=some 5:=aj
theorem Cg (a:Ar) (q:Option Addr) (c:Nat) (p:Option Addr) (m:Nat):∀j (_:j<(#[.int .i64 a.nd.level,.int .i64 a.nd.next,.slice q a.nd.ai.length c]:Array Value).size),(bn a q c p m)[1+j]? =some (#[.int .i64 a.nd.level,.int .i64 a.nd.next,.slice q a.nd.ai.length c]:Array Value)[j]
 | 0,_=>rfl
 | 1,_=>rfl
 | 2,_=>rfl
noncomputable def Dw:L5 Tryz.prog 50 3 4 Int Bool:=amM (by kernel_rfl) (by kernel_rfl) (by kernel_rfl) (fun w=>by kernel_rfl)
theorem Rk {w:World} {d n:Nat} {g:Int->Option Bool} {u:Nat} {ops:Array Oper} {rest:List Oper} {o:Oper} {a:Act} {Q:Exit->Act->World->Prop} (f:Region.wanted o (yielded ops a.tmps)=true) (m x:Operand) (b:o.op=Op.lookup 50 m x false) (i:a.eval m=.map (some d)) (h:j6 Dw w d n g u) (y:Int) (q:a.eval x=.int .i64 y) (t:(Lit.int .i64 y).wf=true) (v:Bool) (j:(g y).getD false=v)
 (e:wpList Tryz.prog ops Q rest (a.put o.dst (.bool v)) w):wpList Tryz.prog ops Q (o::rest) a w:=
 amK f m x b i h y q t v j e
theorem an0 {w:World} {b n:Nat} {g:Int->Option Bool} {e:Nat} {ops:Array Oper} {rest:List Oper} {o:Oper} {a:Act} {Q:Exit->Act->World->Prop} (i:o.guard=none) (m x:Operand) (d:o.op=Op.mapUpdate 50 m x (.const (.bool true))) (j:a.eval m=.map (some b)) (h:j6 Dw w b n g e) (q:n<maxLen) (y:Int) (t:a.eval x=.int .i64 y) (u:(Lit.int .i64 y).wf=true)
 (f:∀w',j6 Dw w' b (n+1) (sZ g y (some true)) (if(g y).isSome then e else e+1)->aI b w w'->wpList Tryz.prog ops Q rest (a.put o.dst undef) w'):wpList Tryz.prog ops Q (o::rest) a w:=
 amL i m x _ d j h q y t u true rfl trivial f
def eS (w:World) (b:Nat) (a:Ar) (q:Option Addr) (c:Nat) (p:Option Addr) (m:Nat):Prop:=ah w b (.cells (bn a q c p m) 109)
theorem eS.ext {w w':World} {b:Nat} {a:Ar} {q:Option Addr} {c:Nat} {p:Option Addr} {m:Nat} (h:eS w b a q c p m) (e:Ext w w'):eS w' b a q c p m:=e.blk _ _ h
theorem eS.cells {w:World} {b:Nat} {a:Ar} {q:Option Addr} {c:Nat} {p:Option Addr} {m:Nat} (h:eS w b a q c p m):
 w.cell? ⟨b,0,none⟩=some (.int .i64 a.base)/\w.cell? ⟨b,1,none⟩=some (.int .i64 a.nd.level)/\w.cell? ⟨b,2,none⟩=some (.int .i64 a.nd.next)/\w.cell? ⟨b,3,none⟩=some (.slice q a.nd.ai.length c)/\w.cell? ⟨b,4,none⟩=some (.slice p a.ak.length m)/\b<w.heap.size:=
 ⟨ah.val h 0 _ rfl,ah.val h 1 _ rfl,ah.val h 2 _ rfl,ah.val h 3 _ rfl,ah.val h 4 _ rfl,ah.lt h⟩
theorem oJ (w:World) (d:DS) (a:Ar) (q:Option Addr) (c:Nat) (p:Option Addr) (m:Nat):Ext w ((w.alloc (.cells (az d) 23)).alloc (.cells (bn a q c p m) 109))/\
 bI ((w.alloc (.cells (az d) 23)).alloc (.cells (bn a q c p m) 109)) w.heap.size d/\eS ((w.alloc (.cells (az d) 23)).alloc (.cells (bn a q c p m) 109)) (w.heap.size+1) a q c p m:=
 ⟨(Ext.alloc _ _).trans (Ext.alloc _ _),ah.alloc (ah.new w _) _,ah.new1 _ _ _ av⟩
theorem Si {P:Program} {fn:Func} {p:Tmp} {f:TypeId} (h:fn.results=#[.cell p f]) (b:Array Value) (w:World) (g:Nat) (t:TypeId) (e:Array Value) (d:TypeDesc)
 (hp:b.getD p undef=.pointer (some ⟨g,0,none⟩)) (o:ah w g (.cells e t)) (u:P.underlying f=some d) (m:(match d with | .struct _ | .array _ _=>true | _=>false)=true) (q:(P.info? f).map (·.size)=some e.size):
 (results fn b).run P w=.ok (.agg e) w:=by
 have j:b[p]?.getD undef=.pointer (some ⟨g,0,none⟩):=zU;have i:=yA w g t f e (0,0) d o u m q;simp[results,h,j,asAddr,i,Sem.run_bind]
structure nI (w:World) (B:Nat) (vs:List Value) (V:List aB):Prop where
 len:vs.length=V.length
 own:∀i,i<V.length->w.ownsRow B 9 1 (vs.getD i undef) (V.getD i []).length ((V.getD i []).map fun s=>.string ⟨s.toArray⟩)
 apart:∀i j g,i<j->j<V.length->(vs.getD i undef).ownBlock=some g->(vs.getD j undef).ownBlock≠some g
theorem Ml {w:World} {B:Nat} {e:TypeId} {k n:Nat} {v:Value} {xs:List Value} (h:w.ownsRow B e k v n xs) {g:Nat} (b:v.ownBlock=some g):B<=g/\g<w.heap.size:=by
 obtain⟨t,⟨d,q⟩ | ⟨o,f,i,d,j,m,_⟩⟩:=h
 ·subst d;simp[Value.ownBlock] at b
 ·subst d;simp only[Value.ownBlock,mz] at b;subst b;exact⟨j,ah.lt m⟩
theorem an1 {xs:List Value} {i:Nat} {v:Value} (h:i<xs.length):(xs.set i v).getD i undef=v:=xZ
theorem getD_set_ne {xs:List Value} {i j:Nat} {v:Value} (h:i≠j):(xs.set i v).getD j undef=xs.getD j undef:=by simp[List.getD,List.getElem?_set,h]
theorem AZ {w:World} {b g:Nat} {i d:Array Value} {t f:TypeId} (h:ah w b (.cells i t)) (h':ah w g (.cells d f)) (hne:t≠f):b≠g:=fun e=>by
 subst e;have:=h.symm.trans h';exact E0
theorem mE (a:Ar) (q:Option Addr) (c:Nat) (p:Option Addr) (m:Nat):(bn a q c p m).all (·.oneCell')=true:=by unfold bn;simp[Value.oneCell']
end Go.Proofs.YteninnkbmoimgaaGreatDoor
namespace aD
open Go
end aD
namespace Go.Proofs.YteninnkbmoimgaaGreatDoor
open Go.RowKit aD
end Go.Proofs.YteninnkbmoimgaaGreatDoor
namespace aD
def oK (n:Int):List aG->Option Nat
 | []=>none
 | x::L=>if x.2=n then some 0 else(oK n L).map (·+1)
theorem an2 {n:Int} {L:List aG} {k:Nat} (h:k<L.length):oK n (L.drop k)=if(au L k).2=n then some 0 else(oK n (L.drop (k+1))).map (·+1):=by
 have e:au L k=L[k]:=Cp;rw[gz h,oK,e]
def qU (P:List Int):Nat->Int->Int
 | 0,_=>0
 | f+1,n=>if n∈P then qU P f (n+1) else n
def kY (d:DS) (a:Ar):Int:=qU (a.nd.ai.map (·.2)) d.aN.toNat (a.base+1)
theorem Sj {P:List Int}:∀{f:Nat} {n:Int},1<=n->(qU P f n=0/\∀x,n<=x->x<n+f->x∈P)∨(n<=qU P f n/\qU P f n<n+f/\qU P f n∉P)
 | 0,n,h=>.inl ⟨rfl,fun x d g=>af⟩
 | f+1,n,h=>by
   rw[qU];by_cases b:n∈P
   ·rw[aC b];rcases Sj (P:=P) (f:=f) (n:=n+1) af with⟨d,g⟩ | ⟨d,g,i⟩
    ·refine .inl ⟨d,fun x i j=>?_⟩;by_cases e:x=n
     ·rw[e];exact b
     ·exact g x af (by push_cast at j;omega)
    ·exact .inr ⟨af,Cz,i⟩
   ·rw[aA b];exact .inr ⟨Ct _,Cz,b⟩
end aD
namespace Go.Proofs.YteninnkbmoimgaaGreatDoor
open Go.RowKit aD
def Sk:Option Nat->Int
 | none=>-1
 | some i=>i
theorem _root_.aD.bk.take {w:World} {p:Option Addr} {L:aB} (h:bk w p L) (k:Nat):bk w p (L.take k):=by
 unfold bk at *;rw[Ao];exact Cells.take h k
def A0 (x:Int):Int:=if x< -x then -x else x
def s7 (size:Int) (L:aB):Nat->Nat×Int
 | 0=>(0,0)
 | k+1=>if k=0 then(0,0) else
   let s:=s7 size L k
   if eH size (L.take k)=true/\eH size (L.drop k)=true then
    let x:=A0 ((cB (L.take k):Int)-cB (L.drop k))
    if s.1=0∨x<s.2 then(k,x) else s
   else s
def vn (size:Int) (L:aB):Nat:=(s7 size L L.length).1
def Gy (size:Int) (L:aB) (m:Nat):Prop:=eH size (L.take m)=true/\eH size (L.drop m)=true
end Go.Proofs.YteninnkbmoimgaaGreatDoor

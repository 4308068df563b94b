/- A part of the proof. -/
import Derived.Test.YteninnkbmoimgaaGreatDoorGA
import Derived.Test.YteninnkbmoimgaaGreatDoorPiv3
import Derived.Test.YteninnkbmoimgaaGreatDoorX2
import Derived.Lib.AppendZeros
import Derived.Lib.Overlaps
import Derived.Deep.AppendSrc
import Derived.Deep.Upon
import Derived.Lib.AppendZerosOnto
import Derived.Deep.RegionLaw
import Derived.Laws.Externs
import Derived.Laws.CopyRow
import Derived.Deep.DeepCutAuto
import Derived.Laws.StructEq
set_option linter.unusedSimpArgs false
set_option linter.unusedVariables false
set_option maxRecDepth 100000
set_option maxHeartbeats 16000000
namespace aD
open Go Go.RowKit
theorem wS {P:Program} {w:World} {o:Oper} {a:Act} {K:Act->World->Prop} {Q:Exit->Act->World->Prop} (d s:Operand) (T E:TypeId)
 (L:o.op=.call {callee:=.builtin .append,args:=#[d,s],argTypes:=#[T,T]})
 (base:Nat) (z:Value) (k bytes:Nat) (O:P.underlying T=some (.slice E)) (f:(P.info? E).map (fun i=>(i.zero,i.size,i.bytes))=some (some z,k,bytes)) (B:z.cells.size=k) (S:1<=k)
 (v:Value) (n:Nat) (xs:List Value) (R:a.eval d=v) (g:w.ownsRow base E k v n xs) (p:Option Addr) (m c:Nat) (news:List Value) (N:a.eval s=.slice p m c) (M:p.isSome) (I:news.length=m*k) (hc:Cells w p news)
 (D:∀u∈news,u.oneCell'=true) (J:n+m<=100000000) (q:bytes<=1000) (e:base<=w.heap.size)
 (h:∀l w',w'.ownsRow base E k l (n+m) (xs++news)->w.grownBy w' v.ownBlock->K (a.put o.dst l) w'):o.wp P a w K Q:=by
 obtain⟨i,H,r,t,y⟩:=lH f;obtain⟨C,rfl⟩:=Option.isSome_iff_exists.1 M;refine wp_append_own w d s T L base E i z k bytes O H r t y B af v n xs R g C m c news N (by rw[I]) ?_ D uM ?_ e fun l w' F G _=>h l w' F G
 ·exact Wo
 ·have:(n+m)*bytes<=100000000*1000:=CJ J q;omega
theorem sV {P:Program} {w:World} {ops:Array Oper} {rest:List Oper} {o:Oper} {a:Act} {Q:Exit->Act->World->Prop} (q:Region.wanted o (yielded ops a.tmps)=true) (d s:Operand) (T E:TypeId)
 (I:o.op=.call {callee:=.builtin .append,args:=#[d,s],argTypes:=#[T,T]})
 (base:Nat) (z:Value) (k bytes:Nat) (L:P.underlying T=some (.slice E)) (f:(P.info? E).map (fun i=>(i.zero,i.size,i.bytes))=some (some z,k,bytes)) (r:z.cells.size=k) (F:1<=k)
 (v:Value) (n:Nat) (xs:List Value) (M:a.eval d=v) (g:w.ownsRow base E k v n xs) (p:Option Addr) (m c:Nat) (b:List Value) (K:a.eval s=.slice p m c) (J:p.isSome) (G:b.length=m*k) (D:Cells w p b)
 (t:∀u∈b,u.oneCell'=true) (H:n+m<=100000000) (l:bytes<=1000) (e:base<=w.heap.size)
 (h:∀j w',w'.ownsRow base E k j (n+m) (xs++b)->w.grownBy w' v.ownBlock->wpList P ops Q rest (a.put o.dst j) w'):wpList P ops Q (o::rest) a w:=
 BigFrame.wpList_want q fun _ C=>wS d s T E I base z k bytes L f r F v n xs M g p m c b K J G D t H l e fun j w' y B=>C _ _ (h j w' y B)
theorem Rt {P:Program} {w:World} {ops:Array Oper} {o:Oper} {a:Act} {K:Act->World->Prop} {Q:Exit->Act->World->Prop} {E:Prop}
 (hg:o.guard=none) (d x:Operand) (e f:TypeId) (b:o.op=Op.call {callee:=Callee.builtin Builtin.append,args:=#[d,x],argTypes:=#[e,f]})
 (v u:Value) (j:a.eval d=v) (n:a.eval x=u) {g:Value} {w':World} (l:(Builtin.append_ #[e,f] o.type #[v,u]).run P w=.ok g w') (i:K (a.put o.dst g) w'):
 if Region.wanted o (yielded ops a.tmps)=true then Oper.wp P o a w K Q else E:=by
 have m:Region.wanted o (yielded ops a.tmps)=true:=EY;rw[aC m];unfold Oper.wp;simp[execOp,b,resolve,invoke,builtin,j,n,l,Result.andThen];exact i
section
variable {P:Program}
theorem al8 (w:World) (t f e:TypeId) (i:TypeInfo) (d:P.underlying t=some (.slice e)) (b:P.info? e=some i) (g:Nat) (q:Option Addr) (c:Nat):
 (Builtin.append_ #[t,t] f #[.slice (some ⟨g,0,none⟩) 0 0,.slice q 0 c]).run P w=.ok (.slice (some ⟨g,0,none⟩) 0 0) w:=by
 cases q<;>simp[Builtin.append_,pO d,Go.sizeOf,typeInfo,b,Builtin.lenOf,Builtin.firstCells,loadCells,loadCellsFrom,Go.storeCells]
theorem rN {w:World} {o:Oper} {a:Act} {K:Act->World->Prop} {Q:Exit->Act->World->Prop} (d s:Operand) (T E:TypeId)
 (ho:o.op=.call {callee:=.builtin .append,args:=#[d,s],argTypes:=#[T,T]})
 (base:Nat) (z:Value) (size bytes:Nat) (L:P.underlying T=some (.slice E)) (l:(P.info? E).map (fun i=>(i.zero,i.size,i.bytes))=some (some z,size,bytes)) (I:z.cells.size=size)
 (b:Nat) (hv:a.eval d=.slice (some ⟨b,0,none⟩) 0 0) (N:ah w b (.cells #[] E)) (B:base<=b) (q:Option Addr) (m c:Nat) (e:List Value) (hs:a.eval s=.slice q m c) (t:e.length=m*size)
 (R:0<m->∃y,q=some y/\∀j u,e[j]? =some u->w.cell? (y.add j)=some u)
 (U:m<=100000000) (C:bytes<=1000) (f:base<=w.heap.size)
 (h:∀M w',w'.ownsRow base E size M m e->Ext w w'->K (a.put o.dst M) w'):o.wp P a w K Q:=by
 obtain⟨i,J,F,G,H⟩:=lH l;by_cases S:m=0
 ·subst S;have D:e=[]:=gY (by simpa using t);subst D;have hr:=al8 (P:=P) w T o.type E i L J b q c;unfold Oper.wp execOp;refine WY ?_;exact h _ _ ⟨av,.inr ⟨b,0,#[],rfl,B,N,aH _,av,av,av⟩⟩ (Ext.refl w)
 ·obtain⟨y,rfl,g⟩:=R af;have O:m*bytes<=100000000*1000:=CJ U C;have hr:=run_append_grow (P:=P) w T o.type E i z L J F ⟨b,0,none⟩ 0 0 [] av av y m c e (by rw[G];exact t) g af af (growslice_fits af (by rw[H,nB];omega));unfold Oper.wp execOp;refine WY ?_;have r:=grownCap_ge w (0+m) 0 E;have n:grownCap w (0+m) 0 E<=maxLen:=grownCap_le_maxLen w (0+m) 0 E uM;simp only[nB] at r n⊢;refine h _ _ ⟨t,.inr ⟨w.heap.size,_,_,rfl,f,Ff w.drew _,r,n,?_,?_⟩⟩ ((Ext.drew w).trans (Ext.alloc _ _))
  ·simp only[Array.size_append,CD,size_zeroCells,I,t,lC,nB,<-Nat.add_mul];congr 1;omega
  ·simp[List.take_append,<-t]
end
def dJ (E:TypeId) (B size n:Nat) (xs:List Value):Fact:=fun x w=>∃q c,x=.slice q n c/\w.ownsRow B E size (.slice q n c) n xs
def nP (E:TypeId) (B:Nat):Fact:=fun x w=>∃b,x=.slice (some ⟨b,0,none⟩) 0 0/\ah w b (.cells #[] E)/\B<=b
theorem nP.ay (E:TypeId) (B:Nat):(nP E B).ay:=fun _ _ _ g ⟨b,d,e,f⟩=>⟨b,d,g.blk _ _ e,f⟩
end aD
namespace Go.Proofs.YteninnkbmoimgaaGreatDoor
open Go.RowKit aD
theorem al9 {w:World} {q:Option Addr} {L:List (List UInt8)} (h:bk w q L):0<L.length->∃f,q=some f/\∀j u,(L.map fun s:List UInt8=>Value.string ⟨s.toArray⟩)[j]? =some u->w.cell? (f.add j)=some u:=by
 intro i;obtain⟨b,o,rfl,l,g⟩:=h.at 0 i;refine⟨_,rfl,fun j u e=>?_⟩;have d:j<L.length:=by have:=(Ck.1 e).1;simpa using this
 rw[addr_add,g j d];simp[d] at e;simp[List.getD,d,e]
theorem dJ.ay (E:TypeId) (B size n:Nat) (xs:List Value):(dJ E B size n xs).ay:=fun _ _ _ e ⟨q,c,b,d⟩=>⟨q,c,b,aO d e⟩
def LK:Value->Nat | .string b=>b.size | _=>0
def rO (c:Nat) (l:List UInt8):List UInt8:=l.dropWhile fun x=>x.toNat==c
def lO (c:Nat) (l:List UInt8):List UInt8:=(l.reverse.dropWhile fun x=>x.toNat==c).reverse
theorem ama (c:Nat) (x:UInt8) (l:List UInt8):rO c (x::l)=if x.toNat=c then rO c l else x::l:=by
 unfold rO;rw[List.dropWhile_cons];simp
theorem amb (c:Nat) (x:UInt8) (l:List UInt8):lO c (l++[x])=if x.toNat=c then lO c l else l++[x]:=by
 unfold lO;rw[LL,List.reverse_singleton,Li,List.dropWhile_cons];by_cases h:x.toNat=c
 ·simp[h]
 ·simp[h]
theorem amc (l:List UInt8) (x:UInt8):aL (l++[x]) l.length=x.toNat:=by simp[aL]
theorem amd (c:Nat) (l:List UInt8):(lO c l).length<=l.length:=by
 unfold lO;rw[Ga];exact fN (List.dropWhile_sublist _).length_le av
theorem Ru (p:UInt8->Bool) (l:List UInt8):l.dropWhile p=[]↔∀x∈l,p x=true:=by
 induction l with
 | nil=>simp
 | cons a l b=>rw[List.dropWhile_cons];by_cases h:p a=true<;>simp[h,b]
theorem ame (l:List UInt8):rO 0 (lO 0 l)=[]↔l=List.replicate l.length 0:=by
 have g:rO 0 (lO 0 l)=[]->∀x∈l,x.toNat=0:=by
  intro h x b;have j:∀y∈lO 0 l,(y.toNat==0)=true:=by
   unfold rO at h;exact(Ru _ _).1 h
  by_cases d:x.toNat=0
  ·exact d
  ·have f:(l.reverse.dropWhile fun x=>x.toNat==0)≠[]:=by
    intro e;have:=(Ru _ _).1 e x (by simpa using b);simp[d] at this
   have e:=List.head_dropWhile_not (fun x:UInt8=>x.toNat==0) f;have m:(l.reverse.dropWhile fun x=>x.toNat==0).head f∈lO 0 l:=by
    unfold lO;rw[Gb];exact List.head_mem f
   rw[j _ m] at e;cases e
 constructor
 ·intro h;rw[List.eq_replicate_iff];exact⟨rfl,fun x b=>CI.1 (g h x b)⟩
 ·intro h;have i:∀x∈l,x.toNat=0:=fun x b=>by rw[h] at b;rw[List.eq_of_mem_replicate b];rfl
  have:lO 0 l=[]:=by
   unfold lO;rw[List.reverse_eq_nil_iff,Ru];intro x b;simp[i x (by simpa using b)]
  rw[this];rfl
theorem amf (l:List UInt8) (c:Nat) (i:l.length<=1000000) (w:World):
 Calls Tryz.prog 199 #[.string ⟨l.toArray⟩,.int .u8 c] w fun e w'=>e=.returned (.string ⟨(rO c l).toArray⟩)/\w'=w:=by
 go_enter Tryz.func199,Tryz.ntmps199;go_wp2;go_loop[0] (fun s=>∃m:List UInt8,s=.string ⟨m.toArray⟩/\rO c m=rO c l/\m.length<=1000000) (fun s=>LK s)
 case atStart=>exact⟨l,rfl,rfl,i⟩
 case round=>
  obtain⟨m,rfl,b,j⟩:=hrel;cases m with
  | nil=>
    go_wp2;go_ret;exact⟨Ac (by rw[<-b];rfl),rfl⟩
  | cons x m=>
    have n:aL (x::m) 0=x.toNat:=rfl;rw[ama] at b;simp at j;by_cases d:x.toNat=c
    ·rw[aC d] at b;have g:((x.toNat:Int)==(c:Int))=true:=by simp[d]
     have f:=ag b;clear b d;go_wp2;go_round
     case rel=>exact⟨m,rfl,f.out,af⟩
     case measure=>simp[LK,ByteArray.size]
    ·rw[aA d] at b;have g:((x.toNat:Int)==(c:Int))=false:=aY;have f:=ag b;clear b d;go_wp2;go_ret;exact⟨Ac f.out,rfl⟩
theorem amg (l:List UInt8) (c:Nat) (z:l.length<=1000000) (w:World):
 Calls Tryz.prog 200 #[.string ⟨l.toArray⟩,.int .u8 c] w fun e w'=>e=.returned (.string ⟨(lO c l).toArray⟩)/\w'=w:=by
 go_enter Tryz.func200,Tryz.ntmps200;go_wp2;go_loop[0] (fun s=>∃m:List UInt8,s=.string ⟨m.toArray⟩/\lO c m=lO c l/\m.length<=1000000) (fun s=>LK s)
 case atStart=>exact⟨l,rfl,rfl,z⟩
 case round=>
  obtain⟨m,rfl,r,E⟩:=hrel;by_cases g:m=[]
  ·subst g;go_wp2;go_ret;exact⟨Ac (by rw[<-r];rfl),rfl⟩
  ·obtain⟨f,x,d⟩:∃f x,m=f++[x]:=⟨m.dropLast,m.getLast g,(List.dropLast_concat_getLast g).symm⟩;obtain⟨k,i⟩:∃k,k=f.length:=⟨_,rfl⟩;have D:aL m k=x.toNat:=by rw[d,i];exact amc f x
   have C:m.take k=f:=by rw[d,i];simp
   have B:m.length=k+1:=by rw[d,i];simp
   have b:lO c m=if x.toNat=c then lO c f else m:=by rw[d];exact amb c x f
   rw[r] at b;have u:(0:Int)<k+1:=af;have y:k<=1000000:=af;have q:f.length<=1000000:=af;clear d r;by_cases j:x.toNat=c
   ·rw[aC j] at b;have t:((x.toNat:Int)==(c:Int))=true:=by simp[j]
    have n:=ag b;have o:=ag i;clear b j i;go_wp2;go_round
    case rel=>exact⟨f,rfl,n.out.symm,q⟩
    case measure=>have:=o.out;simp[LK,ByteArray.size];omega
   ·rw[aA j] at b;have t:((x.toNat:Int)==(c:Int))=false:=aY;have n:=ag b;clear b j i;go_wp2;go_ret;exact⟨Ac n.out.symm,rfl⟩
theorem amh (l:List UInt8) (f:l.length<=1000000) (w:World):
 Calls Tryz.prog 191 #[.string ⟨l.toArray⟩,.string ⟨[0].toArray⟩] w fun e w'=>e=.returned (.string ⟨(rO 0 (lO 0 l)).toArray⟩)/\∃n,w'=w.drewN n:=by
 by_cases b:l=[]
 ·subst b;go_enter Tryz.func191,Tryz.ntmps191;go_wp2;go_ret;exact⟨rfl,0,rfl⟩
 ·have m:(l==[])=false:=by simpa using b
  have i:=amg l 0 f;have g:=amf (lO 0 l) 0 (fN (amd 0 l) f);generalize o:lO 0 l=r at *;generalize d:rO 0 r=q at *;clear o d b;go_enter Tryz.func191,Tryz.ntmps191;go_wp2;have j:aL [0] 0=0:=rfl;go_quiet(first | (go_at_call 200;go_loud(exact Calls.quiet_of_same (i _))) | (go_at_call 199;exact Calls.quiet_of_same (g _)));go_wp2;go_ret;exact⟨rfl,nq,rfl⟩
theorem ami (l:List UInt8) (f:l.length<=1000000) (w:World):
 Calls Tryz.prog 174 #[.string ⟨l.toArray⟩] w fun e w'=>e=.returned (.bool (l==List.replicate l.length 0))/\∃n,w'=w.drewN n:=by
 have d:=amh l f;have b:Hid ((rO 0 (lO 0 l)).isEmpty=(l==List.replicate l.length 0)):=ag (by
  have:=ame l;rw[uf];simpa using this)
 generalize rO 0 (lO 0 l)=q at *;go_enter Tryz.func174,Tryz.ntmps174;go_wp2_with(go_at_call 191;refine(d _).mono ?_;rintro e w' ⟨rfl,n,rfl⟩);go_ret;exact⟨jz b.out,n,rfl⟩
def mW (size:Int) (l:List UInt8):Int:=if(l.length:Int)≠size then 11 else if l==List.replicate l.length 0 then 9 else 0
theorem aaF (size:Int) (l:List UInt8) (d:l.length<=1000000) (w:World):
 Calls Tryz.prog 155 #[.int .i64 size,.string ⟨l.toArray⟩] w fun e w'=>e=.returned (.int .i64 (mW size l))/\∃n,w'=w.drewN n:=by
 have hU:=ami l d;by_cases h1:(l.length:Int)=size
 ·have b:((l.length:Int)!=size)=false:=sI;cases h2:l==List.replicate l.length 0
  ·have hE:Hid (mW size l=0):=ag (by unfold mW;rw[h2];simp[h1]);exact aap
  ·have hE:Hid (mW size l=9):=ag (by unfold mW;rw[h2];simp[h1]);exact aap
 ·have b:((l.length:Int)!=size)=true:=jP;have hE:Hid (mW size l=11):=ag (by unfold mW;rw[aC h1]);clear h1;go_enter Tryz.func155,Tryz.ntmps155;go_wp2;go_ret;exact⟨CG hE.out.symm,0,rfl⟩
theorem ajY {a b:List UInt8} {c e:Int} (d:a=b) (f:c=e):Ending.returned (.tuple #[.string ⟨a.toArray⟩,.int .i64 c])=.returned (.tuple #[.string ⟨b.toArray⟩,.int .i64 e]):=by rw[d,f]
theorem LM (p:Option Addr) (f n:Nat) (m:List (List UInt8)) (k:Int) (w:World) (t:bk w p m) (r:m.length=n) (B:n<=1000000):
 Calls Tryz.prog 66 #[.slice p n f,.int .i64 k] w fun e w'=>e=.returned (.tuple #[.string ⟨(aF m k).1.toArray⟩,.int .i64 (aF m k).2])/\w=w':=by
 subst r;by_cases h:0<=k/\k<m.length
 ·have d:aF m k=(m.getD k.toNat [],0):=by unfold aF;rw[aC h]
  obtain⟨k,rfl⟩:=pN h.1;have i:k<m.length:=af;obtain⟨b,u,rfl,z,g⟩:=t.at k i;have o:=g k i;rw[jU] at d;have HP:=ag d;generalize m.getD k []=x at *;have q:(k:Int)<m.length:=af;clear g d h;exact Ql
 ·have d:aF m k=([],2):=by unfold aF;rw[aA h]
  have HP:=ag d;clear d;by_cases j:k<0
  ·exact Ql
  ·have y:(m.length:Int)<=k:=af;have l:0<=k:=af;clear h j;exact Ql
theorem gr:Tryz.prog.underlying 23=some (.struct (Tryz.prog.fieldsOf 23)):=aj
theorem gD:(Tryz.prog.info? 23).map (·.size)=some 21:=aj
theorem fH:Tryz.prog.underlying 30=some (.struct (Tryz.prog.fieldsOf 30)):=aj
theorem dg:(Tryz.prog.info? 30).map (·.size)=some 7:=aj
def bI (w:World) (b:Nat) (d:DS):Prop:=ah w b (.cells (az d) 23)
def fG (w:World) (b:Nat) (h:Hd):Prop:=ah w b (.cells (aK h) 30)
theorem bI.ext {w w':World} {b:Nat} {d:DS} (h:bI w b d) (e:Ext w w'):bI w' b d:=e.blk _ _ h
theorem fG.ext {w w':World} {b:Nat} {d:Hd} (h:fG w b d) (e:Ext w w'):fG w' b d:=e.blk _ _ h
theorem bI.alloc {w:World} {b:Nat} {d:DS} (h:bI w b d) (o:Obj):bI (w.alloc o) b d:=h.ext (Ext.alloc _ _)
theorem fG.alloc {w:World} {b:Nat} {d:Hd} (h:fG w b d) (o:Obj):fG (w.alloc o) b d:=h.ext (Ext.alloc _ _)
theorem bu {ops:Array Oper} {rest:List Oper} {o:Oper} {a:Act} {w:World} {Q:Exit->Act->World->Prop} (f:Region.wanted o (yielded ops a.tmps)=true) (x:Operand) (e:o.op=.load 23 x)
 (g:Nat) (i:a.eval x=.pointer (some ⟨g,0,none⟩)) (d:DS) (b:bI w g d) (h:wpList Tryz.prog ops Q rest (a.put o.dst (.agg (az d))) w):wpList Tryz.prog ops Q (o::rest) a w:=
 bz f 23 x e g i _ _ _ b gr rfl gD h
theorem mM {ops:Array Oper} {rest:List Oper} {o:Oper} {a:Act} {w:World} {Q:Exit->Act->World->Prop} (f:Region.wanted o (yielded ops a.tmps)=true) (x:Operand) (e:o.op=.load 30 x)
 (g:Nat) (i:a.eval x=.pointer (some ⟨g,0,none⟩)) (d:Hd) (b:fG w g d) (h:wpList Tryz.prog ops Q rest (a.put o.dst (.agg (aK d))) w):wpList Tryz.prog ops Q (o::rest) a w:=
 bz f 30 x e g i _ _ _ b fH rfl dg h
theorem yL (w:World) (h:Hd) (d:DS):Ext w ((w.alloc (.cells (aK h) 30)).alloc (.cells (az d) 23))/\
 fG ((w.alloc (.cells (aK h) 30)).alloc (.cells (az d) 23)) w.heap.size h/\bI ((w.alloc (.cells (aK h) 30)).alloc (.cells (az d) 23)) (w.heap.size+1) d:=
 ⟨(Ext.alloc _ _).trans (Ext.alloc _ _),ah.alloc (ah.new w _) _,ah.new1 _ _ _ av⟩
theorem LN {m:List (List UInt8)} (h:Small m) (k:Int):(aF m k).1.length<=1000000:=by
 unfold aF;split
 ·exact h.at _
 ·simp
def iC (w:World) (p:Option Addr) (L:List (Int×List UInt8)):Prop:=
 L=[]∨∃b d,p=some ⟨b,d,none⟩/\(b<w.heap.size/\∃e,ah w b (.cells e 133))/\∀i,i<L.length->w.cell? ⟨b,d+i*2,none⟩=some (.int .i64 (L.getD i (0,[])).1)/\w.cell? ⟨b,d+i*2+1,none⟩=some (.string ⟨(L.getD i (0,[])).2.toArray⟩)
theorem iC.ext {w w':World} {p:Option Addr} {L:List (Int×List UInt8)} (h:iC w p L) (e:Ext w w'):iC w' p L:=by
 rcases h with h | ⟨b,g,n,⟨d,m,f⟩,j⟩
 ·exact .inl h
 ·exact .inr ⟨b,g,n,⟨fM d e.size,m,e.blk _ _ f⟩,fun i l=>⟨(e.cell b _ d).trans (j i l).1,(e.cell b _ d).trans (j i l).2⟩⟩
theorem aI.cell {g:Nat} {w w':World} (c:aI g w w') (b i:Nat) (d:b≠g):w'.cell? ⟨b,i,none⟩=w.cell? ⟨b,i,none⟩:=World.cell?_of_block (c.block b d)
theorem ah.below {w w':World} {B b:Nat} {o:Obj} (h:ah w b o) (k:Below B w w') (d:b<B):ah w' b o:=(k.block b d).trans h
theorem wU (h:Hd):((aK h):Array Value).all (·.oneCell')=true:=cT
theorem iC.at {w:World} {p:Option Addr} {L:List (Int×List UInt8)} (h:iC w p L) (k:Nat) (j:k<L.length):
 ∃b d,p=some ⟨b,d,none⟩/\b<w.heap.size/\∀i,i<L.length->w.cell? ⟨b,d+i*2,none⟩=some (.int .i64 (L.getD i (0,[])).1)/\w.cell? ⟨b,d+i*2+1,none⟩=some (.string ⟨(L.getD i (0,[])).2.toArray⟩):=by
 rcases h with h | ⟨b,d,e,⟨f,_⟩,g⟩
 ·subst h;simp at j
 ·exact⟨b,d,e,f,g⟩
def pV (w:World) (p:Option Addr) (L:List (List UInt8×List UInt8)):Prop:=
 L=[]∨∃b d,p=some ⟨b,d,none⟩/\b<w.heap.size/\∀i,i<L.length->w.cell? ⟨b,d+i*2,none⟩=some (.string ⟨(L.getD i ([],[])).1.toArray⟩)/\w.cell? ⟨b,d+i*2+1,none⟩=some (.string ⟨(L.getD i ([],[])).2.toArray⟩)
theorem pV.ext {w w':World} {p:Option Addr} {L:List (List UInt8×List UInt8)} (h:pV w p L) (e:Ext w w'):pV w' p L:=by
 exact Wt
theorem pV.at {w:World} {p:Option Addr} {L:List (List UInt8×List UInt8)} (h:pV w p L) (k:Nat) (e:k<L.length):
 ∃b d,p=some ⟨b,d,none⟩/\b<w.heap.size/\∀i,i<L.length->w.cell? ⟨b,d+i*2,none⟩=some (.string ⟨(L.getD i ([],[])).1.toArray⟩)/\w.cell? ⟨b,d+i*2+1,none⟩=some (.string ⟨(L.getD i ([],[])).2.toArray⟩):=by
 rcases h with h | h
 ·subst h;simp at e
 ·exact h
theorem amj : (Tryz.prog.fieldsOf 133).toList.map (fun f => (f.name, f.type, f.offset)) = [("Page", 3, 0), ("Data", 9, 1)] := aj
theorem amk:Tryz.prog.stoodInHeld 133=false:=aj
theorem aml:Tryz.prog.eqGuardType Tryz.prog.depth 133=false:=aj
theorem amm:Tryz.prog.underlying 133=some (.struct (Tryz.prog.fieldsOf 133)):=aj
theorem amn (u i:Int) (x j:List UInt8) (W:World):(Op.equalIn 10000 133 (.agg #[.int .i64 u,.string ⟨x.toArray⟩]) (.agg #[.int .i64 i,.string ⟨j.toArray⟩])).run Tryz.prog W=.ok ((u,x)==(i,j)) W:=by
 rw[run_equalIn_agg W 9999 133 _ _ amm amk];have h:=amj;generalize(Tryz.prog.fieldsOf 133).toList=b at *;have e:b.length=2:=by simpa using gP List.length h
 obtain⟨f,g,rfl⟩:∃f g,b=[f,g]:=by
  cases b with
  | nil=>simp at e
  | cons f b=>
    cases b with
    | nil=>simp at e
    | cons g b=>
      cases b with
      | nil=>exact⟨f,g,rfl⟩
      | cons _ _=>simp at e
 simp at h;obtain⟨⟨m,n,o⟩,q,r,t⟩:=h;simp[Op.eqFields,m,n,o,q,r,t,go_sem];by_cases d:u=i
 ·by_cases l:x=j
  ·simp[d,l]
  ·simp[d,l]
 ·simp[d]
theorem lW:Tryz.prog.underlying 37=some (.struct (Tryz.prog.fieldsOf 37)):=aj
def eV (L:List (List UInt8×List UInt8)):List Value:=L.flatMap fun x=>[.string ⟨x.1.toArray⟩,.string ⟨x.2.toArray⟩]
theorem amo (L:List (List UInt8×List UInt8)) (i:Nat) (h:i<L.length):(eV L)[i*2]? =some (.string ⟨(L.getD i ([],[])).1.toArray⟩)/\(eV L)[i*2+1]? =some (.string ⟨(L.getD i ([],[])).2.toArray⟩):=by
 induction L generalizing i with
 | nil=>simp at h
 | cons x L b=>
   have e:eV (x::L)=.string ⟨x.1.toArray⟩::.string ⟨x.2.toArray⟩::eV L:=by simp[eV]
   rw[e];cases i with
   | zero=>simp
   | succ i=>
     have:=b i nA;rw[show(i+1)*2=i*2+2 by omega,show i*2+2+1=(i*2+1)+2 by omega];simpa using this
theorem Df (L:List (List UInt8×List UInt8)):(eV L).length=2*L.length:=by
 induction L with
 | nil=>rfl
 | cons x L b=>simp[eV] at b⊢;omega
theorem yM {w:World} {base:Nat} {v:Value} {L:List (List UInt8×List UInt8)} {n:Nat} (h:w.ownsRow base 37 2 v n (eV L)):∃q c,v=.slice q n c/\pV w q L/\L.length=n:=by
 obtain⟨m,⟨rfl,rfl⟩ | ⟨g,o,b,rfl,_,l,u,y,z,r⟩⟩:=h
 ·rw[Df] at m;exact⟨none,0,rfl,.inl (gY af),af⟩
 ·rw[Df] at m;refine⟨_,_,rfl,.inr ⟨g,0,rfl,(gX.1 l).1,fun i t=>?_⟩,af⟩;obtain⟨d,e⟩:=amo L i t;have f:ah w g (.cells b 37):=l;have k:∀j,(eV L)[j]? =if j<n*2 then b[j]? else none:=fun j=>by rw[<-r,qF];simp
  rw[k,aC af] at d e;rw[nB];exact⟨ah.val f _ _ d,ah.val f _ _ e⟩
theorem Rv (w:World) (h:Hd) (d:DS) (b:Array Value) (t:TypeId):
 Ext w (((w.alloc (.cells (aK h) 30)).alloc (.cells (az d) 23)).alloc (.cells b t))/\
 fG (((w.alloc (.cells (aK h) 30)).alloc (.cells (az d) 23)).alloc (.cells b t)) w.heap.size h/\
 bI (((w.alloc (.cells (aK h) 30)).alloc (.cells (az d) 23)).alloc (.cells b t)) (w.heap.size+1) d/\
 ah (((w.alloc (.cells (aK h) 30)).alloc (.cells (az d) 23)).alloc (.cells b t)) (w.heap.size+1+1) (.cells b t):=by
 obtain⟨e,f,g⟩:=yL w h d;exact⟨e.trans (Ext.alloc _ _),f.alloc _,g.alloc _,ah.new1 _ _ _ av⟩
theorem aaG (f : Nat) (p : Option Addr) (n b : Nat) (w : World) : (method (f + 1) 32 (.slice p n b) "Page").run Tryz.prog w = .ok (66, .slice p n b) w := aj
end Go.Proofs.YteninnkbmoimgaaGreatDoor

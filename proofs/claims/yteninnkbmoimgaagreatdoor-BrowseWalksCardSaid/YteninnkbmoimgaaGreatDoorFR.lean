/- A part of the proof. -/
import Derived.Test.YteninnkbmoimgaaGreatDoorAW0
import Derived.RangeFuncNested
import Derived.RangeFuncBound
import Derived.RangeFuncCalls
import Derived.RangeFuncLeaves
import Derived.OrdersIn
import Derived.TacticsIn
import Derived.OwnWalkIn
import Derived.TacticsInMore
import Derived.LoopNIn
import Derived.LoopIn
import Derived.Shelf.Abstract
set_option linter.unusedSimpArgs false
set_option linter.unusedVariables false
set_option maxRecDepth 100000
set_option maxHeartbeats 16000000
namespace aD
def lT (f:Int->List Int×Int):List aG->List Int×Int
 | []=>([],0)
 | x::L=>if(f x.2).2≠0 then f x.2 else((f x.2).1++(lT f L).1,(lT f L).2)
def iE (M:List (List UInt8)) (d:DS):Nat->Int->List Int×Int
 | 0,b=>([b],0)
 | l+1,b=>if(bF M d b ((l+1:Nat):Int)).2≠0 then([],(bF M d b ((l+1:Nat):Int)).2) else lT (iE M d l) (bF M d b ((l+1:Nat):Int)).1.ai
def ng (f:Int->Int->List Int×Int) (most:Int):List Int->List aG->List Int×Int
 | out,[]=>(out,0)
 | out,x::L=>if(f x.2 (most-(out.length:Int))).2≠0 then([],(f x.2 (most-(out.length:Int))).2)
    else if most<((out++(f x.2 (most-(out.length:Int))).1).length:Int) then([],8)
    else ng f most (out++(f x.2 (most-(out.length:Int))).1) L
def je (M:List (List UInt8)) (d:DS):Nat->Int->Int->List Int×Int
 | 0,b,_=>([b],0)
 | l+1,b,most=>if(bF M d b ((l+1:Nat):Int)).2≠0 then([],(bF M d b ((l+1:Nat):Int)).2) else ng (je M d l) most [] (bF M d b ((l+1:Nat):Int)).1.ai
def adv (f:Int->List Int×Int) (g:Int->Int->List Int×Int):Prop:=
 ∀b most,0<=most->(g b most).2≠8->((g b most).2=0->f b=((g b most).1,0))/\((g b most).2≠0->(f b).2=(g b most).2/\((f b).1.length:Int)<=most)
theorem adw {f:Int->List Int×Int} {g:Int->Int->List Int×Int} (h:adv f g) {most:Int}:∀(L:List aG) (b:List Int),(b.length:Int)<=most->(ng g most b L).2≠8->
 ((ng g most b L).2=0->(lT f L).2=0/\b++(lT f L).1=(ng g most b L).1)/\((ng g most b L).2≠0->(lT f L).2=(ng g most b L).2/\(b.length:Int)+((lT f L).1.length:Int)<=most)
 | [],b,y,e=>⟨fun _=>⟨rfl,by simp[lT,ng]⟩,fun i=>absurd rfl i⟩
 | x::L,b,y,e=>by
   have o:=h x.2 (most-(b.length:Int)) af;unfold ng at e⊢;by_cases d:(g x.2 (most-(b.length:Int))).2≠0
   ·rw[aC d] at e⊢;obtain⟨j,z⟩:=(o e).2 d;refine⟨fun i=>absurd i d,fun _=>?_⟩;unfold lT;rw[aC (by rw[j];exact d)];exact⟨j,af⟩
   ·have d:(g x.2 (most-(b.length:Int))).2=0:=MX d;rw[aA (by rw[d];simp)] at e⊢;have j:=(o (by rw[d];decide)).1 d;have r:(f x.2).2=0:=by rw[j]
    have t:(f x.2).1=(g x.2 (most-(b.length:Int))).1:=by rw[j]
    by_cases n:most<((b++(g x.2 (most-(b.length:Int))).1).length:Int)
    ·rw[aC n] at e;exact absurd rfl e
    ·rw[aA n] at e⊢;have q:=adw h L (b++(g x.2 (most-(b.length:Int))).1) af e;have u:lT f (x::L)=((g x.2 (most-(b.length:Int))).1++(lT f L).1,(lT f L).2):=by
      rw[lT,aA (by rw[r];simp),t]
     rw[u];refine⟨fun i=>?_,fun i=>?_⟩
     ·obtain⟨l,m⟩:=q.1 i;exact⟨l,by rw[<-m];simp⟩
     ·obtain⟨l,m⟩:=q.2 i;refine⟨l,?_⟩;simp only[ew] at m⊢;omega
theorem adx (M:List (List UInt8)) (d:DS):∀l,adv (iE M d l) (je M d l)
 | 0,b,most,j,f=>⟨fun _=>rfl,fun h=>absurd rfl h⟩
 | l+1,b,most,j,f=>by
   unfold je at f⊢;unfold iE;by_cases e:(bF M d b ((l+1:Nat):Int)).2≠0
   ·rw[aC e] at f⊢;rw[aC e];exact⟨fun h=>absurd h e,fun _=>⟨rfl,by simpa using j⟩⟩
   ·rw[aA e] at f⊢;rw[aA e];have k:=adw (adx M d l) (most:=most) (bF M d b ((l+1:Nat):Int)).1.ai [] (by simpa using j) f;refine⟨fun h=>?_,fun h=>?_⟩
    ·obtain⟨i,g⟩:=k.1 h;rw[bQ] at g;exact Prod.ext g i
    ·obtain⟨i,g⟩:=k.2 h;exact⟨i,by simpa using g⟩
def kM (M:List (List UInt8)) (h:Hd) (d:DS):Int:=if jg h d≠0 then 1 else(je M d h.height.toNat h.root 4096).2
def oP (M:List (List UInt8)) (h:Hd) (d:DS):List Int:=if jg h d≠0 then[] else(je M d h.height.toNat h.root 4096).1
end aD
namespace Go.Proofs.YteninnkbmoimgaaGreatDoor
open Go.RowKit aD
def mJ (L:List Int) (b:Int) (w:World) (e:Ending) (w':World):Prop:=Ext w w'/\∃q c,e=.returned (.tuple #[.slice q L.length c,.int .i64 b])/\w'.ownsRow w.heap.size 3 1 (.slice q L.length c) L.length (cP L)
theorem MY {w w':World} {e:Ending} {c:Int} (b:Ext w w') (d:e=.returned (.tuple #[.slice none 0 0,.int .i64 c])):mJ [] c w e w':=⟨b,none,0,d,rfl,.inl ⟨rfl,rfl⟩⟩
def DP (m:List (List UInt8)) (h:Hd) (d:DS):Bool:=(kM m h d !=8)&&decide ((oP m h d).length<=1000)
end Go.Proofs.YteninnkbmoimgaaGreatDoor
namespace aD
open Go Go.RowKit
structure Kc (n0:Nat) (tc:Nat->TypeId->Prop) (W W':World):Prop where
 below:Below n0 W W'
 cells:∀(b:Nat) (cs:Array Value) (t:TypeId) (f:Nat×Nat),¬tc b t->W.heap[b]? =some (.cells cs t f)->W'.heap[b]? =some (.cells cs t f)
theorem Kc.refl (n0:Nat) (tc:Nat->TypeId->Prop) (W:World):Kc n0 tc W W:=⟨Below.refl _ _,fun _ _ _ _ _ h=>h⟩
theorem Kc.trans {n0:Nat} {tc:Nat->TypeId->Prop} {A B C:World} (h:Kc n0 tc A B) (k:Kc n0 tc B C):Kc n0 tc A C:=⟨h.below.trans k.below,fun b d t f e g=>k.cells b d t f e (h.cells b d t f e g)⟩
theorem Kc.mono {n0:Nat} {tc d:Nat->TypeId->Prop} {A B:World} (h:Kc n0 tc A B) (l:∀b t,tc b t->d b t):Kc n0 d A B:=⟨h.below,fun b e t f j g=>h.cells b e t f (fun i=>j (l b t i)) g⟩
theorem Kc.blk {n0:Nat} {tc:Nat->TypeId->Prop} {A B:World} (h:Kc n0 tc A B) {b:Nat} {d:Array Value} {t:TypeId} (e:ah A b (.cells d t)) (f:¬tc b t):ah B b (.cells d t):=h.cells b d t _ f e
theorem Kc.lP {n0:Nat} {tc:Nat->TypeId->Prop} {A B:World} (h:Ext A B) (e:n0<=A.heap.size):Kc n0 tc A B:=
 ⟨Below.mono h e,fun b g t f _ d=>(h.block b (gX.1 d).1).trans d⟩
theorem Kc.qY {n0 g:Nat} {tc:Nat->TypeId->Prop} {A B:World} {j:Array Value} {t:TypeId} (c:aI g A B) (q:n0<=g) (m:ah A g (.cells j t)) (o:tc g t):Kc n0 tc A B:=
 ⟨⟨c.os,c.tape,c.output,Cl,fun k r=>c.block k af⟩,fun b l u f n d=>by
   by_cases e:b=g
   ·subst e;have i:A.heap[b]? =some (.cells j t):=m;rw[i] at d;cases d
    exact absurd o n
   ·exact(c.block b e).trans d⟩
theorem Kc.ij {n0:Nat} {tc:Nat->TypeId->Prop} {A B:World} {base:Nat} {e:TypeId} {size:Nat} {v:Value} {n:Nat} {xs:List Value} (l:A.grownBy B v.ownBlock) (m:A.ownsRow base e size v n xs) (u:n0<=base) (r:base<=A.heap.size) (y:∀b,tc b e):Kc n0 tc A B:=by
 refine⟨Below.ij l m u r,fun b z t f j d=>(l.block b (gX.1 d).1 (fun e=>?_)).trans d⟩;obtain⟨_,⟨rfl,_⟩ | ⟨g,o,q,rfl,_,i,_⟩⟩:=m
 ·simp[Value.ownBlock] at e
 ·simp[Value.ownBlock] at e;subst e;rw[i] at d;cases d
  exact j (y _)
theorem Kc.p7 {n0 l:Nat} {tc:Nat->TypeId->Prop} {W:World} {o:Obj} (g:Obj) (h:W.heap[l]? =some o) (j:o.isCells=false) (i:n0<=l):Kc n0 tc W (W.putObj l g):=by
 have n:=(gX.1 h).1;refine⟨(Below.refl n0 W).grown (grownBy_putObj' W l g) af (fun k e=>by cases e;exact i),fun b m t f _ d=>?_⟩;refine(World.putObj_heap_other (fun e=>?_)).trans d;subst e;rw[h] at d;cases d
 simp[Obj.isCells] at j
theorem Below.qY {n0 g:Nat} {A B:World} (c:aI g A B) (b:n0<=g):Below n0 A B:=⟨c.os,c.tape,c.output,Cl,fun k d=>c.block k af⟩
theorem KeepsFrom.lP {B:Nat} {W b:World} (h:Ext W b):KeepsFrom B W b:=⟨h.size,fun k _ _ d _=>(h.block k (gX.1 d).1).trans d⟩
theorem KeepsFrom.qY {B g:Nat} {W f:World} {i:Array Value} {t:TypeId} (c:aI g W f) (j:ah W g (.cells i t)):KeepsFrom B W f:=
 ⟨by rw[c.size];exact aH _,fun k o _ d l=>by
   by_cases e:k=g
   ·subst e;have b:W.heap[k]? =some (.cells i t):=j;rw[b] at d;cases d
    simp[Obj.isCells] at l
   ·exact(c.block k e).trans d⟩
theorem KeepsFrom.ij {B:Nat} {W f:World} {base:Nat} {e:TypeId} {size:Nat} {v:Value} {n:Nat} {xs:List Value} (i:W.grownBy f v.ownBlock) (q:W.ownsRow base e size v n xs):KeepsFrom B W f:=
 ⟨i.size,fun k o _ b m=>(i.block k (gX.1 b).1 (fun e=>by
   obtain⟨_,⟨rfl,_⟩ | ⟨g,j,l,rfl,_,d,_⟩⟩:=q
   ·simp[Value.ownBlock] at e
   ·simp[Value.ownBlock] at e;subst e;rw[d] at b;cases b
    simp[Obj.isCells] at m)).trans b⟩
def aqc {α:Type} (B n0:Nat) (f:Nat->TypeId->Prop) (I:List α->World->Prop) (e:Code->List α->World->Prop) (xs:List α) (W d:World):Exit->Act->World->Prop
 | .normal,_,b=>KeepsFrom B d b/\Kc n0 f W b/\I xs b
 | .ret,_,b=>KeepsFrom B d b/\e .ret xs b
 | .exit id,_,b=>KeepsFrom B d b/\e (.exit id) xs b
 | .goto t,_,b=>KeepsFrom B d b/\e (.goto t) xs b
 | .panic _,_,_=>False
 | .outgrown,_,_=>False
def Ty {α:Type} (P:Program) (j:Nat) (m:Array Value) (encs:α->Array Value) (n0:Nat) (tI n:Nat->TypeId->Prop) (S i:List α->World->Prop) (g:List α->α->World->Prop) (w:World):Prop:=
 ∀(l:Nat) (J d:List α->World->Prop) (W:World),Ext w W->
  (∀pre A B,Kc n0 tI A B->KeepsFrom w.heap.size A B->J pre A->J pre B)->(∀pre A B,Kc n0 tI A B->KeepsFrom w.heap.size A B->d pre A->d pre B)->
  (∀pre x f,J pre f->g pre x f->YieldAt Fence.wide 2 P l (encs x) f fun e b=>
    (e=.returned (.bool true)/\J (pre++[x]) b/\Kc n0 n f b)∨(e=.returned (.bool false)/\d (pre++[x]) b))->
  J [] W->
  Calls P j (#[.func (.yield l) #[] #[]]++m) W fun e b=>(∃v,e=.returned v)/\((∃xs,S xs b/\J xs b)∨(∃pre,i pre b/\d pre b))
variable {P:Program}
theorem Tz {α:Type} {g:Operand} {ps:Array Tmp} {assign body:Code} {Q:Exit->Act->World->Prop} {a:Act} {w:World} {n0:Nat} (hn0:n0<=w.heap.size) {tI tB:Nat->TypeId->Prop}
 {T:Nat} {lb:Array Value} (hg:a.eval g=.func (.func T) #[] lb) (eg:∀args w,(callFunc T args).run P w=.ok (.enter T args) w)
 {encs:α->Array Value} (hps:∀x,(encs x).size=ps.size) {S Sp:List α->World->Prop}
 (hS:∀xs A B,Kc n0 (fun _ _=>False) A B->S xs A->S xs B) (hSp:∀xs A B,Kc n0 (fun _ _=>False) A B->Sp xs A->Sp xs B)
 {Nx:List α->α->World->Prop} (Z:Ty P T lb encs n0 tI tB S Sp Nx w)
 (I:List α->World->Prop) (V:Code->List α->World->Prop) (hI:∀pre A B,Kc n0 tI A B->I pre A->I pre B) (z:∀c pre A B,Kc n0 tI A B->V c pre A->V c pre B) (h0:I [] w)
 (G:∀(l:Nat) (pre:List α) (x:α) (W:World),w.heap.size<=W.heap.size->I pre W->Nx pre x W->
   assign.wpIn (Fence.wide.inRound l) 2 P (Exit.then (fun a1 q=>KeepsFrom w.heap.size W q/\
    ∀H,Kc n0 (fun _ _=>False) q H->q.heap.size=H.heap.size->body.wpIn (Fence.wide.inRound l) 2 P (aqc w.heap.size n0 tB I V (pre++[x]) W H) a1 H) (fun _ _ _=>False))
    {tmps:=(ps.zip (encs x)).foldl (fun t (p,v)=>t.setIfInBounds p v) a.tmps,defers:=[]} W)
 (L:∀(D:Nat) (xs:List α) (W:World),w.heap.size<=D->S xs W->I xs W->W.heap[D]? =some (.deferred (some []))->Q .normal {a with defers:={target:=.collected D,args:=#[]}::a.defers} W)
 (O:∀(D:Nat) (c:Code) (pre:List α) (W:World),w.heap.size<=D->Sp pre W->V c pre W->W.heap[D]? =some (.deferred (some []))->c.wp P Q {a with defers:={target:=.collected D,args:=#[]}::a.defers} W):
 (Code.rangeFunc g ps assign body).wp P Q a w:=by
 refine(wpIn_wide (n:=3)).1 (wpIn_rangeFunc ?_);intro fn _;show ∃_,_;obtain⟨d,hrec⟩:∃d:LoopState->Option Code->Loop,d=fun st pe=>{state:=st,pending:=pe,fn,tmps:=a.tmps,params:=ps,assign,body,defers:=w.heap.size}:=⟨_,rfl⟩;obtain⟨q,C⟩:∃q,(w.alloc (.deferred (some []))).alloc (.loop (d .ready none))=q:=⟨_,rfl⟩;have R:Ext w q:=by rw[<-C];exact(Ext.alloc _ _).trans (Ext.alloc _ _)
 have hL1:q.heap[w.heap.size+1]? =some (.loop (d .ready none)):=by
  rw[<-C];have:=World.alloc_heap_new (w.alloc (.deferred (some []))) (.loop (d .ready none));rwa[World.size_alloc] at this
 have hK1:q.heap[w.heap.size]? =some (.deferred (some [])):=by
  rw[<-C];exact((Ext.alloc (w.alloc _) _).block _ av).trans (World.alloc_heap_new w _)
 have hI1:I [] q:=hI _ _ _ (Kc.lP R hn0) h0;refine⟨w.heap.size+1,[{target:=.collected w.heap.size,args:=#[]}],q,{target:=.fn (.func T) lb,args:=#[.func (.yield (w.heap.size+1)) #[] #[]]},q,T,
  #[.func (.yield (w.heap.size+1)) #[] #[]]++lb,q,?_,?_,fun _ _=>trivial,?_,fun _=>af,?_⟩
 ·rw[<-C,hrec];exact run_enterLoop_outer _ _ _ _ _
 ·simp only[resolve,hg];simp[go_sem]
 ·simp[invoke,go_sem,eg]
 ·refine callsIn_wide.2 ((Z (w.heap.size+1)
   (fun pre W=>(w.heap.size<=W.heap.size/\I pre W)/\W.heap[w.heap.size+1]? =some (.loop (d .ready none))/\W.heap[w.heap.size]? =some (.deferred (some [])))
   (fun pre W=>∃c,V c pre W/\W.heap[w.heap.size+1]? =some (.loop (d .done (some c)))/\W.heap[w.heap.size]? =some (.deferred (some [])))
   q R
   (fun pre A B F U ⟨⟨hz,E⟩,hl,hd⟩=>⟨⟨fN hz U.size,hI pre A B F E⟩,U.same _ _ af hl rfl,U.same _ _ (aH _) hd rfl⟩)
   (fun pre A B F U ⟨c,E,hl,hd⟩=>⟨c,z c pre A B F E,U.same _ _ af hl rfl,U.same _ _ (aH _) hd rfl⟩)
   ?_ ⟨⟨R.size,hI1⟩,hL1,hK1⟩).mono ?_)
  ·rintro pre x W ⟨⟨hz,E⟩,hl,F⟩ lQ;have hlt:w.heap.size+1<W.heap.size:=(gX.1 hl).1;have hy:=run_yield (P:=P) (args:=encs x) hl (by rw[hrec];exact hps x);rw[hrec] at hy;refine⟨fn,_,assign,body,hy,roundIn_of_wpIn trivial ?_⟩;refine wpIn_mono (G (w.heap.size+1) pre x W hz E lQ) ?_;rintro e a1 Wa u;cases e with
   | normal=>
     obtain⟨X,K⟩:=u;have M:=X.same _ _ af hl rfl;have hka:=X.same _ _ (aH _) F rfl;have Y:w.heap.size+1<Wa.heap.size:=(gX.1 M).1;refine⟨_,run_beginRound M (by rw[hrec]),?_⟩;have hl2:(Wa.putObj (w.heap.size+1) (.loop {d .ready none with state:=.busy})).heap[w.heap.size+1]? =some (.loop {d .ready none with state:=.busy}):=World.putObj_heap_same Y;have hk2:(Wa.putObj (w.heap.size+1) (.loop {d .ready none with state:=.busy})).heap[w.heap.size]? =some (.deferred (some [])):=(World.putObj_heap_other af).trans hka;refine wpIn_mono (K _ (Kc.p7 _ M rfl af) av) ?_;generalize Wa.putObj (w.heap.size+1) (.loop {d .ready none with state:=.busy})=H at *;have fin:∀(b:Option Code) (r:World),KeepsFrom w.heap.size H r->
      (Instr.endRound (w.heap.size+1) b).run P r=.ok (.bool b.isNone) (r.putObj (w.heap.size+1) (.loop (d (if b.isNone then .ready else .done) b)))/\
      r.heap[w.heap.size+1]? =some (.loop {d .ready none with state:=.busy})/\w.heap.size<=r.heap.size/\
      (r.putObj (w.heap.size+1) (.loop (d (if b.isNone then .ready else .done) b))).heap[w.heap.size+1]? =some (.loop (d (if b.isNone then .ready else .done) b))/\
      (r.putObj (w.heap.size+1) (.loop (d (if b.isNone then .ready else .done) b))).heap[w.heap.size]? =some (.deferred (some [])):=fun b r i=>by
      have f:=i.same _ _ af hl2 rfl;have y:=(gX.1 f).1;have:=run_endRound (P:=P) b f;rw[hrec] at this⊢;exact⟨this,by rw[hrec] at f;exact f,af,World.putObj_heap_same y,(World.putObj_heap_other af).trans (i.same _ _ (aH _) hk2 rfl)⟩
     rintro e a3 r u;cases e with
     | normal=>
       obtain⟨i,hkc,j⟩:=u;obtain⟨N,f,y,o,m⟩:=fin none r i;exact⟨_,_,N,.inl ⟨rfl,⟨⟨by simpa using y,hI _ _ _ (Kc.p7 _ f rfl af) j⟩,o,m⟩,hkc.trans (Kc.p7 _ f rfl af)⟩⟩
     | ret=>
       obtain⟨i,j⟩:=u;obtain⟨N,f,y,o,m⟩:=fin (some .ret) r i;exact⟨_,_,N,.inr ⟨rfl,.ret,z _ _ _ _ (Kc.p7 _ f rfl af) j,o,m⟩⟩
     | exit id=>
       obtain⟨i,j⟩:=u;obtain⟨N,f,y,o,m⟩:=fin (some (.exit id)) r i;exact⟨_,_,N,.inr ⟨rfl,.exit id,z _ _ _ _ (Kc.p7 _ f rfl af) j,o,m⟩⟩
     | goto t=>
       obtain⟨i,j⟩:=u;obtain⟨N,f,y,o,m⟩:=fin (some (.goto t)) r i;exact⟨_,_,N,.inr ⟨rfl,.goto t,z _ _ _ _ (Kc.p7 _ f rfl af) j,o,m⟩⟩
     | panic ch=>exact u.elim
     | outgrown=>exact u.elim
   | exit id=>exact u.elim
   | goto t=>exact u.elim
   | ret=>exact u.elim
   | panic ch=>exact u.elim
   | outgrown=>exact u.elim
  ·rintro e H ⟨⟨v,rfl⟩,(⟨xs,J,⟨_,E⟩,hl,F⟩ | ⟨pre,J,c,E,hl,F⟩)⟩
   ·refine⟨none,_,XG,?_⟩;exact L _ xs _ (aH _) (hS _ _ _ (Kc.p7 _ hl rfl af) J) (hI _ _ _ (Kc.p7 _ hl rfl af) E) ((World.putObj_heap_other af).trans F)
   ·refine⟨some c,_,XG,?_⟩;exact(wpIn_wide (n:=3)).2 (O _ c pre _ (aH _) (hSp _ _ _ (Kc.p7 _ hl rfl af) J) (z _ _ _ _ (Kc.p7 _ hl rfl af) E) ((World.putObj_heap_other af).trans F))
theorem AZ {w:World} {a b:Nat} {d f:Array Value} {t u:TypeId} (h:ah w a (.cells d t)) (k:ah w b (.cells f u)) (g:t≠u):a≠b:=fun e=>by
 subst e;have h':w.heap[a]? =some (.cells d t):=h;have k':w.heap[a]? =some (.cells f u):=k;rw[h'] at k';cases k'
 exact g rfl
def si (F:Fence):Prop:=F=Fence.wide∨∃l,F=Fence.wide.inRound l
theorem si.calls {F:Fence} (h:si F) {n:Nat} {P:Program} {f:FuncId} {args:Array Value} {w:World} {R:Ending->World->Prop} (b:Calls P f args w R):CallsIn F n P f args w R:=by
 rcases h with rfl | ⟨l,rfl⟩
 ·exact callsIn_wide.2 b
 ·exact CallsIn.inRound l (callsIn_wide.2 b)
theorem si.rows {F:Fence} (h:si F) {n:Nat} {P:Program} {row:String} {args:Array Value} {w:World} {R:Value->World->Prop} (d:Rows P row args w R):RowsIn F n P row args w R:=by
 rcases h with rfl | ⟨l,rfl⟩
 ·exact fun c b _=>let⟨v,w',r,s⟩:=d c b;⟨v,w',r,stepsIn_wide.2 s⟩
 ·exact fun c b _=>let⟨v,w',r,s⟩:=d c b;⟨v,w',r,stepsIn_wide.2 s⟩
theorem si.fn {F:Fence} (h:si F) (f:FuncId):F.fn f:=by
 rcases h with rfl | ⟨l,rfl⟩<;>trivial
theorem si.depth {F:Fence} (h:si F):F.depth=none:=by
 rcases h with rfl | ⟨l,rfl⟩<;>rfl
theorem adz {F:Fence} (e:si F) {n:Nat} {P:Program} {o:Oper} {a:Act} {w:World} {K:Act->World->Prop} {Q:Exit->Act->World->Prop} (g:∀c,o.op≠.defer c) (h:o.wp P a w K Q):o.wpIn F n P a w K Q:=by
 refine⟨fun f _=>e.fn f,?_⟩;rw[Oper.semAt_eq _ _ _ g];unfold Oper.wp at h;have i:=e.depth;generalize(execOp a.eval o).run P w=r at h⊢;cases r with
 | ok x w'=>
   cases x with
   | enter f args=>exact⟨fun b=>(by rw[i] at b;cases b),e.calls h⟩
   | row f args=>exact⟨fun b=>(by rw[i] at b;cases b),e.rows h⟩
   | value v=>exact h
   | skip=>exact h
   | defer d=>exact h
   | _=>exact False.elim h
 | halt x w'=>
   cases x with
   | panic v=>exact h
   | _=>exact False.elim h
def DQ (o:Oper):Bool:=match o.op with
 | .defer _=>false
 | _=>true
theorem adA {o:Oper} (h:DQ o=true):∀c,o.op≠.defer c:=fun c e=>by unfold DQ at h;rw[e] at h;cases h
theorem TA {F:Fence} (d:si F) {n:Nat} {P:Program} {ops:Array Oper} {Q:Exit->Act->World->Prop} (e:¬LetsOut Q):∀(l:List Oper) (a:Act) (w:World),l.all DQ=true->wpList P ops Q l a w->wpListIn F n P ops Q l a w
 | [],_,_,_,h=>h
 | o::l,a,w,b,h=>by
   rw[List.all_cons,eu] at b;unfold wpList at h;unfold wpListIn;split
   ·rename_i g;rw[aC g] at h;rcases h with h | h
    ·exact adz d (adA b.1) (Oper.wp_mono (fun a w h=>TA d e l a w b.2 h) h)
    ·exact absurd h.2 e
   ·rename_i g;rw[aA g] at h;exact⟨fun f _=>d.fn f,TA d e l _ _ b.2 h⟩
theorem TB {F:Fence} (d:si F) {n:Nat} {P:Program} {id:Nat} {l:List Oper} {Q:Exit->Act->World->Prop} {a:Act} {w:World} (e:¬LetsOut Q) (b:l.all DQ=true) (h:wpList P l.toArray Q l a w):(Code.region id l.toArray false).wpIn F n P Q a w:=
 wpIn_region_lit (TA d e l a w b h)
theorem MZ {P:Program} {f:FuncId} {fn:Func} {c:Code} {args:Array Value} {w:World} {R:Ending->World->Prop} (d:P.funcs[f]? =some fn) (b:fn.body=some c)
 (h:c.wp P (bodyPostM Fence.wide 3 P fn R) {tmps:=args++Array.replicate (fn.ntmps-args.size) undef,defers:=[]} w):Calls P f args w R:=
 callsIn_wide.1 (callsIn_of_wp_marks d b trivial ((wpIn_wide (n:=3)).2 h))
theorem aqe {P:Program} {fn:Func} {R:Ending->World->Prop} {b:Array Value} {v:Value} {w:World} (d:(results fn b).run P w=.ok v w) (h:R (.returned v) w):bodyPostM Fence.wide 3 P fn R .ret ⟨b,[]⟩ w:=⟨v,d,h⟩
theorem Ig {P:Program} {fn:Func} {R:Ending->World->Prop} {b:Array Value} {v:Value} {w:World} {D:Nat} (d:w.heap[D]? =some (.deferred (some []))) (e:(results fn b).run P (w.putObj D (.deferred none))=.ok v (w.putObj D (.deferred none))) (h:R (.returned v) (w.putObj D (.deferred none))):
 bodyPostM Fence.wide 3 P fn R .ret ⟨b,[{target:=.collected D,args:=#[]}]⟩ w:=
 ⟨av,.inl ⟨_,_,rfl,run_takeDeferred d,⟨v,e,h⟩⟩⟩
section
variable {P:Program} {Q:Exit->Act->World->Prop} {w0:World} {ds:List Deferred}
end
end aD
namespace Go.Proofs.YteninnkbmoimgaaGreatDoor
open Go.RowKit aD
attribute [local go_sem] Oper.semAt_some
def Ih (x:Int):Array Value:=#[.int .i64 x]
def TC (d:Nat):Nat->TypeId->Prop:=fun b t=>b=d/\t=38
def adB (t:TypeId):Prop:=t=156∨t=106∨t=142∨t=38
structure TD (l n0 eb B:Nat) (J Jx:List Int->World->Prop) (tB:Nat->TypeId->Prop) (R:List Int):Prop where
 ty:∀b t,adB t->¬tB b t
 j:∀pre A A',Kc n0 (TC eb) A A'->KeepsFrom B A A'->J pre A->J pre A'
 y:∀pre x W1,J pre W1->pre++[x] <+: R->YieldAt Fence.wide 2 Tryz.prog l (Ih x) W1 fun e W'=>(e=.returned (.bool true)/\J (pre++[x]) W'/\Kc n0 tB W1 W')∨(e=.returned (.bool false)/\Jx (pre++[x]) W')
theorem TD.ext {l n0 f B:Nat} {J d:List Int->World->Prop} {i:Nat->TypeId->Prop} {R:List Int} (Y:TD l n0 f B J d i R) {pre:List Int} {A b:World} (e:Ext A b) (g:n0<=A.heap.size) (h:J pre A):J pre b:=
 Y.j pre A b (Kc.lP e g) (KeepsFrom.lP e) h
def vA (n0 f:Nat) (J g:List Int->World->Prop) (i:Nat->TypeId->Prop) (R pre:List Int) (r:List Int×Int) (W:World) (e:Ending) (d:World):Prop:=
 (e=.returned (.bool true)/\r.2=0/\ah d f (.cells #[.int .i64 0] 38)/\J (pre++r.1) d/\Kc n0 i W d)∨
 (e=.returned (.bool false)/\((r.2≠0/\ah d f (.cells #[.int .i64 r.2] 38)/\J (pre++r.1) d)∨∃b,b <+: R/\g b d))
theorem xq {n0:Nat} {tc:Nat->TypeId->Prop} {w w':World} {base:Nat} {e:TypeId} {size:Nat} {v:Value} {n:Nat} {xs:List Value} (h:w.ownsRow base e size v n xs) (k:Kc n0 tc w w') (l:∀b,¬tc b e):w'.ownsRow base e size v n xs:=by
 refine⟨h.1,?_⟩;rcases h.2 with j | ⟨b,d,f,rfl,g,i,rest⟩
 ·exact .inl j
 ·exact .inr ⟨b,d,f,rfl,g,k.blk i (l b),rest⟩
theorem aqf:(Tryz.prog.info? 142).map (·.size)=some 2:=aj
theorem aqg {f:Int->List Int×Int} {E:List aG} {k:Nat} (b:k<E.length):lT f (E.drop k)=if(f (au E k).2).2≠0 then f (au E k).2 else((f (au E k).2).1++(lT f (E.drop (k+1))).1,(lT f (E.drop (k+1))).2):=by
 have e:E.drop k=au E k::E.drop (k+1):=by
  rw[gz b];simp[au,List.getD,b]
 rw[e,lT]
theorem aqh (p:Option Addr) (C n:Nat) (m:List (List UInt8)) (h:Hd) (d:DS) (w0:World) (hs:bk w0 p m) (hn:m.length=n) (hm:Small m) (l F B:Nat) (rq:w0.heap.size<=F) (J O:List Int->World->Prop) (H:Nat->TypeId->Prop) (R:List Int) (Y:TD l w0.heap.size F B J O H R):
 ∀(lv:Nat),lv<=6->∀(f:Int) (pre:List Int) (W:World),Ext w0 W->ah W F (.cells #[.int .i64 0] 38)->J pre W->pre++(iE m d lv f).1 <+: R->
 Calls Tryz.prog 117 #[.agg (bH (.slice p n C) h d),.int .i64 f,.int .i64 ((lv:Nat):Int),.pointer (some ⟨F,0,none⟩),.func (.yield l) #[] #[]] W (vA w0.heap.size F J O H R pre (iE m d lv f) W):=by
 intro lv;induction lv with
 | zero=>
   intro _ f pre W hx U hj D;have u:=Ext.alloc W (.cells (bH (.slice p n C) h d) 156);have hYx:=Y.y pre f _ (Y.ext u hx.size hj) D;have AX:=ag (u.blk _ _ U);have M0:=ag (Kc.lP (tc:=H) u hx.size);have HY:=ag Y;have Hpx:=ag D;obtain⟨fn,tmps,assign,body,hy,hR⟩:=hYx;dsimp only[Ih] at hy;show Calls _ _ _ _ (vA w0.heap.size F J O H R pre ([f],0) W);have HT:Hid (∀e t,e=.returned (.bool true)->J (pre++[f]) t->Kc w0.heap.size H (W.alloc (.cells (bH (.slice p n C) h d) 156)) t->vA w0.heap.size F J O H R pre ([f],0) W e t):=ag (fun e t h1 h2 h3=>.inl ⟨h1,rfl,h3.blk AX.out (HY.out.ty _ _ (.inr (.inr (.inr rfl)))),h2,M0.out.trans h3⟩);have HF:Hid (∀e t,e=.returned (.bool false)->O (pre++[f]) t->vA w0.heap.size F J O H R pre ([f],0) W e t):=ag (fun e t h1 h2=>.inr ⟨h1,.inr ⟨_,Hpx.out,h2⟩⟩);clear hx U hj D u hs;generalize vA w0.heap.size F J O H R pre ([f],0) W=OUT at *;go_enter Tryz.func117,Tryz.ntmps117;go_upto_region 2 with(fail);refine(wpIn_wide (n:=3)).1 ?_
   gi_wp2
   refine hR.mono ?_;rintro e t (⟨rfl,hj',hk'⟩ | ⟨rfl,adC⟩)
   ·have HO:=ag (HT.out _ t rfl hj' hk');clear hj' hk' hy hR
    gi_wp2
    go_wp2_with fail;exact HO.out
   ·have HO:=ag (HF.out _ t rfl adC);clear adC hy hR
    gi_wp2
    go_wp2_with fail;exact HO.out
 | succ lv ih=>
   intro DA f pre W hx U hj D;have u:=Ext.alloc W (.cells (bH (.slice p n C) h d) 156);have hb1:=ah.new W (.cells (bH (.slice p n C) h d) 156);have hL:=fun t (e:Ext W t)=>ab4 p C n m h d f ((lv+1:Nat):Int) t (hs.ext (hx.trans e)) hn hm;obtain⟨T,hT⟩:∃T,T=iE m d (lv+1) f:=⟨_,rfl⟩;rw[<-hT] at D⊢;rw[iE] at hT;have TE:=ag (fun pg pr t=>ih af pg pr t);have HY:=ag Y;have HQ:=ag (And.intro hx (And.intro U (And.intro hj D)));obtain⟨G,nM⟩:∃G,G=lv+1:=⟨_,rfl⟩;rw[<-nM] at hL hT⊢;have hne:(((G:Nat):Int)==0)=false:=aY;have hnz:¬G=0:=af;have hw1:IntKind.i64.wrap (((G:Nat):Int)-1)=((lv:Nat):Int):=pJ;clear nM ih hx U hj D hs;unfold mo at hL;have adD:Hid (∀e t,vA w0.heap.size F J O H R pre T W e t->vA w0.heap.size F J O H R pre T W e t):=ag (fun _ _ h=>h);generalize vB:vA w0.heap.size F J O H R pre T W=OUT at *;by_cases hE:(bF m d f ((G:Nat):Int)).2=0
   ·have hsp:=(qW hE).1;rw[aA (by rw[hE];simp)] at hT;have HL:Hid (∀t,Ext W t->Calls Tryz.prog 147 #[.agg (bH (.slice p n C) h d),.int .i64 f,.int .i64 ((G:Nat):Int)] t fun e w'=>Ext t w'/\∃q c,e=.returned (.tuple #[.agg #[.int .i64 (bF m d f ((G:Nat):Int)).1.level,.int .i64 (bF m d f ((G:Nat):Int)).1.next,.slice q (bF m d f ((G:Nat):Int)).1.ai.length c],.int .i64 0])/\w'.ownsRow 0 142 2 (.slice q (bF m d f ((G:Nat):Int)).1.ai.length c) (bF m d f ((G:Nat):Int)).1.ai.length (aV (bF m d f ((G:Nat):Int)).1.ai)):=ag (fun t e=>by
     have:=hL t e;rw[hE] at this;exact this.mono (fun e' w' ⟨a1,q,c,a2,a3⟩=>⟨a1,q,c,a2,fJ a3 (bL _)⟩))
    have GG:=hsp.l2;have HT:=ag hT;have DR:=ag vB;clear hE hsp hL hT adD vB;generalize(bF m d f ((G:Nat):Int)).1=z at *;go_enter Tryz.func117,Tryz.ntmps117;go_upto_region 1 with(fail);refine aR (fun w1=>Ext W w1/\ah w1 W.heap.size (.cells (bH (.slice p n C) h d) 156)) ⟨u,hb1⟩ ?_;clear u hb1;rintro w1 ⟨u,hb1⟩;go_upto_region 7 with(first
     | (refine WR ?_)
     | (go_at_call 147;refine(HL.out _ u).mono ?_;rintro e w2 ⟨L,q1,c1,rfl,gT⟩)
     | (refine aU rfl 106 (.tmp 11) (.tmp 25) rfl _ #[.int .i64 z.level,.int .i64 z.next,.slice q1 z.ai.length c1] rfl rfl _ _ (ah.new w2 _) bq rfl cT ?_;intro w3 X K;have M:=K.ext (Ext.alloc w2 _) (aH _)))
    have I:=(u.trans L).trans M;have Bj:w3.cell? ⟨w2.heap.size,2,none⟩=some (.slice q1 z.ai.length c1):=ah.val X 2 _ rfl;have DT:=ah.lt X;have N:=ag (And.intro I (And.intro ((M.blk _ _ (L.blk _ _ hb1))) (fo (aO gT (Ext.alloc w2 _)) aq (ah.new w2 _) K)));clear u hb1 L gT X K M I;go_upto_region 8 with(fail);have hK3:Kc w0.heap.size H W w3:=Kc.lP N.out.1 HQ.out.1.size;have TF:=HY.out.ext N.out.1 HQ.out.1.size HQ.out.2.2.1;go_loopw[35] (fun i wr=>∃(k:Nat) (E:List Int),k<=z.ai.length/\i=.int .i64 k/\E++(lT (iE m d lv) (z.ai.drop k)).1=T.1/\(lT (iE m d lv) (z.ai.drop k)).2=T.2/\Kc w0.heap.size H W wr/\ah wr F (.cells #[.int .i64 0] 38)/\ah wr W.heap.size (.cells (bH (.slice p n C) h d) 156)/\wr.ownsRow 0 142 2 (.slice q1 z.ai.length c1) z.ai.length (aV z.ai)/\J (pre++E) wr) (fun i _=>z.ai.length-(intOf i).toNat)
    case atStart=>exact⟨0,[],bL _,rfl,by rw[HT.out];rfl,by rw[HT.out];rfl,hK3,N.out.1.blk _ _ HQ.out.2.1,N.out.2.1,N.out.2.2,by simpa using TF⟩
    case round=>
     clear hK3 TF Bj DT;obtain⟨k,E,hk,rfl,hA,hB,hK,U,hb,ho,hj⟩:=hrel;by_cases V:k<z.ai.length
     ·have gB:(k:Int)<z.ai.length:=af;obtain⟨g,rfl,hgl,hc0,hc1⟩:∃g,q1=some ⟨g,0,none⟩/\g<wr.heap.size/\wr.cell? ⟨g,k*2,none⟩=some (.string ⟨(au z.ai k).1.toArray⟩)/\wr.cell? ⟨g,k*2+1,none⟩=some (.int .i64 (au z.ai k).2):=by
       obtain⟨g,off,hq,hgl,iz⟩:=(mq ho).at k V;obtain⟨g',_,hq',_⟩:=jM ho af;rw[hq'] at hq;simp only[mz,Addr.mk.injEq,kD] at hq;obtain⟨rfl,rfl⟩:=hq;obtain⟨a0,a1⟩:=iz k V;rw[nB] at a0 a1;exact⟨g',hq',hgl,a0,a1⟩
      rw[aqg V] at hA hB;have D:(pre++E)++(iE m d lv (au z.ai k).2).1 <+: R:=by
       refine List.IsPrefix.trans ?_ HQ.out.2.2.2;rw[jk,<-hA];refine(List.prefix_append_right_inj _).2 ((List.prefix_append_right_inj _).2 ?_);split
       ·exact List.prefix_refl _
       ·exact List.prefix_append _ _
      have HI:Hid (∀t,Ext wr t->Calls Tryz.prog 117 #[.agg (bH (.slice p n C) h d),.int .i64 (au z.ai k).2,.int .i64 ((lv:Nat):Int),.pointer (some ⟨F,0,none⟩),.func (.yield l) #[] #[]] t (vA w0.heap.size F J O H R (pre++E) (iE m d lv (au z.ai k).2) t)):=ag (fun t e=>by
       have MW:Ext w0 wr:=Ext.trans' HQ.out.1 hK.below;exact TE.out _ (pre++E) t (MW.trans e) (e.blk _ _ U) (HY.out.ext e MW.size hj) D)
      have HS:=ag (And.intro hK (And.intro U (And.intro hb ho)));have HA:=ag hA;have HB:=ag hB;have hlb:=ah.lt hb;clear hA hB hK U ho hj D;generalize(au z.ai k).1=s at *;generalize(au z.ai k).2=TG at *;generalize iE m d lv TG=r at *;go_upto_region 10 with(refine aU rfl 142 (.tmp 14) (.tmp 38) rfl _ #[.string ⟨s.toArray⟩,.int .i64 TG] rfl rfl _ _ (ah.new wr _) aqf rfl cT ?_;intro w4 ku yP);have Z:=yP.ext (Ext.alloc wr _) (aH _);have DU:=HI.out w4 Z;unfold vA at DU;have DU:=ag DU;have Xl:=Z.blk _ _ HS.out.2.2.1;have cx:w4.cell? ⟨wr.heap.size,1,none⟩=some (.int .i64 TG):=ah.val ku 1 _ rfl;have lx:=ah.lt ku;have hK4:Kc w0.heap.size H wr w4:=Kc.lP Z (Ext.trans' HQ.out.1 HS.out.1.below).size;have HK4:=ag (HS.out.1.trans hK4);have uA:=ag (aO HS.out.2.2.2 Z);have Hb4:=ag Xl;clear yP Z hK4 ku hgl hc0 hc1 hlb HI;go_wp2_with(first
       | ((with_reducible refine aW 39 ?_);refine bz rfl 156 (.tmp 5) rfl _ rfl _ _ _ Hb4.out vV rfl oq ?_)
       | (go_at_call 117;refine DU.out.mono ?_;rintro e t (⟨rfl,h1,h2,h3,h4⟩ | ⟨rfl,h5⟩)))
      ·have e1:E++r.1++(lT (iE m d lv) (z.ai.drop (k+1))).1=T.1:=by
        have:=HA.out;rw[aA (by rw[h1];simp)] at this;rw[jk];exact this
       have e2:(lT (iE m d lv) (z.ai.drop (k+1))).2=T.2:=by
        have:=HB.out;rw[aA (by rw[h1];simp)] at this;exact this
       refine⟨⟨k+1,E++r.1,af,bX,e1,e2,HK4.out.trans h4,h2,h4.blk Hb4.out (HY.out.ty _ _ (.inl rfl)),xq uA.out h4 (fun b=>HY.out.ty b _ (.inr (.inr (.inl rfl)))),by rw[<-jk];exact h3⟩,?_⟩;simp[intOf];omega
      ·rw[<-DR.out];refine .inr ⟨rfl,?_⟩;rcases h5 with⟨a1,a2,a3⟩ | h5
       ·have e1:E++r.1=T.1:=by
         have:=HA.out;rw[aC a1] at this;exact this
        have e2:r.2=T.2:=by
         have:=HB.out;rw[aC a1] at this;exact this
        exact .inl ⟨by rw[<-e2];exact a1,by rw[<-e2];exact a2,by rw[<-e1,<-jk];exact a3⟩
       ·exact .inr h5
     ·have gB:decide ((k:Int)<z.ai.length)=false:=aM af;have adH:¬k<z.ai.length:=V;rw[jI af] at hA hB;have HO:Hid (OUT (.returned (.bool true)) wr):=ag (by
       rw[<-DR.out];refine .inl ⟨rfl,hB.symm,U,?_,hK⟩;rw[<-hA];simpa[lT] using hj)
      clear hA hB hK U hb ho hj V;go_wp2_with fail;exact HO.out
   ·have vC:((bF m d f ((G:Nat):Int)).2 !=0)=true:=by simpa using hE
    rw[aC hE] at hT;have HO:Hid (∀t,Ext W t->ah t F (.cells #[.int .i64 0] 38)->OUT (.returned (.bool false)) (t.setCell ⟨F,0,none⟩ (.int .i64 (bF m d f ((G:Nat):Int)).2))):=ag (fun t e hb=>by
     rw[<-vB,hT];refine .inr ⟨rfl,.inl ⟨hE,ah.setCell hb,?_⟩⟩;refine HY.out.j _ t _ (Kc.qY aI.setCell rq hb ⟨rfl,rfl⟩) (KeepsFrom.qY aI.setCell hb) ?_;simpa using HY.out.ext e HQ.out.1.size HQ.out.2.2.1)
    have HL:=ag hL;clear hE hL hT adD vB;generalize(bF m d f ((G:Nat):Int)).2=er at *;generalize(bF m d f ((G:Nat):Int)).1=z at *;go_enter Tryz.func117,Tryz.ntmps117;go_upto_region 1 with(fail);refine aR (fun w1=>Ext W w1/\ah w1 W.heap.size (.cells (bH (.slice p n C) h d) 156)) ⟨u,hb1⟩ ?_;clear u hb1;rintro w1 ⟨u,hb1⟩;go_upto_region 5 with(first
     | (refine WR ?_)
     | (go_at_call 147;refine(HL.out _ u).mono ?_;rintro e w2 ⟨L,q1,c1,rfl,gT⟩)
     | (refine aU rfl 106 (.tmp 11) (.tmp 25) rfl _ #[.int .i64 z.level,.int .i64 z.next,.slice q1 z.ai.length c1] rfl rfl _ _ (ah.new w2 _) bq rfl cT ?_;intro w3 X K;have M:=K.ext (Ext.alloc w2 _) (aH _)))
    have I:=(u.trans L).trans M;have S:=I.blk _ _ HQ.out.2.1;have ce:w3.cell? ⟨F,0,none⟩=some (.int .i64 0):=ah.val S 0 _ rfl;have fe:=ah.free S 0;have le:=ah.lt S;have M3:=ag (HO.out w3 I S);clear I S u hb1 L gT X K M;go_wp2_with fail;exact M3.out
end Go.Proofs.YteninnkbmoimgaaGreatDoor
namespace Go.Proofs.YteninnkbmoimgaaGreatDoor
open Go.RowKit aD
structure DV (g0 g1 g2 g3 eb:Nat) (q:Value) (h:Hd) (d:DS) (root lv:Int) (w:World):Prop where
 tr:ah w g0 (.cells (bH q h d) 156)
 pg:ah w g1 (.cells #[.int .i64 root] 3)
 lv:ah w g2 (.cells #[.int .i64 lv] 3)
 pt:ah w g3 (.cells #[.pointer (some ⟨eb,0,none⟩)] 88)
 er:ah w eb (.cells #[.int .i64 0] 38)
theorem DV.ext {g j l m f:Nat} {q:Value} {h:Hd} {d:DS} {b lv:Int} {w w':World} (i:DV g j l m f q h d b lv w) (e:Ext w w'):DV g j l m f q h d b lv w':=⟨e.blk _ _ i.tr,e.blk _ _ i.pg,e.blk _ _ i.lv,e.blk _ _ i.pt,e.blk _ _ i.er⟩
theorem aql (q:Value) (h:Hd) (d:DS) (b lv:Int) (f:Nat) (w:World) (u:ah w f (.cells #[.int .i64 0] 38)):
 Calls Tryz.prog 83 #[.agg (bH q h d),.int .i64 b,.int .i64 lv,.pointer (some ⟨f,0,none⟩)] w fun e w'=>Ext w w'/\∃n o r t,e=.returned (.func (.func 116) #[] #[.pointer (some ⟨n,0,none⟩),.pointer (some ⟨o,0,none⟩),.pointer (some ⟨r,0,none⟩),.pointer (some ⟨t,0,none⟩)])/\DV n o r t f q h d b lv w':=by
 have y:=ah.new w (.cells (bH q h d) 156);have m:=Ext.alloc w (.cells (bH q h d) 156);have k1:=ah.new (w.alloc (.cells (bH q h d) 156)) (.cells #[.int .i64 b] 3);have j:=Ext.alloc (w.alloc (.cells (bH q h d) 156)) (.cells #[.int .i64 b] 3);have k2:=ah.new ((w.alloc (.cells (bH q h d) 156)).alloc (.cells #[.int .i64 b] 3)) (.cells #[.int .i64 lv] 3);have i:=Ext.alloc ((w.alloc (.cells (bH q h d) 156)).alloc (.cells #[.int .i64 b] 3)) (.cells #[.int .i64 lv] 3);have l:=ah.new (((w.alloc (.cells (bH q h d) 156)).alloc (.cells #[.int .i64 b] 3)).alloc (.cells #[.int .i64 lv] 3)) (.cells #[.pointer (some ⟨f,0,none⟩)] 88);have g:=Ext.alloc (((w.alloc (.cells (bH q h d) 156)).alloc (.cells #[.int .i64 b] 3)).alloc (.cells #[.int .i64 lv] 3)) (.cells #[.pointer (some ⟨f,0,none⟩)] 88);have z:Hid (DV w.heap.size (w.heap.size+1) (w.heap.size+1+1) (w.heap.size+1+1+1) f q h d b lv ((((w.alloc (.cells (bH q h d) 156)).alloc (.cells #[.int .i64 b] 3)).alloc (.cells #[.int .i64 lv] 3)).alloc (.cells #[.pointer (some ⟨f,0,none⟩)] 88))):=ag (by
  simp only[World.size_alloc] at k1 k2 l;exact⟨g.blk _ _ (i.blk _ _ (j.blk _ _ y)),g.blk _ _ (i.blk _ _ k1),g.blk _ _ k2,l,g.blk _ _ (i.blk _ _ (j.blk _ _ (m.blk _ _ u)))⟩)
 have B:=ag (((m.trans j).trans i).trans g);clear y k1 k2 l m j i g u;go_enter Tryz.func83,Tryz.ntmps83;go_wp2;go_ret;exact⟨B.out,_,_,_,_,rfl,z.out⟩
theorem aqm (p:Option Addr) (u n:Nat) (m:List (List UInt8)) (h:Hd) (d:DS) (f:Int) (H:Nat) (F z B C j:Nat) (w0 w:World) (X:bk w0 p m) (V:m.length=n) (U:Small m) (hH:H<=6) (he:Ext w0 w) (I:w0.heap.size<=j)
 (T:DV F z B C j (.slice p n u) h d f ((H:Nat):Int) w) (K:Nat->TypeId->Prop) (O:∀b t,adB t->¬K b t):
 Ty Tryz.prog 116 #[.pointer (some ⟨F,0,none⟩),.pointer (some ⟨z,0,none⟩),.pointer (some ⟨B,0,none⟩),.pointer (some ⟨C,0,none⟩)] Ih w0.heap.size (TC j) K (fun xs o=>xs=(iE m d H f).1/\ah o j (.cells #[.int .i64 (iE m d H f).2] 38)) (fun pre _=>pre <+: (iE m d H f).1) (fun pre x _=>pre++[x] <+: (iE m d H f).1) w:=by
 intro l J M W Z R G S N;have i:=T.ext Z;have L:=aqh p u n m h d w0 X V U l j w.heap.size I J M K (iE m d H f).1 ⟨O,R,S⟩ H hH f [] W (he.trans Z) i.er N av;have D:Hid (Calls Tryz.prog 117 #[.agg (bH (.slice p n u) h d),.int .i64 f,.int .i64 ((H:Nat):Int),.pointer (some ⟨j,0,none⟩),.func (.yield l) #[] #[]] W fun e o=>∃v,e=.returned (.bool v)/\((ah o j (.cells #[.int .i64 (iE m d H f).2] 38)/\J (iE m d H f).1 o)∨∃g,g <+: (iE m d H f).1/\M g o)):=ag (L.mono (by
  rintro e o (⟨rfl,y,q,E,_⟩ | ⟨rfl,⟨y,q,E⟩ | a4⟩)
  ·exact⟨true,rfl,.inl ⟨by rw[y];exact q,by simpa using E⟩⟩
  ·exact⟨false,rfl,.inl ⟨q,by simpa using E⟩⟩
  ·exact⟨false,rfl,.inr a4⟩))
 generalize iE m d H f=r at *;have ht:=i.tr;have c1:W.cell? ⟨z,0,none⟩=some (.int .i64 f):=ah.val i.pg 0 _ rfl;have c2:W.cell? ⟨B,0,none⟩=some (.int .i64 ((H:Nat):Int)):=ah.val i.lv 0 _ rfl;have c3:W.cell? ⟨C,0,none⟩=some (.pointer (some ⟨j,0,none⟩)):=ah.val i.pt 0 _ rfl;have l1:=ah.lt i.pg;have l2:=ah.lt i.lv;have l3:=ah.lt i.pt;clear X V U R G S O T N L i;show Calls Tryz.prog 116 #[.func (.yield l) #[] #[],.pointer (some ⟨F,0,none⟩),.pointer (some ⟨z,0,none⟩),.pointer (some ⟨B,0,none⟩),.pointer (some ⟨C,0,none⟩)] W _;go_enter Tryz.func116,Tryz.ntmps116;go_wp2_with(first
  | ((with_reducible refine aW 6 ?_);refine bz rfl 156 (.tmp 1) rfl _ rfl _ _ _ ht vV rfl oq ?_)
  | (go_at_call 117;refine D.out.mono ?_;rintro e o ⟨v,rfl,Y⟩;have Hw:=ag Y;clear Y))
 go_end0;refine⟨⟨_,rfl⟩,?_⟩;rcases Hw.out with⟨y,q⟩ | ⟨g,y,q⟩
 ·exact .inl ⟨_,⟨rfl,y⟩,q⟩
 ·exact .inr ⟨g,y,q⟩
end Go.Proofs.YteninnkbmoimgaaGreatDoor
namespace aD
theorem aqn {m:List (List UInt8)} {h:Hd} {d:DS} (g:Go.Proofs.YteninnkbmoimgaaGreatDoor.DP m h d=true) (hz:jg h d=0):(iE m d h.height.toNat h.root).1.length<=4096/\(iE m d h.height.toNat h.root).2=kM m h d/\(kM m h d=0->(iE m d h.height.toNat h.root).1=oP m h d):=by
 unfold Go.Proofs.YteninnkbmoimgaaGreatDoor.DP at g;rw[eu,gu] at g;obtain⟨b,l⟩:=g;have b:kM m h d≠8:=by simpa using b
 have i:kM m h d=(je m d h.height.toNat h.root 4096).2:=by unfold kM;rw[aA uP]
 have j:oP m h d=(je m d h.height.toNat h.root 4096).1:=by unfold oP;rw[aA uP]
 rw[j] at l;rw[i] at b;have k:=adx m d h.height.toNat h.root 4096 af b;rw[i,j];by_cases f:(je m d h.height.toNat h.root 4096).2=0
 ·have e:=k.1 f;rw[e];exact⟨fj,f.symm,fun _=>rfl⟩
 ·obtain⟨n,o⟩:=k.2 f;exact⟨af,n,fun e=>absurd e f⟩
end aD
namespace Go.Proofs.YteninnkbmoimgaaGreatDoor
open Go.RowKit aD
theorem aqo (w:World) (g:Nat) (v:Value) (h:w.cell? ⟨g,0,none⟩=some v):(loadVar 101 ⟨g,0,none⟩).run Tryz.prog w=.ok v w:=by
 simp[loadVar,pO Tryz.underlying101,go_sem,h]
theorem aqp (w:World) (g:Nat) (v:Value) (h:w.cell? ⟨g,0,none⟩=some v):(loadVar 38 ⟨g,0,none⟩).run Tryz.prog w=.ok v w:=by
 simp[loadVar,pO Tryz.underlying38,go_sem,h]
theorem TH (b:Array Value) (w:World) (g e:Nat) (v j:Value) (hp:b.getD 6 undef=.pointer (some ⟨g,0,none⟩)) (i:b.getD 7 undef=.pointer (some ⟨e,0,none⟩)) (h:w.cell? ⟨g,0,none⟩=some v) (l:w.cell? ⟨e,0,none⟩=some j):
 (results Tryz.f54 b).run Tryz.prog w=.ok (.tuple #[v,j]) w:=by
 have f:b[6]?.getD undef=.pointer (some ⟨g,0,none⟩):=zU;have d:b[7]?.getD undef=.pointer (some ⟨e,0,none⟩):=by simpa using i
 simp[results,Tryz.results54,f,d,asAddr,aqo w g v h,aqp w e j l,Sem.run_bind]
structure Ii (b:Nat) (v:Value) (e:Int) (W:World):Prop where
 c1:ah W b (.cells #[v] 101)
 c2:ah W (b+1) (.cells #[.int .i64 e] 38)
theorem TI {b:Nat} {y:Value} {o:Int} {W:World} (n:Ii b y o W) (v:Value) (e:Int):Ii b v e ((W.setCell ⟨b,0,none⟩ v).setCell ⟨b+1,0,none⟩ (.int .i64 e))/\
 (∀w,Ext w W->w.heap.size<=b->Ext w ((W.setCell ⟨b,0,none⟩ v).setCell ⟨b+1,0,none⟩ (.int .i64 e)))/\∀B,KeepsFrom B W ((W.setCell ⟨b,0,none⟩ v).setCell ⟨b+1,0,none⟩ (.int .i64 e)):=by
 have k1:=aI.setCell (w:=W) (g:=b) (i:=0) (v:=v);have j:ah (W.setCell ⟨b,0,none⟩ v) b (.cells #[v] 101):=ah.setCell n.c1;have f:=k1.blk n.c2 af;have t:=fun B=>KeepsFrom.qY (B:=B) k1 n.c1;generalize W.setCell ⟨b,0,none⟩ v=d at *;have k2:=aI.setCell (w:=d) (g:=b+1) (i:=0) (v:=.int .i64 e);have l:=k2.blk j af;have m:ah (d.setCell ⟨b+1,0,none⟩ (.int .i64 e)) (b+1) (.cells #[.int .i64 e] 38):=ah.setCell f;have u:=fun B=>KeepsFrom.qY (B:=B) k2 f;generalize d.setCell ⟨b+1,0,none⟩ (.int .i64 e)=z at *;exact⟨⟨l,m⟩,fun w r q=>k2.ext (k1.ext r q) af,fun B=>(t B).trans (u B)⟩
theorem aqq {b:Nat} {m:Value} {j:Int} {W:World} (n:Ii b m j W) (v:Value) (e:Int) {B k:Nat} {u:Value} {xs:List Value} (h:W.ownsRow B 3 1 u k xs):((W.setCell ⟨b,0,none⟩ v).setCell ⟨b+1,0,none⟩ (.int .i64 e)).ownsRow B 3 1 u k xs:=by
 have k1:=aI.setCell (w:=W) (g:=b) (i:=0) (v:=v);have f:=k1.blk n.c2 af;have l:=fo h aq n.c1 k1;generalize W.setCell ⟨b,0,none⟩ v=d at *;have k2:=aI.setCell (w:=d) (g:=b+1) (i:=0) (v:=.int .i64 e);exact fo l aq f k2
attribute [local go_sem] Oper.semAt_some
theorem adI (p:Option Addr) (F n:Nat) (m:List (List UInt8)) (h:Hd) (d:DS) (w:World) (hs:bk w p m) (hn:m.length=n) (hm:Small m) (hac:DP m h d=true):
 Calls Tryz.prog 54 #[.iface 32 (.slice p n F),.agg (aK h),.agg (az d)] w (mJ (if kM m h d=0 then oP m h d else[]) (kM m h d) w):=by
 have DN:=yL w h d;by_cases hz:jg h d=0
 ·obtain⟨k1,k2,k3,k4,k5,k6,k7⟩:=xg hz;obtain⟨H,hH⟩:∃H:Nat,h.height=H:=⟨h.height.toNat,af⟩;have HH:=ag hH;have TJ:H<=6:=af;have Hs:=ag hs;have I:=aqn hac hz;rw[hH,jU] at I;have aqr:=ag I.1;have Ij:Hid (∀e w' q c,(iE m d H h.root).2=0->Ext w w'->e=.returned (.tuple #[.slice q (iE m d H h.root).1.length c,.int .i64 0])->w'.ownsRow w.heap.size 3 1 (.slice q (iE m d H h.root).1.length c) (iE m d H h.root).1.length (cP (iE m d H h.root).1)->mJ (if kM m h d=0 then oP m h d else[]) (kM m h d) w e w'):=ag (fun e w' q c h0 r f h3=>by
   rw[I.2.1] at h0;rw[aC h0,h0,<-I.2.2 h0];exact⟨r,q,c,f,h3⟩)
  have Bl:Hid (∀e w',(iE m d H h.root).2≠0->Ext w w'->e=.returned (.tuple #[.slice none 0 0,.int .i64 (iE m d H h.root).2])->mJ (if kM m h d=0 then oP m h d else[]) (kM m h d) w e w'):=ag (fun e w' h0 r f=>by
   rw[I.2.1] at h0 f;rw[aA h0];exact MY r f)
  have ze:Hid (∀W,Calls Tryz.prog 82 #[.iface 32 (.slice p n F),.agg (aK h),.agg (az d)] W fun e w'=>e=.returned (.tuple #[.agg (bH (.slice p n F) h d),.int .i64 0])/\Ext W w'):=ag (fun W=>(Mw p n F h d W).mono (fun e w' ⟨r,f⟩=>by
   rcases f with⟨_,h3⟩ | ⟨h3,_⟩
   ·exact⟨h3,r⟩
   ·rw[hz] at h3;cases h3))
  clear I hac;clear hs hz k1 k2 k3 k4 k5 k6 k7 hH;generalize mJ (if kM m h d=0 then oP m h d else[]) (kM m h d) w=OUT at *;refine MZ Tryz.func54 rfl ?_;refine X7 ?_;go_upto_region 1 with(fail);obtain⟨x1,b1,b2⟩:=DN;have x2:=Ext.alloc ((w.alloc (.cells (aK h) 30)).alloc (.cells (az d) 23)) (.cells #[.slice none 0 0] 101);have b3:=ah.new ((w.alloc (.cells (aK h) 30)).alloc (.cells (az d) 23)) (.cells #[.slice none 0 0] 101);have x3:=Ext.alloc (((w.alloc (.cells (aK h) 30)).alloc (.cells (az d) 23)).alloc (.cells #[.slice none 0 0] 101)) (.cells #[.int .i64 0] 38);have b4:=ah.new (((w.alloc (.cells (aK h) 30)).alloc (.cells (az d) 23)).alloc (.cells #[.slice none 0 0] 101)) (.cells #[.int .i64 0] 38);simp only[World.size_alloc] at b3 b4;refine aR (fun w0=>Ext w w0/\fG w0 w.heap.size h/\bI w0 (w.heap.size+1) d/\ah w0 (w.heap.size+1+1) (.cells #[.slice none 0 0] 101)/\ah w0 (w.heap.size+1+1+1) (.cells #[.int .i64 0] 38)) ⟨(x1.trans x2).trans x3,(b1.ext x2).ext x3,(b2.ext x2).ext x3,x3.blk _ _ b3,b4⟩ ?_;clear x1 b1 b2 x2 b3 x3 b4;rintro w0 ⟨U,hb1,hb2,lS,S⟩;go_upto_region 4 with(first
   | ((with_reducible refine aW 14 ?_);refine mM rfl (.tmp 4) rfl _ rfl h hb1 ?_)
   | ((with_reducible refine aW 15 ?_);refine bu rfl (.tmp 5) rfl _ rfl d hb2 ?_)
   | (go_at_call 82;refine(ze.out _).mono ?_;rintro e E ⟨rfl,y⟩)
   | (refine aU rfl 156 (.tmp 8) (.tmp 17) rfl _ (bH (.slice p n F) h d) rfl rfl _ _ (ah.alloc (ah.new E _) _) oq rfl (vu p n F h d) ?_;intro w3 Bm T;have z:=T.blk (ah.new1 (E.alloc (.cells mI 156)) (.cells #[.int .i64 0] 38) (E.heap.size+1) av) af;have Ik:w3.cell? ⟨E.heap.size+1,0,none⟩=some (.int .i64 0):=ah.val z 0 _ rfl;have Im:=ah.free z 0;have Io:=ah.lt z))
  have xu:Ext w0 w3:=T.ext (y.trans ((Ext.alloc E _).trans (Ext.alloc _ _))) y.size;have vD:=aI.setCell (w:=w3) (g:=E.heap.size+1) (i:=0) (v:=.int .i64 0);have G:Ext w0 (w3.setCell ⟨E.heap.size+1,0,none⟩ (.int .i64 0)):=vD.ext xu (by have:=y.size;omega);have Ip:=U.size;have Dh:=y.size;refine aR (fun J=>Ext w J/\fG J w.heap.size h/\ah J (w.heap.size+1+1) (.cells #[.slice none 0 0] 101)/\ah J (w.heap.size+1+1+1) (.cells #[.int .i64 0] 38)/\ah J E.heap.size (.cells (bH (.slice p n F) h d) 156)/\ah J (E.heap.size+1) (.cells #[.int .i64 0] 38)/\w.heap.size+1+1+1<E.heap.size) ⟨U.trans G,hb1.ext G,G.blk _ _ lS,G.blk _ _ S,vD.blk Bm af,ah.setCell z,by have:=ah.lt S;omega⟩ ?_;clear xu vD G U y hb1 hb2 lS S Bm T z Ik Im Io Ip Dh;generalize E.heap.size=tb at *;rintro J ⟨om,oQ,Iq,TK,zP,ek,htb⟩;have c3:J.cell? ⟨w.heap.size,3,none⟩=some (.int .i64 h.root):=ah.val oQ 3 _ rfl;have c4:J.cell? ⟨w.heap.size,4,none⟩=some (.int .i64 h.height):=ah.val oQ 4 _ rfl;rw[HH.out] at c4;have l4:=ah.lt oQ;go_wp2_with(first
   | ((with_reducible refine aW 22 ?_);refine bz rfl 156 (.tmp 8) rfl _ rfl _ _ _ (ah.alloc zP _) vV rfl oq ?_)
   | (go_at_call 83;refine(aql _ h d h.root ((H:Nat):Int) (tb+1) _ (ah.alloc ek _)).mono ?_;rintro e w5 ⟨jD,g0,g1,g2,g3,rfl,hit⟩))
  have Z:Ext J w5:=(Ext.alloc J (.cells #[.slice none 0 0] 101)).trans jD;have zf:ah w5 J.heap.size (.cells #[.slice none 0 0] 101):=jD.blk _ _ (ah.new J _);have M4:Ext w w5:=om.trans Z;have TM:=Z.blk _ _ Iq;have hq5:=Z.blk _ _ TK;have TN:w.heap.size<=J.heap.size:=om.size;have hrl:=ah.lt Iq;have hql:=ah.lt TK;generalize J.heap.size=ob at *;have zg:=aqm p F n m h d h.root H g0 g1 g2 g3 (tb+1) w w5 Hs.out hn hm TJ M4 af hit (fun _ t=>t=101∨t=3) (by rintro b t ht hb;rcases ht with rfl | rfl | rfl | rfl<;>rcases hb with hb | hb<;>exact absurd hb aq);generalize hRR:iE m d H h.root=R at *;have Iu:Hid (Ext w w5/\ah w5 (w.heap.size+1+1) (.cells #[.slice none 0 0] 101)/\ah w5 (w.heap.size+1+1+1) (.cells #[.int .i64 0] 38)/\∃v,ah w5 ob (.cells #[v] 101)/\w5.ownsRow w.heap.size 3 1 v ([]:List Int).length (cP [])):=ag ⟨M4,TM,hq5,_,zf,World.ownsRow_nil _ _ _ _⟩;have Iv:=ag zg;have HRR:=ag hRR;clear zf hit zg jD om oQ Iq TK zP ek c3 c4 l4 Z TM hq5 hRR;refine Tz (n0:=w.heap.size) M4.size (tI:=TC (tb+1)) rfl (enters_of Tryz.func116 aj rfl) (encs:=Ih) (fun x=>rfl) (fun xs A B k hS=>⟨hS.1,k.blk hS.2 (fun h=>h)⟩) (fun xs A B k hS=>hS) Iv.out
   (fun pre W=>Ext w W/\ah W (w.heap.size+1+1) (.cells #[.slice none 0 0] 101)/\ah W (w.heap.size+1+1+1) (.cells #[.int .i64 0] 38)/\∃v,ah W ob (.cells #[v] 101)/\W.ownsRow w.heap.size 3 1 v pre.length (cP pre)) (fun _ _ _=>False)
   (fun pre A B k ⟨he,r,f,v,hb,ho⟩=>⟨Ext.trans' he k.below,k.blk r (by rintro⟨_,h⟩;exact absurd h aq),k.blk f (by rintro⟨h,_⟩;omega),v,k.blk hb (by rintro⟨_,h⟩;exact absurd h aq),xq ho k (by rintro b ⟨_,h⟩;exact absurd h aq)⟩) (fun _ _ _ _ _ h=>h) Iu.out ?round ?done (fun _ _ _ _ _ _ h=>h.elim)
  case round=>
   rintro l pre x W hz ⟨N,r,f,v,DW,C⟩ lQ;dsimp only[Ih]
   gi_wp2
   refine⟨KeepsFrom.lP (Ext.refl _),?_⟩;intro W2 X hz2;have hlx:pre.length+1<=4096:=by
    have h3:=List.IsPrefix.length_le lQ;simp only[ew,gW,lC] at h3;have:=aqr.out;omega
   have hne:(((pre.length:Nat):Int)==4096)=false:=aY;have hnn:¬pre.length=4096:=af;have Iw:Ext w W2:=Ext.trans' N X.below;have Hk:Hid (Kc w.heap.size (fun _ t=>t=101∨t=3) W W2):=ag (X.mono (fun _ _ h=>h.elim));have L:=ag (xq C X (fun _ h=>h));obtain⟨qo,co,rfl⟩:=cE C;have M:=X.blk DW (fun h=>h);have Bn:=ag (And.intro (X.blk r (fun h=>h)) (And.intro (X.blk f (fun h=>h)) (And.intro Iw M)));have c0:W2.cell? ⟨ob,0,none⟩=some (.slice qo pre.length co):=ah.val M 0 _ rfl;have f0:W2.frozen? ⟨ob,0,none⟩=false:=ah.free M 0;have l0:=ah.lt M;have M5:Hid (cP (pre++[x])=cP pre++[.int .i64 x]):=ag (by simp[cP]);clear N r f DW M Iw C X hz2 lQ;refine wpIn_block ?_;refine wpIn_seq_k (fun K7 Iy=>?_);have M6:=ag Iy;clear Iy
   gi_wp2
   refine M6.out _ _ ?_;refine TB (.inr ⟨l,rfl⟩) (fun⟨_,_,h⟩=>h) (by rfl) ?_;have K:=ag (Ext.alloc W2 (.cells #[.int .i64 x] 3));have adL:=K.out.blk _ _ Bn.out.2.2.2;have M7:=ag adL;have Bo:=Bn.out.2.2.1.size;clear adL;go_wp2_with(at_builtin;go_must(refine nW rfl (.tmp 32) (.tmp 34) 101 3 rfl w.heap.size (.int .i64 0) 1 8 Tryz.underlying101 uW rfl aq _ pre.length _ rfl (aO L.out K.out) _ [.int .i64 x] rfl (ah.new W2 _) rfl nk af aq aY ?_;intro v8 w8 Y TP;obtain⟨q8,k8,rfl⟩:=cE Y;have ni:=aO L.out K.out;have Bp:=Kc.ij (n0:=w.heap.size) (tc:=fun _ t=>t=3) TP ni (aH _) aY (fun _=>rfl);have Iz:=KeepsFrom.ij (B:=w5.heap.size) TP ni;have wm:=Bp.blk M7.out aq;have c8:=(show w8.cell? ⟨ob,0,none⟩=some (.slice qo pre.length co) from ah.val wm 0 _ rfl);have f8:=(show w8.frozen? ⟨ob,0,none⟩=false from ah.free wm 0);have aqs:=ag Y;have zh:=ag Bp;have TR:=ag Iz;have M8:=ag wm;clear Y TP Bp Iz wm ni));have hc:=aI.setCell (w:=w8) (g:=ob) (i:=0) (v:=.slice q8 (pre.length+1) k8);exact⟨((KeepsFrom.lP K.out).trans TR.out).trans (KeepsFrom.qY hc M8.out),Hk.out.trans ((Kc.lP K.out Bo).trans ((zh.out.mono (fun _ _ h=>.inr h)).trans (Kc.qY hc TN M8.out (.inl rfl)))),
    hc.ext (Ext.trans' (Bn.out.2.2.1.trans K.out) zh.out.below) TN,hc.blk (zh.out.blk (K.out.blk _ _ Bn.out.1) aq) af,hc.blk (zh.out.blk (K.out.blk _ _ Bn.out.2.1) aq) af,_,ah.setCell M8.out,by rw[M5.out,ew];exact fo aqs.out aq M8.out hc⟩
  case done=>
   rintro D xs W hD ⟨rfl,V⟩ ⟨N,r,f,v,DW,C⟩ hK;have nG:=M4.size;obtain⟨qv,cv,rfl⟩:=cE C;have c0:W.cell? ⟨ob,0,none⟩=some (.slice qv R.1.length cv):=ah.val DW 0 _ rfl;have ce:W.cell? ⟨tb+1,0,none⟩=some (.int .i64 R.2):=ah.val V 0 _ rfl;have d1:W.cell? ⟨w.heap.size+1+1,0,none⟩=some (.slice none 0 0):=ah.val r 0 _ rfl;have d2:W.cell? ⟨w.heap.size+1+1+1,0,none⟩=some (.int .i64 0):=ah.val f 0 _ rfl;have f1:W.frozen? ⟨w.heap.size+1+1,0,none⟩=false:=ah.free r 0;have f2:W.frozen? ⟨w.heap.size+1+1+1,0,none⟩=false:=ah.free f 0;have l0:=ah.lt DW;have le:=ah.lt V;have l1:=ah.lt r;have l2:=ah.lt f;have ayQ:ob≠w.heap.size+1+1:=af;have adM:tb+1≠w.heap.size+1+1:=af;have vE:Hid (Ii (w.heap.size+1+1) (.slice none 0 0) 0 W):=ag ⟨r,f⟩;have L:=ag C;have HK:=ag hK;have gZ:=ag N;clear C hK N DW V r f;obtain⟨RL,RE⟩:=R;simp only at c0 ce Ij Bl L;dsimp only;by_cases IA:RE=0
   ·subst IA;go_wp2_with fail;have j:=TI vE.out (.slice qv RL.length cv) 0;have vF:=(j.2.2 0).same _ _ (bL _) HK.out rfl;have O:=Kc.p7 (n0:=w.heap.size) (tc:=fun _ _=>False) (.deferred none) vF rfl af;exact Ig vF (TH _ _ _ _ _ _ rfl rfl (ah.val (O.blk j.1.c1 (fun h=>h)) 0 _ rfl) (ah.val (O.blk j.1.c2 (fun h=>h)) 0 _ rfl)) (Ij.out _ _ _ _ (by first | trivial | rfl) (Ext.trans' (j.2.1 w gZ.out af) O.below) rfl (xq (aqq vE.out _ _ L.out) O (fun _ h=>h)))
   ·have ayR:(RE !=0)=true:=by simpa using IA
    have HN2:=ag (fun e w'=>Bl.out e w' IA);clear IA;go_upto_region 11 with fail;go_region;all_goals
     go_wp2_with fail;have j:=TI vE.out (.slice none 0 0) RE;have aqu:=(j.2.2 0).trans (KeepsFrom.lP (Ext.drew _));have vF:=aqu.same _ _ (bL _) HK.out rfl;have O:=Kc.p7 (n0:=w.heap.size) (tc:=fun _ _=>False) (.deferred none) vF rfl af;exact Ig vF (TH _ _ _ _ _ _ rfl rfl (ah.val (O.blk ((Ext.drew _).blk _ _ j.1.c1) (fun h=>h)) 0 _ rfl) (ah.val (O.blk ((Ext.drew _).blk _ _ j.1.c2) (fun h=>h)) 0 _ rfl)) (HN2.out _ _ (Ext.trans' ((j.2.1 w gZ.out af).trans (Ext.drew _)) O.below) rfl)
 ·have hz1:jg h d=1:=EH;have ze:Hid (∀W,Calls Tryz.prog 82 #[.iface 32 (.slice p n F),.agg (aK h),.agg (az d)] W fun e w'=>e=.returned (.tuple #[.agg mI,.int .i64 1])/\Ext W w'):=ag (fun W=>(Mw p n F h d W).mono (fun e w' ⟨r,f⟩=>by
   rcases f with⟨h3,_⟩ | ⟨_,h3⟩
   ·exact absurd h3 hz
   ·exact⟨h3,r⟩))
  have eE:kM m h d=1:=by unfold kM;rw[aC hz]
  rw[eE,aA aq];have HO:Hid (∀e w',Ext w w'->e=.returned (.tuple #[.slice none 0 0,.int .i64 1])->mJ [] 1 w e w'):=ag (fun e w' r f=>MY r f);clear hz hz1 eE hac hs;generalize mJ [] 1 w=OUT at *;refine MZ Tryz.func54 rfl ?_;refine X7 ?_;go_upto_region 1 with(fail);obtain⟨x1,b1,b2⟩:=DN;have x2:=Ext.alloc ((w.alloc (.cells (aK h) 30)).alloc (.cells (az d) 23)) (.cells #[.slice none 0 0] 101);have b3:=ah.new ((w.alloc (.cells (aK h) 30)).alloc (.cells (az d) 23)) (.cells #[.slice none 0 0] 101);have x3:=Ext.alloc (((w.alloc (.cells (aK h) 30)).alloc (.cells (az d) 23)).alloc (.cells #[.slice none 0 0] 101)) (.cells #[.int .i64 0] 38);have b4:=ah.new (((w.alloc (.cells (aK h) 30)).alloc (.cells (az d) 23)).alloc (.cells #[.slice none 0 0] 101)) (.cells #[.int .i64 0] 38);simp only[World.size_alloc] at b3 b4;refine aR (fun w0=>Ext w w0/\fG w0 w.heap.size h/\bI w0 (w.heap.size+1) d/\ah w0 (w.heap.size+1+1) (.cells #[.slice none 0 0] 101)/\ah w0 (w.heap.size+1+1+1) (.cells #[.int .i64 0] 38)) ⟨(x1.trans x2).trans x3,(b1.ext x2).ext x3,(b2.ext x2).ext x3,x3.blk _ _ b3,b4⟩ ?_;clear x1 b1 b2 x2 b3 x3 b4;rintro w0 ⟨U,hb1,hb2,lS,S⟩;go_upto_region 3 with(first
   | ((with_reducible refine aW 14 ?_);refine mM rfl (.tmp 4) rfl _ rfl h hb1 ?_)
   | ((with_reducible refine aW 15 ?_);refine bu rfl (.tmp 5) rfl _ rfl d hb2 ?_)
   | (go_at_call 82;refine(ze.out _).mono ?_;rintro e E ⟨rfl,y⟩)
   | (refine aU rfl 156 (.tmp 8) (.tmp 17) rfl _ mI rfl rfl _ _ (ah.alloc (ah.new E _) _) oq rfl Mv ?_;intro w3 Bm T;have z:=T.blk (ah.new1 (E.alloc (.cells mI 156)) (.cells #[.int .i64 0] 38) (E.heap.size+1) av) af;have Ik:w3.cell? ⟨E.heap.size+1,0,none⟩=some (.int .i64 0):=ah.val z 0 _ rfl;have Im:=ah.free z 0;have Io:=ah.lt z))
  have xu:Ext w0 w3:=T.ext (y.trans ((Ext.alloc E _).trans (Ext.alloc _ _))) y.size;have vD:=aI.setCell (w:=w3) (g:=E.heap.size+1) (i:=0) (v:=.int .i64 1);have G:Ext w0 (w3.setCell ⟨E.heap.size+1,0,none⟩ (.int .i64 1)):=vD.ext xu (by have:=y.size;omega);have Ip:=U.size;have Dh:=y.size;refine aR (fun J=>Ext w J/\ah J (w.heap.size+1+1) (.cells #[.slice none 0 0] 101)/\ah J (w.heap.size+1+1+1) (.cells #[.int .i64 0] 38)/\ah J (E.heap.size+1) (.cells #[.int .i64 1] 38)/\w.heap.size+1+1+1<E.heap.size) ⟨U.trans G,G.blk _ _ lS,G.blk _ _ S,ah.setCell z,by have:=ah.lt S;omega⟩ ?_;clear xu vD G U y hb1 hb2 lS S Bm T z Ik Im Io Ip Dh;generalize E.heap.size=tb at *;rintro W ⟨N,r,f,V,htb⟩;have ce:W.cell? ⟨tb+1,0,none⟩=some (.int .i64 1):=ah.val V 0 _ rfl;have d1:W.cell? ⟨w.heap.size+1+1,0,none⟩=some (.slice none 0 0):=ah.val r 0 _ rfl;have d2:W.cell? ⟨w.heap.size+1+1+1,0,none⟩=some (.int .i64 0):=ah.val f 0 _ rfl;have f1:W.frozen? ⟨w.heap.size+1+1,0,none⟩=false:=ah.free r 0;have f2:W.frozen? ⟨w.heap.size+1+1+1,0,none⟩=false:=ah.free f 0;have le:=ah.lt V;have l1:=ah.lt r;have l2:=ah.lt f;have adM:tb+1≠w.heap.size+1+1:=af;have vE:Hid (Ii (w.heap.size+1+1) (.slice none 0 0) 0 W):=ag ⟨r,f⟩;have gZ:=ag N;clear N V r f;go_region;all_goals
   go_wp2_with fail;have j:=TI vE.out (.slice none 0 0) 1;exact aqe (TH _ _ _ _ _ _ rfl rfl (ah.val ((Ext.drew _).blk _ _ j.1.c1) 0 _ rfl) (ah.val ((Ext.drew _).blk _ _ j.1.c2) 0 _ rfl)) (HO.out _ _ ((j.2.1 w gZ.out af).trans (Ext.drew _)) rfl)
end Go.Proofs.YteninnkbmoimgaaGreatDoor

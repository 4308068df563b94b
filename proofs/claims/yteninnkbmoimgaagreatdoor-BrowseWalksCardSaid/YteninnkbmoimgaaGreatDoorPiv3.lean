/- A part of the proof. -/
import Derived.Test.YteninnkbmoimgaaGreatDoorMono
set_option linter.unusedSimpArgs false
set_option linter.unusedVariables false
set_option maxRecDepth 100000
set_option maxHeartbeats 16000000
namespace aD
open Go Go.RowKit
abbrev dR:=List (Nat×List (Nat×Tmp))
def iT (K:dR) (i j:Nat):Bool:=K.any fun x=>x.1==i&&x.2.any fun y=>y.1==j
def eN (K:dR) (i:Nat):Bool:=K.any fun x=>x.1==i
abbrev Rel:=World->World->Prop
def Fact.bP (K:dR) (R:Nat->Rel) (f:Fact):Prop:=∀i,eN K i=true->∀x w w',R i w w'->f x w->f x w'
theorem Is.bP (K:dR) (R:Nat->Rel) (v:Value):(Is v).bP K R:=fun _ _ _ _ _ _ h=>h
def Any:Fact:=fun _ _=>True
theorem Any.ay:Any.ay:=fun _ _ _ _ h=>h
section
variable {P:Program} {ops:Array Oper} {md:Region.Mode} {Q:Exit->Act->World->Prop} {w0:World} {n:Nat} {ds:List Deferred} {K:dR} {R:Nat->Rel} {G:Nat->Nat->Fact}
def tU (K:dR) (R:Nat->Rel) (i:Nat):Rel:=fun w w'=>if eN K i then R i w w' else Ext w w'
def C8 (K:dR) (G:Nat->Nat->Fact) (i:Nat) (a:Act) (w:World):Prop:=∀x∈K,x.1=i->∀y∈x.2,G i y.1 (a.tmps.getD y.2 undef) w
def qP (P:Program) (ops:Array Oper) (Q:Exit->Act->World->Prop) (K:dR) (R:Nat->Rel) (G:Nat->Nat->Fact) (i:Nat) (f:Fact) (o:Oper) (a:Act) (w:World):Prop:=
 if Region.wanted o (yielded ops a.tmps) then ∀C:Act->World->Prop,(∀v w',tU K R i w w'->f v w'->C8 K G i a w'->C (a.put o.dst v) w')->o.wp P a w C Q else(f undef w/\eN K i=false)
variable {S:Nat->Nat->Fact} {F:Nat->Fact}
structure wO (md:Region.Mode) (ops:Array Oper) (w0:World) (n:Nat) (ds:List Deferred) (K:dR) (G:Nat->Nat->Fact) (S:Nat->Nat->Fact) (F:Nat->Fact) (listed:Array Bool) (a:Act) (w:World):Prop where
 ext:Ext w0 w
 defers:a.defers=ds
 size:a.tmps.size=n
 done:∀j o d,ops[j]? =some o->o.dst=some d->listed.getD j false=true->(∀i,iT K i j=true->listed.getD i false=false)->F j (a.tmps.getD d undef) w
 turn:∀i j o d,ops[j]? =some o->o.dst=some d->iT K i j=true->listed.getD i false=true->listed.getD j false=true->G i j (a.tmps.getD d undef) w
 wait:∀j o d,ops[j]? =some o->o.dst=some d->listed.getD j false=false->S 0 d (a.tmps.getD d undef) w
 other:∀d,(∀(j:Nat) (o:Oper),ops[j]? =some o->o.dst≠some d)->S 0 d (a.tmps.getD d undef) w
 closed:∀j o e,ops[j]? =some o->listed.getD j false=true->e∈o.after->Region.binds md e=true->listed.getD e.on false=true
theorem wO.must {b:Array Bool} {a:Act} {w:World} (h:wO md ops w0 n ds K G S F b a w) {i k:Nat} {d:Oper} (f:ops[k]? =some d) (l:b.getD k false=true) (m:nX md ops i k):b.getD i false=true:=
 m d b f h.closed fun e j g=>h.closed k d e f l j g
def Lp (md:Region.Mode) (ops:Array Oper) (K:dR):Prop:=
 ∀(i j k:Nat) (b d:Oper) (t:Tmp),ops[i]? =some b->ops[j]? =some d->d.dst=some t->t∈b.looksAt ops->j<i->iT K k j=true->(k=i∨nX md ops i k)/\∃e,ops[k]? =some e
theorem aak (hnext:∀i o,ops[i]? =some o->S (i+1)=mP (S i) o.dst (F i)) (hB:gI md ops n=true) (q:Lp md ops K) {listed:Array Bool} {a:Act} {w:World} (h:wO md ops w0 n ds K G S F listed a w)
 {i:Nat} {o:Oper} (f:ops[i]? =some o) (z:i∈Region.ready md ops listed) (y:listed.size=ops.size):Reads ops (S i) o a w:=by
 intro t m;have r:=(gX.1 f).1;obtain⟨hun,B,l,d⟩:=pK.1 z;obtain rfl:=jF (f.symm.trans l);have E7:listed.getD i false=false:=by
  exact P3
 by_cases hw:∃(j:Nat) (oj:Oper),ops[j]? =some oj/\oj.dst=some t
 ·obtain⟨j,oj,hj,hd⟩:=hw;have hspec:=(qw hB f hj hd).2.2 m;have u:=(gX.1 hj).1;by_cases b:j<i
  ·rw[Fh hnext hB hj hd i af b];obtain⟨e,he,E8,rq⟩:=hspec.1 b;refine h.done j oj t hj hd (by rw[<-E8];exact d e he rq) fun k hk=>?_;obtain⟨g,ok,hok⟩:=q i j k o oj t f hj hd m b hk;rcases g with rfl | g
   ·exact E7
   ·cases hlk:listed.getD k false with
    | false=>rfl
    | true=>
      have:=h.must hok hlk g;rw[E7] at this;cases this
  ·exact XR
 ·exact Yt
def FT (ops:Array Oper) (K:dR):Prop:=∀x∈K,∀y∈x.2,∃o,ops[y.1]? =some o/\o.dst=some y.2
theorem JZ {K:dR} {i j:Nat} (h:iT K i j=true):∃x∈K,x.1=i/\∃y∈x.2,y.1=j:=by
 unfold iT at h;rw[Ci] at h;obtain⟨x,e,h⟩:=h;simp at h;obtain⟨b,y,d⟩:=h;exact⟨x,e,b,(j,y),d,rfl⟩
structure C9 (md:Region.Mode) (ops:Array Oper) (w0:World) (K:dR) (R:Nat->Rel) (G:Nat->Nat->Fact) (F:Nat->Fact):Prop where
 below:∀i w w',R i w w'->Below w0.heap.size w w'
 keep:∀i j,eN K i=true->i≠j->iT K i j=false->j<ops.size->nX md ops i j∨∀x w w',R i w w'->F j x w->F j x w'
 Lq:∀i j,(G i j).ay
 Lr:∀p j i,iT K p j=true->eN K i=true->i≠p->∀x w w',R i w w'->G p j x w->G p j x w'
 FU:∀p j,iT K p j=true->G p j=Any∨nX md ops j p
theorem wO.put (hF:∀i,(F i).ay) (hS:∀t,∃v,S 0 t=Is v) (hB:gI md ops n=true) (z:C9 md ops w0 K R G F) (V:FT ops K)
 {listed:Array Bool} {a:Act} {w w':World} (h:wO md ops w0 n ds K G S F listed a w) {i:Nat} {o:Oper} (ho:ops[i]? =some o)
 (hr:i∈Region.ready md ops listed) (hls:listed.size=ops.size) {v:Value} (b:tU K R i w w') (hv:F i v w') (ht:C8 K G i a w'):wO md ops w0 n ds K G S F (listed.setIfInBounds i true) (a.put o.dst v) w':=by
 have hil:=(gX.1 ho).1;obtain⟨hun,o',O,hall⟩:=pK.1 hr;obtain rfl:=jF (ho.symm.trans O);have f:listed.getD i false=false:=by
  exact P3
 have C:Ext w0 w':=by
  unfold tU at b;split at b
  ·exact Ext.trans' h.ext (z.below i w w' b)
  ·exact h.ext.trans b
 refine⟨C,by rw[YC];exact h.defers,by rw[size_put];exact h.size,?_,?_,?_,?_,?_⟩
 ·intro j oj d hj hd hl g;by_cases hij:i=j
  ·exact WG
  ·rw[yt _ _ _ _ ((qw hB ho hj hd).2.1 hij)];rw[getD_set_ne false hij] at hl;have h1:F j (a.tmps.getD d undef) w:=h.done j oj d hj hd hl fun k m=>by
    have J:=g k m;by_cases D:i=k
    ·subst D;exact f
    ·rwa[getD_set_ne false D] at J
   by_cases I:eN K i=true
   ·have N:iT K i j=false:=by
     cases m:iT K i j with
     | false=>rfl
     | true=>
       have J:=g i m;have h3:i<listed.size:=af;simp[h3] at J
    rcases z.keep i j I hij N (gX.1 hj).1 with hm | V
    ·have:=h.must hj hl hm;rw[f] at this;cases this
    ·unfold tU at b;rw[aC I] at b;exact V _ _ _ b h1
   ·unfold tU at b;rw[aA I] at b;exact hF j _ _ _ b h1
 ·intro p j oj d hj hd g l E;by_cases q:i=p
  ·subst q;obtain⟨x,X,Y,y,Z,u⟩:=JZ g;by_cases hij:i=j
   ·subst hij;rcases z.FU i i g with L | M
    ·rw[L];trivial
    ·have:=M o listed ho h.closed (fun e b hb=>hall e b hb);rw[f] at this;cases this
   ·rw[yt _ _ _ _ ((qw hB ho hj hd).2.1 hij)];obtain⟨oy,H,B⟩:=V x X y Z;rw[u,hj] at H;obtain rfl:=jF H;rw[hd] at B;have:=ht x X Y y Z;rw[<-jF B,u] at this;exact this
  ·rw[getD_set_ne false q] at l;by_cases hij:i=j
   ·subst hij;rcases z.FU p i g with L | M
    ·rw[L];trivial
    ·obtain⟨x,X,hxp,y,Z,u⟩:=JZ g;by_cases U:p<ops.size
     ·have:=h.must (yq U) l M;rw[f] at this;cases this
     ·have T:¬p<listed.size:=af;simp[T] at l
   ·rw[yt _ _ _ _ ((qw hB ho hj hd).2.1 hij)];rw[getD_set_ne false hij] at E;have h1:=h.turn p j oj d hj hd g l E;unfold tU at b;split at b
    ·rename_i I;exact z.Lr p j i g I q _ _ _ b h1
    ·exact z.Lq p j _ _ _ b h1
 ·intro j oj d hj hd hl;by_cases hij:i=j
  ·subst hij;have h1:i<listed.size:=af;simp[h1] at hl
  ·rw[yt _ _ _ _ ((qw hB ho hj hd).2.1 hij)];rw[getD_set_ne false hij] at hl;have:=h.wait j oj d hj hd hl;obtain⟨v0,r⟩:=hS d;rw[r] at this⊢;exact this
 ·intro d hd;rw[yt _ _ _ _ (hd i o ho)];have:=h.other d hd;obtain⟨v0,r⟩:=hS d;rw[r] at this⊢;exact this
 ·exact Wl
theorem Rg (init tail:List Oper) (hF':rE md (init++tail) init.length=true) (z:∀i,(F i).ay) (C:∀t,∃v,S 0 t=Is v) (hB:gI md (init++tail).toArray n=true)
 (B:C9 md (init++tail).toArray w0 K R G F) (D:FT (init++tail).toArray K) (I:Lp md (init++tail).toArray K)
 (hnext:∀i o,(init++tail).toArray[i]? =some o->S (i+1)=mP (S i) o.dst (F i))
 (m:∀i o,i<init.length->(init++tail).toArray[i]? =some o->∀a w,Ext w0 w->Reads (init++tail).toArray (S i) o a w->qP P (init++tail).toArray Q K R G i (F i) o a w)
 (q:∀a w,Ext w0 w->a.defers=ds->a.tmps.size=n->(∀t,t<n->(∀i j o,iT K i j=true->(init++tail).toArray[j]? =some o->o.dst≠some t)->S init.length t (a.tmps.getD t undef) w)->
   (∀i j o t,iT K i j=true->i<init.length->j<init.length->(init++tail).toArray[j]? =some o->o.dst=some t->G i j (a.tmps.getD t undef) w)->wpList P (init++tail).toArray Q tail a w):
 ∀(fuel:Nat) (listed:Array Bool) (a:Act) (w:World),listed.size=(init++tail).length->(List.range init.length).countP (fun i=>!listed.getD i false)+tail.length<=fuel->(∀i,init.length<=i->listed.getD i false=false)->
  wO md (init++tail).toArray w0 n ds K G S F listed a w->wpAny P md (init++tail).toArray Q fuel listed a w:=by
 intro fuel;have start:∀(fuel:Nat) (listed:Array Bool) (a:Act) (w:World),listed.size=(init++tail).length->tail.length<=fuel->(∀i,i<init.length->listed.getD i false=true)->(∀i,init.length<=i->listed.getD i false=false)->
  wO md (init++tail).toArray w0 n ds K G S F listed a w->wpAny P md (init++tail).toArray Q fuel listed a w:=by
  intro fuel listed a w hls u hall hnone h;refine Qb init tail hB hF' tail.length tail fuel listed a w rfl ⟨[],av,fun i=>?_⟩ hls u ?_
  ·exact P1
  ·refine q a w h.ext h.defers h.size (fun t E l=>?_) (fun i j o t hk hi hj g hd=>h.turn i j o t g hd hk (hall i hi) (hall j hj));by_cases hw:∃(j:Nat) (oj:Oper),(init++tail).toArray[j]? =some oj/\oj.dst=some t
   ·obtain⟨j,oj,hj,hd⟩:=hw;have M:=(gX.1 hj).1;by_cases r:j<init.length
    ·rw[Fh hnext hB hj hd init.length av r];exact h.done j oj t hj hd (hall j r) fun i hi=>absurd hd (l i j oj hi hj)
    ·exact Yc
   ·exact Yo
 induction fuel with
 | zero=>
   intro listed a w hls J hnone h;refine start 0 listed a w hls af (fun i hi=>?_) hnone h;have y:(List.range init.length).countP (fun i=>!listed.getD i false)=0:=af;rw[List.countP_eq_zero] at y;have:=y i pq;simpa using this
 | succ fuel H=>
   intro listed a w hls J hnone h;by_cases CC:∀i,i<init.length->listed.getD i false=true
   ·exact P5
   ·have e:∀i∈Region.ready md (init++tail).toArray listed,i<init.length:=by
     exact X3
    refine⟨fun hr=>?_,fun i hi=>?_⟩
    ·exact PY
    ·have vN:=e i hi;obtain⟨hun,o,g,_⟩:=pK.1 hi;have hil:=(gX.1 g).1;have h1:i<listed.size:=EZ;have f:(List.range init.length).countP (fun j=>!(listed.setIfInBounds i true).getD j false)+tail.length<=fuel:=by
      exact OO
     have b:=m i o vN g a w h.ext (aak hnext hB I h g hi nu);have d:∀j,init.length<=j->(listed.setIfInBounds i true).getD j false=false:=fun j hj=>by
      rw[getD_set_ne false af];exact hnone j hj
     unfold qP at b;unfold wpOp;simp only[g];split
     ·rename_i hw;rw[aC hw] at b;exact .inl (b _ fun v w' L N E=>H _ _ _ nu f d (h.put z C hB B D g hi nu L N E))
     ·rename_i hw;rw[aA hw] at b;exact H _ _ _ nu f d (h.put z C hB B D g hi nu (by unfold tU;rw[b.2];exact Ext.refl w) b.1 (fun x hx nQ=>by
       have:eN K i=true:=Ka;rw[b.2] at this;cases this))
end
def kU (md:Region.Mode) (l:List Oper) (i k:Nat):Bool:=((masks md l []).getD k 0).testBit i
theorem rK {md:Region.Mode} {l:List Oper} {n:Nat} (b:gI md l.toArray n=true) {i k:Nat} (h:kU md l i k=true):nX md l.toArray i k:=
 Qa l.toArray b l [] av av k i h
def Da (md:Region.Mode) (l:List Oper) (K:dR):Bool:=
 (List.range l.length).all fun i=>K.all fun x=>x.2.all fun y=>!decide (y.1<i)||!((l.getD i default).looksAt l.toArray).contains y.2||x.1==i||kU md l i x.1
def yJ (l:List Oper) (K:dR):Bool:=K.all fun x=>decide (x.1<l.length)&&x.2.all fun y=>decide (y.1<l.length)&&(l.getD y.1 default).dst==some y.2
def Ls (md:Region.Mode) (l:List Oper) (K:dR) (k:Nat):Bool:=K.all fun x=>x.1==k||x.2.any (fun y=>y.1==k)||kU md l x.1 k
theorem JW {l:List Oper} {K:dR} (b:yJ l K=true):FT l.toArray K:=by
 intro x i y j;unfold yJ at b;rw[mL] at b;have d:=b x i;simp only[eu,gu,mL,jT] at d;obtain⟨e,f⟩:=d.2 y j;refine⟨l[y.1],by simp[e],?_⟩;have g:l.getD y.1 default=l[y.1]:=by simp[List.getD,e]
 rw[g] at f;exact f
theorem aal {md:Region.Mode} {l:List Oper} {n:Nat} {K:dR} (J:gI md l.toArray n=true) (h:Da md l K=true) (g:yJ l K=true):Lp md l.toArray K:=by
 intro i j k B C t hi M L O f N;obtain⟨x,u,rfl,y,z,rfl⟩:=JZ N;unfold yJ at g;rw[mL] at g;have m:=g x u;simp only[eu,gu,mL,jT] at m;obtain⟨H,I⟩:=m;obtain⟨T,o⟩:=I y z;have e:l[y.1]? =some C:=by simpa using M
 have d:l[i]? =some B:=pq;have D:l.getD y.1 default=C:=by simp[List.getD,e]
 have E:l.getD i default=B:=by simp[List.getD,d]
 rw[D,L] at o;obtain rfl:=jF o;have hil:=(Ck.1 d).1;refine⟨?_,l[x.1],by simp[H]⟩;unfold Da at h;rw[mL] at h;have q:=h i Cy;rw[mL] at q;have r:=q x u;rw[mL] at r;have b:=r y z;rw[E] at b;simp only[pL,La,Q2,jT] at b;rcases b with((b | b) | b) | b
 ·exact absurd f b
 ·rw[List.contains_iff_mem.2 O] at b;cases b
 ·exact .inl b
 ·exact .inr (rK J b)
theorem ak6 {md:Region.Mode} {l:List Oper} {n:Nat} {K:dR} (m:gI md l.toArray n=true) {i j:Nat} (h:Ls md l K j=true) (f:eN K i=true) (d:i≠j) (e:iT K i j=false):nX md l.toArray i j:=by
 unfold eN at f;rw[Ci] at f;obtain⟨x,g,h1⟩:=f;obtain rfl:x.1=i:=jP;unfold Ls at h;rw[mL] at h;have b:=h x g;simp only[pL,jT] at b;rcases b with(b | b) | b
 ·exact absurd b d
 ·unfold iT at e;rw[List.any_eq_false] at e;have:=e x g;simp[b] at this
 ·exact rK m b
section
variable {P:Program} {ops:Array Oper} {Q:Exit->Act->World->Prop} {w0:World} {n:Nat} {ds:List Deferred} {tail:List Oper} {K:dR} {R:Nat->Rel} {G:Nat->Nat->Fact} {cond:Nat->Bool}
def wQ (P:Program) (ops:Array Oper) (Q:Exit->Act->World->Prop) (w0:World) (n:Nat) (ds:List Deferred) (tail:List Oper) (K:dR) (R:Nat->Rel) (G:Nat->Nat->Fact) (cond:Nat->Bool):Nat->List Oper->(Nat->Fact)->Prop
 | _,[],S=>∀a w,Ext w0 w->a.defers=ds->a.tmps.size=n->(∀t,t<n->(∀x∈K,∀y∈x.2,y.2≠t)->S t (a.tmps.getD t undef) w)->(∀x∈K,∀y∈x.2,G x.1 y.1 (a.tmps.getD y.2 undef) w)->wpList P ops Q tail a w
 | k,o::rest,S=>∃f:Fact,f.ay/\(cond k=true∨f.bP K R)/\(∀a w,Ext w0 w->Reads ops S o a w->qP P ops Q K R G k f o a w)/\wQ P ops Q w0 n ds tail K R G cond (k+1) rest (mP S o.dst f)
theorem FV:∀(l:List Oper) (k:Nat) (S0:Nat->Fact),(∀j,j<l.length->l[j]? =ops[k+j]?)->wQ P ops Q w0 n ds tail K R G cond k l S0->
 ∃(S:Nat->Nat->Fact) (F:Nat->Fact),S k=S0/\(∀i,(F i).ay)/\(∀i,k<=i->cond i=true∨(F i).bP K R)/\(∀i o,k<=i->i<k+l.length->ops[i]? =some o->∀a w,Ext w0 w->Reads ops (S i) o a w->qP P ops Q K R G i (F i) o a w)/\
  (∀i o,k<=i->ops[i]? =some o->S (i+1)=mP (S i) o.dst (F i))/\
  (∀a w,Ext w0 w->a.defers=ds->a.tmps.size=n->(∀t,t<n->(∀x∈K,∀y∈x.2,y.2≠t)->S (k+l.length) t (a.tmps.getD t undef) w)->(∀x∈K,∀y∈x.2,G x.1 y.1 (a.tmps.getD y.2 undef) w)->wpList P ops Q tail a w)
 | [],k,S0,_,h=>by
   refine⟨fun i=>qz ops S0 k (i-k),fun _=>Is undef,by simp[qz],fun _=>Is.ay _,fun _ _=>.inr (Is.bP _ _ _),?_,?_,?_⟩
   ·intro i o hi hi2 ho;simp at hi2;omega
   ·exact P4
   ·exact Wu
 | o::rest,k,S0,hl,h=>by
   obtain⟨f,hf,hc,hs,b⟩:=h;obtain⟨S,F,h0,h1,h1c,h2,h3,h4⟩:=FV rest (k+1) _ (fun j hj=>Pg) b;have ho:ops[k]? =some o:=by simpa using(hl 0 av).symm
   refine⟨fun i=>if i<=k then S0 else S i,fun i=>if i<=k then f else F i,av,fun i=>Pw,?_,?_,?_,?_⟩
   ·exact Yi
   ·exact PW
   ·exact PT
   ·exact P6
structure uj (l:List Oper) (w0:World) (K:dR) (R:Nat->Rel) (G:Nat->Nat->Fact):Prop where
 below:∀i w w',R i w w'->Below w0.heap.size w w'
 Lq:∀i j,(G i j).ay
 Lr:∀p j i,iT K p j=true->eN K i=true->i≠p->∀x w w',R i w w'->G p j x w->G p j x w'
 FU:∀p j,iT K p j=true->G p j=Any∨kU .any l j p=true
theorem Lt (l:List Oper) (w0:World) (K:dR):uj l w0 K (fun _=>Below w0.heap.size) (fun _ _=>Any):=
 ⟨fun _ _ _ h=>h,fun _ _=>Any.ay,fun _ _ _ _ _ _ _ _ _ _ _=>trivial,fun _ _ _=>.inl rfl⟩
theorem rL (l:List Oper) (w0:World) (p j:Nat) (t:Tmp) (R:Rel) (f:Fact) (d:∀w w',R w w'->Below w0.heap.size w w') (e:f.ay) (g:kU .any l j p=true):uj l w0 [(p,[(j,t)])] (fun _=>R) (fun _ _=>f):=by
 refine⟨fun _=>d,fun _ _=>e,fun r q i b o m=>?_,fun r q b=>?_⟩
 ·simp[iT,eN] at b o;omega
 ·simp[iT] at b;obtain⟨rfl,rfl⟩:=b;exact .inr g
theorem Rh {id:Nat} {a:Act} {w:World} (init tail:List Oper) (K:dR) (U:Ext w0 w) (V:P.follows .mixedOrders=true) (f:gI .any (init++tail).toArray a.tmps.size=true) (M:rE .any (init++tail) init.length=true)
 (O:Da .any (init++tail) K=true) (hs:yJ (init++tail) K=true) (hin:K.all (fun x=>decide (x.1<init.length)&&x.2.all fun y=>decide (y.1<init.length))=true) (g:uj (init++tail) w0 K R G)
 (h:wQ P (init++tail).toArray Q w0 a.tmps.size a.defers tail K R G (Ls .any (init++tail) K) 0 init (fun t=>Is (a.tmps.getD t undef))):(Code.region id (init++tail).toArray true).wp P Q a w:=by
 obtain⟨S,F,m,H,q,I,J,L⟩:=FV init 0 _ (fun j b=>by simp[rF b]) h;have N:C9 .any (init++tail).toArray w0 K R G F:=⟨g.below,fun i j B u hk b=>by
  rcases q j (bL _) with T | z
  ·exact .inl (ak6 f T B u hk)
  ·exact .inr (z i B),g.Lq,g.Lr,fun p j hk=>by
  rcases g.FU p j hk with r | r
  ·exact .inl r
  ·exact .inr (rK f r)⟩
 refine wp_region_any V (Rg (md:=.any) (K:=K) (R:=R) (G:=G) init tail M H (fun t=>⟨_,by rw[m]⟩) f N (JW hs) (aal f O hs) (fun i o=>J i o (bL _)) (fun i o X=>I i o (bL _) af) (fun a w C D E e4 e5=>L a w C D E ?_ ?_) _ _ _ _ av ?_ ?_ ?_)
 ·exact Wi
 ·exact Wh
 ·exact OU
 ·exact PG
 ·refine⟨U.trans (Ext.drew w),rfl,rfl,?_,?_,?_,?_,?_⟩
  ·intro j o d b hd hl;exact xT
  ·intro i j o d b hd hk hl;exact xT
  ·intro j o d b hd hl;rw[m];rfl
  ·intro d _;rw[m];rfl
  ·intro j o e b hl;exact xT
def iQ (G:Nat->Nat->Fact) (p:Nat) (ys:List (Nat×Tmp)) (L:List Fact):List Fact:=ys.foldl (fun L y=>L.set y.2 (G p y.1)) L
def iJ (G:Nat->Nat->Fact) (K:dR) (L:List Fact):List Fact:=K.foldl (fun L x=>iQ G x.1 x.2 L) L
theorem aam (G:Nat->Nat->Fact) (p:Nat):∀(ys:List (Nat×Tmp)) (L:List Fact) (t:Nat),(iQ G p ys L).length=L.length/\
 ((∃y∈ys,y.2=t/\(iQ G p ys L).getD t (Is undef)=G p y.1)∨((iQ G p ys L).getD t (Is undef)=L.getD t (Is undef)/\(t<L.length->∀y∈ys,y.2≠t)))
 | [],L,t=>by simp[iQ]
 | y::ys,L,t=>by
   obtain⟨j,f⟩:=aam G p ys (L.set y.2 (G p y.1)) t;have e:iQ G p (y::ys) L=iQ G p ys (L.set y.2 (G p y.1)):=rfl;rw[e];refine⟨by rw[j];simp,?_⟩;rcases f with⟨z,d,i,f⟩ | ⟨f,l⟩
   ·exact .inl ⟨z,by simp[d],i,f⟩
   ·rw[f];by_cases g:y.2=t
    ·by_cases b:t<L.length
     ·left;exact⟨y,av,g,by simp[List.getD,g,b]⟩
     ·right;exact⟨by simp only[List.getD];rw[tL aY,tL af],fun h=>absurd h b⟩
    ·right;refine⟨by simp only[List.getD];rw[List.getElem?_set_ne g],fun b z d=>?_⟩;rw[fD] at d;rcases d with rfl | d
     ·exact g
     ·exact l (by simpa using b) z d
theorem Kw (G:Nat->Nat->Fact):∀(K:dR) (L:List Fact) (t:Nat),(iJ G K L).length=L.length/\
 ((∃x∈K,∃y∈x.2,y.2=t/\(iJ G K L).getD t (Is undef)=G x.1 y.1)∨((iJ G K L).getD t (Is undef)=L.getD t (Is undef)/\(t<L.length->∀x∈K,∀y∈x.2,y.2≠t)))
 | [],L,t=>by simp[iJ]
 | x::K,L,t=>by
   obtain⟨l,f⟩:=aam G x.1 x.2 L t;obtain⟨o,g⟩:=Kw G K (iQ G x.1 x.2 L) t;have e:iJ G (x::K) L=iJ G K (iQ G x.1 x.2 L):=rfl;rw[e];refine⟨by rw[o,l],?_⟩;rcases g with⟨z,d,y,j,b,g⟩ | ⟨g,q⟩
   ·exact .inl ⟨z,by simp[d],y,j,b,g⟩
   ·rw[g];rcases f with⟨y,j,b,f⟩ | ⟨f,m⟩
    ·exact .inl ⟨x,av,y,j,b,f⟩
    ·refine .inr ⟨f,fun i z d=>?_⟩;rw[fD] at d;rcases d with rfl | d
     ·exact m i
     ·exact q (by rw[l];exact i) z d
def kV (P:Program) (ops:Array Oper) (Q:Exit->Act->World->Prop) (w0:World) (tail:List Oper) (ds:List Deferred) (K:dR) (R:Nat->Rel) (G:Nat->Nat->Fact) (cond:Nat->Bool):Nat->List Oper->List Fact->Prop
 | _,[],L=>∀w,Ext w0 w->aaw P ops Q tail ds w (iJ G K L) []
 | k,o::rest,L=>∃f:Fact,f.ay/\(cond k=true∨f.bP K R)/\(∀a w,Ext w0 w->Reads ops (aJ L) o a w->qP P ops Q K R G k f o a w)/\kV P ops Q w0 tail ds K R G cond (k+1) rest (bZ L o.dst f)
theorem AG:∀(l:List Oper) (k:Nat) (L:List Fact),(∀o∈l,∀d,o.dst=some d->d<L.length)->kV P ops Q w0 tail ds K R G cond k l L->wQ P ops Q w0 L.length ds tail K R G cond k l (aJ L)
 | [],k,L,_,h=>fun a w i hd j hf hg=>by
   have hx:=KE w (iJ G K L) [] a.tmps.toList (h w i) (by rw[(Kw G K L 0).1];simpa using j) (fun t ht=>by
    exact X2)
   rw[<-hd] at hx;simpa using hx
 | o::rest,k,L,hd,h=>by
   obtain⟨f,g,b,h2,h3⟩:=h;refine⟨f,g,b,h2,?_⟩;cases ho:o.dst with
   | none=>
     rw[ho] at h3;exact AG rest (k+1) L (fun o' ho'=>hd o' (by simp[ho'])) h3
   | some d=>
     rw[ho] at h3;have e:=hd o av d ho;have:=AG rest (k+1) (L.set d f) (fun o' ho' d' hd'=>Pv) h3;rw[pE,Qc L d f e] at this;exact this
theorem kH {id:Nat} {w:World} (k:Nat) (K:dR) {l:List Oper} {vs:List Value} (u:Ext w0 w) (B:P.follows .mixedOrders=true) (hB:gI .any l.toArray vs.length=true) (m:rE .any l (l.take k).length=true)
 (r:Da .any l K=true) (C:yJ l K=true) (f:K.all (fun x=>decide (x.1<(l.take k).length)&&x.2.all fun y=>decide (y.1<(l.take k).length))=true) (q:uj l w0 K R G)
 (h:kV P l.toArray Q w0 (l.drop k) ds K R G (Ls .any l K) 0 (l.take k) (vs.map Is)):(Code.region id l.toArray true).wp P Q ⟨vs.toArray,ds⟩ w:=by
 have z:=Qe k l;generalize l.take k=init at *;generalize l.drop k=tail at *;subst z;refine Rh init tail K u B (by simpa using hB) m r C f q ?_;have b:∀o∈init,∀d,o.dst=some d->d<(vs.map Is).length:=by
  exact OP
 have g:=AG init 0 (vs.map Is) b h;have e:aJ (vs.map Is)=fun t=>Is ((vs.toArray).getD t undef):=by
  exact OW
 rw[e] at g;simpa using g
section
variable {o:Oper} {rest:List Oper} {L:List Fact} {k:Nat}
def wR (ops:Array Oper) (L:List Fact) (o:Oper):Prop:=o.guard=none∨∃g b d,o.guard=some (g,b)/\(ops[g]?).bind (·.dst)=some d/\aJ L d=Is (.bool b)
theorem Lu (h:wR ops L o) {a:Act} {w:World} (r:Reads ops (aJ L) o a w) (e:∀d v,a.tmps.getD d undef=Value.bool v->a.tmps[d]? =some (.bool v)):Region.wanted o (yielded ops a.tmps)=true:=by
 unfold Region.wanted;rcases h with h | ⟨g,b,d,f,i,l⟩
 ·rw[h]
 ·rw[f];have q:d∈o.looksAt ops:=by unfold Oper.looksAt;rw[f];simp[i]
  have j:=r d q;rw[l] at j;have m:=e d b j;simp only[yielded,i,Option.bind_some,m];simp
theorem Lv (a:Act) (d:Nat) (v:Bool) (h:a.tmps.getD d undef=Value.bool v):a.tmps[d]? =some (.bool v):=by
 by_cases b:d<a.tmps.size
 ·simp[b] at h⊢;exact h
 ·simp[Array.getElem?_eq_none (xU b)] at h;cases h
theorem dY (f:Fact) (l:f.ay) (i:cond k=true∨f.bP K R) (hp:eN K k=false) (m:wR ops L o)
 (e:∀a w,Ext w0 w->Reads ops (aJ L) o a w->∀C:Act->World->Prop,(∀v w',Ext w w'->f v w'->C (a.put o.dst v) w')->o.wp P a w C Q)
 (h:kV P ops Q w0 tail ds K R G cond (k+1) rest (bZ L o.dst f)):kV P ops Q w0 tail ds K R G cond k (o::rest) L:=
 ⟨f,l,i,fun a w j b=>by
   unfold qP;rw[aC (Lu m b (fun d v=>Lv a d v))];exact fun C g=>e a w j b C fun v w' he' q=>g v w' Kk q (fun x hx nQ=>by
    have:eN K k=true:=Ka;rw[hp] at this;cases this),h⟩
theorem iU (f:Fact) (l:f.ay) (i:cond k=true∨f.bP K R) (hp:eN K k=true) (m:wR ops L o)
 (e:∀a w,Ext w0 w->Reads ops (aJ L) o a w->∀C:Act->World->Prop,(∀v w',R k w w'->f v w'->C8 K G k a w'->C (a.put o.dst v) w')->o.wp P a w C Q)
 (h:kV P ops Q w0 tail ds K R G cond (k+1) rest (bZ L o.dst f)):kV P ops Q w0 tail ds K R G cond k (o::rest) L:=
 ⟨f,l,i,fun a w j b=>by
   unfold qP;rw[aC (Lu m b (fun d v=>Lv a d v))];exact fun C g=>e a w j b C fun v w' he'=>g v w' Kk,h⟩
theorem dF {v:Value} (i:eN K k=false) (g:wR ops L o) (d:∀a w,Ext w0 w->Reads ops (aJ L) o a w->∀C:Act->World->Prop,(∀w',Ext w w'->C (a.put o.dst v) w')->o.wp P a w C Q)
 (h:kV P ops Q w0 tail ds K R G cond (k+1) rest (bZ L o.dst (Is v))):kV P ops Q w0 tail ds K R G cond k (o::rest) L:=
 dY (Is v) (Is.ay v) (.inr (Is.bP _ _ _)) i g (fun a w f j C e=>d a w f j C fun w' b=>e v w' b rfl) h
theorem pG (t:Tmp) (f:Fact) (i:eN K k=false) (g:wR ops L o) (ho:o.op=.move (.tmp t)∨o.op=.assign (.tmp t)) (e:L.getD t (Is undef)=f) (l:f.ay) (d:cond k=true∨f.bP K R)
 (h:kV P ops Q w0 tail ds K R G cond (k+1) rest (bZ L o.dst f)):kV P ops Q w0 tail ds K R G cond k (o::rest) L:=by
 subst e;refine dY _ l d i g (fun a w _ j C b=>?_) h;have m:aJ L t (a.tmps.getD t undef) w:=j t Pt;have h1:=b _ w (Ext.refl w) m;unfold Oper.wp;rcases ho with ho | ho
 ·exact Kq
 ·exact Kn
theorem EO (K:dR) (k:Nat) (a:Act) (w:World):C8 K (fun _ _=>Any) k a w:=fun _ _ _ _ _=>trivial
end
end
end aD
namespace aD.Pre
open Go Go.RowKit aD
section
variable {P:Program} {ops:Array Oper} {md:Region.Mode} {Q:Exit->Act->World->Prop} {w0:World} {n:Nat} {ds:List Deferred} {K:dR} {Pr:Nat->World->Prop} {R:Nat->Rel} {G:Nat->Nat->Fact} {S:Nat->Nat->Fact} {F:Nat->Fact}
structure AH (md:Region.Mode) (ops:Array Oper) (w0:World) (n:Nat) (ds:List Deferred) (K:dR) (Pr:Nat->World->Prop) (G:Nat->Nat->Fact) (S:Nat->Nat->Fact) (F:Nat->Fact) (listed:Array Bool) (a:Act) (w:World):Prop where
 base:wO md ops w0 n ds K G S F listed a w
 pre:∀p,eN K p=true->listed.getD p false=false->Pr p w
theorem AH.ak7 {d:Array Bool} {a:Act} {w:World} (h:AH md ops w0 n ds K Pr G S F d a w) {i:Nat} (u:i∈Region.ready md ops d) (q:d.size=ops.size) (p:Nat) (l:eN K p=true) (t:p=i∨nX md ops i p):Pr p w:=by
 obtain⟨f,o,y,m⟩:=pK.1 u;have e:d.getD i false=false:=by
  simp only[Array.getD_eq_getD_getElem?] at f⊢;cases hx:d[i]? with
  | none=>simp
  | some b=>rw[hx] at f;simpa using f
 refine h.pre p l ?_;rcases t with rfl | r
 ·exact e
 ·cases hl:d.getD p false with
  | false=>rfl
  | true=>
    by_cases j:p<ops.size
    ·have:=h.base.must (yq j) hl r;rw[e] at this;cases this
    ·have g:¬p<d.size:=af;simp[g] at hl
structure sU (md:Region.Mode) (ops:Array Oper) (K:dR) (R:Nat->Rel) (Pr:Nat->World->Prop):Prop where
 ext:∀p,eN K p=true->∀w w',Ext w w'->Pr p w->Pr p w'
 piv:∀p q,eN K p=true->eN K q=true->q≠p->nX md ops p q∨∀w w',R q w w'->Pr p w->Pr p w'
theorem AH.put (E:∀i,(F i).ay) (I:∀t,∃v,S 0 t=Is v) (D:gI md ops n=true) (H:C9 md ops w0 K R G F) (T:FT ops K) (z:sU md ops K R Pr)
 {b:Array Bool} {a:Act} {w w':World} (h:AH md ops w0 n ds K Pr G S F b a w) {i:Nat} {o:Oper} (m:ops[i]? =some o)
 (B:i∈Region.ready md ops b) (q:b.size=ops.size) {v:Value} (d:tU K R i w w') (X:F i v w') (U:C8 K G i a w'):AH md ops w0 n ds K Pr G S F (b.setIfInBounds i true) (a.put o.dst v) w':=by
 refine⟨h.base.put E I D H T m B q d X U,fun p f l=>?_⟩;have M:=(gX.1 m).1;have j:i≠p:=by
  intro e;subst e;have C:i<b.size:=af;simp[C] at l
 rw[getD_set_ne false j] at l;have y:=h.pre p f l;obtain⟨V,Y,r,g⟩:=pK.1 B;obtain rfl:=jF (m.symm.trans r);unfold tU at d;split at d
 ·rename_i u;rcases z.piv p i f u j with O | N
  ·have:=O o b m h.base.closed (fun e d J=>g e d J);rw[l] at this;cases this
  ·exact N _ _ d y
 ·exact z.ext p f _ _ d y
theorem Rg (init tail:List Oper) (D:rE md (init++tail) init.length=true) (U:∀i,(F i).ay) (Y:∀t,∃v,S 0 t=Is v) (hB:gI md (init++tail).toArray n=true)
 (V:C9 md (init++tail).toArray w0 K R G F) (Z:FT (init++tail).toArray K) (X:sU md (init++tail).toArray K R Pr) (hR:Lp md (init++tail).toArray K)
 (b:∀i o,(init++tail).toArray[i]? =some o->S (i+1)=mP (S i) o.dst (F i))
 (z:∀i o,i<init.length->(init++tail).toArray[i]? =some o->∀a w,Ext w0 w->(∀p,eN K p=true->(p=i∨nX md (init++tail).toArray i p)->Pr p w)->Reads (init++tail).toArray (S i) o a w->qP P (init++tail).toArray Q K R G i (F i) o a w)
 (E:∀a w,Ext w0 w->a.defers=ds->a.tmps.size=n->(∀t,t<n->(∀i j o,iT K i j=true->(init++tail).toArray[j]? =some o->o.dst≠some t)->S init.length t (a.tmps.getD t undef) w)->
   (∀i j o t,iT K i j=true->i<init.length->j<init.length->(init++tail).toArray[j]? =some o->o.dst=some t->G i j (a.tmps.getD t undef) w)->wpList P (init++tail).toArray Q tail a w):
 ∀(fuel:Nat) (listed:Array Bool) (a:Act) (w:World),listed.size=(init++tail).length->(List.range init.length).countP (fun i=>!listed.getD i false)+tail.length<=fuel->(∀i,init.length<=i->listed.getD i false=false)->
  AH md (init++tail).toArray w0 n ds K Pr G S F listed a w->wpAny P md (init++tail).toArray Q fuel listed a w:=by
 intro fuel;have start:∀(fuel:Nat) (listed:Array Bool) (a:Act) (w:World),listed.size=(init++tail).length->tail.length<=fuel->(∀i,i<init.length->listed.getD i false=true)->(∀i,init.length<=i->listed.getD i false=false)->
  AH md (init++tail).toArray w0 n ds K Pr G S F listed a w->wpAny P md (init++tail).toArray Q fuel listed a w:=by
  intro fuel listed a w hls M hall hnone h;refine Qb init tail hB D tail.length tail fuel listed a w rfl ⟨[],av,fun i=>?_⟩ hls M ?_
  ·exact P1
  ·refine E a w h.base.ext h.base.defers h.base.size (fun t ht y=>?_) (fun i j o t N hi l r u=>h.base.turn i j o t r u N (hall i hi) (hall j l));by_cases B:∃(j:Nat) (C:Oper),(init++tail).toArray[j]? =some C/\C.dst=some t
   ·obtain⟨j,C,l,u⟩:=B;have hjl:=(gX.1 l).1;by_cases H:j<init.length
    ·rw[Fh b hB l u init.length av H];exact h.base.done j C t l u (hall j H) fun i hi=>absurd u (y i j C hi l)
    ·rw[zZ b t init.length av (fun k J N g f=>(qw hB g l u).2.1 af f)];exact h.base.wait j C t l u (hnone j af)
   ·rw[zZ b t init.length av (fun k J _ g f=>B ⟨k,J,g,f⟩)];exact h.base.other t (fun k J g f=>B ⟨k,J,g,f⟩)
 induction fuel with
 | zero=>
   intro listed a w hls hc hnone h;refine start 0 listed a w hls af (fun i hi=>?_) hnone h;have T:(List.range init.length).countP (fun i=>!listed.getD i false)=0:=af;rw[List.countP_eq_zero] at T;have:=T i pq;simpa using this
 | succ fuel ih=>
   intro listed a w hls hc hnone h;by_cases CC:∀i,i<init.length->listed.getD i false=true
   ·exact P5
   ·have m:∀i∈Region.ready md (init++tail).toArray listed,i<init.length:=by
     intro i hi;obtain⟨hun,oi,I,hall⟩:=pK.1 hi;have hil:=(gX.1 I).1;by_cases O:i<init.length
     ·exact O
     ·exfalso;apply CC;intro k N;exact PX hB D Cy af af oi listed I h.base.closed hall
    refine⟨fun hr=>?_,fun i hi=>?_⟩
    ·exact PY
    ·have vN:=m i hi;obtain⟨hun,o,r,_⟩:=pK.1 hi;have hil:=(gX.1 r).1;have h1:i<listed.size:=EZ;have q:(List.range init.length).countP (fun j=>!(listed.setIfInBounds i true).getD j false)+tail.length<=fuel:=by
      exact OO
     have d:=z i o vN r a w h.base.ext (h.ak7 hi nu) (aak b hB hR h.base r hi nu);have e:∀j,init.length<=j->(listed.setIfInBounds i true).getD j false=false:=fun j l=>by
      rw[getD_set_ne false af];exact hnone j l
     unfold qP at d;unfold wpOp;simp only[r];split
     ·rename_i B;rw[aC B] at d;exact .inl (d _ fun v w' he hv ht=>ih _ _ _ nu q e (h.put U Y hB V Z X r hi nu he hv ht))
     ·rename_i B;rw[aA B] at d;exact ih _ _ _ nu q e (h.put U Y hB V Z X r hi nu (by unfold tU;rw[d.2];exact Ext.refl w) d.1 (fun x hx nQ=>by
       have:eN K i=true:=Ka;rw[d.2] at this;cases this))
end
def Ri (md:Region.Mode) (l:List Oper) (x:Nat×List (Nat×Tmp)) (k:Nat):Bool:=x.1==k||x.2.any (fun y=>y.1==k)||kU md l x.1 k
def iF (md:Region.Mode) (l:List Oper) (K:dR) (R:Nat->Rel) (k:Nat) (f:Fact):Prop:=∀x∈K,Ri md l x k=true∨∀v w w',R x.1 w w'->f v w->f v w'
theorem iF.is (md:Region.Mode) (l:List Oper) (K:dR) (R:Nat->Rel) (k:Nat) (v:Value):iF md l K R k (Is v):=fun _ _=>.inr fun _ _ _ _ h=>h
theorem iF.undef (md:Region.Mode) (l:List Oper) (K:dR) (R:Nat->Rel) (k:Nat):iF md l K R k (Is Go.undef):=iF.is md l K R k Go.undef
theorem ak9 {md:Region.Mode} {l:List Oper} {n:Nat} {K:dR} {R:Nat->Rel} {f:Fact} (q:gI md l.toArray n=true) {i j:Nat} (h:iF md l K R j f) (g:eN K i=true) (d:i≠j) (e:iT K i j=false):nX md l.toArray i j∨∀x w w',R i w w'->f x w->f x w':=by
 unfold eN at g;rw[Ci] at g;obtain⟨x,m,h1⟩:=g;obtain rfl:x.1=i:=jP;rcases h x m with b | b
 ·unfold Ri at b;simp only[pL,jT] at b;rcases b with(b | b) | b
  ·exact absurd b d
  ·unfold iT at e;rw[List.any_eq_false] at e;have:=e x m;simp[b] at this
  ·exact .inl (rK q b)
 ·exact .inr b
def Lw (md:Region.Mode) (l:List Oper) (K:dR) (p k:Nat):Bool:=p==k||kU md l k p
theorem ala {md:Region.Mode} {l:List Oper} {n:Nat} {K:dR} (b:gI md l.toArray n=true) {p k:Nat} (h:Lw md l K p k=true):p=k∨nX md l.toArray k p:=by
 unfold Lw at h;simp only[pL,jT] at h;rcases h with h | h
 ·exact .inl h
 ·exact .inr (rK b h)
section
variable {P:Program} {ops:Array Oper} {Q:Exit->Act->World->Prop} {w0:World} {n:Nat} {ds:List Deferred} {tail:List Oper} {K:dR} {Pr:Nat->World->Prop} {R:Nat->Rel} {G:Nat->Nat->Fact} {pre:Nat->Nat->Bool} {Kp:Nat->Fact->Prop}
def wQ (P:Program) (ops:Array Oper) (Q:Exit->Act->World->Prop) (w0:World) (n:Nat) (ds:List Deferred) (tail:List Oper) (K:dR) (R:Nat->Rel) (G:Nat->Nat->Fact) (Pr:Nat->World->Prop) (pre:Nat->Nat->Bool) (Kp:Nat->Fact->Prop):Nat->List Oper->(Nat->Fact)->Prop
 | _,[],S=>∀a w,Ext w0 w->a.defers=ds->a.tmps.size=n->(∀t,t<n->(∀x∈K,∀y∈x.2,y.2≠t)->S t (a.tmps.getD t undef) w)->(∀x∈K,∀y∈x.2,G x.1 y.1 (a.tmps.getD y.2 undef) w)->wpList P ops Q tail a w
 | k,o::rest,S=>∃f:Fact,f.ay/\Kp k f/\(∀a w,Ext w0 w->(∀p,eN K p=true->pre p k=true->Pr p w)->Reads ops S o a w->qP P ops Q K R G k f o a w)/\wQ P ops Q w0 n ds tail K R G Pr pre Kp (k+1) rest (mP S o.dst f)
theorem FV (b:∀i,Kp i (Is undef)):∀(l:List Oper) (k:Nat) (S0:Nat->Fact),(∀j,j<l.length->l[j]? =ops[k+j]?)->wQ P ops Q w0 n ds tail K R G Pr pre Kp k l S0->
 ∃(S:Nat->Nat->Fact) (F:Nat->Fact),S k=S0/\(∀i,(F i).ay)/\(∀i,k<=i->Kp i (F i))/\(∀i o,k<=i->i<k+l.length->ops[i]? =some o->∀a w,Ext w0 w->(∀p,eN K p=true->pre p i=true->Pr p w)->Reads ops (S i) o a w->qP P ops Q K R G i (F i) o a w)/\
  (∀i o,k<=i->ops[i]? =some o->S (i+1)=mP (S i) o.dst (F i))/\
  (∀a w,Ext w0 w->a.defers=ds->a.tmps.size=n->(∀t,t<n->(∀x∈K,∀y∈x.2,y.2≠t)->S (k+l.length) t (a.tmps.getD t undef) w)->(∀x∈K,∀y∈x.2,G x.1 y.1 (a.tmps.getD y.2 undef) w)->wpList P ops Q tail a w)
 | [],k,S0,_,h=>by
   refine⟨fun i=>qz ops S0 k (i-k),fun _=>Is undef,by simp[qz],fun _=>Is.ay _,fun i _=>b i,?_,?_,?_⟩
   ·intro i o hi hi2 ho;simp at hi2;omega
   ·exact P4
   ·exact Wu
 | o::rest,k,S0,hl,h=>by
   obtain⟨f,hf,hc,hs,d⟩:=h;obtain⟨S,F,h0,h1,h1c,h2,h3,h4⟩:=FV b rest (k+1) _ (fun j hj=>Pg) d;have ho:ops[k]? =some o:=by simpa using(hl 0 av).symm
   refine⟨fun i=>if i<=k then S0 else S i,fun i=>if i<=k then f else F i,av,fun i=>Pw,?_,?_,?_,?_⟩
   ·exact Yi
   ·exact PW
   ·exact PT
   ·exact P6
theorem Rh {id:Nat} {a:Act} {w:World} (init tail:List Oper) (K:dR) (X:Ext w0 w) (Y:P.follows .mixedOrders=true) (g:gI .any (init++tail).toArray a.tmps.size=true) (T:rE .any (init++tail) init.length=true)
 (V:Da .any (init++tail) K=true) (hs:yJ (init++tail) K=true) (hin:K.all (fun x=>decide (x.1<init.length)&&x.2.all fun y=>decide (y.1<init.length))=true) (q:uj (init++tail) w0 K R G) (m:sU .any (init++tail).toArray K R Pr) (C:∀p,eN K p=true->Pr p w)
 (h:wQ P (init++tail).toArray Q w0 a.tmps.size a.defers tail K R G Pr (Lw .any (init++tail) K) (iF .any (init++tail) K R) 0 init (fun t=>Is (a.tmps.getD t undef))):(Code.region id (init++tail).toArray true).wp P Q a w:=by
 obtain⟨S,F,z,J,B,M,N,O⟩:=FV (fun i=>iF.undef _ _ _ _ i) init 0 _ (fun j b=>by simp[rF b]) h;have U:C9 .any (init++tail).toArray w0 K R G F:=⟨q.below,fun i j f E hk b=>by
  exact ak9 g (B j (bL _)) f E hk,q.Lq,q.Lr,fun p j hk=>by
  rcases q.FU p j hk with D | D
  ·exact .inl D
  ·exact .inr (rK g D)⟩
 refine wp_region_any Y (Rg (md:=.any) (K:=K) (R:=R) (G:=G) (Pr:=Pr) init tail T J (fun t=>⟨_,by rw[z]⟩) g U (JW hs) m (aal g V hs) (fun i o=>N i o (bL _)) (fun i o Z ho a w' r u=>M i o (bL _) af ho a w' r (fun p f H=>u p f (ala g H))) (fun a w r u I e4 e5=>O a w r u I ?_ ?_) _ _ _ _ av ?_ ?_ ?_)
 ·exact Wi
 ·exact Wh
 ·exact OU
 ·exact PG
 ·refine⟨⟨X.trans (Ext.drew w),rfl,rfl,?_,?_,?_,?_,?_⟩,fun p f _=>m.ext p f _ _ (Ext.drew w) (C p f)⟩
  ·intro j o d b hd hl;exact xT
  ·intro i j o d b hd hk hl;exact xT
  ·intro j o d b hd hl;rw[z];rfl
  ·intro d _;rw[z];rfl
  ·intro j o e b hl;exact xT
def kV (P:Program) (ops:Array Oper) (Q:Exit->Act->World->Prop) (w0:World) (tail:List Oper) (ds:List Deferred) (K:dR) (R:Nat->Rel) (G:Nat->Nat->Fact) (Pr:Nat->World->Prop) (pre:Nat->Nat->Bool) (Kp:Nat->Fact->Prop):Nat->List Oper->List Fact->Prop
 | _,[],L=>∀w,Ext w0 w->aaw P ops Q tail ds w (iJ G K L) []
 | k,o::rest,L=>∃f:Fact,f.ay/\Kp k f/\(∀a w,Ext w0 w->(∀p,eN K p=true->pre p k=true->Pr p w)->Reads ops (aJ L) o a w->qP P ops Q K R G k f o a w)/\kV P ops Q w0 tail ds K R G Pr pre Kp (k+1) rest (bZ L o.dst f)
theorem AG:∀(l:List Oper) (k:Nat) (L:List Fact),(∀o∈l,∀d,o.dst=some d->d<L.length)->kV P ops Q w0 tail ds K R G Pr pre Kp k l L->wQ P ops Q w0 L.length ds tail K R G Pr pre Kp k l (aJ L)
 | [],k,L,_,h=>fun a w i hd j hf hg=>by
   have hx:=KE w (iJ G K L) [] a.tmps.toList (h w i) (by rw[(Kw G K L 0).1];simpa using j) (fun t ht=>by
    exact X2)
   rw[<-hd] at hx;simpa using hx
 | o::rest,k,L,hd,h=>by
   obtain⟨f,g,b,h2,h3⟩:=h;refine⟨f,g,b,h2,?_⟩;cases ho:o.dst with
   | none=>
     rw[ho] at h3;exact AG rest (k+1) L (fun o' ho'=>hd o' (by simp[ho'])) h3
   | some d=>
     rw[ho] at h3;have e:=hd o av d ho;have:=AG rest (k+1) (L.set d f) (fun o' ho' d' hd'=>Pv) h3;rw[pE,Qc L d f e] at this;exact this
theorem kH {id:Nat} {w:World} (k:Nat) (K:dR) {l:List Oper} {vs:List Value} (B:Ext w0 w) (D:P.follows .mixedOrders=true) (hB:gI .any l.toArray vs.length=true) (r:rE .any l (l.take k).length=true)
 (z:Da .any l K=true) (E:yJ l K=true) (m:K.all (fun x=>decide (x.1<(l.take k).length)&&x.2.all fun y=>decide (y.1<(l.take k).length))=true) (u:uj l w0 K R G) (b:gI .any l.toArray vs.length=true->sU .any l.toArray K R Pr) (g:∀p,eN K p=true->Pr p w)
 (h:kV P l.toArray Q w0 (l.drop k) ds K R G Pr (Lw .any l K) (iF .any l K R) 0 (l.take k) (vs.map Is)):(Code.region id l.toArray true).wp P Q ⟨vs.toArray,ds⟩ w:=by
 have b:=b hB;have C:=Qe k l;generalize l.take k=init at *;generalize l.drop k=tail at *;subst C;refine Rh init tail K B D (by simpa using hB) r z E m u b g ?_;have f:∀o∈init,∀d,o.dst=some d->d<(vs.map Is).length:=by
  exact OP
 have q:=AG init 0 (vs.map Is) f h;have e:aJ (vs.map Is)=fun t=>Is ((vs.toArray).getD t undef):=by
  exact OW
 rw[e] at q;simpa using q
section
variable {o:Oper} {rest:List Oper} {L:List Fact} {k:Nat}
theorem dY (f:Fact) (m:f.ay) (j:Kp k f) (hp:eN K k=false) (q:wR ops L o)
 (g:∀a w,Ext w0 w->(∀p,eN K p=true->pre p k=true->Pr p w)->Reads ops (aJ L) o a w->∀C:Act->World->Prop,(∀v w',Ext w w'->f v w'->C (a.put o.dst v) w')->o.wp P a w C Q)
 (h:kV P ops Q w0 tail ds K R G Pr pre Kp (k+1) rest (bZ L o.dst f)):kV P ops Q w0 tail ds K R G Pr pre Kp k (o::rest) L:=
 ⟨f,m,j,fun a w l b e=>by
   unfold qP;rw[aC (Lu q e (fun d v=>Lv a d v))];exact fun C i=>g a w l b e C fun v w' he' r=>i v w' Kk r (fun x hx nQ=>by
    have:eN K k=true:=Ka;rw[hp] at this;cases this),h⟩
theorem iU (f:Fact) (m:f.ay) (j:Kp k f) (hp:eN K k=true) (q:wR ops L o)
 (g:∀a w,Ext w0 w->(∀p,eN K p=true->pre p k=true->Pr p w)->Reads ops (aJ L) o a w->∀C:Act->World->Prop,(∀v w',R k w w'->f v w'->C8 K G k a w'->C (a.put o.dst v) w')->o.wp P a w C Q)
 (h:kV P ops Q w0 tail ds K R G Pr pre Kp (k+1) rest (bZ L o.dst f)):kV P ops Q w0 tail ds K R G Pr pre Kp k (o::rest) L:=
 ⟨f,m,j,fun a w l b e=>by
   unfold qP;rw[aC (Lu q e (fun d v=>Lv a d v))];exact fun C i=>g a w l b e C fun v w' he'=>i v w' Kk,h⟩
theorem dF {v:Value} (b:∀k v,Kp k (Is v)) (l:eN K k=false) (j:wR ops L o) (f:∀a w,Ext w0 w->(∀p,eN K p=true->pre p k=true->Pr p w)->Reads ops (aJ L) o a w->∀C:Act->World->Prop,(∀w',Ext w w'->C (a.put o.dst v) w')->o.wp P a w C Q)
 (h:kV P ops Q w0 tail ds K R G Pr pre Kp (k+1) rest (bZ L o.dst (Is v))):kV P ops Q w0 tail ds K R G Pr pre Kp k (o::rest) L:=
 dY (Is v) (Is.ay v) (b k v) l j (fun a w i e m C g=>f a w i e m C fun w' d=>g v w' d rfl) h
theorem pG (t:Tmp) (f:Fact) (i:eN K k=false) (g:wR ops L o) (ho:o.op=.move (.tmp t)∨o.op=.assign (.tmp t)) (e:L.getD t (Is undef)=f) (l:f.ay) (d:Kp k f)
 (h:kV P ops Q w0 tail ds K R G Pr pre Kp (k+1) rest (bZ L o.dst f)):kV P ops Q w0 tail ds K R G Pr pre Kp k (o::rest) L:=by
 subst e;refine dY _ l d i g (fun a w _ _ j C b=>?_) h;have m:aJ L t (a.tmps.getD t undef) w:=j t Pt;have h1:=b _ w (Ext.refl w) m;unfold Oper.wp;rcases ho with ho | ho
 ·exact Kq
 ·exact Kn
end
end
end aD.Pre

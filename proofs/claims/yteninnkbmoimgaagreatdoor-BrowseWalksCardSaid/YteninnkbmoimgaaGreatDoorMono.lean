/- A part of the proof. -/
import Derived.Test.YteninnkbmoimgaaGreatDoorBase
import Derived.Still
set_option linter.unusedSimpArgs false
set_option linter.unusedVariables false
set_option maxRecDepth 100000
set_option maxHeartbeats 16000000
namespace aD
open Go Go.RowKit
abbrev Fact:=Value->World->Prop
def Is (v:Value):Fact:=fun x _=>x=v
def Fact.ay (f:Fact):Prop:=∀x w w',Ext w w'->f x w->f x w'
theorem Is.ay (v:Value):(Is v).ay:=fun _ _ _ _ h=>h
section
variable {P:Program} {ops:Array Oper} {md:Region.Mode} {Q:Exit->Act->World->Prop} {w0:World} {n:Nat} {ds:List Deferred}
def Reads (ops:Array Oper) (S:Nat->Fact) (o:Oper) (a:Act) (w:World):Prop:=∀t∈o.looksAt ops,S t (a.tmps.getD t undef) w
def sK (P:Program) (ops:Array Oper) (Q:Exit->Act->World->Prop) (f:Fact) (o:Oper) (a:Act) (w:World):Prop:=
 if Region.wanted o (yielded ops a.tmps) then ∀K:Act->World->Prop,(∀v w',Ext w w'->f v w'->K (a.put o.dst v) w')->o.wp P a w K Q else f undef w
def mP (S:Nat->Fact) (d:Option Tmp) (f:Fact):Nat->Fact:=match d with
 | some d=>fun t=>if t=d then f else S t
 | none=>S
def gI (md:Region.Mode) (ops:Array Oper) (n:Nat):Bool:=
 ((List.range ops.size).all fun i=>(ops.getD i default).after.all fun e=>!Region.binds md e||decide (e.on<i))&&
 (List.range ops.size).all fun i=>(List.range ops.size).all fun j=>
   let b:=ops.getD i default;let f:=ops.getD j default
   match f.dst with
   | none=>true
   | some d=>decide (d<n)&&(i==j||b.dst !=some d)&&
     (!(b.looksAt ops).contains d||(if j<i then b.after.any fun e=>e.on==j&&Region.binds md e else if i<j then f.after.any fun e=>e.on==i&&Region.binds md e else true))
theorem qw (h:gI md ops n=true) {i j:Nat} {f g:Oper} {d:Tmp} (r:ops[i]? =some f) (t:ops[j]? =some g) (D:g.dst=some d):
 d<n/\(i≠j->f.dst≠some d)/\(d∈f.looksAt ops->(j<i->∃e∈f.after,e.on=j/\Region.binds md e=true)/\(i<j->∃e∈g.after,e.on=i/\Region.binds md e=true)):=by
 have hil:=(gX.1 r).1;have l:=(gX.1 t).1;unfold gI at h;rw[eu,mL,mL] at h;have o:=h.2 i Cy;rw[mL] at o;have q:=o j (by simpa using l);have u:ops.getD i default=f:=by simp[r]
 have y:ops.getD j default=g:=by simp[t]
 simp only[u,y,D,eu,gu,pL,jT,bne_iff_ne] at q;obtain⟨⟨z,B⟩,C⟩:=q;refine⟨z,fun m=>B.resolve_left m,fun E=>?_⟩;have h6:=C.resolve_left (by simp[E]);refine⟨fun b=>?_,fun b=>?_⟩
 ·rw[aC b] at h6;exact XC
 ·rw[aA af,aC b] at h6;exact XC
section
variable {S:Nat->Nat->Fact} {F:Nat->Fact}
structure CN (md:Region.Mode) (ops:Array Oper) (w0:World) (n:Nat) (ds:List Deferred) (S:Nat->Nat->Fact) (F:Nat->Fact) (listed:Array Bool) (a:Act) (w:World):Prop where
 ext:Ext w0 w
 defers:a.defers=ds
 size:a.tmps.size=n
 done:∀j o d,ops[j]? =some o->o.dst=some d->listed.getD j false=true->F j (a.tmps.getD d undef) w
 wait:∀j o d,ops[j]? =some o->o.dst=some d->listed.getD j false=false->S 0 d (a.tmps.getD d undef) w
 other:∀d,(∀(j:Nat) (o:Oper),ops[j]? =some o->o.dst≠some d)->S 0 d (a.tmps.getD d undef) w
 closed:∀j o e,ops[j]? =some o->listed.getD j false=true->e∈o.after->Region.binds md e=true->listed.getD e.on false=true
theorem zZ (b:∀i o,ops[i]? =some o->S (i+1)=mP (S i) o.dst (F i)) (t:Tmp):∀i,i<=ops.size->(∀(j:Nat) (o:Oper),j<i->ops[j]? =some o->o.dst≠some t)->S i t=S 0 t
 | 0,_,_=>rfl
 | i+1,g,h=>by
   have e:ops[i]? =some ops[i]:=yq af;rw[b i _ e,<-zZ b t i af (fun j o l=>h j o af)];have:=h i _ af e;unfold mP;cases hd:ops[i].dst with
   | none=>rfl
   | some d=>simp only;rw[aA (by intro f;subst f;exact this hd)]
theorem Fh (b:∀i o,ops[i]? =some o->S (i+1)=mP (S i) o.dst (F i)) (u:gI md ops n=true) {j:Nat} {q:Oper} {t:Tmp} (m:ops[j]? =some q) (l:q.dst=some t):
 ∀i,i<=ops.size->j<i->S i t=F j:=by
 intro i;induction i with
 | zero=>intro _ h;omega
 | succ i B=>
   intro C z;have f:ops[i]? =some ops[i]:=yq af;rw[b i _ f];by_cases e:i=j
   ·subst e;rw[m] at f;rw[<-jF f];simp[mP,l]
   ·have g:=B af af;have r:=(qw u f m l).2.1 e;unfold mP;cases hd':ops[i].dst with
    | none=>exact g
    | some d=>simp only;rw[aA (by intro y;subst y;exact r hd')];exact g
theorem ajI (hnext:∀i o,ops[i]? =some o->S (i+1)=mP (S i) o.dst (F i)) (hB:gI md ops n=true) {listed:Array Bool} {a:Act} {w:World} (h:CN md ops w0 n ds S F listed a w)
 {i:Nat} {o:Oper} (f:ops[i]? =some o) (r:i∈Region.ready md ops listed) (q:listed.size=ops.size):Reads ops (S i) o a w:=by
 intro t u;have l:=(gX.1 f).1;obtain⟨hun,y,g,b⟩:=pK.1 r;obtain rfl:=jF (f.symm.trans g);have E7:listed.getD i false=false:=by
  exact P3
 by_cases hw:∃(j:Nat) (oj:Oper),ops[j]? =some oj/\oj.dst=some t
 ·obtain⟨j,oj,hj,hd⟩:=hw;have hspec:=(qw hB f hj hd).2.2 u;have m:=(gX.1 hj).1;by_cases d:j<i
  ·rw[Fh hnext hB hj hd i af d];obtain⟨e,he,E8,rq⟩:=hspec.1 d;exact h.done j oj t hj hd (by rw[<-E8];exact b e he rq)
  ·exact XR
 ·exact Yt
theorem yt (a:Act) (b:Option Tmp) (v:Value) (t:Tmp) (h:b≠some t):(a.put b v).tmps.getD t undef=a.tmps.getD t undef:=by
 cases b with
 | none=>rfl
 | some d=>have:d≠t:=fun e=>h (by rw[e]);simp[Act.put,Array.getElem?_setIfInBounds_ne this]
theorem ajl (a:Act) (d:Tmp) (v:Value) (h:d<a.tmps.size):(a.put (some d) v).tmps.getD d undef=v:=by simp[Act.put,h]
theorem size_put (a:Act) (b:Option Tmp) (v:Value):(a.put b v).tmps.size=a.tmps.size:=by cases b<;>simp[Act.put]
theorem YC (a:Act) (b:Option Tmp) (v:Value):(a.put b v).defers=a.defers:=by cases b<;>rfl
theorem CN.put (q:∀i,(F i).ay) (l:∀t,(S 0 t).ay) (hB:gI md ops n=true) {b:Array Bool} {a:Act} {w w':World} (h:CN md ops w0 n ds S F b a w) {i:Nat} {o:Oper} (ho:ops[i]? =some o)
 (y:i∈Region.ready md ops b) (u:b.size=ops.size) {v:Value} (f:Ext w w') (hv:F i v w'):CN md ops w0 n ds S F (b.setIfInBounds i true) (a.put o.dst v) w':=by
 have r:=(gX.1 ho).1;obtain⟨z,B,g,hall⟩:=pK.1 y;obtain rfl:=jF (ho.symm.trans g);refine⟨h.ext.trans f,by rw[YC];exact h.defers,by rw[size_put];exact h.size,?_,?_,?_,?_⟩
 ·intro j oj d hj hd hl;by_cases hij:i=j
  ·exact WG
  ·rw[yt _ _ _ _ ((qw hB ho hj hd).2.1 hij)];rw[getD_set_ne false hij] at hl;exact q j _ _ _ f (h.done j oj d hj hd hl)
 ·intro j oj d hj hd hl;by_cases hij:i=j
  ·subst hij;have m:i<b.size:=af;simp[m] at hl
  ·rw[yt _ _ _ _ ((qw hB ho hj hd).2.1 hij)];rw[getD_set_ne false hij] at hl;exact l d _ _ _ f (h.wait j oj d hj hd hl)
 ·intro d hd;rw[yt _ _ _ _ (hd i o ho)];exact l d _ _ _ f (h.other d hd)
 ·exact Wl
theorem KC (h:gI md ops n=true) {i:Nat} {b:Oper} (f:ops[i]? =some b) {e:Edge} (l:e∈b.after) (j:Region.binds md e=true):e.on<i:=by
 have hil:=(gX.1 f).1;unfold gI at h;rw[eu,mL,mL] at h;have d:=h.1 i Cy;have g:ops.getD i default=b:=by simp[f]
 rw[g] at d;obtain⟨k,m,rfl⟩:=Array.mem_iff_getElem.1 l;have:=Array.all_eq_true.1 d k m;simpa[j] using this
theorem Wd (p q:Nat->Bool) (i:Nat):∀(l:List Nat),(∀x∈l,q x=true->p x=true)->i∈l->p i=true->q i=false->l.countP q<l.countP p
 | [],_,e,_,_=>by cases e
 | x::l,b,e,j,m=>by
   have f:l.countP q<=l.countP p:=List.countP_mono_left (fun y g=>b y (by simp[g]));by_cases o:x=i
   ·subst o;rw[List.countP_cons_of_pos j,List.countP_cons_of_neg (by simp[m])];omega
   ·have r:=Wd p q i l (fun y g=>b y (by simp[g])) (by simpa[sL o] using e) j m;rw[List.countP_cons,List.countP_cons];have:=b x av;by_cases d:q x=true
    ·simp[d,this d];omega
    ·simp[d];omega
theorem PZ (j:gI md ops n=true) {b:Array Bool} (h:Region.ready md ops b=[]) (g:b.size=ops.size):∀k i,i<k->i<ops.size->b.getD i false=true
 | 0,i,t,_=>af
 | k+1,i,t,f=>by
   by_cases l:i<k
   ·exact PZ j h g k i l f
   ·obtain rfl:i=k:=af;have u:=PZ j h g i;cases hu:b.getD i false with
    | true=>rfl
    | false=>
      have d:i∈Region.ready md ops b:=by
       rw[pK];have o:i<b.size:=af;refine⟨by simp[o] at hu⊢;exact hu,ops[i],yq f,fun e r q=>?_⟩;have m:=KC j (yq f) r q;exact u e.on m af
      rw[h] at d;cases d
end
def YD (md:Region.Mode) (ops:Array Oper) (b:Array Bool):Prop:=∀j o e,ops[j]? =some o->b.getD j false=true->e∈o.after->Region.binds md e=true->b.getD e.on false=true
def nX (md:Region.Mode) (ops:Array Oper) (i k:Nat):Prop:=∀(o:Oper) (b:Array Bool),ops[k]? =some o->YD md ops b->(∀e∈o.after,Region.binds md e=true->b.getD e.on false=true)->b.getD i false=true
def Ad (md:Region.Mode) (b:List Nat):List Edge->Nat->Nat
 | [],s=>s
 | e::es,s=>Ad md b es (if Region.binds md e then s|||2 ^ e.on|||b.getD e.on 0 else s)
def masks (md:Region.Mode):List Oper->List Nat->List Nat
 | [],b=>b
 | o::rest,b=>masks md rest (b++[Ad md b o.after.toList 0])
def rE (md:Region.Mode) (l:List Oper) (k:Nat):Bool:=(List.range l.length).all fun j=>decide (j<k)||(List.range j).all fun i=>((masks md l []).getD j 0).testBit i
theorem YE (ops:Array Oper) (j:List Nat) (g:∀k i,(j.getD k 0).testBit i=true->nX md ops i k) (k:Nat) (o:Oper) (E:ops[k]? =some o) (q:∀e∈o.after,Region.binds md e=true->∃y,ops[e.on]? =some y):
 ∀(es:List Edge) (s:Nat),(∀e∈es,e∈o.after)->(∀i,s.testBit i=true->nX md ops i k)->∀i,(Ad md j es s).testBit i=true->nX md ops i k
 | [],s,_,u,i,h=>u i h
 | e::es,s,t,u,i,h=>by
   refine YE ops j g k o E q es _ (fun x H=>t x (by simp[H])) ?_ i h;intro i f;split at f
   ·rename_i z;rw[Nat.testBit_or,Nat.testBit_or,pL,pL] at f;rcases f with(f | f) | f
    ·exact u i f
    ·have:i=e.on:=by rw[Nat.testBit_two_pow] at f;simpa using(qG f).symm
     subst this;intro I b l _ d;obtain rfl:=jF (E.symm.trans l);exact d e (t e av) z
    ·intro I b l m d;obtain rfl:=jF (E.symm.trans l);have D:=d e (t e av) z;obtain⟨y,r⟩:=q e (t e av) z;exact g e.on i f y b r m (fun G C B=>m e.on y G r D C B)
   ·exact u i f
theorem Qa (ops:Array Oper) (q:gI md ops n=true):∀(l:List Oper) (b:List Nat),(∀j,l[j]? =ops[b.length+j]?)->(∀k i,(b.getD k 0).testBit i=true->nX md ops i k)->∀k i,((masks md l b).getD k 0).testBit i=true->nX md ops i k
 | [],b,_,h=>h
 | o::rest,b,r,h=>by
   have m:ops[b.length]? =some o:=by simpa using(r 0).symm
   refine Qa ops q rest _ (fun j=>by have:=r (j+1);simpa[sD,Nat.add_comm 1 j] using this) ?_;intro k i d;by_cases g:k<b.length
   ·have e:(b++[Ad md b o.after.toList 0]).getD k 0=b.getD k 0:=by simp[List.getD,rF g]
    rw[e] at d;exact h k i d
   ·by_cases f:k=b.length
    ·subst f;have e:(b++[Ad md b o.after.toList 0]).getD b.length 0=Ad md b o.after.toList 0:=by simp[List.getD]
     rw[e] at d;refine YE ops b h _ o m (fun e he t=>?_) _ 0 (fun e he=>zT) av i d;have u:=KC q m he t;have:=(gX.1 m).1;exact⟨ops[e.on],yq af⟩
    ·have e:(b++[Ad md b o.after.toList 0]).getD k 0=0:=by simp[List.getD];rw[tL aY];rfl
     rw[e] at d;simp at d
theorem PX {l:List Oper} {k:Nat} (e:gI md l.toArray n=true) (h:rE md l k=true) {j i:Nat} (f:j<l.length) (g:k<=j) (hi:i<j):nX md l.toArray i j:=by
 unfold rE at h;rw[mL] at h;have b:=h j (by simpa using f);rw[pL,mL] at b;have d:=(b.resolve_left aY) i pq;exact Qa l.toArray e l [] av av j i d
section
variable {S:Nat->Nat->Fact} {F:Nat->Fact}
theorem Qb (d g:List Oper) (M:gI md (d++g).toArray n=true) (V:rE md (d++g) d.length=true):
 ∀(m:Nat) (rest:List Oper) (l:Nat) (b:Array Bool) (a:Act) (w:World),rest.length=m->(∃pre,g=pre++rest/\∀i,b.getD i false=decide (i<d.length+pre.length))->b.size=(d++g).length->m<=l->
  wpList P (d++g).toArray Q rest a w->wpAny P md (d++g).toArray Q l b a w:=by
 intro m;induction m with
 | zero=>
   intro rest l b a w J ⟨pre,L,y⟩ hls _ h;have:rest=[]:=gY J;subst this;have K:Region.ready md (d++g).toArray b=[]:=by
    rw[List.eq_nil_iff_forall_not_mem];intro i u;obtain⟨t,o,Z,_⟩:=pK.1 u;have hil:=(gX.1 Z).1;have B:i<b.size:=EZ;have q:=y i;simp[B] at t q;rw[t] at q;subst L;simp at hil q;omega
   cases l with
   | zero=>exact⟨K,h⟩
   | succ l=>exact⟨fun _=>h,fun i u=>by rw[K] at u;cases u⟩
 | succ m ih=>
   intro rest l b a w J ⟨pre,L,y⟩ hls X h;obtain⟨o,rest,rfl⟩:∃o r,rest=o::r:=by cases rest with
    | nil=>simp at J
    | cons o r=>exact⟨o,r,rfl⟩
   obtain⟨l,rfl⟩:∃f,l=f+1:=⟨l-1,af⟩;have I:(d++g).toArray[d.length+pre.length]? =some o:=by subst L;simp
   have E:=(gX.1 I).1;have O:YD md (d++g).toArray b:=fun j oj e Y G R N=>by
    rw[y] at G⊢;have:=KC M Y R N;simp at G⊢;omega
   have U:∀i∈Region.ready md (d++g).toArray b,i=d.length+pre.length:=by
    intro i u;obtain⟨t,oi,H,C⟩:=pK.1 u;have hil:=(gX.1 H).1;have B:i<b.size:=EZ;have q:=y i;simp[B] at t q;rw[t] at q;simp at q;by_cases T:d.length+pre.length<i
    ·have:=PX M V Cy af T oi b H O C;rw[y] at this;simp at this
    ·omega
   refine⟨fun K=>?_,fun i u=>?_⟩
   ·have z:d.length+pre.length∈Region.ready md (d++g).toArray b:=by
     rw[pK];have B:d.length+pre.length<b.size:=by simp at E hls;omega
     have q:=y (d.length+pre.length);refine⟨by simp[B] at q⊢;exact q,o,I,fun e R N=>?_⟩;have:=KC M I R N;rw[y];simpa using this
    rw[K] at z;cases z
   ·obtain rfl:=U i u;have h':wpOp P (d++g).toArray Q (d.length+pre.length) (wpList P (d++g).toArray Q rest) a w:=by
     unfold wpOp;simp only[I];exact h
    refine wpOp_mono (fun a' w' q=>ih rest l _ a' w' (by simpa using J) ⟨pre++[o],by simp[L],fun i=>?_⟩ nu af q) h';by_cases D:d.length+pre.length=i
    ·subst D;have B:d.length+pre.length<b.size:=by simp at E hls;omega
     simp[B]
    ·rw[getD_set_ne false D,y];simp;omega
theorem ajJ (init tail:List Oper) (hF':rE md (init++tail) init.length=true) (y:∀i,(F i).ay) (z:∀t,(S 0 t).ay) (hB:gI md (init++tail).toArray n=true)
 (hnext:∀i o,(init++tail).toArray[i]? =some o->S (i+1)=mP (S i) o.dst (F i))
 (f:∀i o,i<init.length->(init++tail).toArray[i]? =some o->∀a w,Ext w0 w->Reads (init++tail).toArray (S i) o a w->sK P (init++tail).toArray Q (F i) o a w)
 (l:∀a w,Ext w0 w->a.defers=ds->a.tmps.size=n->(∀t,t<n->S init.length t (a.tmps.getD t undef) w)->wpList P (init++tail).toArray Q tail a w):
 ∀(fuel:Nat) (listed:Array Bool) (a:Act) (w:World),listed.size=(init++tail).length->(List.range init.length).countP (fun i=>!listed.getD i false)+tail.length<=fuel->(∀i,init.length<=i->listed.getD i false=false)->
  CN md (init++tail).toArray w0 n ds S F listed a w->wpAny P md (init++tail).toArray Q fuel listed a w:=by
 intro fuel;have start:∀(fuel:Nat) (listed:Array Bool) (a:Act) (w:World),listed.size=(init++tail).length->tail.length<=fuel->(∀i,i<init.length->listed.getD i false=true)->(∀i,init.length<=i->listed.getD i false=false)->
  CN md (init++tail).toArray w0 n ds S F listed a w->wpAny P md (init++tail).toArray Q fuel listed a w:=by
  intro fuel listed a w hls r hall hnone h;refine Qb init tail hB hF' tail.length tail fuel listed a w rfl ⟨[],av,fun i=>?_⟩ hls r ?_
  ·exact P1
  ·refine l a w h.ext h.defers h.size fun t H=>?_;by_cases hw:∃(j:Nat) (oj:Oper),(init++tail).toArray[j]? =some oj/\oj.dst=some t
   ·obtain⟨j,oj,hj,hd⟩:=hw;have E:=(gX.1 hj).1;by_cases m:j<init.length
    ·rw[Fh hnext hB hj hd init.length av m];exact h.done j oj t hj hd (hall j m)
    ·exact Yc
   ·exact Yo
 induction fuel with
 | zero=>
   intro listed a w hls C hnone h;refine start 0 listed a w hls af (fun i hi=>?_) hnone h;have u:(List.range init.length).countP (fun i=>!listed.getD i false)=0:=af;rw[List.countP_eq_zero] at u;have:=u i pq;simpa using this
 | succ fuel B=>
   intro listed a w hls C hnone h;by_cases CC:∀i,i<init.length->listed.getD i false=true
   ·exact P5
   ·have d:∀i∈Region.ready md (init++tail).toArray listed,i<init.length:=by
     exact X3
    refine⟨fun hr=>?_,fun i hi=>?_⟩
    ·exact PY
    ·have vN:=d i hi;obtain⟨hun,o,g,_⟩:=pK.1 hi;have hil:=(gX.1 g).1;have h1:i<listed.size:=EZ;have e:(List.range init.length).countP (fun j=>!(listed.setIfInBounds i true).getD j false)+tail.length<=fuel:=by
      exact OO
     have q:=f i o vN g a w h.ext (ajI hnext hB h g hi nu);have b:∀j,init.length<=j->(listed.setIfInBounds i true).getD j false=false:=fun j hj=>by
      rw[getD_set_ne false af];exact hnone j hj
     unfold sK at q;unfold wpOp;simp only[g];split
     ·rename_i hw;rw[aC hw] at q;exact .inl (q _ fun v w' D G=>B _ _ _ nu e b (h.put y z hB g hi nu D G))
     ·rename_i hw;rw[aA hw] at q;exact B _ _ _ nu e b (h.put y z hB g hi nu (Ext.refl w) q)
end
def KD (P:Program) (ops:Array Oper) (Q:Exit->Act->World->Prop) (w0:World) (n:Nat) (ds:List Deferred) (b:List Oper):List Oper->(Nat->Fact)->Prop
 | [],S=>∀a w,Ext w0 w->a.defers=ds->a.tmps.size=n->(∀t,t<n->S t (a.tmps.getD t undef) w)->wpList P ops Q b a w
 | o::rest,S=>∃f:Fact,f.ay/\(∀a w,Ext w0 w->Reads ops S o a w->sK P ops Q f o a w)/\KD P ops Q w0 n ds b rest (mP S o.dst f)
def qz (ops:Array Oper) (b:Nat->Fact) (k:Nat):Nat->Nat->Fact
 | 0=>b
 | j+1=>match ops[k+j]? with
   | some o=>mP (qz ops b k j) o.dst (Is undef)
   | none=>qz ops b k j
theorem YF (b:List Oper):∀(l:List Oper) (k:Nat) (S0:Nat->Fact),(∀j,j<l.length->l[j]? =ops[k+j]?)->KD P ops Q w0 n ds b l S0->
 ∃(S:Nat->Nat->Fact) (F:Nat->Fact),S k=S0/\(∀i,(F i).ay)/\(∀i o,k<=i->i<k+l.length->ops[i]? =some o->∀a w,Ext w0 w->Reads ops (S i) o a w->sK P ops Q (F i) o a w)/\
  (∀i o,k<=i->ops[i]? =some o->S (i+1)=mP (S i) o.dst (F i))/\
  (∀a w,Ext w0 w->a.defers=ds->a.tmps.size=n->(∀t,t<n->S (k+l.length) t (a.tmps.getD t undef) w)->wpList P ops Q b a w)
 | [],k,S0,_,h=>by
   refine⟨fun i=>qz ops S0 k (i-k),fun _=>Is undef,by simp[qz],fun _=>Is.ay _,?_,?_,?_⟩
   ·intro i o hi hi2 ho;simp at hi2;omega
   ·exact P4
   ·have e:qz ops S0 k (k+([]:List Oper).length-k)=S0:=by simp[qz]
    intro a w h1 h2 h3 h4;refine h a w h1 h2 h3 fun t g=>?_;have:=h4 t g;simp only[e] at this;exact this
 | o::rest,k,S0,hl,h=>by
   obtain⟨f,hf,hs,d⟩:=h;obtain⟨S,F,h0,h1,h2,h3,h4⟩:=YF b rest (k+1) _ (fun j hj=>Pg) d;have ho:ops[k]? =some o:=by simpa using(hl 0 av).symm
   refine⟨fun i=>if i<=k then S0 else S i,fun i=>if i<=k then f else F i,av,fun i=>Pw,?_,?_,?_⟩
   ·exact PW
   ·exact PT
   ·exact P6
theorem ajK {id:Nat} {a:Act} {w:World} (init tail:List Oper) (B:Ext w0 w) (C:P.follows .mixedOrders=true) (u:gI .any (init++tail).toArray a.tmps.size=true) (y:rE .any (init++tail) init.length=true)
 (h:KD P (init++tail).toArray Q w0 a.tmps.size a.defers tail init (fun t=>Is (a.tmps.getD t undef))):(Code.region id (init++tail).toArray true).wp P Q a w:=by
 obtain⟨S,F,f,g,m,q,r⟩:=YF tail init 0 _ (fun j b=>by simp[rF b]) h;refine wp_region_any C (ajJ (md:=.any) init tail y g (fun t=>by rw[f];exact Is.ay _) u (fun i o=>q i o (bL _)) (fun i o D=>m i o (bL _) af) (fun a w=>by simpa using r a w) _ _ _ _ av ?_ ?_ ?_)
 ·exact OU
 ·exact PG
 ·refine⟨B.trans (Ext.drew w),rfl,rfl,?_,?_,?_,?_⟩
  ·intro j o d b z hl;exact xT
  ·intro j o d b z hl;rw[f];rfl
  ·intro d _;rw[f];rfl
  ·intro j o e b hl;exact xT
end
section
variable {P:Program} {ops:Array Oper} {Q:Exit->Act->World->Prop} {w0:World} {ds:List Deferred} {tail:List Oper}
def aJ (L:List Fact):Nat->Fact:=fun t=>L.getD t (Is undef)
def bZ (L:List Fact) (d:Option Tmp) (f:Fact):List Fact:=match d with
 | some d=>L.set d f
 | none=>L
def aaw (P:Program) (ops:Array Oper) (Q:Exit->Act->World->Prop) (tail:List Oper) (ds:List Deferred) (w:World):List Fact->List Value->Prop
 | [],b=>wpList P ops Q tail ⟨b.reverse.toArray,ds⟩ w
 | f::L,b=>∀x,f x w->aaw P ops Q tail ds w L (x::b)
def nD (P:Program) (ops:Array Oper) (Q:Exit->Act->World->Prop) (w0:World) (tail:List Oper) (ds:List Deferred):List Oper->List Fact->Prop
 | [],L=>∀w,Ext w0 w->aaw P ops Q tail ds w L []
 | o::rest,L=>∃f:Fact,f.ay/\(∀a w,Ext w0 w->Reads ops (aJ L) o a w->sK P ops Q f o a w)/\nD P ops Q w0 tail ds rest (bZ L o.dst f)
theorem KE (w:World):∀(L:List Fact) (b:List Value) (xs:List Value),aaw P ops Q tail ds w L b->xs.length=L.length->(∀(t:Nat) (h:t<xs.length),(L.getD t (Is undef)) xs[t] w)->wpList P ops Q tail ⟨(b.reverse++xs).toArray,ds⟩ w
 | [],b,xs,h,d,_=>by
   have:xs=[]:=gY d;subst this;simpa[aaw] using h
 | f::L,b,[],_,d,_=>by simp at d
 | f::L,b,x::xs,h,d,e=>by
   have g:=e 0 av;have:=KE w L (x::b) xs (h x (by simpa using g)) (by simpa using d) (fun t i=>e (t+1) (by simpa using i));simpa using this
theorem Qc (L:List Fact) (d:Tmp) (f:Fact) (h:d<L.length):aJ (L.set d f)=mP (aJ L) (some d) f:=by
 funext t;simp only[aJ,mP,List.getD];by_cases b:t=d
 ·subst b;simp[h]
 ·rw[aA b,List.getElem?_set_ne (sL b)]
theorem Qd:∀(l:List Oper) (L:List Fact),(∀o∈l,∀d,o.dst=some d->d<L.length)->nD P ops Q w0 tail ds l L->KD P ops Q w0 L.length ds tail l (aJ L)
 | [],L,_,h=>fun a w q hd u r=>by
   have i:=KE w L [] a.tmps.toList (h w q) (by simpa using u) (fun t y=>by
    have g:t<a.tmps.size:=by simpa using y
    have:=r t af;simpa[aJ,g] using this)
   rw[<-hd] at i;simpa using i
 | o::rest,L,hd,h=>by
   obtain⟨f,j,m,b⟩:=h;refine⟨f,j,m,?_⟩;cases ho:o.dst with
   | none=>
     rw[ho] at b;exact Qd rest L (fun o' ho'=>hd o' (by simp[ho'])) b
   | some d=>
     rw[ho] at b;have e:=hd o av d ho;have:=Qd rest (L.set d f) (fun o' ho' d' hd'=>Pv) b;rw[pE,Qc L d f e] at this;exact this
theorem ajL {id:Nat} {w:World} (init tail:List Oper) {l:List Oper} {vs:List Value} (m:Ext w0 w) (r:P.follows .mixedOrders=true) (q:l=init++tail) (hB:gI .any l.toArray vs.length=true) (g:rE .any l init.length=true)
 (h:nD P l.toArray Q w0 tail ds init (vs.map Is)):(Code.region id l.toArray true).wp P Q ⟨vs.toArray,ds⟩ w:=by
 subst q;refine ajK init tail m r (by simpa using hB) g ?_;have b:∀o∈init,∀d,o.dst=some d->d<(vs.map Is).length:=by
  exact OP
 have f:=Qd init (vs.map Is) b h;have e:aJ (vs.map Is)=fun t=>Is ((vs.toArray).getD t undef):=by
  exact OW
 rw[e] at f;simpa using f
theorem Qe {α:Type} (k:Nat) (l:List α):l=l.take k++l.drop k:=(pM k l).symm
theorem eR {id:Nat} {w:World} (k:Nat) {l:List Oper} {vs:List Value} (e:Ext w0 w) (f:P.follows .mixedOrders=true) (b:gI .any l.toArray vs.length=true) (d:rE .any l (l.take k).length=true)
 (h:nD P l.toArray Q w0 (l.drop k) ds (l.take k) (vs.map Is)):(Code.region id l.toArray true).wp P Q ⟨vs.toArray,ds⟩ w:=
 ajL (l.take k) (l.drop k) e f (Qe k l) b d h
theorem cH (w:World) (v:Value) (L:List Fact) (b:List Value) (h:aaw P ops Q tail ds w L (v::b)):aaw P ops Q tail ds w (Is v::L) b:=fun x d=>by
 have:x=v:=d;subst this;exact h
theorem cI (w:World) (f:Fact) (L:List Fact) (b:List Value) (h:∀x,f x w->aaw P ops Q tail ds w L (x::b)):aaw P ops Q tail ds w (f::L) b:=h
theorem cJ (w:World) (b:List Value) (h:wpList P ops Q tail ⟨b.reverse.toArray,ds⟩ w):aaw P ops Q tail ds w [] b:=h
section
variable {o:Oper} {rest:List Oper} {L:List Fact}
theorem uJ (t:Tmp) (f:Fact) (hg:o.guard=none) (ho:o.op=.move (.tmp t)∨o.op=.assign (.tmp t)) (d:L.getD t (Is undef)=f) (g:f.ay) (h:nD P ops Q w0 tail ds rest (bZ L o.dst f)):nD P ops Q w0 tail ds (o::rest) L:=by
 subst d;refine⟨_,g,fun a w _ e=>?_,h⟩;have i:aJ L t (a.tmps.getD t undef) w:=e t Pt;unfold sK;rw[aC EY];intro K b;have h1:=b _ w (Ext.refl w) i;unfold Oper.wp;rcases ho with ho | ho
 ·exact Kq
 ·exact Kn
theorem vZ (v:Value) (hg:o.guard=none) (ho:o.op=.move (.const v)∨o.op=.assign (.const v)) (h:nD P ops Q w0 tail ds rest (bZ L o.dst (Is v))):nD P ops Q w0 tail ds (o::rest) L:=by
 refine⟨_,Is.ay v,fun a w _ _=>?_,h⟩;unfold sK;rw[aC EY];intro K b;have h1:=b v w (Ext.refl w) rfl;unfold Oper.wp;rcases ho with ho | ho
 ·exact Kq
 ·exact Kn
theorem bT {v:Value} (hg:o.guard=none) (d:∀a w,Ext w0 w->Reads ops (aJ L) o a w->∀K:Act->World->Prop,(∀w',Ext w w'->K (a.put o.dst v) w')->o.wp P a w K Q)
 (h:nD P ops Q w0 tail ds rest (bZ L o.dst (Is v))):nD P ops Q w0 tail ds (o::rest) L:=
 ⟨_,Is.ay v,fun a w f g=>by unfold sK;rw[aC EY];exact fun K e=>d a w f g K fun w' b=>e v w' b rfl,h⟩
theorem jh (f:Fact) (e:f.ay) (hg:o.guard=none) (b:∀a w,Ext w0 w->Reads ops (aJ L) o a w->∀K:Act->World->Prop,(∀v w',Ext w w'->f v w'->K (a.put o.dst v) w')->o.wp P a w K Q)
 (h:nD P ops Q w0 tail ds rest (bZ L o.dst f)):nD P ops Q w0 tail ds (o::rest) L:=
 ⟨f,e,fun a w d g=>by unfold sK;rw[aC EY];exact b a w d g,h⟩
end
end
def dx (n d:Nat) (o:Obj):Fact:=fun x w=>∃b,x=.slice (some ⟨b,0,none⟩) n d/\ah w b o
theorem dx.ay (n d:Nat) (o:Obj):(dx n d o).ay:=fun _ _ _ g ⟨b,e,f⟩=>⟨b,e,g.blk b o f⟩
theorem dx.new (n b:Nat) (o:Obj) (w:World):dx n b o (.slice (some ⟨w.heap.size,0,none⟩) n b) (w.alloc o):=⟨_,rfl,ah.new w o⟩
end aD

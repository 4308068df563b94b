/- A part of the proof. -/
import Derived.Test.YteninnkbmoimgaaGreatDoorKE
set_option linter.unusedSimpArgs false
set_option linter.unusedVariables false
set_option maxRecDepth 100000
set_option maxHeartbeats 16000000
namespace aD
structure eZ where
 key:List UInt8
 back:Bool
 used:Bool
 done:Bool
def aas (d:Bool) (a b:List UInt8):Bool:=if d then bl b a else bl a b
def eZ.sees (d:DS) (c:eZ) (r:List UInt8):Bool:=aas c.back c.key (ax d r)||(ax d r==c.key&&!c.used)
def tE (b:Bool) (R:aB):aB:=if b then R.reverse else R
def iY (d:DS) (R:aB) (c:eZ):aB:=if c.done then[] else(tE c.back R).filter (c.sees d)
def fW (d:DS) (R:aB) (c:eZ):Option (List UInt8):=
 if c.done then none else
  match (if c.used then none else eJ d R c.key) with
  | some r=>some r
  | none=>if c.back then jt d R c.key else jL d R c.key
def eZ.next (d:DS) (c:eZ):Option (List UInt8)->eZ
 | some r=>{c with key:=ax d r,used:=true}
 | none=>{c with done:=true}
theorem agD (b:Bool) (a:List UInt8):aas b a a=false:=by unfold aas;split<;>exact rI a
theorem au4 {b:Bool} {x y z:List UInt8} (d:aas b x y=true) (e:aas b y z=true):aas b x z=true:=by
 unfold aas at *;cases b
 ·exact iN d e
 ·exact iN e d
theorem agE {b:Bool} {x y:List UInt8} (d:aas b x y=true):aas b y x=false:=by
 unfold aas at *;cases b
 ·exact sR d
 ·exact sR d
theorem au5 {b:Bool} {x y:List UInt8} (d:aas b x y=true):x≠y:=fun e=>by subst e;rw[agD] at d;cases d
theorem agF {d:DS} {R:aB} (h:dN d R) (b:Bool):(tE b R).Pairwise fun x y=>aas b (ax d x) (ax d y)=true:=by
 unfold tE aas;cases b
 ·exact h
 ·simp only[pF];rw[List.pairwise_reverse];exact h
theorem agG {d:DS} {R:aB} (h:dN d R) {x y:List UInt8} (l:x∈R) (m:y∈R) (e:ax d x=ax d y):x=y:=by
 obtain⟨i,f,rfl⟩:=nT.1 l;obtain⟨j,g,rfl⟩:=nT.1 m;rcases C0 i j with b | rfl | b
 ·have:=ue.1 h i j f g b;rw[e,rI] at this;cases this
 ·rfl
 ·have:=ue.1 h j i g f b;rw[e,rI] at this;cases this
theorem au6 {d:DS} {R:aB} (h:dN d R) (b:Bool) (k:List UInt8):eJ d R k=eJ d (tE b R) k:=by
 unfold tE;cases b
 ·rfl
 ·simp only[pF];unfold eJ;cases h1:R.find? (fun s=>ax d s==k) with
  | none=>
    symm;rw[rJ] at h1⊢;intro x f;exact h1 x (by simpa using f)
  | some x=>
    have f:=FK h1;have g:=CZ h1;cases h2:R.reverse.find? (fun s=>ax d s==k) with
    | none=>
      rw[rJ] at h2;exact absurd g (h2 x (by simpa using f))
    | some y=>
      have i:=FK h2;have e:=CZ h2;simp only[jT] at g e;rw[agG h f (by simpa using i) (by rw[g,e])]
theorem agH {d:DS} {R:aB} (h:dN d R) (c:eZ):fW d R c=(iY d R c).head? :=by
 have j:=agF h c.back;unfold fW iY;cases hd:c.done
 ·refine ET ?_;have m:(if c.back then jt d R c.key else jL d R c.key)=(tE c.back R).find? (fun s=>aas c.back c.key (ax d s)):=by
   unfold jt jL tE aas;cases c.back<;>rfl
  rw[m,au6 h c.back,List.head?_filter];generalize tE c.back R=Q at *;have f:∀(b:c.used=true∨∀s∈Q,¬ax d s=c.key),Q.find? (fun s=>aas c.back c.key (ax d s))=Q.find? (c.sees d):=by
   intro b;clear j m;induction Q with
   | nil=>rfl
   | cons x Q z=>
     have y:(aas c.back c.key (ax d x))=c.sees d x:=by
      unfold eZ.sees;rcases b with b | b
      ·simp[b]
      ·have:=b x av;have:(ax d x==c.key)=false:=by simpa using this
       simp[this]
     simp only[List.find?_cons,y];rw[z (b.imp id fun h s l=>h s (by simp[l]))]
  cases hu:c.used
  ·refine ET ?_;cases hw:eJ d Q c.key with
   | none=>
     exact f (.inr fun s l e=>by
      unfold eJ at hw;rw[rJ] at hw;exact hw s l zX)
   | some r=>
     unfold eJ at hw;rw[List.find?_eq_some_iff_append] at hw;obtain⟨i,g,n,rfl,has⟩:=hw;simp only[jT] at i;rw[mT] at j;symm;rw[List.find?_eq_some_iff_append];refine⟨by simp[eZ.sees,i,hu],g,n,rfl,fun a u=>?_⟩;have:=j.2.2 a u r av;rw[i] at this;have q:=agE this;have t:(ax d a==c.key)=false:=by simpa using au5 this
     simp[eZ.sees,q,t]
  ·simp only[pF];exact f (.inl hu)
 ·simp
theorem au7 {d:DS} {R:aB} (h:dN d R) (c:eZ):iY d R (c.next d (fW d R c))=(iY d R c).tail:=by
 have n:=agF h c.back;rw[agH h c];cases hr:(iY d R c).head? with
 | none=>
   have:iY d R c=[]:=by simpa using hr
   rw[this];simp[eZ.next,iY]
 | some r=>
   obtain⟨l,b⟩:∃l,iY d R c=r::l:=by
    cases h2:iY d R c with
    | nil=>rw[h2] at hr;cases hr
    | cons x l=>rw[h2] at hr;cases hr;exact⟨l,rfl⟩
   rw[b,List.tail_cons];have z:c.done=false:=by
    cases h2:c.done
    ·rfl
    ·unfold iY at b;rw[h2] at b;simp at b
   unfold iY at b⊢;simp only[eZ.next,z,EU,uL] at b⊢;generalize tE c.back R=Q at *;have e:c.sees d r=true:=by
    have:r∈Q.filter (c.sees d):=by rw[b];simp
    exact(AQ.1 this).2
   rw[List.filter_eq_cons_iff] at b;obtain⟨o,q,rfl,B,_,u⟩:=b;rw[mT,lM] at n;obtain⟨_,⟨f,_⟩,j⟩:=n;have g:∀s∈q,c.sees d s=true:=by
    intro s g;have m:=f s g;unfold eZ.sees at e⊢;rw[pL] at e;rcases e with i | i
    ·rw[au4 i m];rfl
    ·simp only[eu,jT] at i;rw[<-i.1,m];rfl
   rw[<-u,Nh,Ma,I7.2 g];have t:eZ.sees d {key:=ax d r,back:=c.back,used:=true,done:=false}=fun s=>aas c.back (ax d r) (ax d s):=by
    funext s;simp[eZ.sees]
   rw[t,List.filter_eq_nil_iff.2 (fun a y=>by rw[agE (j a y r av)];simp)];simp only[agD,EU,uL,bQ];exact I7.2 (fun s g=>f s g)
theorem au8 {d:DS} {R:aB} (c:eZ):(iY d R c).length<=R.length:=by
 unfold iY tE;split
 ·simp
 ·split
  ·exact fN (IG _ _) av
  ·exact IG _ _
theorem vX {R:aB} {j:Nat} (b:j<R.length):R.getD j []=R[j]:=by simp[List.getD,b]
theorem afK {d:DS} {R:aB} (h:dN d R) {j:Nat} (e:j<R.length) {k:List UInt8} (hk:ax d (R.getD j [])=k):eJ d R k=some (R.getD j []):=by
 rw[vX e] at hk⊢;cases hw:eJ d R k with
 | none=>
   unfold eJ at hw;rw[rJ] at hw;exact absurd vR (hw _ (mN e))
 | some x=>
   unfold eJ at hw;have f:=FK hw;have b:=CZ hw;simp only[jT] at b;rw[agG h f (mN e) (by rw[hk,b])]
theorem afI {d:DS} {R:aB} {k:List UInt8} (h:∀i,i<R.length->ax d (R.getD i [])≠k):eJ d R k=none:=by
 unfold eJ;rw[rJ];intro x f e;obtain⟨i,b,rfl⟩:=nT.1 f;have:=h i b;rw[vX b] at this;exact this zX
theorem afN {d:DS} {R:aB} {j:Nat} (e:j<R.length) {k:List UInt8} (b:bl k (ax d (R.getD j []))=true) (f:∀i,i<j->bl k (ax d (R.getD i []))=false):jL d R k=some (R.getD j []):=by
 unfold jL;rw[vX e] at b⊢;rw[List.find?_eq_some_iff_getElem];refine⟨b,j,e,rfl,fun i g=>?_⟩;have:=f i g;rw[vX af] at this;simp[this]
theorem afL {d:DS} {R:aB} {k:List UInt8} (h:∀i,i<R.length->bl k (ax d (R.getD i []))=false):jL d R k=none:=by
 unfold jL;rw[rJ];intro x hx e;exact XD
theorem afO {d:DS} {R:aB} {j:Nat} (f:j<R.length) {k:List UInt8} (b:bl (ax d (R.getD j [])) k=true) (e:∀i,j<i->i<R.length->bl (ax d (R.getD i [])) k=false):jt d R k=some (R.getD j []):=by
 unfold jt;rw[vX f] at b⊢;rw[List.find?_eq_some_iff_getElem];refine⟨b,R.length-1-j,aY,?_,fun i g=>?_⟩
 ·rw[Oo];congr 1;omega
 ·rw[Oo];have:=e (R.length-1-i) af af;rw[vX af] at this;simp[this]
theorem afM {d:DS} {R:aB} {k:List UInt8} (h:∀i,i<R.length->bl (ax d (R.getD i [])) k=false):jt d R k=none:=by
 unfold jt;rw[rJ];intro x hx e;rw[Gb] at hx;exact XD
theorem Je {d:DS} {R:aB} {c:eZ} (h:c.done=true):fW d R c=none:=by unfold fW;rw[aC h]
theorem afJ {d:DS} {R:aB} {c:eZ} (b:c.done=false) (e:c.used=false) {r:List UInt8} (h:eJ d R c.key=some r):fW d R c=some r:=by
 unfold fW;rw[b,e];simp[h]
theorem Jf {d:DS} {R:aB} {c:eZ} (b:c.done=false) (h:c.used=true∨eJ d R c.key=none):fW d R c=if c.back then jt d R c.key else jL d R c.key:=by
 unfold fW;rw[b];rcases h with h | h
 ·rw[h];simp
 ·rw[h];simp
theorem au9 {d:DS} {R:aB} (g:dN d R) {k:List UInt8} {n:Nat} (l:∀i,i<n->bl (ax d (R.getD i [])) k=true) (m:∀i,n<=i->i<R.length->bl (ax d (R.getD i [])) k=false):
 eJ d R k=if n<R.length/\ax d (R.getD n [])=k then some (R.getD n []) else none:=by
 split
 ·next h=>exact afK g h.1 h.2
 ·next h=>
  refine afI fun i j e=>?_;rcases C0 i n with b | rfl | b
  ·have:=l i b;rw[e,rI] at this;cases this
  ·exact h ⟨j,e⟩
  ·have f:=Ln g b j;rw[e] at f;rw[m n (aH _) af] at f;cases f
theorem ava {d:DS} {R:aB} {k:List UInt8} {n:Nat} (b:∀i,i<n->bl k (ax d (R.getD i []))=false) (e:∀i,n<=i->i<R.length->bl k (ax d (R.getD i []))=true):
 jL d R k=if n<R.length then some (R.getD n []) else none:=by
 split
 ·next h=>exact afN h (e n (aH _) h) b
 ·next h=>exact afL fun i f=>b i af
theorem avb {d:DS} {R:aB} {k:List UInt8} {n:Nat} (j:n<=R.length) (f:∀i,i<n->bl (ax d (R.getD i [])) k=true) (b:∀i,n<=i->i<R.length->bl (ax d (R.getD i [])) k=false):
 jt d R k=if 0<n then some (R.getD (n-1) []) else none:=by
 split
 ·next h=>exact afO af (f _ af) (fun i e g=>b i af g)
 ·next h=>exact afM fun i e=>b i af e
end aD
namespace Go.Proofs.YteninnkbmoimgaaGreatDoor
open Go.RowKit aD
theorem JP (q:Value) (h:Hd) (d:DS):∀j (b:j<((aK h):Array Value).size),(bH q h d)[1+j]? =some ((aK h):Array Value)[j]:=by
 intro j b;have e:j<7:=b;rcases j with _ | _ | _ | _ | _ | _ | _ | j<;>first | rfl | omega
theorem xS (q:Value) (h:Hd) (d:DS):∀j (b:j<((az d):Array Value).size),(bH q h d)[8+j]? =some ((az d):Array Value)[j]:=by
 intro j b;have e:j<21:=b;rcases j with _ | _ | _ | _ | _ | _ | _ | _ | _ | _ | _ | _ | _ | _ | _ | _ | _ | _ | _ | _ | _ | j<;>first | rfl | omega
theorem Vr {M:List (List UInt8)} {d:DS} {h:Hd} {S:List aQ} {g:List Int} {n:Nat} (K:dL M d h S g n) (k:List UInt8)
 (p:Option Addr) (b m:Nat) (w:World) (t:bk w p M) (r:M.length=m):
 Calls Tryz.prog 74 #[.iface 32 (.slice p m b),.agg (aK h),.agg (az d),.string ⟨k.toArray⟩] w fun e w'=>Ext w w'/\∃q c,e=.returned (.tuple #[.slice q (h.height.toNat+1) c,.int .i64 0])/\Ints w' q (eW M h d k h.height.toNat):=by
 have hz:=K.door.2.2.2.2.2.2;obtain⟨o,_⟩:=K.k.at k;refine(aqL p b m M h d k w t r K.small).mono ?_;rintro e w' ⟨j,q,c,rfl,f⟩;have i:oN M h d k=0:=by unfold oN;rw[aA uP,o]
 have l:sE M h d k=eW M h d k h.height.toNat:=by unfold sE;rw[aC i]
 rw[l] at f⊢;rw[i];rw[tO] at f⊢;exact⟨j,q,c,rfl,Nf f⟩
theorem avc {l:List Oper} {m A:Nat} {xs:List (Nat×Tmp)} {R:Nat->Rel} {S:World->Prop} (b:∀w w',Ext w w'->S w->S w') (_:gI .any l.toArray m=true):Pre.sU .any l.toArray [(A,xs)] R (fun _ w=>S w):=
 ⟨fun _ _ w w' e h=>b w w' e h,fun p q f g d=>by simp[eN] at f g;omega⟩
theorem rY {n0 g:Nat} {A B:World} (c:aI g A B) (b:n0<=g):Below n0 A B:=⟨c.os,c.tape,c.output,Cl,fun k d=>c.block k af⟩
theorem avd {P:Program} {fn:Func} {p l m:Tmp} {f:TypeId} (h:fn.results=#[.tmp l,.cell p f,.tmp m]) (b:Array Value) (w:World) (g:Nat) (t:TypeId) (e:Array Value) (d:TypeDesc)
 (hp:b.getD p undef=.pointer (some ⟨g,0,none⟩)) (o:ah w g (.cells e t)) (r:P.underlying f=some d) (n:(match d with | .struct _ | .array _ _=>true | _=>false)=true) (q:(P.info? f).map (·.size)=some e.size):
 (results fn b).run P w=.ok (.tuple #[b.getD l undef,.agg e,b.getD m undef]) w:=by
 have j:b[p]?.getD undef=.pointer (some ⟨g,0,none⟩):=zU;have i:=yA w g t f e (0,0) d o r n q;simp[results,h,j,asAddr,i,Sem.run_bind]
theorem ave {M:List (List UInt8)} {d:DS} {h:Hd} {S:List aQ} {dn:List Int} {n:Nat} (K:dL M d h S dn n) (k:List UInt8) {s:aQ} (D:s∈S) (kC:bJ M h d k h.height.toNat=s.2.base)
 (p:Option Addr) (f m:Nat) (w:World) (hs:bk w p M) (hn:M.length=m):
 Calls Tryz.prog 56 #[.agg (bH (.slice p m f) h d),.string ⟨k.toArray⟩] w fun e w'=>Ext w w'/\∃(qp:Option Addr) (np cp:Nat) (q:Option Addr) (c:Nat) (p':Option Addr) (m':Nat),e=.returned (.tuple #[.slice qp np cp,.agg (bn s.2 q c p' m'),.int .i64 0])/\cX w' s.2 q c p' m':=by
 have I:=K.k.inv s D;have HL:=ag (fun W (e:bk W p M)=>Vr K k p f m W e hn);have j:=ag (fun W (e:bk W p M)=>aeJ p f m M d s.2.base W e hn K.small);rw[(K.k.holds s D).read I.spec] at j;unfold mw at j;have Hs:=ag hs;obtain⟨H,hH⟩:∃H:Nat,h.height.toNat=H:=⟨_,rfl⟩;have Eh:H<=5:=Cv;rw[hH] at kC HL;have r:(eW M h d k H).getD H 0=s.2.base:=EJ;have t:=tO M h d k H;obtain⟨a,ha⟩:∃a,a=s.2:=⟨_,rfl⟩;rw[<-ha] at j r⊢;clear hs hn K I kC D ha;generalize eW M h d k H=P at *;have h0:Ext w ((w.alloc (.cells (bH (.slice p m f) h d) 117)).alloc (.cells cA 109))/\ah ((w.alloc (.cells (bH (.slice p m f) h d) 117)).alloc (.cells cA 109)) w.heap.size (.cells (bH (.slice p m f) h d) 117)/\ah ((w.alloc (.cells (bH (.slice p m f) h d) 117)).alloc (.cells cA 109)) (w.heap.size+1) (.cells cA 109):=
  ⟨(Ext.alloc _ _).trans (Ext.alloc _ _),(Ext.alloc _ _).blk _ _ (ah.new w _),ah.new1 _ _ _ av⟩
 go_enter Tryz.func56,Tryz.ntmps56;go_upto_region 1 with(fail);refine aR (fun W=>Ext w W/\ah W w.heap.size (.cells (bH (.slice p m f) h d) 117)/\ah W (w.heap.size+1) (.cells cA 109)) h0 ?_;clear h0;rintro w0 ⟨i,g,U⟩;have i0:w0.cell? ⟨w.heap.size,0,none⟩=some (.iface 32 (.slice p m f)):=ah.val g 0 _ rfl;have l0:=ah.lt g;go_upto_region 4 with(first
  | (refine oY (o:=⟨some 14,_,_,_,_,_⟩) rfl 30 (.tmp 13) rfl w.heap.size 1 rfl _ (bH (.slice p m f) h d) (aK h) _ g (JP _ h d) fH rfl dg ?_)
  | (refine oY (o:=⟨some 16,_,_,_,_,_⟩) rfl 23 (.tmp 15) rfl w.heap.size 8 rfl _ (bH (.slice p m f) h d) (az d) _ g (xS _ h d) gr rfl gD ?_)
  | (go_at_call 74;refine(HL.out _ (Hs.out.ext i)).mono ?_;rintro e X ⟨B,qp,cp,rfl,R⟩))
 have T:=i.trans B;have z:=B.blk _ _ g;have V:=B.blk _ _ U;obtain⟨gp,jf,rfl,ke,N⟩:=R.at H (by rw[t];omega);have L:=N H (by rw[t];omega);rw[r] at L;have i3:X.cell? ⟨w.heap.size,0,none⟩=some (.iface 32 (.slice p m f)):=ah.val z 0 _ rfl;have l3:=ah.lt z;have G:=ag z;have C:=ag T;have J:=ag V;generalize nM:H+1=n1;have hw1:IntKind.i64.wrap ((n1:Int)-1)=(H:Int):=pJ;have hn2:(H:Int)<n1:=af;have lY:H<n1:=af;clear i g U i0 l0 B T z V R N r t HL;refine kH 200 [(15,[(14,9)])] (Ext.refl X) aj aj aj aj aj aj (rL _ _ 15 14 9 (j4 X.heap.size 109) (vL X.heap.size a) (fun _ _ h=>h.below) (vL.ay _ _) aj) ?_;simp only[cY,eF,gj,dV,dP,gC,dh,dQ];repeat (first
  | (refine dY (o:=⟨some 9,_,_,_,_,_⟩) (fS X.heap.size (.cells cA 109)) (fS.ay _ _) vY aj aP ?_ ?_
     ·exact uU
     refine aE ?_)
  | (refine dF (o:=⟨some 29,_,_,_,_,_⟩) (v:=.agg (az d)) aj aP ?_ ?_
     ·intro a' w' he hr K hK;simp[Reads,Oper.looksAt,Op.operands,Call.operands,aJ,Is] at hr;exact I6 23 (.tmp 28) rfl (w.heap.size) 8 dX _ _ (az d) _ (he.blk _ _ G.out) (xS _ h d) gr rfl gD (hK _ (Ext.refl _))
     refine aE ?_)
  | (refine dY (o:=⟨some 36,_,_,_,_,_⟩) (jy a) (jy.ay _) (.inr (jy.bP _ _ _)) aj aP ?_ ?_
     ·intro a' w' he hr K hK;simp[Reads,Oper.looksAt,Op.operands,Call.operands,aJ,Is] at hr;go_simp;refine(j.out _ (Hs.out.ext (C.out.trans he))).mono ?_;exact EI
     refine aE ?_)
  | (refine pG (o:=⟨some 25,_,_,_,_,_⟩) _ (jy a) aj aP lz rfl (jy.ay _) (.inr (jy.bP _ _ _)) ?_
     refine nO ?_)
  | (refine dY (o:=⟨some 37,_,_,_,_,_⟩) (nN a) (nN.ay _) (.inr (nN.bP _ _ _)) aj aP ?_ ?_
     ·intro a w' he hr K hK;obtain⟨q9,c9,p9,m9,h1,h9⟩:=hr 25 bO;exact KM
     refine aE ?_)
  | (refine dF (o:=⟨some 38,_,_,_,_,_⟩) (v:=.int .i64 0) aj aP ?_ ?_
     ·intro a w' he hr K hK;obtain⟨q9,c9,p9,m9,h1,h9⟩:=hr 25 bO;exact mO
     refine aE ?_)
  | (refine iU (o:=⟨none,_,_,_,_,_⟩) Any Any.ay (.inr Any.bP) aj aP ?_ ?_
     ·intro a w' he hr K hK;obtain⟨b,h1,h2,h3⟩:=hr 9 bO;obtain⟨q9,c9,p9,m9,hv,h9⟩:=hr 37 bO;refine nC 109 (.tmp 9) (.tmp 37) rfl b (bn _ q9 c9 p9 m9) h1 hv _ _ h2 aZ rfl (mE ..) ?_;exact Ku
     refine aE ?_)
  | (refine qD ?_)
  | (refine pH ?_))
 intro w2 l;simp only[iJ,iQ,jS,kW,bG,bN];repeat (first | with_reducible refine cH _ _ _ _ ?_ | (with_reducible refine cI _ _ _ _ ?_;intro _ _) | with_reducible refine cJ _ _ ?_)
 simp only[cF,cK,bQ,bE];rename_i x9 h9 x25 h25 x36 h36 x37 Vs;obtain⟨yb,rfl,q1,Y,p1,Z,hyb,hv1,Em⟩:=h9;clear h25 h36 Vs;have uk:=C.out.trans l;have E:=l.blk _ _ J.out;clear l C G J j ke L i3 l3 hw1 hn2 lY Em;go_upto_region 5 with(fail);refine Pre.kH 200 [(4,[(1,40)])] (uk) aj aj aj aj aj aj (rL _ _ 4 1 40 (Below w.heap.size) (fun _ W=>ah W (w.heap.size+1) (.cells (bn a q1 Y p1 Z) 109)/\cX W a q1 Y p1 Z) (fun _ _ h=>h) (fun _ _ _ he h=>⟨he.blk _ _ h.1,h.2.ext he⟩) aj) (avc (S:=fun W=>Ext w2 W) (fun _ _ e h=>h.trans e)) (fun _ _=>Ext.refl _) ?_;simp only[cY,eF,gj,dV,dP,gC,dh,dQ];repeat (first
  | (refine Pre.dF (o:=⟨some 40,_,_,_,_,_⟩) (v:=.agg (bn a q1 Y p1 Z)) (fun k v=>Pre.iF.is _ _ _ _ k v) aj aP ?_ ?_
     ·intro a' w' i O hr K' hK;have F:=O 4 aj aj;have h9:=hr 9 bO;exact eG 109 (.tmp 9) rfl yb h9 _ _ _ _ (F.blk _ _ hyb) cL rfl aZ (hK _ (Ext.refl _))
     refine aE ?_)
  | (refine Pre.iU (o:=⟨none,_,_,_,_,_⟩) Any Any.ay (fun x hx=>.inr fun _ _ _ _ _=>trivial) aj aP ?_ ?_
     ·intro a' w' i O hr K' hK;have F:=O 4 aj aj;have h5:=hr 5 bO;have u:=hr 40 bO;refine nC 109 (.tmp 5) (.tmp 40) rfl (w.heap.size+1) (bn a q1 Y p1 Z) h5 u _ _ (F.blk _ _ E) aZ rfl (mE ..) ?_;exact hK _ _ (rY aI.setRow (Nat.le_succ _)) trivial (fun x hx _ y hy=>by simp at hx;subst hx;simp at hy;subst hy;exact⟨ah.setRow (F.blk _ _ E),(hv1.ext F).lE (F.blk _ _ E) aq aq aq aI.setRow⟩)
     refine aE ?_)
  | (refine CB ?_)
  | (apply Pre.dF (fun k v=>Pre.iF.is _ _ _ _ k v) aj aP
     ·intro a w' i O hr K hK;have he:=(O 4) aj aj;exact zY
     simp only[bZ,bG,bN]))
 intro w2 l;simp only[iJ,iQ,jS,kW,bG,bN];repeat (first | with_reducible refine cH _ _ _ _ ?_ | (with_reducible refine cI _ _ _ _ ?_;intro _ _) | with_reducible refine cJ _ _ ?_)
 simp only[cF,cK,bQ,bE];rename_i x40 u;go_wp2_with fail;exact bY (avd Tryz.results56 _ _ _ _ _ _ rfl u.1 cL rfl aZ) rfl ⟨l,_,_,_,_,_,_,_,rfl,u.2⟩
end Go.Proofs.YteninnkbmoimgaaGreatDoor
namespace aD
theorem tC (d:DS) (R:aB) (i:Nat):(bW d R).getD i ([],[])=(ax d (R.getD i []),R.getD i []):=by
 unfold bW;simp only[List.getD,JX];cases R[i]? with
 | none=>simp[ax]
 | some r=>simp
theorem oW (d:DS) (R:aB):(bW d R).length=R.length:=by unfold bW;rw[kF]
def jn (d:DS):Option (List UInt8)->List UInt8×List UInt8
 | some r=>(ax d r,r)
 | none=>([],[])
def yQ (o:Option (List UInt8)):Int:=if o.isSome then 0 else 6
theorem avj {d:DS} {R:aB} (h:dN d R) {k:List UInt8} {i j:Nat} (b:i<=j) (l:j<R.length) (e:bl (ax d (R.getD i [])) k=false):bl (ax d (R.getD j [])) k=false:=by
 rcases Nat.lt_or_eq_of_le b with f | rfl
 ·have g:=Ln h f l;cases h3:bl (ax d (R.getD j [])) k
  ·rfl
  ·rw[iN g h3] at e;cases e
 ·exact e
theorem avk {d:DS} {R:aB} (h:dN d R) {k:List UInt8} {i j:Nat} (b:i<=j) (g:j<R.length) (e:bl k (ax d (R.getD i []))=true):bl k (ax d (R.getD j []))=true:=by
 rcases Nat.lt_or_eq_of_le b with f | rfl
 ·exact iN e (Ln h f g)
 ·exact e
end aD
namespace Go.Proofs.YteninnkbmoimgaaGreatDoor
open Go.RowKit aD
theorem BW (w:World) (b d:Obj):Ext w ((w.alloc b).alloc d)/\ah ((w.alloc b).alloc d) w.heap.size b/\ah ((w.alloc b).alloc d) (w.heap.size+1) d:=by
 have k1:=ah.new w b;have k2:=ah.new (w.alloc b) d;simp only[World.size_alloc] at k2;exact⟨(Ext.alloc _ _).trans (Ext.alloc _ _),(Ext.alloc _ _).blk _ _ k1,k2⟩
theorem zB (w:World) (b d e:Obj):Ext w (((w.alloc b).alloc d).alloc e)/\ah (((w.alloc b).alloc d).alloc e) w.heap.size b/\ah (((w.alloc b).alloc d).alloc e) (w.heap.size+1) d/\ah (((w.alloc b).alloc d).alloc e) (w.heap.size+1+1) e:=by
 obtain⟨f,g,i⟩:=BW w b d;have k:=ah.new ((w.alloc b).alloc d) e;simp only[World.size_alloc] at k;exact⟨f.trans (Ext.alloc _ _),(Ext.alloc _ _).blk _ _ g,(Ext.alloc _ _).blk _ _ i,k⟩
theorem agI (w:World) (b d e f:Obj):Ext w ((((w.alloc b).alloc d).alloc e).alloc f)/\ah ((((w.alloc b).alloc d).alloc e).alloc f) w.heap.size b/\ah ((((w.alloc b).alloc d).alloc e).alloc f) (w.heap.size+1) d/\ah ((((w.alloc b).alloc d).alloc e).alloc f) (w.heap.size+1+1) e/\ah ((((w.alloc b).alloc d).alloc e).alloc f) (w.heap.size+1+1+1) f:=by
 obtain⟨g,i,j,l⟩:=zB w b d e;have k:=ah.new (((w.alloc b).alloc d).alloc e) f;simp only[World.size_alloc] at k;exact⟨g.trans (Ext.alloc _ _),(Ext.alloc _ _).blk _ _ i,(Ext.alloc _ _).blk _ _ j,(Ext.alloc _ _).blk _ _ l,k⟩
def Oq (w:World) (a b:Nat) (d e f g i j:Value):World:=
 (((((w.setCell ⟨a,0,none⟩ d).setCell ⟨a,1,none⟩ e).setCell ⟨a,2,none⟩ f).setCell ⟨a,3,none⟩ g).setCell ⟨b,0,none⟩ i).setCell ⟨b,1,none⟩ j
theorem abz {w:World} {a b:Nat} {t u:TypeId} {F G H I J K:Value} (D:ah w a (.cells #[F,G,H,I] t)) (E:ah w b (.cells #[J,K] u)) (n:a≠b) (d f g j l m:Value):
 ah (Oq w a b d f g j l m) a (.cells #[d,f,g,j] t)/\ah (Oq w a b d f g j l m) b (.cells #[l,m] u)/\∀o,Ext o w->o.heap.size<=a->o.heap.size<=b->Ext o (Oq w a b d f g j l m):=by
 have q:aI a w ((((w.setCell ⟨a,0,none⟩ d).setCell ⟨a,1,none⟩ f).setCell ⟨a,2,none⟩ g).setCell ⟨a,3,none⟩ j):=((aI.setCell.trans aI.setCell).trans aI.setCell).trans aI.setCell;have r:aI b ((((w.setCell ⟨a,0,none⟩ d).setCell ⟨a,1,none⟩ f).setCell ⟨a,2,none⟩ g).setCell ⟨a,3,none⟩ j) (Oq w a b d f g j l m):=aI.setCell.trans aI.setCell;have B:=ah.setCell (i:=3) (v:=j) (ah.setCell (i:=2) (v:=g) (ah.setCell (i:=1) (v:=f) (ah.setCell (i:=0) (v:=d) D)));have C:=ah.setCell (i:=1) (v:=m) (ah.setCell (i:=0) (v:=l) (q.blk E (sL n)));exact⟨r.blk B n,C,fun o e y z=>r.ext (q.ext e y) z⟩
theorem LW {P:Program} {fn:Func} {p r E:Tmp} {n f:TypeId} (h:fn.results=#[.cell p n,.cell r f,.tmp E]) (b:Array Value) (w:World) (g m:Nat) (t F:TypeId) (l e:Array Value) (d o:TypeDesc)
 (hp:b.getD p undef=.pointer (some ⟨g,0,none⟩)) (H:ah w g (.cells l t)) (J:P.underlying n=some d) (G:(match d with | .struct _ | .array _ _=>true | _=>false)=true) (I:(P.info? n).map (·.size)=some l.size)
 (C:b.getD r undef=.pointer (some ⟨m,0,none⟩)) (u:ah w m (.cells e F)) (D:P.underlying f=some o) (q:(match o with | .struct _ | .array _ _=>true | _=>false)=true) (y:(P.info? f).map (·.size)=some e.size):
 (results fn b).run P w=.ok (.tuple #[.agg l,.agg e,b.getD E undef]) w:=by
 have B:b[p]?.getD undef=.pointer (some ⟨g,0,none⟩):=zU;have j:b[r]?.getD undef=.pointer (some ⟨m,0,none⟩):=by simpa using C
 have z:=yA w g t n l (0,0) d H J G I;have i:=yA w m F f e (0,0) o u D q y;simp[results,h,B,j,asAddr,z,i,Sem.run_bind]
def fF (x:List UInt8×List UInt8):Array Value:=#[.string ⟨x.1.toArray⟩,.string ⟨x.2.toArray⟩]
theorem avl (p:Option Addr) (n c:Nat) (L:Jg) (k:List UInt8) (g f:Nat) (w:World) (j:ah w g (.cells #[.slice p n c] 33)) (l:ah w f (.cells #[.string ⟨k.toArray⟩] 9)) (q:pV w p L) (B:L.length=n):
 Jh 87 #[.pointer (some ⟨g,0,none⟩),.pointer (some ⟨f,0,none⟩)] n (fun i=>!(bl (L.getD i ([],[])).1 k)) w:=by
 refine⟨fun args W=>by simp[callFunc,Tryz.func87];kernel_rfl,fun i z W d=>?_⟩;obtain⟨b,m,rfl,t,o⟩:=(q.ext d).at i af;obtain⟨y,_⟩:=o i af;have C:W.cell? ⟨g,0,none⟩=some (.slice (some ⟨b,m,none⟩) n c):=ah.val (d.blk _ _ j) 0 _ rfl;have D:W.cell? ⟨f,0,none⟩=some (.string ⟨k.toArray⟩):=ah.val (d.blk _ _ l) 0 _ rfl;have E:=ah.lt (d.blk _ _ j);have F:=ah.lt (d.blk _ _ l);have u:(i:Int)<n:=af;show Calls Tryz.prog 87 #[.int .i64 (i:Nat),.pointer (some ⟨g,0,none⟩),.pointer (some ⟨f,0,none⟩)] W fun e r=>e=.returned (.bool (!(bl (L.getD i ([],[])).1 k)))/\Ext W r;generalize(L.getD i ([],[])).1=x at *;have hgt:(!Go.Op.bytesLess x k&&!x==k)=bl k x:=yT _ _;clear o q j l;go_enter Tryz.func87,Tryz.ntmps87;go_upto_region 1 with(fail);go_quiet(fail);go_wp2_with fail;go_ret;exact⟨J5,J8⟩
theorem avm (p:Option Addr) (n c:Nat) (L:Jg) (k:List UInt8) (g f:Nat) (w:World) (j:ah w g (.cells #[.slice p n c] 33)) (l:ah w f (.cells #[.string ⟨k.toArray⟩] 9)) (q:pV w p L) (B:L.length=n):
 Jh 78 #[.pointer (some ⟨g,0,none⟩),.pointer (some ⟨f,0,none⟩)] n (fun i=>bl k (L.getD i ([],[])).1) w:=by
 refine⟨fun args W=>by simp[callFunc,Tryz.func78];kernel_rfl,fun i z W d=>?_⟩;obtain⟨b,m,rfl,t,o⟩:=(q.ext d).at i af;obtain⟨y,_⟩:=o i af;have C:W.cell? ⟨g,0,none⟩=some (.slice (some ⟨b,m,none⟩) n c):=ah.val (d.blk _ _ j) 0 _ rfl;have D:W.cell? ⟨f,0,none⟩=some (.string ⟨k.toArray⟩):=ah.val (d.blk _ _ l) 0 _ rfl;have E:=ah.lt (d.blk _ _ j);have F:=ah.lt (d.blk _ _ l);have u:(i:Int)<n:=af;show Calls Tryz.prog 78 #[.int .i64 (i:Nat),.pointer (some ⟨g,0,none⟩),.pointer (some ⟨f,0,none⟩)] W fun e r=>e=.returned (.bool (bl k (L.getD i ([],[])).1))/\Ext W r;generalize(L.getD i ([],[])).1=x at *;have hgt:(!Go.Op.bytesLess x k&&!x==k)=bl k x:=yT _ _;clear o q j l;go_enter Tryz.func78,Tryz.ntmps78;go_upto_region 1 with(fail);go_quiet(fail);go_wp2_with fail;go_ret;exact⟨J5,J8⟩
theorem avn (p:Option Addr) (n c:Nat) (L:Jg) (k:List UInt8) (g f:Nat) (w:World) (j:ah w g (.cells #[.slice p n c] 33)) (l:ah w f (.cells #[.string ⟨k.toArray⟩] 9)) (q:pV w p L) (B:L.length=n):
 Jh 114 #[.pointer (some ⟨g,0,none⟩),.pointer (some ⟨f,0,none⟩)] n (fun i=>!(bl (L.getD i ([],[])).1 k)) w:=by
 refine⟨fun args W=>by simp[callFunc,Tryz.func114];kernel_rfl,fun i z W d=>?_⟩;obtain⟨b,m,rfl,t,o⟩:=(q.ext d).at i af;obtain⟨y,_⟩:=o i af;have C:W.cell? ⟨g,0,none⟩=some (.slice (some ⟨b,m,none⟩) n c):=ah.val (d.blk _ _ j) 0 _ rfl;have D:W.cell? ⟨f,0,none⟩=some (.string ⟨k.toArray⟩):=ah.val (d.blk _ _ l) 0 _ rfl;have E:=ah.lt (d.blk _ _ j);have F:=ah.lt (d.blk _ _ l);have u:(i:Int)<n:=af;show Calls Tryz.prog 114 #[.int .i64 (i:Nat),.pointer (some ⟨g,0,none⟩),.pointer (some ⟨f,0,none⟩)] W fun e r=>e=.returned (.bool (!(bl (L.getD i ([],[])).1 k)))/\Ext W r;generalize(L.getD i ([],[])).1=x at *;have hgt:(!Go.Op.bytesLess x k&&!x==k)=bl k x:=yT _ _;clear o q j l;go_enter Tryz.func114,Tryz.ntmps114;go_upto_region 1 with(fail);go_quiet(fail);go_wp2_with fail;go_ret;exact⟨J5,J8⟩
theorem Vt {d:DS} {R:aB} (h:dN d R) (k:List UInt8):∀i j,i<=j->j<(bW d R).length->(!(bl ((bW d R).getD i ([],[])).1 k))=true->(!(bl ((bW d R).getD j ([],[])).1 k))=true:=by
 intro i j b f e;rw[oW] at f;rw[tC] at e⊢;simp only[La] at e⊢;exact avj h b f e
theorem avo {d:DS} {R:aB} (h:dN d R) (k:List UInt8):∀i j,i<=j->j<(bW d R).length->bl k ((bW d R).getD i ([],[])).1=true->bl k ((bW d R).getD j ([],[])).1=true:=by
 intro i j b f e;rw[oW] at f;rw[tC] at e⊢;exact avk h b f e
theorem Jm {d:DS} {R:aB} {k:List UInt8} {r:Nat} (e:∀i,i<r->(!(bl ((bW d R).getD i ([],[])).1 k))=false) (f:∀i,r<=i->i<(bW d R).length->(!(bl ((bW d R).getD i ([],[])).1 k))=true):
 (∀i,i<r->bl (ax d (R.getD i [])) k=true)/\∀i,r<=i->i<R.length->bl (ax d (R.getD i [])) k=false:=by
 refine⟨fun i b=>?_,fun i b g=>?_⟩
 ·have:=e i b;rw[tC] at this;simpa using this
 ·have:=f i b (by rw[oW];exact g);rw[tC] at this;simpa using this
theorem agJ {d:DS} {R:aB} {k:List UInt8} {r:Nat} (e:∀i,i<r->bl k ((bW d R).getD i ([],[])).1=false) (f:∀i,r<=i->i<(bW d R).length->bl k ((bW d R).getD i ([],[])).1=true):
 (∀i,i<r->bl k (ax d (R.getD i []))=false)/\∀i,r<=i->i<R.length->bl k (ax d (R.getD i []))=true:=by
 refine⟨fun i b=>?_,fun i b g=>?_⟩
 ·have:=e i b;rw[tC] at this;exact this
 ·have:=f i b (by rw[oW];exact g);rw[tC] at this;exact this
theorem avp (d:DS) (h:Hd) (x:Value) (a:Ar) (k:List UInt8) (q:Option Addr) (c:Nat) (p:Option Addr) (m:Nat) (w:World) (hs:fP d a) (hi:dN d (aX a)) (hl:(aX a).length<=1000) (hv:cX w a q c p m):
 Calls Tryz.prog 57 #[.agg (bH x h d),.agg (bn a q c p m),.string ⟨k.toArray⟩] w fun e w'=>Ext w w'/\e=.returned (.tuple #[.agg (fF (jn d (eJ d (aX a) k))),.bool (eJ d (aX a) k).isSome]):=by
 obtain⟨a1,a2,a3⟩:=lV hs;have N:ou d a=bW d (aX a):=by unfold ou;rw[aC (lD.2 hs)]
 have D:=ag (fun W (e:cX W a q c p m)=>aeL d a q c p m W e.x a1 a2 a3);rw[N] at D;have Hv:=ag hv;have Hi:=ag hi;generalize aX a=R at *;clear hs hi hv N a1 a2 a3;have E:=ag (oW d R);have HG:=ag (Vt Hi.out k);have HF:=ag (fun r h1 h2=>au9 Hi.out (Jm (d:=d) (R:=R) (k:=k) (r:=r) h1 h2).1 (Jm h1 h2).2);have HAt:=ag (tC d R);generalize bW d R=V at *;have h0:=agI w (.cells (bH x h d) 117) (.cells (bn a q c p m) 109) (.cells #[.string ⟨k.toArray⟩] 9) (.cells #[.string ⟨#[]⟩,.string ⟨#[]⟩] 37);go_enter Tryz.func57,Tryz.ntmps57;go_upto_region 1 with(fail);refine aR (fun W=>Ext w W/\ah W w.heap.size (.cells (bH x h d) 117)/\ah W (w.heap.size+1) (.cells (bn a q c p m) 109)/\ah W (w.heap.size+1+1) (.cells #[.string ⟨k.toArray⟩] 9)/\ah W (w.heap.size+1+1+1) (.cells #[.string ⟨#[]⟩,.string ⟨#[]⟩] 37)) h0 ?_;clear h0;rintro w0 ⟨F,L,K,M,T⟩;go_upto_region 2 with(first
  | (refine oY (o:=⟨some 11,_,_,_,_,_⟩) rfl 23 (.tmp 10) rfl w.heap.size 8 rfl _ (bH x h d) (az d) _ L (xS x h d) gr rfl gD ?_)
  | (refine bz (o:=⟨some 12,_,_,_,_,_⟩) rfl 109 (.tmp 4) rfl _ rfl _ _ _ K cL rfl aZ ?_)
  | (go_at_call 86;refine(D.out _ (Hv.out.ext F)).mono ?_;rintro e X ⟨z,v1,rfl,H⟩;obtain⟨q1,Z,rfl⟩:=cE H))
 refine aR (fun W=>Ext X W/\ah W X.heap.size (.cells #[.slice q1 V.length Z] 33)) ⟨Ext.alloc _ _,ah.new _ _⟩ ?_;rintro w2 ⟨l,t⟩;obtain⟨q',c',hq,C,_⟩:=yM H;cases hq
 have G:=(z.trans l).blk _ _ M;have U:=(z.trans l).blk _ _ T;have S:=(F.trans z).trans l;have HP:=ag (C.ext l);have HS:=ag (Od _ _ V.length _ w2 (avl q1 V.length Z V k X.heap.size (w.heap.size+1+1) w2 t G HP.out rfl) HG.out (by rw[E.out];omega));have HB:=ag (And.intro t (And.intro G (And.intro U S)));have c8:w2.cell? ⟨X.heap.size,0,none⟩=some (.slice q1 V.length Z):=ah.val t 0 _ rfl;have l8:=ah.lt t;generalize X.heap.size=lb at *;clear F L K M T z H l t G U S C D;go_upto_region 3 with(first | (go_at_call 38;refine HS.out.mono ?_;rintro e w3 ⟨g,r,rfl,hr,O,Q⟩));have I:=HF.out r O Q;obtain⟨u,n,jA,kI⟩:=HB.out
 replace u:=g.blk _ _ u
 replace n:=g.blk _ _ n
 replace jA:=g.blk _ _ jA
 replace kI:=kI.trans g
 have HP3:=ag (HP.out.ext g);have i8:w3.cell? ⟨lb,0,none⟩=some (.slice q1 V.length Z):=ah.val u 0 _ rfl;have i5:w3.cell? ⟨w.heap.size+1+1,0,none⟩=some (.string ⟨k.toArray⟩):=ah.val n 0 _ rfl;have j8:=ah.lt u;have j5:=ah.lt n;clear O Q HS HB g c8 l8 HG HF HP u n;by_cases B:r<V.length
 ·have e1:((r:Int)==(V.length:Int))=false:=aY;have e2:(r:Int)<(V.length:Int):=af;have e3:¬(r:Int)=(V.length:Int):=af;have e4:¬r=V.length:=af;obtain⟨b,off,rfl,hb,hc⟩:=HP3.out.at r B;obtain⟨J,i⟩:=hc r B;have j:=HAt.out r;by_cases f:(V.getD r ([],[])).1=k
  ·have HE:=ag (show jn d (eJ d R k)=V.getD r ([],[])/\(eJ d R k).isSome=true by
    rw[I,aC ⟨by rw[<-E.out];exact B,by rw[<-f,j]⟩];exact⟨j.symm,rfl⟩)
   clear hc I j;generalize V.getD r ([],[])=y at *;obtain⟨Y,y2⟩:=y;simp only at f J i;subst f;go_quiet(fail);go_upto_region 5 with(fail);refine aR (fun W=>Ext w3 W) WB ?_;intro w4 ek
   replace J:=(ek.cell b _ hb).trans J
   replace i:=(ek.cell b _ hb).trans i
   replace i8:=(ek.cell lb _ j8).trans i8
   have j8':=fM j8 ek.size;have mY:=ek.blk _ _ jA;have HX:=ag (kI.trans ek);clear ek kI jA i5 j5 j8;go_wp2_with(first
    | (refine Oc (o:=⟨some 35,_,_,_,_,_⟩) rfl (.tmp 34) rfl b (off+r*2) rfl Y y2 J i ?_)
    | (refine aU rfl 37 (.tmp 6) (.tmp 35) rfl _ #[.string ⟨Y.toArray⟩,.string ⟨y2.toArray⟩] rfl rfl _ _ mY fE rfl (nU Y y2) ?_;intro w5 nG mD))
   exact bY (dM Tryz.results57 _ _ _ _ _ _ rfl nG lW rfl fE) rfl ⟨mD.ext HX.out af,xW⟩
  ·have HE:=ag (show jn d (eJ d R k)=([],[])/\(eJ d R k).isSome=false by
    rw[I,aA (fun h=>f (by rw[j];exact h.2))];exact⟨rfl,rfl⟩)
   clear hc I j;have wV:((V.getD r ([],[])).1==k)=false:=by simpa using f
   generalize V.getD r ([],[])=y at *;obtain⟨Y,y2⟩:=y;simp only at f wV J i;have zb:(Y !=k)=true:=by simpa using f
   exact aaP
 ·have e1:((r:Int)==(V.length:Int))=true:=aY;have e3:(r:Int)=(V.length:Int):=af;have e4:r=V.length:=af;have HE:=ag (show jn d (eJ d R k)=([],[])/\(eJ d R k).isSome=false by
   rw[I,aA (fun h=>B (by rw[E.out];exact h.1))];exact⟨rfl,rfl⟩)
  clear I;exact aaP
end Go.Proofs.YteninnkbmoimgaaGreatDoor

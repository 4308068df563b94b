/- A part of the proof. -/
import Derived.Test.YteninnkbmoimgaaGreatDoorDRl
import Derived.Test.YteninnkbmoimgaaGreatDoorKA
import Derived.Test.YteninnkbmoimgaaGreatDoorCH
set_option linter.unusedSimpArgs false
set_option linter.unusedVariables false
set_option maxRecDepth 100000
set_option maxHeartbeats 16000000
namespace Go.Proofs.YteninnkbmoimgaaGreatDoor
open Go.RowKit aD
theorem I6 {P:Program} {o:Oper} {a:Act} {w:World} {K:Act->World->Prop} {Q:Exit->Act->World->Prop} (b:TypeId) (x:Operand) (m:o.op=.load b x)
 (g off:Nat) (r:a.eval x=.pointer (some ⟨g,off,none⟩)) (t:TypeId) (all cs:Array Value) (d:TypeDesc) (hb:ah w g (.cells all t)) (hc:∀j (hj:j<cs.size),all[off+j]? =some cs[j]) (q:P.underlying b=some d)
 (u:(match d with | .struct _ | .array _ _=>true | _=>false)=true) (hi:(P.info? b).map (·.size)=some cs.size) (h:K (a.put o.dst (.agg cs)) w):o.wp P a w K Q:=by
 have l:(loadCells ⟨g,off,none⟩ cs.toList.length).run P w=.ok cs.toList.toArray w:=
  Fc (P:=P) w ⟨g,off,none⟩ cs.toList (fun j v hv=>by
   exact Wx)
 have f:(loadVar b ⟨g,off,none⟩).run P w=.ok (.agg cs) w:=by
  cases hq:P.info? b with
  | none=>simp[hq] at hi
  | some i=>
    have n:i.size=cs.size:=E3;have e:(isAgg b).run P w=.ok true w:=by
     unfold isAgg;rw[Sem.run_bind,pO q w];cases d<;>simp_all
    simp only[Array.length_toList,Array.toArray_toList] at l;simp[loadVar,Sem.run_bind,e,Go.sizeOf,typeInfo,hq,n,l]
 unfold Oper.wp execOp;simp only[m,r,Instr.loadAt,Instr.sureAddr,Sem.run_bind,Sem.run_pure,Result.andThen_ok,f];exact h
structure oV (w:World) (d:DS) (a:Ar) (q:Option Addr) (c:Nat) (p:Option Addr) (m:Nat) (wr:World):Prop where
 ext:Ext w wr
 ds:bI wr w.heap.size d
 ar:eS wr (w.heap.size+1) a q c p m
 z:ah wr (w.heap.size+1+1) (.cells cA 109)
theorem oV.more {w:World} {d:DS} {a:Ar} {q:Option Addr} {c:Nat} {p:Option Addr} {m:Nat} {b f:World} (h:oV w d a q c p m b) (e:Ext b f):oV w d a q c p m f:=⟨h.ext.trans e,h.ds.ext e,h.ar.ext e,e.blk _ _ h.z⟩
theorem afd {α:Type} (V:List α) {i:Nat} (g:i<V.length) (A B z:α) (j:Nat):(V.take i++A::B::V.drop (i+1)).getD j z=if j<i then V.getD j z else if j=i then A else if j=i+1 then B else V.getD (j-1) z:=by
 have f:(V.take i).length=i:=kQ;rw[List.getD];by_cases b:j<i
 ·rw[aC b,rF af,D4 b];rfl
 ·rw[aA b,CU af,f];by_cases d:j=i
  ·rw[aC d,d,yS];rfl
  ·rw[aA d];by_cases e:j=i+1
   ·rw[aC e,e,show i+1-i=0+1 by omega];rfl
   ·rw[aA e];obtain⟨k,rfl⟩:∃k,j=i+2+k:=⟨j-(i+2),af⟩;rw[show i+2+k-i=k+1+1 by omega,P2,P2,CE,show i+1+k=i+2+k-1 by omega];rfl
theorem asZ {w:World} {vs:List Value} {V:List aB} {i:Nat} (h:∀j,j<V.length->j≠i->kX w (vs.getD j undef) (V.getD j [])) (q:vs.length=V.length) (f:i<V.length) {g l:Value} {A B:aB} (m:kX w g A) (n:kX w l B):
 og w (vs.take i++g::l::vs.drop (i+1)) (pR V i A B):=by
 refine⟨by rw[Lf f];simp;omega,fun j o=>?_⟩;rw[Lf f] at o;unfold pR;rw[afd vs af,afd V f];by_cases b:j<i
 ·rw[aC b,aC b];exact h j af af
 ·rw[aA b,aA b];by_cases d:j=i
  ·rw[aC d,aC d];exact m
  ·rw[aA d,aA d];by_cases e:j=i+1
   ·rw[aC e,aC e];exact n
   ·rw[aA e,aA e];exact h (j-1) af af
theorem afe {w:World} {o:Oper} {a:Act} {K:Act->World->Prop} {Q:Exit->Act->World->Prop} (d s:Operand)
 (ho:o.op=.call {callee:=.builtin .append,args:=#[d,s],argTypes:=#[107,107]}) (base:Nat) (v:Value) (n:Nat) (xs:List Value) (hv:a.eval d=v) (hown:w.ownsRow base 31 1 v n xs) (p:Option Addr) (m c:Nat) (e:List Value) (hs:a.eval s=.slice p m c) (t:e.length=m) (hc:Cells w p e)
 (r:∀u∈e,u.oneCell'=true) (z:n+m<=100000000) (f:base<=w.heap.size)
 (h:∀l w',w'.ownsRow base 31 1 l (n+m) (xs++e)->w.grownBy w' v.ownBlock->K (a.put o.dst l) w'):o.wp Tryz.prog a w K Q:=by
 by_cases y:m=0
 ·subst y;obtain rfl:e=[]:=gY t;obtain⟨q,k,rfl⟩:=cE hown;obtain⟨_,j,_⟩:=gh hown;obtain⟨E,i,B,D,C⟩:=lH sY;have hr:(Builtin.append_ #[107,107] o.type #[.slice q n k,.slice p 0 c]).run Tryz.prog w=.ok (.slice q n k) w:=by
   cases p<;>cases q<;>simp[Builtin.append_,pO Tryz.underlying107,Go.sizeOf,typeInfo,i,Builtin.lenOf,Builtin.firstCells,loadCells,loadCellsFrom,Go.storeCells,j]
  exact JS
 ·obtain⟨g,rfl⟩:∃g,p=some g:=by
   exact Aa
  exact wS d s 107 31 ho base (.slice none 0 0) 1 24 Tryz.underlying107 sY rfl aq v n xs hv hown (some g) m c e hs rfl af hc r z aq f h
theorem aff {w:World} {vs:List Value} {V:List aB} (h:og w vs V):∀u∈vs,u.oneCell'=true:=by
 intro u d;obtain⟨i,hi,rfl⟩:=nT.1 d;obtain⟨q,c,e,_⟩:=h.2 i (by rw[<-h.1];exact hi);have b:vs.getD i undef=vs[i]:=zQ;rw[b] at e;rw[e];rfl
theorem afg {l:List Oper} {N k:Nat} {R:Nat->Rel} {f:Fact} (d:kU .any l N k=true∨N=k):Pre.iF .any l [(N,[])] R k f:=fun x b=>by
 simp at b;subst b;refine .inl ?_;unfold Pre.Ri;rcases d with h | h
 ·rw[h];simp
 ·subst h;simp
theorem as0 {l:List Oper} {N m:Nat} {R:Nat->Rel} {S:World->Prop} (g:∀w w',Ext w w'->S w->S w') (_:gI .any l.toArray m=true):Pre.sU .any l.toArray [(N,[])] R (fun _=>S):=
 ⟨fun _ _ w w' e h=>g w w' e h,fun p q d f b=>by
   simp[eN] at d f;exact absurd (f.symm.trans d) b⟩
end Go.Proofs.YteninnkbmoimgaaGreatDoor
namespace aD
theorem afh {d:DS} {k:List UInt8}:∀{L:aB},dN d L->L.filter (fun s=>ax d s !=k)=if oF d k L=true then fO d k L else L
 | [],_=>by simp[oF]
 | s::L,h=>by
   have f:=Rf (k:=k) h;unfold dN at h;rw[lM] at h;by_cases e:ax d s=k
   ·have j:oF d k (s::L)=true:=f.2 ⟨s,av,e⟩;rw[aC j,fO,aC e,Ma,aA (by simp[e])];refine I7.2 fun t m=>?_;have:=h.1 t m;rw[e] at this;simpa using fun g=>lZ this g.symm
   ·have l:=afh (k:=k) (L:=L) h.2;have b:=Rf (k:=k) (L:=L) h.2;rw[Ma,aC zX,l,fO,aA e];have i:oF d k (s::L)=oF d k L:=by
     rw[uf,f,b];simp[e]
    rw[i];split<;>rfl
theorem afi {α:Type} {L:List α} {j:Nat} (h:j<L.length) (z:α):L.getD j z∈L:=by
 have e:L.getD j z=L[j]:=xZ;exact Cu
theorem as1 {d:DS} {k:List UInt8} {L:aB} (h:oF d k L=true):(fO d k L).length+1=L.length:=QW (Re h).2.2
end aD
namespace Go.Proofs.YteninnkbmoimgaaGreatDoor
open Go.RowKit aD
theorem as2 {w:World} {o:Oper} {a:Act} {K:Act->World->Prop} {Q:Exit->Act->World->Prop} (d s:Operand)
 (ho:o.op=.call {callee:=.builtin .append,args:=#[d,s],argTypes:=#[104,104]}) (base:Nat) (v:Value) (n:Nat) (xs:List Value) (hv:a.eval d=v) (hown:w.ownsRow base 142 2 v n xs) (p:Option Addr) (m c:Nat) (f:List Value) (hs:a.eval s=.slice p m c) (z:f.length=m*2) (hc:Cells w p f)
 (y:∀u∈f,u.oneCell'=true) (C:n+m<=100000000) (i:base<=w.heap.size)
 (h:∀t w',w'.ownsRow base 142 2 t (n+m) (xs++f)->w.grownBy w' v.ownBlock->K (a.put o.dst t) w'):o.wp Tryz.prog a w K Q:=by
 by_cases B:m=0
 ·subst B;obtain rfl:f=[]:=gY af;obtain⟨q,k,rfl⟩:=cE hown;have r:n<=k:=by
   exact OV
  obtain⟨G,l,D,F,E⟩:=lH um;have hr:(Builtin.append_ #[104,104] o.type #[.slice q n k,.slice p 0 c]).run Tryz.prog w=.ok (.slice q n k) w:=by
   cases p<;>cases q<;>simp[Builtin.append_,pO Tryz.underlying104,Go.sizeOf,typeInfo,l,Builtin.lenOf,Builtin.firstCells,loadCells,loadCellsFrom,Go.storeCells,r]
  exact JS
 ·obtain⟨j,rfl⟩:∃j,p=some j:=by
   exact Aa
  exact wS d s 104 142 ho base (.agg #[.string ByteArray.empty,.int .i64 0]) 2 24 Tryz.underlying104 um rfl aq v n xs hv hown (some j) m c f hs rfl z hc y C aq i h
def NW (n:Nat) (xs:List Value):Fact:=fun x w=>∃p c,x=.slice p n c/\Cells w p xs
theorem NW.ay (n:Nat) (xs:List Value):(NW n xs).ay:=fun _ _ _ e ⟨p,c,b,d⟩=>⟨p,c,b,d.ext e⟩
theorem as3 {L:List aG} (h:L≠[]):aV (cC L)=(aV L).set ((L.length-1)*2) (.string ⟨#[]⟩):=by
 have:=uY.2 h;rw[Q7,RV _ _ _ af]
theorem as4 {w:World} {vs:List Value} {V:List aB} {i:Nat} (h:og w vs V) (d:i<V.length):og w (vs.take i++vs.drop (i+1)) (V.eraseIdx i):=by
 have f:=h.1;rw[<-Rc];have b:(V.eraseIdx i).length=V.length-1:=by rw[I8 d]
 refine⟨by rw[b,I8 af,f],fun j e=>?_⟩;rw[b] at e;have g:∀{α:Type} (V:List α) (z:α),(V.eraseIdx i).getD j z=if j<i then V.getD j z else V.getD (j+1) z:=by
  intro α V z;rw[List.getD,List.getElem?_eraseIdx];split<;>rfl
 rw[g,g];split
 ·exact h.2 j af
 ·exact h.2 (j+1) af
structure zA (w:World) (d:DS) (a:Ar) (q:Option Addr) (c:Nat) (p:Option Addr) (m:Nat) (out:Value) (O:aB) (wr:World):Prop where
 pr:oV w d a q c p m wr
 own:wr.ownsRow (w.heap.size+1) 9 1 out O.length (O.map fun s=>.string ⟨s.toArray⟩)
section
variable {w:World} {d:DS} {a:Ar} {q:Option Addr} {c:Nat} {p:Option Addr} {m:Nat} {out v:Value} {O:aB} {w1 w2:World}
theorem zA.more (h:zA w d a q c p m out O w1) (e:Ext w1 w2):zA w d a q c p m out O w2:=⟨h.pr.more e,aO h.own e⟩
theorem oV.BB {t:TypeId} (h:oV w d a q c p m w1) (r:oO w.heap.size t w1 w2) (e:23≠t) (b:109≠t):oV w d a q c p m w2:=⟨Ext.trans' h.ext r.1,r.2 _ _ _ e h.ds,r.2 _ _ _ b h.ar,r.2 _ _ _ b h.z⟩
theorem oV.wZ {t:TypeId} {g:Nat} {f:Array Value} (h:oV w d a q c p m w1) (b:ah w1 g (.cells f t)) (i:23≠t) (e:109≠t) (j:w.heap.size<=g) (k:aI g w1 w2):oV w d a q c p m w2:=
 ⟨k.ext h.ext j,k.blk h.ds (AZ h.ds b i),k.blk h.ar (AZ h.ar b e),k.blk h.z (AZ h.z b e)⟩
theorem zA.app {x:List UInt8} (h:zA w d a q c p m out O w1) (e:w2.ownsRow (w.heap.size+1) 9 1 v (O.length+1) (O.map (fun s:List UInt8=>Value.string ⟨s.toArray⟩)++[.string ⟨x.toArray⟩])) (b:w1.grownBy w2 out.ownBlock):zA w d a q c p m v (O++[x]) w2:=
 ⟨h.pr.BB (pZ (T:=9) (B:=w.heap.size) b (fJ h.own af) (by have:=ah.lt h.pr.ds;omega)) aq aq,by simpa using e⟩
end
def as5 (r:Ar×Bool) (w:World) (e:Ending) (w':World):Prop:=Ext w w'/\
 if r.2=true then ∃q c p m,e=.returned (.tuple #[.agg (bn r.1 q c p m),.int .i64 0])/\cX w' r.1 q c p m else e=.returned (.tuple #[.agg cA,.int .i64 6])
theorem as6 (d:DS) (a:Ar) (q:Option Addr) (c:Nat) (p:Option Addr) (m:Nat) (k:List UInt8) (w:World) (I:jm d a) (hv:cX w a q c p m):
 Calls Tryz.prog 91 #[.agg (az d),.agg (bn a q c p m),.string ⟨k.toArray⟩] w (as5 (qf d a k) w):=by
 obtain⟨n1,n2,n3,n4,n5⟩:=Mr I.spec;have hA:dD d a=true:=lD.2 I.spec;have HV:=ag (fun W (e:Ext w W)=>yY d a q c p m W (hv.ext e).x af af (TT I.spec));rw[hA] at HV;have hat:=(I.spec.at k).lt;obtain⟨f1,f2,f3,f4⟩:=I.spec.iv hat;have m6:=JY f1;have HF:=ag (fun W (e:Ext w W)=>Tt q c a.nd k W (hv.ai.ext e) af (uY.1 n3));obtain⟨y,f,vi,rfl,ke,qj,qi,ci,rfl,hsi,_,_,_,UW⟩:=hv.ak.at _ hat;have HC:=ag (fun W (e:Ext w W)=>(⟨(e.cell y _ ke).trans qj,fM ke e.size⟩:W.cell? ⟨y,f+bK a.nd.ai k,none⟩=some (.slice qi (a.ak.getD (bK a.nd.ai k) []).length ci)/\y<W.heap.size));have HP:Hid (qf d a k=if oF d k (a.ak.getD (bK a.nd.ai k) [])=false then(a,false)
  else if fO d k (a.ak.getD (bK a.nd.ai k) [])≠[]∨a.ak.length=1 then({a with ak:=a.ak.set (bK a.nd.ai k) (fO d k (a.ak.getD (bK a.nd.ai k) []))},true)
  else({a with nd:={a.nd with ai:=cC (a.nd.ai.eraseIdx (bK a.nd.ai k))},ak:=a.ak.eraseIdx (bK a.nd.ai k)},true)):=ag rfl
 have afj:=ag (afh (k:=k) f4);have UX:=ag (as1 (d:=d) (k:=k) (L:=a.ak.getD (bK a.nd.ai k) []));have zx:=ag (fun(j:Nat) (hj:j<(a.ak.getD (bK a.nd.ai k) []).length)=>(f3 _ (afi hj [])).1);have Hs:=ag hsi;have Hv:=ag hv;have HII:=ag I;have Hti:=ag UW;have hda:=oJ w d a q c (some ⟨y,f,none⟩) m;have U:=Ext.alloc ((w.alloc (.cells (az d) 23)).alloc (.cells (bn a q c (some ⟨y,f,none⟩) m) 109)) (.cells cA 109);have hl5:(a.ak.getD (bK a.nd.ai k) []).length<=512:=m6.1;clear hv I hA f1 f2 f3 f4 m6 qj hsi UW;unfold dO at HF;generalize qf d a k=R at *;generalize hi:bK a.nd.ai k=i at *;have Hi:=ag hi;clear hi;have hil:(i:Int)<(a.ak.length:Int):=af;generalize hL:a.ak.getD i []=L at *;have HL:=ag hL;clear hL;go_enter Tryz.func91,Tryz.ntmps91;go_upto_region 1 with(fail);refine aR (oV w d a q c (some ⟨y,f,none⟩) m) ⟨hda.1.trans U,hda.2.1.ext U,hda.2.2.ext U,ah.new1 _ _ _ av⟩ ?_;clear hda U;intro w0 M;go_upto_region 4 with(first
  | (refine bu (o:=⟨some 12,_,_,_,_,_⟩) rfl (.tmp 3) rfl _ rfl d M.ds ?_)
  | (refine bz (o:=⟨some 13,_,_,_,_,_⟩) rfl 109 (.tmp 4) rfl _ rfl _ _ _ M.ar cL rfl aZ ?_)
  | (go_at_call 70;refine(HV.out _ M.ext).mono ?_;rintro e w1 ⟨rfl,bU⟩;have D:=M.more bU)
  | (refine oY (o:=⟨some 18,_,_,_,_,_⟩) rfl 106 (.tmp 17) rfl (w.heap.size+1) 1 rfl _ (bn a q c (some ⟨y,f,none⟩) m) #[.int .i64 a.nd.level,.int .i64 a.nd.next,.slice q a.nd.ai.length c] _ D.ar (Cg a q c (some ⟨y,f,none⟩) m) cZ rfl bq ?_)
  | (go_at_call 133;refine(HF.out _ D.ext).mono ?_;rintro e w2 ⟨rfl,l⟩;have h2:=D.more l))
 have hl2:=ah.lt h2.ds;have hs0:zA w d a q c (some ⟨y,f,none⟩) m (.slice (some ⟨w2.heap.size,0,none⟩) 0 0) [] (w2.alloc (.cells #[] 9)):=
  ⟨h2.more (Ext.alloc _ _),⟨rfl,.inr ⟨w2.heap.size,0,#[],rfl,af,ah.new _ _,aH _,av,av,av⟩⟩⟩
 have DX:=ag hs0;clear M D h2 bU l HV HF hl2 hs0;go_upto_region 6 with(fail);go_loopw[9,10] (fun ov jv wr=>∃(j:Nat) (O:aB),j<=L.length/\jv=.int .i64 j/\zA w d a q c (some ⟨y,f,none⟩) m ov O wr/\Hid (O=(L.take j).filter (fun s=>ax d s !=k))) (fun _ jv _=>L.length-(intOf jv).toNat)
 case atStart=>exact⟨0,[],bL _,rfl,DX.out,ag rfl⟩
 case round=>
  obtain⟨j,O,hj,rfl,hS,hO⟩:=hrel;have Nw:O.length<=512:=by
   have D:=IG (fun s=>ax d s !=k) (L.take j);have h2:=List.length_take_le j L;have h3:=gP List.length hO.out;omega
  have HS:=ag hS;obtain⟨qo,co,rfl⟩:=cE hS.own;obtain⟨hc1,hl1⟩:=HC.out _ hS.pr.ext;obtain⟨_,_,_,_,e4,la⟩:=hS.pr.ar.cells;clear hS;obtain⟨V,rfl⟩:∃V:World,V=wr:=⟨_,rfl⟩;by_cases hlt:j<L.length
  ·have gB:(j:Int)<L.length:=af;obtain⟨b,off,rfl,UY,iz⟩:=Hs.out.at j hlt;have UZ:Hid (∀W,Ext w W->W.cell? ⟨b,off+j,none⟩=some (.string ⟨(L.getD j []).toArray⟩)/\b<W.heap.size):=ag (fun W e=>⟨(e.cell b _ UY).trans (iz j hlt),fM UY e.size⟩);obtain⟨oz,hbl⟩:=UZ.out _ HS.out.pr.ext;have Fv:=ag (fun W=>vf d (L.getD j []) HII.out.spec.keyed (zx.out j hlt) W);have Uj:(L.take (j+1)).filter (fun s=>ax d s !=k)=O++(if ax d (L.getD j [])=k then[] else[L.getD j []]):=by
    rw[jr hlt,Nh,<-hO.out];have e:L.getD j []=L[j]:=by simp[List.getD,hlt]
    rw[e];by_cases e2:ax d L[j]=k
    ·rw[aC e2];simp[e2]
    ·rw[aA e2];simp[e2]
   have X:=ag Uj;clear iz UY Uj;generalize L.getD j []=s at *;generalize ax d s=ks at *;go_upto_region 8 with(fail);by_cases he:ks=k
   ·have e1:(ks==k)=true:=zT;rw[aC he] at X;clear he;refine eR 200 (Ext.refl V) aj aj aj ?_;refine gV ?_;repeat (first
     | (refine XY ?_)
     | (refine Yx ?_)
     | (refine kN ?_)
     | (refine fR ?_)
     | (refine iq ?_)
     | (refine fk ?_))
    intro w2 l;repeat (first | with_reducible refine cH _ _ _ _ ?_ | (with_reducible refine cI _ _ _ _ ?_;intro _ _) | with_reducible refine cJ _ _ ?_)
    simp only[cF,cK,bQ,bE];have r:=ag (HS.out.more l);obtain⟨hc2,hl2⟩:=HC.out _ r.out.pr.ext;obtain⟨MO,Ny⟩:=UZ.out _ r.out.pr.ext;obtain⟨_,_,_,_,e42,LB⟩:=r.out.pr.ar.cells;have LC:=ah.lt r.out.pr.ds;clear HS Fv oz hbl hc1 hl1 e4 la l;go_wp2_with fail;go_roundw
    case rel=>exact⟨j+1,O,af,bX,r.out,ag (by rw[X.out];simp)⟩
    case measure=>exact ct
   ·have e1:(ks==k)=false:=zT;rw[aA he] at X;clear he;refine eR 200 (Ext.refl V) aj aj aj ?_;refine gV ?_;repeat (first
     | (refine XY ?_)
     | (refine Yx ?_)
     | (refine kN ?_)
     | (refine fR ?_)
     | (refine iq ?_)
     | (refine fk ?_))
    intro w2 l;repeat (first | with_reducible refine cH _ _ _ _ ?_ | (with_reducible refine cI _ _ _ _ ?_;intro _ _) | with_reducible refine cJ _ _ ?_)
    simp only[cF,cK,bQ,bE];have r:=ag (HS.out.more l);obtain⟨hc2,hl2⟩:=HC.out _ r.out.pr.ext;obtain⟨MO,Ny⟩:=UZ.out _ r.out.pr.ext;obtain⟨_,_,_,_,e42,LB⟩:=r.out.pr.ar.cells;have LC:=ah.lt r.out.pr.ds;clear HS Fv oz hbl hc1 hl1 e4 la l;go_wp2_with(at_builtin;(refine nW (o:=⟨some 54,_,_,_,_,_⟩) rfl (.tmp 44) (.tmp 53) 31 9 rfl (w.heap.size+1) (.string ByteArray.empty) 1 16 Tryz.underlying31 uV rfl aq _ O.length _ rfl (aO r.out.own (Ext.alloc _ _)) _ [.string ⟨s.toArray⟩] rfl (ah.new _ _) rfl nk af aq aY ?_;intro v6 w6 nJ p6;have S6:=(r.out.more (Ext.alloc _ _)).app nJ p6;clear nJ p6;generalize Nz:O++[s]=O6 at S6;obtain⟨q6,c6,rfl⟩:=cE S6.own;have Ui:=ag S6;clear S6));go_roundw
    case rel=>exact⟨j+1,O6,af,bX,Ui.out,ag (by rw[X.out,<-Nz])⟩
    case measure=>exact ct
  ·have gB:decide ((j:Int)<L.length)=false:=aM af;have hq:=hO.out;rw[mC af,afj.out] at hq;have E:=ag hq;clear hO hq afj zx;cases hh:oF d k L
   ·rw[hh] at E HP;have U0:O=L:=E.out;have hlen:((O.length:Int)==L.length)=true:=by rw[U0];simp
    have I9:O.length=L.length:=by rw[U0]
    have HR:=HP.out;rw[aC rfl] at HR;clear hh HP E U0 Nw;subst HR;go_wp2_with(first
     | (refine dW (o:=⟨some 64,_,_,_,_,_⟩) rfl 109 #[] rfl [] rfl _ ny ?_)
     | (refine aU rfl 109 (.tmp 6) (.tmp 64) rfl _ cA rfl rfl _ _ HS.out.pr.z aZ rfl lB ?_;intro w8 mU mc))
    exact bY (dM Tryz.results91 _ _ _ _ _ _ rfl mU cL rfl aZ) rfl ⟨mc.ext HS.out.pr.ext af,by rw[aA av];rfl⟩
   ·rw[hh] at E HP;rw[aC rfl] at E;rw[aA aq] at HP;have hlen:((O.length:Int)==L.length)=false:=by
     have D:=UX.out hh;rw[<-E.out] at D;simp;omega
    have I9:¬O.length=L.length:=by
     have D:=UX.out hh;rw[<-E.out] at D;omega
    have hOe:=E.out;rw[<-hOe] at HP;have Lz:=ag (fun W (e:Ext V W)=>adS a q c (some ⟨y,f,none⟩) m i O qo co W (Hv.out.ext (HS.out.pr.ext.trans e)) hat af (kX.oe (aO HS.out.own e)));clear hh E hOe UX Nw;by_cases M:0<O.length
    ·have Tv:(0:Int)<(O.length:Int):=af;have HR:=HP.out;rw[aC (.inl (fun e=>by rw[e] at M;simp at M))] at HR;clear HP;subst HR;exact aav
    ·have Tv:decide ((0:Int)<(O.length:Int))=false:=aM af;by_cases D:a.ak.length=1
     ·have LU:((a.ak.length:Int)==1)=true:=by rw[D];rfl
      have HR:=HP.out;rw[aC (.inr D)] at HR;clear HP;subst HR;have H1:=ag D;clear D;exact aav
     ·have LU:((a.ak.length:Int)==1)=false:=wJ.2 af;have HR:=HP.out;have Ja:O=[]:=gY af;rw[aA (by rintro(h | h);exact h Ja;exact D h)] at HR;clear HP Lz;subst HR;have hnl:=HII.out.spec.len;have I3:=ag hnl;have hn2:2<=a.nd.ai.length:=af;have hie:i<a.nd.ai.length:=af;have hcap:=Hv.out.ec;have afm:=ag Hv.out.ic;obtain⟨ge,Y,rfl,hge,_⟩:=Hv.out.ai.at i hie;have htk:(aV (a.nd.ai.take i)).length=i*2:=PJ;have T:(aV (a.nd.ai.drop (i+1))).length=(a.nd.ai.length-(i+1))*2:=by rw[qC,eU]
      have zj:Hid (∀W,Ext w W->0<i->∃ad,(some ⟨ge,Y,none⟩:Option Addr)=some ad/\∀j u,(aV (a.nd.ai.take i))[j]? =some u->W.cell? (ad.add j)=some u):=ag (fun W e M=>by
       refine zl (xs:=aV (a.nd.ai.take i)) ?_ (fun h9=>Ki);rw[AU];exact Cells.take (Hv.out.ai.ext e) _)
      have zk:Hid (∀W,Ext w W->Cells W (if c=i+1 then some ⟨ge,Y,none⟩ else some ⟨ge,Y+(i+1)*2,none⟩) (aV (a.nd.ai.drop (i+1)))):=ag (fun W e=>by
       split
       ·refine .inl (gY ?_);rw[T];omega
       ·rw[Mc];exact Cells.drop (Hv.out.ai.ext e) _)
      have HH:Hid (aV (a.nd.ai.take i)++aV (a.nd.ai.drop (i+1))=aV (a.nd.ai.eraseIdx i)):=ag (by
       rw[Rc];unfold aV;rw[Gp])
      have wX:=ag htk;have yN:=ag T;have hic:i<=c:=af;have as8:(i:Int)<=c:=af;have hi1:i+1<=a.nd.ai.length:=af;have U1:(i:Int)+1<=a.nd.ai.length:=af;have as9:(0:Int)<=(i:Int)+1:=af;have hwi:IntKind.i64.wrap ((i:Int)+1)=(i:Int)+1:=IntWalk.i64_in _ af;obtain⟨_,_,_,e3,_,_⟩:=HS.out.pr.ar.cells;clear hnl Ja;go_upto_region 14 with(fail);clear htk T hlen I9 M Tv D LU hc1 hl1 hcap;go_cut[11] (fun v wx=>∃q3 t,v=.slice q3 (i+(a.nd.ai.length-(i+1))) t/\Ext V wx/\wx.ownsRow V.heap.size 142 2 (.slice q3 (i+(a.nd.ai.length-(i+1))) t) (i+(a.nd.ai.length-(i+1))) (aV (a.nd.ai.take i)++aV (a.nd.ai.drop (i+1))))
      case first=>
       rename_i J9 K9 hJ9 hK9;refine kH 200 [(13,[(0,78),(6,84)])] (Ext.refl V) aj aj aj aj aj aj (Lt _ _ _) ?_;refine gV ?_;repeat (first
        | (refine dY (o:=⟨some 78,_,_,_,_,_⟩) (nP 142 V.heap.size) (nP.ay _ _) (.inl aj) aj aP ?_ ?_
           ·exact YU
           refine aE ?_)
        | (refine dY (o:=⟨some 84,_,_,_,_,_⟩) (dJ 142 V.heap.size 2 i (aV (a.nd.ai.take i))) (dJ.ay _ _ _ _ _) (.inl aj) aj aP ?_ ?_
           ·intro a' w' he hr K' hK;obtain⟨b9,hb1,hb2,C⟩:=hr 78 gM;have hs:=hr 83 gM;refine rN (.tmp 78) (.tmp 83) 104 142 rfl V.heap.size (.agg #[.string ByteArray.empty,.int .i64 0]) 2 24 Tryz.underlying104 um rfl b9 hb1 hb2 C (some ⟨ge,Y,none⟩) i c (aV (a.nd.ai.take i)) hs wX.out (fun M=>zj.out _ (HS.out.pr.ext.trans he) M) af aq he.size ?_;exact J1
           refine aE ?_)
        | (refine iU (o:=⟨some 91,_,_,_,_,_⟩) (dJ 142 V.heap.size 2 (i+(a.nd.ai.length-(i+1))) (aV (a.nd.ai.take i)++aV (a.nd.ai.drop (i+1)))) (dJ.ay _ _ _ _ _) (.inl aj) aj aP ?_ ?_
           ·intro a' w' he hr K' hK;obtain⟨q1,c1,D,jG⟩:=hr 84 gM;have hs:=hr 90 gM;refine as2 (.tmp 84) (.tmp 90) rfl V.heap.size _ i (aV (a.nd.ai.take i)) D jG _ (a.nd.ai.length-(i+1)) _ (aV (a.nd.ai.drop (i+1))) hs yN.out (zk.out _ (HS.out.pr.ext.trans he)) (Gi _) af he.size ?_;intro v' w'' ho' hg;have hbl:=Below.ij (B:=V.heap.size) hg jG (aH _) he.size;exact XF
           refine aE ?_)
        | (refine qD ?_)
        | (refine pH ?_))
       intro w2 l;simp only[iJ,iQ,jS,kW,bG,bN];repeat (first | with_reducible refine cH _ _ _ _ ?_ | (with_reducible refine cI _ _ _ _ ?_;intro _ _) | with_reducible refine cJ _ _ ?_)
       simp only[cF,cK,bQ,bE];rename_i x11 h11 U2 Eb x84 h84 x91 h91;obtain⟨q3,t,rfl,G⟩:=h11;refine hK9 _ _ ?_;go_meet;exact⟨q3,t,rfl,l,G⟩
      obtain⟨q3,t,rfl,l,G⟩:=hcut;clear e3 hic as8 U1 zj zk wX yN;obtain⟨wn,rfl⟩:∃wn:World,wn=wc:=⟨_,rfl⟩;have qK:=ag (HS.out.pr.more l);have X:=ag (aO HS.out.own l);rw[HH.out] at G;have Z:(a.nd.ai.eraseIdx i).length=i+(a.nd.ai.length-(i+1)):=by rw[I8 hie];omega
      have hNn:1<=i+(a.nd.ai.length-(i+1)):=af;have hNb:i+(a.nd.ai.length-(i+1))<=1000:=af;generalize i+(a.nd.ai.length-(i+1))=N at *;have HEl:=ag Z;obtain⟨g,cu,rfl,hg0,hgb,hgn,BO,BP,hgt⟩:=jM G af;have hsk:=HS.out.pr.ext.size;have hval:cu[(N-1)*2]? =some (.string ⟨(au (a.nd.ai.eraseIdx i) (N-1)).1.toArray⟩):=by
       have h:=(LZ (a.nd.ai.eraseIdx i) (N-1) af).1;rw[<-hgt,D4 af,Nb] at h;exact h
      have hcell:=ah.val hgb _ _ hval;have hfr:=ah.free hgb ((N-1)*2);have lg:=ah.lt hgb;have hwN:IntKind.i64.wrap ((N-1:Nat):Int)=((N-1:Nat):Int):=IntWalk.i64_in _ af;have i3:(N:Int)-1=((N-1:Nat):Int):=af;have i4:((N-1:Nat):Int)<(N:Int):=af;have n:aI g wn (wn.setCell ⟨g,(N-1)*2,none⟩ (.string ⟨#[]⟩)):=aI.setCell;have HW3:Hid (∃w3,w3=wn.setCell ⟨g,(N-1)*2,none⟩ (.string ⟨#[]⟩)/\oV w d a (some ⟨ge,Y,none⟩) c (some ⟨y,f,none⟩) m w3/\w3.ownsRow w.heap.size 142 2 (.slice (some ⟨g,0,none⟩) N t) N (aV (cC (a.nd.ai.eraseIdx i)))):=
       ag ⟨_,rfl,qK.out.wZ hgb aq aq af n,by
        refine⟨by rw[qC,tT,Z],.inr ⟨g,t,_,rfl,af,ah.setCell hgb,hgn,BO,by simpa using BP,?_⟩⟩;rw[Du,Ae,hgt,as3 (fun e=>by rw[e] at Z;simp at Z;omega),Z]⟩
      generalize cC (a.nd.ai.eraseIdx i)=E2 at *;generalize(au (a.nd.ai.eraseIdx i) (N-1)).1=bp at *;clear G hgt BP hgn BO n Z HS X l hval;go_upto_region 16 with(fail);obtain⟨w3,zm,xH,G⟩:=HW3.out;rw[<-zm];clear zm HW3 hcell hfr lg i3 i4 hwN hgb qK;obtain⟨a',ha'⟩:∃a':Ar,a'={a with nd:={a.nd with ai:=E2}}:=⟨_,rfl⟩;have U3:E2.length=N:=by have:=G.1;rw[qC] at this;omega
      have C:=xH.ar;have e3:=ah.val C 3 _ rfl;have f3:=ah.free C 3;have lb:=ah.lt C;have n:aI (w.heap.size+1) w3 (w3.setCell ⟨w.heap.size+1,3,none⟩ (.slice (some ⟨g,0,none⟩) N t)):=aI.setCell;have HW4:Hid (∃w4,w4=w3.setCell ⟨w.heap.size+1,3,none⟩ (.slice (some ⟨g,0,none⟩) N t)/\oV w d a' (some ⟨g,0,none⟩) t (some ⟨y,f,none⟩) m w4/\w4.ownsRow w.heap.size 142 2 (.slice (some ⟨g,0,none⟩) N t) N (aV E2)):=
       ag ⟨_,rfl,⟨n.ext xH.ext af,n.blk xH.ds af,by
        have h:=ah.setCell (i:=3) (v:=.slice (some ⟨g,0,none⟩) N t) C;unfold eS;have e:bn a' (some ⟨g,0,none⟩) t (some ⟨y,f,none⟩) m=(bn a (some ⟨ge,Y,none⟩) c (some ⟨y,f,none⟩) m).setIfInBounds 3 (.slice (some ⟨g,0,none⟩) N t):=by
         unfold bn;rw[ha'];simp[U3]
        rw[e];exact h,n.blk xH.z af⟩,fo G aq C n⟩
      have atd:=ag U3;clear n xH G C U3;go_upto_region 17 with(fail);obtain⟨w4,ID,vg,oR⟩:=HW4.out;rw[<-ID];clear ID HW4 e3 f3 lb;have F:=ag vg;have Ec:=ag oR;have Ha':=ag ha';have afp:a'.ak.length=a.ak.length:=by rw[ha']
      clear vg oR ha';obtain⟨vs,uE,sx⟩:=Hv.out.ak;have hvl:vs.length=a.ak.length:=sx.1;have htk:(vs.take i).length=i*1:=kQ;have T:(vs.drop (i+1)).length=a.ak.length-(i+1):=xX;have tw:Hid (∀W,Ext w W->0<i->∃ad,(some ⟨y,f,none⟩:Option Addr)=some ad/\∀j u,(vs.take i)[j]? =some u->W.cell? (ad.add j)=some u):=ag (fun W e M=>zl (Cells.take (uE.ext e) i) (fun h9=>Ki));have r:Hid (∀W,Ext w W->Cells W (if m=i+1 then some ⟨y,f,none⟩ else some ⟨y,f+(i+1),none⟩) (vs.drop (i+1))):=ag (fun W e=>by
       split
       ·refine .inl (gY ?_);have:=afm.out;rw[T];omega
       ·exact Cells.drop (uE.ext e) (i+1))
      have wX:=ag htk;have yN:=ag T;have U4:=ag (aff sx);have Br:=ag sx;have him:i<=m:=by have:=afm.out;omega
      have atg:(i:Int)<=m:=af;have hi1:i+1<=a.ak.length:=af;have U1:(i:Int)+1<=a.ak.length:=af;have e4:=ah.val F.out.ar 4 (.slice (some ⟨y,f,none⟩) a.ak.length m) (by unfold bn;rw[afp];rfl);have la4:=ah.lt F.out.ar;clear uE sx hvl htk T afp;have az2:IntKind.i64.wrap ((i:Int)+1)=(i:Int)+1:=IntWalk.i64_in _ af;go_cut[] (fun wx=>∃J H,oV w d {a' with ak:=a.ak.eraseIdx i} (some ⟨g,0,none⟩) t J H wx/\wx.ownsRow w.heap.size 31 1 (.slice J (i+(a.ak.length-(i+1))) H) (i+(a.ak.length-(i+1))) (vs.take i++vs.drop (i+1))/\wx.ownsRow w.heap.size 142 2 (.slice (some ⟨g,0,none⟩) N t) N (aV E2))
      case first=>
       refine kH 13 [(11,[(0,101),(5,106),(10,111)])] (Ext.refl w4) aj aj aj aj aj aj (Lt _ _ _) ?_;refine gV ?_;repeat (first
        | (refine dY (o:=⟨some 101,_,_,_,_,_⟩) (nP 31 w4.heap.size) (nP.ay _ _) (.inl aj) aj aP ?_ ?_
           ·exact YU
           refine aE ?_)
        | (refine dY (o:=⟨some 106,_,_,_,_,_⟩) (dJ 31 w4.heap.size 1 i (vs.take i)) (dJ.ay _ _ _ _ _) (.inl aj) aj aP ?_ ?_
           ·intro a' w' he hr K' hK;obtain⟨b9,hb1,hb2,C⟩:=hr 101 gM;have hs:=hr 105 gM;refine rN (.tmp 101) (.tmp 105) 107 31 rfl w4.heap.size (.slice none 0 0) 1 24 Tryz.underlying107 sY rfl b9 hb1 hb2 C (some ⟨y,f,none⟩) i m (vs.take i) hs wX.out (fun M=>tw.out _ (F.out.ext.trans he) M) af aq he.size ?_;exact J1
           refine aE ?_)
        | (refine dY (o:=⟨some 111,_,_,_,_,_⟩) (NW (a.ak.length-(i+1)) (vs.drop (i+1))) (NW.ay _ _) (.inl aj) aj aP ?_ ?_
           ·intro a' w' he hr K' hK;simp[Reads,Oper.looksAt,Op.operands,Call.operands,aJ,Is] at hr;go_simp;exact hK _ _ (Ext.refl _) ⟨_,_,rfl,r.out _ (F.out.ext.trans he)⟩
           refine aE ?_)
        | (refine iU (o:=⟨some 112,_,_,_,_,_⟩) (dJ 31 w4.heap.size 1 (i+(a.ak.length-(i+1))) (vs.take i++vs.drop (i+1))) (dJ.ay _ _ _ _ _) (.inl aj) aj aP ?_ ?_
           ·intro a' w' he hr K' hK;obtain⟨q1,c1,D,jG⟩:=hr 106 gM;obtain⟨p9,k9,hs,hcs⟩:=hr 111 gM;refine afe (.tmp 106) (.tmp 111) rfl w4.heap.size _ i (vs.take i) D jG p9 (a.ak.length-(i+1)) k9 (vs.drop (i+1)) hs yN.out hcs (fun u hu=>U4.out u (uh hu)) af he.size ?_;intro v' w'' ho' hg;have hbl:=Below.ij (B:=w4.heap.size) hg jG (aH _) he.size;exact XF
           refine aE ?_)
        | (refine qD ?_)
        | (refine pH ?_))
       intro w2 l;simp only[iJ,iQ,jS,kW,bG,bN];repeat (first | with_reducible refine cH _ _ _ _ ?_ | (with_reducible refine cI _ _ _ _ ?_;intro _ _) | with_reducible refine cJ _ _ ?_)
       simp only[cF,cK,bQ,bE];rename_i az3 ath az4 ati az5 atj az6 atl;obtain⟨J,H,rfl,iX⟩:=atl;clear ath ati atj;have S:=l.blk _ _ F.out.ar;have e5:=ah.val S 4 (.slice (some ⟨y,f,none⟩) a'.ak.length m) rfl;have f5:=ah.free S 4;have l5:=ah.lt S;have hsz:=F.out.ext.size;have hel:(a.ak.eraseIdx i).length=i+(a.ak.length-(i+1)):=by rw[I8 hat];omega
       have n:aI (w.heap.size+1) w2 (w2.setCell ⟨w.heap.size+1,4,none⟩ (.slice J (i+(a.ak.length-(i+1))) H)):=aI.setCell;have HW:Hid (oV w d {a' with ak:=a.ak.eraseIdx i} (some ⟨g,0,none⟩) t J H (w2.setCell ⟨w.heap.size+1,4,none⟩ (.slice J (i+(a.ak.length-(i+1))) H))/\(w2.setCell ⟨w.heap.size+1,4,none⟩ (.slice J (i+(a.ak.length-(i+1))) H)).ownsRow w.heap.size 31 1 (.slice J (i+(a.ak.length-(i+1))) H) (i+(a.ak.length-(i+1))) (vs.take i++vs.drop (i+1))/\(w2.setCell ⟨w.heap.size+1,4,none⟩ (.slice J (i+(a.ak.length-(i+1))) H)).ownsRow w.heap.size 142 2 (.slice (some ⟨g,0,none⟩) N t) N (aV E2)):=by
        refine ag ⟨⟨n.ext (F.out.ext.trans l) af,n.blk (l.blk _ _ F.out.ds) af,?_,n.blk (l.blk _ _ F.out.z) af⟩,fo (fJ iX hsz) aq S n,fo (aO Ec.out l) aq S n⟩;have h:=ah.setCell (i:=4) (v:=.slice J (i+(a.ak.length-(i+1))) H) S;unfold eS;have e:bn {a' with ak:=a.ak.eraseIdx i} (some ⟨g,0,none⟩) t J H=(bn a' (some ⟨g,0,none⟩) t (some ⟨y,f,none⟩) m).setIfInBounds 4 (.slice J (i+(a.ak.length-(i+1))) H):=by
         unfold bn;simp[hel]
        rw[e];exact h
       clear iX S n hel;go_wp2_with fail;go_meet;exact⟨J,H,HW.out⟩
      case rest=>
       obtain⟨J,H,Jb,iX,nJ⟩:=hcut;go_wp2_with(first
        | (refine bz (o:=⟨some 114,_,_,_,_,_⟩) rfl 109 (.tmp 4) rfl _ rfl _ _ _ Jb.ar cL rfl aZ ?_)
        | (refine aU rfl 109 (.tmp 6) (.tmp 114) rfl _ (bn {a' with ak:=a.ak.eraseIdx i} (some ⟨g,0,none⟩) t J H) rfl rfl _ _ Jb.z aZ rfl (mE ..) ?_;intro w8 mU mc))
       have vq:=mc.ext Jb.ext af;have hs8:=fo iX aq Jb.z mc;have BR:=fo nJ aq Jb.z mc;obtain⟨g1,g2,g3⟩:=gh BR;obtain⟨g4,g5,g6⟩:=gh hs8;have hsub:=Ha'.out;have hel:(a.ak.eraseIdx i).length=i+(a.ak.length-(i+1)):=by rw[I8 hat];omega
       subst hsub;exact bY (dM Tryz.results91 _ _ _ _ _ _ rfl mU cL rfl aZ) rfl ⟨vq,by
        rw[aC rfl];exact⟨some ⟨g,0,none⟩,t,J,H,rfl,⟨g1,⟨_,g4,as4 (Br.out.ext vq) hat⟩,by simp only[atd.out];exact g2,by simp only[hel];exact g5,g6,gL.oe BR,gL.oe hs8⟩⟩⟩
end Go.Proofs.YteninnkbmoimgaaGreatDoor

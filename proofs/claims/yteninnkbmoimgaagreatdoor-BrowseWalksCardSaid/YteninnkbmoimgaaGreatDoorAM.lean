/- A part of the proof. -/
import Derived.Test.YteninnkbmoimgaaGreatDoorRep
import Derived.Test.YteninnkbmoimgaaGreatDoorAC
import Derived.SliceStrings
import Derived.Deep.Slices
import Derived.Deep.Fields
import Derived.ChangeSame
import Derived.ChangeMaps5
import Derived.OpenShut
set_option linter.unusedSimpArgs false
set_option linter.unusedVariables false
set_option maxRecDepth 100000
set_option maxHeartbeats 16000000
namespace Go.Proofs.YteninnkbmoimgaaGreatDoor
open Go.ChangeShapes Go.WideShapes Go.Deep Go.RowKit aD
section
variable {H:Type} {enc:TypeId×Value->H} {P:Program} {w:World} {base:Nat} {spare:Nat->Bool} {held:Bool}
theorem amP {t e:TypeId} {l:Array Field} {r:Nat} {C:List Value} {x:DataW H×List MemPlace} (ht:P.underlying t=some (.slice e)) (Y:P.underlying e=some (.struct l))
 (u:oneCellFields P l=true) (Q:P.cellsOf e=l.size) (h:DataW.trod enc P w base spare held r t C=some x):
 (C=[.slice none 0 0]/\x=(.nil,[]))∨
 ∃(a:Addr) (b d m:Nat) (D:Nat->DataW H) (B:Nat->List MemPlace),C=[.slice (some a) b d]/\base<=a.block/\b<=d/\d<=maxLen/\m=(if spare a.block then d else b)/\
  x=(.slice ((List.range b).map D) ((List.range (m-b)).map fun j=>D (b+j)),MemPlace.row a (m*l.size)++(List.range m).flatMap B)/\
  ∀i,i<m->∃(ys:List (DataW H×List MemPlace)) (n:Nat),D i=.agg (ys.map (·.1))/\B i=ys.flatMap (·.2)/\ys.length=l.size/\
   ∀(j:Nat) (f:Field),l[j]? =some f->∃(v:Value) (y:DataW H×List MemPlace),w.cell? (a.add (i*l.size+j))=some v/\ys[j]? =some y/\DataW.trod enc P w base spare held n f.type [v]=some y:=by
 rcases open_slice ht h with U | ⟨a,b,d,m,n,D,B,G,V,hl,hm,L,T,hi⟩
 ·exact .inl U
 ·refine .inr ⟨a,b,d,m,D,B,G,V,hl,hm,L,by rw[Q] at T;exact T,fun i I=>?_⟩;obtain⟨g,R,M⟩:=hi i I;rw[Q] at R;obtain⟨ys,n',hn',N,S,O,Z⟩:=DataW.trod_struct Y M;obtain⟨_,X,F⟩:=World.cells?_some R;simp only[jZ] at N;refine⟨ys,n',N.1,N.2,O,fun j f J=>?_⟩;obtain⟨ho,hk⟩:=hone_of u j f J;have K:j<l.size:=(gX.1 J).1;have o:=F j K;have hv:g[j]? =some (g[j]' af):=iB af;have E:=Z j f J;rw[ho,hk] at E;have q:(g.drop j).take 1=[g[j]' af]:=by
   rw[gz af];rfl
  rw[q] at E;have z:ys[j]? =some (ys[j]' af):=iB af;refine⟨_,_,?_,z,E.trans z⟩;rw[<-Go.Deep.add_add,o,hv]
end
def RU (w:World) (a:Addr):Bool:=match w.cell? a with
 | some (.bool b)=>b
 | _=>false
def Mb (w:World) (a:Addr):List UInt8:=match w.cell? a with
 | some (.string s)=>s.data.toList
 | _=>[]
theorem amQ {w:World} {a:Addr} {b:Bool} (h:w.cell? a=some (.bool b)):w.cell? a=some (.bool (RU w a)):=by unfold RU;rw[h]
theorem amR {w:World} {a:Addr} {s:ByteArray} (h:w.cell? a=some (.string s)):w.cell? a=some (.string ⟨(Mb w a).toArray⟩)/\(Mb w a).length=s.size:=by
 unfold Mb;rw[h];simp
theorem amS {w:World} {a:Addr} {v:Value} (h:w.cell? a=some v):a.spot=none/\a.block<w.heap.size:=by
 unfold World.cell? at h;split at h
 ·rename_i b;split at h
  ·cases h
  ·rename_i h2;exact⟨ru,(gX.1 b).1⟩
 ·cases h
end Go.Proofs.YteninnkbmoimgaaGreatDoor
namespace Go.Proofs.YteninnkbmoimgaaGreatDoor
open Go.RowKit aD
theorem amT (c:Nat):Lib.repeatL [0] c=List.replicate c (0:UInt8):=by
 induction c with
 | zero=>rfl
 | succ c b=>rw[Lib.repeatL,b];rfl
theorem amU (c:Nat) (f:c<=1000000) (w:World):
 Calls Tryz.prog 173 #[.string ⟨[0].toArray⟩,.int .i64 c] w fun e w'=>e=.returned (.string ⟨(List.replicate c (0:UInt8)).toArray⟩)/\Ext w w':=by
 match c with
 | 0=>exact(Tryz.strings_Repeat_zero _ w).mono fun e w' ⟨b,d⟩=>⟨b,by subst d;exact Ext.refl _⟩
 | 1=>exact(Tryz.strings_Repeat_one _ w).mono fun e w' ⟨b,d⟩=>⟨b,by subst d;exact Ext.refl _⟩
 | c+2=>
   refine(Tryz.strings_Repeat_main ⟨[0].toArray⟩ (c+2) w af af (by simp[ByteArray.size];omega) aq).mono fun e w' ⟨b,d⟩=>⟨?_,d⟩;rw[b];have:(ByteArray.mk [0].toArray).data.toList=[0]:=rfl;rw[this,amT]
end Go.Proofs.YteninnkbmoimgaaGreatDoor
namespace aD
open Go Go.RowKit
section
variable {P:Program} {ops:Array Oper} {Q:Exit->Act->World->Prop} {w0:World} {tail:List Oper} {ds:List Deferred} {rest:List Oper} {o:Oper} {L:List Fact}
theorem abm {a:Act} {w:World} (n:Reads ops (aJ L) o a w) {g:Nat} {b v:Bool} {t:Tmp} (f:o.guard=some (g,b)) (i:(ops[g]?).bind (·.dst)=some t) (m:L.getD t (Is undef)=Is (.bool v)):
 Region.wanted o (yielded ops a.tmps)=(v==b):=by
 have e:=n t (by simp[Oper.looksAt,f,i]);unfold aJ at e;rw[m] at e;have d:a.tmps.getD t undef=.bool v:=e;have j:a.tmps[t]? =some (.bool v):=by
  cases h:a.tmps[t]? with
  | none=>simp[h] at d;cases d
  | some x=>simp[h] at d;rw[d]
 have l:yielded ops a.tmps g=some v:=by
  unfold yielded;rw[i];simp[j]
 unfold Region.wanted;rw[f];simp only[l];cases v<;>cases b<;>rfl
theorem we {g:Nat} {b v:Bool} {t:Tmp} (f:o.guard=some (g,b)) (j:(ops[g]?).bind (·.dst)=some t) (e:L.getD t (Is undef)=Is (.bool v)) (d:(v==b)=false)
 (h:nD P ops Q w0 tail ds rest (bZ L o.dst (Is undef))):nD P ops Q w0 tail ds (o::rest) L:=
 ⟨_,Is.ay undef,fun a w l i=>by unfold sK;rw[aA (by rw[abm i f j e,d];simp)];rfl,h⟩
theorem lF {g:Nat} {b v:Bool} {t:Tmp} {x:Value} (n:o.guard=some (g,b)) (q:(ops[g]?).bind (·.dst)=some t) (l:L.getD t (Is undef)=Is (.bool v)) (e:(v==b)=true)
 (i:∀a w,Ext w0 w->Reads ops (aJ L) o a w->∀K:Act->World->Prop,(∀w',Ext w w'->K (a.put o.dst x) w')->o.wp P a w K Q)
 (h:nD P ops Q w0 tail ds rest (bZ L o.dst (Is x))):nD P ops Q w0 tail ds (o::rest) L:=
 ⟨_,Is.ay x,fun a w m f=>by unfold sK;rw[aC (by rw[abm f n q l];exact e)];exact fun K j=>i a w m f K fun w' d=>j x w' d rfl,h⟩
end
end aD
namespace aD
open Go
end aD
namespace Go.Proofs.YteninnkbmoimgaaGreatDoor
open Go.RowKit aD
theorem cZ:Tryz.prog.underlying 106=some (.struct (Tryz.prog.fieldsOf 106)):=aj
theorem bq:(Tryz.prog.info? 106).map (·.size)=some 3:=aj
end Go.Proofs.YteninnkbmoimgaaGreatDoor
namespace aD
def qR (n:Nd):Nd×Nd×List UInt8×Int:=
 if eC n=false then(Nd.zero,Nd.zero,[],1)
 else if n.ai.length=1 then(Nd.zero,Nd.zero,[],9)
 else(⟨n.level,0,cC (n.ai.take ((n.ai.length+1)/2))⟩,⟨n.level,n.next,n.ai.drop ((n.ai.length+1)/2)⟩,(au n.ai ((n.ai.length+1)/2-1)).1,0)
theorem AR (x:aG) (L:List aG):aV (x::L)=.string ⟨x.1.toArray⟩::.int .i64 x.2::aV L:=rfl
theorem AU:∀(L:List aG) (k:Nat),aV (L.take k)=(aV L).take (k*2)
 | [],k=>zV
 | x::L,0=>zV
 | x::L,k+1=>by rw[cY,AR,AR,AU L k,show(k+1)*2=k*2+1+1 by omega,cY,cY]
theorem Mc:∀(L:List aG) (k:Nat),aV (L.drop k)=(aV L).drop (k*2)
 | [],k=>zV
 | x::L,0=>zV
 | x::L,k+1=>by rw[dV,AR,Mc L k,show(k+1)*2=k*2+1+1 by omega,dV,dV]
theorem RV:∀(L:List aG) (i:Nat) (s:List UInt8),i<L.length->aV (L.set i (s,(au L i).2))=(aV L).set (i*2) (.string ⟨s.toArray⟩)
 | x::L,0,s,_=>by simp[aV,au]
 | x::L,i+1,s,h=>by
   have b:=RV L i s nA;rw[bG,AR,AR,show(i+1)*2=i*2+1+1 by omega,bG,bG];have e:au (x::L) (i+1)=au L i:=by simp[au]
   rw[e,b]
theorem amV (L:List aG) (K:Nat) (d:1<=K) (e:K<L.length):aV (cC (L.take K))=((aV L).take (K*2)).set ((K-1)*2) (.string ⟨#[]⟩):=by
 have b:(L.take K).length=K:=kQ;rw[Q7,b,RV _ _ _ af,AU]
end aD
namespace Go.Proofs.YteninnkbmoimgaaGreatDoor
open Go.RowKit aD
theorem Gd {P:Program} {fn:Func} {p r F G:Tmp} {n f:TypeId} (h:fn.results=#[.cell p n,.cell r f,.tmp F,.tmp G]) (b:Array Value) (w:World) (g m:Nat) (t I:TypeId) (l e:Array Value) (d q:TypeDesc)
 (hp:b.getD p undef=.pointer (some ⟨g,0,none⟩)) (K:ah w g (.cells l t)) (N:P.underlying n=some d) (J:(match d with | .struct _ | .array _ _=>true | _=>false)=true) (M:(P.info? n).map (·.size)=some l.size)
 (D:b.getD r undef=.pointer (some ⟨m,0,none⟩)) (y:ah w m (.cells e I)) (E:P.underlying f=some q) (u:(match q with | .struct _ | .array _ _=>true | _=>false)=true) (z:(P.info? f).map (·.size)=some e.size):
 (results fn b).run P w=.ok (.tuple #[.agg l,.agg e,b.getD F undef,b.getD G undef]) w:=by
 have C:b[p]?.getD undef=.pointer (some ⟨g,0,none⟩):=zU;have j:b[r]?.getD undef=.pointer (some ⟨m,0,none⟩):=by simpa using D
 have B:=yA w g t n l (0,0) d K N J M;have i:=yA w m I f e (0,0) q y E u z;simp[results,h,C,j,asAddr,B,i,Sem.run_bind]
def six (w:World) (a b:Nat) (d e f g i j:Value):World:=
 (((((w.setCell ⟨a,0,none⟩ d).setCell ⟨a,1,none⟩ e).setCell ⟨a,2,none⟩ f).setCell ⟨b,0,none⟩ g).setCell ⟨b,1,none⟩ i).setCell ⟨b,2,none⟩ j
theorem abn {w:World} {a b:Nat} {t:TypeId} {E F G I J K:Value} (C:ah w a (.cells #[E,F,G] t)) (D:ah w b (.cells #[I,J,K] t)) (n:a≠b) (d f g j l m:Value):
 ah (six w a b d f g j l m) a (.cells #[d,f,g] t)/\ah (six w a b d f g j l m) b (.cells #[j,l,m] t)/\∀w0,Ext w0 w->w0.heap.size<=a->w0.heap.size<=b->Ext w0 (six w a b d f g j l m):=by
 have q:aI a w (((w.setCell ⟨a,0,none⟩ d).setCell ⟨a,1,none⟩ f).setCell ⟨a,2,none⟩ g):=(aI.setCell.trans aI.setCell).trans aI.setCell;have r:aI b (((w.setCell ⟨a,0,none⟩ d).setCell ⟨a,1,none⟩ f).setCell ⟨a,2,none⟩ g) (six w a b d f g j l m):=(aI.setCell.trans aI.setCell).trans aI.setCell;have z:=ah.setCell (i:=2) (v:=g) (ah.setCell (i:=1) (v:=f) (ah.setCell (i:=0) (v:=d) C));have B:=ah.setCell (i:=2) (v:=m) (ah.setCell (i:=1) (v:=l) (ah.setCell (i:=0) (v:=j) (q.blk D (sL n))));exact⟨r.blk z n,B,fun w0 e u y=>r.ext (q.ext e u) y⟩
theorem amW {w w':World} {g b o:Nat} {xs:List Value} (h:Cells w (some ⟨g,o,none⟩) xs) (d:g≠b) (c:aI b w w'):Cells w' (some ⟨g,o,none⟩) xs:=by
 rcases h with h | ⟨m,n,e,l,f⟩
 ·exact .inl h
 ·simp only[mz,Addr.mk.injEq,kD] at e;obtain⟨rfl,rfl⟩:=e;refine .inr ⟨g,o,rfl,by rw[c.size];exact l,fun i j=>?_⟩;rw[<-f i j];simp only[World.cell?,c.block g d]
end Go.Proofs.YteninnkbmoimgaaGreatDoor
namespace aD
def Dl (d:DS) (s:List UInt8):List UInt8:=if cV d s=true then ax d s else s
end aD
namespace Go.Proofs.YteninnkbmoimgaaGreatDoor
open Go.RowKit aD
def gL (w:World) (q:Option Addr) (t:TypeId):Prop:=∀g o,q=some ⟨g,o,none⟩->∃b,ah w g (.cells b t)
theorem gL.ext {w w':World} {q:Option Addr} {t:TypeId} (h:gL w q t) (e:Ext w w'):gL w' q t:=fun g o f=>by
 obtain⟨b,d⟩:=h g o f;exact⟨b,e.blk _ _ d⟩
theorem gL.nil (w:World) (t:TypeId):gL w none t:=fun g o h=>ot
theorem gL.RW {w:World} {g o:Nat} {b:Array Value} {t:TypeId} (h:ah w g (.cells b t)):gL w (some ⟨g,o,none⟩) t:=fun e f d=>by
 simp only[mz,Addr.mk.injEq,kD] at d;obtain⟨rfl,rfl⟩:=d;exact⟨b,h⟩
theorem gL.oe {w:World} {B:Nat} {e:TypeId} {k n c:Nat} {q:Option Addr} {xs:List Value} (h:w.ownsRow B e k (.slice q n c) n xs):gL w q e:=by
 obtain⟨m,⟨b,j⟩ | ⟨i,d,f,b,l,g,_⟩⟩:=h
 ·cases b;exact gL.nil _ _
 ·cases b;exact gL.RW g
theorem gL.wZ {w w':World} {q:Option Addr} {t i:TypeId} {b:Nat} {j:Array Value} (h:gL w q t) (l:ah w b (.cells j i)) (hne:t≠i) (c:aI b w w'):gL w' q t:=fun g o m=>by
 obtain⟨d,f⟩:=h g o m;refine⟨d,c.blk f fun e=>?_⟩;subst e;have:=f.symm.trans l;exact E0
theorem Cells.oI {w w':World} {q:Option Addr} {t d:TypeId} {b:Nat} {f:Array Value} {xs:List Value} (h:Cells w q xs) (r:gL w q t) (l:ah w b (.cells f d)) (hne:t≠d) (c:aI b w w'):Cells w' q xs:=by
 rcases h with h | ⟨g,o,rfl,n,m⟩
 ·exact .inl h
 ·refine amW (.inr ⟨g,o,rfl,n,m⟩) (fun e=>?_) c;obtain⟨i,j⟩:=r g o rfl;subst e;have:=j.symm.trans l;exact E0
def kX (w:World) (v:Value) (L:aB):Prop:=∃q c,v=.slice q L.length c/\bk w q L/\L.length<=c/\c<=maxLen/\(q=none->L.length=0/\c=0)/\gL w q 9
def og (w:World) (vs:List Value) (V:List aB):Prop:=vs.length=V.length/\∀i,i<V.length->kX w (vs.getD i undef) (V.getD i [])
def Dm (w:World) (p:Option Addr) (V:List aB):Prop:=∃vs,Cells w p vs/\og w vs V
def bn (a:Ar) (q:Option Addr) (c:Nat) (p:Option Addr) (m:Nat):Array Value:=#[.int .i64 a.base,.int .i64 a.nd.level,.int .i64 a.nd.next,.slice q a.nd.ai.length c,.slice p a.ak.length m]
structure cX (w:World) (a:Ar) (q:Option Addr) (c:Nat) (p:Option Addr) (m:Nat):Prop where
 ai:iV w q a.nd.ai
 ak:Dm w p a.ak
 ec:a.nd.ai.length<=c
 ic:a.ak.length<=m
 im:m<=maxLen
 te:gL w q 142
 tp:gL w p 31
theorem kX.ext {w w':World} {v:Value} {L:aB} (h:kX w v L) (e:Ext w w'):kX w' v L:=by
 obtain⟨q,c,b,d,f,g,i,j⟩:=h;exact⟨q,c,b,d.ext e,f,g,i,j.ext e⟩
theorem og.ext {w w':World} {vs:List Value} {V:List aB} (h:og w vs V) (e:Ext w w'):og w' vs V:=⟨h.1,fun i b=>(h.2 i b).ext e⟩
theorem Dm.ext {w w':World} {p:Option Addr} {V:List aB} (h:Dm w p V) (e:Ext w w'):Dm w' p V:=by
 obtain⟨vs,b,d⟩:=h;exact⟨vs,b.ext e,d.ext e⟩
theorem cX.ext {w w':World} {a:Ar} {q:Option Addr} {c:Nat} {p:Option Addr} {m:Nat} (h:cX w a q c p m) (e:Ext w w'):cX w' a q c p m:=⟨h.ai.ext e,h.ak.ext e,h.ec,h.ic,h.im,h.te.ext e,h.tp.ext e⟩
theorem Dm.at {w:World} {p:Option Addr} {V:List aB} (h:Dm w p V) (i:Nat) (l:i<V.length):
 ∃b d v,p=some ⟨b,d,none⟩/\b<w.heap.size/\w.cell? ⟨b,d+i,none⟩=some v/\kX w v (V.getD i []):=by
 obtain⟨vs,e,n,f⟩:=h;obtain⟨b,d,m,g,j⟩:=e.at i af;exact⟨b,d,_,m,g,j i af,f i l⟩
def Dn (w:World) (v:Value) (L:aB):Prop:=∃q c,v=.slice q L.length c/\bk w q L/\L.length<=c/\c<=maxLen/\(q=none->L.length=0/\c=0)
def Gr (w:World) (vs:List Value) (V:List aB):Prop:=vs.length=V.length/\∀i,i<V.length->Dn w (vs.getD i undef) (V.getD i [])
def AV (w:World) (p:Option Addr) (V:List aB):Prop:=∃vs,Cells w p vs/\Gr w vs V
structure pW (w:World) (a:Ar) (q:Option Addr) (c:Nat) (p:Option Addr) (m:Nat):Prop where
 ai:iV w q a.nd.ai
 ak:AV w p a.ak
 ec:a.nd.ai.length<=c
 ic:a.ak.length<=m
 im:m<=maxLen
theorem Dn.ext {w w':World} {v:Value} {L:aB} (h:Dn w v L) (e:Ext w w'):Dn w' v L:=by
 obtain⟨q,c,b,d,f,g,i⟩:=h;exact⟨q,c,b,d.ext e,f,g,i⟩
theorem Gr.ext {w w':World} {vs:List Value} {V:List aB} (h:Gr w vs V) (e:Ext w w'):Gr w' vs V:=⟨h.1,fun i b=>(h.2 i b).ext e⟩
theorem AV.ext {w w':World} {p:Option Addr} {V:List aB} (h:AV w p V) (e:Ext w w'):AV w' p V:=by
 obtain⟨vs,b,d⟩:=h;exact⟨vs,b.ext e,d.ext e⟩
theorem pW.ext {w w':World} {a:Ar} {q:Option Addr} {c:Nat} {p:Option Addr} {m:Nat} (h:pW w a q c p m) (e:Ext w w'):pW w' a q c p m:=⟨h.ai.ext e,h.ak.ext e,h.ec,h.ic,h.im⟩
theorem AV.at {w:World} {p:Option Addr} {V:List aB} (h:AV w p V) (i:Nat) (l:i<V.length):
 ∃b d v,p=some ⟨b,d,none⟩/\b<w.heap.size/\w.cell? ⟨b,d+i,none⟩=some v/\Dn w v (V.getD i []):=by
 obtain⟨vs,e,n,f⟩:=h;obtain⟨b,d,m,g,j⟩:=e.at i af;exact⟨b,d,_,m,g,j i af,f i l⟩
theorem kX.x {w:World} {v:Value} {L:aB} (h:kX w v L):Dn w v L:=by
 obtain⟨q,c,b,d,e,f,g,_⟩:=h;exact⟨q,c,b,d,e,f,g⟩
theorem og.x {w:World} {vs:List Value} {V:List aB} (h:og w vs V):Gr w vs V:=⟨h.1,fun i b=>(h.2 i b).x⟩
theorem cX.x {w:World} {a:Ar} {q:Option Addr} {c:Nat} {p:Option Addr} {m:Nat} (h:cX w a q c p m):pW w a q c p m:=by
 obtain⟨vs,b,d⟩:=h.ak;exact⟨h.ai,⟨vs,b,d.x⟩,h.ec,h.ic,h.im⟩
theorem kX.oe {w:World} {base:Nat} {v:Value} {L:aB} (h:w.ownsRow base 9 1 v L.length (L.map fun s=>.string ⟨s.toArray⟩)):kX w v L:=by
 obtain⟨q,c,rfl,f,_,i,j⟩:=CO h;refine⟨q,c,rfl,f,i,j,fun l=>?_,gL.oe h⟩;subst l;obtain⟨n,⟨b,m⟩ | ⟨g,d,e,b,_⟩⟩:=h
 ·simp only[Value.slice.injEq,true_and] at b;exact b
 ·simp at b
theorem kX.oI {w w':World} {v:Value} {L:aB} {g:TypeId} {b:Nat} {i:Array Value} (h:kX w v L) (f:ah w b (.cells i g)) (d:9≠g) (c:aI b w w'):kX w' v L:=by
 obtain⟨q,k,j,l,m,n,r,e⟩:=h;exact⟨q,k,j,Cells.oI l e f d c,m,n,r,e.wZ f d c⟩
theorem cX.lE {w w':World} {a:Ar} {q:Option Addr} {c:Nat} {p:Option Addr} {m:Nat} {e:TypeId} {b:Nat} {j:Array Value} (h:cX w a q c p m) (d:ah w b (.cells j e)) (t:9≠e) (f:31≠e) (g:142≠e) (k:aI b w w'):cX w' a q c p m:=by
 obtain⟨vs,l,n,r⟩:=h.ak;exact⟨Cells.oI h.ai h.te d g k,⟨vs,Cells.oI l h.tp d f k,n,fun i u=>(r i u).oI d t k⟩,h.ec,h.ic,h.im,h.te.wZ d g k,h.tp.wZ d f k⟩
theorem abo (x:Int) (w:World):Calls Tryz.prog 119 #[.int .i64 x] w fun e w'=>e=.returned (.bool (eX x))/\w'=w:=by
 by_cases h:1<=x
 ·have b:decide (1<=x)=true:=bM h;have HE:Hid (eX x=decide (x<=16777208)):=ag (by unfold eX;rw[b];rfl);go_enter Tryz.func119,Tryz.ntmps119;go_wp2;go_ret;exact⟨vQ,rfl⟩
 ·have b:decide (1<=x)=false:=aM h;have HE:Hid (eX x=false):=ag (by unfold eX;rw[b];rfl);go_enter Tryz.func119,Tryz.ntmps119;go_wp2;go_ret;exact⟨vQ,rfl⟩
theorem abp (d:DS) (w:World):Calls Tryz.prog 118 #[.agg (az d)] w fun e w'=>e=.returned (.bool (dA d))/\Ext w w':=by
 have i:=ag (LJ d);have j:=ah.new w (.cells (az d) 23);have HE:Hid (dA d=(cr d&&decide (d.org=3))):=ag rfl;have q:(d.org==3)=decide (d.org=3):=rfl;go_enter Tryz.func118,Tryz.ntmps118;go_upto_region 1 with(fail);refine aR (fun w0=>Ext w w0/\bI w0 w.heap.size d) ⟨Ext.alloc _ _,j⟩ ?_;rintro w0 ⟨g,f⟩;clear j;cases hv:cr d
 ·rw[hv] at HE i;clear hv;go_wp2_with(first | (refine bu rfl (.tmp 1) rfl _ rfl d f ?_) | (go_at_call 48;refine(i.out _).mono ?_;rintro e l ⟨rfl,b⟩));go_ret;exact⟨vQ,g.trans b⟩
 ·rw[hv] at HE i;clear hv;go_wp2_with(first | (refine bu rfl (.tmp 1) rfl _ rfl d f ?_) | (go_at_call 48;refine(i.out _).mono ?_;rintro e l ⟨rfl,b⟩;have m:=ah.val (b.blk _ _ f) 1 _ rfl;have n:=ah.lt (b.blk _ _ f)));go_ret;exact⟨vQ,g.trans b⟩
theorem Dp (d:DS) (w:World):Calls Tryz.prog 27 #[.agg (az d)] w fun e w'=>e=.returned (.bool (dA d))/\Ext w w':=by
 have i:=ag (alN d);have j:=ah.new w (.cells (az d) 23);have HE:Hid (dA d=(cr d&&decide (d.org=3))):=ag rfl;have q:(d.org==3)=decide (d.org=3):=rfl;go_enter Tryz.func27,Tryz.ntmps27;go_upto_region 1 with(fail);refine aR (fun w0=>Ext w w0/\bI w0 w.heap.size d) ⟨Ext.alloc _ _,j⟩ ?_;rintro w0 ⟨g,f⟩;clear j;cases hv:cr d
 ·rw[hv] at HE i;clear hv;go_wp2_with(first | (refine bu rfl (.tmp 1) rfl _ rfl d f ?_) | (go_at_call 43;refine(i.out _).mono ?_;rintro e l ⟨rfl,b⟩));go_ret;exact⟨vQ,g.trans b⟩
 ·rw[hv] at HE i;clear hv;go_wp2_with(first | (refine bu rfl (.tmp 1) rfl _ rfl d f ?_) | (go_at_call 43;refine(i.out _).mono ?_;rintro e l ⟨rfl,b⟩;have m:=ah.val (b.blk _ _ f) 1 _ rfl;have n:=ah.lt (b.blk _ _ f)));go_ret;exact⟨vQ,g.trans b⟩
theorem amX (d:DS) (s:List UInt8) (j:dA d=true) (w:World):Calls Tryz.prog 160 #[.agg (az d),.string ⟨s.toArray⟩] w fun e w'=>e=.returned (.bool (cV d s))/\Ext w w':=by
 obtain⟨i,q,r,t,u,y,z,B,C⟩:=iM j;have E:=oB (qM i).2.2.1;have b:=ah.new w (.cells (az d) 23);have D:IntKind.i64.wrap (d.dm+d.bV)=d.dm+d.bV:=IntWalk.i64_in _ af;have l:=ah.val b 3 _ rfl;have m:=ah.val b 5 _ rfl;have n:=ah.val b 6 _ rfl;by_cases g:d.dm+d.bV<=s.length
 ·have f:decide (d.dm+d.bV<=(s.length:Int))=true:=bM g;have HE:Hid (cV d s=decide ((s.length:Int)<=d.length)):=ag (by unfold cV;rw[f];rfl);go_enter Tryz.func160,Tryz.ntmps160;exact LF
 ·have f:decide (d.dm+d.bV<=(s.length:Int))=false:=aM g;have HE:Hid (cV d s=false):=ag (by unfold cV;rw[f];rfl);go_enter Tryz.func160,Tryz.ntmps160;exact LF
theorem Gs (d:DS) (s:List UInt8) (j:dA d=true) (w:World):Calls Tryz.prog 93 #[.agg (az d),.string ⟨s.toArray⟩] w fun e w'=>e=.returned (.bool (cV d s))/\Ext w w':=by
 obtain⟨i,q,r,t,u,y,z,B,C⟩:=iM j;have E:=oB (qM i).2.2.1;have b:=ah.new w (.cells (az d) 23);have D:IntKind.i64.wrap (d.dm+d.bV)=d.dm+d.bV:=IntWalk.i64_in _ af;have l:=ah.val b 3 _ rfl;have m:=ah.val b 5 _ rfl;have n:=ah.val b 6 _ rfl;by_cases g:d.dm+d.bV<=s.length
 ·have f:decide (d.dm+d.bV<=(s.length:Int))=true:=bM g;have HE:Hid (cV d s=decide ((s.length:Int)<=d.length)):=ag (by unfold cV;rw[f];rfl);go_enter Tryz.func93,Tryz.ntmps93;exact LF
 ·have f:decide (d.dm+d.bV<=(s.length:Int))=false:=aM g;have HE:Hid (cV d s=false):=ag (by unfold cV;rw[f];rfl);go_enter Tryz.func93,Tryz.ntmps93;exact LF
theorem Qp (d:DS) (s:List UInt8) (j:dA d=true) (m:cV d s=true) (w:World):Calls Tryz.prog 125 #[.agg (az d),.string ⟨s.toArray⟩] w fun e w'=>e=.returned (.string ⟨(ax d s).toArray⟩)/\Ext w w':=by
 obtain⟨i,r,t,u,y,z,B,C,D⟩:=iM j;have F:=oB (qM i).2.2.1;have l:=CY m;have b:=ah.new w (.cells (az d) 23);have E:IntKind.i64.wrap (d.dm+d.bV)=d.dm+d.bV:=IntWalk.i64_in _ af;have n:=ah.val b 5 _ rfl;have q:=ah.val b 6 _ rfl;have G:(0:Int)<=d.dm+d.bV:=af;have I:d.dm+d.bV<=(s.length:Int):=l.1;have J:d.dm<=d.dm+d.bV:=af;have f:Hid (ax d s=(s.drop d.dm.toNat).take d.bV.toNat):=ag rfl;have g:Hid ((d.dm+d.bV).toNat-d.dm.toNat=d.bV.toNat):=ag af;go_enter Tryz.func125,Tryz.ntmps125;go_wp2;go_ret;exact⟨by rw[f.out,<-g.out];rfl,Ext.alloc _ _⟩
theorem vf (d:DS) (s:List UInt8) (j:dA d=true) (m:cV d s=true) (w:World):Calls Tryz.prog 71 #[.agg (az d),.string ⟨s.toArray⟩] w fun e w'=>e=.returned (.string ⟨(ax d s).toArray⟩)/\Ext w w':=by
 obtain⟨i,r,t,u,y,z,B,C,D⟩:=iM j;have F:=oB (qM i).2.2.1;have l:=CY m;have b:=ah.new w (.cells (az d) 23);have E:IntKind.i64.wrap (d.dm+d.bV)=d.dm+d.bV:=IntWalk.i64_in _ af;have n:=ah.val b 5 _ rfl;have q:=ah.val b 6 _ rfl;have G:(0:Int)<=d.dm+d.bV:=af;have I:d.dm+d.bV<=(s.length:Int):=l.1;have J:d.dm<=d.dm+d.bV:=af;have f:Hid (ax d s=(s.drop d.dm.toNat).take d.bV.toNat):=ag rfl;have g:Hid ((d.dm+d.bV).toNat-d.dm.toNat=d.bV.toNat):=ag af;go_enter Tryz.func71,Tryz.ntmps71;go_wp2;go_ret;exact⟨by rw[f.out,<-g.out];rfl,Ext.alloc _ _⟩
end Go.Proofs.YteninnkbmoimgaaGreatDoor

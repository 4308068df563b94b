/- A part of the proof. -/
import Derived.Test.YteninnkbmoimgaaGreatDoorRP0
set_option linter.unusedSimpArgs false
set_option linter.unusedVariables false
set_option maxRecDepth 100000
set_option maxHeartbeats 16000000
namespace aD
theorem N8 {x:Wr}:∀{L:List Wr} {k:Nat},k<=L.length->(∀j,j<k->(eM L j).1<x.1)->(k<L.length->¬(eM L k).1<x.1)->pz x L=L.take k++x::L.drop k
 | [],k,h,_,_=>by simp at h;subst h;rfl
 | y::L,0,_,_,b=>by
   have:¬y.1<x.1:=b av;rw[pz,aA this];rfl
 | y::L,k+1,h1,d,b=>by
   have e:y.1<x.1:=d 0 af;rw[pz,aC e,N8 (k:=k) jP (fun j f=>d (j+1) af) (fun hk=>b vR)];rfl
theorem atN {L:List Wr} (h:(L.map (·.1)).Nodup) {i k:Nat} (hi:i<L.length) (b:k<i):((eM L k).1==(eM L i).1)=false:=by
 unfold List.Nodup at h;have d:=ue.1 h k i (by simpa using Nat.lt_trans b hi) pq b;simp only[List.getElem_map] at d;have e:eM L k=L[k]' af:=by simp[eM,List.getD,show k<L.length by omega]
 have f:eM L i=L[i]:=by simp[eM,List.getD,hi]
 rw[e,f];exact wJ.2 d
end aD
namespace Go.Proofs.YteninnkbmoimgaaGreatDoor
open Go.RowKit aD
theorem afB (q:Option Addr) (c:Nat) (L:List Wr) (w:World) (z:iC w q L) (l:(L.map (·.1)).Nodup) (N:L.length<=1000000):
 Calls Tryz.prog 100 #[.slice q L.length c] w fun e w'=>e=.returned (.bool false)/\Ext w w':=by
 have C:=ag z;have B:=ag l;clear z l;go_enter Tryz.func100,Tryz.ntmps100;go_upto_region 2 with(fail);go_loopw[3,4] (fun iv _ wr=>∃i:Nat,i<=L.length/\iv=.int .i64 i/\Ext w wr) (fun iv _ _=>L.length-(intOf iv).toNat)
 case atStart=>exact⟨0,bL _,rfl,Ext.refl _⟩
 case round=>
  obtain⟨i,K,rfl,d⟩:=hrel;by_cases f:i<L.length
  ·have j:(i:Int)<L.length:=af;obtain⟨b,m,rfl,n,u⟩:=C.out.at i f;have t:=ag u;have D:=ag d;clear u d;go_upto_region 5 with(fail);go_loopw[4] (fun r J=>∃k:Nat,k<=i/\r=.int .i64 k/\Ext w J) (fun r _=>i-(intOf r).toNat)
   case atStart=>exact⟨0,bL _,rfl,D.out⟩
   case round=>
    obtain⟨k,M,rfl,d⟩:=hrel;by_cases o:k<i
    ·have g:(k:Int)<(i:Int):=af;have H:(k:Int)<(L.length:Int):=af;have F:wr.cell? ⟨b,m+i*2,none⟩=some (.int .i64 (eM L i).1):=(d.cell b _ n).trans (t.out i f).1;have G:wr.cell? ⟨b,m+k*2,none⟩=some (.int .i64 (eM L k).1):=(d.cell b _ n).trans (t.out k af).1;have E:=fM n d.size;have I:=atN B.out f o;generalize(eM L i).1=x at *;generalize(eM L k).1=y at *;go_upto_region 7 with(fail);go_quiet(fail);go_wp2_with fail;go_roundw
     case rel=>exact⟨k+1,af,bX,d.trans Kb⟩
     case measure=>exact ct
    ·have g:decide ((k:Int)<(i:Int))=false:=aM af;go_wp2_with fail;go_roundw
     case rel=>exact⟨i+1,af,bX,d⟩
     case measure=>exact ct
  ·have j:decide ((i:Int)<L.length)=false:=aM af;go_wp2_with fail;go_ret;exact⟨rfl,d⟩
theorem atO (h:Hd) (q:Option Addr) (c:Nat) (L:List Wr) (w:World) (u:iC w q L) (f:(L.map (·.1)).Nodup) (C:L.length<=1000000):
 Calls Tryz.prog 143 #[.agg (aK h),.slice q L.length c] w fun e w'=>Ext w w'/\e=.returned (.tuple #[.agg (aK h),.slice q L.length c,.int .i64 0]):=by
 have B:=ag (fun W (e:Ext w W)=>afB q c L W (u.ext e) f C);have y:=(Ext.alloc w (.cells (aK h) 30)).trans (Ext.alloc (w.alloc (.cells (aK h) 30)) (.cells #[.int .i64 0,.int .i64 0,.int .i64 0,.int .i64 0,.int .i64 0,.int .i64 0,.int .i64 0] 30));have t:=(Ext.alloc (w.alloc (.cells (aK h) 30)) (.cells #[.int .i64 0,.int .i64 0,.int .i64 0,.int .i64 0,.int .i64 0,.int .i64 0,.int .i64 0] 30)).blk _ _ (ah.new w (.cells (aK h) 30));have z:ah ((w.alloc (.cells (aK h) 30)).alloc (.cells #[.int .i64 0,.int .i64 0,.int .i64 0,.int .i64 0,.int .i64 0,.int .i64 0,.int .i64 0] 30)) (w.heap.size+1) (.cells #[.int .i64 0,.int .i64 0,.int .i64 0,.int .i64 0,.int .i64 0,.int .i64 0,.int .i64 0] 30):=ah.new1 _ _ _ av;clear u f;go_enter Tryz.func143,Tryz.ntmps143;go_upto_region 1 with(fail);refine aR (fun g=>Ext w g/\ah g w.heap.size (.cells (aK h) 30)/\ah g (w.heap.size+1) (.cells #[.int .i64 0,.int .i64 0,.int .i64 0,.int .i64 0,.int .i64 0,.int .i64 0,.int .i64 0] 30)) ⟨y,t,z⟩ ?_;clear y t z;rintro g ⟨d,i,m⟩;go_wp2_with(first
  | (go_at_call 100;refine(B.out _ d).mono ?_;rintro e D ⟨rfl,b⟩;have j:=b.blk _ _ i;have n:=b.blk _ _ m)
  | (refine bz (o:=⟨some 10,_,_,_,_,_⟩) rfl 30 (.tmp 2) rfl _ rfl _ _ _ j fH rfl dg ?_)
  | (refine aU rfl 30 (.tmp 4) (.tmp 10) rfl _ (aK h) rfl rfl _ _ n dg rfl cT ?_;intro E r l))
 exact bY (pP Tryz.results143 _ _ _ _ _ _ rfl r fH rfl dg) rfl ⟨l.ext (d.trans b) af,rfl⟩
theorem Vd {w:World} {q:Option Addr} {L:List Wr} (h:iC w q L):Cells w q (ck L):=by
 rcases h with h | ⟨b,d,t,⟨m,_⟩,n⟩
 ·subst h;exact .inl rfl
 ·refine .inr ⟨b,d,t,m,fun i o=>?_⟩;rw[rP] at o;obtain⟨j,l⟩:=n (i/2) af;obtain⟨f,g⟩:=L9 L (i/2) af;rcases Nat.mod_two_eq_zero_or_one i with r | r
  ·have e:i=i/2*2:=af;rw[e,j];simp only[List.getD];rw[f];rfl
  ·have e:i=i/2*2+1:=af;rw[e,<-sD,l];simp only[List.getD];rw[g];rfl
theorem ams {w:World} {q:Option Addr} {L:List Wr} (h:iC w q L) (k:Nat) (f:k<=L.length) (d:0<k):∃b,q=some b/\∀j u,(ck (L.take k))[j]? =some u->w.cell? (b.add j)=some u:=by
 refine zl ?_ (fun e=>?_)
 ·rw[RO];exact Cells.take (Vd h) _
 ·have:=gP List.length e;rw[rP,gF] at this;simp at this;omega
theorem Ve:∀(L:List Wr) (k:Nat),ck (L.drop k)=(ck L).drop (k*2)
 | [],k=>by simp[ck]
 | x::L,0=>av
 | x::L,k+1=>by rw[dV,tN,Ve L k,show(k+1)*2=k*2+1+1 by omega];rfl
theorem amt {w:World} {b d:Nat} {L:List Wr} (h:iC w (some ⟨b,d,none⟩) L) (k c:Nat) (e:L.length<=c):Cells w (if c=k then some ⟨b,d,none⟩ else some ⟨b,d+k*2,none⟩) (ck (L.drop k)):=by
 split
 ·refine .inl ?_;rw[jI af];rfl
 ·rw[Ve];exact Cells.drop (Vd h) (k*2)
def LQ (b:World) (n:Nat) (xs:List Value):Fact:=fun x _=>∃p c,x=.slice p n c/\∀W,Ext b W->Cells W p xs
theorem LQ.ay (b:World) (n:Nat) (xs:List Value):(LQ b n xs).ay:=fun _ _ _ _ h=>h
theorem amu {l:List Oper} {A B m:Nat} {xs ys:List (Nat×Tmp)} {R:Nat->Rel} {S:World->Prop} (n:kU .any l A B=true) (f:A≠B) (j:∀w w',Ext w w'->S w->S w') (i:gI .any l.toArray m=true):Pre.sU .any l.toArray [(A,xs),(B,ys)] R (fun p w=>p=A->S w):=
 ⟨fun _ _ w w' e h d=>j w w' e (h d),fun p q d g b=>by
   simp[eN] at d g;rcases d with rfl | rfl
   ·rcases g with rfl | rfl
    ·exact absurd rfl b
    ·exact .inl (rK i n)
   ·exact .inr fun _ _ _ _ h=>absurd h.symm f⟩
theorem LR {w:World} {o:Oper} {a:Act} {K:Act->World->Prop} {Q:Exit->Act->World->Prop} (d s:Operand)
 (ho:o.op=.call {callee:=.builtin .append,args:=#[d,s],argTypes:=#[95,95]}) (base:Nat) (v:Value) (n:Nat) (xs:List Value) (hv:a.eval d=v) (hown:w.ownsRow base 133 2 v n xs) (p:Option Addr) (m c:Nat) (e:List Value) (hs:a.eval s=.slice p m c) (D:e.length=m*2) (hc:Cells w p e)
 (r:∀u∈e,u.oneCell'=true) (y:n+m<=100000000) (f:base<=w.heap.size)
 (h:∀l w',w'.ownsRow base 133 2 l (n+m) (xs++e)->w.grownBy w' v.ownBlock->K (a.put o.dst l) w'):o.wp Tryz.prog a w K Q:=by
 by_cases t:m=0
 ·subst t;obtain rfl:e=[]:=gY af;obtain⟨q,k,rfl⟩:=cE hown;obtain⟨_,j,_⟩:=gh hown;obtain⟨E,i,z,C,B⟩:=lH AJ;have hr:(Builtin.append_ #[95,95] o.type #[.slice q n k,.slice p 0 c]).run Tryz.prog w=.ok (.slice q n k) w:=by
   cases p<;>cases q<;>simp[Builtin.append_,pO Tryz.underlying95,Go.sizeOf,typeInfo,i,Builtin.lenOf,Builtin.firstCells,loadCells,loadCellsFrom,Go.storeCells,j]
  exact JS
 ·obtain⟨g,rfl⟩:∃g,p=some g:=by
   exact Aa
  exact wS d s 95 133 ho base (.agg #[.int .i64 0,.string ByteArray.empty]) 2 24 Tryz.underlying95 AJ rfl aq v n xs hv hown (some g) m c e hs rfl af hc r y aq f h
theorem N9 (d:DS) (gb q c:Nat) (L:List Wr) (page:Int) (n:Nd) (l:Option Addr) (m:Nat) (w:World) (R:iC w (some ⟨gb,q,none⟩) L) (hc:L.length<=c) (hl:L.length<=1000) (O:iV w l n.ai) (I:n.ai.length<=1000000):
 Calls Tryz.prog 144 #[.agg (az d),.slice (some ⟨gb,q,none⟩) L.length c,.int .i64 page,dO n l m] w fun e w'=>Ext w w'/\∃v,e=.returned v/\w'.ownsRow w.heap.size 133 2 v (L.length+1) (ck (pz (page,dH d.interval n) L)):=by
 have Hs:=ag R;have D:=ag (fun W (e:Ext w W)=>Sl d.interval l m n W (O.ext e) I);unfold dO at D⊢;generalize dH d.interval n=s at *;generalize dS d.interval n=er at *;have hx:=(Ext.alloc w (.cells (az d) 23)).trans (Ext.alloc (w.alloc (.cells (az d) 23)) (.cells #[.int .i64 n.level,.int .i64 n.next,.slice l n.ai.length m] 106));have N:=(Ext.alloc (w.alloc (.cells (az d) 23)) (.cells #[.int .i64 n.level,.int .i64 n.next,.slice l n.ai.length m] 106)).blk _ _ (ah.new w (.cells (az d) 23));have S:ah ((w.alloc (.cells (az d) 23)).alloc (.cells #[.int .i64 n.level,.int .i64 n.next,.slice l n.ai.length m] 106)) (w.heap.size+1) (.cells #[.int .i64 n.level,.int .i64 n.next,.slice l n.ai.length m] 106):=ah.new1 _ _ _ av;clear R O;go_enter Tryz.func144,Tryz.ntmps144;go_upto_region 1 with(fail);refine aR (fun C=>Ext w C/\bI C w.heap.size d/\ah C (w.heap.size+1) (.cells #[.int .i64 n.level,.int .i64 n.next,.slice l n.ai.length m] 106)) ⟨hx,N,S⟩ ?_;clear hx N S;rintro C ⟨he0,r,B⟩;have M:=ah.val r 7 _ rfl;rw[show((az d):Array Value)[7]=.int .i64 d.interval from rfl] at M;have Z:=ah.lt r;go_upto_region 3 with(first
  | (refine bz (o:=⟨some 16,_,_,_,_,_⟩) rfl 106 (.tmp 7) rfl _ rfl _ _ _ B cZ rfl bq ?_)
  | (go_at_call 88;refine(D.out _ he0).mono ?_;rintro e w1 ⟨rfl,t⟩))
 have F:=ag (he0.trans t);clear M Z r B he0 t D;generalize q=off at *;go_loopw[11] (fun J wr=>wr=w1/\∃k:Nat,k<=L.length/\J=.int .i64 k/\Hid (∀j,j<k->(eM L j).1<page)) (fun J _=>L.length-(intOf J).toNat)
 case atStart=>exact⟨rfl,0,bL _,rfl,ag (fun j V=>af)⟩
 case round=>
  obtain⟨rfl,k,hk,rfl,G⟩:=hrel;have hS:=F.out;by_cases g:k<L.length
  ·have y:(k:Int)<L.length:=af;have U:wr.cell? ⟨gb,off+k*2,none⟩=some (.int .i64 (eM L k).1):=by
    obtain⟨b,o,z,_,H⟩:=(Hs.out.ext hS).at k g;simp only[mz,Addr.mk.injEq,kD] at z;obtain⟨rfl,rfl⟩:=z;exact(H k g).1
   have X:gb<wr.heap.size:=by
    obtain⟨b,o,z,T,_⟩:=(Hs.out.ext hS).at k g;simp only[mz,Addr.mk.injEq,kD] at z;obtain⟨rfl,rfl⟩:=z;exact T
   by_cases hp:(eM L k).1<page
   ·have E:=ag (show ∀j,j<k+1->(eM L j).1<page from fun j V=>by
     by_cases e:j=k
     ·subst e;exact hp
     ·exact G.out j af)
    generalize(eM L k).1=x at *;go_wp2_with fail;go_roundw
    case rel=>exact⟨trivial,k+1,af,bX,E⟩
    case measure=>exact ct
   ·have Y:decide ((eM L k).1<page)=false:=aM hp;have f:k<L.length->¬(eM L k).1<page:=fun _=>hp;have vS:=ag (N8 (x:=(page,s)) (L:=L) (k:=k) hk G.out f);clear f;generalize(eM L k).1=x at *;exact aaJ
  ·have y:decide ((k:Int)<L.length)=false:=aM af;have f:k<L.length->¬(eM L k).1<page:=fun h=>absurd h g;have vS:=ag (N8 (x:=(page,s)) (L:=L) (k:=k) hk G.out f);clear f;exact aaJ
end Go.Proofs.YteninnkbmoimgaaGreatDoor

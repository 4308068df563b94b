/- A part of the proof. -/
import Derived.Test.YteninnkbmoimgaaGreatDoorRA0
import Derived.Test.YteninnkbmoimgaaGreatDoorPK4
set_option linter.unusedSimpArgs false
set_option linter.unusedVariables false
set_option maxRecDepth 100000
set_option maxHeartbeats 16000000
namespace aD
open Go Go.RowKit
theorem afC {w:World} {base:Nat} {e:TypeId} {k n c:Nat} {q:Option Addr} {xs:List Value} (h:w.ownsRow base e k (.slice q n c) n xs) (m:Nat) (u:m<=n):w.ownsRow base e k (.slice q m c) m (xs.take (m*k)):=by
 obtain⟨z,h | ⟨g,i,b,d,j,l,y,o,r,t⟩⟩:=h
 ·obtain⟨d,rfl⟩:=h;obtain rfl:m=0:=af;cases d
  exact⟨av,.inl ⟨rfl,rfl⟩⟩
 ·cases d
  have f:m*k<=n*k:=AE k u;refine⟨kQ,.inr ⟨g,c,b,rfl,j,l,af,o,r,?_⟩⟩;rw[<-t,List.take_take,Ap f]
def RSo (E:TypeId) (B C:Nat) (d:Value) (b:Nat) (e:List Value):Nat->Rel:=fun i w w'=>Below B w w'/\(i=8->w.ownsRow C E 2 d b e->w'.ownsRow C E 2 d b e)
theorem atP (l:List Oper) (b:World) (K:dR) (E:TypeId) (C:Nat) (e:Value) (d:Nat) (f:List Value):uj l b K (RSo E b.heap.size C e d f) (fun _ _=>Any):=
 ⟨fun _ _ _ h=>h.1,fun _ _ _ _ _ _ _=>trivial,fun _ _ _ _ _ _ _ _ _ _ _=>trivial,fun _ _ _=>.inl rfl⟩
theorem atQ {L:List Wr} {i:Nat} (h:i<L.length):dB (L.take (i+1))=pz (eM L i) (dB (L.take i)):=by
 rw[jr h,IM];congr 1;simp[eM,List.getD,h]
theorem xK (L:List Wr):(dB L).length=L.length:=(Bx L).length_eq
end aD
namespace Go.Proofs.YteninnkbmoimgaaGreatDoor
open Go.RowKit aD
theorem atS {l:List Oper} {m:Nat} {xs ys:List (Nat×Tmp)} {B C:Nat} {g:Value} {f:Nat} {i:List Value} {S:World->Prop} (o:kU .any l 8 10=true) (n:∀w w',Ext w w'->S w->S w') (j:gI .any l.toArray m=true):
 Pre.sU .any l.toArray [(8,xs),(10,ys)] (RSo 133 B C g f i) (fun p w=>(p=8->S w)/\w.ownsRow C 133 2 g f i):=
 ⟨fun _ _ w w' e h=>⟨fun b=>n w w' e (h.1 b),aO h.2 e⟩,fun p q b d hne=>by
   simp[eN] at b d;rcases b with rfl | rfl
   ·rcases d with rfl | rfl
    ·exact tP
    ·exact .inl (rK j o)
   ·rcases d with rfl | rfl
    ·exact .inr fun _ _ r h=>⟨fun e=>absurd e aq,r.2 rfl h.2⟩
    ·exact tP⟩
theorem Ke {o:Oper} {a:Act} {w:World} {K:Act->World->Prop} {Q:Exit->Act->World->Prop} (T:TypeId) (n:Tryz.prog.underlying T=some (.struct (Tryz.prog.fieldsOf T))) (hi:(Tryz.prog.info? T).map (·.size)=some 2) (x:Operand) (l:o.op=.load T x)
 (g b:Nat) (q:a.eval x=.pointer (some ⟨g,b,none⟩)) (u v:Value) (h0:w.cell? ⟨g,b,none⟩=some u) (h1:w.cell? ⟨g,b+1,none⟩=some v)
 (h:K (a.put o.dst (.agg #[u,v])) w):o.wp Tryz.prog a w K Q:=by
 have f:(loadCells ⟨g,b,none⟩ 2).run Tryz.prog w=.ok #[u,v] w:=
  Fc (P:=Tryz.prog) w ⟨g,b,none⟩ [u,v] (fun j y hy=>by
   exact W9)
 have e:(loadVar T ⟨g,b,none⟩).run Tryz.prog w=.ok (.agg #[u,v]) w:=by
  cases hq:Tryz.prog.info? T with
  | none=>simp[hq] at hi
  | some i=>
    have m:i.size=2:=E3;have d:(isAgg T).run Tryz.prog w=.ok true w:=by
     unfold isAgg;rw[Sem.run_bind,pO n w];rfl
    simp[loadVar,Sem.run_bind,d,Go.sizeOf,typeInfo,hq,m,f]
 unfold Oper.wp execOp;simp only[l,q,Instr.loadAt,Instr.sureAddr,Sem.run_bind,Sem.run_pure,Result.andThen_ok,e];exact h
theorem atT:Tryz.prog.underlying 133=some (.struct (Tryz.prog.fieldsOf 133)):=aj
theorem atU:(Tryz.prog.info? 133).map (·.size)=some 2:=aj
theorem atV (q:Option Addr) (c:Nat) (L:List Wr) (w:World) (hs:iC w q L) (hl:L.length<=1000):
 Calls Tryz.prog 99 #[.slice q L.length c] w fun e w'=>Ext w w'/\∃U R,e=.returned (.slice U L.length R)/\w'.ownsRow w.heap.size 133 2 (.slice U L.length R) L.length (ck (dB L)):=by
 have Hs:=ag hs;have H0:=ag (World.ownsRow_made (base:=w.heap.size) (e:=133) (size:=2) w #[] 0 (aH _) aq av);have hx:=Ext.alloc w (.cells #[] 133);clear hs;go_enter Tryz.func99,Tryz.ntmps99;go_upto_region 3 with(fail);go_loopw[3,4] (fun ov iv wr=>∃i g E:Nat,i<=L.length/\iv=.int .i64 i/\ov=.slice (some ⟨g,0,none⟩) i E/\Ext w wr/\wr.ownsRow w.heap.size 133 2 (.slice (some ⟨g,0,none⟩) i E) i (ck (dB (L.take i)))) (fun _ iv _=>L.length-(intOf iv).toNat)
 case atStart=>exact⟨0,w.heap.size,0,bL _,rfl,rfl,hx,H0.out⟩
 case round=>
  obtain⟨i,g,E,hi,rfl,rfl,hx,T⟩:=hrel;by_cases z:i<L.length
  ·have gB:(i:Int)<L.length:=af;obtain⟨b,G,rfl,hb,hc⟩:=Hs.out.at i z;have M:=fM hb hx.size;have hcP:wr.cell? ⟨b,G+i*2,none⟩=some (.int .i64 (eM L i).1):=(hx.cell b _ hb).trans (hc i z).1;have HI:=ag (atQ z);have hSl:(dB (L.take i)).length=i:=by rw[xK,gF];omega
   obtain⟨hCs,hca,hcm⟩:=gh T;have V:=ag hb;have X:=ag (show w.cell? ⟨b,G+i*2,none⟩=some (.int .i64 (eM L i).1)/\w.cell? ⟨b,G+i*2+1,none⟩=some (.string ⟨(eM L i).2.toArray⟩) from hc i z);generalize dB (L.take i)=S at *;generalize eM L i=x at *;obtain⟨D,xs⟩:=x;have Hx:=ag hx;have Ho:=ag T;have HC:=ag hCs;have Z:=ag z;clear hx T hCs hc hb;go_upto_region 6 with(fail);generalize TN:wr=wo at *;go_loopw[5] (fun kv wv=>Ext wo wv/\∃k:Nat,k<=i/\kv=.int .i64 k/\Hid (∀j,j<k->(eM S j).1<D)) (fun kv _=>i-(intOf kv).toNat)
   case atStart=>exact⟨Ext.refl _,0,bL _,rfl,ag (fun j hj=>af)⟩
   case round=>
    obtain⟨d,k,hk,rfl,Hk⟩:=hrel;have l:=ag d;have atX:=(d.cell b _ M).trans hcP;have Ny:=fM M d.size;have f:k<i->wr.cell? ⟨g,k*2,none⟩=some (.int .i64 (eM S k).1)/\g<wr.heap.size:=fun n=>by
     obtain⟨b1,o1,hq,_,iz⟩:=HC.out.at (k*2) (by rw[rP];omega);cases hq
     have:=iz (k*2) (by rw[rP];omega);rw[nB] at this;have h2:=World.block_lt_of_cell? _ _ this;refine⟨?_,fM h2 d.size⟩;rw[d.cell g _ h2,this];simp only[List.getD];rw[(L9 S k af).1];rfl
    clear d;by_cases t:k<i/\(eM S k).1<D
    ·obtain⟨n,hp⟩:=t;obtain⟨oz,hgl⟩:=f n;have m:(k:Int)<(i:Int):=af;have H:(k:Int)<E:=af;have mQ:=ag (show ∀j,j<k+1->(eM S j).1<D from fun j hj=>by
      by_cases e:j=k
      ·subst e;exact hp
      ·exact Hk.out j af)
     clear f;generalize(eM S k).1=y at *;go_upto_region 6 with(fail);go_quiet(fail);go_wp2_with fail;go_roundw
     case rel=>exact⟨l.out.trans Kb,k+1,af,bX,mQ⟩
     case measure=>exact ct
    ·have vS:=ag (N8 (x:=(D,xs)) (L:=S) (k:=k) af Hk.out (fun hk2 h3=>t ⟨af,h3⟩));by_cases n:k<i
     case' pos=>
      obtain⟨oz,hgl⟩:=f n;have m:(k:Int)<(i:Int):=af;have H:(k:Int)<E:=af;have hp':decide ((eM S k).1<D)=false:=aM (fun h3=>t ⟨n,h3⟩);clear f;generalize(eM S k).1=y at *;clear t;go_upto_region 6 with(fail);go_quiet(fail);clear hp' oz hgl m H
     case' neg=>
      have m:decide ((k:Int)<(i:Int))=false:=aM af;clear t f;go_upto_region 6 with(fail);go_quiet(fail);clear m
     all_goals
      clear n atX Ny;go_upto_region 8 with(fail);refine aR (fun W=>Ext wo W) (l.out.trans Kb) ?_;clear l;clear wr;intro wr d;have hSw:=ag (fun W (e:Ext wr W) (h0:0<i-k)=>show ∃ad,(some ⟨g,k*2,none⟩:Option Addr)=some ad/\∀j u,((ck S).drop (k*2))[j]? =some u->W.cell? (ad.add j)=some u from by
       have hd:=Cells.drop HC.out (k*2);rw[nB] at hd;refine zl (Cells.ext hd (d.trans e)) (fun e2=>?_);have:=gP List.length e2;rw[eU,rP] at this;simp at this;omega)
      have l:=ag d;clear d;have wV:(k:Int)<=E:=af;have hkc:k<=E:=af;have aAh:(k:Int)<=i:=af;have vN:(i:Int)<=E:=af;have Y:=ag (show((ck S).drop (k*2)).length=(i-k)*2 by rw[eU,rP,hSl];omega);go_upto_region 9 with(at_builtin;refine qE rfl fun _ hK=>?_;refine rN (.tmp 33) (.tmp 36) 95 133 rfl wr.heap.size (.agg #[.int .i64 0,.string ByteArray.empty]) 2 24 Tryz.underlying95 AJ rfl wr.heap.size rfl (ah.new wr _) (aH _) _ (i-k) _ ((ck S).drop (k*2)) rfl Y.out (fun h0=>by rw[aA af];exact hSw.out _ (Ext.alloc _ _) h0) af aq (Ext.alloc _ _).size ?_;intro v1 wa N r;refine hK _ _ ?_);all_goals
       obtain⟨q1,k1,rfl⟩:=cE N;have LP:=ag (((Hx.out.trans l.out).trans (Ext.alloc wr (.cells #[] 133))).trans r);have Dg:=ag N;have HO1:=ag (aO (afC Ho.out k af) ((l.out.trans (Ext.alloc wr (.cells #[] 133))).trans r));have hkX:k<=i:=hk;have Oa:wo.heap.size<=wr.heap.size:=l.out.size;clear N r hcP M;generalize hCe:wr.heap.size=C at *;have HCe:=ag hCe;clear hCe;refine Pre.kH 200 [(8,[(7,45)]),(10,[(7,45),(8,46)])] (LP.out) aj aj aj aj aj aj (atP _ _ _ 133 C (.slice q1 (i-k) k1) (i-k) ((ck S).drop (k*2))) (atS (S:=fun W=>W.ownsRow w.heap.size 133 2 (.slice (some ⟨g,0,none⟩) k E) k ((ck S).take (k*2))) aj (fun _ _ e h=>aO h e)) (fun p hp=>⟨fun _=>HO1.out,Dg.out⟩) ?_;simp only[cY,eF,gj,dV,dP,gC,dh,dQ];repeat (first
        | (refine Pre.dF (o:=⟨some 44,_,_,_,_,_⟩) (v:=.agg #[.int .i64 D,.string ⟨xs.toArray⟩]) (fun k v=>Pre.iF.is _ _ _ _ k v) aj aP ?_ ?_
           ·intro a' w' he0 hp hr K' hK;have vT:=hr 43 bO;exact Ke 133 atT atU (.tmp 43) rfl b (G+i*2) vT _ _ ((he0.cell b _ V.out).trans X.out.1) ((he0.cell b _ V.out).trans X.out.2) (hK _ (Ext.refl _))
           refine aE ?_)
        | (refine Pre.dY (o:=⟨some 45,_,_,_,_,_⟩) (dx 1 1 (.cells #[.int .i64 D,.string ⟨xs.toArray⟩] 133)) (dx.ay _ _ _) (fun x hx=>Ks) aj aP ?_ ?_
           ·intro a' w' he0 hp hr K' hK;exact Fa
           refine P7 ?_)
        | (refine Pre.iU (o:=⟨some 46,_,_,_,_,_⟩) (dJ 133 w.heap.size 2 (k+1) ((ck S).take (k*2)++[.int .i64 D,.string ⟨xs.toArray⟩])) (dJ.ay _ _ _ _ _) (fun x hx=>Ks) aj aP ?_ ?_
           ·intro a' w' he0 hp hr K' hK;have hw:=(hp 8 aj aj).1 rfl;have AK:=hr 40 gM;obtain⟨b9,I,Ry⟩:=hr 45 gM;refine wS (.tmp 40) (.tmp 45) 95 133 rfl w.heap.size (.agg #[.int .i64 0,.string ByteArray.empty]) 2 24 Tryz.underlying95 AJ rfl aq _ k ((ck S).take (k*2)) AK hw (some ⟨b9,0,none⟩) 1 1 [.int .i64 D,.string ⟨xs.toArray⟩] I rfl rfl (n8 (ys:=[.int .i64 D,.string ⟨xs.toArray⟩]) Ry) vO af aq he0.size ?_;intro v' w'' B F;obtain⟨U,R,rfl⟩:=cE B;exact hK _ _ ⟨Below.ij F hw (aH _) he0.size,fun _ h=>ajS h F (afC Ho.out k hkX) Oa⟩ ⟨U,R,rfl,B⟩ (EO _ _ _ _)
           refine P7 ?_)
        | (refine Pre.iU (o:=⟨some 48,_,_,_,_,_⟩) (dJ 133 w.heap.size 2 (k+1+(i-k)) ((ck S).take (k*2)++[.int .i64 D,.string ⟨xs.toArray⟩]++(ck S).drop (k*2))) (dJ.ay _ _ _ _ _) (fun x hx=>Ks) aj aP ?_ ?_
           ·intro a' w' he0 hp hr K' hK;have hw:=(hp 10 aj aj).2;obtain⟨q2,c2,J,jG⟩:=hr 46 gM;have EP:=hr 47 gM;refine LR (.tmp 46) (.tmp 47) rfl w.heap.size _ (k+1) _ J jG q1 (i-k) k1 ((ck S).drop (k*2)) EP Y.out (gh hw).1 (fun u hu=>LS S u (uh hu)) af he0.size ?_;intro v' w'' B F;obtain⟨U,R,rfl⟩:=cE B;exact hK _ _ ⟨Below.ij F jG (aH _) he0.size,fun e=>absurd e aq⟩ ⟨U,R,rfl,B⟩ (EO _ _ _ _)
           refine P7 ?_)
        | (refine Pre.pG _ _ aj aP lz rfl JN (by first | exact Pre.iF.is _ _ _ _ _ _ | exact(fun x hx=>Ks)) ?_
           simp only[bZ,bG,bN,qt,qu])
        | (refine E5 ?_))
       intro w2 r;simp only[iJ,iQ,jS,kW,bG,bN];repeat (first | with_reducible refine cH _ _ _ _ ?_ | (with_reducible refine cI _ _ _ _ ?_;intro _ _) | with_reducible refine cJ _ _ ?_)
       simp only[cF,cK,bQ,bE];rename_i x3 h3 Xf I x46 J x48 h48;obtain⟨q8,k8,rfl,O⟩:=h3;clear I J h48;obtain⟨n9,rZ⟩:∃n9,n9=k+1+(i-k):=⟨_,rfl⟩;rw[<-rZ] at O⊢;obtain rfl:n9=i+1:=af;obtain⟨g8,_,rfl,wm,_⟩:=jM O af;go_wp2_with fail;go_roundw
       case rel=>exact⟨i+1,g8,k8,by have:=Z.out;omega,by go_num,rfl,r,by
        rw[HI.out,vS.out,EK,tN,RO,Ve];simpa using O⟩
       case measure=>have:=Z.out;simp[intOf];omega
  ·have gB:decide ((i:Int)<L.length)=false:=aM af;obtain rfl:i=L.length:=af;rw[rT] at T;have Ho:=ag (And.intro hx T);clear T hx;go_wp2_with fail;go_ret;exact⟨Ho.out.1,_,_,rfl,Ho.out.2⟩
end Go.Proofs.YteninnkbmoimgaaGreatDoor
namespace aD
end aD
namespace Go.Proofs.YteninnkbmoimgaaGreatDoor
open Go.RowKit aD
def cD (c:eZ):Array Value:=#[.string ⟨c.key.toArray⟩,.bool c.back,.bool c.used,.bool c.done]
def mX:Array Value:=#[.string ⟨#[]⟩,.bool false,.bool false,.bool false]
theorem nS:Tryz.prog.underlying 26=some (.struct (Tryz.prog.fieldsOf 26)):=aj
theorem kE:(Tryz.prog.info? 26).map (·.size)=some 4:=aj
theorem uS (c:eZ):(cD c).all (·.oneCell')=true:=by simp[cD,Value.oneCell']
end Go.Proofs.YteninnkbmoimgaaGreatDoor

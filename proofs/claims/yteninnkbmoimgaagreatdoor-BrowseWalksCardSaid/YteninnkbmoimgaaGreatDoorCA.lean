/- A part of the proof. -/
import Derived.Test.YteninnkbmoimgaaGreatDoorAC
import Derived.Maps.StringElems
set_option linter.unusedSimpArgs false
set_option linter.unusedVariables false
set_option maxRecDepth 100000
set_option maxHeartbeats 16000000
namespace aD
open Go Go.RowKit
structure L5 (P:Program) (t k e:TypeId) (κ ε:Type) where
 kl:κ->Lit
 kv:κ->Value
 L6:κ->Prop
 el:ε->Lit
 ev:ε->Value
 L7:ε->Prop
 ez:ε
 inj:∀x y,kl x=kl y->x=y
 isKey:∀x,WideAt.IsKeyLit (kl x)
 keyed:Maps.Keyed P k
 keyOf:∀x,L6 x->Go.keyOf P k (kv x)=some (kl x)
 map:P.underlying t=some (.map k e)
 zero:∀w,(zeroValue e).run P w=.ok (ev ez) w
 enc:∀x,L7 x->plainElem (H:=Unit) P e (ev x)=some (.lit (el x),[])
 Xm:L7 ez
 dec:∀v z,plainElem (H:=Unit) P e v=some z->∃x,v=ev x/\z=(.lit (el x),[])
 aba:∀x y,el x=el y->x=y
def sZ {κ ε:Type} [DecidableEq κ] (g:κ->Option ε) (x:κ) (v:Option ε):κ->Option ε:=fun y=>if y=x then v else g y
section
variable {P:Program} {t k e:TypeId} {κ ε:Type} (M:L5 P t k e κ ε)
theorem L8 [DecidableEq κ] (g:κ->Option ε) (x:κ) (v:Option ε):sZ g x v x=v:=by simp[sZ]
structure uo (D:DataW Unit) (g:κ->Option ε) (sz:Nat):Prop where
 tidy:Maps.Tidy D
 has:∀x,Maps.has D (M.kl x)=(g x).isSome
 RN:∀x,D.atKey (M.kl x) (.lit (M.el M.ez))=.lit (M.el ((g x).getD M.ez))
 size:Maps.size D=sz
theorem L5.ne {x y:κ} (h:y≠x):M.kl y≠M.kl x:=fun e=>h (M.inj _ _ e)
theorem uo.made:uo M (.map []) (fun _=>none) 0:=⟨Maps.tidy_empty,fun _=>rfl,fun _=>rfl,rfl⟩
theorem uo.put [DecidableEq κ] {D:DataW Unit} {g:κ->Option ε} {d:Nat} (h:uo M D g d) (x:κ) (r:ε):uo M (D.put (M.kl x) (.lit (M.el r))) (sZ g x (some r)) (if(g x).isSome then d else d+1):=by
 refine⟨h.tidy.put (M.isKey x) _,fun y=>?_,fun y=>?_,?_⟩
 ·by_cases b:y=x
  ·subst b;rw[Maps.has_put_same h.tidy.isMap (M.isKey _),L8];rfl
  ·rw[Maps.has_put_other (M.ne b),h.has];simp[sZ,b]
 ·by_cases b:y=x
  ·subst b;rw[Maps.atKey_put_same h.tidy.isMap (M.isKey _),L8];rfl
  ·rw[Maps.atKey_put_other (M.ne b),h.RN];simp[sZ,b]
 ·rw[Maps.size_put h.tidy,h.has,h.size]
theorem uo.del [DecidableEq κ] {D:DataW Unit} {g:κ->Option ε} {d:Nat} (h:uo M D g d) (x:κ):uo M (D.del (M.kl x)) (sZ g x none) (d-if(g x).isSome then 1 else 0):=by
 refine⟨h.tidy.del _,fun y=>?_,fun y=>?_,?_⟩
 ·by_cases b:y=x
  ·subst b;rw[Maps.has_del_same,L8];rfl
  ·rw[Maps.has_del_other (M.ne b),h.has];simp[sZ,b]
 ·by_cases b:y=x
  ·subst b;rw[Maps.atKey_del_same,L8];rfl
  ·rw[Maps.atKey_del_other (M.ne b),h.RN];simp[sZ,b]
 ·have:=Maps.size_del (k:=M.kl x) h.tidy;rw[h.has,h.size] at this;omega
def j6 (w:World) (b n:Nat) (g:κ->Option ε) (d:Nat):Prop:=∃D:DataW Unit,w.ownsMap P k (plainElem P e) b n D/\uo M D g d
variable {w w':World} {mb n:Nat} {g:κ->Option ε} {sz:Nat}
theorem j6.made (w:World):j6 M (w.alloc (.map #[] 0)) w.heap.size 0 (fun _=>none) 0:=⟨_,World.ownsMap_made w P k _,uo.made M⟩
variable {M}
theorem j6.lt (h:j6 M w mb n g sz):mb<w.heap.size:=by obtain⟨D,h,_⟩:=h;exact h.lt
theorem j6.heap (h:j6 M w mb n g sz) (f:w'.heap[mb]? =w.heap[mb]?):j6 M w' mb n g sz:=by
 obtain⟨D,⟨es,b,d,r⟩,i⟩:=h;exact⟨D,⟨es,b,f.trans d,r⟩,i⟩
theorem j6.ext (h:j6 M w mb n g sz) (c:Ext w w'):j6 M w' mb n g sz:=h.heap (c.block mb h.lt)
theorem j6.wZ {b:Nat} (h:j6 M w mb n g sz) (c:aI b w w') (d:mb≠b):j6 M w' mb n g sz:=h.heap (c.block mb d)
theorem j6.mono (h:j6 M w mb n g sz) {b:Nat} (d:n<=b):j6 M w mb b g sz:=by obtain⟨D,h,f⟩:=h;exact⟨D,h.mono d,f⟩
theorem amI (h:w.mapTurned w' mb):aI mb w w':=by
 obtain⟨es,d,f,b,j,rfl⟩:=h;exact⟨rfl,rfl,rfl,by simp[Go.ChangeMaps.setBlock],fun i l=>Go.ChangeMaps.heap_setBlock_other j _ l⟩
variable {ops:Array Oper} {rest:List Oper} {o:Oper} {a:Act} {Q:Exit->Act->World->Prop}
theorem amJ {D:DataW Unit} (f:uo M D g sz) {y:κ} {v:Value} {j:List MemPlace} (i:plainElem P e v=some (D.atKey (M.kl y) (.lit (M.el M.ez)),j)):v=M.ev ((g y).getD M.ez):=by
 obtain⟨s,rfl,d⟩:=M.dec _ _ i;simp only[jZ] at d;have b:=d.1;rw[f.RN] at b;simp only[DataW.lit.injEq] at b;rw[M.aba _ _ b]
theorem amK (q:Region.wanted o (yielded ops a.tmps)=true) (m x:Operand) (i:o.op=Op.lookup t m x false) (r:a.eval m=.map (some mb)) (h:j6 M w mb n g sz) (y:κ) (B:a.eval x=M.kv y) (C:M.L6 y) (v:ε) (z:(g y).getD M.ez=v)
 (l:wpList P ops Q rest (a.put o.dst (M.ev v)) w):wpList P ops Q (o::rest) a w:=by
 obtain⟨D,d,u⟩:=h;obtain⟨G,F,b,j⟩:=d.lookup M.keyed M.map (M.zero w) (M.enc _ M.Xm) (M.keyOf _ C);rw[amJ u j,z] at b;refine BigFrame.wpList_want q fun E f=>?_;unfold Oper.wp;simp[execOp,i,r,B,b,Result.andThen];exact f _ _ l
theorem amL [DecidableEq κ] (l:o.guard=none) (m x v:Operand) (d:o.op=Op.mapUpdate t m x v) (q:a.eval m=.map (some mb)) (h:j6 M w mb n g sz) (u:n<maxLen) (y:κ) (E:a.eval x=M.kv y) (F:M.L6 y) (r:ε) (C:a.eval v=M.ev r) (z:M.L7 r)
 (j:∀w',j6 M w' mb (n+1) (sZ g y (some r)) (if(g y).isSome then sz else sz+1)->aI mb w w'->wpList P ops Q rest (a.put o.dst undef) w'):wpList P ops Q (o::rest) a w:=by
 obtain⟨D,b,B⟩:=h;refine wpList_mapUpdate_in w l m x v t d k e M.keyed M.map (plainElem P e) mb n D q b u _ _ _ E C (M.keyOf _ F) (.lit (M.el r)) [] (M.enc _ z) fun w' f i=>?_;exact j w' ⟨_,f,B.put M y r⟩ (amI i)
end
def amM {P:Program} {t k e:TypeId} (f:P.underlying k=some (.int .i64)) (i:P.underlying t=some (.map k e)) (d:P.underlying e=some .bool) (l:∀w,(zeroValue e).run P w=.ok (.bool false) w):L5 P t k e Int Bool where
 kl:=fun x=>.int .i64 x
 kv:=fun x=>.int .i64 x
 L6:=fun x=>(Lit.int .i64 x).wf=true
 el:=fun b=>.bool b
 ev:=fun b=>.bool b
 L7:=fun _=>True
 ez:=false
 inj:=fun x y h=>by injection h
 isKey:=fun x=>by trivial
 keyed:=Maps.int_keyed f
 keyOf:=fun x j=>Maps.keyOf_int_mk f j
 map:=i
 zero:=l
 enc:=fun x _=>plainElem_bool d x
 Xm:=trivial
 dec:=fun v z h=>by
  unfold plainElem at h;rw[d] at h;cases v<;>simp at h
  exact⟨_,rfl,h.symm⟩
 aba:=fun x y h=>by injection h
end aD
namespace aD
def fu (n:Nat):List UInt8:=[UInt8.ofNat (n%256),UInt8.ofNat (n/256%256),UInt8.ofNat (n/65536%256),UInt8.ofNat (n/65536/256%256)]
def j7:List UInt8->List aG->List UInt8
 | _,[]=>[]
 | b,x::L=>[UInt8.ofNat (eO b x.1),UInt8.ofNat (x.1.length-eO b x.1)]++x.1.drop (eO b x.1)++fu x.2.toNat++j7 x.1 L
def dG (n:Nd):List UInt8:=[UInt8.ofNat n.level.toNat]++fu n.next.toNat++[UInt8.ofNat n.ai.length]++j7 [] n.ai
theorem abb:∀(b:List UInt8) (L:List aG),(j7 b L).length=dZ b L
 | _,[]=>rfl
 | b,x::L=>by
   have:=abb x.1 L;simp only[j7,dZ,ew,gW,lC,eU,fu,this];omega
theorem PF (n:Nd):(dG n).length=6+dZ [] n.ai:=by
 unfold dG;simp only[ew,gW,lC,abb,fu]
end aD
namespace Go.Proofs.YteninnkbmoimgaaGreatDoor
open Go.RowKit aD
theorem abc (n:Nat) (j:n<=16777216) (w:World):
 Calls Tryz.prog 162 #[.int .i64 n] w fun e w'=>e=.returned (.string ⟨(fu n).toArray⟩)/\Ext w w':=by
 have d:=YA (n%256) (n/256%256) (n/65536%256) (n/65536/256%256) af af af af;simp only[Int.natCast_emod,Int.natCast_ediv,Int.cast_ofNat_Int] at d;have f:=Fe (P:=Tryz.prog) w 47 9 5 4 4 (fu n) 5 Tryz.underlying47 Tryz.underlying5 Tryz.underlying9 rfl;have b:fu n=[UInt8.ofNat (n%256),UInt8.ofNat (n/256%256),UInt8.ofNat (n/65536%256),UInt8.ofNat (n/65536/256%256)]:=rfl;rw[b,<-d,<-b] at f;clear d b;generalize fu n=i at *;go_enter Tryz.func162,Tryz.ntmps162;go_wp2;go_ret;exact⟨rfl,Ext.alloc _ _⟩
theorem amN (a b:List UInt8) (d:a.length<=maxLen) (w:World):Calls Tryz.prog 163 #[.string ⟨a.toArray⟩,.string ⟨b.toArray⟩] w fun e w'=>e=.returned (.int .i64 (eO a b:Nat))/\Ext w w':=by
 have f:maxLen=9223372036854775807:=rfl;go_enter Tryz.func163,Tryz.ntmps163;exact aaL
theorem Gl (q:Option Addr) (c:Nat) (n:Nd) (w:World) (h:iV w q n.ai) (hl:n.ai.length<=1000000):
 Calls Tryz.prog 126 #[dO n q c] w fun e w'=>e=.returned (.bool (eC n))/\Ext w w':=by
 have Hn:=ag h;clear h;unfold dO;have f:=ah.new w (.cells #[.int .i64 n.level,.int .i64 n.next,.slice q n.ai.length c] 106);by_cases hno:n.ai.length<1∨120<n.ai.length∨n.level<0∨6<n.level∨n.next<0∨16777216<n.next
 ·have HR:=ag (aaY hno);by_cases a1:n.ai.length<1
  ·have V:decide ((n.ai.length:Int)<1)=true:=bM af;exact De
  ·have V:decide ((n.ai.length:Int)<1)=false:=aM af;by_cases a2:120<n.ai.length
   ·have X:decide (120<(n.ai.length:Int))=true:=bM af;exact De
   ·have X:decide (120<(n.ai.length:Int))=false:=aM af;by_cases a3:n.level<0
    ·have i3:decide (n.level<0)=true:=bM a3;exact De
    ·have i3:decide (n.level<0)=false:=aM a3;by_cases a4:6<n.level
     ·have i4:decide (6<n.level)=true:=bM a4;exact De
     ·have i4:decide (6<n.level)=false:=aM a4;by_cases a5:n.next<0
      ·have i5:decide (n.next<0)=true:=bM a5;exact De
      ·have i5:decide (n.next<0)=false:=aM a5;have i6:decide (16777216<n.next)=true:=bM af;exact De
 ·have HR:=ag (aaZ hno);have V:decide ((n.ai.length:Int)<1)=false:=aM af;have X:decide (120<(n.ai.length:Int))=false:=aM af;have i3:decide (n.level<0)=false:=aM af;have i4:decide (6<n.level)=false:=aM af;have i5:decide (n.next<0)=false:=aM af;have i6:decide (16777216<n.next)=false:=aM af;have O:1<=n.ai.length/\n.ai.length<=120:=af;obtain⟨hl1,hl2⟩:=O;rw[HR.out];clear hno HR f hl;generalize n.ai=L at *;generalize n.level=lv at *;generalize n.next=nx at *;go_enter Tryz.func126,Tryz.ntmps126;go_upto_region 1 with(fail);refine aR (fun Z=>Ext w Z/\ah Z w.heap.size (.cells #[.int .i64 lv,.int .i64 nx,.slice q L.length c] 106)) ⟨Ext.alloc _ _,ah.new w _⟩ ?_;rintro Z ⟨he0,f⟩;have c0:=ah.val f 0 _ rfl;have c1:=ah.val f 1 _ rfl;have c2:=ah.val f 2 _ rfl;have l:=ah.lt f;have Gm:=ag (Hn.out.ext he0);clear f;go_wp2_with fail;go_loopw[3] (fun i wr=>∃(k:Nat) (b:List UInt8),k<=L.length/\i=.int .i64 k/\b=(if k=0 then[] else(au L (k-1)).1)/\cR [] L=cR b (L.drop k)/\Ext Z wr) (fun i _=>L.length-(intOf i).toNat)
  case atStart=>exact⟨0,[],bL _,rfl,rfl,rfl,Ext.refl _⟩
  case round=>
   obtain⟨k,b,hk,rfl,F,K,j⟩:=hrel;have jR:=ag K;have gZ:=ag j;have B:=ag F;clear K F;have d0:=Ext.cell j w.heap.size 0 l;have d1:=Ext.cell j w.heap.size 1 l;have d2:=Ext.cell j w.heap.size 2 l;rw[c0] at d0;rw[c1] at d1;rw[c2] at d2;have ayc:w.heap.size<wr.heap.size:=fM l j.size;by_cases y:k<L.length
   ·have R:(k:Int)<L.length:=af;obtain⟨g,off,rfl,hgb,r⟩:=(Gm.out.ext j).at k y;obtain⟨G,H⟩:=r k y;have HD:=ag (aaX (b:=b) y);have HP:=ag (fun(h:0<k)=>(r (k-1) af).1);have HX:=ag (show(au L k).1=(if k+1=0 then[] else(au L (k+1-1)).1) by simp);generalize au L k=x at *;obtain⟨bp,pg⟩:=x;simp only at G H HD HX;clear r j;by_cases U:pg<1
    ·have V:decide (pg<1)=true:=bM U;have hD:Hid (cR [] L=false):=ag (by rw[jR.out,HD.out];unfold gA;rw[aM (show ¬1<=pg by omega)];simp);clear U;exact FW
    ·have V:decide (pg<1)=false:=aM U;by_cases Y:16777216<pg
     ·have X:decide (16777216<pg)=true:=bM Y;have hD:Hid (cR [] L=false):=ag (by rw[jR.out,HD.out];unfold gA;rw[aM (show ¬pg<=16777216 by omega)];simp);clear U Y;exact FW
     ·have X:decide (16777216<pg)=false:=aM Y;have S:gA pg=true:=by unfold gA;rw[bM (show 1<=pg by omega),bM (show pg<=16777216 by omega)];rfl
      rw[S] at HD;clear S U Y;by_cases C:32<bp.length
      ·have i32:decide (32<(bp.length:Int))=true:=bM af;have hD:Hid (cR [] L=false):=ag XH;clear C;exact FW
      ·have i32:decide (32<(bp.length:Int))=false:=aM af;have T:decide (bp.length<=32)=true:=bM af;rw[T] at HD;clear T C;have I:(bp==[])=bp.isEmpty:=by cases bp<;>rfl
       have J:((k:Int)==(L.length:Int)-1)=decide (k+1=L.length):=by rw[uf];simp;omega
       by_cases d:bp.isEmpty=decide (k+1=L.length)
       ·cases hE:bp.isEmpty
        ·rw[hE] at I d HD;rw[<-d] at J HD;have u:k+1<L.length:=by have:=Gj d.symm;omega
         clear d;by_cases m:k=0
         ·have f:b=[]:=by rw[B.out,aC m]
          have hD:Hid (cR [] L=cR bp (L.drop (k+1))):=ag (by
           rw[jR.out,HD.out,f];cases bp with
           | nil=>cases hE
           | cons z zs=>simp[Go.Op.bytesLess])
          have N:¬0<k:=af;clear m f;exact aaR
         ·have N:0<k:=af;have yU:=HP.out af;have E:b=(au L (k-1)).1:=by rw[B.out,aA m]
          rw[<-E] at yU;clear E m;have hki:IntKind.i64.wrap ((k:Int)-1)=((k-1:Nat):Int):=pJ;cases qB:bl b bp
          ·have hD:Hid (cR [] L=false):=ag Kl;have D:Go.Op.bytesLess b bp=false:=qB;clear qB;go_upto_region 10 with(fail);go_quiet(fail);go_wp2;go_ret;exact⟨by rw[hD.out];rfl,he0.trans (gZ.out.trans ((Ext.alloc _ _).trans (Ext.drewN _ _)))⟩
          ·have hD:Hid (cR [] L=cR bp (L.drop (k+1))):=ag Kl;have D:Go.Op.bytesLess b bp=true:=qB;clear qB;exact aaR
        ·rw[hE] at I d HD;rw[<-d] at J HD;have u:k+1=L.length:=qG d.symm;have hD:Hid (cR [] L=cR bp (L.drop (k+1))):=ag (by rw[jR.out,HD.out];simp);have Xn:=ag u;clear d u;by_cases N:0<k;all_goals
          go_upto_region 10 with(fail);go_quiet(fail);go_wp2;go_roundw
          case rel=>exact⟨k+1,bp,af,bX,HX.out,hD.out,gZ.out.trans ((Ext.alloc _ _).trans (Ext.drewN _ _))⟩
          case measure=>exact ct
       ·have hD:Hid (cR [] L=false):=ag (by
         rw[jR.out,HD.out];cases h1:bp.isEmpty<;>cases h2:decide (k+1=L.length)<;>simp_all)
        have ayd:(bp.isEmpty !=decide (k+1=L.length))=true:=by simpa[bne] using d
        generalize bp.isEmpty=z1 at *;generalize decide (k+1=L.length)=z2 at *;cases z1<;>cases z2
        ·exact absurd rfl d
        ·exact FW
        ·exact FW
        ·exact absurd rfl d
   ·have R:decide ((k:Int)<L.length)=false:=aM af;have hD:Hid (cR [] L=true):=ag (by rw[jR.out,jI af];rfl);go_wp2;go_ret;exact⟨by rw[hD.out];rfl,he0.trans gZ.out⟩
end Go.Proofs.YteninnkbmoimgaaGreatDoor
namespace aD
open Go
abbrev Wr:=Int×List UInt8
def ck (L:List Wr):List Value:=L.flatMap fun x=>[.int .i64 x.1,.string ⟨x.2.toArray⟩]
theorem tN (x:Wr) (L:List Wr):ck (x::L)=.int .i64 x.1::.string ⟨x.2.toArray⟩::ck L:=rfl
theorem rP (L:List Wr):(ck L).length=L.length*2:=by
 induction L with
 | nil=>rfl
 | cons x L b=>rw[tN];simp[b];omega
theorem EK (A B:List Wr):ck (A++B)=ck A++ck B:=by simp[ck]
theorem abe (L:List Wr) (x:Wr):ck (L++[x])=ck L++[.int .i64 x.1,.string ⟨x.2.toArray⟩]:=by rw[EK];rfl
theorem LS (L:List Wr):∀u∈ck L,u.oneCell'=true:=by
 intro u b;simp only[ck,List.mem_flatMap] at b;obtain⟨x,_,b⟩:=b;simp only[fD,List.not_mem_nil,or_false] at b;rcases b with rfl | rfl<;>rfl
def eM (L:List Wr) (i:Nat):Wr:=L.getD i (0,[])
theorem amO (x:Wr) (L:List Wr) (i:Nat):eM (x::L) (i+1)=eM L i:=by simp[eM]
theorem L9:∀(L:List Wr) (i:Nat),i<L.length->(ck L)[i*2]? =some (.int .i64 (eM L i).1)/\(ck L)[i*2+1]? =some (.string ⟨(eM L i).2.toArray⟩)
 | [],i,h=>jQ
 | x::L,0,_=>by simp[tN,eM]
 | x::L,i+1,h=>by
   have b:=L9 L i nA;rw[tN,amO,show(i+1)*2=i*2+1+1 by omega,show i*2+1+1+1=(i*2+1)+1+1 by omega];simpa using b
theorem RO:∀(L:List Wr) (k:Nat),ck (L.take k)=(ck L).take (k*2)
 | [],k=>by simp[ck]
 | x::L,0=>by simp[ck]
 | x::L,k+1=>by rw[cY,tN,tN,RO L k,show(k+1)*2=k*2+1+1 by omega,cY,cY]
theorem abf:∀(L:List Wr) (i:Nat) (y:Wr),i<L.length->ck (L.set i y)=((ck L).set (i*2) (.int .i64 y.1)).set (i*2+1) (.string ⟨y.2.toArray⟩)
 | [],i,y,h=>jQ
 | x::L,0,y,_=>by simp[tN]
 | x::L,i+1,y,h=>by
   have b:=abf L i y nA;rw[bG,tN,tN,b,show(i+1)*2=i*2+1+1 by omega,show i*2+1+1+1=(i*2+1)+1+1 by omega];simp only[bG]
theorem abh {L:List Wr} {i:Nat} (h:i<L.length):eM L i=L[i]:=by simp[eM,List.getD,h]
def iW (size:Int) (n:Nd):List UInt8:=dG n++List.replicate (size.toNat-(dG n).length) 0
def ju (d:DS) (E:List aG) (V:List aB):List Wr:=(E.zip V).map fun x=>(x.1.2,iL d.interval x.2)
def Dk (d:DS) (E:List aG) (V:List aB) (b:Int):List Wr:=(ju d E V).filter fun x=>x.1==b
def j9 (d:DS) (a:Ar) (k:Nat):List Wr:=(List.range k).flatMap fun t:Nat=>Dk d a.nd.ai a.ak (a.base+1+(t:Int))
def fX (d:DS) (a:Ar):List Wr:=(a.base,iW d.interval a.nd)::j9 d a d.aN.toNat
theorem Gn (d:DS) (a:Ar) (k:Nat):j9 d a (k+1)=j9 d a k++Dk d a.nd.ai a.ak (a.base+1+(k:Int)):=by
 unfold j9;rw[L0,Gp];simp
theorem Gq {d:DS} {E:List aG} {V:List aB} (h:V.length=E.length):(ju d E V).length=E.length:=by simp[ju,h]
theorem abj {d:DS}:∀{E:List aG} {V:List aB},V.length=E.length->(ju d E V).map (·.1)=E.map (·.2)
 | [],_,_=>rfl
 | x::E,[],h=>jQ
 | x::E,L::V,h=>by
   have b:=abj (d:=d) (E:=E) (V:=V) nA;simp only[ju,List.zip_cons_cons,dh] at b⊢;rw[b]
theorem abk (d:DS) (E:List aG) (V:List aB) (b:Int):(Dk d E V b).Sublist (ju d E V):=List.filter_sublist
theorem abl:∀{L:List Wr} {p:Int},(L.map (·.1)).Nodup->(L.filter fun x=>x.1==p).Pairwise (fun x y=>x.1<y.1)
 | [],p,_=>av
 | x::L,p,h=>by
   rw[dh,ug] at h;rw[Ma];by_cases e:x.1=p
   ·rw[aC (by simp[e])];have:L.filter (fun y=>y.1==p)=[]:=by
     rw[List.filter_eq_nil_iff];intro y d b;exact h.1 (fT.2 ⟨y,d,by rw[e];simpa using b⟩)
    rw[this];simp
   ·rw[aA (by simp[e])];exact abl h.2
theorem RP {d:DS} {a:Ar} (i:((ju d a.nd.ai a.ak).map (·.1)).Nodup):∀k,(j9 d a k).Pairwise (fun x y=>x.1<y.1)/\∀x∈j9 d a k,a.base<x.1/\x.1<=a.base+(k:Int)
 | 0=>by simp[j9]
 | k+1=>by
   obtain⟨l,f⟩:=RP i k;have j:∀x∈Dk d a.nd.ai a.ak (a.base+1+(k:Int)),x.1=a.base+1+(k:Int):=fun x b=>by
    have:=(AQ.1 b).2;simpa using this
   rw[Gn];refine⟨mT.2 ⟨l,abl i,fun x b y m=>?_⟩,fun x b=>?_⟩
   ·have:=f x b;have:=j y m;omega
   ·rcases iG.1 b with b | b
    ·have:=f x b;push_cast;omega
    ·have:=j x b;push_cast;omega
theorem RQ {d:DS} {a:Ar} (x:Wr):∀k,x∈j9 d a k↔x∈ju d a.nd.ai a.ak/\a.base<x.1/\x.1<=a.base+(k:Int)
 | 0=>by simp[j9];try(intro _ _;omega)
 | k+1=>by
   rw[Gn,iG,RQ x k];unfold Dk;rw[AQ];simp only[jT];constructor
   ·rintro(⟨b,f,i⟩ | ⟨b,f⟩)
    ·exact⟨b,f,Cz⟩
    ·exact⟨b,af,Cz⟩
   ·rintro⟨b,f,i⟩
    push_cast at i
    by_cases e:x.1=a.base+1+(k:Int)
    ·exact .inr ⟨b,e⟩
    ·exact .inl ⟨b,f,af⟩
theorem RR {d:DS} {a:Ar} (h:fP d a):((ju d a.nd.ai a.ak).map (·.1)).Nodup/\∀x∈ju d a.nd.ai a.ak,a.base<x.1/\x.1<=a.base+d.aN:=by
 have f:=wG.1 h.pages;have b:=abj (d:=d) h.len;refine⟨by rw[b];exact f.2,fun x i=>?_⟩;have:x.1∈a.nd.ai.map (·.2):=by rw[<-b];exact List.mem_map_of_mem i
 obtain⟨y,j,e⟩:=fT.1 this;have:=f.1 y j;rw[<-e];exact this.2
def gQ (d:DS) (a:Ar):List Wr:=if dD d a=true then fX d a else[]
def sJ (d:DS) (a:Ar):Int:=if dD d a=true then 0 else 1
def mh (X Y:List Wr):List Wr:=Y.filter fun x=>!X.contains x
def fZ (d:DS) (a b:Ar):List Wr:=if dD d a=true/\dD d b=true then mh (fX d a) (fX d b) else[]
def rS (d:DS) (a b:Ar):Int:=if dD d a=true/\dD d b=true then 0 else 1
end aD

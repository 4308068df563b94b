/- A part of the proof. -/
import Derived.Test.YteninnkbmoimgaaGreatDoorBJ
import Derived.Lib.AppendStr
set_option linter.unusedSimpArgs false
set_option linter.unusedVariables false
set_option maxRecDepth 100000
set_option maxHeartbeats 16000000
namespace aD
open Go
def bC (l:List UInt8):List Value:=l.map fun x=>Value.int .u8 ((x.toNat:Nat):Int)
theorem Gz (a b:List UInt8):bC (a++b)=bC a++bC b:=by simp[bC]
theorem Mm (a:List UInt8):(bC a).length=a.length:=by simp[bC]
theorem abC (l:List UInt8):∀u∈bC l,u.oneCell'=true:=by
 intro u b;simp only[bC,fT] at b;obtain⟨_,_,rfl⟩:=b;rfl
theorem an3 (l:List UInt8):Lib.strCells ⟨l.toArray⟩=bC l:=by simp[Lib.strCells,bC]
end aD
namespace Go.Proofs.YteninnkbmoimgaaGreatDoor
open Go.RowKit aD
theorem Dx:(Tryz.prog.info? 5).map (fun i=>(i.zero,i.size,i.bytes))=some (some (.int .u8 0),1,1):=aj
theorem Dy {w:World} {b B n k:Nat} {E:TypeId} {xs:List Value} (h:ah w b (.cells xs.toArray E)) (e:B<=b) (d:xs.length=n*k) (f:n<=maxLen):w.ownsRow B E k (.slice (some ⟨b,0,none⟩) n n) n xs:=
 ⟨d,.inr ⟨b,n,xs.toArray,rfl,e,h,aH _,f,by simpa using d,by rw[mC (by simp[d])]⟩⟩
theorem yX (x:Nat) (h:x<256):(UInt8.ofNat x).toNat=x:=by rw[UInt8.toNat_ofNat'];exact rD h
theorem an4 (n:Nat) (g:n<=16777216):#[Value.int .u8 ((n:Int)%256),.int .u8 ((n:Int)/256%256),.int .u8 ((n:Int)/65536%256),.int .u8 ((n:Int)/16777216)]=(bC (fu n)).toArray:=by
 unfold bC fu;simp only[dh,dQ];rw[yX _ af,yX _ af,yX _ af,yX _ af];have b:((n%256:Nat):Int)=(n:Int)%256:=af;have d:((n/256%256:Nat):Int)=(n:Int)/256%256:=af;have e:((n/65536%256:Nat):Int)=(n:Int)/65536%256:=af;have f:((n/65536/256%256:Nat):Int)=(n:Int)/16777216:=af;rw[b,d,e,f]
theorem abD (n:Nat) (f:n<=16777216) (w:World):
 Calls Tryz.prog 171 #[.int .i64 n] w fun e w'=>∃b,e=.returned (.slice (some ⟨b,0,none⟩) 4 4)/\ah w' b (.cells (bC (fu n)).toArray 5)/\Ext w w'/\w.heap.size<=b:=by
 have d:=ag (an4 n f);go_enter Tryz.func171,Tryz.ntmps171;go_wp2;go_ret;exact⟨w.heap.size,rfl,by rw[<-d.out];exact ah.new w _,Ext.alloc _ _,aH _⟩
def dS (size:Int) (n:Nd):Int:=if(cQ size&&eC n)=false then 1 else if size<ja n then 8 else 0
def dH (size:Int) (n:Nd):List UInt8:=if dS size n=0 then iW size n else[]
theorem Dz {size:Int} {n:Nd} {c:Int} (h:dS size n=c) (b:c≠0):dH size n=[]:=by unfold dH;rw[h,aA b]
theorem Sl (size:Int) (q:Option Addr) (c:Nat) (n:Nd) (w:World) (h:iV w q n.ai) (T:n.ai.length<=1000000):
 Calls Tryz.prog 88 #[.int .i64 size,dO n q c] w fun e w'=>e=.returned (.tuple #[.string ⟨(dH size n).toArray⟩,.int .i64 (dS size n)])/\Ext w w':=by
 have j:=ag (fun W=>rG size W);have g:=ag (fun W (e:Ext w W)=>Gl q c n W (h.ext e) T);have hb:=ah.new w (.cells #[.int .i64 n.level,.int .i64 n.next,.slice q n.ai.length c] 106);have HR:Hid (dS size n=if(cQ size&&eC n)=false then 1 else if size<ja n then 8 else 0):=ag rfl;cases hz:cQ size
 ·rw[hz] at j HR;have HS:=ag (Dz (size:=size) (n:=n) (c:=1) nR aq);clear hz;unfold dO;go_enter Tryz.func88,Tryz.ntmps88;go_wp2_with(go_at_call 102;refine(j.out _).mono ?_;rintro e E ⟨rfl,rfl⟩);go_ret2;exact⟨xY,Ext.alloc _ _⟩
 ·rw[hz] at j HR;cases hv:eC n
  ·rw[hv] at g HR;have HS:=ag (Dz (size:=size) (n:=n) (c:=1) nR aq);clear hv hz;unfold dO at g⊢;go_enter Tryz.func88,Tryz.ntmps88;go_wp2_with(first
    | (go_at_call 102;refine(j.out _).mono ?_;rintro e E ⟨rfl,rfl⟩)
    | (refine O1 ?_)
    | (go_at_call 126;refine(g.out _ (Ext.alloc _ _)).mono ?_;rintro e J ⟨rfl,b⟩))
   go_ret2;exact⟨xY,(Ext.alloc _ _).trans b⟩
  ·have u:=ag (fun W (e:Ext w W)=>abE q c n W (h.ext e) hv);have y:Hid (ja n=(dG n).length):=ag PE;have V:128<=size/\size<=512:=by have:=oB hz;omega
   rw[hv] at g HR;rw[aA av,y.out] at HR;have z:Hid (iW size n=dG n++List.replicate (size.toNat-(dG n).length) 0):=ag rfl;clear hv hz;by_cases d:size<(dG n).length
   ·have HS:=ag (Dz (size:=size) (n:=n) (c:=8) (by rw[HR.out,aC d]) aq);rw[aC d] at HR;have O:decide (size<((dG n).length:Int))=true:=bM d;clear z y;generalize dG n=C at *;unfold dO at g u⊢;go_enter Tryz.func88,Tryz.ntmps88;go_wp2_with(first
     | (go_at_call 102;refine(j.out _).mono ?_;rintro e E ⟨rfl,rfl⟩)
     | (refine O1 ?_)
     | (go_at_call 126;refine(g.out _ (Ext.alloc _ _)).mono ?_;rintro e J ⟨rfl,b⟩;have hb2:=b.blk _ _ hb)
     | (refine WO ?_)
     | (go_at_call 127;refine(u.out _ ((Ext.alloc _ _).trans b)).mono ?_;rintro e F ⟨rfl,f⟩))
    go_ret2;exact⟨xY,((Ext.alloc _ _).trans b).trans f⟩
   ·rw[aA d] at HR;have HS:Hid (dH size n=dG n++List.replicate (size.toNat-(dG n).length) 0):=ag (by unfold dH;rw[HR.out,aC rfl,z.out]);have O:decide (size<((dG n).length:Int))=false:=aM d;obtain⟨c,H⟩:∃c:Nat,size=(((dG n).length+c:Nat):Int):=⟨(size-(dG n).length).toNat,af⟩;have l:size.toNat-(dG n).length=c:=af;rw[l] at HS;clear z y l d;generalize dG n=C at *;have M:size-(C.length:Int)=(c:Int):=af;have G:=ag H;clear H;unfold dO at g u⊢;have S:(C.length:Int)<=1000:=by have:=G.out;omega
    have D:(c:Int)<=1000:=by have:=G.out;omega
    go_enter Tryz.func88,Tryz.ntmps88;go_upto_region 6 with(first
     | (go_at_call 102;refine(j.out _).mono ?_;rintro e E ⟨rfl,rfl⟩)
     | (refine O1 ?_)
     | (go_at_call 126;refine(g.out _ (Ext.alloc _ _)).mono ?_;rintro e J ⟨rfl,b⟩;have hb2:=b.blk _ _ hb)
     | (refine WO ?_)
     | (go_at_call 127;refine(u.out _ ((Ext.alloc _ _).trans b)).mono ?_;rintro e F ⟨rfl,f⟩))
    obtain⟨X,I,m,r,t⟩:=lH Dx;have U:=Fg (P:=Tryz.prog) F 47 5 X c Tryz.underlying47 I m r t af;have N:=Fe (P:=Tryz.prog) F 47 9 5 c c (List.replicate c 0) 5 Tryz.underlying47 Tryz.underlying5 Tryz.underlying9 av;have i:(List.replicate c (0:UInt8)).length=c:=Aq;have L:((List.replicate c (0:UInt8)).length:Int)<=1000:=by rw[i];exact D
    have K:=ag i;have B:=ag (((Ext.alloc _ _).trans b).trans f);clear I m r t i hb2 f;generalize List.replicate c (0:UInt8)=R at *;go_wp2;go_ret2;exact⟨xY,B.out.trans (Ext.alloc _ _)⟩
end Go.Proofs.YteninnkbmoimgaaGreatDoor
namespace aD
theorem Sm {L:List aG} {k:Nat} (h:k<L.length):j7 (jB L k) (L.drop k)=[UInt8.ofNat (jo L k),UInt8.ofNat ((au L k).1.length-jo L k)]++(au L k).1.drop (jo L k)++fu (au L k).2.toNat++j7 (jB L (k+1)) (L.drop (k+1)):=by
 rw[abF h,Dj];have e:jB L (k+1)=(au L k).1:=by simp[jB]
 rw[e]
end aD
namespace Go.Proofs.YteninnkbmoimgaaGreatDoor
open Go.RowKit aD
theorem A1 {w w':World} {b B k n:Nat} {d:Array Value} {t E:TypeId} {v:Value} {xs:List Value} (h:ah w b (.cells d t)) (hne:t≠E) (o:w.ownsRow B E k v n xs) (m:w.grownBy w' v.ownBlock):ah w' b (.cells d t):=by
 refine ah.grown h m fun e=>?_;obtain⟨_,⟨rfl,_⟩ | ⟨g,f,i,rfl,_,l,_⟩⟩:=o
 ·cases e
 ·have j:g=b:=by simpa[Value.ownBlock] using e
  subst j;have:=(Eq.symm h).trans l;exact E0
theorem an5 (w:World) {B n:Nat} {v:Value} {xs:List Value} (b:w.ownsRow B 5 1 v n xs) (s:List UInt8) (t:n+s.length<=1000000) (o:B<=w.heap.size):
 ∃d w',(Builtin.append_ #[47,9] 47 #[v,.string ⟨s.toArray⟩]).run Tryz.prog w=.ok d w'/\w'.ownsRow B 5 1 d (n+s.length) (xs++bC s)/\w.grownBy w' v.ownBlock:=by
 obtain⟨r,q,f,g,i⟩:=lH Dx;have e:(⟨s.toArray⟩:ByteArray).size=s.length:=ES;obtain⟨d,w',l,j,m,_⟩:=Lib.run_append_own_string (P:=Tryz.prog) w B 47 9 47 5 r Tryz.underlying47 Tryz.underlying9 q f g i v n xs b ⟨s.toArray⟩ (by rw[e];unfold maxLen;omega) (by rw[e];omega) o;rw[e,an3] at j;exact⟨d,w',l,j,m⟩
theorem an6 (w:World) {B n b m:Nat} {v:Value} {xs:List Value} (d:w.ownsRow B 5 1 v n xs) {l:List UInt8} (y:ah w b (.cells (bC l).toArray 5)) (D:l.length=m) (F:n+m<=1000000) (t:B<=w.heap.size):
 ∃e w',(Builtin.append_ #[47,47] 47 #[v,.slice (some ⟨b,0,none⟩) m m]).run Tryz.prog w=.ok e w'/\w'.ownsRow B 5 1 e (n+m) (xs++bC l)/\w.grownBy w' v.ownBlock:=by
 obtain⟨E,z,f,g,i⟩:=lH Dx;obtain⟨e,w',o,q,r,_⟩:=run_append_own (P:=Tryz.prog) w B 47 47 5 E (.int .u8 0) 1 1 Tryz.underlying47 z f g i rfl aq v n xs d ⟨b,0,none⟩ m m (bC l) (by rw[Mm,D];omega) (fun j u C=>by rw[addr_add];exact ah.val y _ _ (by simpa using C)) (abC l) uM af t;exact⟨e,w',o,q,r⟩
theorem an7 {w:World} {B b d:Nat} {l:List UInt8} (h:w.ownsRow B 5 1 (.slice (some ⟨b,0,none⟩) l.length d) l.length (bC l)):(convert 47 9 (.slice (some ⟨b,0,none⟩) l.length d)).run Tryz.prog w=.ok (.string ⟨l.toArray⟩) w:=by
 refine Fb w _ _ 5 b 0 d l Tryz.underlying47 Tryz.underlying5 Tryz.underlying9 fun i g=>?_;obtain⟨q,c,f,e,_⟩:=CK h;simp only[Value.slice.injEq] at f;obtain⟨rfl,_⟩:=f;rcases e with e | ⟨j,m,f,_,e⟩
 ·have:=gP List.length e;rw[Mm] at this;simp at this;subst this;simp at g
 ·simp only[mz,Addr.mk.injEq,kD] at f;obtain⟨rfl,rfl⟩:=f;rw[e i (by rw[Mm];exact g)];simp[bC,aL,List.getD,g]
theorem an8 (size:Int) (q:Option Addr) (c:Nat) (n:Nd) (w:World) (h:iV w q n.ai) (hl:n.ai.length<=1000000):
 Calls Tryz.prog 152 #[.int .i64 size,dO n q c] w fun e w'=>e=.returned (.tuple #[.string ⟨(dH size n).toArray⟩,.int .i64 (dS size n)])/\Ext w w':=by
 have HZ:=ag (fun W=>RK size W);have V:=ag (fun W (e:Ext w W)=>RG q c n W (h.ext e) hl);have y:=ag (fun W (e:Ext w W)=>aa6 q c n W (h.ext e) hl);have hb:=ah.new w (.cells #[.int .i64 n.level,.int .i64 n.next,.slice q n.ai.length c] 106);have HR:Hid (dS size n=if(cQ size&&eC n)=false then 1 else if size<ja n then 8 else 0):=ag rfl;cases hz:cQ size
 ·rw[hz] at HZ HR;have HS:=ag (Dz (size:=size) (n:=n) (c:=1) nR aq);clear hz;unfold dO;go_enter Tryz.func152,Tryz.ntmps152;go_wp2_with(go_at_call 149;refine(HZ.out _).mono ?_;rintro e w1 ⟨rfl,rfl⟩);go_ret2;exact⟨xY,Ext.alloc _ _⟩
 ·rw[hz] at HZ HR;cases hv:eC n
  ·rw[hv] at V HR;have HS:=ag (Dz (size:=size) (n:=n) (c:=1) nR aq);clear hv hz;unfold dO at V⊢;go_enter Tryz.func152,Tryz.ntmps152;go_wp2_with(first
    | (go_at_call 149;refine(HZ.out _).mono ?_;rintro e w1 ⟨rfl,rfl⟩)
    | (refine O4 ?_)
    | (go_at_call 169;refine(V.out _ (Ext.alloc _ _)).mono ?_;rintro e w2 ⟨rfl,j⟩))
   go_ret2;exact⟨xY,(Ext.alloc _ _).trans j⟩
  ·have HL:Hid (ja n=(dG n).length):=ag PE;have hzz:128<=size/\size<=512:=by have:=oB hz;omega
   rw[hv] at V HR;rw[aA av,HL.out] at HR;rw[HL.out] at y;have HN:Hid (iW size n=dG n++List.replicate (size.toNat-(dG n).length) 0):=ag rfl;by_cases B:size<(dG n).length
   ·have HS:=ag (Dz (size:=size) (n:=n) (c:=8) (by rw[HR.out,aC B]) aq);rw[aC B] at HR;have hd:decide (size<((dG n).length:Int))=true:=bM B;clear HN HL hv hz B;generalize dG n=fm at *;unfold dO at V y⊢;go_enter Tryz.func152,Tryz.ntmps152;go_wp2_with(first
     | (go_at_call 149;refine(HZ.out _).mono ?_;rintro e w1 ⟨rfl,rfl⟩)
     | (refine O4 ?_)
     | (go_at_call 169;refine(V.out _ (Ext.alloc _ _)).mono ?_;rintro e w2 ⟨rfl,j⟩;have hb2:=j.blk _ _ hb)
     | (refine WQ ?_)
     | (go_at_call 170;refine(y.out _ ((Ext.alloc _ _).trans j)).mono ?_;rintro e w3 ⟨rfl,J⟩))
    go_ret2;exact⟨xY,((Ext.alloc _ _).trans j).trans J⟩
   ·rw[aA B] at HR;have HS:Hid (dH size n=dG n++List.replicate (size.toNat-(dG n).length) 0):=ag (by unfold dH;rw[HR.out,aC rfl,HN.out]);have hd:decide (size<((dG n).length:Int))=false:=aM B;obtain⟨cz,hc⟩:∃c:Nat,size=(((dG n).length+c:Nat):Int):=⟨(size-(dG n).length).toNat,af⟩;have Sn:size.toNat-(dG n).length=cz:=af;rw[Sn] at HS;have Y:=ia.1 hv;have hlv:n.level=(n.level.toNat:Int):=by have:=Y.v1;omega
    have lQ:n.next=(n.next.toNat:Int):=by have:=Y.x1;omega
    have F1:=ag (abD n.next.toNat (by have:=Y.x2;omega));have DA:n.level.toNat<=6:=by have:=Y.v2;omega
    have hl1:=Y.l1;have hl2:=Y.l2;have HF:Hid (dG n=[UInt8.ofNat n.level.toNat]++fu n.next.toNat++[UInt8.ofNat n.ai.length]++j7 [] n.ai):=ag rfl;have HE:Hid (∀k,k<n.ai.length->1<=(au n.ai k).2/\(au n.ai k).2<=16777216/\(au n.ai k).1.length<=32):=ag (Mn Y.ai);have Mo:=ag (fun W (e:Ext w W)=>aa2 q c n.ai W (h.ext e) hl (fun i=>by
     by_cases hi:i<n.ai.length
     ·exact fN (Mn Y.ai i hi).2.2 aq
     ·simp[au,List.getD,tL (show n.ai.length<=i by omega)]))
    have Hn:=ag h;have Hc:=ag hc;have hcl:(cz:Int)<=1000:=af;have hfl:(dG n).length<=1000:=af;unfold dO at V y⊢;clear HN HL Sn B Y hv hz hc h;rw[hlv,lQ] at V y hb⊢;clear hlv lQ;generalize n.level.toNat=lv at *;generalize n.next.toNat=nx at *;generalize dG n=fm at *;generalize n.ai=L at *;go_enter Tryz.func152,Tryz.ntmps152;go_upto_region 5 with(first
     | (go_at_call 149;refine(HZ.out _).mono ?_;rintro e w1 ⟨rfl,rfl⟩)
     | (refine O4 ?_)
     | (go_at_call 169;refine(V.out _ (Ext.alloc _ _)).mono ?_;rintro e w2 ⟨rfl,j⟩;have hb2:=j.blk _ _ hb)
     | (refine WQ ?_)
     | (go_at_call 170;refine(y.out _ ((Ext.alloc _ _).trans j)).mono ?_;rintro e w3 ⟨rfl,J⟩))
    refine aR (fun w4=>Ext w w4/\ah w4 w.heap.size (.cells #[.int .i64 lv,.int .i64 nx,.slice q L.length c] 106)) ⟨((Ext.alloc _ _).trans j).trans J,J.blk _ _ hb2⟩ ?_;clear V y hb j J hb2;rintro F ⟨rq,I⟩;have HX:=ag rq;have HB:=ag I;have hne:w.heap.size<F.heap.size:=ah.lt I;have c0:=ah.val I 0 _ rfl;have c1:=ah.val I 1 _ rfl;have W1:IntKind.u8.wrap (lv:Int)=lv:=IntWalk.u8_in _ af;clear rq I;refine eR 7 (Ext.refl F) aj aj aj ?_;refine gV ?_;repeat (first
     | (refine pI ?_)
     | (refine fR ?_)
     | (refine iq ?_)
     | (refine jh (o:=⟨some 27,_,_,_,_,_⟩) (dJ 5 F.heap.size 1 1 [.int .u8 (lv:Int)]) (dJ.ay _ _ _ _ _) rfl ?_ ?_
        ·intro a w' he hr K hK;simp[Reads,Oper.looksAt,Op.operands,Call.operands,aJ,Is] at hr;go_simp;exact hK _ _ (Ext.alloc _ _) ⟨_,_,rfl,Dy (xs:=[.int .u8 (lv:Int)]) (ah.new w' _) he.size rfl aq⟩
        refine aE ?_)
     | (refine jh (o:=⟨some 30,_,_,_,_,_⟩) (dx 4 4 (.cells (bC (fu nx)).toArray 5)) (dx.ay _ _ _) rfl ?_ ?_
        ·intro a w' he hr K hK;simp[Reads,Oper.looksAt,Op.operands,Call.operands,aJ,Is] at hr;go_simp;refine(F1.out _).mono ?_;rintro e w'' ⟨fb,rfl,l,rU,_⟩;exact hK _ _ rU ⟨fb,rfl,l⟩
        refine aE ?_)
     | (refine fk ?_))
    intro w2 j;repeat (first | with_reducible refine cH _ _ _ _ ?_ | (with_reducible refine cI _ _ _ _ ?_;intro _ _) | with_reducible refine cJ _ _ ?_)
    simp only[cF,cK,bQ,bE];rename_i x1 h1 x2 h2;obtain⟨q5,c5,rfl,jG⟩:=h1;obtain⟨fb,rfl,l⟩:=h2;have S:(fu nx).length=4:=rfl;go_upto_region 6 with(at_builtin;refine Qg (o:=⟨some 31,_,_,_,_,_⟩) rfl (.tmp 27) (.tmp 30) 47 5 rfl F.heap.size (.int .u8 0) 1 Tryz.underlying47 Dx rfl _ 1 _ rfl jG (some ⟨fb,0,none⟩) 4 4 (bC (fu nx)) rfl rfl (by rw[Mm,S]) (n8 l) (abC _) af aq j.size ?_;intro v5 w5 iX qV);have Z:=Ext.trans' j (Below.ij qV jG (aH _) j.size);have nJ:w5.ownsRow F.heap.size 5 1 v5 5 (bC ([UInt8.ofNat lv]++fu nx)):=by
     rw[Gz];have e:bC [UInt8.ofNat lv]=[.int .u8 (lv:Int)]:=by simp only[bC,dh,dQ];rw[yX _ af]
     rw[e];exact iX
    have Xp:=ag nJ;have GA:=ag Z;have k2:=ah.val (Z.blk _ _ HB.out) 2 _ rfl;have hlk:=ah.lt (Z.blk _ _ HB.out);have W2:IntKind.u8.wrap (L.length:Int)=L.length:=IntWalk.u8_in _ af;clear jG l j qV Z iX nJ c0 c1 W1 F1;go_upto_region 7 with(at_builtin;refine Qg (o:=⟨some 38,_,_,_,_,_⟩) rfl (.tmp 32) (.tmp 37) 47 5 rfl F.heap.size (.int .u8 0) 1 Tryz.underlying47 Dx rfl _ 5 _ rfl (aO Xp.out (Ext.alloc _ _)) (some ⟨w5.heap.size,0,none⟩) 1 1 [.int .u8 (L.length:Int)] rfl rfl rfl (n8 (ys:=[.int .u8 (L.length:Int)]) (ah.new w5 _)) nk af aq (fN GA.out.size (Ext.alloc _ _).size) ?_;intro v7 w7 xd Sq);have hxa:=GA.out.trans (Ext.alloc w5 (.cells [.int .u8 (L.length:Int)].toArray 5));have s9:=Ext.trans' hxa (Below.ij Sq (aO Xp.out (Ext.alloc _ _)) (aH _) hxa.size);have Ho7:Hid (w7.ownsRow F.heap.size 5 1 v7 6 (bC ([UInt8.ofNat lv]++fu nx++[UInt8.ofNat L.length]))):=ag (by
     rw[Gz ([UInt8.ofNat lv]++fu nx)];have e:bC [UInt8.ofNat L.length]=[.int .u8 (L.length:Int)]:=by simp only[bC,dh,dQ];rw[yX _ af]
     rw[e];exact xd)
    have Xq:=ag s9;have k2':=ah.val (s9.blk _ _ HB.out) 2 _ rfl;have aob:=ah.lt (s9.blk _ _ HB.out);clear hxa s9 xd Sq k2 hlk W2;have abI:=HX.out.trans Xq.out;go_upto_region 8 with(go_at_call 172;refine(Mo.out _ abI).mono ?_;rintro e w8 ⟨jC,fq,fc,rfl,m⟩);obtain⟨fg,cur,rfl,hfg,l,hfn,ayl,hfz,hft⟩:=jM m af;have vo:=ag (Xq.out.trans jC);have mA:=ag (aO Ho7.out jC);have Xr:=ag l;have Xs:Hid (∀W k,ah W fg (.cells cur 3)->k<L.length->W.cell? ⟨fg,k,none⟩=some (.int .i64 (jo L k:Nat))):=ag (fun W k hb hk=>by
     have h1:=Gk (n:=L.length) hb (by simpa using hft);have T:(cP (mg L L.length)).length=L.length:=by simp[cP,mg]
     rcases h1 with h1 | ⟨b',o',hq,_,hc⟩
     ·rw[h1] at T;simp only[lC] at T;omega
     ·simp only[mz,Addr.mk.injEq,kD] at hq;obtain⟨rfl,rfl⟩:=hq;have:=hc k (by rw[T];exact hk);rw[nB,aa5 hk] at this;exact this)
    clear jC m l hft abI k2' aob Mo;go_loopw[6,43] (fun b i wr=>∃(k:Nat) (o:List UInt8),k<=L.length/\i=.int .i64 k/\fm=o++j7 (jB L k) (L.drop k)/\o.length<=6+100*k/\wr.ownsRow F.heap.size 5 1 b o.length (bC o)/\Ext F wr/\ah wr fg (.cells cur 3)) (fun _ i _=>L.length-(intOf i).toNat)
    case atStart=>exact⟨0,[UInt8.ofNat lv]++fu nx++[UInt8.ofNat L.length],bL _,rfl,by rw[HF.out,dP];rfl,by simp[fu],by simpa[fu] using mA.out,vo.out,Xr.out⟩
    case round=>
     obtain⟨k,o,hk,rfl,hfm,hol,m,z,l⟩:=hrel;have Sr:=ag hfm;have H:=ag m;have gZ:=ag z;have abL:=ag l;clear hfm;by_cases t:k<L.length
     ·have gB:(k:Int)<L.length:=af;obtain⟨g,off,rfl,hgb,iz⟩:=(Hn.out.ext (HX.out.trans z)).at k t;have hgw:g<w.heap.size:=by
       obtain⟨g',off',U,O,_⟩:=Hn.out.at k t;simp only[mz,Addr.mk.injEq,kD] at U;rw[U.1];exact O
      obtain⟨RJ,Ss⟩:=iz k t;have HC:Hid (∀W,Ext F W->W.cell? ⟨w.heap.size,2,none⟩=some (.slice (some ⟨g,off,none⟩) L.length c)/\W.cell? ⟨g,off+k*2+1,none⟩=some (.int .i64 (au L k).2)/\w.heap.size<W.heap.size/\g<W.heap.size):=ag (fun W e=>by
       obtain⟨g',off',U,O,aoc⟩:=(Hn.out.ext (HX.out.trans e)).at k t;simp only[mz,Addr.mk.injEq,kD] at U;obtain⟨rfl,rfl⟩:=U;exact⟨ah.val (e.blk _ _ HB.out) 2 _ rfl,(aoc k t).2,ah.lt (e.blk _ _ HB.out),O⟩)
      have k2:=ah.val (z.blk _ _ HB.out) 2 _ rfl;have hlk:=ah.lt (z.blk _ _ HB.out);have hfv:=Xs.out _ k l t;have aoe:=ah.lt l;have HD:=ag (Sm t);obtain⟨p1,p2,p3⟩:=HE.out k t;have hfa:=RI L k;have hgl:g<wr.heap.size:=hgb;clear iz m z l;generalize au L k=x at *;obtain⟨d,pg⟩:=x;simp only at RJ Ss HD p1 p2 p3 hfa HC;generalize jo L k=f at *;obtain⟨pn,rfl⟩:=pN (show 0<=pg by omega);rw[jU] at HD;go_upto_region 11 with(fail);have V1:IntKind.u8.wrap (f:Int)=f:=IntWalk.u8_in _ af;have V3:IntKind.u8.wrap (((d.length-f:Nat):Int))=((d.length-f:Nat):Int):=IntWalk.u8_in _ af;have hkS:k<=120:=af;clear V3;go_upto_region 12 with(at_builtin;refine Qg (o:=⟨some 63,_,_,_,_,_⟩) rfl (.tmp 56) (.tmp 62) 47 5 rfl F.heap.size (.int .u8 0) 1 Tryz.underlying47 Dx rfl _ o.length _ rfl (aO H.out (Ext.alloc _ _)) (some ⟨wr.heap.size,0,none⟩) 2 2 [.int .u8 (f:Int),.int .u8 ((d.length-f:Nat):Int)] rfl rfl rfl (n8 (ys:=[.int .u8 (f:Int),.int .u8 ((d.length-f:Nat):Int)]) (ah.new wr _)) vO af aq (fN gZ.out.size (Ext.alloc _ _).size) ?_;intro v11 DB abM M);have oh:=aO H.out (Ext.alloc wr (.cells [.int .u8 (f:Int),.int .u8 ((d.length-f:Nat):Int)].toArray 5));have mG:=gZ.out.trans (Ext.alloc wr (.cells [.int .u8 (f:Int),.int .u8 ((d.length-f:Nat):Int)].toArray 5))
      have E:=ag (Ext.trans' mG (Below.ij M oh (aH _) mG.size));have aof:=ag (A1 (abL.out.alloc (.cells [.int .u8 (f:Int),.int .u8 ((d.length-f:Nat):Int)].toArray 5)) aq oh M);have G:Hid (DB.ownsRow F.heap.size 5 1 v11 (o.length+2) (bC (o++[UInt8.ofNat f,UInt8.ofNat (d.length-f)]))):=ag (by
       rw[Gz];have e:bC [UInt8.ofNat f,UInt8.ofNat (d.length-f)]=[.int .u8 (f:Int),.int .u8 ((d.length-f:Nat):Int)]:=by simp only[bC,dh,dQ];rw[yX _ af,yX _ af]
       rw[e];exact abM)
      have Xt:Hid (List.take (d.length-f) (List.drop f d)=List.drop f d):=ag (mC (by rw[eU];exact aH _));have hrl:(List.take (d.length-f) (List.drop f d)).length<=32:=by rw[Xt.out,eU];omega
      have F4:=ag (abD pn af);have S:Hid ((fu pn).length=4):=ag rfl;obtain⟨z1,z2,z3,z4⟩:=HC.out _ E.out;clear abM M oh mG RJ Ss k2 hlk hfv aoe hgl V1;generalize List.take (d.length-f) (List.drop f d)=rs at *;generalize jA:[UInt8.ofNat f,UInt8.ofNat (d.length-f)]=D at *;have abO:Hid (D.length=2):=ag (by rw[<-jA];rfl);clear jA;go_region_law(first
       | (obtain⟨v8,w8,A2,X,jN⟩:=an5 DB.drew (aO G.out (Ext.drew _)) rs af (fN E.out.size (Ext.drew _).size);refine Rt rfl (.tmp 64) (.tmp 65) _ _ rfl v11 _ rfl rfl A2 ?_;have vq:=Ext.trans' (E.out.trans (Ext.drew _)) (Below.ij jN (aO G.out (Ext.drew _)) (aH _) (fN E.out.size (Ext.drew _).size));obtain⟨y1,y2,y3,y4⟩:=HC.out _ vq)
       | (go_simp;go_at_call 171;refine(F4.out _).mono ?_;rintro e w12 ⟨fb2,rfl,abP,r,aoh⟩)
       | (obtain⟨v13,Mp,abQ,abR,N⟩:=an6 w12 (aO X r) abP S.out af (fN vq.size r.size);refine Rt rfl (.tmp 66) (.tmp 73) _ _ rfl _ _ rfl rfl abQ ?_))
      all_goals
       have C:=vq.trans r;have Hxe:=ag (Ext.trans' C (Below.ij N (aO X r) (aH _) C.size));have Hfe:=ag (A1 (r.blk _ _ (A1 ((Ext.drew DB).blk _ _ aof.out) aq (aO G.out (Ext.drew _)) jN)) aq (aO X r) N);have Hoe:Hid (Mp.ownsRow F.heap.size 5 1 v13 (o++D++rs++fu pn).length (bC (o++D++rs++fu pn))):=ag (by
        have e:(o++D++rs++fu pn).length=o.length+2+rs.length+4:=by simp only[ew,abO.out,S.out]
        rw[e,Gz,Gz (o++D)];exact abR)
       have abS:Hid (fm=(o++D++rs++fu pn)++j7 (jB L (k+1)) (L.drop (k+1))/\(o++D++rs++fu pn).length<=6+100*(k+1)):=ag ⟨by
        rw[Sr.out,HD.out,Xt.out];simp only[jk],by
        simp only[ew,abO.out,S.out];omega⟩
       clear A2 X jN vq y1 y2 y3 y4 abP r aoh abQ abR N C z1 z2 z3 z4;go_wp2_with fail;go_roundw
       case rel=>exact⟨k+1,_,af,bX,abS.out.1,abS.out.2,Hoe.out,Hxe.out,Hfe.out⟩
       case measure=>exact ct
     ·have gB:decide ((k:Int)<L.length)=false:=aM af;have St:Hid (fm=o):=ag (by rw[Sr.out,jI af];simp[j7]);have hoe:o=fm:=St.out.symm;subst hoe;have hpos:0<o.length:=by rw[HF.out];simp
      obtain⟨qb,cb,rfl⟩:=cE m;obtain⟨gb,ayp,rfl,_,_,_,_,_,_⟩:=jM m hpos;have hcS:size-(o.length:Int)=(cz:Int):=by have:=Hc.out;omega
      have hsum:(List.replicate cz (0:UInt8)).length<=1000:=by rw[Aq];omega
      have FX:=ag (fun W=>amU cz af W);have HxF:=ag (HX.out.trans z);clear m z l Xr abL Xs HE HF hpos Sr;generalize List.replicate cz (0:UInt8)=R at *;go_upto_region 14 with(fail);refine eR 200 (Ext.refl wr) aj aj aj ?_;refine gV ?_;repeat (first
       | (refine pI ?_)
       | (refine fR ?_)
       | (refine iq ?_)
       | (refine bT (o:=⟨some 77,_,_,_,_,_⟩) (v:=.string ⟨o.toArray⟩) rfl ?_ ?_
          ·intro a w' he hr K hK;simp[Reads,Oper.looksAt,Op.operands,Call.operands,aJ,Is] at hr;have aoo:=an7 (aO H.out he);exact yo
          refine aE ?_)
       | (refine bT (o:=⟨some 82,_,_,_,_,_⟩) (v:=.string ⟨R.toArray⟩) rfl ?_ ?_
          ·intro a w' he hr K hK;simp[Reads,Oper.looksAt,Op.operands,Call.operands,aJ,Is] at hr;go_simp;refine(FX.out _).mono ?_;exact kg
          refine aE ?_)
       | (refine fk ?_))
      intro w2 j;repeat (first | with_reducible refine cH _ _ _ _ ?_ | (with_reducible refine cI _ _ _ _ ?_;intro _ _) | with_reducible refine cJ _ _ ?_)
      simp only[cF,cK,bQ,bE];have HxG:=ag (HxF.out.trans j);clear j;go_wp2;go_ret2;exact⟨xY,HxG.out⟩
end Go.Proofs.YteninnkbmoimgaaGreatDoor

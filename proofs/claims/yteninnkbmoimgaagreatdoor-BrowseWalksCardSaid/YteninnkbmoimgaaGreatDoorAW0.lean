/- A part of the proof. -/
import Derived.Test.YteninnkbmoimgaaGreatDoorDD
set_option linter.unusedSimpArgs false
set_option linter.unusedVariables false
set_option maxRecDepth 100000
set_option maxHeartbeats 16000000
namespace Go.Proofs.YteninnkbmoimgaaGreatDoor
open Go.RowKit aD
theorem gh {w:World} {B:Nat} {e:TypeId} {k n c:Nat} {q:Option Addr} {xs:List Value} (h:w.ownsRow B e k (.slice q n c) n xs):Cells w q xs/\n<=c/\c<=maxLen:=by
 obtain⟨u,⟨b,o⟩ | ⟨m,d,f,b,r,g,i,j,t,l⟩⟩:=h
 ·cases b
  exact⟨.inl (gY af),aH _,aq⟩
 ·cases b
  exact⟨Gk g l,i,j⟩
theorem cX.aov {w:World} {B:Nat} {a:Ar} {q:Option Addr} {c:Nat} {p:Option Addr} {m:Nat} {vs:List Value} (b:w.ownsRow B 142 2 (.slice q a.nd.ai.length c) a.nd.ai.length (aV a.nd.ai))
 (d:w.ownsRow B 31 1 (.slice p a.ak.length m) a.ak.length vs) (e:nI w B vs a.ak):cX w a q c p m:=by
 obtain⟨f,g,r⟩:=gh b;obtain⟨j,l,n⟩:=gh d;exact⟨f,⟨vs,j,e.len,fun i o=>kX.oe (e.own i o)⟩,g,l,n,gL.oe b,gL.oe d⟩
def cA:Array Value:=#[.int .i64 0,.int .i64 0,.int .i64 0,.slice none 0 0,.slice none 0 0]
section
variable {w:World} {d:DS} {a:Ar} {q:Option Addr} {c:Nat} {p:Option Addr} {m:Nat} {q1:Option Addr} {c1:Nat} {q3:Option Addr} {c3:Nat} {xb:Nat} {vs:List Value} {w1 w2:World}
end
theorem nI.ext {w1 w2:World} {B:Nat} {vs:List Value} {V:List aB} (h:nI w1 B vs V) (e:Ext w1 w2):nI w2 B vs V:=⟨h.len,fun i b=>aO (h.own i b) e,h.apart⟩
theorem C3 (d:DS) (r:List UInt8):∀(L:aB),(cw d r L).length<=L.length+1
 | []=>by simp[cw]
 | s::L=>by
   have:=C3 d r L;rw[cw];split
   ·simp;omega
   ·split<;>simp
theorem ny:Tryz.prog.built 109 []=some cA:=aj
theorem Mr {d:DS} {a:Ar} (s:fP d a):a.nd.ai.length<=120/\a.ak.length<=120/\0<a.nd.ai.length/\0<a.ak.length/\∀i,(a.ak.getD i []).length<=1000000:=by
 have b:=(ia.1 s.node).l2;have e:=(ia.1 s.node).l1;have f:=s.len;refine⟨b,af,af,af,fun i=>?_⟩;exact OX
end Go.Proofs.YteninnkbmoimgaaGreatDoor
namespace aD
abbrev oL:=List UInt8×Bool
end aD
namespace Go.Proofs.YteninnkbmoimgaaGreatDoor
open Go.RowKit aD
def mH (w:World) (p:Option Addr) (L:List oL):Prop:=
 L=[]∨∃b e,p=some ⟨b,e,none⟩/\b<w.heap.size/\∀i,i<L.length->w.cell? ⟨b,e+i*2,none⟩=some (.string ⟨(L.getD i ([],false)).1.toArray⟩)/\w.cell? ⟨b,e+i*2+1,none⟩=some (.bool (L.getD i ([],false)).2)
theorem mH.ext {w w':World} {p:Option Addr} {L:List oL} (h:mH w p L) (e:Ext w w'):mH w' p L:=by
 exact Wt
theorem mH.at {w:World} {p:Option Addr} {L:List oL} (h:mH w p L) (k:Nat) (f:k<L.length):
 ∃b e,p=some ⟨b,e,none⟩/\b<w.heap.size/\∀i,i<L.length->w.cell? ⟨b,e+i*2,none⟩=some (.string ⟨(L.getD i ([],false)).1.toArray⟩)/\w.cell? ⟨b,e+i*2+1,none⟩=some (.bool (L.getD i ([],false)).2):=by
 rcases h with h | h
 ·subst h;simp at f
 ·exact h
def A3 (L:List oL) (most:Int):Bool:=L.all (fun x=>decide (x.1.length<=300))&&decide ((L.length:Int)<=most)
theorem aow (p:Option Addr) (c:Nat) (L:List oL) (most:Int) (w:World) (y:mH w p L) (G:L.length<=9223372036854775807):
 Calls Tryz.prog 16 #[.slice p L.length c,.int .i64 most] w fun e w'=>e=.returned (.bool (A3 L most))/\w'=w:=by
 have r:Hid (A3 L most=(L.all (fun x=>decide (x.1.length<=300))&&decide ((L.length:Int)<=most))):=ag rfl;have z:=ag y;clear y;go_enter Tryz.func16,Tryz.ntmps16;go_wp2_with fail;obtain⟨o,rfl⟩:∃o:World,o=w:=⟨_,rfl⟩;go_loopw[5] (fun i wr=>∃k:Nat,k<=L.length/\i=.int .i64 k/\Hid (L.all (fun x=>decide (x.1.length<=300))=(L.drop k).all (fun x=>decide (x.1.length<=300)))/\wr=o) (fun i _=>L.length-(intOf i).toNat)
 case atStart=>exact⟨0,bL _,rfl,ag rfl,rfl⟩
 case round=>
  obtain⟨k,F,rfl,f,rfl⟩:=hrel;by_cases g:k<L.length
  ·have j:(k:Int)<L.length:=af;obtain⟨b,D,rfl,E,t⟩:=z.out.at k g;obtain⟨B,_⟩:=t k g;have u:Hid ((L.drop k).all (fun x=>decide (x.1.length<=300))=(decide ((L.getD k ([],false)).1.length<=300)&&(L.drop (k+1)).all (fun x=>decide (x.1.length<=300)))):=ag (by
    rw[gz g,List.all_cons];simp[List.getD,g])
   generalize L.getD k ([],false)=x at *;clear t;by_cases n:x.1.length<=300
   ·have C:decide (300<(x.1.length:Int))=false:=aM af;have l:=ag (show L.all (fun x=>decide (x.1.length<=300))=(L.drop (k+1)).all (fun x=>decide (x.1.length<=300)) by rw[f.out,u.out,bM n,wC]);clear n;go_wp2;go_roundw
    case rel=>exact⟨k+1,af,bX,l,by trivial⟩
    case measure=>exact ct
   ·have C:decide (300<(x.1.length:Int))=true:=bM af;have l:=ag (show L.all (fun x=>decide (x.1.length<=300))=false by rw[f.out,u.out,aM n,Bool.false_and]);clear n;go_wp2;go_ret;exact⟨by rw[r.out,l.out];rfl,rfl⟩
  ·have j:decide ((k:Int)<L.length)=false:=aY;have l:=ag (show L.all (fun x=>decide (x.1.length<=300))=true by rw[f.out,jI af];rfl);go_wp2;go_ret;exact⟨by rw[r.out,l.out];rfl,rfl⟩
end Go.Proofs.YteninnkbmoimgaaGreatDoor
namespace aD
noncomputable def kK (M:List (List UInt8)) (size:Int):List aG->List aB->List aB×Int
 | [],V=>(V,0)
 | x::E,V=>if(aF M x.2).2≠0 then([],(aF M x.2).2) else match FG size (aF M x.2).1 with
   | none=>([],11)
   | some L=>kK M size E (V++[L])
theorem abZ {M:List (List UInt8)} {size:Int} {E:List aG} {V:List aB} {k:Nat} (hk:k<E.length) (h:(aF M (au E k).2).2≠0):kK M size (E.drop k) V=([],(aF M (au E k).2).2):=by
 rw[gz hk];have e:au E k=E[k]:=Co;rw[e] at h⊢;unfold kK;rw[aC h]
theorem ab0 {M:List (List UInt8)} {size:Int} {E:List aG} {V:List aB} {k:Nat} (hk:k<E.length) (h:(aF M (au E k).2).2=0) (b:∀L,¬eL size L (aF M (au E k).2).1):kK M size (E.drop k) V=([],11):=by
 rw[gz hk];have e:au E k=E[k]:=Co;rw[e] at h b;unfold kK;rw[aA (by simp[h]),akJ b]
theorem R9 {M:List (List UInt8)} {size:Int} {E:List aG} {V:List aB} {k:Nat} {L:aB} (hk:k<E.length) (h:(aF M (au E k).2).2=0) (b:eL size L (aF M (au E k).2).1):kK M size (E.drop k) V=kK M size (E.drop (k+1)) (V++[L]):=by
 rw[gz hk];have e:au E k=E[k]:=Co;rw[e] at h b
 conv=>lhs;unfold kK
 rw[aA (by simp[h]),O2 b]
theorem R8 {M:List (List UInt8)} {size:Int} {E:List aG} {V:List aB}:kK M size (E.drop E.length) V=(V,0):=by rw[KX];rfl
theorem ab1 (size:Int) (s:List UInt8):(dz size s).ai.length<=1000000:=by
 by_cases h:gH size s=0
 ·obtain⟨_,b,e⟩:=Su h;obtain⟨n,f,_,g,_⟩:=DD b;rw[e,g];have:=f.l2;omega
 ·unfold dz;rw[aA h];simp[Nd.zero]
noncomputable def jw (M:List (List UInt8)) (d:DS) (base:Int):Ar×Int:=
 if dA d=false∨eX base=false then(Ar.zero,1)
 else if(aF M base).2≠0 then(Ar.zero,(aF M base).2)
 else if gH d.interval (aF M base).1≠0∨rV d base (dz d.interval (aF M base).1)=false then(Ar.zero,11)
 else if(kK M d.interval (dz d.interval (aF M base).1).ai []).2≠0 then(Ar.zero,(kK M d.interval (dz d.interval (aF M base).1).ai []).2)
 else if dD d ⟨base,dz d.interval (aF M base).1,(kK M d.interval (dz d.interval (aF M base).1).ai []).1⟩=false then(Ar.zero,11)
 else(⟨base,dz d.interval (aF M base).1,(kK M d.interval (dz d.interval (aF M base).1).ai []).1⟩,0)
theorem Ms {M:List (List UInt8)} {d:DS} {base:Int} (h:dA d=false∨eX base=false):jw M d base=(Ar.zero,1):=by unfold jw;rw[aC h]
theorem ab2 {M:List (List UInt8)} {d:DS} {base:Int} (b:dA d=true) (e:eX base=true) (h:(aF M base).2≠0):jw M d base=(Ar.zero,(aF M base).2):=by
 unfold jw;rw[aA (by simp[b,e]),aC h]
theorem ab3 {M:List (List UInt8)} {d:DS} {base:Int} (b:dA d=true) (e:eX base=true) (f:(aF M base).2=0) (h:gH d.interval (aF M base).1≠0∨rV d base (dz d.interval (aF M base).1)=false):jw M d base=(Ar.zero,11):=by
 unfold jw;rw[aA (by simp[b,e]),aA (by simp[f]),aC h]
theorem Sc {M:List (List UInt8)} {d:DS} {base:Int} {n:Nd} (e:dA d=true) (f:eX base=true) (g:(aF M base).2=0) (i:gH d.interval (aF M base).1=0) (b:dz d.interval (aF M base).1=n) (j:rV d base n=true):
 jw M d base=if(kK M d.interval n.ai []).2≠0 then(Ar.zero,(kK M d.interval n.ai []).2) else if dD d ⟨base,n,(kK M d.interval n.ai []).1⟩=false then(Ar.zero,11) else(⟨base,n,(kK M d.interval n.ai []).1⟩,0):=by
 unfold jw;rw[aA (by simp[e,f]),aA (by simp[g]),aA (by rw[b];simp[i,j]),b]
end aD
namespace Go.Proofs.YteninnkbmoimgaaGreatDoor
open Go.RowKit aD
theorem aox (h:Hd) (d:DS) (w:World):
 Calls Tryz.prog 115 #[.agg (aK h),.agg (az d)] w fun e w'=>e=.returned (.bool (dA d&&decide (0<=h.fin)&&decide (h.fin<=16777152)))/\Ext w w':=by
 have l:=ag (fun W=>LJ d W);have n:=yL w h d;have HE:Hid (dA d=(cr d&&decide (d.org=3))):=ag rfl;have y:(d.org==3)=decide (d.org=3):=rfl;go_enter Tryz.func115,Tryz.ntmps115;go_upto_region 1 with(fail);refine aR (fun o=>Ext w o/\fG o w.heap.size h/\bI o (w.heap.size+1) d) n ?_;clear n;rintro o ⟨i,j,g⟩;cases hv:cr d
 ·rw[hv] at HE l;clear hv;go_wp2_with(first | (refine bu rfl (.tmp 3) rfl _ rfl d g ?_) | (go_at_call 48;refine(l.out _).mono ?_;rintro e w1 ⟨rfl,f⟩));go_ret;exact⟨vQ,i.trans f⟩
 ·rw[hv] at HE l;clear hv;go_upto_region 2 with(first | (refine bu rfl (.tmp 3) rfl _ rfl d g ?_) | (go_at_call 48;refine(l.out _).mono ?_;rintro e w1 ⟨rfl,f⟩;have c1:=ah.val (f.blk _ _ g) 1 _ rfl;have u:=ah.lt (f.blk _ _ g);have t:=ah.val (f.blk _ _ j) 2 _ rfl;have r:=ah.lt (f.blk _ _ j)));all_goals
   go_ret;refine⟨gP (fun b=>Ending.returned (Value.bool b)) ?_,i.trans f⟩;rw[HE.out];clear g j c1 t u r i f l HE
   first
    | (simp[*];done)
    | (simp[*];omega)
theorem Mt (h:Hd) (d:DS) (w:World):
 Calls Tryz.prog 64 #[.agg (aK h),.agg (az d)] w fun e w'=>e=.returned (.int .i64 (jg h d))/\Ext w w':=by
 have l:=ag (fun W=>Dp d W);have n:=yL w h d;have HE:Hid (jg h d=if dA d&&decide (1<=h.root)&&decide (h.root<=16777216)&&decide (0<=h.height)&&decide (h.height<=6)&&decide (0<=h.fin)&&decide (h.fin<=16777152) then 0 else 1):=ag rfl;go_enter Tryz.func64,Tryz.ntmps64;go_upto_region 1 with(fail);refine aR (fun o=>Ext w o/\fG o w.heap.size h/\bI o (w.heap.size+1) d) n ?_;clear n;rintro o ⟨j,g,i⟩;cases hv:dA d
 ·rw[hv] at HE l;clear hv;go_wp2_with(first | (refine bu rfl (.tmp 3) rfl _ rfl d i ?_) | (go_at_call 27;refine(l.out _).mono ?_;rintro e w1 ⟨rfl,f⟩));go_ret;exact⟨vQ,j.trans f⟩
 ·rw[hv] at HE l;clear hv;go_wp2_with(first | (refine bu rfl (.tmp 3) rfl _ rfl d i ?_) | (go_at_call 27;refine(l.out _).mono ?_;rintro e w1 ⟨rfl,f⟩;have t:=ah.val (f.blk _ _ g) 2 _ rfl;have c3:=ah.val (f.blk _ _ g) 3 _ rfl;have u:=ah.val (f.blk _ _ g) 4 _ rfl;have r:=ah.lt (f.blk _ _ g)));all_goals
   go_ret;refine⟨gP (fun b=>Ending.returned (Value.int .i64 b)) ?_,j.trans f⟩;rw[HE.out];clear i g t c3 u r j f l HE
   first
    | (simp[*];done)
    | (simp[*];omega)
theorem vV:Tryz.prog.underlying 156=some (.struct (Tryz.prog.fieldsOf 156)):=aj
theorem oq:(Tryz.prog.info? 156).map (·.size)=some 29:=aj
def bH (q:Value) (h:Hd) (d:DS):Array Value:=#[.iface 32 q,.int .i64 h.applied,.int .i64 h.count,.int .i64 h.fin,.int .i64 h.root,.int .i64 h.height,.int .i64 h.splits,.int .i64 h.kG,.int .i64 d.id,.int .i64 d.org,.int .i64 d.format,.int .i64 d.length,.int .i64 d.block,.int .i64 d.dm,.int .i64 d.bV,.int .i64 d.interval,.int .i64 d.aN,.int .i64 d.nF,.int .i64 d.mS,.int .i64 d.base,.int .i64 d.ZB,.int .i64 d.ZC,.bool d.unique,.int .i64 d.cls,.string ⟨d.ZE.toArray⟩,.string ⟨d.owner.toArray⟩,.int .i64 d.created,.int .i64 d.ZF,.bool d.ZG]
def mo (M:List (List UInt8)) (d:DS) (b level:Int) (w:World) (e:Ending) (w':World):Prop:=Ext w w'/\∃q c,e=.returned (.tuple #[.agg #[.int .i64 (bF M d b level).1.level,.int .i64 (bF M d b level).1.next,.slice q (bF M d b level).1.ai.length c],.int .i64 (bF M d b level).2])/\
 w'.ownsRow w.heap.size 142 2 (.slice q (bF M d b level).1.ai.length c) (bF M d b level).1.ai.length (aV (bF M d b level).1.ai)
theorem ab4 (p:Option Addr) (l n:Nat) (m:List (List UInt8)) (h:Hd) (d:DS) (b level:Int) (w:World) (hs:bk w p m) (hn:m.length=n) (hm:Small m):
 Calls Tryz.prog 147 #[.agg (bH (.slice p n l) h d),.int .i64 b,.int .i64 level] w (mo m d b level w):=by
 have I:=ag (fun w h=>LM p l n m b w h hn (by have:=hm.1;omega));have m6:=LN hm b;have t:=ag (fun W=>ab5 d.interval (aF m b).1 m6 W);have Hs:=ag hs;have hmp:=aaG;have j:=(Ext.alloc w (.cells (bH (.slice p n l) h d) 156)).trans (Ext.alloc _ (.cells #[.int .i64 0,.int .i64 0,.slice none 0 0] 106));have O:Hid (∀e w' c,bF m d b level=(Nd.zero,c)->(Ext w w'/\e=.returned (.tuple #[.agg #[.int .i64 0,.int .i64 0,.slice none 0 0],.int .i64 c]))->mo m d b level w e w'):=ag (fun e w' c hc ⟨h1,h2⟩=>by
  unfold mo;rw[hc];exact J0)
 clear hs;by_cases h1:(aF m b).2=0
 ·have HP:=ag h1;generalize T:(aF m b).2=ep at *;subst h1;cases hE:(decide (gH d.interval (aF m b).1=0))
  ·have u:gH d.interval (aF m b).1≠0:=Gj hE;have G:bF m d b level=(Nd.zero,11):=by
    unfold bF;rw[T,aA av,aC (.inl u)]
   have N:=ag (fun e w'=>O.out e w' 11 G);have Z:dz d.interval (aF m b).1=Nd.zero:=by unfold dz;rw[aA u]
   unfold lG at t;rw[Z] at t;clear O G Z hE;generalize gH d.interval (aF m b).1=de at *;have hdi:(de !=0)=true:=by simpa using u
   generalize(aF m b).1=s at *;generalize mo m d b level w=X at *;go_enter Tryz.func147,Tryz.ntmps147;go_upto_region 1 with(fail);refine aR (fun r=>Ext w r/\ah r w.heap.size (.cells (bH (.slice p n l) h d) 156)/\ah r (w.heap.size+1) (.cells #[.int .i64 0,.int .i64 0,.slice none 0 0] 106)) ⟨j,ah.alloc (ah.new w _) _,ah.new1 _ _ _ av⟩ ?_;clear j;rintro r ⟨f,i,V⟩;have c0:r.cell? ⟨w.heap.size,0,none⟩=some (.iface 32 (.slice p n l)):=ah.val i 0 _ rfl;have c15:r.cell? ⟨w.heap.size,15,none⟩=some (.int .i64 d.interval):=ah.val i 15 _ rfl;have l0:=ah.lt i;go_wp2_with(first
    | (go_at_call 66;refine(I.out _ (Hs.out.ext f)).mono ?_;rintro e w1 ⟨rfl,rfl⟩)
    | (go_at_call 120;refine(t.out _).mono ?_;rintro e w2 ⟨g,U,R,rfl,S⟩;have hz2:=g.blk _ _ V)
    | (refine aU rfl 106 (.tmp 10) (.tmp 28) rfl _ #[.int .i64 0,.int .i64 0,.slice U 0 R] rfl rfl _ _ (ah.new w2 _) bq rfl cT ?_;intro w3 B y;have E:=y.blk (ah.alloc hz2 _) Cr)
    | (refine J3 ?_)
    | (refine aU rfl 106 (.tmp 6) (.tmp 38) rfl _ #[.int .i64 0,.int .i64 0,.slice none 0 0] rfl rfl _ _ E bq rfl cT ?_;intro w6 C z))
   have J:=g.size;have H:=f.size;exact bY (dM Tryz.results147 _ _ _ _ _ _ rfl C cZ rfl bq) rfl (N.out _ _ ⟨z.ext (y.ext ((f.trans g).trans (Ext.alloc _ _)) af) af,rfl⟩)
  ·have u:gH d.interval (aF m b).1=0:=qG hE;have HE':=ag u;unfold lG at t;rw[u] at t;have K:Hid ((dz d.interval (aF m b).1).level≠level->bF m d b level=(Nd.zero,11)):=ag (fun hne=>by
    unfold bF;rw[T,aA av,aC (.inr hne)])
   have L:Hid ((dz d.interval (aF m b).1).level=level->bF m d b level=(dz d.interval (aF m b).1,0)):=ag (fun he=>by
    unfold bF;rw[T,aA av,aA (by rw[u,he];simp)])
   have M:Hid (∀e w' q c,(dz d.interval (aF m b).1).level=level->Ext w w'->e=.returned (.tuple #[.agg #[.int .i64 (dz d.interval (aF m b).1).level,.int .i64 (dz d.interval (aF m b).1).next,.slice q (dz d.interval (aF m b).1).ai.length c],.int .i64 0])->w'.ownsRow w.heap.size 142 2 (.slice q (dz d.interval (aF m b).1).ai.length c) (dz d.interval (aF m b).1).ai.length (aV (dz d.interval (aF m b).1).ai)->mo m d b level w e w'):=ag (fun e w' q c he h1 h2 h3=>by
    unfold mo;rw[L.out he];exact⟨h1,q,c,h2,h3⟩)
   clear hE u;generalize dz d.interval (aF m b).1=F at *;generalize(aF m b).1=s at *;generalize mo m d b level w=X at *;go_enter Tryz.func147,Tryz.ntmps147;go_upto_region 1 with(fail);refine aR (fun r=>Ext w r/\ah r w.heap.size (.cells (bH (.slice p n l) h d) 156)/\ah r (w.heap.size+1) (.cells #[.int .i64 0,.int .i64 0,.slice none 0 0] 106)) ⟨j,ah.alloc (ah.new w _) _,ah.new1 _ _ _ av⟩ ?_;clear j;rintro r ⟨f,i,V⟩;have c0:r.cell? ⟨w.heap.size,0,none⟩=some (.iface 32 (.slice p n l)):=ah.val i 0 _ rfl;have c15:r.cell? ⟨w.heap.size,15,none⟩=some (.int .i64 d.interval):=ah.val i 15 _ rfl;have l0:=ah.lt i;by_cases D:F.level=level
   ·have Sv:(F.level !=level)=false:=by simp[D]
    have N:=ag (fun e w' q c=>M.out e w' q c D);clear K L M O D;go_wp2_with(first
     | (go_at_call 66;refine(I.out _ (Hs.out.ext f)).mono ?_;rintro e w1 ⟨rfl,rfl⟩)
     | (go_at_call 120;refine(t.out _).mono ?_;rintro e w2 ⟨g,U,R,rfl,S⟩;have hz2:=g.blk _ _ V)
     | (refine aU rfl 106 (.tmp 10) (.tmp 28) rfl _ #[.int .i64 F.level,.int .i64 F.next,.slice U F.ai.length R] rfl rfl _ _ (ah.new w2 _) bq rfl cT ?_;intro w3 B y;have E:=y.blk (ah.alloc hz2 _) Cr;have Sw:=ah.val B 0 _ rfl;have Sx:=ah.lt B)
     | ((with_reducible refine aW 39 ?_);refine bz rfl 106 (.tmp 10) rfl _ rfl _ _ _ B cZ rfl bq ?_)
     | (refine aU rfl 106 (.tmp 6) (.tmp 39) rfl _ #[.int .i64 F.level,.int .i64 F.next,.slice U F.ai.length R] rfl rfl _ _ E bq rfl cT ?_;intro w6 C z))
    have J:=g.size;have H:=f.size;have hlz:=ah.lt hz2;have Y:Ext w2 w3:=y.ext (Ext.alloc _ _) (aH _);exact bY (dM Tryz.results147 _ _ _ _ _ _ rfl C cZ rfl bq) rfl (N.out _ _ U R (z.ext ((f.trans g).trans Y) af) rfl (fJ (fo (aO S Y) aq E z) H))
   ·have Sv:(F.level !=level)=true:=by simpa using D
    have N:=ag (fun e w'=>O.out e w' 11 (K.out D));clear K L M O D;go_wp2_with(first
     | (go_at_call 66;refine(I.out _ (Hs.out.ext f)).mono ?_;rintro e w1 ⟨rfl,rfl⟩)
     | (go_at_call 120;refine(t.out _).mono ?_;rintro e w2 ⟨g,U,R,rfl,S⟩;have hz2:=g.blk _ _ V)
     | (refine aU rfl 106 (.tmp 10) (.tmp 28) rfl _ #[.int .i64 F.level,.int .i64 F.next,.slice U F.ai.length R] rfl rfl _ _ (ah.new w2 _) bq rfl cT ?_;intro w3 B y;have E:=y.blk (ah.alloc hz2 _) Cr;have Sw:=ah.val B 0 _ rfl;have Sx:=ah.lt B)
     | (refine J3 ?_)
     | (refine aU rfl 106 (.tmp 6) (.tmp 38) rfl _ #[.int .i64 0,.int .i64 0,.slice none 0 0] rfl rfl _ _ E bq rfl cT ?_;intro w6 C z))
    have J:=g.size;have H:=f.size;exact bY (dM Tryz.results147 _ _ _ _ _ _ rfl C cZ rfl bq) rfl (N.out _ _ ⟨z.ext (y.ext ((f.trans g).trans (Ext.alloc _ _)) af) af,rfl⟩)
 ·have G:bF m d b level=(Nd.zero,(aF m b).2):=by unfold bF;rw[aC h1]
  have N:=ag (fun e w'=>O.out e w' _ G);have Mu:((aF m b).2 !=0)=true:=jP;clear O G t;generalize(aF m b).1=s at *;generalize(aF m b).2=ep at *;generalize mo m d b level w=X at *;go_enter Tryz.func147,Tryz.ntmps147;go_upto_region 1 with(fail);refine aR (fun r=>Ext w r/\ah r w.heap.size (.cells (bH (.slice p n l) h d) 156)/\ah r (w.heap.size+1) (.cells #[.int .i64 0,.int .i64 0,.slice none 0 0] 106)) ⟨j,ah.alloc (ah.new w _) _,ah.new1 _ _ _ av⟩ ?_;clear j;rintro r ⟨f,i,V⟩;have c0:r.cell? ⟨w.heap.size,0,none⟩=some (.iface 32 (.slice p n l)):=ah.val i 0 _ rfl;have l0:=ah.lt i;go_wp2_with(first
   | (go_at_call 66;refine(I.out _ (Hs.out.ext f)).mono ?_;rintro e w1 ⟨rfl,rfl⟩)
   | (refine dW (o:=⟨some 20,_,_,_,_,_⟩) rfl 106 #[] rfl [] rfl _ uK ?_)
   | (refine aU rfl 106 (.tmp 6) (.tmp 20) rfl _ #[.int .i64 0,.int .i64 0,.slice none 0 0] rfl rfl _ _ V bq rfl cT ?_;intro w6 C z))
  exact bY (dM Tryz.results147 _ _ _ _ _ _ rfl C cZ rfl bq) rfl (N.out _ _ ⟨z.ext f af,rfl⟩)
def mI:Array Value:=#[.nilIface,.int .i64 0,.int .i64 0,.int .i64 0,.int .i64 0,.int .i64 0,.int .i64 0,.int .i64 0,.int .i64 0,.int .i64 0,.int .i64 0,.int .i64 0,.int .i64 0,.int .i64 0,.int .i64 0,.int .i64 0,.int .i64 0,.int .i64 0,.int .i64 0,.int .i64 0,.int .i64 0,.int .i64 0,.bool false,.int .i64 0,.string ⟨#[]⟩,.string ⟨#[]⟩,.int .i64 0,.int .i64 0,.bool false]
theorem Mv:mI.all (·.oneCell')=true:=aj
theorem ab6:Tryz.prog.built 156 []=some mI:=aj
theorem vu (p:Option Addr) (n b:Nat) (h:Hd) (d:DS):(bH (.slice p n b) h d).all (·.oneCell')=true:=by simp[bH,Value.oneCell']
theorem aoA (p:Option Addr) (n b:Nat) (h:Hd) (d:DS):Tryz.prog.built 156 [(0,.iface 32 (.slice p n b)),(1,.agg (aK h)),(2,.agg (az d))]=some (bH (.slice p n b) h d):=aj
def GF (p:Option Addr) (n b:Nat) (h:Hd) (d:DS) (w:World) (e:Ending) (w':World):Prop:=
 Ext w w'/\((jg h d=0/\e=.returned (.tuple #[.agg (bH (.slice p n b) h d),.int .i64 0]))∨(jg h d=1/\e=.returned (.tuple #[.agg mI,.int .i64 1])))
theorem Mw (p:Option Addr) (n g:Nat) (h:Hd) (d:DS) (w:World):
 Calls Tryz.prog 82 #[.iface 32 (.slice p n g),.agg (aK h),.agg (az d)] w (GF p n g h d w):=by
 have D:=ag (fun W=>aox h d W);have u:=Rv w h d mI 156;by_cases hz:jg h d=0
 ·obtain⟨k1,k2,V,X,Y,S,T⟩:=xg hz;have C:Hid (∀e w',(Ext w w'/\e=.returned (.tuple #[.agg (bH (.slice p n g) h d),.int .i64 0]))->GF p n g h d w e w'):=ag (fun e w' ⟨F,G⟩=>⟨F,.inl ⟨hz,G⟩⟩);rw[k1,bM S,bM T] at D;clear hz k1;generalize GF p n g h d w=E at *;go_enter Tryz.func82,Tryz.ntmps82;go_upto_region 1 with(fail);refine aR (fun r=>Ext w r/\fG r w.heap.size h/\bI r (w.heap.size+1) d/\ah r (w.heap.size+1+1) (.cells mI 156)) u ?_;clear u;rintro r ⟨y,hb1,hb2,t⟩;go_wp2_with(first
   | (refine Pa ?_)
   | (refine Py ?_)
   | (go_at_call 115;refine(D.out _).mono ?_;rintro e w1 ⟨rfl,f⟩;have b:=hb1.ext f;have z:=hb2.ext f;have i:=f.blk _ _ t;have c3:=ah.val b 3 _ rfl;have R:=ah.val b 4 _ rfl;have U:=ah.lt b)
   | ((with_reducible refine aW 34 ?_);refine mM rfl (.tmp 4) rfl _ rfl h b ?_)
   | ((with_reducible refine aW 35 ?_);refine bu rfl (.tmp 5) rfl _ rfl d z ?_)
   | (refine dW (o:=⟨some 36,_,_,_,_,_⟩) rfl 156 #[(0,.tmp 33),(1,.tmp 34),(2,.tmp 35)] rfl [(0,.iface 32 (.slice p n g)),(1,.agg (aK h)),(2,.agg (az d))] rfl _ (aoA p n g h d) ?_)
   | (refine aU rfl 156 (.tmp 6) (.tmp 36) rfl _ (bH (.slice p n g) h d) rfl rfl _ _ i oq rfl (vu p n g h d) ?_;intro I j l))
  exact bY (dM Tryz.results82 _ _ _ _ _ _ rfl j vV rfl oq) rfl (C.out _ _ ⟨l.ext (y.trans f) af,rfl⟩)
 ·have B:jg h d=1:=EH;have C:Hid (∀e w',(Ext w w'/\e=.returned (.tuple #[.agg mI,.int .i64 1]))->GF p n g h d w e w'):=ag (fun e w' ⟨F,G⟩=>⟨F,.inr ⟨B,G⟩⟩);have J:Hid ((dA d&&decide (0<=h.fin)&&decide (h.fin<=16777152))=true->¬(1<=h.root/\h.root<=16777216/\0<=h.height/\h.height<=6)):=ag (fun hq ⟨K,L,M,N⟩=>by
   apply hz;unfold jg;simp only[eu,gu] at hq;rw[aC];refine Cj ?_;exact⟨⟨⟨⟨⟨⟨hq.1.1,K⟩,L⟩,M⟩,N⟩,hq.1.2⟩,hq.2⟩)
  clear hz B;generalize GF p n g h d w=E at *;generalize H:(dA d&&decide (0<=h.fin)&&decide (h.fin<=16777152))=O at *;clear H;go_enter Tryz.func82,Tryz.ntmps82;go_upto_region 1 with(fail);refine aR (fun r=>Ext w r/\fG r w.heap.size h/\bI r (w.heap.size+1) d/\ah r (w.heap.size+1+1) (.cells mI 156)) u ?_;clear u;rintro r ⟨y,hb1,hb2,t⟩;cases O
  ·go_wp2_with(first
    | (refine Pa ?_)
    | (refine Py ?_)
    | (go_at_call 115;refine(D.out _).mono ?_;rintro e w1 ⟨rfl,f⟩;have i:=f.blk _ _ t)
    | (refine dW (o:=⟨some 32,_,_,_,_,_⟩) rfl 156 #[] rfl [] rfl _ ab6 ?_)
    | (refine aU rfl 156 (.tmp 6) (.tmp 32) rfl _ mI rfl rfl _ _ i oq rfl Mv ?_;intro I j l))
   exact bY (dM Tryz.results82 _ _ _ _ _ _ rfl j vV rfl oq) rfl (C.out _ _ ⟨l.ext (y.trans f) af,rfl⟩)
  ·go_wp2_with(first
    | (refine Pa ?_)
    | (refine Py ?_)
    | (go_at_call 115;refine(D.out _).mono ?_;rintro e w1 ⟨rfl,f⟩;have b:=hb1.ext f;have z:=hb2.ext f;have i:=f.blk _ _ t;have c3:=ah.val b 3 _ rfl;have R:=ah.val b 4 _ rfl;have U:=ah.lt b)
    | (refine dW (o:=⟨some 32,_,_,_,_,_⟩) rfl 156 #[] rfl [] rfl _ ab6 ?_)
    | (refine aU rfl 156 (.tmp 6) (.tmp 32) rfl _ mI rfl rfl _ _ i oq rfl Mv ?_;intro I j l))
   all_goals first
    | (exfalso;have:=J.out trivial;omega)
    | exact bY (dM Tryz.results82 _ _ _ _ _ _ rfl j vV rfl oq) rfl (C.out _ _ ⟨l.ext (y.trans f) af,rfl⟩)
end Go.Proofs.YteninnkbmoimgaaGreatDoor

/- A part of the proof. -/
import Derived.Test.YteninnkbmoimgaaGreatDoorKC
set_option linter.unusedSimpArgs false
set_option linter.unusedVariables false
set_option maxRecDepth 100000
set_option maxHeartbeats 16000000
namespace Go.Proofs.YteninnkbmoimgaaGreatDoor
open Go.RowKit aD
theorem asW {w:World} {ops:Array Oper} {rest:List Oper} {o:Oper} {a:Act} {Q:Exit->Act->World->Prop} (hgd:Region.wanted o (yielded ops a.tmps)=true) (d s:Operand)
 (ho:o.op=.call {callee:=.builtin .append,args:=#[d,s],argTypes:=#[107,107]}) (base:Nat) (v:Value) (n:Nat) (xs:List Value) (hv:a.eval d=v) (hown:w.ownsRow base 31 1 v n xs) (p:Option Addr) (m c:Nat) (e:List Value) (hs:a.eval s=.slice p m c) (t:e.length=m) (hc:Cells w p e)
 (r:∀u∈e,u.oneCell'=true) (z:n+m<=100000000) (f:base<=w.heap.size)
 (h:∀l w',w'.ownsRow base 31 1 l (n+m) (xs++e)->w.grownBy w' v.ownBlock->wpList Tryz.prog ops Q rest (a.put o.dst l) w'):wpList Tryz.prog ops Q (o::rest) a w:=by
 by_cases y:m=0
 ·subst y;obtain rfl:e=[]:=gY t;obtain⟨q,k,rfl⟩:=cE hown;obtain⟨_,j,_⟩:=gh hown;obtain⟨E,i,B,D,C⟩:=lH sY;have hr:(Builtin.append_ #[107,107] o.type #[.slice q n k,.slice p 0 c]).run Tryz.prog w=.ok (.slice q n k) w:=by
   cases p<;>cases q<;>simp[Builtin.append_,pO Tryz.underlying107,Go.sizeOf,typeInfo,i,Builtin.lenOf,Builtin.firstCells,loadCells,loadCellsFrom,Go.storeCells,j]
  exact JQ
 ·obtain⟨g,rfl⟩:∃g,p=some g:=by
   exact Aa
  exact sV hgd d s 107 31 ho base (.slice none 0 0) 1 24 Tryz.underlying107 sY rfl aq v n xs hv hown (some g) m c e hs rfl af hc r z aq f h
theorem nI.one {w:World} {B:Nat} {vs:List Value} {V:List aB} (h:nI w B vs V):∀u∈vs,u.oneCell'=true:=by
 intro u f;obtain⟨i,hi,rfl⟩:=nT.1 f;have b:=h.own i (by rw[<-h.len];exact hi);have e:vs.getD i undef=vs[i]:=zQ;rw[e] at b;obtain⟨q,c,d⟩:=cE b;rw[d];rfl
theorem US (p:Option Addr) (cap n:Nat) (M:List (List UInt8)) (d:DS) (base:Int) (w:World) (hs:bk w p M) (hn:M.length=n) (hm:Small M):
 Calls Tryz.prog 46 #[.slice p n cap,.agg (az d),.int .i64 base] w (mw (jw M d base) w):=by
 have HD:=ag (fun W=>Dp d W);have C:=oJ w d Ar.zero none 0 none 0;rw[aeG] at C;have HZ:Hid (∀e w' c,jw M d base=(Ar.zero,c)->Ext w w'->e=.returned (.tuple #[.agg cA,.int .i64 c])->mw (jw M d base) w e w'):=ag (fun e w' c hc h1 h2=>by
  rw[hc];exact⟨h1,none,0,none,0,h2,cX.aeH w'⟩)
 cases hk:dA d
 ·have F:=ag (fun e w'=>HZ.out e w' 1 (Ms (.inl hk)));rw[hk] at HD;clear HZ hs hn hm hk;generalize mw (jw M d base) w=OUT at *;go_enter Tryz.func46,Tryz.ntmps46;go_upto_region 1 with fail;refine aR (fun E=>Ext w E/\bI E w.heap.size d/\ah E (w.heap.size+1) (.cells cA 109)) C ?_;clear C;rintro E ⟨B,dr,R⟩;go_wp2_with(first
   | (refine J7 ?_)
   | (go_at_call 27;refine(HD.out _).mono ?_;rintro e w1 ⟨rfl,m⟩;have S:=m.blk _ _ R)
   | (refine dW (o:=⟨some 27,_,_,_,_,_⟩) rfl 109 #[] rfl [] rfl _ ny ?_)
   | (refine aU rfl 109 (.tmp 6) (.tmp 27) rfl _ cA rfl rfl _ _ S aZ rfl lB ?_;intro w3 y iA))
  exact bY (dM Tryz.results46 _ _ _ _ _ _ rfl y cL rfl aZ) rfl (F.out _ _ (iA.ext (B.trans m) af) rfl)
 ·rw[hk] at HD;cases hb:eX base
  ·have D9:base<1∨(decide (base<1)=false/\(16777208:Int)<base):=by
    unfold eX at hb;by_cases h1:base<1
    ·exact .inl h1
    ·refine .inr ⟨aM h1,?_⟩;simp at hb;omega
   have F:=ag (fun e w'=>HZ.out e w' 1 (Ms (.inr hb)));clear HZ hs hn hm hk hb;generalize mw (jw M d base) w=OUT at *;rcases D9 with hc1 | ⟨hc1,hc2⟩;all_goals
    go_enter Tryz.func46,Tryz.ntmps46;go_upto_region 1 with fail;refine aR (fun E=>Ext w E/\bI E w.heap.size d/\ah E (w.heap.size+1) (.cells cA 109)) C ?_;clear C;rintro E ⟨B,dr,R⟩;go_wp2_with(first
     | (refine J7 ?_)
     | (go_at_call 27;refine(HD.out _).mono ?_;rintro e w1 ⟨rfl,m⟩;have S:=m.blk _ _ R)
     | (refine dW (o:=⟨some 27,_,_,_,_,_⟩) rfl 109 #[] rfl [] rfl _ ny ?_)
     | (refine aU rfl 109 (.tmp 6) (.tmp 27) rfl _ cA rfl rfl _ _ S aZ rfl lB ?_;intro w3 y iA))
    exact bY (dM Tryz.results46 _ _ _ _ _ _ rfl y cL rfl aZ) rfl (F.out _ _ (iA.ext (B.trans m) af) rfl)
  ·have hb1:decide (base<1)=false:=by unfold eX at hb;simp at hb⊢;omega
   have hb2:decide ((16777208:Int)<base)=false:=by unfold eX at hb;simp at hb⊢;omega
   have zn:=ag (fun pg w h=>LM p cap n M pg w h hn (by have:=hm.1;omega));have IP:=ag (fun pg=>LN hm pg);have Hs:=ag hs;have Hk:=ag (And.intro hk hb);clear hs hn hm;by_cases hpe:(aF M base).2=0
   case' neg=>
    have vC:((aF M base).2 !=0)=true:=by simpa using hpe
    have F:=ag (fun e w'=>HZ.out e w' _ (ab2 hk hb hpe));have xz:=ag (fun w h=>zn.out base w h);clear HZ hpe hk hb;generalize(aF M base).2=pe at *;generalize(aF M base).1=ps at *;generalize mw (jw M d base) w=OUT at *;go_enter Tryz.func46,Tryz.ntmps46;go_upto_region 1 with fail;refine aR (fun E=>Ext w E/\bI E w.heap.size d/\ah E (w.heap.size+1) (.cells cA 109)) C ?_;clear C;rintro E ⟨B,dr,R⟩;go_wp2_with(first
     | (refine J7 ?_)
     | (go_at_call 27;refine(HD.out _).mono ?_;rintro e w1 ⟨rfl,m⟩;have S:=m.blk _ _ R)
     | (go_at_call 66;refine(xz.out _ (Hs.out.ext (B.trans m))).mono ?_;rintro e w2 ⟨rfl,rfl⟩)
     | (refine dW (o:=⟨some 36,_,_,_,_,_⟩) rfl 109 #[] rfl [] rfl _ ny ?_)
     | (refine aU rfl 109 (.tmp 6) (.tmp 36) rfl _ cA rfl rfl _ _ S aZ rfl lB ?_;intro w3 y iA))
    exact bY (dM Tryz.results46 _ _ _ _ _ _ rfl y cL rfl aZ) rfl (F.out _ _ (iA.ext (B.trans m) af) rfl)
   have BC:=ag (fun W=>adp d.interval (aF M base).1 (IP.out base) W);unfold lG at BC;obtain⟨f,hnd⟩:∃f,f=dz d.interval (aF M base).1:=⟨_,rfl⟩;rw[<-hnd] at BC;have BD:=ab3 hk hb hpe;rw[<-hnd] at BD;have xA:=ag BD;have BF:=ag (fun h4 h5=>Sc (n:=f) hk hb hpe h4 hnd.symm h5);have xz:=ag (fun w h=>zn.out base w h);rw[hpe] at xz;have IQ:f.ai.length<=1000000:=by rw[hnd];exact ab1 _ _
   have su:=HZ;clear HZ hnd BD;generalize Us:(aF M base).1=ps at *;clear Us;generalize gH d.interval ps=er at *;have qh:=ag (fun q c W (hv:iV W q f.ai)=>abY d base q c f W hv IQ hk hb);unfold dO at qh;have F:Hid (∀e w',mw (jw M d base) w e w'->mw (jw M d base) w e w'):=ag (fun _ _ h=>h);obtain⟨RD,IU⟩:∃RD,RD=jw M d base:=⟨_,rfl⟩;rw[<-IU] at su xA BF F⊢;clear IU hk hb hpe;generalize vB:mw RD w=OUT at *;have DR:=ag vB;clear vB F;go_enter Tryz.func46,Tryz.ntmps46;go_upto_region 1 with fail;refine aR (fun E=>Ext w E/\bI E w.heap.size d/\ah E (w.heap.size+1) (.cells cA 109)) C ?_;clear C;rintro E ⟨B,dr,R⟩;go_upto_region 3 with(first
    | (refine J7 ?_)
    | (go_at_call 27;refine(HD.out _).mono ?_;rintro e w1 ⟨rfl,m⟩))
   have hx1:=B.trans m;have hd1:=dr.ext m;have S:=m.blk _ _ R;clear B dr R m;have k7:=ah.val hd1 7 (.int .i64 d.interval) rfl;have l7:=ah.lt hd1;go_upto_region 7 with(first
    | (go_at_call 66;refine(xz.out _ (Hs.out.ext hx1)).mono ?_;rintro e w2 ⟨rfl,rfl⟩)
    | (go_at_call 67;refine(BC.out _).mono ?_;rintro e w2 ⟨he2,q2,G,rfl,gT⟩))
   have uC:=Ext.alloc w2 (.cells #[.int .i64 f.level,.int .i64 f.next,.slice q2 f.ai.length G] 106);have xo:=ah.new w2 (.cells #[.int .i64 f.level,.int .i64 f.next,.slice q2 f.ai.length G] 106);refine aR (fun w3=>Ext w w3/\bI w3 w.heap.size d/\ah w3 (w.heap.size+1) (.cells cA 109)/\ah w3 w2.heap.size (.cells #[.int .i64 f.level,.int .i64 f.next,.slice q2 f.ai.length G] 106)/\w3.ownsRow w.heap.size 142 2 (.slice q2 f.ai.length G) f.ai.length (aV f.ai)) ⟨hx1.trans (he2.trans uC),hd1.ext (he2.trans uC),(he2.trans uC).blk _ _ S,xo,fJ (aO gT uC) hx1.size⟩ ?_;clear uC xo gT he2 hx1 hd1 S k7 l7;generalize w2.heap.size=nb at *;rintro w3 ⟨kI,hd3,y,lY,ni⟩;have Y:=ag (And.intro kI (And.intro hd3 (And.intro y (And.intro lY ni))));clear kI ni;by_cases kJ:er=0
   case' neg=>
    have vC:(er !=0)=true:=by simpa using kJ
    have F:=ag (fun e w'=>su.out e w' 11 (xA.out (.inl kJ)));clear kJ;go_wp2_with(first
     | (refine J4 ?_)
     | (refine aU rfl 109 (.tmp 6) (.tmp 54) rfl _ cA rfl rfl _ _ y aZ rfl lB ?_;intro w5 U mD))
    exact bY (dM Tryz.results46 _ _ _ _ _ _ rfl U cL rfl aZ) rfl (F.out _ _ (mD.ext Y.out.1 af) rfl)
   have vC:(er !=0)=false:=by simp[kJ]
   subst kJ;cases hh:rV d base f
   ·have F:=ag (fun e w'=>su.out e w' 11 (xA.out (.inr hh)));rw[hh] at qh;clear hh;go_wp2_with(first
     | (refine bu (o:=⟨some 48,_,_,_,_,_⟩) rfl (.tmp 4) rfl _ rfl d hd3 ?_)
     | (refine Xx ?_)
     | (go_at_call 68;refine(qh.out _ _ _ (mq Y.out.2.2.2.2)).mono ?_;rintro e w5 ⟨rfl,l⟩;have U:=l.blk _ _ y)
     | (refine J4 ?_)
     | (refine aU rfl 109 (.tmp 6) (.tmp 54) rfl _ cA rfl rfl _ _ U aZ rfl lB ?_;intro w6 D iw))
    exact bY (dM Tryz.results46 _ _ _ _ _ _ rfl D cL rfl aZ) rfl (F.out _ _ (iw.ext (Y.out.1.trans l) af) rfl)
   ·have xC:=ag (BF.out rfl hh);rw[hh] at qh;clear hh BF xA;go_upto_region 9 with(first
     | (refine bu (o:=⟨some 48,_,_,_,_,_⟩) rfl (.tmp 4) rfl _ rfl d hd3 ?_)
     | (refine Xx ?_)
     | (go_at_call 68;refine(qh.out _ _ _ (mq Y.out.2.2.2.2)).mono ?_;rintro e w5 ⟨rfl,l⟩))
    have Ht:=l.blk _ _ lY;have Ea:=ag (And.intro (Y.out.1.trans l) (And.intro (hd3.ext l) (And.intro (l.blk _ _ y) (aO Y.out.2.2.2.2 l))));clear hd3 y lY l Y qh;go_upto_region 10 with(first
     | ((with_reducible refine aW 56 ?_);refine bz rfl 106 (.tmp 10) rfl _ rfl _ _ _ Ht cZ rfl bq ?_)
     | ((with_reducible refine aW 57 ?_);refine dW rfl 109 #[(0,.tmp 55),(1,.tmp 56)] rfl [(0,.int .i64 base),(1,.agg #[.int .i64 f.level,.int .i64 f.next,.slice q2 f.ai.length G])] rfl _ (aeI _ _ _ _ _ _) ?_))
    have hxa:=Ext.alloc w5 (.cells (bn ⟨base,f,[]⟩ q2 G none 0) 109);have hba:=ah.new w5 (.cells (bn ⟨base,f,[]⟩ q2 G none 0) 109);refine aR (fun w4=>tu w d base f q2 G w5.heap.size [] none 0 [] w4/\ah w4 nb (.cells #[.int .i64 f.level,.int .i64 f.next,.slice q2 f.ai.length G] 106)) ⟨⟨Ea.out.1.trans hxa,Ea.out.2.1.ext hxa,hxa.blk _ _ Ea.out.2.2.1,hba,ah.lt Ea.out.2.2.1,aO Ea.out.2.2.2 hxa,World.ownsRow_nil _ _ _ _,⟨rfl,fun i hi=>absurd hi (ur _),fun i j g _ hj=>absurd hj (ur _)⟩,fun L hL=>by cases hL⟩,hxa.blk _ _ Ht⟩ ?_;clear hxa hba Ea Ht;generalize w5.heap.size=ab at *;clear w5;rintro w4 ⟨ae8,ku⟩;have NI:=ag (And.intro ae8 ku);clear ae8 ku;go_upto_region 11 with fail;go_loopw[12] (fun i wr=>∃(k:Nat) (V:List aB) (p3:Option Addr) (m3:Nat) (vs:List Value),k<=f.ai.length/\i=.int .i64 k/\V.length=k/\tu w d base f q2 G ab V p3 m3 vs wr/\ah wr nb (.cells #[.int .i64 f.level,.int .i64 f.next,.slice q2 f.ai.length G] 106)/\kK M d.interval f.ai []=kK M d.interval (f.ai.drop k) V) (fun i _=>f.ai.length-(intOf i).toNat)
    case atStart=>exact⟨0,[],none,0,[],bL _,rfl,rfl,NI.out.1,NI.out.2,by rw[dP]⟩
    case round=>
     obtain⟨k,V,p3,m3,vs,hk,rfl,BG,hst,O,hrd⟩:=hrel;have ji:=ag hst;have BH:=ag hrd;have IV:=ag BG;have Hnw:=ag O;have n2:=ah.val O 2 (.slice q2 f.ai.length G) rfl;have ln:=ah.lt O;clear O;by_cases hlt:k<f.ai.length
     ·have gB:(k:Int)<f.ai.length:=af;obtain⟨gi,oi,hq,Ut,hic⟩:=(mq hst.ai).at k hlt;subst hq;obtain⟨Uu,Uv⟩:=hic k hlt;have BI:=ag (fun(h9:(aF M (au f.ai k).2).2≠0)=>abZ (size:=d.interval) (V:=V) hlt h9);have qZ:=ag (fun(h9:(aF M (au f.ai k).2).2=0) hn=>ab0 (size:=d.interval) (V:=V) hlt h9 hn);have BJ:=ag (fun(h9:(aF M (au f.ai k).2).2=0) (L:aB) hL=>R9 (size:=d.interval) (V:=V) (L:=L) hlt h9 hL);generalize(au f.ai k).1=bs at *;generalize(au f.ai k).2=pg at *;have BK:=ag hlt;have D:=hst.res;have k7:=ah.val hst.ds 7 (.int .i64 d.interval) rfl;have l7:=ah.lt hst.ds;have BL:=hst.ar;have k4:wr.cell? ⟨ab,4,none⟩=some (.slice p3 V.length m3):=ah.val BL 4 _ rfl;have xD:=ag (zn.out pg wr (Hs.out.ext hst.ext));clear hic hst hrd BG;have I:=ji;clear ji;by_cases r:(aF M pg).2=0
      case' neg=>
       have arP:((aF M pg).2 !=0)=true:=by simpa using r
       have F:=ag (fun e w'=>su.out e w' (aF M pg).2 (by rw[xC.out,BH.out,BI.out r,aC r]));clear r;generalize(aF M pg).2=pe at *;generalize(aF M pg).1=ps2 at *;go_wp2_with(first
        | (go_at_call 66;refine xD.out.mono ?_;rintro e w7 ⟨rfl,rfl⟩)
        | (refine dW (o:=⟨some 78,_,_,_,_,_⟩) rfl 109 #[] rfl [] rfl _ ny ?_)
        | (refine aU rfl 109 (.tmp 6) (.tmp 78) rfl _ cA rfl rfl _ _ D aZ rfl lB ?_;intro w8 mU mc))
       exact bY (dM Tryz.results46 _ _ _ _ _ _ rfl mU cL rfl aZ) rfl (F.out _ _ (mc.ext I.out.ext af) rfl)
      rw[r] at xD;have xE:=ag (apv d.interval (aF M pg).1 (IP.out pg));by_cases hE:∃L,eL d.interval L (aF M pg).1
      ·obtain⟨L,hL⟩:=hE;have BM:Hid (∀W,Calls Tryz.prog 69 #[.int .i64 d.interval,.string ⟨(aF M pg).1.toArray⟩] W fun e w'=>Ext W w'/\∃q c,e=.returned (.tuple #[.slice q L.length c,.int .i64 0])/\Small L/\w'.ownsRow W.heap.size 9 1 (.slice q L.length c) L.length (L.map fun s=>.string ⟨s.toArray⟩)):=ag (fun W=>(xE.out W).mono (by
        exact Wn))
       have IW:=ag (BJ.out r L hL);clear r hL xE BI qZ BJ;generalize(aF M pg).1=ps2 at *;go_upto_region 19 with(first
        | (go_at_call 66;refine xD.out.mono ?_;rintro e w7 ⟨rfl,rfl⟩)
        | (go_at_call 69;refine(BM.out _).mono ?_;rintro e w8 ⟨jC,q8,c8,rfl,IX,gG⟩))
       have asY:=jC;have z:=I.out.more jC;have hnew:∀i g,i<V.length->(vs.getD i undef).ownBlock=some g->(Value.slice q8 L.length c8).ownBlock≠some g:=fun i g hi hg qQ=>by
        have h1:=Ml (I.out.own.own i hi) hg;have h2:=Ml gG qQ;omega
       have IY:V.length<=1000000:=by have:=IV.out;have:=BK.out;omega
       have kR:=ag z;have mA:=ag (And.intro IX (And.intro (fJ gG I.out.ext.size) hnew));have Uw:w8.cell? ⟨ab,4,none⟩=some (.slice p3 V.length m3):=ah.val z.ar 4 _ rfl;have Ux:=ah.lt z.ar;have hm8:=World.ownsRow_made (base:=w.heap.size) (e:=31) (size:=1) w8 #[] 0 z.ext.size av rfl;have Hm8:=ag hm8;have azS:=z.ext.size;clear z jC IX gG hnew D k7 l7 BL k4 Uu Uv Ut n2 ln hm8;go_upto_region 12 with(first
        | (at_builtin;refine asW (o:=⟨some 93,_,_,_,_,_⟩) rfl (.tmp 90) (.tmp 92) rfl w.heap.size _ 0 [] rfl Hm8.out p3 V.length m3 vs rfl (by have:=kR.out.own.len;exact this) ((gh kR.out.rows).1.ext (Ext.alloc w8 _)) kR.out.own.one af aY ?_;intro v9 w9 fI IZ;have r9:=pZ (T:=31) IZ Hm8.out aY;rw[nB,bQ] at fI;obtain⟨q9,c9,rfl⟩:=cE fI;have vI:=ag fI;have rj:=ag r9;have vJ:=r9.1.size;clear fI IZ r9)
        | (at_builtin;refine nW (o:=⟨some 96,_,_,_,_,_⟩) rfl (.tmp 93) (.tmp 95) 107 31 rfl w.heap.size (.slice none 0 0) 1 24 Tryz.underlying107 sY rfl aq _ V.length _ rfl (aO vI.out (Ext.alloc w9 _)) _ [.slice q8 L.length c8] rfl (ah.new w9 _) rfl nk af aq (by simp at vJ⊢;omega) ?_;intro v10 tj UT afb;have UU:=pZ (T:=31) afb (aO vI.out (Ext.alloc w9 _)) (by simp at vJ⊢;omega);obtain⟨xp,Z,rfl⟩:=cE UT;have K:=UU.2 _ _ _ aq ((Ext.alloc w9 (.cells #[.slice q8 L.length c8] 31)).blk _ _ (rj.out.2 _ _ _ aq ((Ext.alloc w8 (.cells #[] 31)).blk _ _ kR.out.ar)));have Uy:tj.cell? ⟨ab,4,none⟩=some (.slice p3 V.length m3):=ah.val K 4 _ rfl;have f49:=ah.free K 4;have Uz:=ah.lt K;have Bk:=ag UT;have NU:=ag UU;have H:=ag K;clear UT afb UU K))
       have N:=aI.setCell (w:=tj) (g:=ab) (i:=4) (v:=.slice xp (V.length+1) Z);have h4:=ah.setCell (i:=4) (v:=.slice xp (V.length+1) Z) H.out;have e4:(bn ⟨base,f,V⟩ (some ⟨gi,oi,none⟩) G p3 m3).setIfInBounds 4 (.slice xp (V.length+1) Z)=bn ⟨base,f,V++[L]⟩ (some ⟨gi,oi,none⟩) G xp Z:=by unfold bn;simp
       rw[e4] at h4;have mG:=Ext.alloc w8 (.cells #[] 31);have I5:=Ext.alloc w9 (.cells #[.slice q8 L.length c8] 31);have hab:=kR.out.Ur;have afc:=Ext.trans' ((Ext.trans' (kR.out.ext.trans mG) rj.out.1).trans I5) NU.out.1;have NV:∀b cs t,t≠31->ah w8 b (.cells cs t)->ah tj b (.cells cs t):=fun b cs t hne h=>NU.out.2 _ _ _ hne (I5.blk _ _ (rj.out.2 _ _ _ hne (mG.blk _ _ h)));have O:=NV _ _ _ aq (asY.blk _ _ Hnw.out);have I0:tu w d base f (some ⟨gi,oi,none⟩) G ab (V++[L]) xp Z (vs++[.slice q8 L.length c8]) (tj.setCell ⟨ab,4,none⟩ (.slice xp (V.length+1) Z)):=by
        refine⟨N.ext afc af,N.blk (NV _ _ _ aq kR.out.ds) af,N.blk (NV _ _ _ aq kR.out.res) af,h4,hab,fo (rC (aO (rC (aO kR.out.ai mG) aq rj.out) I5) aq NU.out) aq H.out N,?_,(((((nI.snoc kR.out.own mA.out.2.1 mA.out.2.2).ext mG).BB aq rj.out).ext I5).BB aq NU.out).oI H.out aq N,fun X hX=>?_⟩
        ·have:=fo Bk.out aq H.out N;rw[ew];exact this
        ·exact W8
       have NK:=ag (And.intro I0 (N.blk O (DM O H.out aq)));clear N h4 e4 mG I5 hab afc NV O I0 Uw Ux Uy f49 Uz;have vv:=BK.out;go_wp2_with fail;have UA:=IV.out;refine⟨⟨k+1,V++[L],xp,Z,vs++[.slice q8 L.length c8],af,bX,by rw[ew,UA];rfl,NK.out.1,NK.out.2,by rw[BH.out,IW.out]⟩,uN⟩
      ·have Cw:∀L,¬eL d.interval L (aF M pg).1:=fun L hL=>hE ⟨L,hL⟩;have BM:Hid (∀W,Calls Tryz.prog 69 #[.int .i64 d.interval,.string ⟨(aF M pg).1.toArray⟩] W fun e w'=>Ext W w'/\e=.returned (.tuple #[.slice none 0 0,.int .i64 (jY d.interval (aF M pg).1)])):=ag (fun W=>(xE.out W).mono (by
        exact Xu))
       have F:=ag (fun e w'=>su.out e w' 11 (by rw[xC.out,BH.out,qZ.out r Cw,aC av]));have arQ:(jY d.interval (aF M pg).1 !=0)=true:=by simpa using aeF d.interval (aF M pg).1
       clear r hE Cw xE BI qZ BJ;generalize jY d.interval (aF M pg).1=de at *;generalize(aF M pg).1=ps2 at *;go_wp2_with(first
        | (go_at_call 66;refine xD.out.mono ?_;rintro e w7 ⟨rfl,rfl⟩)
        | (go_at_call 69;refine(BM.out _).mono ?_;rintro e w8 ⟨jC,rfl⟩;have mU:=jC.blk _ _ D)
        | (refine dW (o:=⟨some 89,_,_,_,_,_⟩) rfl 109 #[] rfl [] rfl _ ny ?_)
        | (refine aU rfl 109 (.tmp 6) (.tmp 89) rfl _ cA rfl rfl _ _ mU aZ rfl lB ?_;intro w9 vJ oo))
       exact bY (dM Tryz.results46 _ _ _ _ _ _ rfl vJ cL rfl aZ) rfl (F.out _ _ (oo.ext (I.out.ext.trans jC) af) rfl)
     ·have hke:k=f.ai.length:=af;have hge:decide ((k:Int)<(f.ai.length:Int))=false:=aM af;have hfin:kK M d.interval f.ai []=(V,0):=by rw[hrd,hke];exact R8
      have IY:V.length<=1000000:=af;have J:RD=if dD d ⟨base,f,V⟩=false then(Ar.zero,11) else(⟨base,f,V⟩,0):=by rw[xC.out,hfin,aA av]
      have xG:=ag (fun W (e:Ext wr W)=>yY d ⟨base,f,V⟩ q2 G p3 m3 W (hst.D2.x.ext e) IQ IY (fun i=>by
       exact X5))
      have Px:=hst.ds;have ER:=hst.ar;have Bo:=hst.res;clear hst hrd hke BG hk;cases hA:dD d ⟨base,f,V⟩
      ·rw[hA] at xG;have F:=ag (fun e w'=>su.out e w' 11 (by rw[J,hA,aC rfl]));clear hA J;go_wp2_with(first
        | ((with_reducible refine aW 98 ?_);refine bu rfl (.tmp 4) rfl _ rfl d Px ?_)
        | (refine WK ?_)
        | (go_at_call 70;refine(xG.out _ (Ext.refl _)).mono ?_;rintro e w5 ⟨rfl,l⟩;have U:=l.blk _ _ Bo)
        | (refine dW (o:=⟨some 102,_,_,_,_,_⟩) rfl 109 #[] rfl [] rfl _ ny ?_)
        | (refine aU rfl 109 (.tmp 6) (.tmp 102) rfl _ cA rfl rfl _ _ U aZ rfl lB ?_;intro w6 D iw))
       exact bY (dM Tryz.results46 _ _ _ _ _ _ rfl D cL rfl aZ) rfl (F.out _ _ (iw.ext (ji.out.ext.trans l) af) rfl)
      ·rw[hA] at xG;rw[hA,aA av] at J;have BN:=ag J;clear hA J;go_wp2_with(first
        | ((with_reducible refine aW 98 ?_);refine bu rfl (.tmp 4) rfl _ rfl d Px ?_)
        | (refine WK ?_)
        | (go_at_call 70;refine(xG.out _ (Ext.refl _)).mono ?_;rintro e w5 ⟨rfl,l⟩;have U:=l.blk _ _ Bo;have UB:=ER.ext l)
        | ((with_reducible refine aW 103 ?_);refine bz rfl 109 (.tmp 11) rfl _ rfl _ _ _ UB cL rfl aZ ?_)
        | (refine aU rfl 109 (.tmp 6) (.tmp 103) rfl _ (bn ⟨base,f,V⟩ q2 G p3 m3) rfl rfl _ _ U aZ rfl (mE _ _ _ _ _) ?_;intro w6 D iw))
       refine bY (dM Tryz.results46 _ _ _ _ _ _ rfl D cL rfl aZ) rfl ?_;rw[<-DR.out,BN.out];exact⟨iw.ext (ji.out.ext.trans l) af,q2,G,p3,m3,rfl,(ji.out.more l).D2.lE U aq aq aq iw⟩
end Go.Proofs.YteninnkbmoimgaaGreatDoor

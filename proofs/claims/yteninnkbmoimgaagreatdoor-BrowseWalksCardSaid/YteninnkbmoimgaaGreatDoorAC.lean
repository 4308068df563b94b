/- A part of the proof. -/
import Derived.Test.YteninnkbmoimgaaGreatDoorXH
import Derived.Test.YteninnkbmoimgaaGreatDoorP21
set_option linter.unusedSimpArgs false
set_option linter.unusedVariables false
set_option maxRecDepth 100000
set_option maxHeartbeats 16000000
variable{P:Prop}
theorem aaI(h:P:=by
 go_upto_region 2 with(fail);go_quiet(fail);go_wp2;go_ret;exact⟨by rw[Rw.out,hs.out];rfl,hex.trans (Ext.drewN _ _)⟩):P:=h
theorem amq(h:P:=by
 have HB:=ag hb;clear hb;go_upto_region 2 with(fail);go_quiet(fail);go_wp2;go_ret;exact⟨by rw[Rw.out,Hs.out,aA HB.out];rfl,hex.trans (Ext.drewN _ _)⟩):P:=h
theorem aaJ(h:P:=by
 have amr:=ag (fun W (e:Ext w W) (h0:0<k)=>ams ((Hs.out.ext e)) k hk h0);have aj0:=ag (fun W (e:Ext wr W)=>amt (Hs.out.ext (hS.trans e)) k c hc);have wV:(k:Int)<=c:=af;have hkc:k<=c:=af;have hkL:(k:Int)<=L.length:=af;have htk:(ck (L.take k)).length=k*2:=by rw[rP,gF];omega
 have wW:(ck (L.drop k)).length=(L.length-k)*2:=by rw[rP,eU]
 have wX:=ag htk;have yN:=ag wW;clear htk wW;go_upto_region 6 with(at_builtin;refine qE rfl fun _ hK=>?_;refine rN (.tmp 35) (.tmp 38) 95 133 rfl wr.heap.size (.agg #[.int .i64 0,.string ByteArray.empty]) 2 24 Tryz.underlying95 AJ rfl wr.heap.size rfl (ah.new wr _) (aH _) (some ⟨gb,off,none⟩) k c (ck (L.take k)) rfl wX.out (fun h0=>amr.out _ (hS.trans (Ext.alloc _ _)) h0) af aq (Ext.alloc _ _).size ?_;intro v1 wa gT he2;refine hK _ _ ?_);obtain⟨q1,k1,rfl⟩:=cE gT;have LP:=ag ((Ext.alloc wr (.cells #[] 133)).trans he2);have Dg:=ag gT;clear gT he2;have ax8:=LP.out.size;refine Pre.kH 200 [(5,[(4,44)]),(9,[(4,44),(5,45)])] (LP.out) aj aj aj aj aj aj (Lt _ _ _) (amu aj aq (fun _ _ e h=>aO h e)) (fun p hp _=>Dg.out) ?_;refine gV ?_;repeat (first
  | (refine Pre.dF (o:=⟨some 43,_,_,_,_,_⟩) (v:=.agg #[.int .i64 page,.string ⟨s.toArray⟩]) (fun k v=>Pre.iF.is _ _ _ _ k v) aj aP ?_ ?_
     ·intro a' w' he0 hp hr K' hK;have vP:=hr 41 bO;have OQ:=hr 42 bO;exact ai9
     refine aE ?_)
  | (refine Pre.dY (o:=⟨some 44,_,_,_,_,_⟩) (dx 1 1 (.cells #[.int .i64 page,.string ⟨s.toArray⟩] 133)) (dx.ay _ _ _) (fun x hx=>by simp at hx;rcases hx with rfl | rfl<;>exact .inl aj) aj aP ?_ ?_
     ·intro a' w' he0 hp hr K' hK;exact Fa
     simp only[bZ,bG,bN])
  | (refine Pre.iU (o:=⟨some 45,_,_,_,_,_⟩) (dJ 133 wr.heap.size 2 (k+1) (ck (L.take k)++[.int .i64 page,.string ⟨s.toArray⟩])) (dJ.ay _ _ _ _ _) (fun x hx=>by simp at hx;rcases hx with rfl | rfl<;>exact .inl aj) aj aP ?_ ?_
     ·intro a' w' he0 hp hr K' hK;have hw:=hp 5 aj aj rfl;have AK:=hr 40 gM;obtain⟨b9,Rx,Ry⟩:=hr 44 gM;refine wS (.tmp 40) (.tmp 44) 95 133 rfl wr.heap.size (.agg #[.int .i64 0,.string ByteArray.empty]) 2 24 Tryz.underlying95 AJ rfl aq _ k (ck (L.take k)) AK hw (some ⟨b9,0,none⟩) 1 1 [.int .i64 page,.string ⟨s.toArray⟩] Rx rfl rfl (n8 (ys:=[.int .i64 page,.string ⟨s.toArray⟩]) Ry) vO af aq he0.size ?_;intro v' w'' ho' hg';obtain⟨q',c',rfl⟩:=cE ho';exact hK _ _ (Below.ij hg' hw (aH _) he0.size) ⟨q',c',rfl,ho'⟩ (EO _ _ _ _)
     simp only[bZ,bG,bN])
  | (refine Pre.dY (o:=⟨some 48,_,_,_,_,_⟩) (LQ wr (L.length-k) (ck (L.drop k))) (LQ.ay _ _ _) (fun x hx=>.inr fun _ _ _ _ h=>h) aj aP ?_ ?_
     ·exact ajZ
     refine aE ?_)
  | (refine Pre.iU (o:=⟨some 49,_,_,_,_,_⟩) (dJ 133 wr.heap.size 2 (k+1+(L.length-k)) (ck (L.take k)++[.int .i64 page,.string ⟨s.toArray⟩]++ck (L.drop k))) (dJ.ay _ _ _ _ _) (fun x hx=>by simp at hx;rcases hx with rfl | rfl<;>exact .inl aj) aj aP ?_ ?_
     ·intro a' w' he0 hp hr K' hK;obtain⟨q1,c1,Gc,jG⟩:=hr 45 gM;obtain⟨p9,k9,h48,hcs⟩:=hr 48 gM;refine LR (.tmp 45) (.tmp 48) rfl wr.heap.size _ (k+1) _ Gc jG p9 (L.length-k) k9 (ck (L.drop k)) h48 yN.out (hcs _ he0) (LS _) af he0.size ?_;exact ajh
     simp only[bZ,bG,bN])
  | (refine Pre.pG _ _ aj aP lz rfl JN (by first | exact Pre.iF.is _ _ _ _ _ _ | exact(fun x hx=>by simp at hx;rcases hx with rfl | rfl<;>exact .inl aj)) ?_
     simp only[bZ,bG,bN,qt,qu])
  | (apply Pre.dF (fun k v=>Pre.iF.is _ _ _ _ k v) aj aP
     ·intro a w' he0 hp hr K hK;have he:=(fun(_:(0:Nat)=0) (_:(0:Nat)=0)=>he0) aj aj;exact zY
     simp only[bZ,bG,bN]))
 intro w2 he2;simp only[iJ,iQ,jS,kW,bG,bN];repeat (first | with_reducible refine cH _ _ _ _ ?_ | (with_reducible refine cI _ _ _ _ ?_;intro _ _) | with_reducible refine cJ _ _ ?_)
 simp only[cF,cK,bQ,bE];rename_i x8 h8 x44 Rx Xf Gc x48 h48 x49 Pp;obtain⟨q8,k8,rfl,gG⟩:=h8;clear Rx Gc h48 Pp;go_wp2_with fail;all_goals go_ret
 all_goals exact⟨hS.trans he2,_,rfl,by
  have e1:k+1+(L.length-k)=L.length+1:=af;exact ajb⟩):P:=h
theorem Rz(h:P:=by
 go_enter Tryz.func97,Tryz.ntmps97;go_upto_region 1 with(fail);refine aR (fun w0=>Ext w w0/\bI w0 w.heap.size d/\eS w0 (w.heap.size+1) a q c p m/\ah w0 (w.heap.size+1+1) (.cells cA 109)/\ah w0 (w.heap.size+1+1+1) (.cells cA 109)) ⟨hda.1.trans yO,hda.2.1.ext yO,hda.2.2.ext yO,(Ext.alloc _ _).blk _ _ (ah.new1 _ _ _ av),ah.new1 _ _ _ av⟩ ?_;clear hda yO;rintro w0 ⟨he0,dr,ha0,hz0,hy0⟩;go_wp2_with(first
  | (refine EG ?_)
  | (refine Ch ?_)
  | (go_at_call 70;refine(HV.out _ he0).mono ?_;rintro e w1 ⟨rfl,bU⟩;have hz1:=bU.blk _ _ hz0;have hy1:=bU.blk _ _ hy0)
  | (refine aji ?_)
  | (refine ajj ?_)
  | (refine aU rfl 109 (.tmp 6) (.tmp 28) rfl _ cA rfl rfl _ _ hz1 aZ rfl lB ?_;intro w3 jA iA)
  | (refine aU rfl 109 (.tmp 7) (.tmp 29) rfl _ cA rfl rfl _ _ (iA.blk hy1 af) aZ rfl lB ?_;intro w4 RB yP))
 exact bY (Gd Tryz.results97 _ _ _ _ _ _ _ _ _ _ rfl (yP.blk jA af) cL rfl aZ rfl RB cL rfl aZ) rfl ((HO.out _ _).2 ⟨yP.ext (iA.ext (he0.trans bU) af) af,rfl⟩)):P:=h
theorem aaL(h:P:=by
 go_wp2_with fail;go_loopw[5] (fun n wr=>∃k:Nat,k<=a.length/\n=.int .i64 k/\eO a b=k+eO (a.drop k) (b.drop k)/\Ext w wr) (fun n _=>a.length-(intOf n).toNat)
 case atStart=>exact⟨0,bL _,rfl,av,Ext.refl _⟩
 case round=>
  obtain⟨k,hk,rfl,hfr,hex⟩:=hrel;have Rw:=ag hfr;clear hfr;by_cases h1:k<a.length
  ·have LU:(k:Int)<a.length:=af;by_cases h2:k<b.length
   ·have RC:(k:Int)<b.length:=af;have hs:=amw h1 h2;have Dh:(ByteArray.mk a.toArray).size=a.length:=ES;have ayb:(ByteArray.mk b.toArray).size=b.length:=ES;have Hs:=ag hs;clear hs;by_cases hb:aL a k=aL b k
    ·have Xg:((aL a k:Int)==(aL b k:Int))=true:=by simp[hb]
     have HB:=ag hb;clear hb;go_upto_region 2 with(fail);go_quiet(fail);go_wp2;go_roundw
     case rel=>exact⟨k+1,af,bX,by rw[Rw.out,Hs.out,aC HB.out];omega,hex.trans (Ext.drewN _ _)⟩
     case measure=>exact ct
    ·have Xg:((aL a k:Int)==(aL b k:Int))=false:=aY;exact amq
   ·have RC:decide ((k:Int)<b.length)=false:=aM af;have hs:=ag (aaN (a:=a) (b:=b) (k:=k) (.inr af));exact aaI
  ·have LU:decide ((k:Int)<a.length)=false:=aM af;have hs:=ag (aaN (a:=a) (b:=b) (k:=k) (.inl af));exact aaI):P:=h
theorem aaO(h:P:=by
 obtain⟨wY,oH,Ge,Gf⟩:=HR.out;have f3:=ah.free oH 3;have HN:=ag hno;clear hno hx hB HR AL;go_upto_region 18 with(fail);refine aR (fun W=>Ext w W/\ah W w.heap.size (.cells (cD {c with done:=true}) 26)/\ah W (w.heap.size+1) (.cells mX 26)/\ah W (w.heap.size+1+1) (.cells #[.string ⟨#[]⟩,.string ⟨#[]⟩] 37)) ⟨aI.setCell.ext wY (aH _),ah.setCell oH,aI.setCell.blk Ge af,aI.setCell.blk Gf af⟩ ?_;clear c0 c1 c2 c3 l0 f3 wY oH Ge Gf;rintro w1 ⟨bU,hc1,hz1,hq1⟩;go_wp2_with(first
  | (refine ajt ?_)
  | (refine dW (o:=⟨some 89,_,_,_,_,_⟩) rfl 37 #[] rfl [] rfl _ AO ?_)
  | (refine aU rfl 26 (.tmp 4) (.tmp 88) rfl _ (cD {c with done:=true}) rfl rfl _ _ hz1 kE rfl (uS _) ?_;intro w2 hz2 hc2;have AP:=hc2.blk hq1 af)
  | (refine aU rfl 37 (.tmp 5) (.tmp 89) rfl _ #[.string ⟨#[]⟩,.string ⟨#[]⟩] rfl rfl _ _ AP fE rfl cT ?_;intro w3 LV iA))
 exact bY (LW Tryz.results13 _ _ _ _ _ _ _ _ _ _ rfl (iA.blk hz2 af) nS rfl kE rfl LV lW rfl fE) rfl ⟨iA.ext (hc2.ext bU af) af,by rw[HN.out];rfl⟩):P:=h
theorem LX(h:P:=by
 clear h1 h2 h3 h4;go_upto_region 11 with(fail);go_quiet(fail);go_upto_region 14 with(fail);go_quiet(fail);go_wp2_with fail;go_roundw
 case rel=>exact⟨i+1,_,af,bX,rfl,ajd,HN.out⟩
 case measure=>exact ct):P:=h
theorem aaP(h:P:=by
 go_quiet(fail);go_upto_region 4 with(fail);refine aR (fun W=>Ext w3 W) WB ?_;intro w4 ek;have mY:=ek.blk _ _ jA;have HX:=ag (kI.trans ek);clear ek kI jA;go_wp2_with(first
  | (refine dW (o:=⟨some 31,_,_,_,_,_⟩) rfl 37 #[] rfl [] rfl _ AO ?_)
  | (refine aU rfl 37 (.tmp 6) (.tmp 31) rfl _ #[.string ⟨#[]⟩,.string ⟨#[]⟩] rfl rfl _ _ mY fE rfl cT ?_;intro w5 nG mD))
 exact bY (dM Tryz.results57 _ _ _ _ _ _ rfl nG lW rfl fE) rfl ⟨mD.ext HX.out af,xW⟩):P:=h
theorem aaQ(h:P:=by
 go_upto_region 12 with(fail);go_quiet(fail);go_wp2_with(first
  | (refine dW (o:=⟨some 63,_,_,_,_,_⟩) rfl 106 #[] rfl [] rfl _ uK ?_)
  | (refine aU rfl 106 (.tmp 4) (.tmp 63) rfl _ #[.int .i64 0,.int .i64 0,.slice none 0 0] rfl rfl _ _ vc.out bq rfl cT ?_;intro w6 pT iw))
 exact bY (dM Tryz.results67 _ _ _ _ _ _ rfl pT cZ rfl bq) rfl (HO.out _ _ (iw.ext (ve.out.trans Kb) (aH _)) rfl)):P:=h
theorem aaR(h:P:=by
 go_upto_region 10 with(fail);go_quiet(fail);go_wp2;go_roundw
 case rel=>exact⟨k+1,bp,af,bX,HX.out,hD.out,gZ.out.trans ((Ext.alloc _ _).trans (Ext.drewN _ _))⟩
 case measure=>exact ct):P:=h
theorem aaS(h:P:=by
 go_upto_region 13 with(fail);go_quiet(fail);go_wp2;go_roundw
 case rel=>exact⟨k+1,af,bX,by rw[HC.out];simp,nr+nq,rfl⟩
 case measure=>exact ct):P:=h
theorem aaT(h:P:=by
 go_upto_region 13 with(fail);refine eR 200 (Ext.refl wr) aj aj aj ?_;refine gV ?_;repeat (first
  | (refine ajA ?_)
  | (refine ajB ?_)
  | (refine PR ?_)
  | (apply lF rfl rfl rfl rfl
     ·exact XK
     simp only[bZ,bG,bN])
  | (refine kN ?_)
  | (refine fR ?_)
  | (refine iq ?_)
  | (refine fk ?_))
 intro w2 he2;repeat (first | with_reducible refine cH _ _ _ _ ?_ | (with_reducible refine cI _ _ _ _ ?_;intro _ _) | with_reducible refine cJ _ _ ?_)
 simp only[cF,cK,bQ,bE];have sX:=ag (HX.out.trans he2);clear he2;go_wp2_with fail;go_roundw
 case rel=>exact⟨i+1,af,bX,sX.out⟩
 case measure=>exact ct):P:=h
theorem Xh(h:P:=by
 skip;have HT:=ag (Di.out wT (Hs.out.ext FZ));have Ho:Hid (fW d R c=jL d R c.key):=ag (by rw[Hm.out,hb];rfl);rw[hb] at k1;obtain⟨o,Gg⟩:∃o,o=jL d R c.key:=⟨_,rfl⟩;rw[<-Gg] at HT Ho;obtain⟨y,hy⟩:∃y,y=jn d o:=⟨_,rfl⟩;rw[<-hy] at HT;have Hy:=ag hy;obtain⟨er,kJ⟩:∃er,er=yQ o:=⟨_,rfl⟩;rw[<-kJ] at HT;have W7:=ag kJ;obtain⟨y1,y2⟩:=y;clear hb Gg hy kJ Hm;go_upto_region 11 with(first
  | (refine We ?_)
  | (refine Wf ?_)
  | (go_at_call 49;refine HT.out.mono ?_;rintro e w3 ⟨rfl,jc⟩))
 exact Xb):P:=h
theorem Xi(h:P:=by
 skip;have HT:=ag (Xj.out wT (Hs.out.ext FZ));have Ho:Hid (fW d R c=jt d R c.key):=ag (by rw[Hm.out,hb];rfl);rw[hb] at k1;obtain⟨o,Gg⟩:∃o,o=jt d R c.key:=⟨_,rfl⟩;rw[<-Gg] at HT Ho;obtain⟨y,hy⟩:∃y,y=jn d o:=⟨_,rfl⟩;rw[<-hy] at HT;have Hy:=ag hy;obtain⟨er,kJ⟩:∃er,er=yQ o:=⟨_,rfl⟩;rw[<-kJ] at HT;have W7:=ag kJ;obtain⟨y1,y2⟩:=y;clear hb Gg hy kJ Hm;go_upto_region 11 with(first
  | (refine We ?_)
  | (refine Wf ?_)
  | (go_at_call 50;refine HT.out.mono ?_;rintro e w3 ⟨rfl,jc⟩))
 exact Xb):P:=h
namespace Go.Proofs.YteninnkbmoimgaaGreatDoor
open Go.RowKit aD
theorem RF:(Tryz.prog.info? 9).map (fun i=>(i.zero,i.size,i.bytes))=some (some (.string ByteArray.empty),1,16):=aj
theorem sY:(Tryz.prog.info? 31).map (fun i=>(i.zero,i.size,i.bytes))=some (some (.slice none 0 0),1,24):=aj
theorem um:(Tryz.prog.info? 142).map (fun i=>(i.zero,i.size,i.bytes))=some (some (.agg #[.string ByteArray.empty,.int .i64 0]),2,24):=aj
theorem jM {w:World} {base:Nat} {e:TypeId} {k n c:Nat} {q:Option Addr} {xs:List Value} (h:w.ownsRow base e k (.slice q n c) n xs) (y:0<n):
 ∃g b,q=some ⟨g,0,none⟩/\base<=g/\ah w g (.cells b e)/\n<=c/\c<=maxLen/\b.size=c*k/\b.toList.take (n*k)=xs:=by
 obtain⟨u,⟨d,t⟩ | ⟨g,f,b,d,i,j,l,m,o,r⟩⟩:=h
 ·omega
 ·simp only[Value.slice.injEq] at d;obtain⟨rfl,_,rfl⟩:=d;exact⟨g,b,rfl,i,j,l,m,o,r⟩
theorem n8 {w:World} {b:Nat} {ys:List Value} {t:TypeId} (h:ah w b (.cells ys.toArray t)):Cells w (some ⟨b,0,none⟩) ys:=by
 refine .inr ⟨b,0,rfl,ah.lt h,fun i hi=>?_⟩;rw[nB];exact ah.val h i _ zQ
def mK (E:TypeId) (B n:Nat) (xs:List Value):Fact:=fun x w=>∃q c,x=.slice q n c/\w.ownsRow B E 1 (.slice q n c) n xs
theorem mK.ay (E:TypeId) (B n:Nat) (xs:List Value):(mK E B n xs).ay:=fun _ _ _ e ⟨q,c,b,d⟩=>⟨q,c,b,aO d e⟩
def tG (f:Fact) (v:Value):Fact:=fun x w=>∃y,x=.tuple #[y,v]/\f y w
theorem tG.ay {f:Fact} (g:f.ay) (v:Value):(tG f v).ay:=fun _ _ _ e ⟨y,b,d⟩=>⟨y,b,g _ _ _ e d⟩
def kO (L:List (Int×List UInt8)):Fact:=fun x w=>∃q c,x=.slice q L.length c/\iC w q L
theorem kO.ay (L:List (Int×List UInt8)):(kO L).ay:=fun _ _ _ e ⟨q,c,b,d⟩=>⟨q,c,b,d.ext e⟩
def fS (B:Nat) (o:Obj):Fact:=fun x w=>∃b,x=.pointer (some ⟨b,0,none⟩)/\ah w b o/\B<=b
theorem fS.ay (B:Nat) (o:Obj):(fS B o).ay:=fun _ _ _ g ⟨b,d,e,f⟩=>⟨b,d,g.blk _ _ e,f⟩
def sB (f:Fact) (t:TypeId):Fact:=fun x w=>∃y,x=.iface t y/\f y w
theorem sB.ay {f:Fact} (g:f.ay) (t:TypeId):(sB f t).ay:=fun _ _ _ e ⟨y,b,d⟩=>⟨y,b,g _ _ _ e d⟩
theorem Any.bP {K:dR} {R:Nat->Rel}:Any.bP K R:=fun _ _ _ _ _ _ h=>h
def j4 (B:Nat) (t:TypeId):Rel:=fun w w'=>∃b d,B<=b/\ah w b (.cells d t)/\aI b w w'
theorem j4.below {B:Nat} {t:TypeId} {w w':World} (c:j4 B t w w'):Below B w w':=by
 obtain⟨b,d,e,hb,hc⟩:=c;exact Ym
theorem ah.Gh {B b:Nat} {t f:TypeId} {w w':World} {g:Array Value} (h:ah w b (.cells g f)) (hne:f≠t) (c:j4 B t w w'):w'.heap[b]? =w.heap[b]? :=by
 obtain⟨l,i,m,d,j⟩:=c;refine j.block b fun e=>?_;subst e;have:=(Eq.symm h).trans d;exact E0
theorem ah.LY {B b:Nat} {t e:TypeId} {w w':World} {f:Array Value} (h:ah w b (.cells f e)) (d:e≠t) (c:j4 B t w w'):ah w' b (.cells f e):=(ah.Gh h d c).trans h
theorem iC.Gh {B:Nat} {t:TypeId} {w w':World} {p:Option Addr} {L:List (Int×List UInt8)} (h:iC w p L) (f:133≠t) (c:j4 B t w w'):iC w' p L:=by
 rcases h with h | ⟨b,g,n,⟨o,m,d⟩,j⟩
 ·exact .inl h
 ·have e:=ah.Gh d f c;exact .inr ⟨b,g,n,⟨ah.lt (ah.LY d f c),m,ah.LY d f c⟩,fun i l=>⟨(World.cell?_of_block (a:=⟨b,_,none⟩) e).trans (j i l).1,(World.cell?_of_block (a:=⟨b,_,none⟩) e).trans (j i l).2⟩⟩
theorem E6 {B:Nat} {t:TypeId} {w w':World} {base:Nat} {e:TypeId} {size:Nat} {v:Value} {n:Nat} {xs:List Value} (h:w.ownsRow base e size v n xs) (g:e≠t) (c:j4 B t w w'):w'.ownsRow base e size v n xs:=by
 refine⟨h.1,?_⟩;rcases h.2 with l | ⟨b,d,f,rfl,i,j,rest⟩
 ·exact .inl l
 ·exact .inr ⟨b,d,f,rfl,i,ah.LY j g c,rest⟩
theorem kO.bP (L:List (Int×List UInt8)) (K:dR) (B:Nat) (t:TypeId) (b:133≠t):(kO L).bP K (fun _=>j4 B t):=fun _ _ _ _ _ c ⟨q,d,e,f⟩=>⟨q,d,e,f.Gh b c⟩
theorem dJ.bP (E:TypeId) (d size n:Nat) (xs:List Value) (K:dR) (B:Nat) (t:TypeId) (b:E≠t):(dJ E d size n xs).bP K (fun _=>j4 B t):=fun _ _ _ _ _ c ⟨q,e,f,g⟩=>⟨q,e,f,E6 g b c⟩
theorem dx.bP (n d:Nat) (g:Array Value) (f:TypeId) (K:dR) (B:Nat) (t:TypeId) (e:f≠t):(dx n d (.cells g f)).bP K (fun _=>j4 B t):=fun _ _ _ _ _ c ⟨b,i,j⟩=>⟨b,i,ah.LY j e c⟩
theorem sB.bP {f:Fact} {K:dR} {R:Nat->Rel} (e:f.bP K R) (t:TypeId):(sB f t).bP K R:=fun i g _ _ _ c ⟨y,b,d⟩=>⟨y,b,e i g _ _ _ c d⟩
theorem fo {w w':World} {base:Nat} {e t:TypeId} {size:Nat} {v:Value} {n b:Nat} {xs:List Value} {f:Array Value} (h:w.ownsRow base e size v n xs) (d:e≠t) (g:ah w b (.cells f t)) (c:aI b w w'):w'.ownsRow base e size v n xs:=
 E6 (B:=0) h d ⟨b,f,bL _,g,c⟩
end Go.Proofs.YteninnkbmoimgaaGreatDoor
namespace aD
theorem amw {a b:List UInt8} {k:Nat} (g:k<a.length) (i:k<b.length):eO (a.drop k) (b.drop k)=if aL a k=aL b k then eO (a.drop (k+1)) (b.drop (k+1))+1 else 0:=by
 rw[gz g,gz i,eO];have d:aL a k=(a[k]).toNat:=by unfold aL;simp[List.getD,g]
 have f:aL b k=(b[k]).toNat:=by unfold aL;simp[List.getD,i]
 by_cases h:a[k]=b[k]
 ·rw[aC h,aC (by rw[d,f,h])]
 ·rw[aA h,aA (fun e=>h (CI.1 (by rw[<-d,<-f,e])))]
theorem aaN {a b:List UInt8} {k:Nat} (h:a.length<=k∨b.length<=k):eO (a.drop k) (b.drop k)=0:=by
 rcases h with h | h
 ·rw[jI h,CX]
 ·rw[jI h];cases a.drop k<;>rfl
def aV (L:List aG):List Go.Value:=L.flatMap fun x=>[.string ⟨x.1.toArray⟩,.int .i64 x.2]
theorem qC (L:List aG):(aV L).length=L.length*2:=by
 induction L with
 | nil=>rfl
 | cons x L b=>simp[aV] at b⊢;omega
theorem LZ (L:List aG) (i:Nat) (h:i<L.length):(aV L)[i*2]? =some (.string ⟨(au L i).1.toArray⟩)/\(aV L)[i*2+1]? =some (.int .i64 (au L i).2):=by
 induction L generalizing i with
 | nil=>simp at h
 | cons x L b=>
   have e:aV (x::L)=.string ⟨x.1.toArray⟩::.int .i64 x.2::aV L:=zV;rw[e];cases i with
   | zero=>simp[au]
   | succ i=>
     have:=b i nA;rw[show(i+1)*2=i*2+2 by omega,show i*2+2+1=(i*2+1)+2 by omega];simpa[au] using this
theorem Gi (L:List aG):∀u∈aV L,u.oneCell'=true:=by
 intro u b;unfold aV at b;rw[List.mem_flatMap] at b;obtain⟨x,_,d⟩:=b;simp at d;rcases d with rfl | rfl<;>rfl
theorem aaX {L:List aG} {k:Nat} {b:List UInt8} (h:k<L.length):cR b (L.drop k)=(gA (au L k).2&&((au L k).1.isEmpty==decide (k+1=L.length))&&decide ((au L k).1.length<=32)&&(decide (k+1=L.length)||bl b (au L k).1)&&cR (au L k).1 (L.drop (k+1))):=by
 have e:au L k=L[k]:=Cp;have d:(L.drop (k+1)).isEmpty=decide (k+1=L.length):=by
  rw[uf,uZ,gu,List.drop_eq_nil_iff];omega
 rw[gz h,cR,d,e]
end aD
namespace Go.Proofs.YteninnkbmoimgaaGreatDoor
open Go.RowKit aD
theorem amx (a b:List UInt8) (d:a.length<=maxLen) (w:World):Calls Tryz.prog 184 #[.string ⟨a.toArray⟩,.string ⟨b.toArray⟩] w fun e w'=>e=.returned (.int .i64 (eO a b:Nat))/\Ext w w':=by
 have f:maxLen=9223372036854775807:=rfl;go_enter Tryz.func184,Tryz.ntmps184;exact aaL
def iV (w:World) (q:Option Addr) (L:List aG):Prop:=Cells w q (aV L)
theorem iV.ext {w w':World} {q:Option Addr} {L:List aG} (h:iV w q L) (e:Ext w w'):iV w' q L:=Cells.ext h e
theorem iV.at {w:World} {q:Option Addr} {L:List aG} (h:iV w q L) (k:Nat) (n:k<L.length):
 ∃b d,q=some ⟨b,d,none⟩/\b<w.heap.size/\∀i,i<L.length->w.cell? ⟨b,d+i*2,none⟩=some (.string ⟨(au L i).1.toArray⟩)/\w.cell? ⟨b,d+i*2+1,none⟩=some (.int .i64 (au L i).2):=by
 rcases h with h | ⟨b,d,m,j,e⟩
 ·have:=gP List.length h;rw[qC] at this;simp only[lC] at this;omega
 ·refine⟨b,d,m,j,fun i l=>?_⟩;obtain⟨f,g⟩:=LZ L i l;have o:=qC L;rw[e (i*2) af,sD,e (i*2+1) af];simp[List.getD,f,g]
theorem amy (x:Int) (w:World):Calls Tryz.prog 183 #[.int .i64 x] w fun e w'=>e=.returned (.bool (gA x))/\w'=w:=by
 by_cases d:1<=x
 ·have b:decide (1<=x)=true:=bM d;have HR:Hid (gA x=decide (x<=16777216)):=ag (by unfold gA;rw[b];rfl);go_enter Tryz.func183,Tryz.ntmps183;go_wp2;go_ret;exact⟨nR,rfl⟩
 ·have b:decide (1<=x)=false:=aM d;have HR:Hid (gA x=false):=ag (by unfold gA;rw[b];rfl);go_enter Tryz.func183,Tryz.ntmps183;go_wp2;go_ret;exact⟨nR,rfl⟩
def dO (n:Nd) (q:Option Addr) (c:Nat):Value:=.agg #[.int .i64 n.level,.int .i64 n.next,.slice q n.ai.length c]
theorem aaY {n:Nd} (h:n.ai.length<1∨120<n.ai.length∨n.level<0∨6<n.level∨n.next<0∨16777216<n.next):eC n=false:=by
 cases hb:eC n with
 | false=>rfl
 | true=>
   unfold eC at hb;simp only[eu,gu] at hb;omega
theorem aaZ {n:Nd} (h:¬(n.ai.length<1∨120<n.ai.length∨n.level<0∨6<n.level∨n.next<0∨16777216<n.next)):eC n=cR [] n.ai:=by
 unfold eC;rw[bM (show 1<=n.ai.length by omega),bM (show n.ai.length<=120 by omega),bM (show 0<=n.level by omega),bM (show n.level<=6 by omega),bM (show 0<=n.next by omega),bM (show n.next<=16777216 by omega)];simp
theorem RG (q:Option Addr) (c:Nat) (n:Nd) (w:World) (h:iV w q n.ai) (hl:n.ai.length<=1000000):
 Calls Tryz.prog 169 #[dO n q c] w fun e w'=>e=.returned (.bool (eC n))/\Ext w w':=by
 have Y:=ag h;clear h;unfold dO;have f:=ah.new w (.cells #[.int .i64 n.level,.int .i64 n.next,.slice q n.ai.length c] 106);by_cases hno:n.ai.length<1∨120<n.ai.length∨n.level<0∨6<n.level∨n.next<0∨16777216<n.next
 ·have HR:=ag (aaY hno);by_cases a1:n.ai.length<1
  ·have R:decide ((n.ai.length:Int)<1)=true:=bM af;exact Dd
  ·have R:decide ((n.ai.length:Int)<1)=false:=aM af;by_cases a2:120<n.ai.length
   ·have S:decide (120<(n.ai.length:Int))=true:=bM af;exact Dd
   ·have S:decide (120<(n.ai.length:Int))=false:=aM af;by_cases M:n.level<0
    ·have T:decide (n.level<0)=true:=bM M;exact Dd
    ·have T:decide (n.level<0)=false:=aM M;by_cases N:6<n.level
     ·have U:decide (6<n.level)=true:=bM N;exact Dd
     ·have U:decide (6<n.level)=false:=aM N;by_cases O:n.next<0
      ·have V:decide (n.next<0)=true:=bM O;exact Dd
      ·have V:decide (n.next<0)=false:=aM O;have i6:decide (16777216<n.next)=true:=bM af;exact Dd
 ·have HR:=ag (aaZ hno);have R:decide ((n.ai.length:Int)<1)=false:=aM af;have S:decide (120<(n.ai.length:Int))=false:=aM af;have T:decide (n.level<0)=false:=aM af;have U:decide (6<n.level)=false:=aM af;have V:decide (n.next<0)=false:=aM af;have i6:decide (16777216<n.next)=false:=aM af;have D:1<=n.ai.length/\n.ai.length<=120:=af;obtain⟨hl1,hl2⟩:=D;rw[HR.out];clear hno HR f hl;generalize n.ai=L at *;generalize n.level=lv at *;generalize n.next=nx at *;go_enter Tryz.func169,Tryz.ntmps169;go_upto_region 1 with(fail);refine aR (fun G=>Ext w G/\ah G w.heap.size (.cells #[.int .i64 lv,.int .i64 nx,.slice q L.length c] 106)) ⟨Ext.alloc _ _,ah.new w _⟩ ?_;rintro G ⟨he0,f⟩;have c0:=ah.val f 0 _ rfl;have c1:=ah.val f 1 _ rfl;have c2:=ah.val f 2 _ rfl;have Q:=ah.lt f;have H:=ag (Y.out.ext he0);clear f;go_wp2_with fail;go_loopw[4,44] (fun Z i wr=>∃(k:Nat) (b:List UInt8),k<=L.length/\i=.int .i64 k/\Z=.string ⟨b.toArray⟩/\cR [] L=cR b (L.drop k)/\Ext G wr) (fun _ i _=>L.length-(intOf i).toNat)
  case atStart=>exact⟨0,[],bL _,rfl,rfl,rfl,Ext.refl _⟩
  case round=>
   obtain⟨k,b,hk,rfl,rfl,C,o⟩:=hrel;have jR:=ag C;have gZ:=ag o;clear C;by_cases t:k<L.length
   ·have E:(k:Int)<L.length:=af;obtain⟨g,off,rfl,hgb,y⟩:=(H.out.ext o).at k t;obtain⟨z,B⟩:=y k t;have HD:=ag (aaX (b:=b) t);generalize au L k=x at *;obtain⟨bp,pg⟩:=x;simp only at z B HD;clear y o;have HP:=ag (fun w=>amy pg w);go_upto_region 8 with(fail);cases kC:gA pg
    ·rw[kC] at HP HD;clear kC;go_wp2_with(go_at_call 183;refine(HP.out _).mono ?_;rintro e w2 ⟨rfl,rfl⟩);go_ret;exact⟨by rw[jR.out,HD.out];simp,he0.trans (gZ.out.trans (Ext.alloc _ _))⟩
    ·rw[kC] at HP HD;clear kC;have l:(bp==[])=bp.isEmpty:=by cases bp<;>rfl
     have j:((k:Int)==(L.length:Int)-1)=decide (k+1=L.length):=by rw[uf];simp;omega
     have m:decide ((k:Int)<(L.length:Int)-1)=!decide (k+1=L.length):=by rw[uf];simp;omega
     by_cases d:bp.isEmpty=decide (k+1=L.length)
     ·by_cases Xk:32<bp.length
      ·have K:decide (32<(bp.length:Int))=true:=bM af;have hD:Hid (cR [] L=false):=ag XH;cases hE:bp.isEmpty
       all_goals
        rw[hE] at l d;rw[<-d] at j m;have J:((k:Int)=(L.length:Int)-1)=(bp.isEmpty=true):=by rw[hE];have:=j;simp at this⊢;exact this
        clear d J;go_wp2_with(go_at_call 183;refine(HP.out _).mono ?_;rintro e w2 ⟨rfl,rfl⟩);go_ret;exact⟨by rw[hD.out];rfl,he0.trans (gZ.out.trans (Ext.alloc _ _))⟩
      ·have K:decide (32<(bp.length:Int))=false:=aM af;have F:decide (bp.length<=32)=true:=bM af;rw[F] at HD;clear F;cases hE:bp.isEmpty
       ·rw[hE] at l d HD;rw[<-d] at j m HD;have r:k+1<L.length:=by have:=Gj d.symm;omega
        clear d;cases qB:bl b bp
        ·have hD:Hid (cR [] L=false):=ag Kl;cases hb2:bl bp b
         ·have I:bp=b:=by
           rcases Au b bp with h | h | h
           ·rw[qB] at h;cases h
           ·exact h.symm
           ·rw[hb2] at h;cases h
          subst I;have u:Go.Op.bytesLess bp bp=false:=hb2;exact aaq
         ·have u:Go.Op.bytesLess bp b=true:=hb2;exact aaq
        ·have u:Go.Op.bytesLess bp b=false:=sR qB;have Xl:(bp==b)=false:=by simpa using(lZ qB).symm
         have rQ:¬bp=b:=(lZ qB).symm;have hD:Hid (cR [] L=cR bp (L.drop (k+1))):=ag Kl;clear qB;exact Y2
       ·rw[hE] at l d HD;rw[<-d] at j m HD;have r:k+1=L.length:=qG d.symm;have hD:Hid (cR [] L=cR bp (L.drop (k+1))):=ag (by rw[jR.out,HD.out];simp);have wV:(k:Int)=(L.length:Int)-1:=af;have X:=ag r;clear d r;exact Y2
     ·have hD:Hid (cR [] L=false):=ag (by
       have:(bp.isEmpty==decide (k+1=L.length))=false:=by simpa using d
       rw[jR.out,HD.out,this];simp)
      cases hE:bp.isEmpty
      all_goals
       cases hK:decide (k+1=L.length)
       all_goals
        first
        | exact absurd (hE.trans hK.symm) d
        | (rw[hE] at l
           rw[hK] at j m;clear d;go_wp2_with(go_at_call 183;refine(HP.out _).mono ?_;rintro e w2 ⟨rfl,rfl⟩);go_ret;exact⟨by rw[hD.out];rfl,he0.trans (gZ.out.trans (Ext.alloc _ _))⟩)
   ·have E:decide ((k:Int)<L.length)=false:=aM af;obtain rfl:k=L.length:=af;go_wp2_with fail;go_ret;exact⟨by rw[jR.out,KX];rfl,he0.trans gZ.out⟩
end Go.Proofs.YteninnkbmoimgaaGreatDoor
namespace aD
def jo (L:List aG) (i:Nat):Nat:=if i=0 then 0 else eO (au L (i-1)).1 (au L i).1
def mg (L:List aG) (k:Nat):List Int:=(List.range k).map fun i=>(jo L i:Int)
end aD
namespace Go.Proofs.YteninnkbmoimgaaGreatDoor
open Go.RowKit aD
def cP (F:List Int):List Value:=F.map fun x=>.int .i64 x
theorem amz (w:World) (N:Nat) (n:N<=1000000):
 (Instr.makeSlice 101 (.int .i64 N) (.int .i64 N)).run Tryz.prog w=.ok (.slice (some ⟨w.heap.size,0,none⟩) N N) (w.alloc (.cells (cP (List.replicate N 0)).toArray 3)):=by
 obtain⟨i,g,b,d,e⟩:=lH uW;rw[run_make w 101 3 i _ Tryz.underlying101 g b .i64 .i64 N N af af (by rw[e];omega) af];have f:madeCells (Value.cells (.int .i64 0)) (((N:Int)).toNat*i.size)=(cP (List.replicate N 0)).toArray:=by
  apply Array.ext
  ·simp[madeCells,d,cP]
  ·intro j l m;simp[madeCells,cP,Value.cells,Nat.mod_one]
 rw[f];simp
theorem amA {L:List aG} {k:Nat} (h:k<L.length):(cP (mg L k++List.replicate (L.length-k) 0)).set k (.int .i64 (jo L k:Nat))=cP (mg L (k+1)++List.replicate (L.length-(k+1)) 0):=by
 have b:(mg L k).length=k:=by simp[mg]
 have e:L.length-k=(L.length-(k+1))+1:=af;have f:mg L (k+1)=mg L k++[(jo L k:Int)]:=by simp[mg,L0]
 have d:(List.replicate (L.length-k) (0:Int))=0::List.replicate (L.length-(k+1)) 0:=by rw[e,K1]
 unfold cP;rw[d,f];simp only[jW,dh,dQ,jk,Li];rw[RH _ _ (by simp[b])];simp[b]
theorem aa2 (q:Option Addr) (c:Nat) (L:List aG) (w:World) (h:iV w q L) (hl:L.length<=1000000) (hs:∀i,(au L i).1.length<=1000000):
 Calls Tryz.prog 172 #[.slice q L.length c] w fun e w'=>Ext w w'/\∃q' X,e=.returned (.slice q' L.length X)/\w'.ownsRow w.heap.size 3 1 (.slice q' L.length X) L.length (cP (mg L L.length)):=by
 have Hn:=ag h;have Hs:=ag hs;have T:=fun W=>amz W L.length hl;clear h hs;go_enter Tryz.func172,Tryz.ntmps172;go_upto_region 2 with(fail);have d:(w.alloc (.cells (cP (List.replicate L.length 0)).toArray 3)).ownsRow w.heap.size 3 1 (.slice (some ⟨w.heap.size,0,none⟩) L.length L.length) L.length (cP (mg L 0++List.replicate (L.length-0) 0)):=by
  have hr:(cP (List.replicate L.length 0)).length=L.length*1:=by simp[cP]
  refine⟨by simpa[mg] using hr,.inr ⟨w.heap.size,L.length,_,rfl,aH _,ah.new _ _,aH _,uM,by simpa using hr,?_⟩⟩;simp[mg,cP]
 refine aR (fun V=>Ext w V/\V.ownsRow w.heap.size 3 1 (.slice (some ⟨w.heap.size,0,none⟩) L.length L.length) L.length (cP (mg L 0++List.replicate (L.length-0) 0))) ⟨Ext.alloc _ _,d⟩ ?_;clear d T;rintro V ⟨R,d⟩;have HO:=ag d;generalize M:w.heap.size=N at *;clear d;go_wp2_with fail;go_loopw[10] (fun i wr=>∃k:Nat,k<=L.length/\i=.int .i64 k/\Ext w wr/\wr.ownsRow N 3 1 (.slice (some ⟨N,0,none⟩) L.length L.length) L.length (cP (mg L k++List.replicate (L.length-k) 0))) (fun i _=>L.length-(intOf i).toNat)
 case atStart=>exact⟨0,bL _,rfl,R,HO.out⟩
 case round=>
  obtain⟨k,hk,rfl,l,f⟩:=hrel;by_cases m:k<L.length
  ·have B:(k:Int)<L.length:=af;have F:=ag (amA m);obtain⟨b,off,rfl,hgb,r⟩:=(Hn.out.ext l).at k m;obtain⟨Y,_⟩:=r k m;cases k with
   | zero=>
     have e1:Hid (mg L 0++List.replicate (L.length-0) 0=mg L (0+1)++List.replicate (L.length-(0+1)) 0):=ag (by
      have:L.length-0=(L.length-(0+1))+1:=af;rw[this,K1];simp[mg,jo])
     rw[e1.out] at f;go_wp2_with fail;go_roundw
     case rel=>exact⟨1,af,bX,l,f⟩
     case measure=>exact ct
   | succ j=>
     obtain⟨Z,_⟩:=r j af;have yR:=Hs.out j;have G:=ag (fun w=>amx (au L j).1 (au L (j+1)).1 uM w);have u:Hid (jo L (j+1)=eO (au L j).1 (au L (j+1)).1):=ag (by unfold jo;rw[aA af];rfl);generalize eO (au L j).1 (au L (j+1)).1=E at *;generalize(au L j).1=sa at *;generalize(au L (j+1)).1=sb at *;have y:=ag f;have H:=ag l;clear r f l;have i1:((j+1:Nat):Int)-1=(j:Int):=af;have i2:(j:Int)<L.length:=af;have i3:(0:Int)<((j+1:Nat):Int):=af;go_upto_region 6 with(fail);refine eR 15 (Ext.refl wr) aj aj aj ?_;simp only[cY,eF,gj,dV,dP,gC,dh,dQ];repeat (first
      | (refine kN ?_)
      | (refine fR ?_)
      | (apply bT rfl
         ·intro a w' he hr K hK;simp[Reads,Oper.looksAt,Op.operands,Call.operands,aJ,Is] at hr;have hx:=he.cell;go_simp;try go_bits
          try(rw[aA af];go_simp)
          first
           | exact hK _ (Ext.refl _)
           | (refine(G.out _).mono ?_;rintro e w'' ⟨rfl,O⟩;exact hK _ O)
         simp only[bZ,bG,bN])
      | (refine fk ?_))
     intro w2 z;repeat (first | with_reducible refine cH _ _ _ _ ?_ | (with_reducible refine cI _ _ _ _ ?_;intro _ _) | with_reducible refine cJ _ _ ?_)
     simp only[cF,cK,bQ,bE];obtain⟨g,S,hg1,qQ,rR,jV,n⟩:=Fk (aO y.out z) (j+1) m;obtain rfl:N=g:=by simpa using S
     obtain⟨t,U⟩:=n (.int .i64 E);rw[show(Value.int IntKind.i64 (E:Int))=.int .i64 (jo L (j+1):Nat) from by rw[u.out],F.out] at t;have D:Ext w (w2.setCell ⟨N,j+1,none⟩ (.int .i64 E)):=(aI.setCell (g:=N)).ext (H.out.trans z) af;have C:(w2.setCell ⟨N,j+1,none⟩ (.int .i64 E)).ownsRow N 3 1 (.slice (some ⟨N,0,none⟩) L.length L.length) L.length (cP (mg L (j+1+1)++List.replicate (L.length-(j+1+1)) 0)):=by
      have:=t;rw[u.out] at this;exact this
     clear n t U;have J:=ag D;have I:=ag C;clear D C;go_wp2_with fail;go_roundw
     case rel=>exact⟨j+1+1,af,bX,J.out,I.out⟩
     case measure=>exact ct
  ·have B:decide ((k:Int)<L.length)=false:=aM af;obtain rfl:k=L.length:=af;go_wp2_with fail;go_ret;refine⟨l,_,_,rfl,?_⟩;rw[yS] at f;rw[M];simpa using f
end Go.Proofs.YteninnkbmoimgaaGreatDoor
namespace aD
def jB (L:List aG) (k:Nat):List UInt8:=if k=0 then[] else(au L (k-1)).1
theorem Dj (L:List aG) (k:Nat):jo L k=eO (jB L k) (au L k).1:=by
 unfold jo jB;split
 ·rw[CX]
 ·rfl
theorem amB {L:List aG} {k:Nat} (h:k<L.length):dZ (jB L k) (L.drop k)=6+((au L k).1.length-jo L k)+dZ (jB L (k+1)) (L.drop (k+1)):=by
 have e:L.drop k=au L k::L.drop (k+1):=by
  rw[gz h];simp[au,List.getD,h]
 rw[e,dZ,Dj];simp[jB]
theorem RI (L:List aG) (k:Nat):jo L k<=(au L k).1.length:=by rw[Dj];exact(Av _ _).2
theorem aa3 {L:List aG} {b:List UInt8} (h:cR b L=true) (i:Nat):(au L i).1.length<=32:=by
 by_cases d:i<L.length
 ·have:au L i∈L:=by
   simp only[au,List.getD,iB d,Option.getD_some];exact mN d
  exact(K5 L b h _ this).1
 ·simp[au,List.getD,tL (xU d)]
theorem aa4 {n:Nd} (h:eC n=true):1<=n.ai.length/\n.ai.length<=120/\cR [] n.ai=true:=by
 unfold eC at h;simp only[eu,gu] at h;exact⟨h.1.1.1.1.1.1,h.1.1.1.1.1.2,h.2⟩
theorem amC {n:Nd} (h:eC n=true):dZ [] n.ai<=4560:=by
 obtain⟨f,b,d⟩:=aa4 h;have:=Aw n.ai [] 32 (fun x e=>(K5 _ _ d x e).1);have:n.ai.length*(6+32)<=120*38:=CJ b (aH _);omega
theorem aa5 {L:List aG} {k:Nat} (h:k<L.length):(Go.Proofs.YteninnkbmoimgaaGreatDoor.cP (mg L L.length)).getD k Go.undef=.int .i64 (jo L k:Nat):=by
 simp[Go.Proofs.YteninnkbmoimgaaGreatDoor.cP,mg,List.getD,h]
end aD
namespace Go.Proofs.YteninnkbmoimgaaGreatDoor
open Go.RowKit aD
theorem aa6 (q:Option Addr) (c:Nat) (n:Nd) (w:World) (h:iV w q n.ai) (hl:n.ai.length<=1000000):
 Calls Tryz.prog 170 #[dO n q c] w fun e w'=>e=.returned (.int .i64 (ja n:Nat))/\Ext w w':=by
 have Z:=ag h;have B:=ag (fun W (e:Ext w W)=>RG q c n W (h.ext e) hl);have Y:=ag (fun W (e:Ext w W) X=>aa2 q c n.ai W (h.ext e) hl X);unfold dO at *;have F:=ah.new w (.cells #[.int .i64 n.level,.int .i64 n.next,.slice q n.ai.length c] 106);have D:Hid (ja n=if eC n then 6+dZ [] n.ai else 0):=ag rfl;have N:eC n=true->_:=amC (n:=n);have K:eC n=true->_:=aa4 (n:=n);cases hnb:eC n
 ·rw[hnb] at B D;clear N K h;go_enter Tryz.func170,Tryz.ntmps170;go_wp2_with(go_at_call 169;refine(B.out _ (by first | exact Ext.alloc _ _ | assumption)).mono ?_;rintro e J ⟨rfl,b⟩);go_ret;exact⟨by rw[D.out];rfl,(Ext.alloc _ _).trans b⟩
 ·have X:=N hnb;obtain⟨a1,a2,T⟩:=K hnb;have S:=ag (fun i=>fN (aa3 T i) (by decide:32<=1000000));have E:=ag (fun i=>aa3 T i);rw[hnb] at B D;generalize n.ai=L at *;clear N K h a1;go_enter Tryz.func170,Tryz.ntmps170;go_upto_region 4 with(go_at_call 169;refine(B.out _ (by first | exact Ext.alloc _ _ | assumption)).mono ?_;rintro e J ⟨rfl,b⟩);have m:Ext w J:=(Ext.alloc _ _).trans b;have z:=ag (Y.out J m S.out);have f:=b.blk _ _ F;have U:=ah.val f 2 _ rfl;have H:=ah.lt f;have u:=ag m;have Q:Hid (ja n=6+dZ [] L):=ag (by rw[D.out,aC trivial]);clear F b m Y B T D;go_upto_region 5 with(go_at_call 172;refine z.out.mono ?_;rintro e w4 ⟨t,q',c',rfl,l⟩);have r:=t.blk _ _ f;have y:=ag (u.out.trans t);have O:=ag (Z.out.ext y.out);have c2:=ah.val r 2 _ rfl;have aa7:=ah.lt r;have C:=ag l;clear U H r f t l z u Z;generalize J.heap.size=M at *;go_wp2_with fail;go_loopw[3,13] (fun o i wr=>∃k s:Nat,k<=L.length/\o=.int .i64 s/\i=.int .i64 k/\wr=w4/\s+dZ (jB L k) (L.drop k)=6+dZ [] L) (fun _ i _=>L.length-(intOf i).toNat)
  case atStart=>exact⟨0,6,bL _,rfl,rfl,rfl,by simp[jB]⟩
  case round=>
   obtain⟨k,s,hk,rfl,rfl,rfl,j⟩:=hrel;by_cases d:k<L.length
   ·have I:(k:Int)<L.length:=af;obtain⟨g,off,rfl,hgb,G⟩:=O.out.at k d;obtain⟨RJ,_⟩:=G k d;obtain⟨g',rfl,_,qQ,_,V,_⟩:=Fk C.out k d;rw[aa5 d] at V;have h1:=amB d;have h2:=RI L k;have h3:=E.out k;have h5:s<=10000:=af;have R:Hid (s+(6+((au L k).1.length-jo L k))+dZ (jB L (k+1)) (L.drop (k+1))=6+dZ [] L):=ag af;clear j h1 G X;generalize jo L k=fr at *;generalize(au L k).1=sa at *;go_wp2_with fail;go_roundw
    case rel=>exact⟨k+1,s+(6+(sa.length-fr)),af,bX,bX,trivial,R.out⟩
    case measure=>exact ct
   ·have I:decide ((k:Int)<L.length)=false:=aM af;obtain rfl:k=L.length:=af;rw[KX] at j;simp only[dZ] at j;go_wp2_with fail;go_ret;exact⟨by rw[Q.out,<-j];rfl,y.out⟩
theorem RK (n:Int) (w:World):
 Calls Tryz.prog 149 #[.int .i64 n] w fun e w'=>e=.returned (.bool (cQ n))/\w=w':=by
 go_enter Tryz.func149,Tryz.ntmps149;go_wp2;all_goals go_ret
 all_goals simp[cQ, *]
theorem amD (z:Int) (q:Option Addr) (c:Nat) (n:Nd) (w:World) (h:iV w q n.ai) (y:n.ai.length<=1000000):
 Calls Tryz.prog 153 #[.int .i64 z,dO n q c] w fun e w'=>e=.returned (.bool (kS z n))/\Ext w w':=by
 have t:=ag (fun w=>RK z w);have j:=ag (fun W (e:Ext w W)=>RG q c n W (h.ext e) y);have l:=ag (fun W (e:Ext w W)=>aa6 q c n W (h.ext e) y);have HR:Hid (kS z n=(cQ z&&eC n&&decide ((ja n:Int)<=z))):=ag rfl;have g:Hid (ah (w.alloc (.cells #[.int .i64 n.level,.int .i64 n.next,.slice q n.ai.length c] 106)) w.heap.size (.cells #[.int .i64 n.level,.int .i64 n.next,.slice q n.ai.length c] 106)):=ag (ah.new w _);unfold dO at *;generalize cQ z=C at *;generalize eC n=D at *;generalize ja n=s at *;cases C
 ·clear h j l;go_enter Tryz.func153,Tryz.ntmps153;go_wp2_with(go_at_call 149;refine(t.out _).mono ?_;rintro e m ⟨rfl,rfl⟩);go_ret;exact⟨nR,Ext.alloc _ _⟩
 cases D
 ·clear h l;have E:=ah.val g.out 0 _ rfl;have F:=ah.val g.out 1 _ rfl;have G:=ah.val g.out 2 _ rfl;go_enter Tryz.func153,Tryz.ntmps153;go_wp2_with(first | (go_at_call 149;refine(t.out _).mono ?_;rintro e m ⟨rfl,rfl⟩) | (go_at_call 169;refine(j.out _ (Ext.alloc _ _)).mono ?_;rintro e m ⟨rfl,d⟩));go_ret;exact⟨nR,(Ext.alloc _ _).trans d⟩
 ·clear h;go_enter Tryz.func153,Tryz.ntmps153;go_upto_region 1 with(fail);refine aR (fun i=>Ext w i/\ah i w.heap.size (.cells #[.int .i64 n.level,.int .i64 n.next,.slice q n.ai.length c] 106)) ⟨Ext.alloc _ _,g.out⟩ ?_;rintro i ⟨f,b⟩;have o:=ag (j.out i f);have r:=ag (fun W (e:Ext i W)=>l.out W (f.trans e));have E:=ah.val b 0 _ rfl;have F:=ah.val b 1 _ rfl;have G:=ah.val b 2 _ rfl;have B:=ah.lt b;clear g j l b;go_wp2_with(first | (go_at_call 149;refine(t.out _).mono ?_;rintro e m ⟨rfl,rfl⟩) | (go_at_call 169;refine o.out.mono ?_;rintro e m ⟨rfl,d⟩;have H:=d.cell) | (go_at_call 170;refine(r.out _ xV).mono ?_;rintro e I ⟨rfl,u⟩));go_ret;exact⟨by rw[HR.out];simp,(f.trans d).trans u⟩
end Go.Proofs.YteninnkbmoimgaaGreatDoor
namespace aD
theorem aa8 {key:List UInt8} {L:List aG} {k:Nat} (h:k<L.length):j3 key (L.drop k)=if bl key (au L k).1=true then some 0 else(j3 key (L.drop (k+1))).map (·+1):=by
 have e:L.drop k=au L k::L.drop (k+1):=by
  rw[gz h];simp[au,List.getD,h]
 rw[e];rfl
theorem RM {key:List UInt8}:∀{L:List aG} {i:Nat},j3 key L=some i->i<L.length
 | [],i,h=>by simp[j3] at h
 | x::L,i,h=>by
   unfold j3 at h;split at h
   ·simp at h;subst h;simp
   ·rw[Option.map_eq_some_iff] at h;obtain⟨j,b,d⟩:=h;have:=RM b;simp;omega
theorem yT (a b:List UInt8):(!Go.Op.bytesLess a b&&!a==b)=bl b a:=by
 rcases Au a b with h | h | h
 ·have d:bl b a=false:=sR h;have e:Go.Op.bytesLess a b=true:=h;rw[e,d];rfl
 ·subst h;have d:bl a a=false:=rI a;rw[d];simp
 ·have d:Go.Op.bytesLess a b=false:=sR h;have e:bl b a=true:=h;have f:=lZ h;rw[e,d];simp only[Bool.not_false,wC];cases hab:a==b
  ·rfl
  ·rw[jT] at hab;exact absurd hab.symm f
def amE:Option Nat->Int
 | none=>-1
 | some i=>i
end aD
namespace Go.Proofs.YteninnkbmoimgaaGreatDoor
open Go.RowKit aD
theorem amF (b:Nat) (key d:List UInt8) (pg:Int) (w:World) (f:ah w b (.cells #[.string ⟨key.toArray⟩] 9)):
 Calls Tryz.prog 168 #[.agg #[.string ⟨d.toArray⟩,.int .i64 pg],.pointer (some ⟨b,0,none⟩)] w fun e w'=>e=.returned (.bool (bl key d))/\Ext w w':=by
 have j:=ah.cell f;have g:=ah.lt f;have i:¬b=w.heap.size:=af;go_enter Tryz.func168,Tryz.ntmps168;go_wp2;go_ret;exact⟨jz (yT d key),Ext.alloc _ _⟩
theorem amG (p:Option Addr) (r:Nat) (L:List aG) (t:Nat) (key:List UInt8) (w:World) (E:iV w p L) (M:L.length<=1000000) (u:ah w t (.cells #[.string ⟨key.toArray⟩] 9)):
 Calls Tryz.prog 167 #[.slice p L.length r,.func (.func 168) #[] #[.pointer (some ⟨t,0,none⟩)]] w fun e w'=>e=.returned (.int .i64 (amE (j3 key L)))/\Ext w w':=by
 have H:=ag E;have G:=ag u;clear E u;go_enter Tryz.func167,Tryz.ntmps167;go_wp2_with fail;obtain⟨B,rfl⟩:∃B:World,B=w:=⟨_,rfl⟩;go_loopw[8] (fun i wr=>∃k:Nat,k<=L.length/\i=.int .i64 k/\j3 key L=(j3 key (L.drop k)).map (·+k)/\Ext B wr) (fun i _=>L.length-(intOf i).toNat)
 case atStart=>exact⟨0,bL _,rfl,av,Ext.refl _⟩
 case round=>
  obtain⟨k,K,rfl,D,d⟩:=hrel;have q:=ag D;clear D;by_cases l:k<L.length
  ·have o:(k:Int)<L.length:=af;obtain⟨b,I,rfl,u,C⟩:=(H.out.ext d).at k l;obtain⟨z,n⟩:=C k l;have m:=ag (aa8 (key:=key) l);clear C;generalize au L k=x at *;obtain⟨F,pg⟩:=x;simp only at z n m;have f:=ag (amF t key F pg _ (d.blk _ _ G.out));cases hbd:bl key F
   ·have g:Hid (j3 key L=(j3 key (L.drop (k+1))).map (·+(k+1))):=ag (by
     rw[q.out,m.out,hbd,aA av,Option.map_map];congr 1;funext y;simp;omega)
    rw[hbd] at f;clear hbd m;go_wp2_with(go_at_call 168;refine f.out.mono ?_;rintro e J ⟨rfl,j⟩);go_roundw
    case rel=>exact⟨k+1,af,bX,g.out,d.trans j⟩
    case measure=>exact ct
   ·have g:Hid (j3 key L=some k):=ag (by
     rw[q.out,m.out,hbd,aC rfl];simp)
    rw[hbd] at f;clear hbd m;go_wp2_with(go_at_call 168;refine f.out.mono ?_;rintro e J ⟨rfl,j⟩);go_ret;exact⟨by rw[g.out];rfl,d.trans j⟩
  ·have o:decide ((k:Int)<L.length)=false:=aY;go_wp2;go_ret;have:=q.out;rw[List.drop_of_length_le af] at this;exact⟨by rw[this];rfl,d⟩
theorem amH (q:Option Addr) (c:Nat) (n:Nd) (key:List UInt8) (w:World) (h:iV w q n.ai) (K:n.ai.length<=1000000):
 Calls Tryz.prog 148 #[dO n q c,.string ⟨key.toArray⟩] w fun e w'=>(n.ai≠[]->e=.returned (.int .i64 (bK n.ai key:Nat)))/\(∃v,e=.returned v)/\Ext w w':=by
 have C:=ag (fun W (e:Ext w W) H I=>amG q c n.ai H key W (h.ext e) K I);unfold dO;have d:=ah.new w (.cells #[.int .i64 n.level,.int .i64 n.next,.slice q n.ai.length c] 106);have f:=ah.new (w.alloc (.cells #[.int .i64 n.level,.int .i64 n.next,.slice q n.ai.length c] 106)) (.cells #[.string ⟨key.toArray⟩] 9);have o:=ah.alloc d (.cells #[.string ⟨key.toArray⟩] 9);have b:=(Ext.alloc w (.cells #[.int .i64 n.level,.int .i64 n.next,.slice q n.ai.length c] 106)).trans (Ext.alloc _ (.cells #[.string ⟨key.toArray⟩] 9));have F:=ag (fun i (D:j3 key n.ai=some i)=>RM D);have B:Hid (bK n.ai key=(j3 key n.ai).getD (n.ai.length-1)):=ag rfl;have O:=ag h;generalize j3 key n.ai=r at *;generalize bK n.ai key=fn at *;generalize n.ai=L at *;go_enter Tryz.func148,Tryz.ntmps148;go_upto_region 1 with(fail);refine aR (fun u=>Ext w u/\ah u w.heap.size (.cells #[.int .i64 n.level,.int .i64 n.next,.slice q L.length c] 106)/\ah u (w.heap.size+1) (.cells #[.string ⟨key.toArray⟩] 9)) ⟨b,o,by simpa using f⟩ ?_;clear d f o b h;rintro u ⟨g,d,f⟩;have G:=ah.val d 2 _ rfl;have t:=ah.lt d;have m:=ag (C.out u g _ f);have j:=ag d;have l:=ag g;clear C d f g;generalize w.heap.size=M at *;cases r with
 | none=>
   go_upto_region 2 with(go_at_call 167;refine m.out.mono ?_;rintro e N ⟨rfl,b⟩);have Q:=ah.val (b.blk _ _ j.out) 2 _ rfl;have E:=ah.lt (b.blk _ _ j.out);have y:=ag b;clear G t b;go_wp2_with fail;go_ret;refine⟨fun z=>?_,⟨_,rfl⟩,l.out.trans y.out⟩;rw[B.out];have:=uY.2 z;congr 2;simp only[Option.getD_none];go_num
 | some i=>
   have D:=F.out i rfl;have J:decide ((i:Int)<0)=false:=aM af;go_wp2_with(go_at_call 167;refine m.out.mono ?_;rintro e N ⟨rfl,b⟩);go_ret;exact⟨fun _=>by rw[B.out];rfl,⟨_,rfl⟩,l.out.trans b⟩
theorem Gk {w:World} {g:Nat} {E:TypeId} {b:Array Value} {n:Nat} {xs:List Value} (d:ah w g (.cells b E)) (h:b.toList.take n=xs):Cells w (some ⟨g,0,none⟩) xs:=by
 refine .inr ⟨g,0,rfl,ah.lt d,fun i hi=>?_⟩;subst h;have e:i<b.size:=yc;have f:i<n:=yc;refine ah.val d (0+i) _ ?_;simp[List.getD,qF,f,e]
end Go.Proofs.YteninnkbmoimgaaGreatDoor

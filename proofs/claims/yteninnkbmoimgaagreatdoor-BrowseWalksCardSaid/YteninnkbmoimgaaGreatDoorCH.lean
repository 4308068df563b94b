/- A part of the proof. -/
import Derived.Test.YteninnkbmoimgaaGreatDoorCU
set_option linter.unusedSimpArgs false
set_option linter.unusedVariables false
set_option maxRecDepth 100000
set_option maxHeartbeats 16000000
namespace Go.Proofs.YteninnkbmoimgaaGreatDoor
open Go.RowKit aD
theorem NL {w:World} {q:Option Addr} {xs:List Value} (h:Cells w q xs) (hx:xs≠[]):∃d,q=some d/\∀j u,xs[j]? =some u->w.cell? (d.add j)=some u:=by
 exact Ws
theorem aeU {w:World} {a b:Nat} {t:TypeId} {y z C D F G:Value} (r:ah w a (.cells #[y,z,C] t)) (u:ah w b (.cells #[D,F,G] t)) (g:a≠b) (d e f l m o:Value) {B k n:Nat} {E:TypeId} {v:Value} {xs:List Value} (h:w.ownsRow B E k v n xs) (j:E≠t):
 (six w a b d e f l m o).ownsRow B E k v n xs:=by
 have i:aI a w (((w.setCell ⟨a,0,none⟩ d).setCell ⟨a,1,none⟩ e).setCell ⟨a,2,none⟩ f):=(aI.setCell.trans aI.setCell).trans aI.setCell;have q:aI b (((w.setCell ⟨a,0,none⟩ d).setCell ⟨a,1,none⟩ e).setCell ⟨a,2,none⟩ f) (six w a b d e f l m o):=(aI.setCell.trans aI.setCell).trans aI.setCell;exact fo (fo h j r i) j (i.blk u (sL g)) q
def NM (n:Nd) (w:World) (e:Ending) (w':World):Prop:=Ext w w'/\
 if n.ai.length=1 then e=.returned (.tuple #[.agg #[.int .i64 0,.int .i64 0,.slice none 0 0],.agg #[.int .i64 0,.int .i64 0,.slice none 0 0],.string ⟨#[]⟩,.int .i64 9])
 else ∃d f j i,e=.returned (.tuple #[.agg #[.int .i64 n.level,.int .i64 0,.slice d ((n.ai.length+1)/2:Nat) f],.agg #[.int .i64 n.level,.int .i64 n.next,.slice j (n.ai.length-(n.ai.length+1)/2) i],.string ⟨((au n.ai ((n.ai.length+1)/2-1)).1).toArray⟩,.int .i64 0])/\
  w'.ownsRow w.heap.size 142 2 (.slice d ((n.ai.length+1)/2) f) ((n.ai.length+1)/2) (aV (cC (n.ai.take ((n.ai.length+1)/2))))/\
  ∃b,w.heap.size<=b/\(∀g,d=some ⟨g,0,none⟩->g<b)/\w'.ownsRow b 142 2 (.slice j (n.ai.length-(n.ai.length+1)/2) i) (n.ai.length-(n.ai.length+1)/2) (aV (n.ai.drop ((n.ai.length+1)/2)))
theorem aeV (q:Option Addr) (c:Nat) (n:Nd) (w:World) (h:iV w q n.ai) (hv:eC n=true) (hcap:n.ai.length<=c):
 Calls Tryz.prog 140 #[dO n q c] w (NM n w):=by
 have hs:=ia.1 hv;have hl1:=hs.l1;have hl2:=hs.l2;have HP:=ag (fun W (e:Ext w W)=>Gl q c n W (h.ext e) af);rw[hv] at HP;have D:Hid (∀e w',NM n w e w'↔(Ext w w'/\
  if n.ai.length=1 then e=.returned (.tuple #[.agg #[.int .i64 0,.int .i64 0,.slice none 0 0],.agg #[.int .i64 0,.int .i64 0,.slice none 0 0],.string ⟨#[]⟩,.int .i64 9])
  else ∃q1 N q2 c2,e=.returned (.tuple #[.agg #[.int .i64 n.level,.int .i64 0,.slice q1 ((n.ai.length+1)/2:Nat) N],.agg #[.int .i64 n.level,.int .i64 n.next,.slice q2 (n.ai.length-(n.ai.length+1)/2) c2],.string ⟨((au n.ai ((n.ai.length+1)/2-1)).1).toArray⟩,.int .i64 0])/\
   w'.ownsRow w.heap.size 142 2 (.slice q1 ((n.ai.length+1)/2) N) ((n.ai.length+1)/2) (aV (cC (n.ai.take ((n.ai.length+1)/2))))/\
   ∃B2,w.heap.size<=B2/\(∀g,q1=some ⟨g,0,none⟩->g<B2)/\w'.ownsRow B2 142 2 (.slice q2 (n.ai.length-(n.ai.length+1)/2) c2) (n.ai.length-(n.ai.length+1)/2) (aV (n.ai.drop ((n.ai.length+1)/2))))):=ag (fun _ _=>Iff.rfl)
 have Hn:=ag h;generalize NM n w=OUT at *;unfold dO at HP⊢;have hb0:ah (w.alloc (.cells #[.int .i64 n.level,.int .i64 n.next,.slice q n.ai.length c] 106)) w.heap.size (.cells #[.int .i64 n.level,.int .i64 n.next,.slice q n.ai.length c] 106):=ah.new w _;go_enter Tryz.func140,Tryz.ntmps140;go_upto_region 1 with(fail);refine aR (fun w0=>Ext w w0/\ah w0 w.heap.size (.cells #[.int .i64 n.level,.int .i64 n.next,.slice q n.ai.length c] 106)/\ah w0 (w.heap.size+1) (.cells #[.int .i64 0,.int .i64 0,.slice none 0 0] 106)/\ah w0 (w.heap.size+1+1) (.cells #[.int .i64 0,.int .i64 0,.slice none 0 0] 106)) ⟨((Ext.alloc _ _).trans (Ext.alloc _ _)).trans (Ext.alloc _ _),ah.alloc (ah.alloc hb0 _) _,ah.alloc (by simpa using ah.new (w.alloc (.cells #[.int .i64 n.level,.int .i64 n.next,.slice q n.ai.length c] 106)) (.cells #[.int .i64 0,.int .i64 0,.slice none 0 0] 106)) _,by simpa using ah.new ((w.alloc (.cells #[.int .i64 n.level,.int .i64 n.next,.slice q n.ai.length c] 106)).alloc (.cells #[.int .i64 0,.int .i64 0,.slice none 0 0] 106)) (.cells #[.int .i64 0,.int .i64 0,.slice none 0 0] 106)⟩ ?_;clear hb0 h hs hv;rintro w0 ⟨t,hb0,O,R⟩;by_cases a1:n.ai.length=1
 ·have i1:((n.ai.length:Int)==1)=true:=aY;have I:=ag a1;clear a1;go_upto_region 4 with(first
   | (refine WU ?_)
   | (go_at_call 126;refine(HP.out _ t).mono ?_;rintro e G ⟨rfl,b⟩;have D1:=ah.val (b.blk _ _ hb0) 2 _ rfl;have hl':=ah.lt (b.blk _ _ hb0)))
  have d:=b.blk _ _ O;have f:=b.blk _ _ R;have d0:=ah.val d 0 _ rfl;have d1:=ah.val d 1 _ rfl;have d2:=ah.val d 2 _ rfl;have f0:=ah.free d 0;have f1:=ah.free d 1;have f2:=ah.free d 2;have Uo:=ah.lt d;have d3:=ah.val f 0 _ rfl;have d4:=ah.val f 1 _ rfl;have d5:=ah.val f 2 _ rfl;have f3:=ah.free f 0;have f4:=ah.free f 1;have f5:=ah.free f 2;have vv:=ah.lt f;have H:=ag (abn d f af (.int .i64 0) (.int .i64 0) (.slice none 0 0) (.int .i64 0) (.int .i64 0) (.slice none 0 0));have hx1:=ag (t.trans b);go_wp2_with fail;exact bY (Gd Tryz.results140 _ _ _ _ _ _ _ _ _ _ rfl H.out.1 cZ rfl bq rfl H.out.2.1 cZ rfl bq) rfl ((D.out _ _).2 ⟨H.out.2.2 w hx1.out af af,by rw[aC I.out];rfl⟩)
 ·have i1:((n.ai.length:Int)==1)=false:=aY;have I:=ag a1;have eK:((n.ai.length:Int)+1)/2=((((n.ai.length+1)/2:Nat)):Int):=af;have hK1:(n.ai.length+1)/2<n.ai.length:=af;have hK0:1<=(n.ai.length+1)/2:=af;clear a1;go_upto_region 6 with(first
   | (refine WU ?_)
   | (go_at_call 126;refine(HP.out _ t).mono ?_;rintro e G ⟨rfl,b⟩;have D1:=ah.val (b.blk _ _ hb0) 2 _ rfl;have hl':=ah.lt (b.blk _ _ hb0)))
  rw[eK];generalize hK:(n.ai.length+1)/2=K at *;clear eK;have r:=ag (t.trans b);have NC:=ag (b.blk _ _ hb0);have CT:=ag (b.blk _ _ O);have Ak:=ag (b.blk _ _ R);have hKc:K<=c:=af;have hKn:K<=n.ai.length:=af;have L:=ag (Hn.out.ext r.out);obtain⟨gb,C,rfl,azA,_⟩:=L.out.at 0 af;have Z:(aV (n.ai.take K)).length=K*2:=PJ;have asl:Hid (∀W,Ext G W->∃ad,(some ⟨gb,C,none⟩:Option Addr)=some ad/\∀j u,(aV (n.ai.take K))[j]? =some u->W.cell? (ad.add j)=some u):=ag (fun W e=>by
   refine NL (xs:=aV (n.ai.take K)) ?_ (fun h0=>by rw[h0] at Z;simp at Z;omega);rw[AU];exact Cells.take (L.out.ext e) _)
  clear t b hb0 O R HP hK;go_upto_region 7 with(at_builtin;refine qE rfl fun _ hK=>?_;refine rN (.tmp 26) (.tmp 30) 104 142 rfl G.heap.size (.agg #[.string ByteArray.empty,.int .i64 0]) 2 24 Tryz.underlying104 um rfl G.heap.size rfl (ah.new G _) (aH _) (some ⟨gb,C,none⟩) K c (aV (n.ai.take K)) rfl Z (fun _=>asl.out _ (Ext.alloc _ _)) af aq (Ext.alloc _ _).size ?_;intro v1 w2 X he2;refine hK _ _ ?_);obtain⟨q1,N,rfl⟩:=cE X;obtain⟨g,cur,rfl,hg0,m,hgn,BO,BP,V⟩:=jM X af;have i3:(K:Int)-1=((K-1:Nat):Int):=af;have i4:((K-1:Nat):Int)<(K:Int):=af;have F:cur[(K-1)*2]? =some (.string ⟨(au n.ai (K-1)).1.toArray⟩):=by
   have h:=(LZ n.ai (K-1) af).1;have h2:(aV n.ai)[(K-1)*2]? =(aV (n.ai.take K))[(K-1)*2]? :=by rw[AU,D4 af]
   rw[h2,<-V,D4 af,Nb] at h;exact h
  have T:=ah.val m _ _ F;have hfr:=ah.free m ((K-1)*2);have lg:=ah.lt m;have lJ:=ag ((Ext.alloc G (.cells #[] 142)).trans he2);have HgB:=ag m;have J:Hid (aI g w2 (w2.setCell ⟨g,(K-1)*2,none⟩ (.string ⟨#[]⟩))):=ag aI.setCell;have HoL:Hid ((w2.setCell ⟨g,(K-1)*2,none⟩ (.string ⟨#[]⟩)).ownsRow G.heap.size 142 2 (.slice (some ⟨g,0,none⟩) K N) K (aV (cC (n.ai.take K)))):=ag (by
   refine⟨by rw[qC,tT,gF];omega,.inr ⟨g,N,_,rfl,hg0,ah.setCell m,hgn,BO,by simpa using BP,?_⟩⟩;rw[Du,Ae,amV _ _ hK0 hK1,V,AU])
  have z:=ag (J.out.ext lJ.out hg0);have E:g<(w2.setCell ⟨g,(K-1)*2,none⟩ (.string ⟨#[]⟩)).heap.size:=by rw[J.out.size];exact lg
  clear X he2 m F V BP hgn BO D1 hl';generalize(au n.ai (K-1)).1=bp at *;go_upto_region 9 with(fail);generalize w2.setCell ⟨g,(K-1)*2,none⟩ (.string ⟨#[]⟩)=w3 at *;clear T hfr lg i3 i4 J HgB lJ;have S:=z.out.blk _ _ NC.out;have k2:=ah.val S 2 _ rfl;have lk:=ah.lt S;have U:(aV (n.ai.drop K)).length=(n.ai.length-K)*2:=by rw[qC,eU]
  have azB:¬c=K:=af;have M:Hid (∀W,Ext G W->∃ad,(some ⟨gb,C+K*2,none⟩:Option Addr)=some ad/\∀j u,(aV (n.ai.drop K))[j]? =some u->W.cell? (ad.add j)=some u):=ag (fun W e=>by
   refine NL (xs:=aV (n.ai.drop K)) ?_ (fun h0=>by rw[h0] at U;simp at U;omega);rw[Mc];exact Cells.drop (L.out.ext e) _)
  go_upto_region 10 with(at_builtin;refine qE rfl fun _ hK=>?_;refine rN (.tmp 43) (.tmp 47) 104 142 rfl w3.heap.size (.agg #[.string ByteArray.empty,.int .i64 0]) 2 24 Tryz.underlying104 um rfl w3.heap.size rfl (ah.new w3 _) (aH _) (some ⟨gb,C+K*2,none⟩) (n.ai.length-K) (c-K) (aV (n.ai.drop K)) rfl U (fun _=>M.out _ (z.out.trans (Ext.alloc _ _))) af aq (Ext.alloc _ _).size ?_;intro v4 w4 Y ek;refine hK _ _ ?_);obtain⟨q4,c4,rfl⟩:=cE Y;have y:=(Ext.alloc w3 (.cells #[] 142)).trans ek;have HoR:=ag Y;have HBB:=ag (And.intro (fN r.out.size z.out.size) E);clear E;have asp:=ag (fJ (aO HoL.out y) r.out.size);have B:=ag (z.out.trans y);have hA:=B.out.blk _ _ NC.out;have i:=B.out.blk _ _ CT.out;have l:=B.out.blk _ _ Ak.out;clear Y ek y k2 lk S HoL;have a0:=ah.val hA 0 _ rfl;have a1:=ah.val hA 1 _ rfl;have a2:=ah.val hA 2 _ rfl;have r0:=ah.val i 0 _ rfl;have r1:=ah.val i 1 _ rfl;have r2:=ah.val i 2 _ rfl;have s0:=ah.val l 0 _ rfl;have s1:=ah.val l 1 _ rfl;have s2:=ah.val l 2 _ rfl;have f0:=ah.free i 0;have f1:=ah.free i 1;have f2:=ah.free i 2;have g0:=ah.free l 0;have g1:=ah.free l 1;have g2:=ah.free l 2;have l1:=ah.lt hA;have l3:=ah.lt i;have l4:=ah.lt l;go_region;all_goals
   go_wp2_with fail;have H:=abn i l af (.int .i64 n.level) (.int .i64 0) (.slice (some ⟨g,0,none⟩) K N) (.int .i64 n.level) (.int .i64 n.next) (.slice q4 (n.ai.length-K) c4);have hw1:=r.out.size;have NN:=ah.lt Ak.out;exact bY (Gd Tryz.results140 _ _ _ _ _ _ _ _ _ _ rfl ((Ext.drew _).blk _ _ H.1) cZ rfl bq rfl ((Ext.drew _).blk _ _ H.2.1) cZ rfl bq) rfl ((D.out _ _).2 ⟨(H.2.2 w (r.out.trans B.out) af af).trans (Ext.drew _),by
    rw[aA I.out];exact⟨some ⟨g,0,none⟩,N,q4,c4,rfl,aO (aeU i l af _ _ _ _ _ _ asp.out aq) (Ext.drew _),w3.heap.size,HBB.out.1,fun g' e=>by simp only[mz,Addr.mk.injEq,kD] at e;rw[<-e];exact HBB.out.2,aO (aeU i l af _ _ _ _ _ _ HoR.out aq) (Ext.drew _)⟩⟩)
theorem NP {g d:Nat} {w w':World} {B k n c:Nat} {e:TypeId} {xs:List Value} (h:w.ownsRow B e k (.slice (some ⟨d,0,none⟩) n c) n xs) (b:aI g w w') (f:d≠g):w'.ownsRow B e k (.slice (some ⟨d,0,none⟩) n c) n xs:=by
 refine h.kept (row:=some g) ⟨b.os,b.tape,b.output,by rw[b.size];exact aH _,fun k _ i=>b.block k (fun e=>i (by rw[e]))⟩ ?_;right;intro e;exact f (by simpa[Value.ownBlock] using e)
theorem asq {w:World} {B g n c i:Nat} {L:List aG} (h:w.ownsRow B 142 2 (.slice (some ⟨g,0,none⟩) n c) n (aV L)) (y:i<n) (pg:Int):
 (w.setCell ⟨g,i*2+1,none⟩ (.int .i64 pg)).ownsRow B 142 2 (.slice (some ⟨g,0,none⟩) n c) n (aV (L.set i ((au L i).1,pg)))/\w.frozen? ⟨g,i*2+1,none⟩=false/\(∃f,w.cell? ⟨g,i*2+1,none⟩=some f)/\g<w.heap.size/\B<=g:=by
 have t:=h.1;rw[qC] at t;obtain⟨u,b,l,j,d,m,o,q,r⟩:=jM h af;simp only[mz,Addr.mk.injEq,kD] at l;subst l;have e:i*2+1<b.size:=af;refine⟨⟨by rw[qC,pE];omega,.inr ⟨g,c,_,rfl,j,ah.setCell d,m,o,by simpa using q,?_⟩⟩,ah.free d _,⟨b[i*2+1],ah.val d _ _ (yq e)⟩,ah.lt d,j⟩;rw[Du,Ae,r,adQ _ _ _ af]
theorem asr {w:World} {vs:List Value} {V:List aB} (h:og w vs V) (K:Nat):og w (vs.take K) (V.take K):=by
 refine⟨by rw[gF,gF,h.1],fun i e=>?_⟩;rw[gF] at e;have b:(vs.take K).getD i undef=vs.getD i undef:=by simp[List.getD,qF,show i<K by omega]
 have d:(V.take K).getD i []=V.getD i []:=by simp[List.getD,qF,show i<K by omega]
 rw[b,d];exact h.2 i af
theorem ass {w:World} {vs:List Value} {V:List aB} (h:og w vs V) (K:Nat):og w (vs.drop K) (V.drop K):=by
 refine⟨by rw[eU,eU,h.1],fun i e=>?_⟩;rw[eU] at e;have b:(vs.drop K).getD i undef=vs.getD (K+i) undef:=by simp[List.getD,CE]
 have d:(V.drop K).getD i []=V.getD (K+i) []:=by simp[List.getD,CE]
 rw[b,d];exact h.2 (K+i) af
theorem D5 (b lv nx:Int) (q:Option Addr) (n c:Nat) (p:Option Addr) (k m:Nat):Tryz.prog.built 109 [(0,.int .i64 b),(1,.agg #[.int .i64 lv,.int .i64 nx,.slice q n c]),(2,.slice p k m)]=some #[.int .i64 b,.int .i64 lv,.int .i64 nx,.slice q n c,.slice p k m]:=aj
def D6 (w:World) (B:Nat):World:={w with heap:=w.heap.extract 0 B}
theorem ast (w:World) (B:Nat):Ext (D6 w B) w:=by
 refine⟨rfl,rfl,rfl,?_,fun k b=>?_⟩
 ·simp[D6];omega
 ·simp[D6] at b⊢;simp[Array.getElem?_extract,show k<B by omega,show k<w.heap.size by omega];omega
theorem asu {w:World} {B:Nat} (h:B<=w.heap.size):(D6 w B).heap.size=B:=by simp[D6];omega
theorem asv {wc w:World} {b:Nat} {o:Obj} (e:Ext wc w) (d:b<wc.heap.size) (h:ah w b o):ah wc b o:=(e.block b d).symm.trans h
theorem asw {w wc wr:World} (h:Ext w wr) (c:Ext wc wr) (d:w.heap.size<=wc.heap.size):Ext w wc:=
 ⟨c.os.symm.trans h.os,c.tape.symm.trans h.tape,c.output.symm.trans h.output,d,fun k b=>(c.block k (fM b d)).symm.trans (h.block k b)⟩
def RA (b:Nat):Rel:=fun w w'=>(∃d,ah w b (.cells d 109))/\aI b w w'
theorem zy {b B k n:Nat} {w w':World} {e:TypeId} {v:Value} {xs:List Value} (c:RA b w w') (h:w.ownsRow B e k v n xs) (d:e≠109):w'.ownsRow B e k v n xs:=by
 obtain⟨⟨i,f⟩,g⟩:=c;exact fo h d f g
theorem UE {b g:Nat} {w w':World} {t:TypeId} {e:Array Value} (c:RA b w w') (h:ah w g (.cells e t)) (d:t≠109):ah w' g (.cells e t):=by
 obtain⟨⟨f,i⟩,j⟩:=c;exact j.blk h (AZ h i d)
def sw (b lv nx:Int) (q:Option Addr) (n c k N:Nat) (xs:List Value):Fact:=fun x w=>∃p m,x=.agg #[.int .i64 b,.int .i64 lv,.int .i64 nx,.slice q n c,.slice p k m]/\w.ownsRow N 31 1 (.slice p k m) k xs
def D7 (z:Nat) (b lv nx:Int) (q:Option Addr) (n c k N:Nat) (xs:List Value) (S:World->Prop):Fact:=fun _ w=>(∃p m,ah w z (.cells #[.int .i64 b,.int .i64 lv,.int .i64 nx,.slice q n c,.slice p k m] 109)/\w.ownsRow N 31 1 (.slice p k m) k xs)/\S w
theorem sw.ay (b lv nx:Int) (q:Option Addr) (n c k N:Nat) (xs:List Value):(sw b lv nx q n c k N xs).ay:=fun _ _ _ f ⟨p,m,d,e⟩=>⟨p,m,d,aO e f⟩
theorem D7.ay (z:Nat) (b lv nx:Int) (q:Option Addr) (n c k N:Nat) (xs:List Value) (S:World->Prop) (i:∀w w',Ext w w'->S w->S w'):(D7 z b lv nx q n c k N xs S).ay:=fun _ _ _ d ⟨⟨p,m,e,f⟩,g⟩=>⟨⟨p,m,d.blk _ _ e,aO f d⟩,i _ _ d g⟩
def BQ (z y:Nat):Nat->Rel:=fun i=>if i=20 then RA z else RA y
theorem zz {l:List Oper} {z y k g i:Nat} {f:Fact} (h:∀b v w w',RA b w w'->f v w->f v w'):Pre.iF .any l [(20,[(0,g)]),(21,[(13,i)])] (BQ z y) k f:=fun x _=>.inr fun v w w' d e=>by
 unfold BQ at d;split at d
 ·exact h _ _ _ _ d e
 ·exact h _ _ _ _ d e
theorem sw.ra {b lv nx:Int} {q:Option Addr} {n c k N:Nat} {xs:List Value} (z:Nat) (v:Value) (w w':World) (r:RA z w w') (h:sw b lv nx q n c k N xs v w):sw b lv nx q n c k N xs v w':=by
 obtain⟨p,m,d,e⟩:=h;exact⟨p,m,d,zy r e aq⟩
theorem dJ.ra {B n:Nat} {xs:List Value} (z:Nat) (v:Value) (w w':World) (r:RA z w w') (h:dJ 31 B 1 n xs v w):dJ 31 B 1 n xs v w':=by
 obtain⟨q,c,b,d⟩:=h;exact⟨q,c,b,zy r d aq⟩
theorem nP.ra {B:Nat} (z:Nat) (v:Value) (w w':World) (r:RA z w w') (h:nP 31 B v w):nP 31 B v w':=by
 obtain⟨b,d,e,f⟩:=h;exact⟨b,d,UE r e aq,f⟩
def PrA (z y:Nat) (S:World->Prop):Nat->World->Prop:=fun p w=>S w/\ah w y (.cells cA 109)/\(p=20->ah w z (.cells cA 109))
theorem asy {l:List Oper} {e:World} {z y D E:Nat} {G1 G2:Fact} (u:e.heap.size<=z) (t:e.heap.size<=y) (q:G1.ay) (r:G2.ay) (k1:∀v w w',RA y w w'->G1 v w->G1 v w') (B:kU .any l 0 20=true) (C:kU .any l 13 21=true) (H:kU .any l 20 21=true->True) (k2:∀v w w',RA z w w'->G2 v w->G2 v w'):
 uj l e [(20,[(0,D)]),(21,[(13,E)])] (BQ z y) (fun p _=>if p=20 then G1 else G2):=by
 have m:∀b,e.heap.size<=b->∀w w',RA b w w'->Below e.heap.size w w':=fun b G w w' ⟨⟨F,o⟩,c⟩=>⟨c.os,c.tape,c.output,by rw[c.size];have:=ah.lt o;omega,fun k d=>c.block k af⟩;refine⟨fun i w w' h=>?_,fun i j=>?_,fun p j i d n g x a b h f=>?_,fun p j d=>?_⟩
 ·unfold BQ at h;split at h
  ·exact m z u _ _ h
  ·exact m y t _ _ h
 ·split
  ·exact q
  ·exact r
 ·simp[iT] at d;simp[eN] at n;unfold BQ at h;rcases d with⟨rfl,rfl⟩ | ⟨rfl,rfl⟩
  ·rw[aC rfl] at f⊢;rw[aA g] at h;exact k1 _ _ _ h f
  ·rw[aA aq] at f⊢;have:i=20:=by rcases n with h | h<;>omega
   rw[aC this] at h;exact k2 _ _ _ h f
 ·simp[iT] at d;rcases d with⟨rfl,rfl⟩ | ⟨rfl,rfl⟩
  ·exact .inr B
  ·exact .inr C
theorem asz {l:List Oper} {N z y B C:Nat} {S:World->Prop} (u:kU .any l 20 21=true) (i:y≠z) (o:∀w w',Ext w w'->S w->S w') (t:∀w w',RA z w w'->S w->S w') (n:gI .any l.toArray N=true):Pre.sU .any l.toArray [(20,[(0,B)]),(21,[(13,C)])] (BQ z y) (PrA z y S):=by
 refine⟨fun p _ w w' f ⟨b,d,j⟩=>⟨o _ _ f b,f.blk _ _ d,fun e=>f.blk _ _ (j e)⟩,fun p q m g hne=>?_⟩;simp[eN] at m g;rcases m with rfl | rfl
 ·rcases g with rfl | rfl
  ·exact tP
  ·exact .inl (rK n u)
 ·rcases g with rfl | rfl
  ·refine .inr fun w w' r ⟨b,d,j⟩=>?_;unfold BQ at r;rw[aC rfl] at r;exact⟨t _ _ r b,r.2.blk d i,fun e=>af⟩
  ·exact tP
def tv (d:DS) (a:Ar) (base:Int) (w:World) (e:Ending) (w':World):Prop:=Ext w w'/\
 if(dD d a&&eX base)=false then e=.returned (.tuple #[.agg cA,.agg cA,.string ⟨#[]⟩,.int .i64 1])
 else if a.ak.length=1 then e=.returned (.tuple #[.agg cA,.agg cA,.string ⟨#[]⟩,.int .i64 9])
 else ∃(m:Option Addr) (b:Nat) (j:Option Addr) (g:Nat) (n:Option Addr) (f:Nat) (l:Option Addr) (i:Nat),e=.returned (.tuple #[.agg (bn (oC a base) m b j g),.agg (bn (oD a base) n f l i),.string ⟨(gK a).toArray⟩,.int .i64 0])/\cX w' (oC a base) m b j g/\cX w' (oD a base) n f l i
theorem asA (d:DS) (a:Ar) (q:Option Addr) (c:Nat) (p:Option Addr) (m:Nat) (base:Int) (w:World) (hv:cX w a q c p m) (h1:a.nd.ai.length<=1000000) (h2:a.ak.length<=1000000) (h3:∀i,Small (a.ak.getD i [])):
 Calls Tryz.prog 97 #[.agg (az d),.agg (bn a q c p m),.int .i64 base] w (tv d a base w):=by
 have HV:=ag (fun W (e:Ext w W)=>yY d a q c p m W (hv.ext e).x h1 h2 h3);have Hv:=ag hv;have hda:=oJ w d a q c p m;have yO:=(Ext.alloc ((w.alloc (.cells (az d) 23)).alloc (.cells (bn a q c p m) 109)) (.cells cA 109)).trans (Ext.alloc _ (.cells cA 109));cases hA:dD d a
 ·have HO:Hid (∀e w',tv d a base w e w'↔(Ext w w'/\e=.returned (.tuple #[.agg cA,.agg cA,.string ⟨#[]⟩,.int .i64 1]))):=ag (fun e w'=>by unfold tv;rw[hA,aC (Bool.false_and _)]);rw[hA] at HV;generalize tv d a base w=OUT at *;clear hA hv;exact Rz
 ·have J:∀(hb:eX base=false),∀e w',tv d a base w e w'↔(Ext w w'/\e=.returned (.tuple #[.agg cA,.agg cA,.string ⟨#[]⟩,.int .i64 1])):=fun hb e w'=>by unfold tv;rw[hA,hb,aC (Bool.and_false _)]
  rw[hA] at HV;by_cases b1:base<1
  ·have HO:=ag (J (by unfold eX;rw[aM af];rfl));have hd1:decide (base<1)=true:=bM b1;clear J hA hv;generalize tv d a base w=OUT at *;exact Rz
  ·have hd1:decide (base<1)=false:=aM b1;by_cases b2:16777208<base
   ·have HO:=ag (J (by unfold eX;rw[aM (show ¬base<=16777208 by omega),Bool.and_false]));have pU:decide (16777208<base)=true:=bM b2;clear J hA hv;generalize tv d a base w=OUT at *;exact Rz
   ·have pU:decide (16777208<base)=false:=aM b2;clear J;have I:=lD.1 hA;have NQ:Hid (∀e w',tv d a base w e w'↔(Ext w w'/\if a.ak.length=1 then e=.returned (.tuple #[.agg cA,.agg cA,.string ⟨#[]⟩,.int .i64 9])
     else ∃(q1:Option Addr) (E:Nat) (p1:Option Addr) (m1:Nat) (q2:Option Addr) (C:Nat) (p2:Option Addr) (m2:Nat),e=.returned (.tuple #[.agg (bn (oC a base) q1 E p1 m1),.agg (bn (oD a base) q2 C p2 m2),.string ⟨(gK a).toArray⟩,.int .i64 0])/\cX w' (oC a base) q1 E p1 m1/\cX w' (oD a base) q2 C p2 m2)):=ag (fun e w'=>by
      unfold tv;rw[hA,aA (by unfold eX;rw[bM (show 1<=base by omega),bM (show base<=16777208 by omega)];simp)])
    have HS:=ag (fun W (e:Ext w W)=>aeV q c a.nd W (hv.ai.ext e) I.node hv.ec);have UF:=ag I.len;generalize tv d a base w=OUT at *;have HI:=ag I;clear hA hv I;unfold NM dO at HS;go_enter Tryz.func97,Tryz.ntmps97;go_upto_region 1 with(fail);refine aR (fun w0=>Ext w w0/\bI w0 w.heap.size d/\eS w0 (w.heap.size+1) a q c p m/\ah w0 (w.heap.size+1+1) (.cells cA 109)/\ah w0 (w.heap.size+1+1+1) (.cells cA 109)) ⟨hda.1.trans yO,hda.2.1.ext yO,hda.2.2.ext yO,(Ext.alloc _ _).blk _ _ (ah.new1 _ _ _ av),ah.new1 _ _ _ av⟩ ?_;clear hda yO;rintro w0 ⟨he0,dr,ha0,hz0,hy0⟩;by_cases M:a.ak.length=1
    ·have UG:=ag M;have uD:a.nd.ai.length=1:=by rw[<-UF.out];exact M
     have tw:Hid (∀W,Ext w W->Calls Tryz.prog 140 #[.agg #[.int .i64 a.nd.level,.int .i64 a.nd.next,.slice q a.nd.ai.length c]] W fun e' N=>Ext W N/\e'=.returned (.tuple #[.agg #[.int .i64 0,.int .i64 0,.slice none 0 0],.agg #[.int .i64 0,.int .i64 0,.slice none 0 0],.string ⟨#[]⟩,.int .i64 9])):=ag (fun W e=>(HS.out W e).mono (fun e' N h=>by rw[aC uD] at h;exact h));clear M uD HS;go_wp2_with(first
      | (refine EG ?_)
      | (refine Ch ?_)
      | (go_at_call 70;refine(HV.out _ he0).mono ?_;rintro e w1 ⟨rfl,bU⟩;have hz1:=bU.blk _ _ hz0;have hy1:=bU.blk _ _ hy0;have ha1:=ha0.ext bU;have sz1:=bU.size)
      | (refine Wj ?_)
      | (go_at_call 140;refine(tw.out _ (he0.trans bU)).mono ?_;rintro e w2 ⟨z,rfl⟩;have hz2:=z.blk _ _ hz1;have I1:=z.blk _ _ hy1;have UH:=ah.lt hz2;have ly2:=ah.lt I1)
      | (refine aU rfl 106 (.tmp 10) (.tmp 34) rfl _ #[.int .i64 0,.int .i64 0,.slice none 0 0] rfl rfl _ _ (ah.alloc (ah.new w2 _) _) bq rfl cT ?_;intro w7 D8 L)
      | (refine aU rfl 106 (.tmp 11) (.tmp 35) rfl _ #[.int .i64 0,.int .i64 0,.slice none 0 0] rfl rfl _ _ (L.blk (ah.new1 _ _ _ av) af) bq rfl cT ?_;intro w8 BR O)
      | (refine dW (o:=⟨some 40,_,_,_,_,_⟩) rfl 109 #[] rfl [] rfl _ ny ?_)
      | (refine dW (o:=⟨some 41,_,_,_,_,_⟩) rfl 109 #[] rfl [] rfl _ ny ?_)
      | (refine aU rfl 109 (.tmp 6) (.tmp 40) rfl _ cA rfl rfl _ _ (O.blk (L.blk (ah.alloc (ah.alloc hz2 _) _) af) af) aZ rfl lB ?_;intro w3 jA iA)
      | (refine aU rfl 109 (.tmp 7) (.tmp 41) rfl _ cA rfl rfl _ _ (iA.blk (O.blk (L.blk (ah.alloc (ah.alloc I1 _) _) af) af) af) aZ rfl lB ?_;intro w4 RB yP))
     exact bY (Gd Tryz.results97 _ _ _ _ _ _ _ _ _ _ rfl (yP.blk jA af) cL rfl aZ rfl RB cL rfl aZ) rfl ((NQ.out _ _).2 ⟨yP.ext (iA.ext (O.ext (L.ext (((he0.trans bU).trans z).trans ((Ext.alloc _ _).trans (Ext.alloc _ _))) (by have:=z.size;have:=he0.size;omega)) (by have:=z.size;have:=he0.size;omega)) af) af,by rw[aC UG.out];rfl⟩)
    ·have UG:=ag M;have hn2:2<=a.nd.ai.length:=by
      have h1:=(ia.1 HI.out.node).l1;have h2:=UF.out;omega
     have hnl:=UF.out;have BR:a.nd.ai.length<=120:=(ia.1 HI.out.node).l2;have hnone:¬a.nd.ai.length=1:=af;have iZ:Hid (∀W,Ext w W->Calls Tryz.prog 140 #[.agg #[.int .i64 a.nd.level,.int .i64 a.nd.next,.slice q a.nd.ai.length c]] W fun e' N=>Ext W N/\∃q1 E q2 C,e'=.returned (.tuple #[.agg #[.int .i64 a.nd.level,.int .i64 0,.slice q1 ((a.nd.ai.length+1)/2:Nat) E],.agg #[.int .i64 a.nd.level,.int .i64 a.nd.next,.slice q2 (a.nd.ai.length-(a.nd.ai.length+1)/2) C],.string ⟨((au a.nd.ai ((a.nd.ai.length+1)/2-1)).1).toArray⟩,.int .i64 0])/\
      N.ownsRow W.heap.size 142 2 (.slice q1 ((a.nd.ai.length+1)/2) E) ((a.nd.ai.length+1)/2) (aV (cC (a.nd.ai.take ((a.nd.ai.length+1)/2))))/\
      ∃B2,W.heap.size<=B2/\(∀g,q1=some ⟨g,0,none⟩->g<B2)/\N.ownsRow B2 142 2 (.slice q2 (a.nd.ai.length-(a.nd.ai.length+1)/2) C) (a.nd.ai.length-(a.nd.ai.length+1)/2) (aV (a.nd.ai.drop ((a.nd.ai.length+1)/2)))):=ag (fun W e=>(HS.out W e).mono (fun e' N h=>by rw[aA hnone] at h;exact h))
     have HL:Hid (oC a base=⟨a.base,⟨a.nd.level,base,cC (a.nd.ai.take ((a.nd.ai.length+1)/2))⟩,a.ak.take ((a.nd.ai.length+1)/2)⟩):=ag rfl;have HR:Hid (oD a base=⟨base,⟨a.nd.level,a.nd.next,iI (base+1) (a.nd.ai.drop ((a.nd.ai.length+1)/2))⟩,a.ak.drop ((a.nd.ai.length+1)/2)⟩):=ag rfl;have HMd:Hid (gK a=(au a.nd.ai ((a.nd.ai.length+1)/2-1)).1):=ag rfl;have hK1:(a.nd.ai.length+1)/2<a.nd.ai.length:=af;have hK0:1<=(a.nd.ai.length+1)/2:=af;have hl1:(cC (a.nd.ai.take ((a.nd.ai.length+1)/2))).length=(a.nd.ai.length+1)/2:=PN;have hl2:(a.nd.ai.drop ((a.nd.ai.length+1)/2)).length=a.nd.ai.length-(a.nd.ai.length+1)/2:=eU;generalize uD:cC (a.nd.ai.take ((a.nd.ai.length+1)/2))=E1 at *;generalize BA:a.nd.ai.drop ((a.nd.ai.length+1)/2)=E2 at *;generalize(au a.nd.ai ((a.nd.ai.length+1)/2-1)).1=bp at *;generalize oC a base=LA at *;generalize oD a base=RAr at *;generalize gK a=MA at *;generalize(a.nd.ai.length+1)/2=K at *;have UI:=ag hl1;have I2:=ag hl2;have I3:=ag hnl;clear uD BA hl1 hl2 hnl M hnone HS hn2;go_upto_region 6 with(first
      | (refine EG ?_)
      | (refine Ch ?_)
      | (go_at_call 70;refine(HV.out _ he0).mono ?_;rintro e w1 ⟨rfl,bU⟩;have hz1:=bU.blk _ _ hz0;have hy1:=bU.blk _ _ hy0;have ha1:=ha0.ext bU;have sz1:=bU.size)
      | (refine Wj ?_)
      | (go_at_call 140;refine(iZ.out _ (he0.trans bU)).mono ?_;rintro e w2 ⟨z,q1,E,q2,C,rfl,l,B2,hB2,I4,f⟩;have hz2:=z.blk _ _ hz1;have I1:=z.blk _ _ hy1;have UH:=ah.lt hz2;have ly2:=ah.lt I1)
      | (refine aU rfl 106 (.tmp 10) (.tmp 34) rfl _ #[.int .i64 a.nd.level,.int .i64 0,.slice q1 K E] rfl rfl _ _ (ah.alloc (ah.new w2 _) _) bq rfl cT ?_;intro w7 D8 L)
      | (refine aU rfl 106 (.tmp 11) (.tmp 35) rfl _ #[.int .i64 a.nd.level,.int .i64 a.nd.next,.slice q2 (a.nd.ai.length-K) C] rfl rfl _ _ (L.blk (ah.new1 _ _ _ av) af) bq rfl cT ?_;intro w8 BR O))
     have T:Ext w2 w8:=O.ext (L.ext ((Ext.alloc _ _).trans (Ext.alloc _ _)) (aH _)) af;obtain⟨G,cu1,rfl,hg1,U,_⟩:=jM l af;obtain⟨F,cu2,rfl,qQ,V,_⟩:=jM f af;have azG:G≠F:=by have:=I4 G rfl;omega
     have lg1:=ah.lt U;have lg2:=ah.lt V;have hs1:=bU.size;refine aR (fun w9=>Ext w1 w9/\ah w9 w2.heap.size (.cells #[.int .i64 a.nd.level,.int .i64 0,.slice (some ⟨G,0,none⟩) K E] 106)/\ah w9 (w2.heap.size+1) (.cells #[.int .i64 a.nd.level,.int .i64 a.nd.next,.slice (some ⟨F,0,none⟩) (a.nd.ai.length-K) C] 106)/\w9.ownsRow w1.heap.size 142 2 (.slice (some ⟨G,0,none⟩) K E) K (aV E1)/\w9.ownsRow B2 142 2 (.slice (some ⟨F,0,none⟩) (a.nd.ai.length-K) C) (a.nd.ai.length-K) (aV E2))
      ⟨z.trans T,O.blk D8 af,BR,aO l T,aO f T⟩ ?_
     have M0:=ag (he0.trans bU);have UJ:=ag hz1;have Hy1:=ag hy1;have Ha1:=ag ha1;have vk:=z.size;have hge:=he0.size;have hBw:w.heap.size<=w1.heap.size:=fN hge hs1;clear T D8 BR L O l f U V he0 bU z hz0 hy0 hz1 hy1 hz2 I1 dr ha0 ha1 I4 HV iZ;generalize hna:w2.heap.size=Z at *;rintro w9 ⟨rU,n,t,l,f⟩;have a1:=ah.val n 1 _ rfl;have f1:=ah.free n 1;have la:=ah.lt n;have lb:=ah.lt t;have H:aI Z w9 (w9.setCell ⟨Z,1,none⟩ (.int .i64 base)):=aI.setCell;go_upto_region 8 with(fail);refine aR (fun wx=>Ext w1 wx/\ah wx Z (.cells #[.int .i64 a.nd.level,.int .i64 base,.slice (some ⟨G,0,none⟩) K E] 106)/\ah wx (Z+1) (.cells #[.int .i64 a.nd.level,.int .i64 a.nd.next,.slice (some ⟨F,0,none⟩) (a.nd.ai.length-K) C] 106)/\wx.ownsRow w1.heap.size 142 2 (.slice (some ⟨G,0,none⟩) K E) K (aV E1)/\wx.ownsRow B2 142 2 (.slice (some ⟨F,0,none⟩) (a.nd.ai.length-K) C) (a.nd.ai.length-K) (aV E2))
      ⟨H.ext rU af,ah.setCell n,H.blk t af,NP l H af,NP f H af⟩ ?_
     clear H rU n t l f a1 f1 la lb;rintro wx ⟨D,n,t,l,f⟩;go_loopw[14] (fun i wr=>∃k:Nat,k<=a.nd.ai.length-K/\i=.int .i64 k/\Ext w1 wr/\ah wr Z (.cells #[.int .i64 a.nd.level,.int .i64 base,.slice (some ⟨G,0,none⟩) K E] 106)/\ah wr (Z+1) (.cells #[.int .i64 a.nd.level,.int .i64 a.nd.next,.slice (some ⟨F,0,none⟩) (a.nd.ai.length-K) C] 106)/\wr.ownsRow w1.heap.size 142 2 (.slice (some ⟨G,0,none⟩) K E) K (aV E1)/\wr.ownsRow B2 142 2 (.slice (some ⟨F,0,none⟩) (a.nd.ai.length-K) C) (a.nd.ai.length-K) (aV (xw (base+1) E2 k))) (fun i _=>a.nd.ai.length-K-(intOf i).toNat)
     case atStart=>exact⟨0,bL _,rfl,D,n,t,l,by simpa[xw,iI] using f⟩
     case round=>
      clear D n t l f;obtain⟨k,hk,rfl,D,n,t,l,f⟩:=hrel;by_cases hlt:k<a.nd.ai.length-K
      ·have gB:(k:Int)<((a.nd.ai.length-K:Nat):Int):=af;obtain⟨UK,hfr,⟨old,hvl⟩,hlg,hgB⟩:=asq f hlt (base+1+k);have b2:=ah.val t 2 _ rfl;have lb:=ah.lt t;have hbk:base+1+(k:Int)<=20000000:=af;have H:=ag (show aI F wr (wr.setCell ⟨F,k*2+1,none⟩ (.int .i64 (base+1+k))) from aI.setCell);have HW:=ag (And.intro D (And.intro n (And.intro t l)));have HN:Hid ((wr.setCell ⟨F,k*2+1,none⟩ (.int .i64 (base+1+k))).ownsRow B2 142 2 (.slice (some ⟨F,0,none⟩) (a.nd.ai.length-K) C) (a.nd.ai.length-K) (aV (xw (base+1) E2 (k+1)))):=ag (by
        rw[aqM (by rw[I2.out];omega)] at UK;exact UK)
       clear D n t l f UK hgB;go_wp2_with fail;go_roundw
       case rel=>exact⟨k+1,af,bX,H.out.ext HW.out.1 af,H.out.blk HW.out.2.1 af,H.out.blk HW.out.2.2.1 af,NP HW.out.2.2.2 H.out af,HN.out⟩
       case measure=>exact ct
      ·have gB:decide ((k:Int)<((a.nd.ai.length-K:Nat):Int))=false:=aY;have hkn:k=E2.length:=by have:=I2.out;omega
       have e8:xw (base+1) E2 k=iI (base+1) E2:=by rw[hkn];simp[xw]
       rw[e8] at f;clear e8 hkn;have a2:=ah.val n 2 _ rfl;have la:=ah.lt n;have b2:=ah.val t 2 _ rfl;have lb:=ah.lt t;go_upto_region 12 with(fail);have UL:=I3.out;obtain⟨gp,jf,vp,rfl,ke,_⟩:=(Hv.out.ak.ext (M0.out.trans D)).at 0 af;obtain⟨vs,uE,sx⟩:=Hv.out.ak;have hvl:vs.length=a.ak.length:=sx.1;have hkl:(vs.take K).length=K*1:=by rw[gF,hvl];omega
       have CQ:(vs.drop K).length=(a.ak.length-K)*1:=by rw[eU,hvl];omega
       have UM:=UJ.out;have asG:=ah.lt UJ.out;have hylt:=ah.lt Hy1.out;have wY:=D.size;have asH:=ah.lt n;have asI:=ah.lt t;have DC:=ast wr (w.heap.size+1+1);have hcs:=asu (w:=wr) (B:=w.heap.size+1+1) af;generalize D6 wr (w.heap.size+1+1)=wc at DC hcs;have hwc:Ext w wc:=asw (M0.out.trans D) DC af;have ae0:eS wc (w.heap.size+1) a q c (some ⟨gp,jf,none⟩) m:=asv DC af (Ha1.out.ext D);obtain⟨e0,_,_,_,e4,le⟩:=ae0.cells;have tw:Hid (∀W,Ext wc W->∃ad,(some ⟨gp,jf,none⟩:Option Addr)=some ad/\∀j u,(vs.take K)[j]? =some u->W.cell? (ad.add j)=some u):=ag (fun W e=>
        NL (Cells.take (uE.ext (hwc.trans e)) K) (fun h0=>by rw[h0,lC] at hkl;omega))
       have iZ:Hid (∀W,Ext wc W->∃ad,(some ⟨gp,jf+K,none⟩:Option Addr)=some ad/\∀j u,(vs.drop K)[j]? =some u->W.cell? (ad.add j)=some u):=ag (fun W e=>
        NL (Cells.drop (uE.ext (hwc.trans e)) K) (fun h0=>by rw[h0,lC] at CQ;omega))
       have Xn:=ag hkl;have Hdl:=ag CQ;have Hcx:=ag DC;have Hcs:=ag hcs;have HS:Hid (∃S:World->Prop,(S=fun W=>ah W Z (.cells #[.int .i64 a.nd.level,.int .i64 base,.slice (some ⟨G,0,none⟩) K E] 106)/\ah W (Z+1) (.cells #[.int .i64 a.nd.level,.int .i64 a.nd.next,.slice (some ⟨F,0,none⟩) (a.nd.ai.length-K) C] 106)/\W.ownsRow w1.heap.size 142 2 (.slice (some ⟨G,0,none⟩) K E) K (aV E1)/\W.ownsRow B2 142 2 (.slice (some ⟨F,0,none⟩) (a.nd.ai.length-K) C) (a.nd.ai.length-K) (aV (iI (base+1) E2)))/\S wr):=ag ⟨_,rfl,n,t,l,f⟩;obtain⟨S,hSd,IB⟩:=HS.out;have NR:Hid (∀W,S W->ah W Z (.cells #[.int .i64 a.nd.level,.int .i64 base,.slice (some ⟨G,0,none⟩) K E] 106)/\ah W (Z+1) (.cells #[.int .i64 a.nd.level,.int .i64 a.nd.next,.slice (some ⟨F,0,none⟩) (a.nd.ai.length-K) C] 106)/\W.ownsRow w1.heap.size 142 2 (.slice (some ⟨G,0,none⟩) K E) K (aV E1)/\W.ownsRow B2 142 2 (.slice (some ⟨F,0,none⟩) (a.nd.ai.length-K) C) (a.nd.ai.length-K) (aV (iI (base+1) E2))):=ag (fun W h=>by rw[hSd] at h;exact h);have hSE:∀W N,Ext W N->S W->S N:=fun W N e h=>by rw[hSd] at h⊢;exact⟨e.blk _ _ h.1,e.blk _ _ h.2.1,aO h.2.2.1 e,aO h.2.2.2 e⟩
       have hSR:∀b W N,RA b W N->S W->S N:=fun b W N r h=>by rw[hSd] at h⊢;exact⟨UE r h.1 aq,UE r h.2.1 aq,zy r h.2.2.1 aq,zy r h.2.2.2 aq⟩
       have UN:=ag hSE;have NS:=ag hSR;have DX:=ag IB;have UO:=ag (And.intro (D.blk _ _ UJ.out) (D.blk _ _ Hy1.out));have hKm:K<=m:=by have:=Hv.out.ic;omega
       have azJ:(K:Int)<=m:=af;have hKv:K<=a.ak.length:=af;have azL:(K:Int)<=a.ak.length:=af;have hmK:¬m=K:=by have:=Hv.out.ic;omega
       have Br:=ag (sx.ext hwc);have Hwc:=ag hwc;have Hxx:=ag D;have azO:a.ak.length<=1000:=af;have hK8:K<=1000:=af;clear hkl CQ uE hvl D n t l f a2 la b2 lb ke UL HS hSd IB hSE hSR sx hwc ae0 DC hcs asG hylt wY asH asI UM;refine Pre.kH 200 [(20,[(0,64)]),(21,[(13,77)])] (Hcx.out) aj aj aj aj aj aj (asy (G1:=D7 (w.heap.size+1+1) a.base a.nd.level base (some ⟨G,0,none⟩) K E K wc.heap.size (vs.take K) (fun _=>True)) (G2:=D7 (w.heap.size+1+1+1) base a.nd.level a.nd.next (some ⟨F,0,none⟩) (a.nd.ai.length-K) C (a.ak.length-K) wc.heap.size (vs.drop K) S) (by rw[Hcs.out];omega) (by rw[Hcs.out];omega) (D7.ay _ _ _ _ _ _ _ _ _ _ _ (fun _ _ _ _=>trivial)) (D7.ay _ _ _ _ _ _ _ _ _ _ _ UN.out) (fun v w w' r h=>by obtain⟨⟨Y,X,h1,h2⟩,h3⟩:=h;exact⟨⟨Y,X,r.2.blk h1 af,zy r h2 aq⟩,trivial⟩) aj aj (fun _=>trivial) (fun v w w' r h=>by obtain⟨⟨Y,X,h1,h2⟩,h3⟩:=h;exact⟨⟨Y,X,r.2.blk h1 af,zy r h2 aq⟩,NS.out _ _ _ r h3⟩)) (asz (S:=S) aj af UN.out (NS.out _)) (fun p hp=>⟨DX.out,UO.out.2,fun _=>UO.out.1⟩) ?_;simp only[cY,eF,gj,dV,dP,gC,dh,dQ];repeat (first
        | (refine Pre.dF (o:=⟨some 66,_,_,_,_,_⟩) (v:=.agg #[.int .i64 a.nd.level,.int .i64 base,.slice (some ⟨G,0,none⟩) K E]) (fun k v=>Pre.iF.is _ _ _ _ k v) aj aP ?_ ?_
           ·intro a' w' he0 hp hr K' hK;have R:=hp 21 aj aj;simp[Reads,Oper.looksAt,Op.operands,aJ,Is] at hr;exact eG 106 (.tmp 10) rfl Z dX _ _ _ _ (NR.out _ R.1).1 cZ rfl bq (hK _ (Ext.refl _))
           refine aE ?_)
        | (refine Pre.dF (o:=⟨some 75,_,_,_,_,_⟩) (v:=.agg #[.int .i64 a.nd.level,.int .i64 a.nd.next,.slice (some ⟨F,0,none⟩) (a.nd.ai.length-K) C]) (fun k v=>Pre.iF.is _ _ _ _ k v) aj aP ?_ ?_
           ·intro a' w' he0 hp hr K' hK;have R:=hp 21 aj aj;simp[Reads,Oper.looksAt,Op.operands,aJ,Is] at hr;exact eG 106 (.tmp 11) rfl (Z+1) dX _ _ _ _ (NR.out _ R.1).2.1 cZ rfl bq (hK _ (Ext.refl _))
           refine aE ?_)
        | (refine Pre.dY (o:=⟨some 67,_,_,_,_,_⟩) (nP 31 wc.heap.size) (nP.ay _ _) (zz nP.ra) aj aP ?_ ?_
           ·exact YT
           refine aE ?_)
        | (refine Pre.dY (o:=⟨some 76,_,_,_,_,_⟩) (nP 31 wc.heap.size) (nP.ay _ _) (zz nP.ra) aj aP ?_ ?_
           ·exact YT
           refine aE ?_)
        | (refine Pre.dY (o:=⟨some 72,_,_,_,_,_⟩) (dJ 31 wc.heap.size 1 K (vs.take K)) (dJ.ay _ _ _ _ _) (zz dJ.ra) aj aP ?_ ?_
           ·intro a' w' he0 hp hr K' hK;obtain⟨b,U,V,lS⟩:=hr 67 gM;have hs:=hr 71 gM;refine rN (.tmp 67) (.tmp 71) 107 31 rfl wc.heap.size (.slice none 0 0) 1 24 Tryz.underlying107 sY rfl b U V lS (some ⟨gp,jf,none⟩) K m (vs.take K) hs Xn.out (fun _=>tw.out _ he0) af aq he0.size ?_;exact J1
           refine aE ?_)
        | (refine Pre.dY (o:=⟨some 81,_,_,_,_,_⟩) (dJ 31 wc.heap.size 1 (a.ak.length-K) (vs.drop K)) (dJ.ay _ _ _ _ _) (zz dJ.ra) aj aP ?_ ?_
           ·intro a' w' he0 hp hr K' hK;obtain⟨b,U,V,lS⟩:=hr 76 gM;have hs:=hr 80 gM;refine rN (.tmp 76) (.tmp 80) 107 31 rfl wc.heap.size (.slice none 0 0) 1 24 Tryz.underlying107 sY rfl b U V lS (some ⟨gp,jf+K,none⟩) (a.ak.length-K) (m-K) (vs.drop K) hs Hdl.out (fun _=>iZ.out _ he0) af aq he0.size ?_;exact J1
           refine aE ?_)
        | (refine Pre.dY (o:=⟨some 73,_,_,_,_,_⟩) (sw a.base a.nd.level base (some ⟨G,0,none⟩) K E K wc.heap.size (vs.take K)) (sw.ay _ _ _ _ _ _ _ _ _) (zz sw.ra) aj aP ?_ ?_
           ·intro a' w' he0 hp hr K' hK;have Ph:=hr 65 bO;have EN:=hr 66 bO;obtain⟨q',c',Pj,ho'⟩:=hr 72 bO;refine tJ 109 #[(0,.tmp 65),(1,.tmp 66),(2,.tmp 72)] rfl ?_ ?_
            ·rw[show((#[(0,Operand.tmp 65),(1,Operand.tmp 66),(2,Operand.tmp 72)]:Array (Nat×Operand)).map fun(i,x)=>(i,a'.eval x)).toList=[(0,.int .i64 a.base),(1,.agg #[.int .i64 a.nd.level,.int .i64 base,.slice (some ⟨G,0,none⟩) K E]),(2,.slice q' K c')] from Wv,D5];rfl
            ·rw[show((#[(0,Operand.tmp 65),(1,Operand.tmp 66),(2,Operand.tmp 72)]:Array (Nat×Operand)).map fun(i,x)=>(i,a'.eval x)).toList=[(0,.int .i64 a.base),(1,.agg #[.int .i64 a.nd.level,.int .i64 base,.slice (some ⟨G,0,none⟩) K E]),(2,.slice q' K c')] from Wv,D5];exact hK _ _ (Ext.refl _) ⟨q',c',rfl,ho'⟩
           refine aE ?_)
        | (refine Pre.dY (o:=⟨some 82,_,_,_,_,_⟩) (sw base a.nd.level a.nd.next (some ⟨F,0,none⟩) (a.nd.ai.length-K) C (a.ak.length-K) wc.heap.size (vs.drop K)) (sw.ay _ _ _ _ _ _ _ _ _) (zz sw.ra) aj aP ?_ ?_
           ·intro a' w' he0 hp hr K' hK;have Ph:=hr 74 bO;have EN:=hr 75 bO;obtain⟨q',c',Pj,ho'⟩:=hr 81 bO;refine tJ 109 #[(0,.tmp 74),(1,.tmp 75),(2,.tmp 81)] rfl ?_ ?_
            ·rw[show((#[(0,Operand.tmp 74),(1,Operand.tmp 75),(2,Operand.tmp 81)]:Array (Nat×Operand)).map fun(i,x)=>(i,a'.eval x)).toList=[(0,.int .i64 base),(1,.agg #[.int .i64 a.nd.level,.int .i64 a.nd.next,.slice (some ⟨F,0,none⟩) (a.nd.ai.length-K) C]),(2,.slice q' (a.ak.length-K) c')] from Ww,D5];rfl
            ·rw[show((#[(0,Operand.tmp 74),(1,Operand.tmp 75),(2,Operand.tmp 81)]:Array (Nat×Operand)).map fun(i,x)=>(i,a'.eval x)).toList=[(0,.int .i64 base),(1,.agg #[.int .i64 a.nd.level,.int .i64 a.nd.next,.slice (some ⟨F,0,none⟩) (a.nd.ai.length-K) C]),(2,.slice q' (a.ak.length-K) c')] from Ww,D5];exact hK _ _ (Ext.refl _) ⟨q',c',rfl,ho'⟩
           refine aE ?_)
        | (refine Pre.iU (o:=⟨none,_,_,_,_,_⟩) Any Any.ay (zz (fun _ _ _ _ _ _=>trivial)) aj aP ?_ ?_
           ·intro a' w' he0 hp hr K' hK;have R:=hp 20 aj aj;have h6:=hr 6 bO;obtain⟨Y,X,UQ,fI⟩:=hr 73 bO;refine nC 109 (.tmp 6) (.tmp 73) rfl (w.heap.size+1+1) #[.int .i64 a.base,.int .i64 a.nd.level,.int .i64 base,.slice (some ⟨G,0,none⟩) K E,.slice Y K X] h6 UQ _ _ (R.2.2 rfl) aZ rfl cT ?_;exact hK _ _ ⟨⟨_,R.2.2 rfl⟩,aI.setRow⟩ trivial (fun x hx nQ y hy=>by
             simp at hx;rcases hx with rfl | rfl
             ·simp at hy;subst hy;exact⟨⟨Y,X,ah.setRow (R.2.2 rfl),zy (show RA (w.heap.size+1+1) _ _ from⟨⟨_,R.2.2 rfl⟩,aI.setRow⟩) fI aq⟩,trivial⟩
             ·simp at nQ)
           refine aE ?_)
        | (refine Pre.iU (o:=⟨none,_,_,_,_,_⟩) Any Any.ay (zz (fun _ _ _ _ _ _=>trivial)) aj aP ?_ ?_
           ·intro a' w' he0 hp hr K' hK;have R:=hp 21 aj aj;have h6:=hr 7 bO;obtain⟨Y,X,UQ,fI⟩:=hr 82 bO;refine nC 109 (.tmp 7) (.tmp 82) rfl (w.heap.size+1+1+1) #[.int .i64 base,.int .i64 a.nd.level,.int .i64 a.nd.next,.slice (some ⟨F,0,none⟩) (a.nd.ai.length-K) C,.slice Y (a.ak.length-K) X] h6 UQ _ _ R.2.1 aZ rfl cT ?_;exact hK _ _ ⟨⟨_,R.2.1⟩,aI.setRow⟩ trivial (fun x hx nQ y hy=>by
             simp at hx;rcases hx with rfl | rfl
             ·simp at nQ
             ·simp at hy;subst hy;exact⟨⟨Y,X,ah.setRow R.2.1,zy (show RA (w.heap.size+1+1+1) _ _ from⟨⟨_,R.2.1⟩,aI.setRow⟩) fI aq⟩,NS.out _ _ _ ⟨⟨_,R.2.1⟩,aI.setRow⟩ R.1⟩)
           refine aE ?_)
        | (refine CB ?_)
        | (refine E5 ?_))
       intro w2 z;simp only[iJ,iQ,jS,kW,bG,bN];repeat (first | with_reducible refine cH _ _ _ _ ?_ | (with_reducible refine cI _ _ _ _ ?_;intro _ _) | with_reducible refine cJ _ _ ?_)
       simp only[cF,cK,bQ,bE];rename_i v1 F1 v2 F2 v3 F3 v4 F4 v5 F5 v6 F6 v7 F7 v8 F8;clear F2 F3 F4 F5 F7 F8;simp only[pF] at F1;rw[aA aq] at F6;obtain⟨⟨Y,X,hzF,ae4⟩,_⟩:=F1;obtain⟨⟨p8,m8,hyF,ae5⟩,hSF⟩:=F6;obtain⟨_,_,l,f⟩:=NR.out _ hSF;clear hSF NR UN NS DX UO tw iZ;go_wp2_with fail;have ae7:=Br.out.ext z;obtain⟨hcA,asP,azQ⟩:=gh l;obtain⟨UR,asQ,azR⟩:=gh f;obtain⟨NT,asR,asS⟩:=gh ae4;obtain⟨hcJ,asU,asV⟩:=gh ae5;have l1:=UI.out;have l3:(iI (base+1) E2).length=a.nd.ai.length-K:=by rw[Ll,I2.out]
       have l4:(a.ak.take K).length=K:=kQ;have l5:(a.ak.drop K).length=a.ak.length-K:=eU;have eA:bn ⟨a.base,⟨a.nd.level,base,E1⟩,a.ak.take K⟩ (some ⟨G,0,none⟩) E Y X=#[.int .i64 a.base,.int .i64 a.nd.level,.int .i64 base,.slice (some ⟨G,0,none⟩) K E,.slice Y K X]:=by
        unfold bn;simp only[l1,l4]
       have eB:bn ⟨base,⟨a.nd.level,a.nd.next,iI (base+1) E2⟩,a.ak.drop K⟩ (some ⟨F,0,none⟩) C p8 m8=#[.int .i64 base,.int .i64 a.nd.level,.int .i64 a.nd.next,.slice (some ⟨F,0,none⟩) (a.nd.ai.length-K) C,.slice p8 (a.ak.length-K) m8]:=by
        unfold bn;simp only[l3,l5]
       refine bY (Gd Tryz.results97 _ _ _ _ _ _ _ _ _ _ rfl hzF cL rfl aZ rfl hyF cL rfl aZ) rfl ((NQ.out _ _).2 ⟨Hwc.out.trans z,?_⟩);rw[aA UG.out,HL.out,HR.out,HMd.out];exact⟨some ⟨G,0,none⟩,E,Y,X,some ⟨F,0,none⟩,C,p8,m8,by rw[eA,eB];rfl,
        ⟨hcA,⟨_,NT,asr ae7 K⟩,by simp only[l1];exact asP,by simp only[l4];exact asR,asS,gL.oe l,gL.oe ae4⟩,
        ⟨UR,⟨_,hcJ,ass ae7 K⟩,by simp only[l3];exact asQ,by simp only[l5];exact asU,asV,gL.oe f,gL.oe ae5⟩⟩
end Go.Proofs.YteninnkbmoimgaaGreatDoor

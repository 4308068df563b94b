/- A part of the proof. -/
import Derived.Test.YteninnkbmoimgaaGreatDoorQM0
set_option linter.unusedSimpArgs false
set_option linter.unusedVariables false
set_option maxRecDepth 100000
set_option maxHeartbeats 16000000
namespace Go.Proofs.YteninnkbmoimgaaGreatDoor
open Go.RowKit aD
theorem axI (w:World) {B n b:Nat} {v:Value} {xs:List Value} (e:w.ownsRow B 37 2 v n xs) (y:List UInt8×List UInt8) (m:ah w b (.cells (fF y) 37)) (D:n+1<=1000000) (t:B<=w.heap.size):
 ∃f w',(Builtin.append_ #[33,33] 33 #[v,.slice (some ⟨b,0,none⟩) 1 1]).run Tryz.prog w=.ok f w'/\w'.ownsRow B 37 2 f (n+1) (xs++[.string ⟨y.1.toArray⟩,.string ⟨y.2.toArray⟩])/\w.grownBy w' v.ownBlock:=by
 obtain⟨C,z,g,i,l⟩:=lH Gw;obtain⟨f,w',o,q,r,_⟩:=run_append_own (P:=Tryz.prog) w B 33 33 37 C (.agg #[.string ByteArray.empty,.string ByteArray.empty]) 2 32 Tryz.underlying33 z g i l rfl aq v n xs e ⟨b,0,none⟩ 1 1 [.string ⟨y.1.toArray⟩,.string ⟨y.2.toArray⟩] rfl (fun j u d=>by
  rw[addr_add];rcases j with _ | _ | j
  ·simp at d;subst d;exact ah.val m 0 _ rfl
  ·simp at d;subst d;exact ah.val m 1 _ rfl
  ·simp at d) vO uM af t
 exact⟨f,w',o,q,r⟩
def aiR:Value->Nat
 | .slice _ n _=>n
 | _=>0
structure sA (w:World) (h:Hd) (d:DS) (cu:eZ) (ov:Value) (nn:Nat) (D:aB) (wr:World):Prop where
 ext:Ext w wr
 hd:fG wr w.heap.size h
 ds:bI wr (w.heap.size+1) d
 cur:ah wr (w.heap.size+1+1) (.cells (cD cu) 26)
 own:wr.ownsRow w.heap.size 37 2 ov nn (eV (bW d D))
theorem sA.put {w:World} {h:Hd} {d:DS} {i:eZ} {g:Value} {f:Nat} {D:aB} {wr:World} (s:sA w h d i g f D wr) (k:List UInt8) (b u z:Bool):
 sA w h d ⟨k,b,u,z⟩ g f D ((((wr.setCell ⟨w.heap.size+1+1,0,none⟩ (.string ⟨k.toArray⟩)).setCell ⟨w.heap.size+1+1,1,none⟩ (.bool b)).setCell ⟨w.heap.size+1+1,2,none⟩ (.bool u)).setCell ⟨w.heap.size+1+1,3,none⟩ (.bool z)):=by
 have e:aI (w.heap.size+1+1) wr ((((wr.setCell ⟨w.heap.size+1+1,0,none⟩ (.string ⟨k.toArray⟩)).setCell ⟨w.heap.size+1+1,1,none⟩ (.bool b)).setCell ⟨w.heap.size+1+1,2,none⟩ (.bool u)).setCell ⟨w.heap.size+1+1,3,none⟩ (.bool z)):=((aI.setCell.trans aI.setCell).trans aI.setCell).trans aI.setCell;exact⟨e.ext s.ext af,e.blk s.hd af,e.blk s.ds af,ah.setCell (ah.setCell (ah.setCell (ah.setCell s.cur))),fo s.own aq s.cur e⟩
theorem sA.app {w:World} {h:Hd} {d:DS} {i:eZ} {j l:Value} {f:Nat} {D:aB} {r:List UInt8} {W g:World} (s:sA w h d i j f D W) (m:g.ownsRow w.heap.size 37 2 l (f+1) (eV (bW d D)++[.string ⟨(ax d r).toArray⟩,.string ⟨r.toArray⟩])) (b:W.grownBy g j.ownBlock):sA w h d i l (f+1) (D++[r]) g:=
 ⟨Ext.trans' s.ext (Below.ij b s.own (aH _) s.ext.size),A1 s.hd aq s.own b,A1 s.ds aq s.own b,A1 s.cur aq s.own b,by
   have e:eV (bW d (D++[r]))=eV (bW d D)++[.string ⟨(ax d r).toArray⟩,.string ⟨r.toArray⟩]:=by rw[VV];simp[eV,bW]
   rw[e];exact m⟩
theorem sA.more {w:World} {h:Hd} {d:DS} {b:eZ} {g:Value} {f:Nat} {D:aB} {wr i:World} (s:sA w h d b g f D wr) (e:Ext wr i):sA w h d b g f D i:=⟨s.ext.trans e,s.hd.ext e,s.ds.ext e,e.blk _ _ s.cur,aO s.own e⟩
theorem aiS {M:List (List UInt8)} {d:DS} {h:Hd} {S:List aQ} {dn:List Int} {n:Nat} (K:dL M d h S dn n) (c:eZ) (p:Option Addr) (cap m:Nat) (w:World) (hs:bk w p M) (hn:M.length=m):
 Calls Tryz.prog 15 #[.slice p m cap,.agg (aK h),.agg (az d),.agg (cD c)] w fun e w'=>Ext w w'/\∃q j V,e=.returned (.tuple #[.slice q j V,.bool true])/\j=(iY d (aT S) c).length/\w'.ownsRow w.heap.size 37 2 (.slice q j V) j (eV (bW d (iY d (aT S) c))):=by
 have rB:=ag (fun b W (e:bk W p M)=>V6 K b p cap m W e hn);have hlen:(iY d (aT S) c).length<=100:=by
  have h1:=au8 (d:=d) (R:=aT S) c;have:=K.cn;have:=K.n0;omega
 have IW:=ag (fun b=>au7 K.k.inc b);have qh:=ag (fun b=>agH K.k.inc b);have Hs:=ag hs;have h0:=zB w (.cells (aK h) 30) (.cells (az d) 23) (.cells (cD c) 26);generalize aT S=R at *;clear hs K;go_enter Tryz.func15,Tryz.ntmps15;go_upto_region 1 with(fail);refine aR (fun W=>Ext w W/\fG W w.heap.size h/\bI W (w.heap.size+1) d/\ah W (w.heap.size+1+1) (.cells (cD c) 26)) h0 ?_;clear h0;rintro w0 ⟨he0,hb1,hb2,lS⟩;have HI:Hid (sA w h d c (.slice (some ⟨w0.heap.size,0,none⟩) 0 0) 0 [] (w0.alloc (.cells #[] 37))):=ag ⟨he0.trans (Ext.alloc _ _),hb1.ext (Ext.alloc _ _),hb2.ext (Ext.alloc _ _),(Ext.alloc _ _).blk _ _ lS,fJ (World.ownsRow_made (e:=37) (size:=2) w0 #[] 0 (aH _) aq av) he0.size⟩;clear he0 hb1 hb2 lS;go_upto_region 2 with(fail);try simp only[az,aK]
 go_loopw[10] (fun ov wr=>∃(b:eZ) (j:Nat) (q:Option Addr) (V:Nat) (D:aB),ov=.slice q j V/\b.back=c.back/\D++iY d R b=iY d R c/\j=D.length/\sA w h d b ov j D wr) (fun ov _=>1000-aiR ov)
 case atStart=>exact⟨c,0,_,_,[],rfl,rfl,rfl,rfl,HI.out⟩
 case round=>
  obtain⟨b,j,q,V,D,rfl,hbk,hD,hnn,hS⟩:=hrel;have hDl:j<=100:=by
   have:=gP List.length hD;simp only[ew] at this;omega
  have gB:(j:Int)<1000:=af;have adH:j<1000:=af;have B:=ag hS;have HD:=ag hD;have HT:=ag (rB.out b);have HN:=ag (IW.out b);have HH:=ag (qh.out b);obtain⟨o,ho⟩:∃o,o=fW d R b:=⟨_,rfl⟩;rw[<-ho] at HT HN HH;have O:=B.out.hd;have N:=B.out.ds;have hc1:=B.out.cur;have HNn:=ag hnn;have HBk:=ag hbk;have HO0:=ag ho;clear hS hD ho HI hnn hbk;cases o with
  | none=>
    have z:iY d R b=[]:=by
     have:=HH.out;simpa using this.symm
    have HE:=ag (show D=iY d R c by rw[<-HD.out,z,FD]);go_upto_region 5 with(first
     | ((with_reducible refine aW 21 ?_);refine mM rfl (.tmp 5) rfl _ rfl h O ?_)
     | ((with_reducible refine aW 22 ?_);refine bu rfl (.tmp 6) rfl _ rfl d N ?_)
     | (refine WN ?_)
     | (go_at_call 12;refine(HT.out _ (Hs.out.ext B.out.ext)).mono ?_;rintro e i ⟨rfl,E⟩)
     | (refine aU rfl 26 (.tmp 11) (.tmp 25) rfl _ (cD {b with done:=true}) rfl rfl _ _ (ah.alloc (ah.new i _) _) kE rfl (uS _) ?_;intro wK G u;have H:=u.blk (ah.new1 (i.alloc (.cells mX 26)) (.cells #[.string ⟨#[]⟩,.string ⟨#[]⟩] 37) (i.heap.size+1) av) af)
     | (refine aU rfl 37 (.tmp 12) (.tmp 26) rfl _ (fF ([],[])) rfl rfl _ _ H fE rfl (nU _ _) ?_;intro I F y))
    have f:Ext wr I:=E.trans (y.ext (u.ext ((Ext.alloc i (.cells mX 26)).trans (Ext.alloc _ (.cells #[.string ⟨#[]⟩,.string ⟨#[]⟩] 37))) (aH _)) af);have g:=y.blk G af;have i3:I.cell? ⟨i.heap.size,3,none⟩=some (.bool true):=ah.val g 3 _ rfl;have l3:=ah.lt g;have HO:=ag (And.intro (B.out.ext.trans f) (aO B.out.own f));clear E G u H F y f g O N hc1;go_quiet(fail);go_wp2_with fail;go_ret2;exact⟨by first | exact HO.out.1 | exact HO.out.1.trans (Ext.drewN _ _) | exact HO.out.1.trans (Ext.drew _),q,j,V,rfl,by rw[<-HE.out];exact HNn.out,by rw[<-HE.out];exact HO.out.2⟩
  | some r=>
    have z:iY d R b=r::iY d R (b.next d (some r)):=by
     have h1:=HH.out;have h2:=HN.out;cases hq:iY d R b with
     | nil=>rw[hq] at h1;cases h1
     | cons x l=>
       rw[hq] at h1 h2;simp only[List.head?_cons,mz] at h1;rw[h2,h1,List.tail_cons]
    have hdn:b.done=false:=by
     cases hq:b.done
     ·rfl
     ·have:=HO0.out;rw[Je hq] at this;cases this
    have HE:=ag (show(D++[r])++iY d R (b.next d (some r))=iY d R c by rw[<-HD.out,z];simp);clear z;obtain⟨k1,T⟩:∃k1,k1=ax d r:=⟨_,rfl⟩;have N0:=ag T;have HC1:=ag (show b.next d (some r)=⟨k1,b.back,true,false⟩ by rw[T,<-hdn];rfl);rw[HC1.out] at HT HE;have Ol:=ag (show jn d (some r)=(k1,r) by rw[T];rfl);rw[Ol.out] at HT;have qB:(b.back !=b.back)=false:=av;clear T hdn HN HH HO0;go_upto_region 8 with(first
     | ((with_reducible refine aW 21 ?_);refine mM rfl (.tmp 5) rfl _ rfl h O ?_)
     | ((with_reducible refine aW 22 ?_);refine bu rfl (.tmp 6) rfl _ rfl d N ?_)
     | (refine WN ?_)
     | (go_at_call 12;refine(HT.out _ (Hs.out.ext B.out.ext)).mono ?_;rintro e i ⟨rfl,E⟩)
     | (refine aU rfl 26 (.tmp 11) (.tmp 25) rfl _ (cD ⟨k1,b.back,true,false⟩) rfl rfl _ _ (ah.alloc (ah.new i _) _) kE rfl (uS _) ?_;intro wK G u;have H:=u.blk (ah.new1 (i.alloc (.cells mX 26)) (.cells #[.string ⟨#[]⟩,.string ⟨#[]⟩] 37) (i.heap.size+1) av) af)
     | (refine aU rfl 37 (.tmp 12) (.tmp 26) rfl _ (fF (k1,r)) rfl rfl _ _ H fE rfl (nU _ _) ?_;intro I F y;have g:=y.blk G af;have i0:=(show I.cell? ⟨i.heap.size,0,none⟩=some (.string ⟨k1.toArray⟩) from ah.val g 0 _ rfl);have i1:=(show I.cell? ⟨i.heap.size,1,none⟩=some (.bool b.back) from ah.val g 1 _ rfl);have i2:=(show I.cell? ⟨i.heap.size,2,none⟩=some (.bool true) from ah.val g 2 _ rfl);have i3:=(show I.cell? ⟨i.heap.size,3,none⟩=some (.bool false) from ah.val g 3 _ rfl);have l3:=ah.lt g;have j0:=(show I.cell? ⟨i.heap.size+1,0,none⟩=some (.string ⟨k1.toArray⟩) from ah.val F 0 _ rfl);have lj:=ah.lt F;have f:=(show Ext wr I from E.trans (y.ext (u.ext ((Ext.alloc i (.cells mX 26)).trans (Ext.alloc _ (.cells #[.string ⟨#[]⟩,.string ⟨#[]⟩] 37))) (aH _)) af));have b1:=(show I.cell? ⟨w.heap.size+1+1,1,none⟩=some (.bool b.back) from ah.val (f.blk _ _ hc1) 1 _ rfl);have lb:=ah.lt (f.blk _ _ hc1)))
    have hSL:sA w h d b (.slice q j V) j D I:=⟨B.out.ext.trans f,B.out.hd.ext f,B.out.ds.ext f,f.blk _ _ B.out.cur,aO B.out.own f⟩;refine aR (fun W=>sA w h d b (.slice q j V) j D W/\ah W i.heap.size (.cells #[.string ⟨k1.toArray⟩,.bool b.back,.bool true,.bool false] 26)/\ah W (i.heap.size+1) (.cells #[.string ⟨k1.toArray⟩,.string ⟨r.toArray⟩] 37)) ⟨hSL,g,F⟩ ?_;have hwJ:w.heap.size+1+1<i.heap.size:=fM (ah.lt hc1) E.size;generalize i.heap.size=nb at *;clear E G u H F y f g O N hc1 i0 i1 i2 i3 l3 j0 lj b1 lb hSL B HT;rintro X ⟨L,t,U⟩;have Y:=ag L;have hcu:ah X (w.heap.size+1+1) (.cells #[.string ⟨b.key.toArray⟩,.bool b.back,.bool b.used,.bool b.done] 26):=L.cur;have i0:=ah.val t 0 _ rfl;have i1:=ah.val t 1 _ rfl;have i2:=ah.val t 2 _ rfl;have i3:=ah.val t 3 _ rfl;have j0:=ah.val U 0 _ rfl;have j1:=ah.val U 1 _ rfl;have l3:=ah.lt t;have lj:=ah.lt U;have HcP:=ag t;have Hcu:=ag hcu;have hz:=L.ext.size;clear L t U hcu;go_region_law(first
     | (obtain⟨v8,w8,A2,gG,jN⟩:=axI (X.drew.alloc (.cells (fF (k1,r)) 37)) (aO Y.out.own ((Ext.drew _).trans (Ext.alloc _ _))) (k1,r) (ah.new _ _) af (by have:=(Ext.drew X).size;have:=(Ext.alloc X.drew (.cells (fF (k1,r)) 37)).size;omega);obtain⟨q8,c8,rfl⟩:=cE gG;refine Rt rfl (.tmp 59) (.tmp 61) _ _ rfl _ _ rfl rfl A2 ?_;have Z:=(Y.out.more ((Ext.drew X).trans (Ext.alloc X.drew (.cells (fF (k1,r)) 37)))).app (r:=r) (by rw[<-N0.out];exact gG) jN;have C:=(show ah w8 nb (.cells #[.string ⟨k1.toArray⟩,.bool b.back,.bool true,.bool false] 26) from A1 (((Ext.drew X).trans (Ext.alloc X.drew (.cells (fF (k1,r)) 37))).blk _ _ HcP.out) aq (aO Y.out.own ((Ext.drew _).trans (Ext.alloc _ _))) jN);have J:=(show ah w8 (w.heap.size+1+1) (.cells #[.string ⟨b.key.toArray⟩,.bool b.back,.bool b.used,.bool b.done] 26) from Z.cur);have a0:=ah.val C 0 _ rfl;have a1:=ah.val C 1 _ rfl;have a2:=ah.val C 2 _ rfl;have a3:=ah.val C 3 _ rfl;have la:=ah.lt C;have d0:=ah.val J 0 _ rfl;have d1:=ah.val J 1 _ rfl;have d2:=ah.val J 2 _ rfl;have d3:=ah.val J 3 _ rfl;have ld:=ah.lt J;have f0:=ah.free J 0;have f1:=ah.free J 1;have f2:=ah.free J 2;have f3:=ah.free J 3;have Hs8:=ag (Z.put k1 b.back true false);clear C J Z gG jN))
    all_goals
     go_wp2_with fail;go_roundw
     case rel=>exact⟨⟨k1,b.back,true,false⟩,j+1,_,_,D++[r],rfl,HBk.out,HE.out,by rw[ew,<-HNn.out];rfl,Hs8.out⟩
     case measure=>simp[aiR];omega
end Go.Proofs.YteninnkbmoimgaaGreatDoor
namespace aD
theorem dL.jb {M:List (List UInt8)} {d:DS} {h:Hd} {S:List aQ} {f:List Int} {n:Nat} (K:dL M d h S f n):∀r∈aT S,cV d r=true:=by
 intro r j;unfold aT at j;obtain⟨L,l,b⟩:=uu.1 j;obtain⟨s,o,rfl⟩:=fT.1 l;unfold aX at b;obtain⟨V,m,e⟩:=uu.1 b;obtain⟨i,g,rfl⟩:=nT.1 m;have:=((K.k.inv s o).spec.mem g).2.1 r;rw[show s.2.ak.getD i []=s.2.ak[i] by simp[List.getD,g]] at this;exact this e
def zM:List UInt8:=[255,255,255,255,255,255,255,255,255,255,255,255,255,255,255,255,255,255,255,255,255,255,255,255,255,255,255,255,255,255,255,255,255]
theorem aiX:∀(k:List UInt8) (n:Nat),k.length<n->bl k (List.replicate n 255)=true
 | [],n+1,_=>rfl
 | x::k,n+1,h=>by
   rw[K1,sQ,aiX k n nA];by_cases e:x=255
   ·subst e;simp
   ·have:x<255:=by
     have b:=UInt8.toNat_lt x;have d:x.toNat≠255:=fun h=>e (by apply CI.1;simpa using h);rw[QK];show x.toNat<255;omega
    simp[this]
theorem axN {d:DS} {R:aB} (h:∀r∈R,ax d r≠[]):iY d R ⟨[],false,false,false⟩=R:=by
 unfold iY tE;refine ET ?_;exact I7.2 fun r b=>by
  unfold eZ.sees aas;simp[FI (h r b)]
theorem axO {d:DS} {R:aB} (h:∀r∈R,(ax d r).length<=32):iY d R ⟨zM,true,false,false⟩=R.reverse:=by
 unfold iY tE;simp only[EU,uL,pF];exact I7.2 fun r b=>by
  have:=aiX (ax d r) 33 (by have:=h r (by simpa using b);omega);unfold eZ.sees aas;rw[show(List.replicate 33 255:List UInt8)=zM by rfl] at this;simp[this]
end aD
namespace Go.Proofs.YteninnkbmoimgaaGreatDoor
open Go.RowKit aD
def uI (d:DS) (L:aB) (b:Nat):Fact:=fun x w=>∃q c,x=.tuple #[.slice q b c,.bool true]/\w.ownsRow 0 37 2 (.slice q b c) b (eV (bW d L))
theorem uI.ay (d:DS) (L:aB) (g:Nat):(uI d L g).ay:=fun _ _ _ f ⟨q,c,b,e⟩=>⟨q,c,b,aO e f⟩
theorem mk0 (w:World):(Instr.makeSlice 47 (.int .i64 0) (.int .i64 0)).run Tryz.prog w=.ok (.slice (some ⟨w.heap.size,0,none⟩) 0 0) (w.alloc (.cells #[] 5)):=by
 obtain⟨g,f,b,d,e⟩:=lH (show(Tryz.prog.info? 5).map (fun i=>(i.zero,i.size,i.bytes))=some (some (.int .u8 0),1,1) by kernel_rfl);exact Fg (P:=Tryz.prog) w 47 5 g 0 Tryz.underlying47 f b d e af
theorem axQ (w:World) (b:Nat):(convert 47 9 (.slice (some ⟨b,0,none⟩) 0 0)).run Tryz.prog w=.ok (.string ⟨#[]⟩) w:=
 Fb w _ _ 5 b 0 0 [] Tryz.underlying47 Tryz.underlying5 Tryz.underlying9 fun i d=>by simp at d
theorem axR (pl:Option Addr) (cl n:Nat) (L:List oL) (d:DS) (w:World) (hs:mH w pl L) (hn:L.length=n) (hcap:n<=cl) (hcm:cl<=maxLen):
 Calls Tryz.prog 4 #[.agg (az d),.slice pl n cl] w fun e w'=>e=.returned (.bool true)/\Ext w w':=by
 subst hn;have EE:L.length<=9223372036854775807:=by unfold maxLen at hcm;omega
 have Eo:=ag (fun W (h:mH W pl L)=>aim d pl cl L W h EE);have HBt:=ag (fun(X:dA d=true) (hl:L.length<=100) W (h:mH W pl L)=>ain d X pl cl L W h hl);have Hs:=ag hs;have hx:=Ext.alloc w (.cells (az d) 23);have hb:=ah.new w (.cells (az d) 23);clear hs EE hcap hcm;go_enter Tryz.func4,Tryz.ntmps4;go_upto_region 1 with(fail);refine aR (fun w0=>Ext w w0/\bI w0 w.heap.size d) ⟨hx,hb⟩ ?_;clear hx hb;rintro w0 ⟨he0,dr⟩;go_upto_region 3 with(go_at_call 9;refine(air _).mono ?_;rintro e w1 ⟨rfl,T⟩);have t:=ag (he0.trans T);have u:=dr.ext T;have f:=ag (Eo.out w1 (Hs.out.ext t.out));clear he0 dr T Eo;cases g:(dA d&&A3 L 60)
 ·rw[g] at f;clear g;go_wp2_with(first
   | ((with_reducible refine aW 15 ?_);refine bu rfl (.tmp 2) rfl _ rfl d u ?_)
   | (go_at_call 10;refine f.out.mono ?_;rintro e w2 ⟨rfl,he2⟩))
  go_ret;exact⟨rfl,t.out.trans he2⟩
 ·rw[g] at f;rw[eu] at g;obtain⟨X,Y⟩:=g;have axH:L.length<=60:=by
   unfold A3 at Y;rw[eu,gu] at Y;omega
  have HB:=ag (HBt.out X af);clear X Y HBt;go_upto_region 5 with(first
   | ((with_reducible refine aW 15 ?_);refine bu rfl (.tmp 2) rfl _ rfl d u ?_)
   | (go_at_call 10;refine f.out.mono ?_;rintro e wA ⟨rfl,he2⟩))
  have Z:=t.out.trans he2;have N:=u.ext he2;have D:=ag (HB.out wA (Hs.out.ext Z));unfold OJ at D;have sX:=ag Z;clear u f he2 Z HB t;go_upto_region 6 with(first
   | ((with_reducible refine aW 20 ?_);refine bu rfl (.tmp 2) rfl _ rfl d N ?_)
   | (go_at_call 11;refine D.out.mono ?_;rintro e w3 ⟨U,M,h,S,dn,n,p,cm,q,cq,rfl,hM,K,hP⟩)
   | (refine aU rfl 30 (.tmp 5) (.tmp 23) rfl _ (aK h) rfl rfl _ _ (ah.new w3 _) dg rfl (wU h) ?_;intro w4 oQ jV))
  have l:=jV.ext (Ext.alloc w3 (.cells #[.int .i64 0,.int .i64 0,.int .i64 0,.int .i64 0,.int .i64 0,.int .i64 0,.int .i64 0] 30)) (aH _);have H:=K.jb;have hks:=iM K.keyed;have hr1:iY d (aT S) ⟨[],false,false,false⟩=aT S:=axN fun r hr=>akO K.keyed (H r hr);have nY:iY d (aT S) ⟨zM,true,false,false⟩=(aT S).reverse:=axO fun r hr=>by
   have h1:=QS K.keyed (H r hr);have h2:=Zs (qM hks.1).2.2.1;rcases h2 with h2 | h2 | h2<;>omega
  have HW1:Hid (∀W,Ext w4 W->Calls Tryz.prog 15 #[.slice p M.length cm,.agg (aK h),.agg (az d),.agg (cD ⟨[],false,false,false⟩)] W fun e w'=>∃v,e=.returned v/\Ext W w'/\uI d (aT S) (aT S).length v w'):=ag (fun W e=>(aiS K ⟨[],false,false,false⟩ p cm M.length W (hM.ext (l.trans e)) rfl).mono (by
   rintro e w' ⟨he,q,nn,cc,rfl,rfl,ho⟩;rw[hr1] at ho⊢;exact⟨_,rfl,he,q,cc,rfl,fJ ho (bL _)⟩))
  have xN:Hid (∀W,Ext w4 W->Calls Tryz.prog 15 #[.slice p M.length cm,.agg (aK h),.agg (az d),.agg (cD ⟨zM,true,false,false⟩)] W fun e w'=>∃v,e=.returned v/\Ext W w'/\uI d (aT S).reverse (aT S).length v w'):=ag (fun W e=>(aiS K ⟨zM,true,false,false⟩ p cm M.length W (hM.ext (l.trans e)) rfl).mono (by
   rintro e w' ⟨he,q,nn,cc,rfl,rfl,ho⟩;rw[nY] at ho⊢;rw[Ga] at ho⊢;exact⟨_,rfl,he,q,cc,rfl,fJ ho (bL _)⟩))
  have Jr:=ag (show h.count=((aT S).length:Nat) from K.cnt);have aBG:(aT S).length<=100:=EV;have axS:=ag K.k.inc;have oG:=ag ((sX.out.trans U).trans l);have E:=ag ((N.ext U).ext l);have F:=ag oQ;generalize w3.heap.size=hb at *;generalize M.length=nm at *;generalize aT S=R at *;clear hr1 nY H hks U hM K hP jV l N D sX oQ;refine eR 200 (Ext.refl w4) aj aj aj ?_;refine gV ?_;repeat (first
   | (refine bT (o:=⟨some 28,_,_,_,_,_⟩) (v:=.agg (aK h)) rfl ?_ ?_
      ·intro a w' he hr K hK;simp[Reads,Oper.looksAt,Op.operands,aJ,Is] at hr;exact eG 30 (.tmp 5) rfl (hb) dX _ _ _ _ (he.blk _ _ F.out) fH rfl dg (hK _ (Ext.refl _))
      refine aE ?_)
   | (refine bT (o:=⟨some 29,_,_,_,_,_⟩) (v:=.agg (az d)) rfl ?_ ?_
      ·intro a w' he hr K hK;simp[Reads,Oper.looksAt,Op.operands,aJ,Is] at hr;exact eG 23 (.tmp 2) rfl (w.heap.size) dX _ _ _ _ (he.blk _ _ E.out) gr rfl gD (hK _ (Ext.refl _))
      refine aE ?_)
   | (refine bT (o:=⟨some 30,_,_,_,_,_⟩) (v:=.agg (cD ⟨[],false,false,false⟩)) rfl ?_ ?_
      ·intro a w' he hr K hK;simp[Reads,Oper.looksAt,Op.operands,Call.operands,aJ,Is] at hr;go_simp;refine(Fu [] false _).mono ?_;exact kg
      refine aE ?_)
   | (refine jh (o:=⟨some 31,_,_,_,_,_⟩) (uI d R R.length) (uI.ay _ _ _) rfl ?_ ?_
      ·intro a w' he hr K hK;simp[Reads,Oper.looksAt,Op.operands,Call.operands,aJ,Is] at hr;go_simp;refine((HW1.out w' he)).mono ?_;rintro e w'' ⟨v,rfl,O,hf⟩;exact hK _ _ O hf
      refine aE ?_)
   | (refine uJ (o:=⟨some 26,_,_,_,_,_⟩) _ _ rfl (.inl rfl) rfl (uI.ay _ _ _) ?_
      refine nO ?_)
   | (refine jh (o:=⟨some 32,_,_,_,_,_⟩) (dJ 37 0 2 R.length (eV (bW d R))) (dJ.ay _ _ _ _ _) rfl ?_ ?_
      ·intro a w' he hr K hK;obtain⟨q9,c9,h1,h9⟩:=hr 26 bO;exact uR
      refine aE ?_)
   | (refine bT (o:=⟨some 33,_,_,_,_,_⟩) (v:=.bool true) rfl ?_ ?_
      ·intro a w' he hr K hK;obtain⟨q9,c9,h1,h9⟩:=hr 26 bO;exact mO
      refine aE ?_)
   | (refine ym ?_)
   | (refine fR ?_)
   | (refine iq ?_)
   | (refine fk ?_))
  intro w2 he2;repeat (first | with_reducible refine cH _ _ _ _ ?_ | (with_reducible refine cI _ _ _ _ ?_;intro _ _) | with_reducible refine cJ _ _ ?_)
  simp only[cF,cK,bQ,bE];rename_i x8 h8 x26 h26 x31 h31 x32 Xk;obtain⟨qa,ca,rfl,hoa⟩:=h8;have Hoa:=ag hoa;clear h26 h31 Xk hoa;obtain⟨wB,rfl⟩:∃wB:World,wB=w2:=⟨_,rfl⟩;have Hd5:=ag (E.out.ext he2);have G:=ag (he2.blk _ _ F.out);have NF:=ag (oG.out.trans he2);have HW5:Hid (∀W,Ext wB W->Calls Tryz.prog 15 #[.slice p nm cm,.agg (aK h),.agg (az d),.agg (cD ⟨zM,true,false,false⟩)] W fun e w'=>∃v,e=.returned v/\Ext W w'/\uI d R.reverse R.length v w'):=ag (fun W e=>xN.out W (he2.trans e));clear he2 E F oG HW1 xN;go_upto_region 7 with(fail);refine eR 200 (Ext.refl wB) aj aj aj ?_;simp only[cY,eF,gj,dV,dP,gC,dh,dQ];repeat (first
   | (refine bT (o:=⟨some 36,_,_,_,_,_⟩) (v:=.agg (aK h)) rfl ?_ ?_
      ·intro a w' he hr K hK;simp[Reads,Oper.looksAt,Op.operands,aJ,Is] at hr;exact eG 30 (.tmp 5) rfl (hb) dX _ _ _ _ (he.blk _ _ G.out) fH rfl dg (hK _ (Ext.refl _))
      refine aE ?_)
   | (refine bT (o:=⟨some 37,_,_,_,_,_⟩) (v:=.agg (az d)) rfl ?_ ?_
      ·intro a w' he hr K hK;simp[Reads,Oper.looksAt,Op.operands,aJ,Is] at hr;exact eG 23 (.tmp 2) rfl (w.heap.size) dX _ _ _ _ (he.blk _ _ Hd5.out) gr rfl gD (hK _ (Ext.refl _))
      refine aE ?_)
   | (refine jh (o:=⟨some 38,_,_,_,_,_⟩) (dx 0 0 (.cells #[] 5)) (dx.ay _ _ _) rfl ?_ ?_
      ·intro a w' he hr K hK;have hmk:=mk0 w';go_simp;exact hK _ _ (Ext.alloc _ _) (dx.new _ _ _ _)
      refine aE ?_)
   | (refine bT (o:=⟨some 39,_,_,_,_,_⟩) (v:=.string ⟨#[]⟩) rfl ?_ ?_
      ·intro a w' he hr K hK;obtain⟨b,h1,h2⟩:=hr 38 gM;simp at h1;have aoo:=axQ w' b;exact yo
      refine aE ?_)
   | (refine bT (o:=⟨some 41,_,_,_,_,_⟩) (v:=.agg (cD ⟨zM,true,false,false⟩)) rfl ?_ ?_
      ·intro a w' he hr K hK;simp[Reads,Oper.looksAt,Op.operands,Call.operands,aJ,Is] at hr;go_simp;refine(Fu zM true _).mono ?_;exact kg
      refine aE ?_)
   | (refine jh (o:=⟨some 42,_,_,_,_,_⟩) (uI d R.reverse R.length) (uI.ay _ _ _) rfl ?_ ?_
      ·intro a w' he hr K hK;simp[Reads,Oper.looksAt,Op.operands,Call.operands,aJ,Is] at hr;go_simp;refine((HW5.out w' he)).mono ?_;rintro e w'' ⟨v,rfl,O,hf⟩;exact hK _ _ O hf
      refine aE ?_)
   | (refine uJ (o:=⟨some 34,_,_,_,_,_⟩) _ _ rfl (.inl rfl) rfl (uI.ay _ _ _) ?_
      refine nO ?_)
   | (refine jh (o:=⟨some 43,_,_,_,_,_⟩) (dJ 37 0 2 R.length (eV (bW d R.reverse))) (dJ.ay _ _ _ _ _) rfl ?_ ?_
      ·intro a w' he hr K hK;obtain⟨q9,c9,h1,h9⟩:=hr 34 bO;exact uR
      refine aE ?_)
   | (refine bT (o:=⟨some 44,_,_,_,_,_⟩) (v:=.bool true) rfl ?_ ?_
      ·intro a w' he hr K hK;obtain⟨q9,c9,h1,h9⟩:=hr 34 bO;exact mO
      refine aE ?_)
   | (refine ym ?_)
   | (refine fR ?_)
   | (refine iq ?_)
   | (refine fk ?_))
  intro w2 he2;repeat (first | with_reducible refine cH _ _ _ _ ?_ | (with_reducible refine cI _ _ _ _ ?_;intro _ _) | with_reducible refine cJ _ _ ?_)
  simp only[cF,cK,bQ,bE];rename_i x10 h10 x34 h34 x38 VX x42 OQ x43 vT;obtain⟨qb,cb,rfl,zf⟩:=h10;have V5:=ag (show Ext w w2 from NF.out.trans he2);have OH:=ag (he2.blk _ _ G.out);obtain⟨q1,c1,hq1,hpa,hla⟩:=yM (aO Hoa.out he2);cases hq1
  obtain⟨q2,c2,AP,g,hlb⟩:=yM zf;cases AP
  have HA:=ag hpa;have HBr:=ag g;clear h34 VX OQ vT zf hpa g hla hlb he2 Hoa Hd5 G NF HW5;have i1:w2.cell? ⟨hb,1,none⟩=some (.int .i64 (R.length:Nat)):=by rw[<-Jr.out];exact ah.val OH.out 1 _ rfl
  have l1:=ah.lt OH.out;go_upto_region 11 with(fail);clear i1 l1;try simp only[az,aK]
  go_loopw[67] (fun iv wr=>∃i:Nat,i<=R.length/\iv=.int .i64 i/\Ext w2 wr) (fun iv _=>R.length-(intOf iv).toNat)
  case atStart=>exact⟨0,bL _,rfl,Ext.refl _⟩
  case round=>
   obtain⟨i,hi,rfl,hx⟩:=hrel;by_cases hlt:i<R.length
   ·have gB:(i:Int)<R.length:=af;obtain⟨n1,nM⟩:∃n1,n1=R.length-1-i:=⟨_,rfl⟩;have UL:(R.length:Int)-1-i=(n1:Nat):=af;have at7:(n1:Int)<R.length:=af;have at6:n1<R.length:=af;have hl1:=oW d R;have hl2:(bW d R.reverse).length=R.length:=by rw[oW,Ga]
    obtain⟨ga,oa,rfl,hga,I⟩:=(HA.out.ext hx).at i af;obtain⟨gb,ob,rfl,hgb,hcb⟩:=(HBr.out.ext hx).at n1 af;obtain⟨a0,a1⟩:=I i af;obtain⟨b0,b1⟩:=hcb n1 af;rw[tC] at a0 a1 b0 b1;have C:R.reverse.getD n1 []=R.getD i []:=by
     rw[vX (by rw[Ga];omega),vX hlt,Oo];congr 1;omega
    rw[C] at b0 b1;have hE:=aiH (ax d (R.getD i []),R.getD i []);unfold fF at hE;have hG:=aiF;have HX:=ag hx;have m:Hid (∀j,i=j+1->bl (ax d (R.getD j [])) (ax d (R.getD i []))=true):=ag (fun j e=>Ln axS.out af hlt);have J:Hid (∀j,i=j+1->wr.cell? ⟨ga,oa+j*2,none⟩=some (.string ⟨(ax d (R.getD j [])).toArray⟩)):=ag (fun j e=>by
     have:=(I j af).1;rw[tC] at this;exact this)
    clear nM C I hcb hl1 hl2 hx;rcases CA i with V | V
    ·have sr:decide ((0:Int)<(i:Int))=false:=aM af;have sj:¬0<i:=af;have tD:decide (0<i)=false:=aM sj;have Hi0:=ag V;clear m J V;generalize ax d (R.getD i [])=x at *;generalize R.getD i []=y at *;have EM:=ag (And.intro a0 (And.intro a1 (And.intro b0 b1)));have EL:=ag (And.intro hga hgb);clear a0 a1 b0 b1;exact aaT
    ·obtain⟨j,B⟩:∃j,i=j+1:=⟨i-1,af⟩;have X:=m.out j B;have cj:=J.out j B;have hj1:((i:Int)-1)=(j:Nat):=af;have FA:(j:Int)<R.length:=af;have hjl:j<R.length:=af;have sr:decide ((0:Int)<(i:Int))=true:=bM af;have sj:(0:Int)<(i:Int):=af;have hlk:Go.Op.bytesLess (ax d (R.getD j [])) (ax d (R.getD i []))=true:=X;have Hij:=ag B;clear m J X B;generalize ax d (R.getD i [])=x at *;generalize R.getD i []=y at *;generalize ax d (R.getD j [])=z at *;have EM:=ag (And.intro a0 (And.intro a1 (And.intro b0 b1)));have EL:=ag (And.intro hga hgb);clear a1 b0 b1;exact aaT
   ·have gB:decide ((i:Int)<R.length)=false:=aM af;have HX:=ag hx;clear hx;go_wp2_with fail;go_ret;exact⟨rfl,V5.out.trans HX.out⟩
end Go.Proofs.YteninnkbmoimgaaGreatDoor

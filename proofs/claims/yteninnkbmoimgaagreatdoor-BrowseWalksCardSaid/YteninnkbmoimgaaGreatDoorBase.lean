/- A part of the proof. -/
import Derived.Test.YteninnkbmoimgaaGreatDoorZk
set_option linter.unusedSimpArgs false
set_option linter.unusedVariables false
set_option maxRecDepth 100000
set_option maxHeartbeats 16000000
variable{P Q:Prop}
theorem kN(k:Q)(h:bg Q->P:=by
 intro kz;refine uJ _ _ rfl (by first | exact .inl rfl | exact .inr rfl) rfl (by first | exact Is.ay _ | exact xQ.ay _ | exact kO.ay _ | exact fS.ay _ _ | exact sB.ay (dx.ay _ _ _) _ | exact tG.ay (mK.ay _ _ _ _) _ | exact mK.ay _ _ _ _ | exact dx.ay _ _ _) ?_;simp only[bZ,bG,bN,qt,qu];exact kz.o):P:=h ⟨k⟩
theorem aE(k:Q)(h:bg Q->P:=by
 intro kz;simp only[bZ,bG,bN];exact kz.o):P:=h ⟨k⟩
theorem aP(h:P:=by first | exact .inl rfl | exact .inr ⟨_,_,_,rfl,rfl,rfl⟩):P:=h
theorem af(h:P:=by omega):P:=h
theorem nO(k:Q)(h:bg Q->P:=by
 intro kz;simp only[bZ,bG,bN,qt,qu];exact kz.o):P:=h ⟨k⟩
theorem gV(k:Q)(h:bg Q->P:=by
 intro kz;simp only[cY,eF,gj,dV,dP,gC,dh,dQ];exact kz.o):P:=h ⟨k⟩
theorem lz(h:P:=by first | exact .inl rfl | exact .inr rfl):P:=h
theorem JN(h:P:=by first | exact Is.ay _ | exact dJ.ay _ _ _ _ _ | exact nP.ay _ _ | exact dx.ay _ _ _ | exact xQ.ay _ | exact kO.ay _ | exact fS.ay _ _ | exact PlF.ay _ _):P:=h
theorem bO(h:P:=by simp[Oper.looksAt,Op.operands]):P:=h
theorem aq(h:P:=by decide):P:=h
theorem ai6(h:P:=by first | exact Is.ay _ | exact axY.ay _ _ | exact dJ.ay _ _ _ _ _ | exact xQ.ay _ | exact kO.ay _ | exact fS.ay _ _ | exact sB.ay (dx.ay _ _ _) _ | exact tG.ay (mK.ay _ _ _ _) _ | exact mK.ay _ _ _ _ | exact dx.ay _ _ _):P:=h
theorem gM(h:P:=by simp[Oper.looksAt,Op.operands,Call.operands]):P:=h
theorem JO(h:P:=by exact hK _ _ (show RS _ _ _ _ _ from⟨b,_,h3,h2,aI.setRow,ah.setRow h2⟩) trivial (fun x hx hi y hy=>by simp at hx;rcases hx with rfl | rfl<;>first | (simp at hi;done) | (simp at hy;subst hy;exact(show fS _ _ _ _ from⟨b,h1,ah.setRow h2,h3⟩)))):P:=h
theorem Ce(h:P:=by repeat (first | exact Ext.refl _ | exact Ext.alloc _ _ | refine Ext.trans ?_ (Ext.alloc _ _))):P:=h
theorem cT(h:P:=by simp[Value.oneCell']):P:=h
theorem av(h:P:=by simp):P:=h
theorem aY(h:P:=by simp;omega):P:=h
theorem kg(h:P:=by
 rintro e w'' ⟨rfl,kP⟩;exact hK _ kP):P:=h
theorem ct(h:P:=by simp[intOf];omega):P:=h
theorem vM(h:P:=by unfold sC;omega):P:=h
theorem ai7(h:P:=by first | exact Is.ay _ | exact dx.ay _ _ _):P:=h
theorem Ch(k:Q)(h:bg Q->P:=by
 intro kz
 (with_reducible refine aW 17 ?_);refine bz rfl 109 (.tmp 4) rfl _ rfl _ _ _ ha0 cL rfl aZ ?_
 exact kz.o):P:=h ⟨k⟩
theorem OY(k:Q)(h:bg Q->P:=by
 intro kz
 (with_reducible refine aW 16 ?_);refine oY rfl 106 (.tmp 15) rfl (w.heap.size+1) 1 rfl _ (bn a q c p m) #[.int .i64 a.nd.level,.int .i64 a.nd.next,.slice q a.nd.ai.length c] _ ha0 (Cg a q c p m) cZ rfl bq ?_
 exact kz.o):P:=h ⟨k⟩
theorem fj(h:P:=by simp only;omega):P:=h
theorem lB(h:P:=by simp[cA,Value.oneCell']):P:=h
theorem OO(h:P:=by
 have:=Wd (fun j=>!listed.getD j false) (fun j=>!(listed.setIfInBounds i true).getD j false) i (List.range init.length) (fun x _ hx=>by
  by_cases nQ:i=x
  ·subst nQ;simp[h1] at hx
  ·rwa[getD_set_ne false nQ] at hx) (by simpa using vN) (by simp[h1] at hun⊢;exact hun) (by simp[h1])
 omega):P:=h
theorem nk(h:P:=by intro u hu;simp at hu;subst hu;rfl):P:=h
theorem kQ(h:P:=by rw[gF];omega):P:=h
theorem EG(k:Q)(h:bg Q->P:=by
 intro kz
 (with_reducible refine aW 16 ?_);refine bu rfl (.tmp 3) rfl _ rfl d dr ?_
 exact kz.o):P:=h ⟨k⟩
theorem aiI(k:Q)(h:bg Q->P:=by
 intro kz
 (with_reducible refine aW 55 ?_);refine dW rfl 37 #[(0,.tmp 53),(1,.tmp 54)] rfl [(0,.string ⟨y1.toArray⟩),(1,.string ⟨y2.toArray⟩)] rfl _ (Wc y1 y2) ?_
 exact kz.o):P:=h ⟨k⟩
theorem JQ(h:P:=by refine BigFrame.wpList_want hgd fun K hK=>Lib.wp_append_run w d s _ _ ho _ _ hv hs _ _ hr (hK _ _ (h _ _ (by simpa using hown) ⟨rfl,rfl,rfl,aH _,fun _ _ _=>rfl⟩))):P:=h
theorem We(k:Q)(h:bg Q->P:=by
 intro kz
 (with_reducible refine aW 44 ?_);refine oY rfl 30 (.tmp 43) rfl w.heap.size 1 rfl _ (bH (.slice p m cap) h d) (aK h) _ xR (JP _ h d) fH rfl dg ?_
 exact kz.o):P:=h ⟨k⟩
theorem Wf(k:Q)(h:bg Q->P:=by
 intro kz
 (with_reducible refine aW 46 ?_);refine oY rfl 23 (.tmp 45) rfl w.heap.size 8 rfl _ (bH (.slice p m cap) h d) (az d) _ xR (xS _ h d) gr rfl gD ?_
 exact kz.o):P:=h ⟨k⟩
theorem vO(h:P:=by intro u hu;simp at hu;rcases hu with rfl | rfl<;>rfl):P:=h
theorem oZ(h:P:=by exact⟨0,bL _,rfl,rfl⟩):P:=h
theorem OP(h:P:=by
 intro o ho d hd;obtain⟨k,hk⟩:=List.getElem?_of_mem (show o∈init++tail by simp[ho]);have:=(qw (ops:=(init++tail).toArray) hB (i:=k) (j:=k) (by simpa using hk) (by simpa using hk) hd).1;simpa using this):P:=h
theorem ai9(h:P:=by
 have tH:((#[(0,Operand.tmp 41),(1,Operand.tmp 42)]:Array (Nat×Operand)).map fun(i,x)=>(i,a'.eval x)).toList=[(0,.int .i64 page),(1,.string ⟨s.toArray⟩)]:=(by simp only[zN,dh,dQ];rw[show a'.eval (.tmp 41)=_ from vP,show a'.eval (.tmp 42)=_ from OQ]);refine tJ 133 #[(0,.tmp 41),(1,.tmp 42)] rfl ?_ ?_
 ·rw[tH,Wg];rfl
 ·rw[tH,Wg];exact hK _ (Ext.refl _)):P:=h
theorem nR(h:P:=by rw[HR.out];rfl):P:=h
theorem OT(h:P:=by unfold sC;simp only[gu];omega):P:=h
theorem JR(k:Q)(h:bg Q->P:=by
 intro kz
 (with_reducible refine aW 10 ?_);refine bu rfl (.tmp 2) rfl _ rfl d dr ?_
 exact kz.o):P:=h ⟨k⟩
theorem xT(h:P:=by
 simp[Array.getElem?_replicate] at hl;split at hl<;>simp at hl):P:=h
theorem JS(h:P:=by exact Lib.wp_append_run w d s _ _ ho _ _ hv hs _ _ hr (h _ _ (by simpa using hown) ⟨rfl,rfl,rfl,aH _,fun _ _ _=>rfl⟩)):P:=h
theorem jP(h:P:=by simpa using h1):P:=h
theorem EH(h:P:=by unfold jg at hz⊢;split at hz<;>rename_i hq;exact absurd rfl hz;rw[aA hq]):P:=h
theorem ko(h:P:=by simp[fC] at h):P:=h
theorem tK(h:P:=by rw[hF.out];rfl):P:=h
theorem JT(k:Q)(h:bg Q->P:=by
 intro kz
 (with_reducible refine aW 12 ?_);refine bz rfl 106 (.tmp 5) rfl _ rfl _ _ _ hb0 cZ rfl bq ?_
 exact kz.o):P:=h ⟨k⟩
theorem Wh(h:P:=by
 intro x hx y hy;obtain⟨oy,JU,JV⟩:=JW hs x hx y hy;rw[mL] at hin;have h6:=hin x hx;simp only[eu,gu,mL] at h6;exact e5 x.1 y.1 oy y.2 (by unfold iT;rw[Ci];exact⟨x,hx,by simp;exact⟨y.2,hy⟩⟩) h6.1 (h6.2 y hy) JU JV):P:=h
theorem EI(h:P:=by
 rintro e w'' ⟨he',q9,c9,p9,m9,rfl,h9⟩;exact hK _ _ he' ⟨q9,c9,p9,m9,rfl,h9⟩):P:=h
theorem OU(h:P:=by
 have:=List.countP_le_length (p:=fun i=>!(Array.replicate (init++tail).toArray.size false).getD i false) (l:=List.range init.length);simp at this⊢;omega):P:=h
theorem Cj(k:Q)(h:bg Q->P:=by
 intro kz;simp only[eu,gu];exact kz.o):P:=h ⟨k⟩
theorem OV(h:P:=by
 rcases hown.2 with⟨e,h0⟩ | ⟨g,cap,cur,e,_,_,h2,_⟩
 ·cases e;omega
 ·simp only[Value.slice.injEq] at e;obtain⟨_,_,rfl⟩:=e;exact h2):P:=h
theorem nu(h:P:=by simpa using hls):P:=h
theorem OW(h:P:=by
 funext t;simp only[aJ,List.getD,JX];by_cases ht:t<vs.length
 ·simp[ht]
 ·simp[tL (xU ht)]):P:=h
theorem OX(h:P:=by
 by_cases hi:i<a.ak.length
 ·have:=(JY (s.iv hi).1).1;omega
 ·simp[List.getD,tL (show a.ak.length<=i by omega)]):P:=h
theorem Wi(h:P:=by
 intro t ht hx;have:=e4 t ht fun i j o hk ho hd=>by
  obtain⟨x,hx1,rfl,y,hy,rfl⟩:=JZ hk;obtain⟨oy,JU,JV⟩:=JW hs x hx1 y hy;rw[ho] at JU;obtain rfl:=jF JU;rw[hd] at JV;exact hx x hx1 y hy (jF JV).symm
 simpa using this):P:=h
theorem J0(h:P:=by exact⟨h1,none,0,h2,rfl,.inl ⟨rfl,rfl⟩⟩):P:=h
theorem J1(h:P:=by
 intro v' w'' ho' he';obtain⟨q',c',rfl⟩:=cE ho';exact hK _ _ he' ⟨q',c',rfl,ho'⟩):P:=h
theorem xV(h:P:=by assumption):P:=h
theorem J2(h:P:=by
 rintro e w'' ⟨he',q9,c9,rfl,hf⟩;exact hK _ _ he' ⟨q9,c9,rfl,hf⟩):P:=h
theorem J3(k:Q)(h:bg Q->P:=by
 intro kz;refine dW (o:=⟨some 38,_,_,_,_,_⟩) rfl 106 #[] rfl [] rfl _ uK ?_;exact kz.o):P:=h ⟨k⟩
theorem J4(k:Q)(h:bg Q->P:=by
 intro kz;refine dW (o:=⟨some 54,_,_,_,_,_⟩) rfl 109 #[] rfl [] rfl _ ny ?_;exact kz.o):P:=h ⟨k⟩
theorem Wl(h:P:=by
 intro j oj e hj hl Wm rq;by_cases hij:i=j
 ·subst hij;obtain rfl:=jF (ho.symm.trans hj);exact getD_set_true (hall e Wm rq)
 ·rw[getD_set_ne false hij] at hl;exact getD_set_true (h.closed j oj e hj hl Wm rq)):P:=h
theorem Wj(k:Q)(h:bg Q->P:=by
 intro kz
 (with_reducible refine aW 32 ?_);refine oY rfl 106 (.tmp 31) rfl (w.heap.size+1) 1 rfl _ (bn a q c p m) #[.int .i64 a.nd.level,.int .i64 a.nd.next,.slice q a.nd.ai.length c] _ ha1 (Cg a q c p m) cZ rfl bq ?_
 exact kz.o):P:=h ⟨k⟩
theorem J5(h:P:=by first | rfl | exact gP (fun b=>Ending.returned (Value.bool b)) hgt):P:=h
theorem OM(k:Q)(h:bg Q->P:=by
 intro kz
 (with_reducible refine aW 12 ?_);refine bu rfl (.tmp 2) rfl _ rfl d dr ?_
 exact kz.o):P:=h ⟨k⟩
theorem Wn(h:P:=by
 rintro e w' ⟨h1,⟨q,c,L2,h2,_,h3,h4,_,_,h5⟩ | ⟨_,h2⟩⟩
 ·have e2:L2=L:=by have:=(O2 h4).symm.trans (O2 hL);exact jF this
  subst e2;exact⟨h1,q,c,h2,h3,h5⟩
 ·exact absurd hL (h2 L)):P:=h
theorem O3(h:P:=by
 rintro e w'' ⟨he',v9,rfl,fI⟩;exact hK _ _ he' (by obtain⟨q',c',rfl⟩:=cE fI;exact⟨q',c',rfl,fI⟩)):P:=h
theorem nA(h:P:=by simpa using h):P:=h
theorem Wo(h:P:=by
 intro j u hj;have hjl:j<news.length:=(Ck.1 hj).1;rcases hc with hc | ⟨b,off,he,hb,iz⟩
 ·subst hc;simp at hjl
 ·obtain rfl:=jF he;rw[addr_add,iz j hjl];simp[List.getD,hj]):P:=h
theorem J6(k:Q)(h:bg Q->P:=by
 intro kz;refine bu (o:=⟨some 17,_,_,_,_,_⟩) rfl (.tmp 4) rfl _ rfl d dr ?_;exact kz.o):P:=h ⟨k⟩
theorem J7(k:Q)(h:bg Q->P:=by
 intro kz;refine bu (o:=⟨some 16,_,_,_,_,_⟩) rfl (.tmp 4) rfl _ rfl d dr ?_;exact kz.o):P:=h ⟨k⟩
theorem jQ(h:P:=by simp at h):P:=h
theorem xW(h:P:=by rw[HE.out.1,HE.out.2];rfl):P:=h
theorem EJ(h:P:=by rw[zO _ _ _ _ _ (aH _)];exact kC):P:=h
theorem J8(h:P:=by first | exact Ext.refl _ | exact Ext.drew _ | exact Ext.drewN _ _):P:=h
theorem OZ(k:Q)(h:bg Q->P:=by
 intro kz
 (with_reducible refine aW 58 ?_);refine bz rfl 106 (.tmp 8) rfl _ rfl _ _ _ ku cZ rfl bq ?_
 exact kz.o):P:=h ⟨k⟩
theorem O0(k:Q)(h:bg Q->P:=by
 intro kz
 (with_reducible refine aW 17 ?_);refine bz rfl 109 (.tmp 3) rfl _ rfl _ _ _ ha1 cL rfl aZ ?_
 exact kz.o):P:=h ⟨k⟩
theorem Wk(k:Q)(h:bg Q->P:=by
 intro kz
 (with_reducible refine aW 97 ?_);refine bz rfl 106 (.tmp 6) rfl _ rfl _ _ _ ku cZ rfl bq ?_
 exact kz.o):P:=h ⟨k⟩
theorem aja(h:P:=by first | exact Pre.iF.is _ _ _ _ _ _):P:=h
theorem O1(k:Q)(h:bg Q->P:=by
 intro kz
 (with_reducible refine aW 11 ?_);refine bz rfl 106 (.tmp 3) rfl _ rfl _ _ _ hb cZ rfl bq ?_
 exact kz.o):P:=h ⟨k⟩
theorem O4(k:Q)(h:bg Q->P:=by
 intro kz
 (with_reducible refine aW 15 ?_);refine bz rfl 106 (.tmp 3) rfl _ rfl _ _ _ hb cZ rfl bq ?_
 exact kz.o):P:=h ⟨k⟩
theorem Pb(h:P:=by
 obtain⟨t,ht,h2⟩:=h;rcases fD.1 ht with rfl | ht
 ·exact absurd h2 h1
 ·exact⟨t,ht,h2⟩):P:=h
theorem Pc(h:P:=by
 refine tM (fun k=>?_);obtain⟨a,b,c,e,f⟩:=k.2.2.2.2.2.2.2.2.2 h3';rw[a,b,c,e,f] at hv;simp at hv):P:=h
theorem pq(h:P:=by simpa using hi):P:=h
theorem vR(h:P:=by simpa using hk):P:=h
theorem ru(h:P:=by simpa using h2):P:=h
theorem Ka(h:P:=by unfold eN;rw[Ci];exact⟨x,hx,by simp[nQ]⟩):P:=h
theorem Kb(h:P:=by first | exact Ext.drewN _ _ | exact Ext.drew _):P:=h
theorem Ws(h:P:=by
 rcases h with h | ⟨b,off,hq,hb,hc⟩
 ·exact absurd h hx
 ·refine⟨_,hq,fun j u hj=>?_⟩;have hjl:j<xs.length:=(Ck.1 hj).1;rw[addr_add,hc j hjl];simp[List.getD,hj]):P:=h
theorem ajb(h:P:=by
 have e2:ck (L.take k)++[.int .i64 page,.string ⟨s.toArray⟩]++ck (L.drop k)=ck (pz (page,s) L):=by
  rw[vS.out,EK,tN];simp
 rw[e1,e2] at gG;rw[<-e1,e1];exact fJ gG hS.size):P:=h
theorem Wt(h:P:=by
 rcases h with h | ⟨b,off,hp,hb,hc⟩
 ·exact .inl h
 ·exact .inr ⟨b,off,hp,fM hb e.size,fun i hi=>⟨(e.cell b _ hb).trans (hc i hi).1,(e.cell b _ hb).trans (hc i hi).2⟩⟩):P:=h
theorem xX(h:P:=by rw[eU];omega):P:=h
theorem ajc(h:P:=by
 simp only[gW,h5,uL];rw[show k+(rest.length+1)=k+1+rest.length by omega];exact h4):P:=h
theorem vQ(h:P:=by rw[HE.out];rfl):P:=h
theorem Pf(h:P:=by
 have:=gP List.length e;rw[gF] at this;simp only[lC] at this;omega):P:=h
theorem ajd(h:P:=by first | exact HX.out | exact HX.out.trans (Ext.drewN _ _)):P:=h
theorem Wu(h:P:=by
 have e:qz ops S0 k (k+([]:List Oper).length-k)=S0:=by simp[qz]
 intro a w h1 h2 h3 h4 h5;refine h a w h1 h2 h3 (fun t ht hk=>?_) h5;have:=h4 t ht hk;simp only[e] at this;exact this):P:=h
theorem aje(h:P:=by exact Ke 37 lW fE (.tmp 80) rfl gb (ob+n1*2) vT _ _ ((he.cell gb _ EL.out.2).trans EM.out.2.2.1) ((he.cell gb _ EL.out.2).trans EM.out.2.2.2) (hK _ (Ext.refl _))):P:=h
theorem Pg(h:P:=by have:=hl (j+1) (by simpa using hj);simpa[sD,Nat.add_comm 1 j] using this):P:=h
theorem uM(h:P:=by unfold maxLen;omega):P:=h
theorem ajf(h:P:=by exact Ke 37 lW fE (.tmp 72) rfl ga (oa+i*2) vT _ _ ((he.cell ga _ EL.out.1).trans EM.out.1) ((he.cell ga _ EL.out.1).trans EM.out.2.1) (hK _ (Ext.refl _))):P:=h
theorem Wv(h:P:=by simp only[zN,dh,dQ];rw[show a'.eval (.tmp 65)=_ from Ph,show a'.eval (.tmp 66)=_ from EN,show a'.eval (.tmp 72)=_ from Pj]):P:=h
theorem Ww(h:P:=by simp only[zN,dh,dQ];rw[show a'.eval (.tmp 74)=_ from Ph,show a'.eval (.tmp 75)=_ from EN,show a'.eval (.tmp 81)=_ from Pj]):P:=h
theorem Wp(k:Q)(h:bg Q->P:=by
 intro kz
 (with_reducible refine aW 22 ?_);refine oY rfl 30 (.tmp 21) rfl w.heap.size 1 rfl _ (bH (.slice p m cap) h d) (aK h) _ hc0 (JP _ h d) fH rfl dg ?_
 exact kz.o):P:=h ⟨k⟩
theorem Wq(k:Q)(h:bg Q->P:=by
 intro kz
 (with_reducible refine aW 24 ?_);refine oY rfl 23 (.tmp 23) rfl w.heap.size 8 rfl _ (bH (.slice p m cap) h d) (az d) _ hc0 (xS _ h d) gr rfl gD ?_
 exact kz.o):P:=h ⟨k⟩
theorem vU(h:P:=by rw[tO];omega):P:=h
theorem Wx(h:P:=by
 rw[addr_add,cell_of_row w g (off+j) all t (0,0) hb];have hj:j<cs.size:=by have:=(Ck.1 hv).1;simpa using this
 rw[hc j hj];simp[hj] at hv;rw[<-hv]):P:=h
theorem Wy(h:P:=by
 rw[hq'] at hq;simp only[mz,Addr.mk.injEq,kD] at hq;obtain⟨rfl,rfl⟩:=hq;have:=(iz i hfl).2;rw[nB] at this;exact⟨g',hq',hgl,this⟩):P:=h
theorem ajg(h:P:=by unfold sC;simp only[gu];have:=HF.out;have:=HB.out;omega):P:=h
theorem Cl(h:P:=by rw[c.size];exact aH _):P:=h
theorem Kf(h:P:=by have:=hsp.l1;intro h9;rw[h9] at this;simp at this):P:=h
theorem uN(h:P:=by simp[intOf];omega):P:=h
theorem ajh(h:P:=by
 intro v' w'' ho' hg';obtain⟨q',c',rfl⟩:=cE ho';exact hK _ _ (Below.ij hg' jG (aH _) he0.size) ⟨q',c',rfl,ho'⟩ (EO _ _ _ _)):P:=h
theorem Pk(k:Q)(h:bg Q->P:=by
 intro kz;refine bu (o:=⟨some 28,_,_,_,_,_⟩) rfl (.tmp 3) rfl _ rfl d iZ.out.ds ?_;exact kz.o):P:=h ⟨k⟩
theorem aji(k:Q)(h:bg Q->P:=by
 intro kz;refine dW (o:=⟨some 28,_,_,_,_,_⟩) rfl 109 #[] rfl [] rfl _ ny ?_;exact kz.o):P:=h ⟨k⟩
theorem ajj(k:Q)(h:bg Q->P:=by
 intro kz;refine dW (o:=⟨some 29,_,_,_,_,_⟩) rfl 109 #[] rfl [] rfl _ ny ?_;exact kz.o):P:=h ⟨k⟩
theorem xY(h:P:=by rw[HS.out,HR.out];rfl):P:=h
theorem O7(k:Q)(h:bg Q->P:=by
 intro kz
 (with_reducible refine aW 24 ?_);refine bu rfl (.tmp 2) rfl _ rfl d hd1 ?_
 exact kz.o):P:=h ⟨k⟩
theorem O8(k:Q)(h:bg Q->P:=by
 intro kz
 (with_reducible refine aW 16 ?_);refine bu rfl (.tmp 2) rfl _ rfl d hd1 ?_
 exact kz.o):P:=h ⟨k⟩
theorem Wz(h:P:=by
 have hl:sE m h d key=eW m h d key h.height.toNat:=by unfold sE;rw[aC (by rw[ry];exact hc)]
 unfold sF;rw[hl,ry,hc];exact⟨h1,q,c,h2,h3⟩):P:=h
theorem O9(k:Q)(h:bg Q->P:=by
 intro kz
 (with_reducible refine aW 18 ?_);refine bu rfl (.tmp 3) rfl _ rfl d hd1 ?_
 exact kz.o):P:=h ⟨k⟩
theorem WA(h:P:=by exact h.other t (fun k ok hok qA=>hw ⟨k,ok,hok,qA⟩)):P:=h
theorem Pa(k:Q)(h:bg Q->P:=by
 intro kz
 (with_reducible refine aW 8 ?_);refine mM rfl (.tmp 4) rfl _ rfl h hb1 ?_
 exact kz.o):P:=h ⟨k⟩
theorem Py(k:Q)(h:bg Q->P:=by
 intro kz
 (with_reducible refine aW 9 ?_);refine bu rfl (.tmp 5) rfl _ rfl d hb2 ?_
 exact kz.o):P:=h ⟨k⟩
theorem ajk(h:P:=by
 refine tJ 26 #[(0,.tmp 80),(1,.tmp 82)] rfl ?_ ?_
 ·rw[tH,Pm c.key c.back];rfl
 ·rw[tH,Pm c.key c.back];exact hK _ (Ext.refl _)):P:=h
theorem Cm(h:P:=by have:=sG.out.2.2.2.2;omega):P:=h
theorem WB(h:P:=by first | exact Ext.refl _ | exact Ext.drewN _ _ | exact Ext.drew _):P:=h
theorem Pn(k:Q)(h:bg Q->P:=by
 intro kz;refine mM (o:=⟨some 18,_,_,_,_,_⟩) rfl (.tmp 5) rfl _ rfl h hb1 ?_;exact kz.o):P:=h ⟨k⟩
theorem Po(k:Q)(h:bg Q->P:=by
 intro kz;refine bu (o:=⟨some 19,_,_,_,_,_⟩) rfl (.tmp 6) rfl _ rfl d hb2 ?_;exact kz.o):P:=h ⟨k⟩
theorem Cn(h:P:=by have:=WC.out;omega):P:=h
theorem WD(h:P:=by simp only[zN,dh,dQ];rw[show a'.eval (.tmp 47)=_ from EP,show a'.eval (.tmp 49)=_ from Pp]):P:=h
theorem WE(h:P:=by exact hK _ _ ⟨b,_,h3,h2,aI.setRow⟩ trivial (fun x hx _ y hy=>by simp at hx;subst hx;simp at hy;subst hy;exact⟨b,h1,ah.setRow h2,h3⟩)):P:=h
theorem WG(h:P:=by
 subst hij;obtain rfl:=jF (ho.symm.trans hj);rw[hd,ajl _ _ _ (by rw[h.size];exact(qw hB ho ho hd).1)];exact hv):P:=h
theorem WH(h:P:=by simp only[zN,dh,dQ];rw[show a.eval (.tmp 25)=_ from h1,show a.eval (.tmp 27)=_ from h2]):P:=h
theorem zQ(h:P:=by simp[List.getD,hi]):P:=h
theorem uO(h:P:=by simpa using h3):P:=h
theorem Co(h:P:=by simp[au,List.getD,hk]):P:=h
theorem WY(k:Q)(h:bg Q->P:=by
 intro kz;simp only[ho,resolve,invoke,builtin,Sem.run_bind,Sem.run_pure,Result.andThen_ok,zN,dh,dQ,hv,hs,hr];exact kz.o):P:=h ⟨k⟩
theorem Pt(h:P:=by rcases ho with ho | ho<;>simp[Oper.looksAt,ho,Op.operands]):P:=h
theorem ES(h:P:=by simp[ByteArray.size]):P:=h
theorem ajm(h:P:=by
 subst hik;rw[ho] at ho';obtain rfl:=jF ho';simpa using hs):P:=h
theorem xZ(h:P:=by simp[List.getD,h]):P:=h
theorem Cp(h:P:=by simp[au,List.getD,h]):P:=h
theorem ajn(h:P:=by
 show qz ops S0 k (i+1-k)=_;rw[e,qz,show k+(i-k)=i by omega,ho]):P:=h
theorem zR(h:P:=by simp[iL,HE.out]):P:=h
theorem WZ(h:P:=by
 unfold lX;rcases hc with hc | hc
 ·rw[aM hc];rfl
 ·rw[Pu];exact .inr (by simpa using hc)):P:=h
theorem ET(k:Q)(h:bg Q->P:=by
 intro kz;simp only[EU,uL];exact kz.o):P:=h ⟨k⟩
theorem W5(h:P:=by
 rw[Cq] at h7;split at h7
 ·rename_i hk;exact .inr hk
 ·split at h7
  ·rename_i hE;exact .inl (e2.2 hE)
  ·omega):P:=h
theorem yc(h:P:=by simp at hi;omega):P:=h
theorem Cr(h:P:=by have:=ah.lt hz2;omega):P:=h
theorem Pv(h:P:=by rw[pE];exact hd o' (by simp[ho']) d' hd'):P:=h
theorem W6(h:P:=by rw[Cs.out,Kg.out];unfold sH;simp only[hb];simp):P:=h
theorem EV(h:P:=by have:=K.cn;have:=K.n0;omega):P:=h
theorem EW(h:P:=by have:=K.an;have:=K.n0;omega):P:=h
theorem ajo(h:P:=by rw[Ho.out,<-Hy.out,<-W7.out];rfl):P:=h
theorem tP(h:P:=by exact absurd rfl hne):P:=h
theorem W8(h:P:=by
 rcases iG.1 hX with h | h
 ·exact kR.out.sm X h
 ·obtain rfl:=List.mem_singleton.1 h;exact mA.out.1):P:=h
theorem Kh(h:P:=by exact⟨rfl,rfl,rfl,Ct _,.inl rfl⟩):P:=h
theorem sI(h:P:=by simp[h1]):P:=h
theorem Cu(h:P:=by rw[e];exact mN _):P:=h
theorem W9(h:P:=by
 rw[addr_add];rcases j with _ | _ | j
 ·simp at hy;subst hy;exact h0
 ·simp at hy;subst hy;exact h1
 ·simp at hy):P:=h
theorem Cv(h:P:=by have:=K.height;omega):P:=h
theorem ajp(k:Q)(h:bg Q->P:=by
 intro kz;refine bz (o:=⟨some 74,_,_,_,_,_⟩) rfl 109 (.tmp 4) rfl _ rfl _ _ _ HS.out.pr.ar cL rfl aZ ?_;exact kz.o):P:=h ⟨k⟩
theorem Pw(h:P:=by dsimp only;split<;>first | exact hf | exact h1 i):P:=h
theorem WI(k:Q)(h:bg Q->P:=by
 intro kz
 (with_reducible refine aW 27 ?_);refine bz rfl 156 (.tmp 10) rfl _ rfl _ _ _ zP vV rfl oq ?_
 exact kz.o):P:=h ⟨k⟩
theorem WJ(k:Q)(h:bg Q->P:=by
 intro kz
 (with_reducible refine aW 91 ?_);refine bz rfl 109 (.tmp 11) rfl _ rfl _ _ _ ER cL rfl aZ ?_
 exact kz.o):P:=h ⟨k⟩
theorem WK(k:Q)(h:bg Q->P:=by
 intro kz
 (with_reducible refine aW 99 ?_);refine bz rfl 109 (.tmp 11) rfl _ rfl _ _ _ ER cL rfl aZ ?_
 exact kz.o):P:=h ⟨k⟩
theorem WM(k:Q)(h:bg Q->P:=by
 intro kz
 (with_reducible refine aW 55 ?_);refine bz rfl 109 (.tmp 14) rfl _ rfl _ _ _ Pq cL rfl aZ ?_
 exact kz.o):P:=h ⟨k⟩
theorem ajq(h:P:=by
 first
  | exact hK _ (Ext.refl _)
  | (refine(tQ.out _ he).mono ?_;rintro e w'' ⟨rfl,kP⟩;exact hK _ kP)):P:=h
theorem WN(k:Q)(h:bg Q->P:=by
 intro kz
 (with_reducible refine aW 23 ?_);refine bz rfl 26 (.tmp 7) rfl _ rfl _ _ _ hc1 nS rfl kE ?_
 exact kz.o):P:=h ⟨k⟩
theorem WO(k:Q)(h:bg Q->P:=by
 intro kz
 (with_reducible refine aW 15 ?_);refine bz rfl 106 (.tmp 3) rfl _ rfl _ _ _ hb2 cZ rfl bq ?_
 exact kz.o):P:=h ⟨k⟩
theorem WQ(k:Q)(h:bg Q->P:=by
 intro kz
 (with_reducible refine aW 20 ?_);refine bz rfl 106 (.tmp 3) rfl _ rfl _ _ _ hb2 cZ rfl bq ?_
 exact kz.o):P:=h ⟨k⟩
theorem WR(k:Q)(h:bg Q->P:=by
 intro kz
 (with_reducible refine aW 21 ?_);refine bz rfl 156 (.tmp 5) rfl _ rfl _ _ _ hb1 vV rfl oq ?_
 exact kz.o):P:=h ⟨k⟩
theorem WS(k:Q)(h:bg Q->P:=by
 intro kz
 (with_reducible refine aW 14 ?_);refine bz rfl 109 (.tmp 3) rfl _ rfl _ _ _ ha0 cL rfl aZ ?_
 exact kz.o):P:=h ⟨k⟩
theorem WT(k:Q)(h:bg Q->P:=by
 intro kz
 (with_reducible refine aW 22 ?_);refine bz rfl 109 (.tmp 5) rfl _ rfl _ _ _ hb1 cL rfl aZ ?_
 exact kz.o):P:=h ⟨k⟩
theorem WU(k:Q)(h:bg Q->P:=by
 intro kz
 (with_reducible refine aW 10 ?_);refine bz rfl 106 (.tmp 1) rfl _ rfl _ _ _ hb0 cZ rfl bq ?_
 exact kz.o):P:=h ⟨k⟩
theorem ajr(h:P:=by unfold Pz;omega):P:=h
theorem ot(h:P:=by cases h):P:=h
theorem uP(h:P:=by rw[hz];simp):P:=h
theorem PA(h:P:=by unfold sJ gQ;rw[hA];exact⟨rfl,rfl⟩):P:=h
theorem Ki(h:P:=by rw[h9] at htk;simp at htk;omega):P:=h
theorem WV(k:Q)(h:bg Q->P:=by
 intro kz
 (with_reducible refine aW 23 ?_);refine bz rfl 156 (.tmp 3) rfl _ rfl _ _ _ hb vV rfl oq ?_
 exact kz.o):P:=h ⟨k⟩
theorem WW(k:Q)(h:bg Q->P:=by
 intro kz
 (with_reducible refine aW 3 ?_);refine bz rfl 106 (.tmp 1) rfl _ rfl _ _ _ hb cZ rfl bq ?_
 exact kz.o):P:=h ⟨k⟩
theorem WX(k:Q)(h:bg Q->P:=by
 intro kz
 (with_reducible refine aW 8 ?_);refine bz rfl 106 (.tmp 3) rfl _ rfl _ _ _ hb cZ rfl bq ?_
 exact kz.o):P:=h ⟨k⟩
theorem yd(h:P:=by simpa[au] using this):P:=h
theorem Xu(h:P:=by
 rintro e w' ⟨h1,⟨q,c,L2,h2,_,h3,h4,_⟩ | ⟨h2,_⟩⟩
 ·exact absurd h4 (Cw L2)
 ·exact⟨h1,h2⟩):P:=h
theorem EX(h:P:=by rw[uQ] at h;cases h):P:=h
theorem ajs(h:P:=by unfold sC;have:=HF.out;have:=HB.out;omega):P:=h
theorem PB(h:P:=by simp only;rw[tT,gF];omega):P:=h
theorem Xv(k:Q)(h:bg Q->P:=by
 intro kz;refine bz (o:=⟨some 49,_,_,_,_,_⟩) rfl 109 (.tmp 4) rfl _ rfl _ _ _ H6.ar cL rfl aZ ?_;exact kz.o):P:=h ⟨k⟩
theorem Kj(h:P:=by rw[HB.out];exact aH _):P:=h
theorem Xw(k:Q)(h:bg Q->P:=by
 intro kz;refine bz (o:=⟨some 50,_,_,_,_,_⟩) rfl 109 (.tmp 11) rfl _ rfl _ _ _ ye cL rfl aZ ?_;exact kz.o):P:=h ⟨k⟩
theorem Xx(k:Q)(h:bg Q->P:=by
 intro kz;refine bz (o:=⟨some 50,_,_,_,_,_⟩) rfl 106 (.tmp 10) rfl _ rfl _ _ _ lY cZ rfl bq ?_;exact kz.o):P:=h ⟨k⟩
theorem ajt(k:Q)(h:bg Q->P:=by
 intro kz;refine bz (o:=⟨some 88,_,_,_,_,_⟩) rfl 26 (.tmp 3) rfl _ rfl _ _ _ hc1 nS rfl kE ?_;exact kz.o):P:=h ⟨k⟩
theorem Xy(k:Q)(h:bg Q->P:=by
 intro kz;refine bz (o:=⟨some 36,_,_,_,_,_⟩) rfl 30 (.tmp 5) rfl _ rfl _ _ _ h0.hd fH rfl dg ?_;exact kz.o):P:=h ⟨k⟩
theorem Xz(k:Q)(h:bg Q->P:=by
 intro kz;refine bz (o:=⟨some 38,_,_,_,_,_⟩) rfl 117 (.tmp 11) rfl _ rfl _ _ _ iA yf rfl rz ?_;exact kz.o):P:=h ⟨k⟩
theorem PD(h:P:=by unfold ou;rw[aC (lD.2 I.spec)]):P:=h
theorem XA(k:Q)(h:bg Q->P:=by
 intro kz;refine bz (o:=⟨some 10,_,_,_,_,_⟩) rfl 109 (.tmp 3) rfl _ rfl _ _ _ ha1 cL rfl aZ ?_;exact kz.o):P:=h ⟨k⟩
theorem Cx(h:P:=by have:=Hd.out;omega):P:=h
theorem XB(k:Q)(h:bg Q->P:=by
 intro kz;refine bz (o:=⟨some 9,_,_,_,_,_⟩) rfl 109 (.tmp 3) rfl _ rfl _ _ _ ha0 cL rfl aZ ?_;exact kz.o):P:=h ⟨k⟩
theorem Cy(h:P:=by simpa using hil):P:=h
theorem EY(h:P:=by simp[Region.wanted,hg]):P:=h
theorem Kk(h:P:=by unfold tU;rw[hp];exact he'):P:=h
theorem XC(h:P:=by
 obtain⟨k,hk,hk2⟩:=Array.any_eq_true.1 h6;simp at hk2;exact⟨_,Array.getElem_mem hk,hk2.1,hk2.2⟩):P:=h
theorem EZ(h:P:=by simp at hil hls;omega):P:=h
theorem PE(h:P:=by rw[PF];unfold ja;rw[aC hv]):P:=h
theorem aju(h:P:=by
 simp only[this,uL,aH,pF];exact h0):P:=h
theorem PG(h:P:=by
 intro i _;simp[Array.getElem?_replicate];split<;>simp):P:=h
theorem vW(k:Q)(h:bg Q->P:=by
 intro kz;simp only[az,hs];exact kz.o):P:=h ⟨k⟩
theorem PI(h:P:=by exact⟨h1,v9,h2,fJ h3 (by have:=e.size;omega)⟩):P:=h
theorem zT(h:P:=by simpa using he):P:=h
theorem zU(h:P:=by simpa using hp):P:=h
theorem zV(h:P:=by simp[aV]):P:=h
theorem Kl(h:P:=by rw[jR.out,HD.out,qB];simp):P:=h
theorem Km(h:P:=by rw[zW.out,rB.out,hf];simp):P:=h
theorem XD(h:P:=by
 obtain⟨i,hi,rfl⟩:=nT.1 hx;have:=h i hi;rw[vX hi,e] at this;cases this):P:=h
theorem XE(h:P:=by unfold eX at hb;simp only[eu,gu] at hb;omega):P:=h
theorem PJ(h:P:=by rw[qC,gF];omega):P:=h
theorem XF(h:P:=by
 obtain⟨q',c',rfl⟩:=cE ho';exact hK _ _ hbl ⟨q',c',rfl,ho'⟩ (EO _ _ _ _)):P:=h
theorem Kn(h:P:=by rw[BigFrame.run_assign _ ho];exact h1):P:=h
theorem XG(h:P:=by have:=run_endLoop (P:=P) hl (by rw[hrec];simp);rw[hrec] at this;exact this):P:=h
theorem zX(h:P:=by simpa using e):P:=h
theorem XH(h:P:=by rw[jR.out,HD.out,aM (show ¬bp.length<=32 by omega)];simp):P:=h
theorem Ko(h:P:=by have:=iM hk;omega):P:=h
theorem XI(h:P:=by rw[zW.out,rB.out,hf,tV.out,aM yh,yj.out];simp[jb]):P:=h
theorem E0(h:P:=by
 simp at this;exact hne this.2):P:=h
theorem Cz(h:P:=by push_cast;omega):P:=h
theorem PK(h:P:=by simp only;rw[eU];omega):P:=h
theorem XJ(h:P:=by
 by_cases h4:gH d.interval (aF M page).1=0
 ·exact h4
 ·exact absurd (.inl h4) h2):P:=h
theorem Kq(h:P:=by rw[BigFrame.run_move _ ho];exact h1):P:=h
theorem E3(h:P:=by simpa[hq] using hi):P:=h
theorem E4(h:P:=by simp[List.getD,hk]):P:=h
theorem PM(h:P:=by unfold eX at hb;simpa using hb):P:=h
theorem PN(h:P:=by rw[tT,gF];omega):P:=h
theorem iq(k:Q)(h:bg Q->P:=by
 intro kz;apply bT rfl
 ·intro a w' he hr K hK;exact zY
 simp only[bZ,bG,bN];exact kz.o):P:=h ⟨k⟩
theorem qD(k:Q)(h:bg Q->P:=by
 intro kz;refine pG _ _ aj aP lz rfl JN (by first | exact .inr (Is.bP _ _ _) | exact .inr (xQ.bP _ _ _ _ aq) | exact .inr (kO.bP _ _ _ _ aq) | exact .inr (dJ.bP _ _ _ _ _ _ _ _ aq) | exact .inl aj) ?_;refine nO ?_;exact kz.o):P:=h ⟨k⟩
theorem vY(h:P:=by first | exact .inr (xQ.bP _ _ _ _ aq) | exact .inr (kO.bP _ _ _ _ aq) | exact .inr (dJ.bP _ _ _ _ _ _ _ _ aq) | exact .inr (dx.bP _ _ _ _ _ _ _ aq) | exact .inr (sB.bP (dx.bP _ _ _ _ _ _ _ aq) _) | exact .inl aj):P:=h
theorem fR(k:Q)(h:bg Q->P:=by
 intro kz;refine vZ _ rfl lz ?_;refine aE ?_;exact kz.o):P:=h ⟨k⟩
theorem pH(k:Q)(h:bg Q->P:=by
 intro kz;apply dF aj aP
 ·intro a w' he hr K hK;exact zY
 simp only[bZ,bG,bN];exact kz.o):P:=h ⟨k⟩
theorem XK(h:P:=by
 intro a w' he hr K hK;exact zY):P:=h
theorem E5(k:Q)(h:bg Q->P:=by
 intro kz;apply Pre.dF (fun k v=>Pre.iF.is _ _ _ _ k v) aj aP
 ·intro a w' he0 hp hr K hK;have he:=(fun(_:(0:Nat)=0) (_:(0:Nat)=0)=>he0) aj aj;exact zY
 simp only[bZ,bG,bN];exact kz.o):P:=h ⟨k⟩
theorem pI(k:Q)(h:bg Q->P:=by
 intro kz;refine uJ _ _ rfl lz rfl ai7 ?_;refine nO ?_;exact kz.o):P:=h ⟨k⟩
theorem Kr(h:P:=by exact hK _ _ ⟨b,_,h3,h2,aI.setRow⟩ trivial (fun x hx _ y hy=>by simp at hx;subst hx;simp at hy;subst hy;exact⟨b,h1,q9,c9,ah.setRow h2,E6 h9 aq ⟨b,_,h3,h2,aI.setRow⟩,h3⟩)):P:=h
theorem Ks(h:P:=by simp at hx;rcases hx with rfl | rfl<;>exact .inl aj):P:=h
theorem XL(h:P:=by
 rcases CA k with Kt | Kt
 ·have z1:decide (0<(k:Int))=false:=aM af;have z1':¬0<k:=af;have hlo:Hid (bl kx low=false):=ag (by rw[XM.out Kt];exact ajw kx);clear Kt;exact XN
 ·have z1:decide (0<(k:Int))=true:=bM af;have z1':0<k:=Kt;cases hb:bl kx low
  ·have u1:Go.Op.bytesLess kx low=false:=hb;have hlo:Hid (bl kx low=false):=ag hb;clear hb;exact XN
  ·have u1:Go.Op.bytesLess kx low=true:=hb;have hF:Hid (dD d a=false):=ag (by rw[Cs.out,hb];simp);clear hb;exact XO):P:=h
theorem Ku(h:P:=by exact hK _ _ ⟨b,_,h3,h2,aI.setRow⟩ trivial (fun x hx _ y hy=>by simp at hx;subst hx;simp at hy;subst hy;exact⟨b,h1,q9,c9,p9,m9,ah.setRow h2,h9.lE h2 aq aq aq aI.setRow,h3⟩)):P:=h
theorem PO(h:P:=by first | exact .inr (tW.bP _ _ _ _ aq) | exact .inr (kO.bP _ _ _ _ aq) | exact .inr (dJ.bP _ _ _ _ _ _ _ _ aq) | exact .inr (dx.bP _ _ _ _ _ _ _ aq) | exact .inr (sB.bP (dx.bP _ _ _ _ _ _ _ aq) _) | exact .inl aj):P:=h
theorem PR(k:Q)(h:bg Q->P:=by
 intro kz;refine we rfl rfl rfl rfl ?_;refine aE ?_;exact kz.o):P:=h ⟨k⟩
theorem pJ(h:P:=by rw[IntWalk.i64_in _ af];omega):P:=h
theorem PT(h:P:=by
 intro i o' hi ho';by_cases hik:i=k
 ·subst hik;rw[ho] at ho';obtain rfl:=jF ho';have:¬i+1<=i:=af;exact aju
 ·have h5:¬i<=k:=af;have h6:¬i+1<=k:=af;simpa[h5,h6] using h3 i o' af ho'):P:=h
theorem XP(h:P:=by
 have e1:=Ext.alloc w (.cells (aK h) 30);have e2:=Ext.alloc (w.alloc (.cells (aK h) 30)) (.cells (az d) 23);have e3:=Ext.alloc ((w.alloc (.cells (aK h) 30)).alloc (.cells (az d) 23)) (.cells #[.int .i64 0,.int .i64 0,.int .i64 0,.int .i64 0,.int .i64 0,.int .i64 0,.int .i64 0] 30);exact⟨(e1.trans e2).trans e3,(e2.trans e3).blk _ _ (ah.new w _),e3.blk _ _ (ah.new1 _ _ _ av),ah.new1 _ _ _ av⟩):P:=h
theorem CB(k:Q)(h:bg Q->P:=by
 intro kz;refine Pre.pG _ _ aj aP lz rfl JN aja ?_;refine nO ?_;exact kz.o):P:=h ⟨k⟩
theorem ym(k:Q)(h:bg Q->P:=by
 intro kz;refine uJ _ _ rfl lz rfl ai6 ?_;refine nO ?_;exact kz.o):P:=h ⟨k⟩
theorem XQ(k:Q)(h:bg Q->P:=by
 intro kz;refine lF (o:=⟨some 83,_,_,_,_,_⟩) (x:=.agg (cD ⟨c.key,c.back,false,false⟩)) rfl rfl rfl rfl ?_ ?_
 ·intro a w' he hr K hK;simp[Reads,Oper.looksAt,Op.operands,aJ,Is] at hr;have tH:((#[(0,.tmp 80),(1,.tmp 82)]:Array (Nat×Operand)).map fun(i,x)=>(i,a.eval x)).toList=[(0,.string ⟨c.key.toArray⟩),(1,.bool c.back)]:=dX;exact ajk
 refine aE ?_;exact kz.o):P:=h ⟨k⟩
theorem XR(h:P:=by
 rw[zZ hnext t i af (fun k ok hk hok qA=>(qw hB hok hj hd).2.1 af qA)];refine h.wait j oj t hj hd ?_;by_cases hij:i=j
 ·subst hij;exact E7
 ·obtain⟨e,he,E8,rq⟩:=hspec.2 af;cases XS:listed.getD j false with
  | false=>rfl
  | true=>
    have:=h.closed j oj e hj XS he rq;rw[E8,E7] at this;cases this):P:=h
theorem XT(k:Q)(h:bg Q->P:=by
 intro kz;refine dF (o:=⟨some 32,_,_,_,_,_⟩) (v:=.agg (az d)) aj aP ?_ ?_
 ·intro a w' he hr K hK;simp[Reads,Oper.looksAt,Op.operands,aJ,Is] at hr;exact eG 23 (.tmp 6) rfl ((w.heap.size+1)) dX _ _ _ _ (he.blk _ _ PU.out) gr rfl gD (hK _ (Ext.refl _))
 refine aE ?_;exact kz.o):P:=h ⟨k⟩
theorem Kv(h:P:=by
 have h4:dz size data=Nd.zero:=by unfold dz;rw[h3,aA aq]
 unfold lG;rw[h3,h4];exact J0):P:=h
theorem XU(k:Q)(h:bg Q->P:=by
 intro kz;refine lF (o:=⟨some 56,_,_,_,_,_⟩) (x:=.agg (fF y)) rfl rfl rfl rfl ?_ ?_
 ·intro a w' he hr K hK;simp[Reads,Oper.looksAt,Op.operands,aJ,Is] at hr;exact eG 37 (.tmp 11) rfl ((ab+1)) dX _ _ _ _ (he.blk _ _ Hp.out) lW rfl fE (hK _ (Ext.refl _))
 refine aE ?_;exact kz.o):P:=h ⟨k⟩
theorem XV(k:Q)(h:bg Q->P:=by
 intro kz;refine lF (o:=⟨some 57,_,_,_,_,_⟩) (x:=.agg (fF y)) rfl rfl rfl rfl ?_ ?_
 ·intro a w' he hr K hK;simp[Reads,Oper.looksAt,Op.operands,aJ,Is] at hr;exact eG 37 (.tmp 14) rfl ((bb+1)) dX _ _ _ _ (he.blk _ _ Hq.out) lW rfl fE (hK _ (Ext.refl _))
 refine aE ?_;exact kz.o):P:=h ⟨k⟩
theorem XW(k:Q)(h:bg Q->P:=by
 intro kz;refine bT (o:=⟨some 47,_,_,_,_,_⟩) (v:=.agg (bH (.slice p m cap) h d)) rfl ?_ ?_
 ·intro a w' he hr K hK;simp[Reads,Oper.looksAt,Op.operands,aJ,Is] at hr;exact eG 117 (.tmp 11) rfl (cb) dX _ _ _ _ (he.blk _ _ XX.out) yf rfl rz (hK _ (Ext.refl _))
 refine aE ?_;exact kz.o):P:=h ⟨k⟩
theorem XY(k:Q)(h:bg Q->P:=by
 intro kz;refine bT (o:=⟨some 32,_,_,_,_,_⟩) (v:=.agg (az d)) rfl ?_ ?_
 ·intro a w' he hr K hK;simp[Reads,Oper.looksAt,Op.operands,aJ,Is] at hr;exact eG 23 (.tmp 3) rfl (w.heap.size) dX _ _ _ _ (he.blk _ _ HS.out.pr.ds) gr rfl gD (hK _ (Ext.refl _))
 refine aE ?_;exact kz.o):P:=h ⟨k⟩
theorem E9(h:P:=by
 simp[Reads,Oper.looksAt,Op.operands,Call.operands,aJ,Is] at hr;exact yo):P:=h
theorem XZ(k:Q)(h:bg Q->P:=by
 intro kz;refine bT (o:=⟨some 76,_,_,_,_,_⟩) (v:=.agg (az d)) rfl ?_ ?_
 ·intro a w' he hr K hK;simp[Reads,Oper.looksAt,Op.operands,aJ,Is] at hr;exact eG 23 (.tmp 2) rfl (w.heap.size) dX _ _ _ _ (he.blk _ _ zS) gr rfl gD (hK _ (Ext.refl _))
 refine aE ?_;exact kz.o):P:=h ⟨k⟩
theorem X0(k:Q)(h:bg Q->P:=by
 intro kz;refine bT (o:=⟨some 52,_,_,_,_,_⟩) (v:=.agg (cD c')) rfl ?_ ?_
 ·intro a w' he hr K hK;simp[Reads,Oper.looksAt,Op.operands,aJ,Is] at hr;exact eG 26 (.tmp 10) rfl (ab) dX _ _ _ _ (he.blk _ _ Ha.out) nS rfl kE (hK _ (Ext.refl _))
 refine aE ?_;exact kz.o):P:=h ⟨k⟩
theorem X1(k:Q)(h:bg Q->P:=by
 intro kz;refine bT (o:=⟨some 53,_,_,_,_,_⟩) (v:=.agg (cD c')) rfl ?_ ?_
 ·intro a w' he hr K hK;simp[Reads,Oper.looksAt,Op.operands,aJ,Is] at hr;exact eG 26 (.tmp 13) rfl (bb) dX _ _ _ _ (he.blk _ _ Hb.out) nS rfl kE (hK _ (Ext.refl _))
 refine aE ?_;exact kz.o):P:=h ⟨k⟩
theorem PV(h:P:=by
 have i1:(d.interval !=128)=true:=jP;have i2:(d.interval !=256)=true:=ru;have i3:(d.interval !=512)=true:=by simpa using h4
 exact mB):P:=h
theorem mO(h:P:=by
 simp at h1;exact yo):P:=h
theorem PW(h:P:=by
 intro i o' hi hi2 ho';by_cases hik:i=k
 ·exact ajm
 ·have:¬i<=k:=af;simpa[this] using h2 i o' af (by simp at hi2;omega) ho'):P:=h
theorem X2(h:P:=by
 have ht':t<a.tmps.size:=by simpa using ht
 obtain⟨_,h2⟩:=Kw G K L t;rcases h2 with⟨x,hx,y,hy,hyt,h2⟩ | ⟨h2,h3⟩
 ·rw[h2];have:=hg x hx y hy;rw[hyt] at this;simpa[ht'] using this
 ·have:=hf t af (h3 af);rw[h2];simpa[aJ,ht'] using this):P:=h
theorem Aa(h:P:=by
 obtain⟨b,off,h,_⟩:=hc.at 0 af;exact⟨_,h⟩):P:=h
theorem X3(h:P:=by
 intro i hi;obtain⟨hun,oi,X4,hall⟩:=pK.1 hi;have hil:=(gX.1 X4).1;by_cases hlt:i<init.length
 ·exact hlt
 ·exfalso;apply CC;intro k hk;exact PX hB hF' Cy af af oi listed X4 h.closed hall):P:=h
theorem X5(h:P:=by
 by_cases hi:i<V.length
 ·have e9:V.getD i []=V[i]:=zQ;rw[e9];exact hst.sm _ (mN hi)
 ·have e9:V.getD i []=[]:=by simp[List.getD,tL (xU hi)]
  rw[e9];exact⟨av,av⟩):P:=h
theorem X6(k:Q)(h:bg Q->P:=by
 intro kz;refine dY (o:=⟨some 41,_,_,_,_,_⟩) (ow 0 nd) (ow.ay _ _) (.inr (ow.bP _ _ _ _)) aj aP ?_ ?_
 ·intro a w' he hr K hK;obtain⟨q9,c9,h1,h9⟩:=hr 30 bO;exact uR
 refine aE ?_;exact kz.o):P:=h ⟨k⟩
theorem wg(h:P:=by
 intro a w' he hr K hK;exact Fa):P:=h
theorem X7(k:Q)(h:bg Q->P:=by
 intro kz;simp only[Tryz.ntmps54,CD,gW,lC,Nat.reduceAdd,Nat.reduceSub,Array.replicate_succ,Array.replicate_zero,List.push_toArray,List.append_toArray,bQ,bE];exact kz.o):P:=h ⟨k⟩
theorem Kx(h:P:=by first | exact jH.ajy aq _ | exact jH.ajz aq _):P:=h
theorem PY(h:P:=by
 exfalso;apply CC;have:=PZ hB hr nu (init++tail).length;exact fun i hi=>this i aY aY):P:=h
theorem X8(h:P:=by
 intro a w' he hr K hK;simp[Reads,Oper.looksAt,Op.operands,aJ,Is] at hr;exact eG 23 (.tmp 8) rfl ((w.heap.size+1)) dX _ _ _ _ (he.blk _ _ P0.out.ds) gr rfl gD (hK _ (Ext.refl _))):P:=h
theorem X9(h:P:=by
 intro a w' he hr K hK;simp[Reads,Oper.looksAt,Op.operands,aJ,Is] at hr;exact eG 23 (.tmp 6) rfl (w.heap.size+1) dX _ _ _ _ (he.blk _ _ H0.out.ds) gr rfl gD (hK _ (Ext.refl _))):P:=h
theorem ajA(k:Q)(h:bg Q->P:=by
 intro kz;refine bT (o:=⟨some 73,_,_,_,_,_⟩) (v:=.agg #[.string ⟨x.toArray⟩,.string ⟨y.toArray⟩]) rfl ?_ ?_
 ·intro a w' he hr K hK;have vT:=hr 72 bO;exact ajf
 refine aE ?_;exact kz.o):P:=h ⟨k⟩
theorem ajB(k:Q)(h:bg Q->P:=by
 intro kz;refine bT (o:=⟨some 81,_,_,_,_,_⟩) (v:=.agg #[.string ⟨x.toArray⟩,.string ⟨y.toArray⟩]) rfl ?_ ?_
 ·intro a w' he hr K hK;have vT:=hr 80 bO;exact aje
 refine aE ?_;exact kz.o):P:=h ⟨k⟩
theorem Ya(h:P:=by
 intro a w' he hr K hK;simp[Reads,Oper.looksAt,Op.operands,aJ,Is] at hr;exact eG 23 (.tmp 3) rfl (w.heap.size) dX _ _ _ _ (he.blk _ _ H8.out.ds) gr rfl gD (hK _ (Ext.refl _))):P:=h
theorem P1(h:P:=by
 by_cases hi:i<init.length
 ·rw[hall i hi];simp[hi]
 ·rw[hnone i af];simp[hi]):P:=h
theorem Yb(h:P:=by
 rw[e2]
 match k with
 | 0=>simp
 | 1=>simp
 | k+2=>
   rw[aA af,aA af];simp only[P2,CE];congr 2;omega):P:=h
theorem Yc(h:P:=by
 rw[zZ hnext t init.length av (fun k ok hk hok qA=>(qw hB hok hj hd).2.1 af qA)];exact h.wait j oj t hj hd (hnone j af)):P:=h
theorem Ye(h:P:=by
 refine nC 26 (.tmp 12) (.tmp 63) rfl b (cD ⟨[97,97],true,true,false⟩) h1 hv _ _ h2 kE rfl (uS _) ?_;exact JO):P:=h
theorem Yf(h:P:=by
 refine nC 37 (.tmp 13) (.tmp 64) rfl b (fF ([97,97],[97,97,49])) h1 hv _ _ h2 fE rfl (nU _ _) ?_;exact JO):P:=h
theorem Yg(h:P:=by
 refine nC 37 (.tmp 5) (.tmp 35) rfl b (fF ([98,98],[98,98,50])) h1 hv _ _ h2 fE rfl (nU _ _) ?_;exact JO):P:=h
theorem Yh(h:P:=by
 rw[gz af];rw[Ab,<-hgd (i+1)];simp[List.getD,show i+1<parts.length by omega]):P:=h
theorem Yi(h:P:=by
 intro i hi;by_cases hik:i=k
 ·subst hik;simpa using hc
 ·have:¬i<=k:=af;simpa[this] using h1c i af):P:=h
theorem Yj(h:P:=by
 refine nC 26 (.tmp 4) (.tmp 34) rfl b (cD uT) h1 hv _ _ h2 kE rfl (uS _) ?_;exact JO):P:=h
theorem Yk(h:P:=by
 have hl:sE m h d key=[]:=by unfold sE;rw[aA (by rw[hc];exact h0)]
 unfold sF;rw[hl,hc];exact J0):P:=h
theorem P3(h:P:=by
 have h1:i<listed.size:=af;simp[h1] at hun⊢;exact hun):P:=h
theorem P4(h:P:=by
 intro i o hi ho;have e:i+1-k=(i-k)+1:=af;exact ajn):P:=h
theorem P5(h:P:=by exact start (fuel+1) listed a w hls af CC hnone h):P:=h
theorem Yl(h:P:=by exact⟨⟨⟨⟨⟨⟨K.k.tree.keyed,af⟩,af⟩,af⟩,af⟩,af⟩,af⟩):P:=h
theorem Ym(h:P:=by exact⟨hc.os,hc.tape,hc.output,by rw[hc.size];have:=ah.lt hb;omega,fun k hk=>hc.block k af⟩):P:=h
theorem P6(h:P:=by
 have h5:¬k+(rest.length+1)<=k:=af;exact ajc):P:=h
theorem Yn(h:P:=by exact .inr (fun v w w' r h=>by obtain⟨q',c',h1,h2⟩:=h;exact⟨q',c',h1,rC h2 aq r⟩)):P:=h
theorem Yo(h:P:=by
 rw[zZ hnext t init.length av (fun k ok _ hok qA=>hw ⟨k,ok,hok,qA⟩)];exact WA):P:=h
theorem Ky(h:P:=by
 unfold eX;refine Cj ?_;omega):P:=h
theorem Yp(h:P:=by exact Kz (fun s=>s.length<=512) av _ (CF Ia.spec P.inv.spec).2 _ K.short):P:=h
theorem Yq(h:P:=by
 refine⟨g1,fun _=>?_⟩;have g3:=g2 av;cases C with
 | nil=>exact g3
 | cons u C=>exact g3):P:=h
theorem Yr(h:P:=by
 intro a' w' he0 hp hr K' hK;simp[Reads,Oper.looksAt,Op.operands,aJ,Is] at hr;exact yo):P:=h
theorem Ys(h:P:=by exact .inr (fun v w w' r h=>by obtain⟨b,h1,h2⟩:=h;exact⟨b,h1,r.2 _ _ _ aq h2⟩)):P:=h
theorem Yt(h:P:=by
 rw[zZ hnext t i af (fun k ok _ hok qA=>hw ⟨k,ok,hok,qA⟩)];exact WA):P:=h
theorem Yu(k:Q)(h:bg Q->P:=by
 intro kz;refine iU (o:=⟨none,_,_,_,_,_⟩) Any Any.ay (.inr Any.bP) aj aP ?_ ?_
 ·intro a w' he hr K hK;obtain⟨b,h1,h2,h3⟩:=hr 13 bO;obtain⟨q9,c9,hv,h9⟩:=hr 41 bO;refine nC 106 (.tmp 13) (.tmp 41) rfl b _ h1 hv _ _ h2 bq rfl cT ?_;exact Kr
 refine aE ?_;exact kz.o):P:=h ⟨k⟩
theorem Yv(k:Q)(h:bg Q->P:=by
 intro kz;apply lF rfl rfl rfl rfl
 ·exact XK
 simp only[bZ,bG,bN];exact kz.o):P:=h ⟨k⟩
theorem Yw(k:Q)(h:bg Q->P:=by
 intro kz;refine dY (o:=⟨some 13,_,_,_,_,_⟩) (fS wr.heap.size (.cells #[.int .i64 0,.int .i64 0,.slice none 0 0] 106)) (fS.ay _ _) vY aj aP ?_ ?_
 ·exact uU
 refine aE ?_;exact kz.o):P:=h ⟨k⟩
theorem Yx(k:Q)(h:bg Q->P:=by
 intro kz;refine bT (o:=⟨some 41,_,_,_,_,_⟩) (v:=.string ⟨ks.toArray⟩) rfl ?_ ?_
 ·exact Yy
 refine aE ?_;exact kz.o):P:=h ⟨k⟩
theorem P7(k:Q)(h:bg Q->P:=by
 intro kz;simp only[bZ,bG,bN];exact kz.o):P:=h ⟨k⟩
theorem ag{p:Prop}(h:p):Go.RowKit.Hid p:=h
namespace aD
open Go Go.RowKit
def Ext (w w':World):Prop:=Below w.heap.size w w'
theorem Ext.refl (w:World):Ext w w:=Below.refl _ _
theorem Ext.size {w w':World} (h:Ext w w'):w.heap.size<=w'.heap.size:=Below.size h
theorem Ext.trans {a b c:World} (h:Ext a b) (k:Ext b c):Ext a c:=Below.trans h (Below.mono k h.size)
theorem Ext.drewN (w:World) (n:Nat):Ext w (w.drewN n):=⟨rfl,rfl,rfl,aH _,fun _ _=>rfl⟩
theorem Ext.drew (w:World):Ext w w.drew:=⟨rfl,rfl,rfl,aH _,fun _ _=>rfl⟩
theorem Ext.P8 {w w':World} (h:∃n,w'=w.drewN n):Ext w w':=by obtain⟨n,rfl⟩:=h;exact Ext.drewN w n
theorem Ext.alloc (w:World) (o:Obj):Ext w (w.alloc o):=Below.alloc (Below.refl _ _) (aH _) o
theorem Ext.cell {w w':World} (h:Ext w w') (b o:Nat) (d:b<w.heap.size):w'.cell? ⟨b,o,none⟩=w.cell? ⟨b,o,none⟩:=Below.cell (p:=⟨b,o,none⟩) h d
theorem Ext.block {w w':World} (h:Ext w w') (b:Nat) (d:b<w.heap.size):w'.heap[b]? =w.heap[b]? :=Below.block h b d
def aL (l:List UInt8) (i:Nat):Nat:=(l.getD i 0).toNat
theorem nV (l:List UInt8) (i:Nat):aL l i<256:=(l.getD i 0).toNat_lt
@[go_sem] theorem axZ (l:List UInt8) (i:Nat) (h:i<(ByteArray.mk l.toArray).size):((ByteArray.mk l.toArray)[i]'h).toNat=aL l i:=by
  have b:i<l.length:=by simpa[ByteArray.size] using h
  have e:((ByteArray.mk l.toArray)[i]'h)=l.getD i 0:=by simp[List.getD,b];rfl
  rw[e];rfl
def two (l:List UInt8) (i:Nat):Nat:=aL l i+256*aL l (i+1)
theorem yp (l:List UInt8) (i:Nat):two l i<65536:=by have:=nV l i;have:=nV l (i+1);unfold two;omega
attribute [go_sem] ByteArray.extract_mk ByteArray.mk_append_mk
theorem ajC (n:Int) (b:0<=n) (d:n<2 ^ 16):IntKind.i64.wrap n=n:=IntWalk.i64_in _ af
theorem ajD (a b:Nat) (e:a<256) (f:b<256):bits .or .i64 (a:Int) ((b:Int)*256)=((a+256*b:Nat):Int):=by
 have h:=bits_join .i64 16 aq ajC 8 ((b:Int)*256) a af af af af af af;have d:bits .or .i64 (a:Int) ((b:Int)*256)=bits .or .i64 ((b:Int)*256) (a:Int):=by simp only[bits,BitVec.or_comm]
 rw[d,h];omega
def Cells (w:World) (p:Option Addr) (e:List Value):Prop:=
 e=[]∨∃b d,p=some ⟨b,d,none⟩/\b<w.heap.size/\∀i,i<e.length->w.cell? ⟨b,d+i,none⟩=some (e.getD i undef)
theorem Cells.ext {w w':World} {p:Option Addr} {f:List Value} (h:Cells w p f) (e:Ext w w'):Cells w' p f:=by
 rcases h with h | ⟨b,d,m,g,j⟩
 ·exact .inl h
 ·exact .inr ⟨b,d,m,fM g e.size,fun i l=>(e.cell b _ g).trans (j i l)⟩
theorem Cells.drop {w:World} {b d:Nat} {e:List Value} (h:Cells w (some ⟨b,d,none⟩) e) (k:Nat):Cells w (some ⟨b,d+k,none⟩) (e.drop k):=by
 by_cases f:e.length<=k
 ·exact .inl (jI f)
 rcases h with h | ⟨n,j,g,l,m⟩
 ·subst h;simp at f
 ·simp at g;obtain⟨rfl,rfl⟩:=g;refine .inr ⟨b,d+k,rfl,l,fun i hi=>?_⟩;have:=m (k+i) yc;rw[sD,this];simp[List.getD]
theorem Cells.take {w:World} {p:Option Addr} {e:List Value} (h:Cells w p e) (k:Nat):Cells w p (e.take k):=by
 rcases h with h | ⟨b,f,l,g,j⟩
 ·subst h;exact .inl av
 ·refine .inr ⟨b,f,l,g,fun i hi=>?_⟩;have d:i<k/\i<e.length:=yc;rw[j i d.2];simp[List.getD,d.1]
def bk (w:World) (p:Option Addr) (L:List (List UInt8)):Prop:=Cells w p (L.map fun s=>.string ⟨s.toArray⟩)
theorem bk.ext {w w':World} {p:Option Addr} {L:List (List UInt8)} (h:bk w p L) (e:Ext w w'):bk w' p L:=Cells.ext h e
theorem bk.at {w:World} {p:Option Addr} {L:List (List UInt8)} (h:bk w p L) (k:Nat) (g:k<L.length):
 ∃b d,p=some ⟨b,d,none⟩/\b<w.heap.size/\∀i,i<L.length->w.cell? ⟨b,d+i,none⟩=some (.string ⟨(L.getD i []).toArray⟩):=by
 rcases h with h | ⟨b,d,j,e,f⟩
 ·have:=gP List.length h;simp at this;simp[this] at g
 ·refine⟨b,d,j,e,fun i hi=>?_⟩;rw[f i pq];simp[List.getD,hi]
def Small (L:List (List UInt8)):Prop:=L.length<=1000000/\∀s∈L,s.length<=1000000
theorem Small.at {L:List (List UInt8)} (h:Small L) (i:Nat):(L.getD i []).length<=1000000:=by
 by_cases b:i<L.length
 ·simp[List.getD,b];exact h.2 _ (mN b)
 ·simp[List.getD,tL (xU b)]
theorem jz {a b:Bool} (h:a=b):Ending.returned (.bool a)=.returned (.bool b):=by rw[h]
theorem CG {k:IntKind} {a b:Int} (h:a=b):Ending.returned (.int k a)=.returned (.int k b):=by rw[h]
theorem Ac {a b:List UInt8} (h:a=b):Ending.returned (.string ⟨a.toArray⟩)=.returned (.string ⟨b.toArray⟩):=by rw[h]
def aao (l:List UInt8):Array Value:=(l.map fun x=>Value.int .u8 ((x.toNat:Nat):Int)).toArray
theorem Yz:∀(l:List UInt8) (r:ByteArray),(l.map fun x=>((x.toNat:Nat):Int)).foldl (fun r n=>r.push (UInt8.ofNat n.toNat)) r=r++⟨l.toArray⟩
 | [],r=>by apply ByteArray.ext;simp
 | x::l,r=>by
   simp only[dh,jS];rw[Yz l];apply ByteArray.ext;simp[ByteArray.data_append,ByteArray.push]
theorem addr_add (b o i:Nat):(⟨b,o,none⟩:Addr).add i=⟨b,o+i,none⟩:=by unfold Addr.add;split<;>simp_all
theorem Fb {P:Program} (w:World) (f d e:TypeId) (b o g:Nat) (l:List UInt8)
 (y:P.underlying f=some (.slice e)) (u:P.underlying e=some (.int .u8)) (t:P.underlying d=some .string)
 (r:∀i,i<l.length->w.cell? ⟨b,o+i,none⟩=some (.int .u8 (aL l i:Nat))):
 (convert f d (.slice (some ⟨b,o,none⟩) l.length g)).run P w=.ok (.string ⟨l.toArray⟩) w:=by
 rw[run_convert_bytes_string w f d e _ _ _ y u t];have q:=Fc (P:=P) w ⟨b,o,none⟩ ((l.map fun x=>((x.toNat:Nat):Int)).map (Value.int .u8)) (by
  intro j v n;have m:j<l.length:=by have:=(Ck.1 n).1;simpa using this
  rw[addr_add,r j m];simp[m] at n;rw[<-n];simp[aL,List.getD,m])
 simp only[kF] at q;rw[run_bytesToString w _ _ _ _ q,Yz];congr 2
theorem P9 {P:Program} (w:World) (f d e:TypeId) (b g n:Nat) (l:List UInt8) (t:TypeId) (j:Nat×Nat)
 (y:P.underlying f=some (.slice e)) (q:P.underlying e=some (.int .u8)) (o:P.underlying d=some .string)
 (m:w.heap[b]? =some (.cells (aao l) t j)) (u:l.length=n):
 (convert f d (.slice (some ⟨b,0,none⟩) n g)).run P w=.ok (.string ⟨l.toArray⟩) w:=by
 subst u;refine Fb w f d e b 0 g l y q o fun i r=>?_;simp[World.cell?,m,aao,r,aL,List.getD]
theorem Fe {P:Program} (w:World) (d b e:TypeId) (f n:Nat) (l:List UInt8) (t:TypeId)
 (m:P.underlying d=some (.slice e)) (i:P.underlying e=some (.int .u8)) (g:P.underlying b=some .string) (j:l.length=n):
 (convert d b (.slice (some ⟨w.heap.size,0,none⟩) n f)).run P (w.alloc (.cells (aao l) t))=.ok (.string ⟨l.toArray⟩) (w.alloc (.cells (aao l) t)):=
 P9 _ d b e _ f n l t (0,0) m i g (Ff w _) j
theorem Fg {P:Program} (w:World) (t e:TypeId) (i:TypeInfo) (c:Nat) (l:P.underlying t=some (.slice e)) (f:P.info? e=some i) (m:i.zero=some (.int .u8 0)) (g:i.size=1) (d:i.bytes=1)
 (q:c<=281474976710656):
 (Instr.makeSlice t (.int .i64 c) (.int .i64 c)).run P w=.ok (.slice (some ⟨w.heap.size,0,none⟩) c c) (w.alloc (.cells (aao (List.replicate c 0)) e)):=by
 rw[run_make w t e i (.int .u8 0) l f m .i64 .i64 c c af af (by rw[d];omega) af];have b:madeCells (Value.cells (.int .u8 0)) (((c:Int)).toNat*i.size)=aao (List.replicate c 0):=by
  apply Array.ext
  ·simp[madeCells,aao,g]
  ·intro j n o;simp[madeCells,aao,Value.cells,Nat.mod_one]
 rw[b];simp
theorem ajE (x y z:Nat) (b:x<256) (d:y<256) (e:z<256):#[Value.int .u8 (x:Int),Value.int .u8 (y:Int),Value.int .u8 (z:Int)]=aao [UInt8.ofNat x,UInt8.ofNat y,UInt8.ofNat z]:=by
 simp[aao,rD b,rD d,rD e]
theorem YA (x y z u:Nat) (d:x<256) (e:y<256) (f:z<256) (b:u<256):
 #[Value.int .u8 (x:Int),Value.int .u8 (y:Int),Value.int .u8 (z:Int),Value.int .u8 (u:Int)]=aao [UInt8.ofNat x,UInt8.ofNat y,UInt8.ofNat z,UInt8.ofNat u]:=by
 simp[aao,rD d,rD e,rD f,rD b]
structure Ex (w:World) where
 to:World
 ext:Ext w to
instance (w:World):Nonempty (Ex w):=⟨⟨w,Ext.refl w⟩⟩
@[go_sem] theorem Ex.cell {w:World} (x:Ex w) (b o:Nat) (d:b<w.heap.size):x.to.cell? ⟨b,o,none⟩=w.cell? ⟨b,o,none⟩:=x.ext.cell b o d
theorem ajF {P:Program} {f:FuncId} {args:Array Value} {w:World} {x:Ex w} {v:Value}
 (h:Calls P f args x.to fun e w'=>e=.returned v/\Ext x.to w'):Calls P f args x.to fun e b=>e=.returned v/\∃y:Ex w,b=y.to:=
 h.mono fun _ _ ⟨d,g⟩=>⟨d,⟨_,x.ext.trans g⟩,rfl⟩
theorem ajG {P:Program} {id:Nat} {Q:Exit->Act->World->Prop} {a:Act} {w b:World} {l:List Oper} (e:Ext b w) (f:P.follows .mixedOrders=true) (d:Region.lexB .any l.toArray=true)
 (h:wpQuiet P l.toArray (fun w'=>∃x:Ex b,w'=x.to) (fun a'=>∀w',(∃x:Ex b,w'=x.to)->Q .normal a' w') l a):(Code.region id l.toArray true).wp P Q a w:=
 wp_region_quiet (C:=fun w'=>∃x:Ex b,w'=x.to) f d ⟨⟨w.drew,e.trans (Ext.drew w)⟩,rfl⟩ nA
theorem YB (n:Nat) (h:n<=65535):∃x y:Nat,x<256/\y<256/\(n:Int).tmod 256=(x:Int)/\IntKind.u8.wrap (x:Int)=x/\IntKind.i64.wrap ((n:Int)/256)=(y:Int)/\IntKind.u8.wrap (y:Int)=y/\
 UInt8.ofNat x=UInt8.ofNat n/\UInt8.ofNat y=UInt8.ofNat (n/256):=by
 refine⟨n%256,n/256,af,af,?_,IntWalk.u8_in _ af,?_,IntWalk.u8_in _ af,?_,rfl⟩
 ·rw[Int.tmod_eq_emod_of_nonneg af];omega
 ·rw[IntWalk.i64_in _ af];omega
 ·exact CI.1 av
def ah (w:World) (b:Nat) (o:Obj):Prop:=w.heap[b]? =some o
@[go_sem] theorem ah.new (w:World) (o:Obj):ah (w.alloc o) w.heap.size o:=Ff w o
@[go_sem] theorem ah.drew (w:World) (b:Nat) (o:Obj):ah w.drew b o=ah w b o:=propext ⟨fun h=>h,fun h=>h⟩
@[go_sem] theorem ah.drewN (w:World) (n b:Nat) (o:Obj):ah (w.drewN n) b o=ah w b o:=propext ⟨fun h=>h,fun h=>h⟩
theorem ah.lt {w:World} {b:Nat} {o:Obj} (h:ah w b o):b<w.heap.size:=(gX.1 h).1
theorem Ext.blk {w w':World} (e:Ext w w') (b:Nat) (o:Obj) (h:ah w b o):ah w' b o:=by unfold ah at *;rw[e.block b (ah.lt h)];exact h
theorem ah.alloc {w:World} {b:Nat} {o:Obj} (h:ah w b o) (d:Obj):ah (w.alloc d) b o:=(Ext.alloc w d).blk b o h
theorem ajH {P:Program} {w:World} {o:Oper} {a:Act} {K:Act->World->Prop} {Q:Exit->Act->World->Prop} (d s:Operand) (T E:TypeId)
 (N:o.op=.call {callee:=.builtin .append,args:=#[d,s],argTypes:=#[T,T]})
 (base:Nat) (z:Value) (size bytes:Nat) (R:P.underlying T=some (.slice E)) (g:(P.info? E).map (fun i=>(i.zero,i.size,i.bytes))=some (some z,size,bytes)) (D:z.cells.size=size) (t:0<size)
 (v:Value) (n:Nat) (xs:List Value) (S:a.eval d=v) (m:w.ownsRow base E size v n xs) (b:Nat) (e:List Value) (O:a.eval s=.slice (some ⟨b,0,none⟩) 1 1) (l:ah w b (.cells e.toArray E)) (U:e.length=size)
 (F:∀u∈e,u.oneCell'=true) (M:n+1<=100000000) (r:bytes<=1000) (f:base<=w.heap.size)
 (h:∀q w',w'.ownsRow base E size q (n+1) (xs++e)->w.grownBy w' v.ownBlock->K (a.put o.dst q) w'):o.wp P a w K Q:=by
 obtain⟨i,J,y,B,C⟩:=lH g;refine wp_append_own w d s T N base E i z size bytes R J y B C D t v n xs S m ⟨b,0,none⟩ 1 1 e O af ?_ F uM ?_ f fun q w' G H _=>h q w' G H
 ·intro j u L;have I:w.heap[b]? =some (.cells e.toArray E):=l;simp[addr_add,World.cell?,I,L]
 ·have:(n+1)*bytes<=100000000*1000:=CJ M r;omega
theorem nW {P:Program} {w:World} {ops:Array Oper} {rest:List Oper} {o:Oper} {a:Act} {Q:Exit->Act->World->Prop} (r:o.guard=none) (d s:Operand) (T E:TypeId)
 (I:o.op=.call {callee:=.builtin .append,args:=#[d,s],argTypes:=#[T,T]})
 (base:Nat) (z:Value) (size bytes:Nat) (K:P.underlying T=some (.slice E)) (g:(P.info? E).map (fun i=>(i.zero,i.size,i.bytes))=some (some z,size,bytes)) (y:z.cells.size=size) (t:0<size)
 (v:Value) (n:Nat) (xs:List Value) (L:a.eval d=v) (l:w.ownsRow base E size v n xs) (b:Nat) (e:List Value) (J:a.eval s=.slice (some ⟨b,0,none⟩) 1 1) (j:ah w b (.cells e.toArray E)) (G:e.length=size)
 (B:∀u∈e,u.oneCell'=true) (H:n+1<=100000000) (q:bytes<=1000) (f:base<=w.heap.size)
 (h:∀m w',w'.ownsRow base E size m (n+1) (xs++e)->w.grownBy w' v.ownBlock->wpList P ops Q rest (a.put o.dst m) w'):wpList P ops Q (o::rest) a w:=
 qE r fun _ F=>ajH d s T E I base z size bytes K g y t v n xs L l b e J j G B H q f fun m w' C D=>F _ _ (h m w' C D)
theorem CK {w:World} {base:Nat} {e:TypeId} {v:Value} {n:Nat} {xs:List Value} (h:w.ownsRow base e 1 v n xs):∃p b,v=.slice p xs.length b/\Cells w p xs/\xs.length<=b/\b<=maxLen:=by
 obtain⟨u,⟨rfl,rfl⟩ | ⟨g,b,d,rfl,_,j,r,l,t,m⟩⟩:=h
 ·have:xs=[]:=gY af;subst this;exact⟨none,0,rfl,.inl rfl,av,av⟩
 ·have q:xs.length=n:=af;refine⟨some ⟨g,0,none⟩,b,by rw[q],.inr ⟨g,0,rfl,(gX.1 j).1,fun i hi=>?_⟩,af,l⟩;have o:xs.getD i undef=xs[i]:=zQ;have f:xs[i]? =d.toList[i]? :=by rw[<-m,qF];simp;omega
  rw[o];simp only[World.cell?,j];simp at f⊢;rw[<-f];simp[hi]
theorem Below.ij {B:Nat} {w w':World} {base:Nat} {e:TypeId} {size:Nat} {v:Value} {n:Nat} {xs:List Value} (d:w.grownBy w' v.ownBlock) (b:w.ownsRow base e size v n xs) (g:B<=base) (i:base<=w.heap.size):Below B w w':=
 (Below.refl B w).grown d af fun k f=>by have:=b.lt k f;omega
theorem Cells.at {w:World} {p:Option Addr} {e:List Value} (h:Cells w p e) (k:Nat) (f:k<e.length):
 ∃b d,p=some ⟨b,d,none⟩/\b<w.heap.size/\∀i,i<e.length->w.cell? ⟨b,d+i,none⟩=some (e.getD i undef):=by
 rcases h with h | h
 ·subst h;simp at f
 ·exact h
theorem KA (l:List Int) (k:Nat) (h:k<l.length):(l.map (Value.int .i64)).getD k undef=.int .i64 (l.getD k 0):=xZ
theorem bk.drop {w:World} {b d:Nat} {L:List (List UInt8)} (h:bk w (some ⟨b,d,none⟩) L) (k:Nat):bk w (some ⟨b,d+k,none⟩) (L.drop k):=by
 have:=Cells.drop h k;unfold bk
 rwa[CL]
theorem Ext.trans' {w a b:World} (h:Ext w a) (k:Below w.heap.size a b):Ext w b:=Below.trans h k
end aD

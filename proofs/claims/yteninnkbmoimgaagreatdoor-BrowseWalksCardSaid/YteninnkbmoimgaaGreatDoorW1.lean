/- A part of the proof. -/
import Derived.Test.YteninnkbmoimgaaGreatDoorRows
import Derived.Test.YteninnkbmoimgaaGreatDoorZw
import Derived.Test.YteninnkbmoimgaaGreatDoorMono
import Derived.Laws.Rows
import Derived.BigFrame
import Derived.Deep.DeepMust
set_option linter.unusedSimpArgs false
set_option linter.unusedVariables false
set_option maxRecDepth 100000
set_option maxHeartbeats 16000000
variable{P Q:Prop}
theorem XN(h:P:=by
 by_cases hc:k+1=a.nd.ai.length
 ·have z2:decide ((k:Int)<(a.ak.length:Int)-1)=false:=aM (by have:=CR.out;omega);have hbe:Hid ((bp.isEmpty||bl kx bp)=true):=ag (by rw[Qi.out,bM hc];rfl);clear hc;have Af:Hid (jb d low bp none L=jb d low bp (prevK d L (j+1)) (L.drop (j+1))):=ag (by rw[Fl.out,hlo.out,hbe.out,hab.out];simp);refine eR 200 (Ext.refl w7) (by kernel_rfl) (by kernel_rfl) (by kernel_rfl) ?_;simp only[cY,eF,gj,dV,dP,gC,dh,dQ];repeat (first
   | (refine yw rfl rfl rfl ?_
      simp only[bZ,bG,bN])
   | (refine lF (o:=⟨some 92,_,_,_,_,_⟩) (x:=.agg (az d)) rfl rfl rfl rfl ?_ ?_
      ·intro a w' he hr K hK;simp[Reads,Oper.looksAt,Op.operands,aJ,Is] at hr;exact eG 23 (.tmp 2) rfl (w.heap.size) (by go_simp) _ _ _ _ (he.blk _ _ CS.out) gr rfl gD (hK _ (Ext.refl _))
      simp only[bZ,bG,bN])
   | (refine we rfl rfl rfl rfl ?_
      simp only[bZ,bG,bN])
   | (apply lF rfl rfl rfl rfl
      ·intro a w' he hr K hK;simp[Reads,Oper.looksAt,Op.operands,Call.operands,aJ,Is] at hr;have hx:=he.cell;go_simp;try go_bits
       try(rw[aA (by omega)];go_simp)
       first
        | exact hK _ (Ext.refl _)
        | (go_at_call 71;refine(mQ.out _).mono ?_;rintro e w'' ⟨rfl,kP⟩;exact hK _ kP)
      simp only[bZ,bG,bN])
   | (refine uJ _ _ rfl (by first | exact .inl rfl | exact .inr rfl) rfl (by first | exact Is.ay _ | exact xQ.ay _ | exact kO.ay _ | exact fS.ay _ _ | exact sB.ay (dx.ay _ _ _) _ | exact tG.ay (mK.ay _ _ _ _) _ | exact mK.ay _ _ _ _ | exact dx.ay _ _ _) ?_
      simp only[bZ,bG,bN,qt,qu])
   | (refine vZ _ rfl (by first | exact .inl rfl | exact .inr rfl) ?_
      simp only[bZ,bG,bN])
   | (apply bT rfl
      ·intro a w' he hr K hK;simp[Reads,Oper.looksAt,Op.operands,Call.operands,aJ,Is] at hr;have hx:=he.cell;go_simp;try go_bits
       try(rw[aA (by omega)];go_simp)
       first
        | exact hK _ (Ext.refl _)
        | (go_at_call 71;refine(mQ.out _).mono ?_;rintro e w'' ⟨rfl,kP⟩;exact hK _ kP)
      simp only[bZ,bG,bN])
   | (apply bT rfl
      ·intro a w' he hr K hK;simp[Reads,Oper.looksAt,Op.operands,Call.operands,aJ,dx] at hr;obtain⟨b,hr1,nY⟩:=hr;go_simp;exact hK _ (Ext.refl _)
      simp only[bZ,bG,bN]))
  intro w2 he2;repeat (first | with_reducible refine cH _ _ _ _ ?_ | (with_reducible refine cI _ _ _ _ ?_;intro _ _) | with_reducible refine cJ _ _ ?_)
  simp only[cF,cK,bQ,bE];go_wp2_with fail;go_roundw
  case rel=>exact⟨j+1,by omega,by go_num,Af.out,Ag.out,ox.out.trans he2⟩
  case measure=>simp[intOf];omega
 ·have z2:decide ((k:Int)<(a.ak.length:Int)-1)=true:=bM (by have:=CR.out;omega);cases hb:bl kx bp
  ·have u3:Go.Op.bytesLess kx bp=false:=hb;have hF:Hid (dD d a=false):=ag (by rw[Cs.out,Qi.out,hb,aM hc];simp);clear hb hc;refine eR 200 (Ext.refl w7) (by kernel_rfl) (by kernel_rfl) (by kernel_rfl) ?_;simp only[cY,eF,gj,dV,dP,gC,dh,dQ];repeat (first
    | (refine yw rfl rfl rfl ?_
       simp only[bZ,bG,bN])
    | (refine lF (o:=⟨some 92,_,_,_,_,_⟩) (x:=.agg (az d)) rfl rfl rfl rfl ?_ ?_
       ·intro a w' he hr K hK;simp[Reads,Oper.looksAt,Op.operands,aJ,Is] at hr;exact eG 23 (.tmp 2) rfl (w.heap.size) (by go_simp) _ _ _ _ (he.blk _ _ CS.out) gr rfl gD (hK _ (Ext.refl _))
       simp only[bZ,bG,bN])
    | (refine we rfl rfl rfl rfl ?_
       simp only[bZ,bG,bN])
    | (apply lF rfl rfl rfl rfl
       ·intro a w' he hr K hK;simp[Reads,Oper.looksAt,Op.operands,Call.operands,aJ,Is] at hr;have hx:=he.cell;go_simp;try go_bits
        try(rw[aA (by omega)];go_simp)
        first
         | exact hK _ (Ext.refl _)
         | (go_at_call 71;refine(mQ.out _).mono ?_;rintro e w'' ⟨rfl,kP⟩;exact hK _ kP)
       simp only[bZ,bG,bN])
    | (refine uJ _ _ rfl (by first | exact .inl rfl | exact .inr rfl) rfl (by first | exact Is.ay _ | exact xQ.ay _ | exact kO.ay _ | exact fS.ay _ _ | exact sB.ay (dx.ay _ _ _) _ | exact tG.ay (mK.ay _ _ _ _) _ | exact mK.ay _ _ _ _ | exact dx.ay _ _ _) ?_
       simp only[bZ,bG,bN,qt,qu])
    | (refine vZ _ rfl (by first | exact .inl rfl | exact .inr rfl) ?_
       simp only[bZ,bG,bN])
    | (apply bT rfl
       ·intro a w' he hr K hK;simp[Reads,Oper.looksAt,Op.operands,Call.operands,aJ,Is] at hr;have hx:=he.cell;go_simp;try go_bits
        try(rw[aA (by omega)];go_simp)
        first
         | exact hK _ (Ext.refl _)
         | (go_at_call 71;refine(mQ.out _).mono ?_;rintro e w'' ⟨rfl,kP⟩;exact hK _ kP)
       simp only[bZ,bG,bN])
    | (apply bT rfl
       ·intro a w' he hr K hK;simp[Reads,Oper.looksAt,Op.operands,Call.operands,aJ,dx] at hr;obtain⟨b,hr1,nY⟩:=hr;go_simp;exact hK _ (Ext.refl _)
       simp only[bZ,bG,bN]))
   intro w2 he2;repeat (first | with_reducible refine cH _ _ _ _ ?_ | (with_reducible refine cI _ _ _ _ ?_;intro _ _) | with_reducible refine cJ _ _ ?_)
   simp only[cF,cK,bQ,bE];go_wp2_with fail;go_ret;exact⟨by rw[hF.out];rfl,((lJ.out.trans tX.out).trans ox.out).trans he2⟩
  ·have u3:Go.Op.bytesLess kx bp=true:=hb;have hbe:Hid ((bp.isEmpty||bl kx bp)=true):=ag (by rw[hb];simp);clear hb hc;have Af:Hid (jb d low bp none L=jb d low bp (prevK d L (j+1)) (L.drop (j+1))):=ag (by rw[Fl.out,hlo.out,hbe.out,hab.out];simp);refine eR 200 (Ext.refl w7) (by kernel_rfl) (by kernel_rfl) (by kernel_rfl) ?_;simp only[cY,eF,gj,dV,dP,gC,dh,dQ];repeat (first
    | (refine yw rfl rfl rfl ?_
       simp only[bZ,bG,bN])
    | (refine lF (o:=⟨some 92,_,_,_,_,_⟩) (x:=.agg (az d)) rfl rfl rfl rfl ?_ ?_
       ·intro a w' he hr K hK;simp[Reads,Oper.looksAt,Op.operands,aJ,Is] at hr;exact eG 23 (.tmp 2) rfl (w.heap.size) (by go_simp) _ _ _ _ (he.blk _ _ CS.out) gr rfl gD (hK _ (Ext.refl _))
       simp only[bZ,bG,bN])
    | (refine we rfl rfl rfl rfl ?_
       simp only[bZ,bG,bN])
    | (apply lF rfl rfl rfl rfl
       ·intro a w' he hr K hK;simp[Reads,Oper.looksAt,Op.operands,Call.operands,aJ,Is] at hr;have hx:=he.cell;go_simp;try go_bits
        try(rw[aA (by omega)];go_simp)
        first
         | exact hK _ (Ext.refl _)
         | (go_at_call 71;refine(mQ.out _).mono ?_;rintro e w'' ⟨rfl,kP⟩;exact hK _ kP)
       simp only[bZ,bG,bN])
    | (refine uJ _ _ rfl (by first | exact .inl rfl | exact .inr rfl) rfl (by first | exact Is.ay _ | exact xQ.ay _ | exact kO.ay _ | exact fS.ay _ _ | exact sB.ay (dx.ay _ _ _) _ | exact tG.ay (mK.ay _ _ _ _) _ | exact mK.ay _ _ _ _ | exact dx.ay _ _ _) ?_
       simp only[bZ,bG,bN,qt,qu])
    | (refine vZ _ rfl (by first | exact .inl rfl | exact .inr rfl) ?_
       simp only[bZ,bG,bN])
    | (apply bT rfl
       ·intro a w' he hr K hK;simp[Reads,Oper.looksAt,Op.operands,Call.operands,aJ,Is] at hr;have hx:=he.cell;go_simp;try go_bits
        try(rw[aA (by omega)];go_simp)
        first
         | exact hK _ (Ext.refl _)
         | (go_at_call 71;refine(mQ.out _).mono ?_;rintro e w'' ⟨rfl,kP⟩;exact hK _ kP)
       simp only[bZ,bG,bN])
    | (apply bT rfl
       ·intro a w' he hr K hK;simp[Reads,Oper.looksAt,Op.operands,Call.operands,aJ,dx] at hr;obtain⟨b,hr1,nY⟩:=hr;go_simp;exact hK _ (Ext.refl _)
       simp only[bZ,bG,bN]))
   intro w2 he2;repeat (first | with_reducible refine cH _ _ _ _ ?_ | (with_reducible refine cI _ _ _ _ ?_;intro _ _) | with_reducible refine cJ _ _ ?_)
   simp only[cF,cK,bQ,bE];go_wp2_with fail;go_roundw
   case rel=>exact⟨j+1,by omega,by go_num,Af.out,Ag.out,ox.out.trans he2⟩
   case measure=>simp[intOf];omega):P:=h
theorem XO(h:P:=by
 refine eR 200 (Ext.refl w7) (by kernel_rfl) (by kernel_rfl) (by kernel_rfl) ?_;simp only[cY,eF,gj,dV,dP,gC,dh,dQ];repeat (first
  | (refine yw rfl rfl rfl ?_
     simp only[bZ,bG,bN])
  | (refine lF (o:=⟨some 92,_,_,_,_,_⟩) (x:=.agg (az d)) rfl rfl rfl rfl ?_ ?_
     ·intro a w' he hr K hK;simp[Reads,Oper.looksAt,Op.operands,aJ,Is] at hr;exact eG 23 (.tmp 2) rfl (w.heap.size) (by go_simp) _ _ _ _ (he.blk _ _ CS.out) gr rfl gD (hK _ (Ext.refl _))
     simp only[bZ,bG,bN])
  | (refine we rfl rfl rfl rfl ?_
     simp only[bZ,bG,bN])
  | (apply lF rfl rfl rfl rfl
     ·intro a w' he hr K hK;simp[Reads,Oper.looksAt,Op.operands,Call.operands,aJ,Is] at hr;have hx:=he.cell;go_simp;try go_bits
      try(rw[aA (by omega)];go_simp)
      first
       | exact hK _ (Ext.refl _)
       | (go_at_call 71;refine(mQ.out _).mono ?_;rintro e w'' ⟨rfl,kP⟩;exact hK _ kP)
     simp only[bZ,bG,bN])
  | (refine uJ _ _ rfl (by first | exact .inl rfl | exact .inr rfl) rfl (by first | exact Is.ay _ | exact xQ.ay _ | exact kO.ay _ | exact fS.ay _ _ | exact sB.ay (dx.ay _ _ _) _ | exact tG.ay (mK.ay _ _ _ _) _ | exact mK.ay _ _ _ _ | exact dx.ay _ _ _) ?_
     simp only[bZ,bG,bN,qt,qu])
  | (refine vZ _ rfl (by first | exact .inl rfl | exact .inr rfl) ?_
     simp only[bZ,bG,bN])
  | (apply bT rfl
     ·intro a w' he hr K hK;simp[Reads,Oper.looksAt,Op.operands,Call.operands,aJ,Is] at hr;have hx:=he.cell;go_simp;try go_bits
      try(rw[aA (by omega)];go_simp)
      first
       | exact hK _ (Ext.refl _)
       | (go_at_call 71;refine(mQ.out _).mono ?_;rintro e w'' ⟨rfl,kP⟩;exact hK _ kP)
     simp only[bZ,bG,bN])
  | (apply bT rfl
     ·intro a w' he hr K hK;simp[Reads,Oper.looksAt,Op.operands,Call.operands,aJ,dx] at hr;obtain⟨b,hr1,nY⟩:=hr;go_simp;exact hK _ (Ext.refl _)
     simp only[bZ,bG,bN]))
 intro w2 he2;repeat (first | with_reducible refine cH _ _ _ _ ?_ | (with_reducible refine cI _ _ _ _ ?_;intro _ _) | with_reducible refine cJ _ _ ?_)
 simp only[cF,cK,bQ,bE];go_wp2_with fail;go_ret;exact⟨by rw[hF.out];rfl,((lJ.out.trans tX.out).trans ox.out).trans he2⟩):P:=h
theorem fk(k:Q)(h:bg Q->P:=by
 intro kz;apply bT rfl
 ·intro a w' he hr K hK;simp[Reads,Oper.looksAt,Op.operands,Call.operands,aJ,dx] at hr;obtain⟨b,hr1,nY⟩:=hr;go_simp;exact hK _ (Ext.refl _)
 simp only[bZ,bG,bN];exact kz.o):P:=h ⟨k⟩
theorem zY(h:P:=by
 simp[Reads,Oper.looksAt,Op.operands,Call.operands,aJ,Is] at hr;have hx:=he.cell;go_simp;try go_bits
 try(rw[aA (by omega)];go_simp)
 first
  | exact hK _ (Ext.refl _)):P:=h
theorem KJ(h:P:=by
 intro a w' he hr K hK;simp[Reads,Oper.looksAt,Op.operands,aJ,Is] at hr;exact eG 23 (.tmp 2) rfl (w.heap.size) (by go_simp) _ _ _ _ (he.blk _ _ CS.out) gr rfl gD (hK _ (Ext.refl _))):P:=h
theorem yo(h:P:=by
 go_simp;exact hK _ (Ext.refl _)):P:=h
theorem Fa(h:P:=by
 simp[Reads,Oper.looksAt,Op.operands,Call.operands,aJ,Is] at hr;go_simp;exact hK _ _ (Ext.alloc _ _) (dx.new _ _ _ _)):P:=h
theorem uU(h:P:=by
 intro a w' he hr K hK;go_simp;exact hK _ _ (Ext.alloc _ _) ⟨_,rfl,ah.new _ _,he.size⟩):P:=h
theorem bX(h:P:=by go_num):P:=h
theorem dX(h:P:=by go_simp):P:=h
theorem uR(h:P:=by
 simp at h1;go_simp;exact hK _ _ (Ext.refl _) ⟨q9,c9,rfl,h9⟩):P:=h
theorem YL(h:P:=by
 go_wp2_with(first | (go_at_call 158;refine(jR.out _ Ah.out rfl KK Qj Ai.out).mono ?_;rintro e w3 ⟨rfl,jc⟩;have k1:=ah.cell (jc.blk _ _ ji.out.size);have k2:=ah.cell (jc.blk _ _ ji.out.data);have k3:=ah.cell (jc.blk _ _ ji.out.var)));go_ret2;exact tY (wu.trans jc) hE.out.symm Fm.out):P:=h
theorem YM(h:P:=by
 go_wp2;go_roundw
 case rel=>exact⟨k+j,done++[(j,z.length)],some ⟨b,off,none⟩,by have:=Hm.out;omega,by have:=Hm.out;have:=Hc.out;congr 1<;>omega,HK.out,Qk.out,fun W h=>by rw[Fo.out,jI (by have:=WC.out;omega)];exact .inl rfl⟩
 case measure=>simp;omega):P:=h
theorem KL(h:P:=by
 intro a w' he hr K hK;go_simp;exact hK _ _ (Ext.alloc _ _) ⟨_,rfl,he.size,.inl (ah.new _ _)⟩):P:=h
theorem YN(h:P:=by
 go_wp2;go_roundw
 case rel=>exact⟨k+j,done++[(j,z.length)],some ⟨b,off+j,none⟩,by have:=Hm.out;omega,by have:=Hm.out;have:=Hc.out;congr 1<;>omega,HK.out,Qk.out,fun W h=>by rw[Fo.out];exact(HQQ.out W h).drop j⟩
 case measure=>simp;omega):P:=h
theorem Ql(h:P:=by
 go_enter Tryz.func66,Tryz.ntmps66;go_wp2;go_ret2;exact⟨ajY (by rw[HP.out]) (by rw[HP.out]),rfl⟩):P:=h
theorem KM(h:P:=by
 simp at h1;go_simp;exact hK _ _ (Ext.refl _) ⟨q9,c9,p9,m9,rfl,h9⟩):P:=h
theorem YO(h:P:=by
 go_enter Tryz.func69,Tryz.ntmps69;go_wp2_with(first | (go_at_call 102;refine(rG _ _).mono ?_;rintro e w' ⟨rfl,rfl⟩));go_ret2;exact tY (Ext.refl _) HE.out.symm HN.out):P:=h
theorem YP(h:P:=by
 go_ret;exact⟨jz (HN.out (by simp[qI];omega)).symm,rfl⟩):P:=h
theorem YQ(h:P:=by
 go_wp2_with(first | (go_at_call 89;refine(jR.out _ Ah.out rfl Ai.out).mono ?_;rintro e w3 ⟨rfl,jc⟩));go_ret2;exact tY (Qm.out jc) hE.out.symm Fm.out):P:=h
theorem ajZ(h:P:=by
 intro a' w' he0 hp hr K' hK;simp[Reads,Oper.looksAt,Op.operands,Call.operands,aJ,Is] at hr;go_simp;exact hK _ _ (Ext.refl _) ⟨_,_,rfl,aj0.out⟩):P:=h
theorem YR(h:P:=by unfold Func.isWrapper;first | (rw[aC (by decide+kernel)];kernel_rfl) | (rw[aA (by decide+kernel)];exact⟨rfl,rfl⟩)):P:=h
theorem YS(h:P:=by
 go_wp2;go_ret2;exact tY (Qm.out (Ext.refl _)) hE.out.symm (fun L hL=>by have:=yx.out L hL;omega)):P:=h
theorem YT(h:P:=by
 intro a' w' he0 hp hr K' hK;go_simp;exact hK _ _ (Ext.alloc _ _) ⟨_,rfl,ah.new _ _,he0.size⟩):P:=h
theorem YU(h:P:=by
 intro a' w' he hr K' hK;go_simp;exact hK _ _ (Ext.alloc _ _) ⟨_,rfl,ah.new _ _,he.size⟩):P:=h
theorem YV(h:P:=by
 rcases CA j with hj0 | hj0
 ·have v1:decide (0<(j:Int))=false:=aM af;have v1':¬0<j:=af;have hab:Hid (sH (prevK d L j) kx=true):=ag (by rw[Fp.out,aC hj0];rfl);clear hj0;have hq:=Fl.out;rw[hlo.out,hbe.out,hab.out] at hq;simp only[Bool.not_false,wC] at hq;have Af:=ag hq;clear hq;refine eR 200 (Ext.refl w7) aj aj aj ?_;refine gV ?_;repeat (first
   | (refine yw rfl rfl rfl ?_
      refine aE ?_)
   | (refine lF (o:=⟨some 92,_,_,_,_,_⟩) (x:=.agg (az d)) rfl rfl rfl rfl ?_ ?_
      ·exact KJ
      refine aE ?_)
   | (refine we rfl rfl rfl rfl ?_
      refine aE ?_)
   | (apply lF rfl rfl rfl rfl
      ·intro a w' he hr K hK;simp[Reads,Oper.looksAt,Op.operands,Call.operands,aJ,Is] at hr;have hx:=he.cell;go_simp;try go_bits
       try(rw[aA af];go_simp)
       exact yz
      simp only[bZ,bG,bN])
   | (refine kN ?_)
   | (refine vZ _ rfl lz ?_
      refine aE ?_)
   | (apply bT rfl
      ·intro a w' he hr K hK;simp[Reads,Oper.looksAt,Op.operands,Call.operands,aJ,Is] at hr;have hx:=he.cell;go_simp;try go_bits
       try(rw[aA af];go_simp)
       exact yz
      simp only[bZ,bG,bN])
   | (refine fk ?_))
  intro w2 he2;repeat (first | with_reducible refine cH _ _ _ _ ?_ | (with_reducible refine cI _ _ _ _ ?_;intro _ _) | with_reducible refine cJ _ _ ?_)
  simp only[cF,cK,bQ,bE];go_wp2_with fail;go_roundw
  case rel=>exact⟨j+1,af,bX,Af.out,Ag.out,ox.out.trans he2⟩
  case measure=>exact ct
 ·have v1:decide (0<(j:Int))=true:=bM af;have v1':0<j:=hj0;have v3:(j:Int)-1=((j-1:Nat):Int):=af;have v4:((j-1:Nat):Int)<(L.length:Int):=af;have KN:=Qn.out hj0;have Fq:=Qo.out hj0;have mQ:=ag (fun W=>Qp d y KO.out Fq W);have Kg:Hid (prevK d L j=some (ax d y)):=ag (by rw[Fp.out,aA af]);generalize ax d y=ky at *;clear hj0 Fq;cases hb:bl ky kx
  ·have v2:Go.Op.bytesLess ky kx=false:=hb;have hF:Hid (dD d a=false):=ag W6;clear hb;refine eR 200 (Ext.refl w7) aj aj aj ?_;refine gV ?_;repeat (first
    | (refine yw rfl rfl rfl ?_
       refine aE ?_)
    | (refine lF (o:=⟨some 92,_,_,_,_,_⟩) (x:=.agg (az d)) rfl rfl rfl rfl ?_ ?_
       ·exact KJ
       refine aE ?_)
    | (refine we rfl rfl rfl rfl ?_
       refine aE ?_)
    | (apply lF rfl rfl rfl rfl
       ·intro a w' he hr K hK;simp[Reads,Oper.looksAt,Op.operands,Call.operands,aJ,Is] at hr;have hx:=he.cell;go_simp;try go_bits
        try(rw[aA af];go_simp)
        exact yz
       simp only[bZ,bG,bN])
    | (refine kN ?_)
    | (refine vZ _ rfl lz ?_
       refine aE ?_)
    | (apply bT rfl
       ·intro a w' he hr K hK;simp[Reads,Oper.looksAt,Op.operands,Call.operands,aJ,Is] at hr;have hx:=he.cell;go_simp;try go_bits
        try(rw[aA af];go_simp)
        exact yz
       simp only[bZ,bG,bN])
    | (refine fk ?_))
   intro w2 he2;repeat (first | with_reducible refine cH _ _ _ _ ?_ | (with_reducible refine cI _ _ _ _ ?_;intro _ _) | with_reducible refine cJ _ _ ?_)
   simp only[cF,cK,bQ,bE];go_wp2_with fail;go_ret;exact⟨tK,((lJ.out.trans tX.out).trans ox.out).trans he2⟩
  ·have v2:Go.Op.bytesLess ky kx=true:=hb;have hab:Hid (sH (prevK d L j) kx=true):=ag (by rw[Kg.out];exact hb);clear hb;have hq:=Fl.out;rw[hlo.out,hbe.out,hab.out] at hq;simp only[Bool.not_false,wC] at hq;have Af:=ag hq;clear hq;refine eR 200 (Ext.refl w7) aj aj aj ?_;refine gV ?_;repeat (first
    | (refine yw rfl rfl rfl ?_
       refine aE ?_)
    | (refine lF (o:=⟨some 92,_,_,_,_,_⟩) (x:=.agg (az d)) rfl rfl rfl rfl ?_ ?_
       ·exact KJ
       refine aE ?_)
    | (refine we rfl rfl rfl rfl ?_
       refine aE ?_)
    | (apply lF rfl rfl rfl rfl
       ·intro a w' he hr K hK;simp[Reads,Oper.looksAt,Op.operands,Call.operands,aJ,Is] at hr;have hx:=he.cell;go_simp;try go_bits
        try(rw[aA af];go_simp)
        exact yz
       simp only[bZ,bG,bN])
    | (refine kN ?_)
    | (refine vZ _ rfl lz ?_
       refine aE ?_)
    | (apply bT rfl
       ·intro a w' he hr K hK;simp[Reads,Oper.looksAt,Op.operands,Call.operands,aJ,Is] at hr;have hx:=he.cell;go_simp;try go_bits
        try(rw[aA af];go_simp)
        exact yz
       simp only[bZ,bG,bN])
    | (refine fk ?_))
   intro w2 he2;repeat (first | with_reducible refine cH _ _ _ _ ?_ | (with_reducible refine cI _ _ _ _ ?_;intro _ _) | with_reducible refine cJ _ _ ?_)
   simp only[cF,cK,bQ,bE];go_wp2_with fail;go_roundw
   case rel=>exact⟨j+1,af,bX,Af.out,Ag.out,ox.out.trans he2⟩
   case measure=>exact ct):P:=h
theorem YW(h:P:=by
 clear hb;refine eR 200 (Ext.refl w7) aj aj aj ?_;refine gV ?_;repeat (first
  | (refine yw rfl rfl rfl ?_
     refine aE ?_)
  | (refine lF (o:=⟨some 92,_,_,_,_,_⟩) (x:=.agg (az d)) rfl rfl rfl rfl ?_ ?_
     ·exact KJ
     refine aE ?_)
  | (refine we rfl rfl rfl rfl ?_
     refine aE ?_)
  | (apply lF rfl rfl rfl rfl
     ·intro a w' he hr K hK;simp[Reads,Oper.looksAt,Op.operands,Call.operands,aJ,Is] at hr;have hx:=he.cell;go_simp;try go_bits
      try(rw[aA af];go_simp)
      exact yz
     simp only[bZ,bG,bN])
  | (refine kN ?_)
  | (refine vZ _ rfl lz ?_
     refine aE ?_)
  | (apply bT rfl
     ·intro a w' he hr K hK;simp[Reads,Oper.looksAt,Op.operands,Call.operands,aJ,Is] at hr;have hx:=he.cell;go_simp;try go_bits
      try(rw[aA af];go_simp)
      exact yz
     simp only[bZ,bG,bN])
  | (refine fk ?_))
 intro w2 he2;repeat (first | with_reducible refine cH _ _ _ _ ?_ | (with_reducible refine cI _ _ _ _ ?_;intro _ _) | with_reducible refine cJ _ _ ?_)
 simp only[cF,cK,bQ,bE];go_wp2_with fail;go_ret;exact⟨tK,((lJ.out.trans tX.out).trans ox.out).trans he2⟩):P:=h
theorem YX(h:P:=by
 have YY:decide ((j:Int)<L.length)=false:=aM af;have hfin:Hid (dD d a=fC d (decide (1<a.ak.length)) bp (a.ak.drop (k+1)) (a.nd.ai.drop (k+1))):=ag (by rw[hN.out,sM.out,jI af];simp[jb]);obtain⟨x0,x1,x2,x3,x4,lx⟩:=(Aj.out.ext qJ).cells;have ax0:=(qJ.cell gb _ jV).trans Fs;have hgj:=fM jV qJ.size;have HXj:=ag (tX.out.trans qJ);clear qJ;go_wp2_with fail;go_roundw
 case rel=>exact⟨k+1,af,bX,by rw[Ft.out],by rw[Ft.out];exact hfin.out,HXj.out⟩
 case measure=>exact ct):P:=h
theorem YZ(h:P:=by
 obtain⟨k,hk,rfl,hq⟩:=hrel;by_cases hlt:k<L.length
 ·obtain⟨b,off,rfl,hb,hc⟩:=hs.at k hlt;have oz:=hc k hlt;have hls:=hm.at k;have HS:=ag (aj2 qI L k hlt hq);have HN:=ag (aj3 qI L k hlt);clear hc hq hs;generalize hx:L.getD k []=s at *;clear hx;go_wp2
  ·exact YP
  ·go_round
   case rel=>exact⟨k+1,af,bX,HS.out (by simp[qI];omega)⟩
   case measure=>exact ct
  ·exact YP
 ·go_wp2;go_ret;exact⟨jz (by rw[mC af] at hq;simp[fU,hq]),rfl⟩):P:=h
theorem KP(h:P:=by
 clear CT Ak;go_wp2_with fail;go_roundw
 case rel=>exact⟨trivial,i+1,_,af,bX,rfl,HN.out⟩
 case measure=>exact ct):P:=h
theorem Qh(h:P:=by
 go_wp2_with(first | (go_at_call 146;refine(KF d _ af af KH _).mono ?_;rintro e w' ⟨rfl,nq,rfl⟩));go_ret;rw[HL.out];exact HO.out _ (below_drewN hbel) hbs):P:=h
theorem Y0(k:Q)(h:bg Q->P:=by
 intro kz;refine lF (o:=⟨some 78,_,_,_,_,_⟩) (x:=.agg (cD ⟨c.key,c.back,false,false⟩)) rfl rfl rfl rfl ?_ ?_
 ·intro a w' he hr K hK;simp[Reads,Oper.looksAt,Op.operands,Call.operands,aJ,Is] at hr;go_simp;refine(Fu c.key c.back _).mono ?_;exact kg
 refine aE ?_;exact kz.o):P:=h ⟨k⟩
theorem Yy(h:P:=by
 intro a w' he hr K hK;simp[Reads,Oper.looksAt,Op.operands,Call.operands,aJ,Is] at hr;go_simp;refine(Fv.out _).mono ?_;exact kg):P:=h
theorem Y1(k:Q)(h:bg Q->P:=by
 intro kz;apply bT rfl
 ·intro a w' he hr K hK;simp[Reads,Oper.looksAt,Op.operands,Call.operands,aJ,Is] at hr;have hx:=he.cell;go_simp;try go_bits
  try(rw[aA af];go_simp)
  exact ajq
 simp only[bZ,bG,bN];exact kz.o):P:=h ⟨k⟩
theorem Y2(h:P:=by
 go_wp2_with(go_at_call 183;refine(HP.out _).mono ?_;rintro e w2 ⟨rfl,rfl⟩);go_roundw
 case rel=>exact⟨k+1,bp,af,bX,rfl,hD.out,gZ.out.trans (Ext.alloc _ _)⟩
 case measure=>exact ct):P:=h
theorem Y3(h:P:=by
 obtain⟨rfl,rfl⟩:=hrel;go_wp2_with fail;go_roundw
 case rel=>exact⟨k+1,af,bX,by rw[Ft.out],by rw[Ft.out];exact hN.out,tX.out⟩
 case measure=>exact ct):P:=h
theorem Y4(h:P:=by
 clear hgo;go_wp2_with fail;go_roundw
 case rel=>exact⟨j+1,af,bX,Qq.out,by rw[HT.out,qK.out,KQ.out];exact Qr.out⟩
 case measure=>exact ct):P:=h
theorem Y5(h:P:=by
 intro a w' he hr K hK;simp[Reads,Oper.looksAt,Op.operands,Call.operands,aJ,Is] at hr;go_simp;refine(KR.out _ he).mono ?_;exact J2):P:=h
theorem Y6(h:P:=by
 intro a w' he hr K hK;simp[Reads,Oper.looksAt,Op.operands,Call.operands,aJ,Is] at hr;go_simp;refine(HE.out _ he).mono ?_;exact kg):P:=h
theorem Y7(h:P:=by
 intro a w' he hr K hK;simp[Reads,Oper.looksAt,Op.operands,Call.operands,aJ,Is] at hr;go_simp;refine(KS.out _).mono ?_;exact kg):P:=h
theorem Y8(h:P:=by
 intro a w' he hr K hK;simp[Reads,Oper.looksAt,Op.operands,Call.operands,aJ,Is] at hr;go_simp;refine(F1.out _).mono ?_;exact kg):P:=h
theorem Y9(h:P:=by
 intro a w' he hr K hK;simp[Reads,Oper.looksAt,Op.operands,Call.operands,aJ,Is] at hr;go_simp;refine(HK.out _).mono ?_;exact kg):P:=h
theorem Za(h:P:=by
 have HX:=ag hx;go_wp2;go_roundw
 case rel=>exact⟨trivial,j+1,af,bX,by rw[HT.out,HX.out];rfl⟩
 case measure=>exact ct):P:=h
theorem wh(h:P:=by kernel_rfl):P:=h
namespace aD
open Go Go.RowKit
theorem ah.val {w:World} {b:Nat} {d:Array Value} {t:TypeId} (h:ah w b (.cells d t)) (i:Nat) (v:Value) (e:d[i]? =some v):w.cell? ⟨b,i,none⟩=some v:=by
 rw[cell_of_row w b i d t (0,0) h,e]
theorem ah.free {w:World} {b:Nat} {d:Array Value} {t:TypeId} (h:ah w b (.cells d t)) (i:Nat):w.frozen? ⟨b,i,none⟩=false:=frozen_of_row w b i d t h
theorem ah.new1 (w:World) (o:Obj) (b:Nat) (d:b=w.heap.size):ah (w.alloc o) b o:=by subst d;exact ah.new w o
theorem aR {P:Program} {c:Code} {Q:Exit->Act->World->Prop} {a:Act} {W:World} (S:World->Prop) (h:S W) (k:∀w,S w->Code.wp P c Q a w):Code.wp P c Q a W:=k W h
structure aI (g:Nat) (w w':World):Prop where
 os:w'.os=w.os
 tape:w'.tape=w.tape
 output:w'.output=w.output
 size:w'.heap.size=w.heap.size
 block:∀k,k≠g->w'.heap[k]? =w.heap[k]?
theorem aI.blk {g:Nat} {w w':World} (c:aI g w w') {b:Nat} {o:Obj} (h:ah w b o) (d:b≠g):ah w' b o:=(c.block b d).trans h
theorem aI.ext {g:Nat} {b w w':World} (c:aI g w w') (h:Ext b w) (d:b.heap.size<=g):Ext b w':=
 Ext.trans' h ⟨c.os,c.tape,c.output,Cl,fun k e=>c.block k af⟩
theorem aI.setRow {w:World} {g:Nat} {b:Array Value}:aI g w (w.setRow g b):=
 ⟨rfl,rfl,rfl,av,fun k d=>Fw w g k b d⟩
theorem aI.setCell {w:World} {g i:Nat} {v:Value}:aI g w (w.setCell ⟨g,i,none⟩ v):=
 ⟨rfl,rfl,rfl,av,fun k b=>yu w ⟨g,i,none⟩ k v b⟩
theorem aI.trans {g:Nat} {a b c:World} (h:aI g a b) (k:aI g b c):aI g a c:=⟨k.os.trans h.os,k.tape.trans h.tape,k.output.trans h.output,k.size.trans h.size,fun i d=>(k.block i d).trans (h.block i d)⟩
theorem ah.setRow {w:World} {g:Nat} {b d:Array Value} {t:TypeId} (h:ah w g (.cells b t)):ah (w.setRow g d) g (.cells d t):=setRow_heap w g b d t _ h
theorem ah.setCell {w:World} {g i:Nat} {b:Array Value} {v:Value} {t:TypeId} (h:ah w g (.cells b t)):ah (w.setCell ⟨g,i,none⟩ v) g (.cells (b.setIfInBounds i v) t):=Fj w g i b t v h
section
variable {P:Program} {ops:Array Oper} {rest:List Oper} {o:Oper} {a:Act} {w:World} {Q:Exit->Act->World->Prop}
theorem bz (q:Region.wanted o (yielded ops a.tmps)=true) (e:TypeId) (x:Operand) (m:o.op=.load e x)
 (g:Nat) (r:a.eval x=.pointer (some ⟨g,0,none⟩)) (t:TypeId) (b:Array Value) (d:TypeDesc) (i:ah w g (.cells b t)) (n:P.underlying e=some d) (j:(match d with | .struct _ | .array _ _=>true | _=>false)=true)
 (l:(P.info? e).map (·.size)=some b.size) (h:wpList P ops Q rest (a.put o.dst (.agg b)) w):wpList P ops Q (o::rest) a w:=
 BigFrame.wpList_want q fun _ f=>eG e x m g r t b (0,0) d i n j l (f _ _ h)
theorem oY (u:Region.wanted o (yielded ops a.tmps)=true) (b:TypeId) (x:Operand) (n:o.op=.load b x)
 (g off:Nat) (y:a.eval x=.pointer (some ⟨g,off,none⟩)) (t:TypeId) (all cs:Array Value) (d:TypeDesc) (hb:ah w g (.cells all t)) (hc:∀j (hj:j<cs.size),all[off+j]? =some cs[j]) (r:P.underlying b=some d)
 (z:(match d with | .struct _ | .array _ _=>true | _=>false)=true) (hi:(P.info? b).map (·.size)=some cs.size) (h:wpList P ops Q rest (a.put o.dst (.agg cs)) w):wpList P ops Q (o::rest) a w:=by
 refine BigFrame.wpList_want u fun _ m=>?_;have l:(loadCells ⟨g,off,none⟩ cs.toList.length).run P w=.ok cs.toList.toArray w:=
  Fc (P:=P) w ⟨g,off,none⟩ cs.toList (fun j v hv=>by
   exact Wx)
 have f:(loadVar b ⟨g,off,none⟩).run P w=.ok (.agg cs) w:=by
  cases hq:P.info? b with
  | none=>simp[hq] at hi
  | some i=>
    have q:i.size=cs.size:=E3;have e:(isAgg b).run P w=.ok true w:=by
     unfold isAgg;rw[Sem.run_bind,pO r w];cases d<;>simp_all
    simp only[Array.length_toList,Array.toArray_toList] at l;simp[loadVar,Sem.run_bind,e,Go.sizeOf,typeInfo,hq,q,l]
 unfold Oper.wp execOp;simp only[n,y,Instr.loadAt,Instr.sureAddr,Sem.run_bind,Sem.run_pure,Result.andThen_ok,f];exact m _ _ h
theorem aU (n:Region.wanted o (yielded ops a.tmps)=true) (e:TypeId) (x y:Operand) (m:o.op=.store e x y)
 (g:Nat) (cells:Array Value) (q:a.eval x=.pointer (some ⟨g,0,none⟩)) (r:a.eval y=.agg cells)
 (t:TypeId) (b:Array Value) (f:ah w g (.cells b t)) (l:(P.info? e).map (·.size)=some cells.size) (d:b.size=cells.size) (i:cells.all (·.oneCell')=true)
 (h:∀w',ah w' g (.cells cells t)->aI g w w'->wpList P ops Q rest (a.put o.dst undef) w'):wpList P ops Q (o::rest) a w:=
 BigFrame.wpList_want n fun _ j=>nC e x y m g cells q r t b f l d i (j _ _ (h _ (ah.setRow f) aI.setRow))
theorem dW (l:Region.wanted o (yielded ops a.tmps)=true) (t:TypeId) (b:Array (Nat×Operand)) (j:o.op=.build t b) (vs:List (Nat×Value)) (d:(b.map fun(i,x)=>(i,a.eval x)).toList=vs)
 (e:Array Value) (f:P.built t vs=some e) (h:wpList P ops Q rest (a.put o.dst (.agg e)) w):wpList P ops Q (o::rest) a w:=
 BigFrame.wpList_want l fun _ g=>tJ t b j (by rw[d,f];rfl) (by rw[d,f];exact g _ _ h)
end
theorem dM {P:Program} {fn:Func} {p l:Tmp} {f:TypeId} (h:fn.results=#[.cell p f,.tmp l]) (b:Array Value) (w:World) (g:Nat) (t:TypeId) (e:Array Value) (d:TypeDesc)
 (hp:b.getD p undef=.pointer (some ⟨g,0,none⟩)) (n:ah w g (.cells e t)) (r:P.underlying f=some d) (m:(match d with | .struct _ | .array _ _=>true | _=>false)=true) (q:(P.info? f).map (·.size)=some e.size):
 (results fn b).run P w=.ok (.tuple #[.agg e,b.getD l undef]) w:=by
 have j:b[p]?.getD undef=.pointer (some ⟨g,0,none⟩):=zU;have i:=yA w g t f e (0,0) d n r m q;simp[results,h,j,asAddr,i,Sem.run_bind]
theorem pP {P:Program} {fn:Func} {p l m:Tmp} {f:TypeId} (h:fn.results=#[.cell p f,.tmp l,.tmp m]) (b:Array Value) (w:World) (g:Nat) (t:TypeId) (e:Array Value) (d:TypeDesc)
 (hp:b.getD p undef=.pointer (some ⟨g,0,none⟩)) (q:ah w g (.cells e t)) (u:P.underlying f=some d) (n:(match d with | .struct _ | .array _ _=>true | _=>false)=true) (r:(P.info? f).map (·.size)=some e.size):
 (results fn b).run P w=.ok (.tuple #[.agg e,b.getD l undef,b.getD m undef]) w:=by
 have j:b[p]?.getD undef=.pointer (some ⟨g,0,none⟩):=zU;have i:=yA w g t f e (0,0) d q u n r;simp[results,h,j,asAddr,i,Sem.run_bind]
end aD
namespace Go.Proofs.YteninnkbmoimgaaGreatDoor
open Go.RowKit aD
theorem uX (n:Int) (w:World):
 Calls Tryz.prog 154 #[.int .i64 n] w fun e w'=>e=.returned (.bool (cQ n))/\w=w':=by
 go_enter Tryz.func154,Tryz.ntmps154;go_wp2;all_goals go_ret
 all_goals simp[cQ, *]
theorem rG (n:Int) (w:World):
 Calls Tryz.prog 102 #[.int .i64 n] w fun e w'=>e=.returned (.bool (cQ n))/\w=w':=by
 go_enter Tryz.func102,Tryz.ntmps102;go_wp2;all_goals go_ret
 all_goals simp[cQ, *]
theorem ajT (l:List UInt8) (i:Nat) (r:i+1<l.length) (t:l.length<=1000000) (w:World):
 Calls Tryz.prog 146 #[.string ⟨l.toArray⟩,.int .i64 i] w fun e w'=>e=.returned (.int .i64 (two l i:Nat))/\∃n,w'=w.drewN n:=by
 have f:(i:Int)<l.length:=af;have g:(i:Int)+1<l.length:=af;have j:IntKind.i64.wrap ((i:Int)+1)=i+1:=IntWalk.i64_in _ af;have m:(0:Int)<=i+1:=af;have q:((i:Int)+1).toNat=i+1:=af;have b:=nV l i;have d:=nV l (i+1);go_enter Tryz.func146,Tryz.ntmps146;go_wp2;go_quiet(fail);go_wp2;go_ret;exact⟨by simp[two],nq,rfl⟩
theorem aj4 (l:List UInt8) (i:Nat) (r:i+1<l.length) (t:l.length<=1000000) (w:World):
 Calls Tryz.prog 156 #[.string ⟨l.toArray⟩,.int .i64 i] w fun e w'=>e=.returned (.int .i64 (two l i:Nat))/\∃n,w'=w.drewN n:=by
 have f:(i:Int)<l.length:=af;have g:(i:Int)+1<l.length:=af;have j:IntKind.i64.wrap ((i:Int)+1)=i+1:=IntWalk.i64_in _ af;have m:(0:Int)<=i+1:=af;have q:((i:Int)+1).toNat=i+1:=af;have b:=nV l i;have d:=nV l (i+1);go_enter Tryz.func156,Tryz.ntmps156;go_wp2;go_quiet(fail);go_wp2;go_ret;exact⟨by simp[two,ajD _ _ b d],nq,rfl⟩
theorem aj2 (q:List UInt8->Bool) (L:List (List UInt8)) (k:Nat) (b:k<L.length) (h:(L.take k).all q=true) (d:q (L.getD k [])=true):(L.take (k+1)).all q=true:=by
 rw[jr b,List.all_append,h];simpa[List.getD,b] using d
theorem aj3 (q:List UInt8->Bool) (L:List (List UInt8)) (k:Nat) (hk:k<L.length) (h:q (L.getD k [])=false):L.all q=false:=by
 rw[List.all_eq_false];exact⟨L.getD k [],E4,by rw[h];simp⟩
theorem Fx (p:Option Addr) (d n:Nat) (L:List (List UInt8)) (w:World) (hs:bk w p L) (f:L.length=n) (hm:Small L):
 Calls Tryz.prog 128 #[.slice p n d] w fun e w'=>e=.returned (.bool (fU L))/\w=w':=by
 have g:=hm.1;subst f;go_enter Tryz.func128,Tryz.ntmps128;go_wp2;go_loop[3] (fun i=>∃k:Nat,k<=L.length/\i=.int .i64 k/\(L.take k).all qI=true) (fun i=>L.length-(intOf i).toNat)
 case atStart=>exact⟨0,bL _,rfl,av⟩
 case round=>
  exact YZ
theorem Fy (p:Option Addr) (d n:Nat) (L:List (List UInt8)) (w:World) (hs:bk w p L) (f:L.length=n) (hm:Small L):
 Calls Tryz.prog 175 #[.slice p n d] w fun e w'=>e=.returned (.bool (fU L))/\w=w':=by
 have g:=hm.1;subst f;go_enter Tryz.func175,Tryz.ntmps175;go_wp2;go_loop[7] (fun i=>∃k:Nat,k<=L.length/\i=.int .i64 k/\(L.take k).all qI=true) (fun i=>L.length-(intOf i).toNat)
 case atStart=>exact⟨0,bL _,rfl,av⟩
 case round=>
  exact YZ
theorem infoByte:(Tryz.prog.info? 5).map (fun i=>(i.zero,i.size,i.bytes))=some (some (.int .u8 0),1,1):=wh
theorem aj5 (c n:Nat) (g:c<256) (i:n<=1000000) (w:World):
 Calls Tryz.prog 165 #[.int .i64 c,.int .i64 n] w fun e w'=>e=.returned (.string ⟨(fY c n).toArray⟩)/\Ext w w':=by
 have b:=ajE c (n%256) (n/256%256) g af af;simp only[Int.natCast_emod,Int.natCast_ediv,Int.cast_ofNat_Int] at b;have d:=Fe (P:=Tryz.prog) w 47 9 5 3 3 [UInt8.ofNat c,UInt8.ofNat (n%256),UInt8.ofNat (n/256%256)] 5 Tryz.underlying47 Tryz.underlying5 Tryz.underlying9 rfl;rw[<-b] at d;clear b;have f:Hid (fY c n=[UInt8.ofNat c,UInt8.ofNat (n%256),UInt8.ofNat (n/256%256)]):=ag (aj6 c n);go_enter Tryz.func165,Tryz.ntmps165;go_wp2;go_ret;exact⟨Ac f.out.symm,Ext.alloc _ _⟩
theorem Zb (c n:Int) (b:0<=c) (f:c<256) (d:0<=n) (g:n<=1000000) (w:World):
 Calls Tryz.prog 165 #[.int .i64 c,.int .i64 n] w fun e w'=>e=.returned (.string ⟨(fY c.toNat n.toNat).toArray⟩)/\Ext w w':=by
 obtain⟨c,rfl⟩:=pN b;obtain⟨n,rfl⟩:=pN d;rw[jU,jU];exact aj5 c n af af w
theorem aj7 (n:Nat) (t:0<n) (r:n<=1000000) (w:World):
 Calls Tryz.prog 145 #[.int .i64 n] w fun e w'=>e=.returned (.string ⟨(List.replicate n (0:UInt8)).toArray⟩)/\Ext w w':=by
 obtain⟨m,g,b,d,f⟩:=lH infoByte;have l:=Fg (P:=Tryz.prog) w 47 5 m n Tryz.underlying47 g b d f af;have j:=Fe (P:=Tryz.prog) w 47 9 5 n n (List.replicate n 0) 5 Tryz.underlying47 Tryz.underlying5 Tryz.underlying9 av;clear g b d f;have q:(0:Int)<n:=af;generalize i:List.replicate n (0:UInt8)=R at *;clear i;go_enter Tryz.func145,Tryz.ntmps145;go_wp2;go_ret;exact⟨rfl,Ext.alloc _ _⟩
theorem aj8 (n:Int) (q:n<=0) (w:World):
 Calls Tryz.prog 145 #[.int .i64 n] w fun e w'=>e=.returned (.string ⟨([]:List UInt8).toArray⟩)/\Ext w w':=by
 obtain⟨m,i,b,d,f⟩:=lH infoByte;have g:=Fg (P:=Tryz.prog) w 47 5 m 0 Tryz.underlying47 i b d f af;have l:=Fe (P:=Tryz.prog) w 47 9 5 0 0 [] 5 Tryz.underlying47 Tryz.underlying5 Tryz.underlying9 rfl;simp only[List.replicate_zero,Int.ofNat_zero] at g;clear i b d f;generalize j:aao []=B at *;clear j;go_enter Tryz.func145,Tryz.ntmps145;go_wp2;go_ret;exact⟨rfl,Ext.alloc _ _⟩
theorem Zc (n:Int) (d:n<=1000000) (w:World):
 Calls Tryz.prog 145 #[.int .i64 n] w fun e w'=>e=.returned (.string ⟨(List.replicate n.toNat (0:UInt8)).toArray⟩)/\Ext w w':=by
 by_cases b:n<=0
 ·have:n.toNat=0:=af;rw[this];exact aj8 n b w
 ·obtain⟨k,rfl⟩:=pN (show 0<=n by omega);rw[jU];exact aj7 k af af w
theorem aj9 (p:Option Addr) (u n m:Nat) (L:List (List UInt8)) (w:World) (M:bk w p L) (hn:L.length=n) (C:Small L) (d:m<L.length):
 Calls Tryz.prog 164 #[.slice p n u,.int .i64 m] w fun e w'=>e=.returned (.int .i64 (jJ (L.drop m):Nat))/\∃n,w'=w.drewN n:=by
 have hL:=C.1;subst hn;obtain⟨b,off,rfl,r,y⟩:=M.at m d;have U:=y m d;have Y:=C.at m;have J:=Zd L m;generalize O:L.getD m []=z at *;have S:=ag O;have R:=ag y;have E:=ag J;clear O y M J;have Z:(m:Int)<L.length:=af;go_enter Tryz.func164,Tryz.ntmps164;go_wp2;go_loopw[5] (fun i wr=>∃k:Nat,1<=k/\m+k<=L.length/\i=.int .i64 k/\(∀j,j<k->(L.getD (m+j) []).length=z.length)/\∃n,wr=w.drewN n) (fun i _=>L.length-(intOf i).toNat)
 case atStart=>exact⟨1,af,af,rfl,fun j V=>by rw[show m+j=m by omega,S.out],0,rfl⟩
 case round=>
  obtain⟨k,f,K,rfl,t,D,rfl⟩:=hrel;have G:IntKind.i64.wrap ((m:Int)+k)=m+k:=IntWalk.i64_in _ af;have H:(0:Int)<=m+k:=af;have I:((m:Int)+k).toNat=m+k:=af;by_cases g:m+k<L.length
  ·have l:(m:Int)+k<L.length:=af;have T:=R.out (m+k) g;have X:=C.at (m+k);have q:=ag t;clear t;generalize N:L.getD (m+k) []=x at *;have F:=ag N;clear N;go_wp2;go_quiet(fail);clear G H I;go_wp2
   ·have B:x.length=z.length:=by
     have r:((x.length:Int)==(z.length:Int))=true:=xV;have:=eq_of_beq r;omega
    go_roundw
    case rel=>exact⟨k+1,by omega,by omega,by go_num,fun j V=>by
     by_cases h:j<k
     ·exact q.out j h
     ·rw[show j=k by omega,F.out];exact B,D+nq,rfl⟩
    case measure=>exact ct
   ·have B:¬x.length=z.length:=by
     have r:¬((x.length:Int)==(z.length:Int))=true:=by first | assumption | (rename_i h;simpa using h)
     intro h;exact r (by rw[h];exact beq_self_eq_true _)
    go_ret;exact⟨CG (by rw[E.out k f K q.out (fun _=>by rw[F.out];exact B)]),D+nq,World.drewN_drewN _ _ _⟩
  ·have l:decide ((m:Int)+k<L.length)=false:=aY;have q:=ag t;clear t;go_wp2;go_quiet(fail);clear G H I;go_wp2;go_ret;exact⟨CG (by rw[E.out k f K q.out (fun h=>absurd h g)]),D+nq,World.drewN_drewN _ _ _⟩
open BigFrame in
theorem Ze (p:Option Addr) (u n:Nat) (L:List (List UInt8)) (w:World) (G:bk w p L) (T:L.length=n) (C:Small L):
 Calls Tryz.prog 132 #[.slice p n u] w fun e w'=>e=.returned (.string ⟨(fK L).toArray⟩)/\Ext w w':=by
 have Z:=C.1;have E:=Qs L;subst T;go_enter Tryz.func132,Tryz.ntmps132;go_wp2;go_loopw[3,4] (fun s i wr=>∃(k:Nat) (d:List UInt8),k<=L.length/\i=.int .i64 k/\s=.string ⟨d.toArray⟩/\fK L=fK (L.drop k)++d/\Ext w wr) (fun _ i _=>L.length-(intOf i).toNat)
 case atStart=>exact⟨0,[],af,rfl,rfl,av,Ext.refl w⟩
 case round=>
  obtain⟨k,d,hk,rfl,rfl,D,y⟩:=hrel;have S:d.length<=6*L.length:=by have:=gP List.length D;simp at this;omega
  have q:=ag D;clear D E;by_cases f:k<L.length
  ·have B:=ag (aka L k f);have U:=Zf (L.drop k);have V:k+jJ (L.drop k)<=L.length:=by
    rw[gz f];have:=Qt L[k] (L.drop (k+1));rw[<-gz f] at *;simp at this;omega
   have z:=ag (G.ext y);obtain⟨b,H,rfl,hb,J⟩:=(G.ext y).at k f;have O:=J k f;have R:=C.at k;have t:=ag C;clear J G C;have l:=aj9 (some ⟨b,H,none⟩) u L.length k L;generalize jJ (L.drop k)=r at *;have j:=ag l;clear l;have K:(k:Int)<L.length:=af;generalize Y:L.getD k []=x at *;clear Y;by_cases M:1<r
   ·have X:(1:Int)<r:=af;have g:Hid (fK L=fK (L.drop (k+r))++(fY 8 r++fY 64 x.length++d)):=ag (by
     rw[q.out,B.out,jj,aC M];simp)
    clear B q;go_wp2_with(go_at_call 164;refine(j.out _ z.out rfl t.out f).mono ?_;rintro e w' ⟨rfl,nq,rfl⟩);refine ajG (Ext.drewN wr nq) wh wh ?_;repeat (go_big_quiet_step(refine ajF (Zb _ _ af af af af _)))
    refine wpQuiet_nil ?_;rintro N ⟨⟨N,m⟩,rfl⟩;go_wp2;go_roundw
    case rel=>exact⟨k+r,fY 8 r++(fY 64 x.length++d),af,bX,rfl,by rw[g.out];simp,y.trans m⟩
    case measure=>exact ct
   ·have F:r=1:=af;subst F;have g:Hid (fK L=fK (L.drop (k+1))++(fY 0 x.length++d)):=ag (by
     rw[q.out,B.out,jj,aA M];simp)
    clear B q;go_wp2_with(first | (go_at_call 164;refine(j.out _ z.out rfl t.out f).mono ?_;rintro e w' ⟨rfl,nq,rfl⟩) | (go_at_call 165;refine(Zb _ _ af af af af _).mono ?_;rintro e N ⟨rfl,m⟩));go_roundw
    case rel=>exact⟨k+1,fY 0 x.length++d,af,bX,rfl,g.out,y.trans ((Ext.drewN _ _).trans m)⟩
    case measure=>exact ct
  ·go_wp2;go_ret;have I:=q.out;rw[jI af,KT,bQ] at I;exact⟨Ac I.symm,y⟩
theorem Qu (L:List (List UInt8)) (b:Small L):cM L<=1000000*L.length:=by
 obtain⟨_,h⟩:=b;induction L with
 | nil=>simp[cM]
 | cons x L e=>
   have:=e (by simp at *;omega) (fun s d=>h s (by simp[d]));have:=h x av;simp[cM] at *;omega
theorem Zg (L:List (List UInt8)) (k:Nat) (b:k<L.length):cM (L.take (k+1))=cM (L.take k)+(L.getD k []).length:=by
 rw[jr b];unfold cM;rw[jW,List.sum_append];simp[List.getD,b]
theorem KU (L:List (List UInt8)) (k:Nat):cM (L.take k)<=cM L:=by
 induction L generalizing k with
 | nil=>simp
 | cons x L b=>cases k with
   | zero=>simp[cM]
   | succ k=>have:=b k;simp[cM] at *;omega
theorem Zh (L:List (List UInt8)) (k:Nat) (b:k<L.length):(L.take (k+1)).flatten=(L.take k).flatten++L.getD k []:=by
 rw[jr b,Al];simp[List.getD,b]
theorem KV (L:List (List UInt8)):L.flatten.length=cM L:=by simp[cM,List.length_flatten]
theorem akb (p:Option Addr) (j n:Nat) (L:List (List UInt8)) (w:World) (q:bk w p L) (z:L.length=n) (g:Small L):
 Calls Tryz.prog 131 #[.slice p n j] w fun e w'=>e=.returned (.string ⟨L.flatten.toArray⟩)/\w=w':=by
 have D:=g.1;have r:=Qu L g;subst z;go_enter Tryz.func131,Tryz.ntmps131;go_wp2;go_loop[3,4] (fun s i=>∃k:Nat,k<=L.length/\i=.int .i64 k/\s=.string ⟨(L.take k).flatten.toArray⟩) (fun _ i=>L.length-(intOf i).toNat)
 case atStart=>exact oZ
 case round=>
  obtain⟨k,F,rfl,rfl⟩:=hrel;have l:(L.take k).flatten.length<=cM L:=by rw[KV];exact KU L k
  by_cases d:k<L.length
  ·obtain⟨b,C,rfl,E,m⟩:=q.at k d;have u:=m k d;have y:=g.at k;have t:=ag (Zh L k d);clear m q g;generalize B:L.getD k []=s at *;clear B;generalize(L.take k).flatten=o at *;have f:(k:Int)<L.length:=af;go_wp2;go_round
   case rel=>exact⟨k+1,af,bX,by rw[t.out]⟩
   case measure=>exact ct
  ·have e:(L.take k).flatten=L.flatten:=by rw[mC af]
   rw[e];clear l e;have f:¬(k:Int)<L.length:=af;go_wp2;go_ret;exact⟨rfl,rfl⟩
theorem Fz (p:Option Addr) (f n:Nat) (L:List (List UInt8)) (w:World) (u:bk w p L) (E:L.length=n) (j:Small L):
 Calls Tryz.prog 129 #[.slice p n f] w fun e w'=>e=.returned (.int .i64 (cB L:Nat))/\Ext w w':=by
 have H:=j.1;have y:=Qu L j;have C:=Qs L;subst E;go_enter Tryz.func129,Tryz.ntmps129;have q:=ag u;have m:=ag j;clear u j;go_wp2_with(go_at_call 132;refine(Ze p f _ L _ q.out rfl m.out).mono ?_;rintro e K ⟨rfl,t⟩);go_loop[3,4] (fun s i=>∃k:Nat,k<=L.length/\i=.int .i64 k/\s=.int .i64 (4+(fK L).length+cM (L.take k):Nat)) (fun _ i=>L.length-(intOf i).toNat)
 case atStart=>exact⟨0,bL _,rfl,by simp[cM]⟩
 case round=>
  obtain⟨k,J,rfl,rfl⟩:=hrel;have l:=KU L k;by_cases d:k<L.length
  ·obtain⟨b,G,rfl,I,r⟩:=(q.out.ext t).at k d;have B:=r k d;have D:=m.out.at k;have z:=ag (Zg L k d);clear r;generalize F:L.getD k []=s at *;clear F;generalize cM (L.take k)=o at *;have g:(k:Int)<L.length:=af;go_wp2;go_round
   case rel=>exact⟨k+1,af,bX,by rw[z.out];go_num⟩
   case measure=>exact ct
  ·have g:¬(k:Int)<L.length:=af;have e:cM (L.take k)=cM L:=by rw[mC af]
   rw[e];clear e l;go_wp2;go_ret;exact⟨CG (by simp[cB]),t⟩
theorem Zi (p:Option Addr) (b n:Nat) (L:List (List UInt8)) (size:Int) (w:World) (j:bk w p L) (i:L.length=n) (g:Small L):
 Calls Tryz.prog 107 #[.int .i64 size,.slice p n b] w fun e w'=>e=.returned (.bool (cQ size&&fU L&&decide ((cB L:Int)<=size)))/\Ext w w':=by
 by_cases h1:cQ size=true
 ·by_cases h2:fU L=true
  ·go_enter Tryz.func107,Tryz.ntmps107;go_wp2_with(first | (go_at_call 102;refine(rG _ _).mono ?_;rintro e w' ⟨rfl,rfl⟩) | (go_at_call 128;refine(Fx _ _ _ L _ j i g).mono ?_;rintro e w' ⟨rfl,rfl⟩) | (go_at_call 129;refine(Fz _ _ _ L _ j i g).mono ?_;rintro e w' ⟨rfl,l⟩));go_ret;exact⟨jz (by rw[h1,h2];simp),l⟩
  ·have f:fU L=false:=ru;clear h2;go_enter Tryz.func107,Tryz.ntmps107;go_wp2_with(first | (go_at_call 102;refine(rG _ _).mono ?_;rintro e w' ⟨rfl,rfl⟩) | (go_at_call 128;refine(Fx _ _ _ L _ j i g).mono ?_;rintro e w' ⟨rfl,rfl⟩));go_ret;exact⟨jz (by rw[h1,f];simp),Ext.refl _⟩
 ·have d:cQ size=false:=jP;clear h1;go_enter Tryz.func107,Tryz.ntmps107;go_wp2_with(go_at_call 102;refine(rG _ _).mono ?_;rintro e w' ⟨rfl,rfl⟩);go_ret;exact⟨jz (by rw[d];simp),Ext.refl _⟩
theorem Zj (l:List UInt8) (g:l.length<=1000000) (w:World):
 Calls Tryz.prog 105 #[.string ⟨l.toArray⟩] w fun e w'=>e=.returned (.bool (l==List.replicate l.length 0))/\Ext w w':=by
 have b:=Zc l.length af;simp only[jU] at b;generalize List.replicate l.length (0:UInt8)=z at *;have d:=ag b;clear b;go_enter Tryz.func105,Tryz.ntmps105;go_wp2_with(go_at_call 145;refine(d.out _).mono ?_;rintro e w' ⟨rfl,f⟩);go_ret;exact⟨rfl,f⟩
theorem akc (size:Nat) (c f:List UInt8) (h:4+c.length+f.length<=size) (h2:size<=512) (w:World):
 Calls Tryz.prog 130 #[.int .i64 size,.string ⟨c.toArray⟩,.string ⟨f.toArray⟩] w fun e w'=>e=.returned (.string ⟨(qL size c f).toArray⟩)/\Ext w w':=by
 obtain⟨g,N⟩:∃g,size=4+c.length+f.length+g:=⟨size-(4+c.length+f.length),af⟩;subst N;have L:Hid (qL (4+c.length+f.length+g) c f=c++List.replicate g 0++f++rH c.length g):=ag (by
  have:4+c.length+f.length+g-4-c.length-f.length=g:=af;simp[qL,this])
 have m:=Zc g af;simp only[jU] at m;have i:(List.replicate g (0:UInt8)).length=g:=av;generalize List.replicate g (0:UInt8)=z at *;have F:=ag m;clear m;have E:z.length<=512:=af;have S:=ag i;clear i;go_enter Tryz.func130,Tryz.ntmps130;go_wp2;rw[show(4+(c.length:Int)+f.length+g-4-c.length-f.length)=g from af];obtain⟨n,q,G,H,T,U,V,X,u,y⟩:=YB c.length af;obtain⟨r,t,I,J,Y,Z,b7,b8,B,C⟩:=YB g af;have M:∀(W:World) (b:Nat),ah W b (.cells #[.int .u8 n,.int .u8 q,.int .u8 r,.int .u8 t] 5)->
  (convert 47 9 (.slice (some ⟨b,0,none⟩) 4 4)).run Tryz.prog W=.ok (.string ⟨(rH c.length g).toArray⟩) W:=fun W b h=>
  P9 W _ _ 5 b 4 4 (rH c.length g) 5 (0,0) Tryz.underlying47 Tryz.underlying5 Tryz.underlying9
   (by unfold ah at h;rw[h,YA n q r t G H I J,u,y,B,C];rfl) rfl
 have d:(rH c.length g).length=4:=rfl;generalize rH c.length g=O at *;have R:=ag d;have D:O.length<=4:=af;clear u y B C d;refine eR 200 (Ext.refl w) wh wh wh ?_;simp only[cY,eF,gj,dV,dP,gC,dh,dQ];repeat (first
  | (refine pI ?_)
  | (refine fR ?_)
  | (apply bT rfl
     ·intro a w' he hr K hK;simp[Reads,Oper.looksAt,Op.operands,Call.operands,aJ,Is] at hr;have hx:=he.cell;go_simp;try go_bits
      try(rw[aA af];go_simp)
      first
       | exact hK _ (Ext.refl _)
       | (refine(F.out _).mono ?_;rintro e w' ⟨rfl,j⟩;exact hK _ j)
     simp only[bZ,bG,bN])
  | (refine jh (dx 4 4 (.cells #[.int .u8 n,.int .u8 q,.int .u8 r,.int .u8 t] 5)) (dx.ay _ _ _) rfl ?_ ?_
     ·exact wg
     refine aE ?_)
  | (refine fk ?_))
 intro w2 l;repeat (first | with_reducible refine cH _ _ _ _ ?_ | (with_reducible refine cI _ _ _ _ ?_;intro _ _) | with_reducible refine cJ _ _ ?_)
 simp only[cF,cK,bQ,bE];go_wp2;go_ret;exact⟨Ac (by rw[L.out];simp),l⟩
theorem yB {a b:List UInt8} {x y:Int} (d:a=b) (e:x=y):Ending.returned (.tuple #[.string ⟨a.toArray⟩,.int .i64 x])=.returned (.tuple #[.string ⟨b.toArray⟩,.int .i64 y]):=by rw[d,e]
theorem KW (p:Option Addr) (m n:Nat) (L:List (List UInt8)) (size:Int) (w:World) (j:bk w p L) (g:L.length=n) (f:Small L):
 Calls Tryz.prog 89 #[.int .i64 size,.slice p n m] w fun e w'=>e=.returned (.tuple #[.string ⟨(iL size L).toArray⟩,.int .i64 (gR size L)])/\Ext w w':=by
 by_cases h1:cQ size=true
 ·by_cases h2:fU L=true
  ·by_cases z:size<cB L
   ·have HE:Hid (gR size L=8):=ag (by simp[gR,h1,h2,z]);have b:Hid (iL size L=[]):=ag zR;go_enter Tryz.func89,Tryz.ntmps89;go_wp2_with(first | (go_at_call 102;refine(rG _ _).mono ?_;rintro e w' ⟨rfl,rfl⟩) | (go_at_call 128;refine(Fx _ _ _ L _ j g f).mono ?_;rintro e w' ⟨rfl,rfl⟩) | (go_at_call 129;refine(Fz _ _ _ L _ j g f).mono ?_;rintro e w' ⟨rfl,D⟩));go_ret2;exact⟨yB b.out.symm HE.out.symm,D⟩
   ·have t:(cB L:Int)<=size:=af;clear z;have HE:Hid (gR size L=0):=ag (by simp[gR,h1,h2];omega);have b:Hid (iL size L=qL size.toNat L.flatten (fK L)):=ag zR;have i:4+L.flatten.length+(fK L).length<=size.toNat:=by
     have:=t;rw[KV];unfold cB at this;omega
    obtain⟨k,rfl,E⟩:=yC h1;rw[jU] at i b;have B:=akc k L.flatten (fK L) i af;have C:=ag B;have l:=ag j;clear i B j;go_enter Tryz.func89,Tryz.ntmps89;go_wp2_with(first | (go_at_call 102;refine(rG _ _).mono ?_;rintro e w' ⟨rfl,rfl⟩) | (go_at_call 128;refine(Fx _ _ _ L _ l.out g f).mono ?_;rintro e w' ⟨rfl,rfl⟩) | (go_at_call 129;refine(Fz _ _ _ L _ l.out g f).mono ?_;rintro e F ⟨rfl,d⟩) | (go_at_call 131;refine(akb _ _ _ L _ (l.out.ext d) g f).mono ?_;rintro e w' ⟨rfl,rfl⟩) | (go_at_call 132;refine(Ze _ _ _ L _ (l.out.ext d) g f).mono ?_;rintro e G ⟨rfl,u⟩) | (go_at_call 130;refine(C.out _).mono ?_;rintro e H ⟨rfl,y⟩));go_ret2;exact⟨yB b.out.symm HE.out.symm,d.trans (u.trans y)⟩
  ·have r:fU L=false:=ru;clear h2;have HE:Hid (gR size L=2):=ag (by simp[gR,h1,r]);have b:Hid (iL size L=[]):=ag zR;go_enter Tryz.func89,Tryz.ntmps89;go_wp2_with(first | (go_at_call 102;refine(rG _ _).mono ?_;rintro e w' ⟨rfl,rfl⟩) | (go_at_call 128;refine(Fx _ _ _ L _ j g f).mono ?_;rintro e w' ⟨rfl,rfl⟩));go_ret2;exact⟨yB b.out.symm HE.out.symm,Ext.refl _⟩
 ·have q:cQ size=false:=jP;clear h1;have HE:Hid (gR size L=1):=ag (by simp[gR,q]);have b:Hid (iL size L=[]):=ag zR;go_enter Tryz.func89,Tryz.ntmps89;go_wp2_with(go_at_call 102;refine(rG _ _).mono ?_;rintro e w' ⟨rfl,rfl⟩);go_ret2;exact⟨yB b.out.symm HE.out.symm,Ext.refl _⟩
structure Qv (f:FuncId) (caps:Array Value) (p:Option Addr) (L:List (List UInt8)) (I:List (Nat×Nat)->World->Prop):Prop where
 call:∀args W,(callFunc f args).run Tryz.prog W=.ok (.enter f args) W
 drawn:∀done W n,I done W->I done (W.drewN n)
 reads:∀done W,I done W->bk W p L
 step:∀done n len rest W,cU L=done++(n,len)::rest->I done W->Calls Tryz.prog f (#[.int .i64 (n:Nat),.int .i64 (len:Nat)]++caps) W fun e W'=>e=.returned (.tuple #[])/\I (done++[(n,len)]) W'
theorem akd (L:List (List UInt8)) (k:Nat) (b:k<L.length):cU (L.drop k)=(jJ (L.drop k),(L.getD k []).length)::cU (L.drop (k+jJ (L.drop k))):=by
 have e:L.drop k=L[k]::L.drop (k+1):=gz b;have h:=Zk L[k] (L.drop (k+1));rw[<-e] at h;rw[h,sN];simp[List.getD,b]
theorem ake (L:List (List UInt8)) (k:Nat) (b:k<L.length):k+jJ (L.drop k)<=L.length:=by
 rw[gz b];have:=Qt L[k] (L.drop (k+1));rw[<-gz b] at *;simp at this;omega
theorem akf (L:List (List UInt8)) (k:Nat) (b:1<=k) (e:k<=L.length) (h3:∀j,j<k->(L.getD j []).length=(L.getD 0 []).length)
 (d:k<L.length->(L.getD k []).length≠(L.getD 0 []).length):jJ L=k:=by
 have:=Zd L 0 k b af uO (by simpa using d);simpa using this
theorem Zl (f:FuncId) (C:Array Value) (p:Option Addr) (n d:Nat) (L:List (List UInt8)) (I:List (Nat×Nat)->World->Prop) (F:Qv f C p L I) (hn:L.length=n) (hcap:n<=d) (hcm:d<=maxLen) (hm:Small L) (w:World) (hI:I [] w):
 Calls Tryz.prog 178 #[.slice p n d,.func (.func f) #[] C] w fun e w'=>e=.returned (.tuple #[])/\I (cU L) w':=by
 have hL:=hm.1;subst hn;unfold maxLen at hcm;go_enter Tryz.func178,Tryz.ntmps178;go_wp2;go_loopw[0] (fun s wr=>∃(k:Nat) (done:List (Nat×Nat)) (q:Option Addr),k<=L.length/\s=.slice q (L.length-k) (d-k)/\cU L=done++cU (L.drop k)/\I done wr/\∀W,bk W p L->bk W q (L.drop k)) (fun s _=>match s with | .slice _ m _=>m | _=>0)
 case atStart=>exact⟨0,[],p,bL _,av,av,hI,fun W h=>nA⟩
 case round=>
  obtain⟨k,done,q,hk,rfl,hr,u,B⟩:=hrel;have hq:=B _ (F.reads _ _ u);by_cases Y:k<L.length
  ·have X:(L.drop k).length=L.length-k:=av;have G:∀i,((L.drop k).getD i []).length<=1000000:=fun i=>by have:=hm.at (k+i);simpa[List.getD] using this
   have H:=akd L k Y;have hle:=ake L k Y;have h0:L.getD k []=(L.drop k).getD 0 []:=by simp[List.getD]
   rw[h0] at H;have J:=hr;rw[H] at J;have S:=akf (L.drop k);have HQ:=ag hq;have HQQ:=ag B;have y:=ag J;have K:=ag S;generalize jJ (L.drop k)=R at *;generalize N:L.drop k=M at *;have HM:=ag N;have WC:=ag X;have hm0:0<L.length-k:=af;have iz:L.length-k<=d-k:=af;have ax2:d-k<=9223372036854775807:=af;have hmL:L.length-k<=1000000:=af;generalize Z:L.length-k=m at *;generalize E:d-k=c at *;have Hm:=ag Z;have Hc:=ag E;obtain⟨b,off,rfl,O,hc⟩:=HQ.out.at 0 Cn;have HC:=ag hc;have HmM:=ag G;have hc0:=hc 0 Cn;have hl0:=G 0;generalize hz:M.getD 0 []=z at *;have HZ:=ag hz;simp only[Nat.add_zero] at hc0;have HI:=ag u;have hcall:=F.call;have r:=ag F.step;have l:=ag F.drawn;have ax3:=ag F.reads;clear hc hq u J hr H S G X hz h0 hle hm F N Z E B;have ax4:(0:Int)<m:=af;go_wp2;obtain⟨wo,rfl⟩:∃wo:World,wo=wr:=⟨_,rfl⟩;go_loopw[4] (fun s wi=>∃j:Nat,1<=j/\j<=m/\s=.int .i64 j/\(∀i,i<j->(M.getD i []).length=z.length)/\∃n,wi=wo.drewN n) (fun s _=>m-(intOf s).toNat)
   case atStart=>exact⟨1,af,af,rfl,fun i hi=>by rw[show i=0 by omega,HZ.out],0,rfl⟩
   case round=>
    obtain⟨j,T,hj2,rfl,D,nr,rfl⟩:=hrel;have HA:=ag D;clear D;by_cases hjm:j<m
    ·have FA:(j:Int)<m:=af;have hcj:=HC.out j Cn;have XS:=HmM.out j;generalize hx:M.getD j []=x at *;have HX:=ag hx;clear hx;go_wp2;go_quiet(fail);go_wp2_with fail
     ·have hd:x.length=z.length:=by
       have O:((x.length:Int)==(z.length:Int))=true:=xV;have:=eq_of_beq O;omega
      go_roundw
      case rel=>exact⟨j+1,by omega,by omega,by go_num,fun i hi=>by
       by_cases h:i<j
       ·exact HA.out i h
       ·rw[show i=j by omega,HX.out];exact hd,nr+nq,rfl⟩
      case measure=>exact ct
     ·have hd:¬x.length=z.length:=by
       have O:((x.length:Int)==(z.length:Int))=false:=xV;intro h;rw[h] at O;simp at O
      have g:R=j:=K.out j T Cn HA.out (fun h0=>by rw[HX.out];exact hd);have HK:Hid (cU L=(done++[(j,z.length)])++cU (L.drop (k+j))):=ag (by rw[y.out,g];simp);refine(r.out done j z.length _ _ (by rw[y.out,g]) (l.out _ _ _ HI.out)).mono ?_;rintro e w1 ⟨rfl,t⟩;have Qk:=ag t;clear t g;have Fo:Hid (L.drop (k+j)=M.drop j):=ag (by rw[<-HM.out,sN]);by_cases hjc:(j:Int)<c
      ·exact YN
      ·have U:¬j<c:=af;exact YM
    ·have FA:decide ((j:Int)<m)=false:=aY;go_wp2;go_quiet(fail);go_wp2_with fail;have g:R=j:=K.out j T Cn HA.out (fun h0=>Cn);have HK:Hid (cU L=(done++[(j,z.length)])++cU (L.drop (k+j))):=ag (by rw[y.out,g];simp);refine(r.out done j z.length _ _ (by rw[y.out,g]) (l.out _ _ _ HI.out)).mono ?_;rintro e w1 ⟨rfl,t⟩;have Qk:=ag t;clear t g;have Fo:Hid (L.drop (k+j)=M.drop j):=ag (by rw[<-HM.out,sN]);by_cases hjc:(j:Int)<c
     ·exact YN
     ·have U:¬j<c:=af;exact YM
  ·have V:k=L.length:=af;have HK:Hid (cU L=done):=ag (by rw[hr,V,KX];simp[cU]);have hz:L.length-k=0:=af;rw[hz];have HI:=ag u;clear hr u B hq F V hz;go_wp2;go_end0;exact⟨rfl,by rw[HK.out];exact HI.out⟩
theorem Zm {W:World} {x:Addr} {a b:Int} (h:a=b):W.setCell x (.int .i64 a)=W.setCell x (.int .i64 b):=by rw[h]
theorem akj (n d s:Nat) (b:Nat) (W:World) (i:s+cost (n,d)<=10000000000000) (t:n<=1000000) (m:W.cell? ⟨b,0,none⟩=some (.int .i64 s)) (r:W.frozen? ⟨b,0,none⟩=false):
 Calls Tryz.prog 192 #[.int .i64 n,.int .i64 d,.pointer (some ⟨b,0,none⟩)] W fun e j=>e=.returned (.tuple #[])/\j=W.setCell ⟨b,0,none⟩ (.int .i64 (s+cost (n,d):Nat)):=by
 unfold cost at i⊢;simp only at i⊢;obtain⟨q,g⟩:∃q,q=n*d:=⟨_,rfl⟩;rw[<-g] at i⊢;have u:IntKind.i64.wrap ((n:Int)*d)=(q:Int):=by
  have:((n:Int)*d)=((n*d:Nat):Int):=av;rw[this,<-g];exact IntWalk.i64_in _ af
 clear g;by_cases l:(n:Int)<2
 ·have f:Hid (3*min n 2=3*n):=ag af;go_enter Tryz.func192,Tryz.ntmps192;go_wp2;go_end0;exact⟨rfl,Zm (by have:=f.out;omega)⟩
 ·have f:Hid (3*min n 2=6):=ag af;go_enter Tryz.func192,Tryz.ntmps192;go_wp2;all_goals
   go_end0;exact⟨rfl,Zm (by have:=f.out;omega)⟩
def Zn (w:World) (done:List (Nat×Nat)) (W:World):Prop:=
 Ext w W/\w.heap.size<W.heap.size/\W.cell? ⟨w.heap.size,0,none⟩=some (.int .i64 (4+costs done:Nat))/\W.frozen? ⟨w.heap.size,0,none⟩=false
theorem akk (p:Option Addr) (L:List (List UInt8)) (w:World) (t:bk w p L) (j:Small L):Qv 192 #[.pointer (some ⟨w.heap.size,0,none⟩)] p L (Zn w) where
 call:=fun args W=>by simp[callFunc,Tryz.func192];kernel_rfl
 drawn:=fun done W n ⟨i,h2,f,g⟩=>⟨i.trans (Ext.drewN W n),h2,f,g⟩
 reads:=fun done W h=>t.ext h.1
 step:=fun done n b rest W l ⟨i,h2,f,g⟩=>by
  have q:=akl L done ((n,b)::rest) l;have u:cB L<=4+6*L.length+1000000*L.length:=by have:=Qs L;have:=Qu L j;unfold cB;omega
  have m:=j.1;have z:costs ((n,b)::rest)=cost (n,b)+costs rest:=by simp[costs]
  have d:=KY (cU L) (wE L);rw[yD,kF] at d;have r:=d.2 (n,b) (by rw[l];simp);refine(akj n b (4+costs done) w.heap.size W af (by simpa using fN r m) f g).mono ?_;rintro e y ⟨rfl,rfl⟩;refine⟨rfl,?_,ru,?_,by simpa using g⟩
  ·exact Below.setCell i (aH _) _
  ·rw[World.cell?_setCell_same _ _ _ f,Zo];simp[costs,sD]
theorem Zp (w:World) (v:Value) (t:TypeId):(w.alloc (.cells #[v] t)).cell? ⟨w.heap.size,0,none⟩=some v:=by
 have h:=Ff w (.cells #[v] t);unfold World.cell?;rw[h];rfl
theorem akm (w:World) (v:Value) (t:TypeId) (i:Nat):(w.alloc (.cells #[v] t)).frozen? ⟨w.heap.size,i,none⟩=false:=by
 have h:=Ff w (.cells #[v] t);unfold World.frozen?;rw[h];simp
theorem akn (w:World) (t:TypeId):Zn w [] (w.alloc (.cells #[.int .i64 4] t)):=⟨Ext.alloc _ _,av,Zp _ _ _,akm _ _ _ _⟩
theorem Qw (p:Option Addr) (b n:Nat) (L:List (List UInt8)) (w:World) (t:bk w p L) (r:L.length=n) (g:n<=b) (i:b<=maxLen) (l:Small L):
 Calls Tryz.prog 176 #[.slice p n b] w fun e w'=>e=.returned (.int .i64 (cB L:Nat))/\Ext w w':=by
 have j:=akk p L w t l;have d:=Zl _ _ p n b L _ j r g i l;have f:=ag d;have m:=ag (Zq L);clear d j;go_enter Tryz.func176,Tryz.ntmps176;go_wp2_with(go_at_call 178;refine(f.out _ (akn w _)).mono ?_;rintro e B ⟨rfl,q,u,y,z⟩);go_ret;exact⟨CG (by have:=m.out;omega),q⟩
theorem ako (p:Option Addr) (b n:Nat) (L:List (List UInt8)) (size:Int) (w:World) (m:bk w p L) (l:L.length=n) (d:n<=b) (i:b<=maxLen) (j:Small L):
 Calls Tryz.prog 159 #[.int .i64 size,.slice p n b] w fun e w'=>e=.returned (.bool (cQ size&&fU L&&decide ((cB L:Int)<=size)))/\Ext w w':=by
 by_cases h1:cQ size=true
 ·by_cases h2:fU L=true
  ·go_enter Tryz.func159,Tryz.ntmps159;go_wp2_with(first | (go_at_call 154;refine(uX _ _).mono ?_;rintro e w' ⟨rfl,rfl⟩) | (go_at_call 175;refine(Fy _ _ _ L _ m l j).mono ?_;rintro e w' ⟨rfl,rfl⟩) | (go_at_call 176;refine(Qw _ _ _ L _ m l d i j).mono ?_;rintro e w' ⟨rfl,q⟩));go_ret;exact⟨jz (by rw[h1,h2];simp),q⟩
  ·have g:fU L=false:=ru;clear h2;go_enter Tryz.func159,Tryz.ntmps159;go_wp2_with(first | (go_at_call 154;refine(uX _ _).mono ?_;rintro e w' ⟨rfl,rfl⟩) | (go_at_call 175;refine(Fy _ _ _ L _ m l j).mono ?_;rintro e w' ⟨rfl,rfl⟩));go_ret;exact⟨jz (by rw[h1,g];simp),Ext.refl _⟩
 ·have f:cQ size=false:=jP;clear h1;go_enter Tryz.func159,Tryz.ntmps159;go_wp2_with(go_at_call 154;refine(uX _ _).mono ?_;rintro e w' ⟨rfl,rfl⟩);go_ret;exact⟨jz (by rw[f];simp),Ext.refl _⟩
end Go.Proofs.YteninnkbmoimgaaGreatDoor

/- A part of the proof. -/
import Derived.Test.YteninnkbmoimgaaGreatDoorQM0
set_option linter.unusedSimpArgs false
set_option linter.unusedVariables false
set_option maxRecDepth 100000
set_option maxHeartbeats 16000000
namespace aD
def Jd (d:DS) (R:aB) (c:eZ) (i:Nat) (b:Int):Prop:=
 (b=-1/\(c.done=true∨c.used=true∨∀j,j<i->ax d (R.getD j [])≠c.key))∨(c.done=false/\c.used=false/\∃j:Nat,j<i/\b=j/\ax d (R.getD j [])=c.key)
def xL (d:DS) (R:aB) (c:eZ) (i:Nat) (b:Int):Prop:=
 (b=-1/\(c.done=true∨((c.used=true∨eJ d R c.key=none)/\∀j,j<i->(if c.back then bl (ax d (R.getD (R.length-1-j) [])) c.key else bl c.key (ax d (R.getD j [])))=false)))∨(∃j:Nat,j<R.length/\b=j/\fW d R c=some (R.getD j []))
theorem at0 {d:DS} {R:aB} (i:dN d R) {c:eZ} {b:Int} (h:Jd d R c R.length b):xL d R c 0 b:=by
 rcases h with⟨rfl,h⟩ | ⟨f,g,j,e,rfl,l⟩
 ·refine .inl ⟨rfl,?_⟩;rcases h with h | h | h
  ·exact .inl h
  ·exact .inr ⟨.inl h,fun j e=>absurd e (ur _)⟩
  ·exact .inr ⟨.inr (afI h),fun j e=>absurd e (ur _)⟩
 ·exact .inr ⟨j,e,rfl,afJ f g (afK i e l)⟩
theorem at1 {d:DS} {R:aB} {c:eZ} (h:xL d R c R.length (-1)):fW d R c=none:=by
 rcases h with⟨_,h⟩ | ⟨j,_,h,_⟩
 ·rcases h with h | ⟨f,b⟩
  ·exact Je h
  ·cases hd:c.done
   ·rw[Jf hd f];cases hb:c.back
    ·refine ET ?_;refine afL fun i e=>?_;have:=b i e
     rwa[hb,aA av] at this
    ·simp only[pF];refine afM fun i e=>?_;have:=b (R.length-1-i) af;rw[hb,aC rfl,show R.length-1-(R.length-1-i)=i by omega] at this;exact this
   ·exact Je hd
 ·omega
theorem at2 {d:DS} {R:aB} {c:eZ} {i:Nat} (h:xL d R c i (-1)) (n:c.done=false) (o:i<R.length):
 (c.back=false->bl c.key (ax d (R.getD i []))=true->xL d R c (i+1) i)/\(c.back=true->bl (ax d (R.getD (R.length-1-i) [])) c.key=true->xL d R c (i+1) ((R.length-1-i:Nat):Int))/\
   (c.back=false->bl c.key (ax d (R.getD i []))=false->xL d R c (i+1) (-1))/\(c.back=true->bl (ax d (R.getD (R.length-1-i) [])) c.key=false->xL d R c (i+1) (-1)):=by
 rcases h with⟨_,h⟩ | ⟨j,_,h,_⟩
 ·rcases h with h | ⟨f,g⟩
  ·rw[n] at h;cases h
  ·refine⟨fun b e=>?_,fun b e=>?_,fun b e=>?_,fun b e=>?_⟩
   ·refine .inr ⟨i,o,rfl,?_⟩;rw[Jf n f,b,aA av];refine afN o e fun j l=>?_;have:=g j l
    rwa[b,aA av] at this
   ·refine .inr ⟨R.length-1-i,af,rfl,?_⟩;rw[Jf n f,b,aC rfl];refine afO af e fun j l q=>?_;have:=g (R.length-1-j) af;rw[b,aC rfl,show R.length-1-(R.length-1-j)=j by omega] at this;exact this
   ·refine .inl ⟨rfl,.inr ⟨f,fun j l=>?_⟩⟩;by_cases m:j=i
    ·subst m;rw[b,aA av];exact e
    ·exact g j af
   ·refine .inl ⟨rfl,.inr ⟨f,fun j l=>?_⟩⟩;by_cases m:j=i
    ·subst m;rw[b,aC rfl];exact e
    ·exact g j af
 ·omega
theorem at3 {d:DS} {R:aB} {c:eZ} {i:Nat} {b:Int} (h:xL d R c i b):b=-1∨∃j:Nat,j<R.length/\b=j/\fW d R c=some (R.getD j []):=h.imp (fun h=>h.1) id
theorem at4 {d:DS} {R:aB} {c:eZ} {i:Nat} {b:Int} (h:Jd d R c i b):
 (ax d (R.getD i [])=c.key->c.used=false->c.done=false->Jd d R c (i+1) i)/\((ax d (R.getD i [])≠c.key∨c.used=true∨c.done=true)->Jd d R c (i+1) b):=by
 refine⟨fun f g l=>.inr ⟨l,g,i,af,rfl,f⟩,fun f=>?_⟩;rcases h with⟨rfl,h⟩ | ⟨g,l,j,m,rfl,n⟩
 ·refine .inl ⟨rfl,?_⟩;rcases h with h | h | h
  ·exact .inl h
  ·exact .inr (.inl h)
  ·rcases f with f | f | f
   ·refine .inr (.inr fun j m=>?_);by_cases e:j=i
    ·subst e;exact f
    ·exact h j af
   ·exact .inr (.inl f)
   ·exact .inl f
 ·exact .inr ⟨g,l,j,af,rfl,n⟩
end aD
namespace Go.Proofs.YteninnkbmoimgaaGreatDoor
open Go.RowKit aD
theorem at5 (d:DS) (R:aB) (K:dN d R) (hl:R.length<=1000) (q:Option Addr) (B cp:Nat) (c:eZ) (w:World) (hp:pV w q (bW d R)) (hn:R.length=B):
 Calls Tryz.prog 13 #[.slice q B cp,.agg (cD c)] w fun e w'=>Ext w w'/\e=.returned (.tuple #[.agg (cD (c.next d (fW d R c))),.agg (fF (jn d (fW d R c))),.bool (fW d R c).isSome]):=by
 have Z:=zB w (.cells (cD c) 26) (.cells mX 26) (.cells #[.string ⟨#[]⟩,.string ⟨#[]⟩] 37);have T:=ag hp;have Hi:=ag K;have hlen:=oW d R;have C:=ag (tC d R);clear hp K;go_enter Tryz.func13,Tryz.ntmps13;go_upto_region 1 with(fail);refine aR (fun W=>Ext w W/\ah W w.heap.size (.cells (cD c) 26)/\ah W (w.heap.size+1) (.cells mX 26)/\ah W (w.heap.size+1+1) (.cells #[.string ⟨#[]⟩,.string ⟨#[]⟩] 37)) Z ?_;clear Z;rintro F ⟨m,f,u,n⟩;have c0:F.cell? ⟨w.heap.size,0,none⟩=some (.string ⟨c.key.toArray⟩):=ah.val f 0 _ rfl;have c1:F.cell? ⟨w.heap.size,1,none⟩=some (.bool c.back):=ah.val f 1 _ rfl;have c2:F.cell? ⟨w.heap.size,2,none⟩=some (.bool c.used):=ah.val f 2 _ rfl;have c3:F.cell? ⟨w.heap.size,3,none⟩=some (.bool c.done):=ah.val f 3 _ rfl;have l0:=ah.lt f;have H0:=ag (And.intro m (And.intro f (And.intro u n)));have H:=ag (T.out.ext m);clear m f u n;go_upto_region 3 with(fail);go_loopw[7,8] (fun U iv wr=>wr=F/\∃(i:Nat) (b:Int),i<=B/\iv=.int .i64 i/\U=.int .i64 b/\Jd d R c i b) (fun _ iv _=>B-(intOf iv).toNat)
 case atStart=>exact⟨rfl,0,-1,bL _,rfl,rfl,.inl ⟨rfl,.inr (.inr fun j hj=>absurd hj (ur _))⟩⟩
 case round=>
  obtain⟨N,i,b,K,rfl,rfl,hB⟩:=hrel;have O:=N.symm;subst O;clear N;by_cases L:i<B
  ·have l:(i:Int)<B:=af;obtain⟨g,S,rfl,hg,z⟩:=H.out.at i af;obtain⟨k0,_⟩:=z i af;rw[C.out] at k0;simp only at k0;obtain⟨I,J⟩:=at4 hB;clear z hB;have CT:=ag I;have Ak:=ag J;clear I J;generalize ax d (R.getD i [])=x at *;by_cases hx:x=c.key
   ·cases hu:c.used
    ·cases hd:c.done
     ·have HN:=ag (CT.out hx hu hd);rw[hu] at c2;rw[hd] at c3;subst hx;exact KP
     ·have HN:=ag (Ak.out (.inr (.inr hd)));rw[hu] at c2;rw[hd] at c3;subst hx;exact KP
    ·have HN:=ag (Ak.out (.inr (.inl hu)));rw[hu] at c2;subst hx;exact KP
   ·have HN:=ag (Ak.out (.inl hx));have NH:(x==c.key)=false:=by simpa using hx
    exact KP
  ·have l:decide ((i:Int)<B)=false:=aM af;obtain rfl:i=B:=af;subst hn;have G:=ag (at0 Hi.out hB);clear hB K;go_upto_region 9 with(fail);go_loopw[7,10] (fun U iv wr=>∃(i:Nat) (b:Int),i<=R.length/\iv=.int .i64 i/\U=.int .i64 b/\Ext F wr/\xL d R c i b) (fun _ iv _=>R.length-(intOf iv).toNat)
   case atStart=>exact⟨0,_,bL _,rfl,rfl,Ext.refl _,G.out⟩
   case round=>
    clear G c0 c1 c2 c3 l0;obtain⟨i,b,K,rfl,rfl,hx,hB⟩:=hrel;obtain⟨m,f,u,n⟩:=H0.out;have oH:=hx.blk _ _ f;have c0:wr.cell? ⟨w.heap.size,0,none⟩=some (.string ⟨c.key.toArray⟩):=ah.val oH 0 _ rfl;have c1:wr.cell? ⟨w.heap.size,1,none⟩=some (.bool c.back):=ah.val oH 1 _ rfl;have c2:wr.cell? ⟨w.heap.size,2,none⟩=some (.bool c.used):=ah.val oH 2 _ rfl;have c3:wr.cell? ⟨w.heap.size,3,none⟩=some (.bool c.done):=ah.val oH 3 _ rfl;have l0:=ah.lt oH;have t:=at3 hB;have HR:=ag (And.intro (m.trans hx) (And.intro oH (And.intro (hx.blk _ _ u) (hx.blk _ _ n))));have AL:=ag (H.out.ext hx);clear m f u n oH;rcases t with rfl | ⟨j,hj,rfl,t⟩
    ·by_cases L:i<R.length
     ·cases hd:c.done
      ·rw[hd] at c3;obtain⟨h1,h2,h3,h4⟩:=at2 hB hd L;have l:(i:Int)<R.length:=af;obtain⟨E,M⟩:∃E,E=R.length-1-i:=⟨_,rfl⟩;have UL:(R.length:Int)-1-i=(E:Nat):=af;have at6:E<R.length:=af;have at7:(E:Int)<R.length:=af;rw[<-M] at h2 h4;obtain⟨g,S,rfl,hg,z⟩:=AL.out.at i af;obtain⟨k0,_⟩:=z i af;obtain⟨k1,_⟩:=z E af;rw[C.out] at k0 k1;simp only at k0 k1;have HX:=ag hx;clear z hB hx M;generalize ax d (R.getD i [])=x at *;generalize ax d (R.getD E [])=y at *;cases hb:c.back
       ·rw[hb] at c1;cases hh:bl c.key x
        ·have HN:=ag (h3 hb hh);have D:(!Go.Op.bytesLess x c.key&&!x==c.key)=false:=(yT x c.key).trans hh;exact LX
        ·have HN:=ag (h1 hb hh);have D:(!Go.Op.bytesLess x c.key&&!x==c.key)=true:=(yT x c.key).trans hh;exact LX
       ·rw[hb] at c1;cases hh:bl y c.key
        ·have HN:=ag (h4 hb hh);have D:Go.Op.bytesLess y c.key=false:=hh;exact LX
        ·have HN:=ag (h2 hb hh);have D:Go.Op.bytesLess y c.key=true:=hh;exact LX
      ·rw[hd] at c3;have hno:=Je (d:=d) (R:=R) hd;have l:(i:Int)<R.length:=af;exact aaO
     ·obtain rfl:i=R.length:=af;have hno:=at1 hB;have l:decide ((R.length:Int)<R.length)=false:=aM af;exact aaO
    ·obtain⟨wY,oH,Ge,Gf⟩:=HR.out;have FA:(j:Int)<R.length:=af;have hj0:decide ((j:Int)<0)=false:=aM af;obtain⟨g,S,rfl,hg,z⟩:=T.out.at j af;obtain⟨Ds,Dt⟩:=z j af;rw[C.out] at Ds Dt;simp only at Ds Dt;have k0:=(wY.cell g _ hg).trans Ds;have k1:=(wY.cell g _ hg).trans Dt;have f0:=ah.free oH 0;have f2:=ah.free oH 2;have V:(i:Int)<R.length∨(decide ((i:Int)<R.length)=false/\¬i<R.length):=by
      by_cases h:i<R.length
      ·exact .inl af
      ·exact .inr ⟨aM af,h⟩
     obtain⟨r,Y⟩:∃r,r=R.getD j []:=⟨_,rfl⟩;rw[<-Y] at t k0 k1 Ds Dt;have Hr:=ag Y;clear Y;have HN:=ag t;have HX:=ag (And.intro wY (And.intro oH (And.intro Ge Gf)));have hlo:¬(j:Int)<0:=af;clear t hx hB HR AL T wY oH Ge Gf z;rcases V with X | ⟨X,hiN⟩
     ·exact aby
     ·exact aby
end Go.Proofs.YteninnkbmoimgaaGreatDoor
namespace Go.Proofs.YteninnkbmoimgaaGreatDoor
open Go.ChangeShapes Go.WideShapes Go.Deep Go.RowKit aD
theorem awD:(Tryz.prog.fieldsOf 26).toList.map (fun f=>(f.offset,Tryz.prog.cellsOf f.type,Tryz.prog.underlying f.type))=[(0,1,some .string),(1,1,some .bool),(2,1,some .bool),(3,1,some .bool)]:=aj
theorem awE {H:Type} {enc:TypeId×Value->H} {w:World} {r:Reach} {J base:Nat} {e:Nat->Bool} {f:Bool} {v:Value} {d:DataW H} {ps:List MemPlace}
 (U:Value.okWide Tryz.prog w r J 26 v) (h:DataW.Trod enc Tryz.prog w base e f 26 v d ps):∃x:eZ,v=.agg (cD x):=by
 have g:=awD;obtain⟨K,rfl,b⟩:=okWide_struct nS U;obtain⟨y,T⟩:=h;obtain⟨xs,n,_,_,_,i,j⟩:=DataW.trod_struct nS T;have S:Tryz.prog.cellsOf 26=4:=aj;have m:(Tryz.prog.fieldsOf 26).size=4:=aj;rw[S] at b;rw[m] at i;generalize Tryz.prog.fieldsOf 26=R at *;obtain⟨Q⟩:=R;obtain⟨l⟩:=K;simp only[CD] at b m
 match l,b,Q,m with
 | [c0,c1,c2,c3],_,[L,M,N,O],_=>
   simp only[dh,dQ,mR,jZ,kD] at g;obtain⟨⟨Y,V,u0⟩,⟨Z,k1,u1⟩,⟨o2,k2,u2⟩,o3,X,u3⟩:=g;have z:=j 0 L rfl;rw[Y,V,iB af] at z;obtain⟨E,o,_,_⟩:=DataW.trod_string u0 z;have B:=j 1 M rfl;rw[Z,k1,iB af] at B;obtain⟨F,q,_⟩:=DataW.trod_bool u1 B;have C:=j 2 N rfl;rw[o2,k2,iB af] at C;obtain⟨G,t,_⟩:=DataW.trod_bool u2 C;have D:=j 3 O rfl;rw[o3,X,iB af] at D;obtain⟨I,u,_⟩:=DataW.trod_bool u3 D;simp only[Value.cells,dV,dP,cY,eF,mR,kD] at o q t u;subst o q t u;exact⟨⟨E.data.toList,F,G,I⟩,rfl⟩
end Go.Proofs.YteninnkbmoimgaaGreatDoor
namespace Go.Proofs.YteninnkbmoimgaaGreatDoor
open Go.RowKit aD
theorem axz : (Tryz.prog.fieldsOf 26).toList.map (fun f => (f.name, f.type, f.offset)) = [("Key", 9, 0), ("Back", 4, 1), ("Used", 4, 2), ("Done", 4, 3)] := aj
theorem axA:Tryz.prog.stoodInHeld 26=false:=aj
theorem axB:Tryz.prog.eqGuardType Tryz.prog.depth 26=false:=aj
theorem axE {α:Type} (l:List α) (h:l.length=4):∃a b c d,l=[a,b,c,d]:=by
 rcases l with _ | ⟨a,_ | ⟨b,_ | ⟨c,_ | ⟨d,_ | ⟨x,l⟩⟩⟩⟩⟩<;>simp at h;exact⟨a,b,c,d,rfl⟩
theorem aiG (c:eZ) (W:World):(Op.equalIn 10000 26 (.agg (cD c)) (.agg (cD c))).run Tryz.prog W=.ok true W:=by
 rw[run_equalIn_agg W 9999 26 _ _ nS axA];have h:=axz;generalize(Tryz.prog.fieldsOf 26).toList=fs at *;have u:fs.length=4:=by simpa using gP List.length h
 obtain⟨a,b,y,d,rfl⟩:=axE fs u;simp at h;obtain⟨⟨e,f,g⟩,⟨i,j,l⟩,⟨m,n,o⟩,q,r,t⟩:=h;simp[cD,Op.eqFields,e,f,g,i,j,l,m,n,o,q,r,t,go_sem]
theorem axG (X:Option Addr) (cl n:Nat) (L:List oL) (d:DS) (c:eZ) (w:World) (hs:mH w X L) (hn:L.length=n) (hcap:n<=cl) (hcm:cl<=maxLen):
 Calls Tryz.prog 3 #[.agg (az d),.slice X n cl,.agg (cD c)] w fun e w'=>e=.returned (.bool true)/\Ext w w':=by
 subst hn;have EE:L.length<=9223372036854775807:=by unfold maxLen at hcm;omega
 have Z:=ag (fun W (h:mH W X L)=>aim d X cl L W h EE);have Y:=ag (fun(hk:dA d=true) (hl:L.length<=100) W (h:mH W X L)=>ain d hk X cl L W h hl);have Hs:=ag hs;have h0:=BW w (.cells (az d) 23) (.cells (cD c) 26);clear hs EE hcap hcm;go_enter Tryz.func3,Tryz.ntmps3;go_upto_region 1 with(fail);refine aR (fun w0=>Ext w w0/\bI w0 w.heap.size d/\ah w0 (w.heap.size+1) (.cells (cD c) 26)) h0 ?_;clear h0;rintro w0 ⟨he0,dr,hc0⟩;go_upto_region 3 with(go_at_call 9;refine(air _).mono ?_;rintro e w1 ⟨rfl,F⟩);have u:=ag (he0.trans F);have hd1:=dr.ext F;have D:=F.blk _ _ hc0;have j:=ag (Z.out w1 (Hs.out.ext u.out));clear he0 dr hc0 F Z;have k0:∀W,Ext w1 W->W.cell? ⟨w.heap.size+1,0,none⟩=some (.string ⟨c.key.toArray⟩):=fun W e=>ah.val (e.blk _ _ D) 0 _ rfl;have l0:∀W,Ext w1 W->w.heap.size+1<W.heap.size:=fun W e=>ah.lt (e.blk _ _ D);cases s6:(dA d&&A3 L 60)
 ·rw[s6] at j;clear s6;go_wp2_with(first
   | (refine O9 ?_)
   | (go_at_call 10;refine j.out.mono ?_;rintro e w2 ⟨rfl,f⟩))
  go_ret;exact⟨rfl,u.out.trans f⟩
 ·rw[s6] at j;rw[eu] at s6;obtain⟨hk,R⟩:=s6;have axH:L.length<=60:=by
   unfold A3 at R;rw[eu,gu] at R;omega
  have HB:=ag (Y.out hk af);clear hk R Y;by_cases O:100<c.key.length
  ·have wV:decide ((100:Int)<c.key.length)=true:=bM af;have zb:decide (100<c.key.length)=true:=bM O;go_wp2_with(first
    | (refine O9 ?_)
    | (go_at_call 10;refine j.out.mono ?_;rintro e w2 ⟨rfl,f⟩;have kk:=k0 _ f;have ll:=l0 _ f))
   go_ret;exact⟨rfl,u.out.trans f⟩
  ·have wV:decide ((100:Int)<c.key.length)=false:=aM af;have zb:decide (100<c.key.length)=false:=aM O;go_upto_region 5 with(first
    | (refine O9 ?_)
    | (go_at_call 10;refine j.out.mono ?_;rintro e w2 ⟨rfl,f⟩;have kk:=k0 _ f;have ll:=l0 _ f))
   have T:=u.out.trans f;have N:=hd1.ext f;have hc2:=f.blk _ _ D;have H:=ag (HB.out w2 (Hs.out.ext T));unfold OJ at H;have sX:=ag T;clear hd1 D j f T k0 l0 kk ll HB u O wV zb;go_upto_region 6 with(first
    | ((with_reducible refine aW 29 ?_);refine bu rfl (.tmp 3) rfl _ rfl d N ?_)
    | (go_at_call 11;refine H.out.mono ?_;rintro e w3 ⟨G,M,h,S,dn,n,p,cm,q,cq,rfl,hM,K,hP⟩)
    | (refine aU rfl 30 (.tmp 7) (.tmp 32) rfl _ (aK h) rfl rfl _ _ (ah.new w3 _) dg rfl (wU h) ?_;intro w4 oQ jV))
   have t:=jV.ext (Ext.alloc w3 (.cells #[.int .i64 0,.int .i64 0,.int .i64 0,.int .i64 0,.int .i64 0,.int .i64 0,.int .i64 0] 30)) (aH _);have HR:Hid (∀W,Ext w4 W->Calls Tryz.prog 12 #[.iface 32 (.slice p M.length cm),.agg (aK h),.agg (az d),.agg (cD c)] W fun e w'=>e=.returned (.tuple #[.agg (cD (c.next d (fW d (aT S) c))),.agg (fF (jn d (fW d (aT S) c))),.int .i64 (yQ (fW d (aT S) c))])/\Ext W w'):=ag (fun W e=>V6 K c p cm M.length W (hM.ext (t.trans e)) rfl);have hRl:(aT S).length<=1000:=EV;have HQ:Hid (∀W,Ext w4 W->Calls Tryz.prog 13 #[.slice q (bW d (aT S)).length cq,.agg (cD c)] W fun e w'=>Ext W w'/\e=.returned (.tuple #[.agg (cD (c.next d (fW d (aT S) c))),.agg (fF (jn d (fW d (aT S) c))),.bool (fW d (aT S) c).isSome])):=ag (fun W e=>at5 d (aT S) K.k.inc hRl q _ cq c W (hP.ext (t.trans e)) (oW d (aT S)).symm);have oG:=ag ((sX.out.trans G).trans t);have xB:=(N.ext G).ext t;have I:=(G.trans t).blk _ _ hc2;generalize w3.heap.size=hb at *;generalize(bW d (aT S)).length=np at *;generalize M.length=nm at *;obtain⟨o,ho⟩:∃o,o=fW d (aT S) c:=⟨_,rfl⟩;rw[<-ho] at HR HQ;obtain⟨c',hc'⟩:∃c',c'=c.next d o:=⟨_,rfl⟩;obtain⟨y,hy⟩:∃y,y=jn d o:=⟨_,rfl⟩;rw[<-hc',<-hy] at HR HQ;clear ho hc' hy hRl G hM K hP jV t N hc2 H sX;go_upto_region 7 with(first
    | ((with_reducible refine aW 38 ?_);refine mM rfl (.tmp 7) rfl _ rfl h oQ ?_)
    | ((with_reducible refine aW 39 ?_);refine bu rfl (.tmp 3) rfl _ rfl d xB ?_)
    | ((with_reducible refine aW 40 ?_);refine bz rfl 26 (.tmp 5) rfl _ rfl _ _ _ I nS rfl kE ?_)
    | (go_at_call 12;refine(HR.out _ (Ext.refl _)).mono ?_;rintro e U ⟨rfl,JK⟩)
    | (refine aU rfl 26 (.tmp 10) (.tmp 42) rfl _ (cD c') rfl rfl _ _ (ah.alloc (ah.new U _) _) kE rfl (uS _) ?_;intro wK z l;have C:=l.blk (ah.new1 (U.alloc (.cells mX 26)) (.cells #[.string ⟨#[]⟩,.string ⟨#[]⟩] 37) (U.heap.size+1) av) af)
    | (refine aU rfl 37 (.tmp 11) (.tmp 43) rfl _ (fF y) rfl rfl _ _ C fE rfl (nU _ _) ?_;intro wL B m))
   have g:Ext w4 wL:=JK.trans (m.ext (l.ext ((Ext.alloc U (.cells mX 26)).trans (Ext.alloc _ (.cells #[.string ⟨#[]⟩,.string ⟨#[]⟩] 37))) (aH _)) af);refine aR (fun W=>Ext w W/\Ext w4 W/\ah W (w.heap.size+1) (.cells (cD c) 26)/\ah W U.heap.size (.cells (cD c') 26)/\ah W (U.heap.size+1) (.cells (fF y) 37)) ⟨oG.out.trans g,g,g.blk _ _ I,m.blk z af,B⟩ ?_;generalize U.heap.size=ab at *;clear JK z l C B m g oG xB I oQ HR;rintro wM ⟨JL,heM,J,haM,JM⟩;go_upto_region 8 with(first
    | ((with_reducible refine aW 47 ?_);refine bz rfl 26 (.tmp 5) rfl _ rfl _ _ _ J nS rfl kE ?_)
    | (go_at_call 13;refine(HQ.out _ heM).mono ?_;rintro e V ⟨heN,rfl⟩)
    | (refine aU rfl 26 (.tmp 13) (.tmp 49) rfl _ (cD c') rfl rfl _ _ (ah.alloc (ah.new V _) _) kE rfl (uS _) ?_;intro wK z l;have C:=l.blk (ah.new1 (V.alloc (.cells mX 26)) (.cells #[.string ⟨#[]⟩,.string ⟨#[]⟩] 37) (V.heap.size+1) av) af)
    | (refine aU rfl 37 (.tmp 14) (.tmp 50) rfl _ (fF y) rfl rfl _ _ C fE rfl (nU _ _) ?_;intro wL B m))
   have g:Ext wM wL:=heN.trans (m.ext (l.ext ((Ext.alloc V (.cells mX 26)).trans (Ext.alloc _ (.cells #[.string ⟨#[]⟩,.string ⟨#[]⟩] 37))) (aH _)) af);refine aR (fun W=>Ext w W/\ah W (w.heap.size+1) (.cells (cD c) 26)/\ah W ab (.cells (cD c') 26)/\ah W (ab+1) (.cells (fF y) 37)/\ah W V.heap.size (.cells (cD c') 26)/\ah W (V.heap.size+1) (.cells (fF y) 37)) ⟨JL.trans g,g.blk _ _ J,g.blk _ _ haM,g.blk _ _ JM,m.blk z af,B⟩ ?_;generalize V.heap.size=bb at *;clear heN z l C B m g JL heM J haM JM HQ;rintro wP ⟨hxP,E,haP,hpP,hbP,hqP⟩;have Ha:=ag haP;have Hp:=ag hpP;have Hb:=ag hbP;have Hq:=ag hqP;have c0:wP.cell? ⟨w.heap.size+1,0,none⟩=some (.string ⟨c.key.toArray⟩):=ah.val E 0 _ rfl;have c1:wP.cell? ⟨w.heap.size+1,1,none⟩=some (.bool c.back):=ah.val E 1 _ rfl;have l0:=ah.lt E;have uD:=aiG c';have BA:=aiH y;have xu:=aiG ⟨c.key,c.back,false,false⟩;have hG1:=axB;have hG2:=aiF;have HX:=ag hxP;clear hxP haP hpP hbP hqP E;cases o with
   | some r=>
     refine eR 200 (Ext.refl wP) aj aj aj ?_;simp only[cY,eF,gj,dV,dP,gC,dh,dQ];repeat (first
      | (refine X0 ?_)
      | (refine X1 ?_)
      | (refine XU ?_)
      | (refine XV ?_)
      | (refine Y0 ?_)
      | (refine XQ ?_)
      | (refine PR ?_)
      | (refine Yv ?_)
      | (refine kN ?_)
      | (refine fR ?_)
      | (refine iq ?_)
      | (refine fk ?_))
     intro w2 f;repeat (first | with_reducible refine cH _ _ _ _ ?_ | (with_reducible refine cI _ _ _ _ ?_;intro _ _) | with_reducible refine cJ _ _ ?_)
     simp only[cF,cK,bQ,bE];go_wp2_with fail;go_ret;exact⟨rfl,HX.out.trans f⟩
   | none=>
     refine eR 200 (Ext.refl wP) aj aj aj ?_;simp only[cY,eF,gj,dV,dP,gC,dh,dQ];repeat (first
      | (refine X0 ?_)
      | (refine X1 ?_)
      | (refine XU ?_)
      | (refine XV ?_)
      | (refine Y0 ?_)
      | (refine XQ ?_)
      | (refine PR ?_)
      | (refine Yv ?_)
      | (refine kN ?_)
      | (refine fR ?_)
      | (refine iq ?_)
      | (refine fk ?_))
     intro w2 f;repeat (first | with_reducible refine cH _ _ _ _ ?_ | (with_reducible refine cI _ _ _ _ ?_;intro _ _) | with_reducible refine cJ _ _ ?_)
     simp only[cF,cK,bQ,bE];go_wp2_with fail;go_ret;exact⟨rfl,HX.out.trans f⟩
end Go.Proofs.YteninnkbmoimgaaGreatDoor

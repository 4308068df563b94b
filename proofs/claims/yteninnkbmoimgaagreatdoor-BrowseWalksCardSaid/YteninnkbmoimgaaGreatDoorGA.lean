/- A part of the proof. -/
import Derived.Test.YteninnkbmoimgaaGreatDoorRows
import Derived.Test.YteninnkbmoimgaaGreatDoorW1
import Derived.Lib.SliceRun
set_option linter.unusedSimpArgs false
set_option linter.unusedVariables false
set_option maxRecDepth 100000
set_option maxHeartbeats 16000000
namespace Go.Proofs.YteninnkbmoimgaaGreatDoor
open Go.RowKit aD
theorem uV:(Tryz.prog.info? 9).map (fun i=>(i.zero,i.size,i.bytes))=some (some (.string ByteArray.empty),1,16):=wh
theorem ajM {w:World} {base:Nat} {e:TypeId} {v:Value} {L:List (List UInt8)} (h:w.ownsRow base e 1 v L.length (L.map fun s=>.string ⟨s.toArray⟩)):∃p b,v=.slice p L.length b/\bk w p L/\L.length<=b/\b<=maxLen:=by
 obtain⟨p,b,g,f,h1,d⟩:=CK h;exact⟨p,b,by simpa using g,f,jP,d⟩
theorem fJ {w:World} {base b:Nat} {e:TypeId} {size:Nat} {v:Value} {n:Nat} {xs:List Value} (h:w.ownsRow base e size v n xs) (o:b<=base):w.ownsRow b e size v n xs:=by
 obtain⟨i,h | ⟨g,d,f,j,l,m⟩⟩:=h
 ·exact⟨i,.inl h⟩
 ·exact⟨i,.inr ⟨g,d,f,j,fN o l,m⟩⟩
theorem ajN {w w':World} {base:Nat} {e:TypeId} {size:Nat} {v:Value} {n:Nat} {xs:List Value} (h:w.ownsRow base e size v n xs) (b:Ext w w'):w'.ownsRow base e size v n xs:=
 h.kept (row:=none) ⟨b.os,b.tape,b.output,b.size,fun k d _=>b.block k d⟩ (by cases v.ownBlock<;>simp)
theorem ajO:(Tryz.prog.info? 9).map (fun i=>(i.zero,i.size,i.bytes))=some (some (.string ByteArray.empty),1,16):=wh
theorem aO {w w':World} {base:Nat} {e:TypeId} {size:Nat} {v:Value} {n:Nat} {xs:List Value} (h:w.ownsRow base e size v n xs) (b:Ext w w'):w'.ownsRow base e size v n xs:=
 h.kept (row:=none) ⟨b.os,b.tape,b.output,b.size,fun k d _=>b.block k d⟩ (by cases v.ownBlock<;>simp)
theorem ah.cell {w:World} {b:Nat} {v:Value} {t:TypeId} (h:ah w b (.cells #[v] t)):w.cell? ⟨b,0,none⟩=some v:=by
 have d:w.heap[b]? =_:=h;simp[World.cell?,d]
theorem ah.soft {w:World} {b:Nat} {v:Value} {t:TypeId} (h:ah w b (.cells #[v] t)):w.frozen? ⟨b,0,none⟩=false:=by
 have d:w.heap[b]? =_:=h;simp[World.frozen?,d]
theorem ah.grown {w w':World} {row:Option Nat} {b:Nat} {o:Obj} (h:ah w b o) (e:w.grownBy w' row) (d:row≠some b):ah w' b o:=(e.block b (ah.lt h) (sL d)).trans h
theorem ah.other {w:World} {b:Nat} {o:Obj} (h:ah w b o) (c:Nat) (v:Value) (d:b≠c):ah (w.setCell ⟨c,0,none⟩ v) b o:=(yu w ⟨c,0,none⟩ b v d).trans h
theorem ah.put {w:World} {b:Nat} {v u:Value} {t:TypeId} (h:ah w b (.cells #[v] t)):ah (w.setCell ⟨b,0,none⟩ u) b (.cells #[u] t):=by
 have:=Fj w b 0 _ _ u h;unfold ah;rw[this];rfl
theorem Qf {g:Nat} {w w':World} {base:Nat} {e:TypeId} {size:Nat} {v:Value} {n:Nat} {xs:List Value} (h:w.ownsRow base e size v n xs) (c:aI g w w') (f:g<base):w'.ownsRow base e size v n xs:=by
 refine h.kept (row:=some g) ⟨c.os,c.tape,c.output,Cl,fun k _ d=>c.block k (fun e=>d (by rw[e]))⟩ ?_;cases hv:v.ownBlock with
 | none=>exact .inl rfl
 | some k=>right;intro b;have:=(h.lt k hv).1;simp at b;omega
theorem ajP {P:Program} {w:World} {o:Oper} {a:Act} {K:Act->World->Prop} {Q:Exit->Act->World->Prop} (d s:Operand) (T E:TypeId)
 (J:o.op=.call {callee:=.builtin .append,args:=#[d,s],argTypes:=#[T,T]})
 (base:Nat) (z:Value) (bytes:Nat) (N:P.underlying T=some (.slice E)) (f:(P.info? E).map (fun i=>(i.zero,i.size,i.bytes))=some (some z,1,bytes)) (B:z.cells.size=1)
 (v:Value) (n:Nat) (xs:List Value) (O:a.eval d=v) (g:w.ownsRow base E 1 v n xs) (p:Option Addr) (m c:Nat) (news:List Value) (M:a.eval s=.slice p m c) (L:p.isSome) (R:news.length=m) (hc:Cells w p news)
 (D:∀u∈news,u.oneCell'=true) (I:n+m<=100000000) (q:bytes<=1000) (e:base<=w.heap.size)
 (h:∀l w',w'.ownsRow base E 1 l (n+m) (xs++news)->w.grownBy w' v.ownBlock->K (a.put o.dst l) w'):o.wp P a w K Q:=by
 obtain⟨i,H,r,t,y⟩:=lH f;obtain⟨C,rfl⟩:=Option.isSome_iff_exists.1 L;refine wp_append_own w d s T J base E i z 1 bytes N H r t y B aq v n xs O g C m c news M af ?_ D uM ?_ e fun l w' F G _=>h l w' F G
 ·exact Wo
 ·have:(n+m)*bytes<=100000000*1000:=CJ I q;omega
theorem Qg {P:Program} {w:World} {ops:Array Oper} {rest:List Oper} {o:Oper} {a:Act} {Q:Exit->Act->World->Prop} (q:Region.wanted o (yielded ops a.tmps)=true) (d s:Operand) (T E:TypeId)
 (H:o.op=.call {callee:=.builtin .append,args:=#[d,s],argTypes:=#[T,T]})
 (base:Nat) (z:Value) (bytes:Nat) (K:P.underlying T=some (.slice E)) (f:(P.info? E).map (fun i=>(i.zero,i.size,i.bytes))=some (some z,1,bytes)) (r:z.cells.size=1)
 (v:Value) (n:Nat) (xs:List Value) (L:a.eval d=v) (g:w.ownsRow base E 1 v n xs) (p:Option Addr) (m c:Nat) (b:List Value) (J:a.eval s=.slice p m c) (I:p.isSome) (F:b.length=m) (D:Cells w p b)
 (t:∀u∈b,u.oneCell'=true) (G:n+m<=100000000) (l:bytes<=1000) (e:base<=w.heap.size)
 (h:∀j w',w'.ownsRow base E 1 j (n+m) (xs++b)->w.grownBy w' v.ownBlock->wpList P ops Q rest (a.put o.dst j) w'):wpList P ops Q (o::rest) a w:=
 BigFrame.wpList_want q fun _ C=>ajP d s T E H base z bytes K f r v n xs L g p m c b J I F D t G l e fun j w' y B=>C _ _ (h j w' y B)
theorem ajQ (L:List (List UInt8)):∀u∈(L.map fun s=>Value.string ⟨s.toArray⟩),u.oneCell'=true:=by
 intro u b;simp only[fT] at b;obtain⟨s,_,rfl⟩:=b;rfl
theorem cE {w:World} {base:Nat} {e:TypeId} {size:Nat} {v:Value} {n:Nat} {xs:List Value} (h:w.ownsRow base e size v n xs):∃q c,v=.slice q n c:=by
 obtain⟨f,⟨rfl,rfl⟩ | ⟨g,b,d,rfl,_⟩⟩:=h
 ·exact⟨none,0,rfl⟩
 ·exact⟨_,_,rfl⟩
theorem Fk {w:World} {base:Nat} {e:TypeId} {q:Option Addr} {n c:Nat} {xs:List Value} (h:w.ownsRow base e 1 (.slice q n c) n xs) (i:Nat) (D:i<n):
 ∃g,q=some ⟨g,0,none⟩/\base<=g/\g<w.heap.size/\w.frozen? ⟨g,i,none⟩=false/\w.cell? ⟨g,i,none⟩=some (xs.getD i undef)/\∀u,(w.setCell ⟨g,i,none⟩ u).ownsRow base e 1 (.slice q n c) n (xs.set i u)/\Below base w (w.setCell ⟨g,i,none⟩ u):=by
 obtain⟨B,⟨l,f⟩ | ⟨g,o,b,l,f,r,t,y,z,m⟩⟩:=h
 ·omega
 ·simp at l;obtain⟨rfl,rfl⟩:=l;have j:ah w g (.cells b e):=r;refine⟨g,rfl,f,ah.lt j,ah.free j i,?_,fun u=>⟨⟨by simp[B],.inr ⟨g,c,b.setIfInBounds i u,rfl,f,ah.setCell j,t,y,by simp[z],?_⟩⟩,(Below.refl _ _).setCell f _⟩⟩
  ·have C:xs[i]? =b[i]? :=by rw[<-m,qF,aC af];simp
   have d:i<b.size:=af;rw[ah.val j i (b[i]) (by simp[d])];simp only[List.getD,C];simp[d]
  ·rw[<-m];simp[Ae]
theorem ajR (L:List (List UInt8)) (i:Nat) (r:List UInt8):(L.map fun s=>Value.string ⟨s.toArray⟩).set i (.string ⟨r.toArray⟩)=(L.set i r).map fun s=>Value.string ⟨s.toArray⟩:=by
 rw[List.map_set]
theorem CO {w:World} {base:Nat} {e:TypeId} {v:Value} {n:Nat} {L:List (List UInt8)} (h:w.ownsRow base e 1 v n (L.map fun s=>.string ⟨s.toArray⟩)):∃q c,v=.slice q n c/\bk w q L/\L.length=n/\n<=c/\c<=maxLen:=by
 have b:L.length=n:=by have:=h.1;simpa using this
 obtain⟨q,c,rfl,g,d,f⟩:=CK h;simp at d;exact⟨q,c,by simp[b],g,b,af,f⟩
theorem CP {w:World} {base:Nat} {e:TypeId} {q:Option Addr} {n c:Nat} {L:List (List UInt8)} (h:w.ownsRow base e 1 (.slice q n c) n (L.map fun s=>.string ⟨s.toArray⟩)):bk w q L:=by
 obtain⟨_,_,b,d,_⟩:=CO h;cases b;exact d
theorem ajS {w w' f:World} {base g:Nat} {e i:TypeId} {size o:Nat} {v d:Value} {n n0:Nat} {xs b:List Value} (h:w.ownsRow base e size v n xs) (m:w.grownBy w' d.ownBlock) (j:f.ownsRow g i o d n0 b) (t:f.heap.size<=base):w'.ownsRow base e size v n xs:=by
 refine h.kept m ?_;cases hv:v.ownBlock with
 | none=>exact .inl rfl
 | some k=>
   right;intro l;have q:=h.lt k hv;have r:=j.lt k l.symm;omega
theorem KF (l:List UInt8) (i:Int) (b:0<=i) (f:i+1<l.length) (d:l.length<=1000000) (w:World):
 Calls Tryz.prog 146 #[.string ⟨l.toArray⟩,.int .i64 i] w fun e w'=>e=.returned (.int .i64 (two l i.toNat:Nat))/\∃n,w'=w.drewN n:=by
 obtain⟨i,rfl⟩:=pN b;rw[jU];exact ajT l i af d w
theorem uW:(Tryz.prog.info? 3).map (fun i=>(i.zero,i.size,i.bytes))=some (some (.int .i64 0),1,8):=wh
def YG (l:List Int) (w:World) (e:Ending) (w':World):Prop:=∃p b,e=.returned (.slice p l.length b)/\Cells w' p (l.map (Value.int .i64))/\Ext w w'
theorem YH {B:Nat} {w w':World} {v:Value} {l:List Int} (h:w'.ownsRow B 3 1 v l.length (l.map (Value.int .i64))) (e:Below B w w') (d:B=w.heap.size):YG l w (.returned v) w':=by
 obtain⟨p,b,rfl,f,_⟩:=CK h;subst d;exact⟨p,b,av,f,e⟩
theorem below_drewN {B n:Nat} {w w':World} (h:Below B w w'):Below B w (w'.drewN n):=h.trans ⟨rfl,rfl,rfl,aH _,fun _ _=>rfl⟩
theorem KG {B n:Nat} {w:World} {e:TypeId} {size:Nat} {v:Value} {k:Nat} {xs:List Value} (h:w.ownsRow B e size v k xs):(w.drewN n).ownsRow B e size v k xs:=h
theorem ajU (size:Nat) (Z:128<=size) (ajV:size<=512) (d:List UInt8) (hd:d.length=size) (w:World):
 Calls Tryz.prog 106 #[.int .i64 size,.string ⟨d.toArray⟩] w (YG (qH size d) w):=by
 have t1:=yp d (size-4);have t2:=yp d (size-2);have e4:((size:Int)-4).toNat=size-4:=af;have e2:((size:Int)-2).toNat=size-2:=af;have hR:Hid (qH size d=lI d size (two d (size-4)+two d (size-2)) size (size-7) []):=ag rfl;generalize qH size d=R at *;have Hd:=ag hd;clear hd;have CQ:size<=d.length:=by rw[Hd.out];exact aH _
 have KH:d.length<=1000000:=Cx;obtain⟨B,hB⟩:∃B,B=w.heap.size:=⟨_,rfl⟩;have HB:=ag hB;clear hB;go_enter Tryz.func106,Tryz.ntmps106;go_wp2_with(go_at_call 146;refine(KF d _ af af KH _).mono ?_;rintro e w' ⟨rfl,nq,rfl⟩);generalize two d (size-4)=A at *;generalize two d (size-2)=C at *;have e0:(([]:List Int).map (Value.int .i64))=[]:=rfl;go_loopw[5,7] (fun v i wr=>∃(f:Nat) (x:Int) (out:List Int),i=.int .i64 x/\lI d size (A+C) f x out=R/\x<3*f/\-6<=x/\x<=size-7/\
  wr.ownsRow B 3 1 v out.length (out.map (Value.int .i64))/\Below B w wr/\B<=wr.heap.size/\out.length+512*f<=512*512) (fun _ i _=>(intOf i+7).toNat)
 case atStart=>exact⟨size,size-7,[],rfl,hR.out.symm,af,af,af,KG (World.ownsRow_made w #[] 0 Kj av rfl),below_drewN ((Below.refl _ _).alloc Kj _),by rw[HB.out];simp,aY⟩
 case round=>
  obtain⟨f,x,out,rfl,z,hf,hx1,hx2,j,hbel,hbs,hol⟩:=hrel;by_cases hc:(A:Int)+C<=x/\0<=x
  ·obtain⟨hc1,F⟩:=hc;obtain⟨f,rfl⟩:∃g,f=g+1:=⟨f-1,af⟩;have b1:=nV d x.toNat;have t3:=yp d (x+1).toNat;by_cases K:aL d x.toNat=0
   ·have HL:=ag (z.symm.trans (YI af F K));have U:((aL d x.toNat:Int)==0)=true:=by simp[K]
    clear z;go_wp2_with(first | (go_at_call 146;refine(KF d _ af af KH _).mono ?_;rintro e w' ⟨rfl,nq,rfl⟩) | (at_builtin;go_must(refine nW rfl (.tmp 42) (.tmp 44) 101 3 rfl B (.int .i64 0) 1 8 Tryz.underlying101 uW rfl aq u5 _ _ rfl ((KG j).alloc _) _ [.int .i64 _] rfl (ah.new (wr.drewN nq) _) rfl nk af aq aY ?_;intro v' w1 n b)));have E:=Below.ij (B:=B) b ((KG j).alloc _) (aH _) aY;have J:=b.size;simp at J;clear b;go_roundw
    case rel=>exact⟨f,x-3,_,rfl,HL.out.symm,af,af,af,by simpa using n,(below_drewN hbel).trans (((Below.refl _ _).alloc (by simpa using hbs) _).trans E),af,aY⟩
    case measure=>exact ct
   ·have U:((aL d x.toNat:Int)==0)=false:=aY;by_cases T:aL d x.toNat=64/\(A:Int)+C<=x-3/\aL d (x-3).toNat=8
    ·obtain⟨H,hm2,I⟩:=T;have HL:=ag (z.symm.trans (YJ af F H af I));have L:((aL d x.toNat:Int)==64)=true:=by simp[H]
     have h8:((aL d (x-3).toNat:Int)==8)=true:=by simp[I]
     clear z K H I;have t4:=yp d (x-2).toNat;have t:∀k:Nat,k<=size->k<=two d (x-2).toNat->¬(k<two d (x-2).toNat/\k<size)->k=min (two d (x-2).toNat) size:=af;have X:=ag t;clear t;go_wp2_with(first | (go_at_call 146;refine(KF d _ af af KH _).mono ?_;rintro e w' ⟨rfl,nq,rfl⟩));generalize two d (x-2).toNat=m at *;generalize two d (x+1).toNat=y at *;obtain⟨wo,rfl⟩:∃wo:World,wo=wr:=⟨_,rfl⟩;go_loopw[5,10] (fun v i V=>∃k:Nat,k<=size/\k<=m/\i=.int .i64 k/\V.ownsRow B 3 1 v (out.length+k) ((out++List.replicate k (y:Int)).map (Value.int .i64))/\Below B w V/\B<=V.heap.size) (fun _ i _=>size-(intOf i).toNat)
     case atStart=>exact⟨0,af,af,rfl,by simpa using KG j,below_drewN hbel,hbs⟩
     case round=>
      obtain⟨k,O,Q,rfl,o,q,r⟩:=hrel;clear j hbel hbs;by_cases hk:k<m/\k<size
      ·obtain⟨S,hk4⟩:=hk;go_wp2_with(first | (at_builtin;go_must(refine nW rfl (.tmp 78) (.tmp 80) 101 3 rfl B (.int .i64 0) 1 8 Tryz.underlying101 uW rfl aq _ _ _ rfl (o.alloc _) _ [.int .i64 _] rfl (ah.new wr _) rfl nk af aq aY ?_;intro v' w1 n b)));have E:=Below.ij (B:=B) b (o.alloc _) (aH _) aY;have J:=b.size;simp at J;clear b;go_roundw
       case rel=>exact⟨k+1,af,af,bX,by simpa[List.replicate_succ',sD] using n,q.trans (((Below.refl _ _).alloc r _).trans E),af⟩
       case measure=>exact ct
      ·have M:=X.out k O Q hk;have Y:=ag M;clear M X;by_cases S:k<m;all_goals
        go_wp2;go_roundw
        case rel=>exact⟨f,x-3-3,_,rfl,HL.out.symm,af,af,af,by rw[<-Y.out];simpa using o,q,r,by rw[<-Y.out];simp;omega⟩
        case measure=>exact ct
    ·have HL:=ag (z.symm.trans (ajW af F K af));have G:=T;clear z T;have wm:=nV d (x-3).toNat;have D:=fun(W:World) (hW:Below B w W) (hS:B<=W.heap.size)=>YH (l:=[-1]) (World.ownsRow_lit (base:=B) (e:=3) (size:=1) W #[.int .i64 (-1)] 1 hS (by simp[maxLen]) rfl) (hW.trans ((Below.refl B W).alloc hS _)) HB.out;have HO:=ag D;clear D;by_cases N:aL d x.toNat=64
     ·have L:((aL d x.toNat:Int)==64)=true:=by simp[N]
      by_cases g2:(A:Int)+C<=x-3
      ·have g3:((aL d (x-3).toNat:Int)==8)=false:=aY;clear G N K;exact Qh
      ·have g3:decide ((A:Int)+C<=x-3)=false:=aY;clear G N K g2;exact Qh
     ·have L:((aL d x.toNat:Int)==64)=false:=aY;clear G N K;exact Qh
  ·have HL:=ag (z.symm.trans (YK af));clear z;have h0:x<(A:Int)+C:=af;clear hc;go_wp2;go_ret;rw[HL.out];exact YH j hbel HB.out
end Go.Proofs.YteninnkbmoimgaaGreatDoor

/- A part of the proof. -/
import Derived.Test.YteninnkbmoimgaaGreatDoorAW0
set_option linter.unusedSimpArgs false
set_option linter.unusedVariables false
set_option maxRecDepth 100000
set_option maxHeartbeats 16000000
namespace Go.Proofs.YteninnkbmoimgaaGreatDoor
open Go.RowKit aD
def pX (C F:List UInt8) (g:Nat):List UInt8:=C++(List.replicate g 0++(F++[0,0,0,0]))
theorem AW (A B:List UInt8) (x y:UInt8) (k:Nat) (b:k=A.length):(A++x::B).set k y=A++y::B:=by
 subst b;rw[RH _ _ (aH _)];simp
theorem RX (C F:List UInt8) (g c x:Nat):RY (pX C F (g+3)) (C.length+g) c x=pX C (fY c x++F) g:=by
 have e:List.replicate (g+3) (0:UInt8)=List.replicate g 0++[0,0,0]:=by rw[<-RZ];rfl
 unfold RY pX;rw[e];have b:C++(List.replicate g (0:UInt8)++[0,0,0]++(F++[0,0,0,0]))=(C++List.replicate g 0)++0::(0::0::(F++[0,0,0,0])):=av;rw[b,AW _ _ _ _ _ av];have d:(C++List.replicate g (0:UInt8))++UInt8.ofNat c::(0::0::(F++[0,0,0,0]))=(C++List.replicate g 0++[UInt8.ofNat c])++0::(0::(F++[0,0,0,0])):=av;rw[d,AW _ _ _ _ _ aY];have f:(C++List.replicate g (0:UInt8)++[UInt8.ofNat c])++UInt8.ofNat x::(0::(F++[0,0,0,0]))=(C++List.replicate g 0++[UInt8.ofNat c,UInt8.ofNat x])++0::(F++[0,0,0,0]):=av;rw[f,AW _ _ _ _ _ aY];simp[fY]
theorem amY (C F s:List UInt8) (g:Nat):uq (pX C F (s.length+g)) C.length s=pX (C++s) F g:=by
 unfold uq pX;rw[List.take_append_of_le_length (aH _),rT];have h:C++(List.replicate (s.length+g) (0:UInt8)++(F++[0,0,0,0]))=(C++List.replicate s.length 0)++(List.replicate g 0++(F++[0,0,0,0])):=by
  rw[<-RZ];simp only[jk]
 have b:C.length+s.length=(C++List.replicate s.length (0:UInt8)).length:=av;rw[h,b,List.drop_left]
theorem amZ (C F:List UInt8) (g n:Nat) (j:n=C.length+g+F.length+4):Md (pX C F g) n C.length g=C++List.replicate g 0++F++rH C.length g:=by
 unfold Md pX;have d:C++(List.replicate g (0:UInt8)++(F++[0,0,0,0]))=(C++List.replicate g 0++F)++0::[0,0,0]:=av;rw[d,AW _ _ _ _ _ aY];have e:∀a:UInt8,(C++List.replicate g 0++F)++a::[0,0,0]=(C++List.replicate g 0++F++[a])++0::[0,0]:=by intro a;simp
 rw[e,AW _ _ _ _ _ aY];have f:∀a b:UInt8,(C++List.replicate g 0++F++[a])++b::[0,0]=(C++List.replicate g 0++F++[a,b])++0::[0]:=by intro a b;simp
 rw[f,AW _ _ _ _ _ aY];have i:∀a b c:UInt8,(C++List.replicate g 0++F++[a,b])++c::[0]=(C++List.replicate g 0++F++[a,b,c])++0::[]:=by intro a b c;simp
 rw[i,AW _ _ _ _ _ aY];simp[rH]
theorem R1 (rs:List (Nat×Nat)) (r:Nat×Nat):di (rs++[r])=jj r++di rs:=by simp[di]
theorem am0 (n:Nat) (o:4<=n) (q:n<=512) (w:World):
 Calls Tryz.prog 177 #[.int .i64 n] w fun e w'=>e=.returned (.pointer (some ⟨w.heap.size+1,0,none⟩))/\Ext w w'/\w'.heap.size=w.heap.size+2/\Page w' (w.heap.size+1) w.heap.size n (n-4) 0 (List.replicate n 0):=by
 obtain⟨l,g,b,d,f⟩:=lH infoByte;have j:=Fg (P:=Tryz.prog) w 47 5 l n Tryz.underlying47 g b d f af;clear g b d f;have m:Hid (∀B,ah (w.alloc (.cells (aao (List.replicate n 0)) 5)) w.heap.size B->True):=ag (fun _ _=>trivial);go_enter Tryz.func177,Tryz.ntmps177;go_wp2;go_ret;have i:((n:Int)-4)=((n-4:Nat):Int):=af;rw[i];refine⟨rfl,(Ext.alloc _ _).trans (Ext.alloc _ _),av,⟨?_,?_,av,af⟩⟩
 ·have:=ah.new (w.alloc (.cells (aao (List.replicate n 0)) 5)) (.cells #[.slice (some ⟨w.heap.size,0,none⟩) n n,.int .i64 ((n-4:Nat):Int),.int .i64 ((0:Nat):Int)] 252);simpa using this
 ·exact ah.alloc (ah.new w _) _
structure Dq (w:World) (pb px bb n:Nat) (done:List (Nat×Nat)) (W:World):Prop where
 ext:Ext w W
 pg:w.heap.size<=px
 row:w.heap.size<=bb
 var:W.cell? ⟨pb,0,none⟩=some (.pointer (some ⟨px,0,none⟩))
 lt:pb<W.heap.size
 Me:pb≠px
 Mf:pb≠bb
 page:Page W px bb n (n-4-(di done).length) 0 (pX [] (di done) (n-4-(di done).length))
theorem Dq.only {w:World} {pb d e n:Nat} {done:List (Nat×Nat)} {W b:World} (h:Dq w pb d e n done W) (o:Only d e W b):Ext w b/\b.cell? ⟨pb,0,none⟩=some (.pointer (some ⟨d,0,none⟩))/\pb<b.heap.size:=by
 refine⟨o.ext h.ext h.pg h.row,?_,fM h.lt o.size⟩;rw[World.cell?_of_block (w:=W) (o.block pb h.lt h.Me h.Mf)];exact h.var
theorem am1 (w:World) (pb y q n:Nat) (done:List (Nat×Nat)) (k b:Nat) (G:n<=512) (V:1<=k) (F:k<=65535) (K:b<=65535) (d:(di (done++[(k,b)])).length+4<=n) (W:World) (h:Dq w pb y q n done W):
 Calls Tryz.prog 179 #[.int .i64 k,.int .i64 b,.pointer (some ⟨pb,0,none⟩)] W fun e Q=>e=.returned (.tuple #[])/\Dq w pb y q n (done++[(k,b)]) Q:=by
 rw[R1,ew,FB] at d;simp only at d;have X:=h.var;have i:=ag h;by_cases J:k=1
 ·subst J;simp at d;obtain⟨g,E⟩:∃g,n-4-(di done).length=g+3:=⟨n-4-(di done).length-3,af⟩;have m:=h.page;rw[E] at m;have r:=R3 y q n (g+3) 0 (pX [] (di done) (g+3)) 0 b af af G af K W m;have z:=ag r;clear h m r;go_enter Tryz.func179,Tryz.ntmps179;go_wp2_with fail;refine z.out.mono ?_;rintro e I ⟨rfl,f,j⟩;obtain⟨L,M,N⟩:=i.out.only j;go_wp2;refine bY (results_none rfl _ _ _) rfl ?_;refine⟨rfl,⟨L,i.out.pg,i.out.row,M,N,i.out.Me,i.out.Mf,?_⟩⟩;have l:=RX [] (di done) g 0 b;simp only[lC,nB,C6] at l f;rw[l] at f;have C:di (done++[(1,b)])=fY 0 b++di done:=by rw[R1];simp[jj]
  rw[C];have D:n-4-(fY 0 b++di done).length=g:=by simp[jX];omega
  rw[D];exact f
 ·have u:1<k:=af;rw[aC u] at d;have R:((k:Int)==1)=false:=aY;obtain⟨g,E⟩:∃g,n-4-(di done).length=g+3+3:=⟨n-4-(di done).length-6,af⟩;have m:=h.page;rw[E] at m;have r:=R3 y q n (g+3+3) 0 (pX [] (di done) (g+3+3)) 64 b af af G af K W m;have z:=ag r;clear h m r J;go_enter Tryz.func179,Tryz.ntmps179;go_wp2_with fail;refine z.out.mono ?_;rintro e I ⟨rfl,f,j⟩;obtain⟨L,M,N⟩:=i.out.only j;have l:=RX [] (di done) (g+3) 64 b;simp only[lC,nB,C6] at l f;rw[l] at f;have t:=R3 y q n (g+3) 0 (pX [] (fY 64 b++di done) (g+3)) 8 k af af G af F I f;have B:=ag t;have O:=ag j;clear f t j l;go_wp2_with fail;refine B.out.mono ?_;rintro e U ⟨rfl,o,H⟩;obtain⟨S,T,r3⟩:=i.out.only (O.out.trans H);go_wp2;go_end0;refine⟨rfl,⟨S,i.out.pg,i.out.row,T,r3,i.out.Me,i.out.Mf,?_⟩⟩;have l:=RX [] (fY 64 b++di done) g 8 k;simp only[lC,nB,C6] at l o;rw[l] at o;have C:di (done++[(k,b)])=fY 8 k++(fY 64 b++di done):=by rw[R1];simp[jj,u]
  rw[C];have D:n-4-(fY 8 k++(fY 64 b++di done)).length=g:=by simp[jX];omega
  rw[D];exact o
theorem am2 (p:Option Addr) (L:List (List UInt8)) (w:World) (pb q i n:Nat) (y:n<=512) (z:bk w p L) (m:fU L=true) (g:cB L<=n):Qv 179 #[.pointer (some ⟨pb,0,none⟩)] p L (Dq w pb q i n) where
 call:=fun args W=>by simp[callFunc,Tryz.func179];kernel_rfl
 drawn:=fun done W k h=>⟨h.ext.trans (Ext.drewN W k),h.pg,h.row,h.var,h.lt,h.Me,h.Mf,h.page.drewN k⟩
 reads:=fun done W h=>z.ext h.ext
 step:=fun done k d rest W o h=>by
  have b:(k,d)∈cU L:=by rw[o];simp
  have j:=wE L _ b;have l:=KY (cU L) (wE L);rw[yD,kF] at l;have r:=l.2 _ b;obtain⟨s,e,f⟩:=QC L _ b;have B:=K2 m e;have C:=K3 m;have t:fK L=di (rest)++di (done++[(k,d)]):=by
   rw[yE,o];simp[di]
  have u:=gP List.length t;rw[ew] at u;unfold cB at g;simp only at j r f;exact am1 w pb q i n done k d y j af af af W h
theorem am3 (w:World) (v:Value) (t:TypeId) (k:Nat) (b:k=w.heap.size):(w.alloc (.cells #[v] t)).cell? ⟨k,0,none⟩=some v:=by subst b;exact Zp w v t
theorem am4 (p:Option Addr) (j m:Nat) (L:List (List UInt8)) (n:Nat) (hnn:n=128∨n=256∨n=512) (h1:cQ n=true) (h2:fU L=true) (h3:cB L<=n) (w:World) (hs:bk w p L) (hm:L.length=m) (t:m<=j) (N:j<=maxLen) (r:Small L):
 Calls Tryz.prog 158 #[.int .i64 n,.slice p m j] w fun e w'=>e=.returned (.tuple #[.string ⟨(qL n L.flatten (fK L)).toArray⟩,.int .i64 0])/\Ext w w':=by
 have U:4<=n:=af;have l:n<=512:=af;have Hs:=ag hs;have hL:=r.1;have V:=am0 n U l;have Hnp:=ag V;have h3I:(cB L:Int)<=n:=af;clear V hs hnn;go_enter Tryz.func158,Tryz.ntmps158;go_wp2_with(first | (go_at_call 154;refine(uX _ _).mono ?_;rintro e w' ⟨rfl,rfl⟩) | (go_at_call 175;refine(Fy _ _ _ L _ Hs.out hm r).mono ?_;rintro e w' ⟨rfl,rfl⟩) | (go_at_call 176;refine(Qw _ _ _ L _ Hs.out hm t N r).mono ?_;rintro e B ⟨rfl,y⟩) | (go_at_call 177;refine(Hnp.out _).mono ?_;rintro e w2 ⟨rfl,O,hz2,X⟩));obtain⟨d,u⟩:∃d,d=B.heap.size:=⟨_,rfl⟩;have Z:pX [] [] (n-4)=List.replicate n 0:=by
  have e:n=(n-4)+4:=af
  conv=>rhs;rw[e,<-RZ]
  simp[pX]
 have hst:Dq B (d+2) (d+1) d n [] (w2.alloc (.cells #[.pointer (some ⟨d+1,0,none⟩)] 232)):=by
  refine⟨O.trans (Ext.alloc _ _),af,af,am3 _ _ _ _ af,aY,af,af,?_⟩;have:=X.ext (Ext.alloc w2 (.cells #[.pointer (some ⟨d+1,0,none⟩)] 232));rw[<-Z,<-u] at this;exact this
 rw[<-u];refine(Zl _ _ p m j L _ (am2 p L B (d+2) (d+1) d n l (Hs.out.ext y) h2 h3) hm t N r _ hst).mono ?_;rintro e w3 ⟨rfl,J⟩;have hsz:cM L+(fK L).length+4<=n:=by unfold cB at h3;omega
 have q:=J.page;rw[<-yE] at q;have s6:d+2≠d+1:=af;have Y:d+2≠d:=af;have K:B.heap.size<=d+1:=af;have M:B.heap.size<=d:=af;have HW:Hid (∀g,n=L.flatten.length+g+(fK L).length+4->qL n L.flatten (fK L)=L.flatten++List.replicate g 0++fK L++rH L.flatten.length g):=ag (fun g E=>by
  unfold qL;have:n-4-L.flatten.length-(fK L).length=g:=af;simp only[this])
 obtain⟨F,hF⟩:∃F,F=fK L:=⟨_,rfl⟩;rw[<-hF] at q hsz HW;have Xo:=J.var;have kI:=J.ext;have S:=J.lt;have hmL:m<=1000000:=af;clear hst X hz2 u Z J O h3I h3;go_wp2;obtain⟨wo,rfl⟩:∃wo:World,wo=w3:=⟨_,rfl⟩;go_loopw[29] (fun i wi=>∃k:Nat,k<=m/\i=.int .i64 k/\Ext B wi/\wi.cell? ⟨d+2,0,none⟩=some (.pointer (some ⟨d+1,0,none⟩))/\d+2<wi.heap.size/\
  Page wi (d+1) d n (n-4-F.length) (L.take k).flatten.length (pX (L.take k).flatten F (n-4-F.length-(L.take k).flatten.length))) (fun i _=>m-(intOf i).toNat)
 case atStart=>exact⟨0,bL _,rfl,kI,Xo,S,q⟩
 case round=>
  obtain⟨k,hk,rfl,hx,hv,hl,G⟩:=hrel;have I:(L.take k).flatten.length<=cM L:=by rw[KV];exact KU L k
  clear q Xo kI S;by_cases hlt:k<m
  ·obtain⟨b,off,rfl,hb,hc⟩:=(Hs.out.ext (y.trans hx)).at k af;have oz:=hc k af;have Q:=Zh L k af;have hls:(L.take k).flatten.length+(L.getD k []).length<=cM L:=by
    have:=Zg L k af;rw[KV];have h:=KU L (k+1);omega
   generalize hs':L.getD k []=s at *;generalize hC:(L.take k).flatten=C at *;obtain⟨g,E⟩:∃g,n-4-F.length-C.length=s.length+g:=⟨n-4-F.length-C.length-s.length,af⟩;rw[E] at G;have f:=am7 (d+1) d n (n-4-F.length) C.length _ s af af l wr G;rw[amY] at f;have H:=ag f;have Hfl:=ag Q;have HO:=ag (fun(D:World) (o:Only (d+1) d wr D)=>(⟨o.ext hx K M,(World.cell?_of_block (w:=wr) (o.block (d+2) hl s6 Y)).trans hv,fM hl o.size⟩:Ext B D/\D.cell? ⟨d+2,0,none⟩=some (.pointer (some ⟨d+1,0,none⟩))/\d+2<D.heap.size));have Hg:Hid (n-4-F.length-(C++s).length=g):=ag aY;have T:(k:Int)<m:=af;clear hc f G Q hs' hC E;go_wp2_with(go_at_call 181;go_must(refine H.out.mono ?_;rintro e w4 ⟨rfl,vg,z⟩));obtain⟨q1,q2,q3⟩:=HO.out _ z;go_roundw
   case rel=>exact⟨k+1,af,bX,q1,q2,q3,by rw[Hfl.out,Hg.out];simpa using vg⟩
   case measure=>exact ct
  ·have R:L.take k=L:=mC af;rw[R] at G I;obtain⟨g,E⟩:∃g,n-4-F.length=L.flatten.length+g:=⟨n-4-F.length-L.flatten.length,af⟩;have hd:=am9 (d+1) d n (n-4-F.length) L.flatten.length _ af af U l wr G;rw[E,Mg,amZ _ _ _ _ af] at hd;have HWg:=ag (HW.out g af);have Hd:=ag hd;have HO:=ag (fun(D:World) (o:Only (d+1) d wr D)=>o.ext hx K M);have T:¬(k:Int)<m:=af;clear hd G R I E;go_wp2_with(go_at_call 182;go_must(refine Hd.out.mono ?_;rintro e w4 ⟨rfl,z⟩));go_ret2;exact⟨yB (by have h:=HWg.out;rw[hF] at h;rw[h];simp) rfl,y.trans (HO.out _ z)⟩
theorem R4 (p:Option Addr) (b m:Nat) (L:List (List UInt8)) (size:Int) (w:World) (l:bk w p L) (j:L.length=m) (d:m<=b) (g:b<=maxLen) (i:Small L):
 Calls Tryz.prog 158 #[.int .i64 size,.slice p m b] w fun e w'=>e=.returned (.tuple #[.string ⟨(iL size L).toArray⟩,.int .i64 (gR size L)])/\Ext w w':=by
 by_cases h1:cQ size=true
 ·by_cases h2:fU L=true
  ·by_cases q:size<cB L
   ·have HE:Hid (gR size L=8):=ag (by simp[gR,h1,h2,q]);have f:Hid (iL size L=[]):=ag zR;go_enter Tryz.func158,Tryz.ntmps158;go_wp2_with(first | (go_at_call 154;refine(uX _ _).mono ?_;rintro e w' ⟨rfl,rfl⟩) | (go_at_call 175;refine(Fy _ _ _ L _ l j i).mono ?_;rintro e w' ⟨rfl,rfl⟩) | (go_at_call 176;refine(Qw _ _ _ L _ l j d g i).mono ?_;rintro e w' ⟨rfl,r⟩));go_ret2;exact⟨yB f.out.symm HE.out.symm,r⟩
   ·have HE:gR size L=0:=by simp[gR,h1,h2];omega
    have f:iL size L=qL size.toNat L.flatten (fK L):=by simp[iL,HE]
    obtain⟨k,rfl,t⟩:=yC h1;rw[HE,f,jU];exact am4 p b m L k t h1 h2 af w l j d g i
  ·have o:fU L=false:=ru;clear h2;have HE:Hid (gR size L=2):=ag (by simp[gR,h1,o]);have f:Hid (iL size L=[]):=ag zR;go_enter Tryz.func158,Tryz.ntmps158;go_wp2_with(first | (go_at_call 154;refine(uX _ _).mono ?_;rintro e w' ⟨rfl,rfl⟩) | (go_at_call 175;refine(Fy _ _ _ L _ l j i).mono ?_;rintro e w' ⟨rfl,rfl⟩));go_ret2;exact⟨yB f.out.symm HE.out.symm,Ext.refl _⟩
 ·have n:cQ size=false:=jP;clear h1;have HE:Hid (gR size L=1):=ag (by simp[gR,n]);have f:Hid (iL size L=[]):=ag zR;go_enter Tryz.func158,Tryz.ntmps158;go_wp2_with(go_at_call 154;refine(uX _ _).mono ?_;rintro e w' ⟨rfl,rfl⟩);go_ret2;exact⟨yB f.out.symm HE.out.symm,Ext.refl _⟩
end Go.Proofs.YteninnkbmoimgaaGreatDoor
namespace aD
theorem Mh {α:Type} (L:List α) (i k:Nat) (y x:α) (h:i<L.length):(L.set i y).getD k x=if k=i then y else L.getD k x:=by
 simp only[List.getD,List.getElem?_set];by_cases b:i=k
 ·subst b;simp[h]
 ·rw[aA b,aA (fun e=>b e.symm)]
theorem abr (M:List (List UInt8)) (p:Int) {k:Nat} (b:k<M.length):(lK M p).getD k []=M.getD k []:=by
 unfold lK;split
 ·simp[List.getD,rF b]
 ·rfl
theorem abt {M:List (List UInt8)} {x:Wr} (b:0<=x.1) (f:x.1<10000):aF (jl M x) x.1=(x.2,0):=by
 have d:x.1<((lK M x.1).length:Int):=by unfold lK;rw[aC f];simp;omega
 have e:jl M x=(lK M x.1).set x.1.toNat x.2:=by unfold jl;rw[aC ⟨b,d⟩]
 unfold aF;rw[e,pE,aC ⟨b,d⟩,Mh _ _ _ _ _ af,aC rfl]
theorem anb {M:List (List UInt8)} {x:Wr} {q:Int} (f:q<(M.length:Int)) (d:x.1≠q):aF (jl M x) q=aF M q:=by
 have g:=ZH M x.1;have l:=QJ M x;have e:0<=q->(jl M x).getD q.toNat []=M.getD q.toNat []:=fun b=>by
  unfold jl;split
  ·rename_i h;rw[Mh _ _ _ _ _ af,aA af,abr _ _ af]
  ·exact abr _ _ af
 unfold aF;by_cases b:0<=q
 ·rw[aC ⟨b,af⟩,aC ⟨b,af⟩,e b]
 ·rw[aA af,aA af]
theorem Gt {q:Int}:∀(W:List Wr) (M:List (List UInt8)),q<(M.length:Int)->(∀x∈W,x.1≠q)->aF (fV M W) q=aF M q
 | [],M,_,_=>rfl
 | x::W,M,d,b=>by
   have l:=QJ M x;have:=Gt W (jl M x) af (fun y e=>b y (pQ _ e));rw[show fV M (x::W)=fV (jl M x) W from rfl,this,anb d (b x (Gu ..))]
theorem anc {M:List (List UInt8)} {x:Wr} (b:0<=x.1) (d:x.1<10000):x.1<((jl M x).length:Int):=by
 have:=abt (M:=M) b d;unfold aF at this;split at this
 ·rename_i h;exact h.2
 ·simp at this
theorem Mi:∀(W:List Wr) (M:List (List UInt8)),(W.map (·.1)).Nodup->(∀x∈W,0<=x.1/\x.1<10000)->∀x∈W,aF (fV M W) x.1=(x.2,0)
 | [],_,_,_,x,b=>by cases b
 | y::W,M,d,j,x,b=>by
   rw[dh,ug] at d;rw[show fV M (y::W)=fV (jl M y) W from rfl];rcases fD.1 b with rfl | b
   ·obtain⟨g,i⟩:=j x (Gu ..);rw[Gt W (jl M x) (anc g i) (fun z f e=>d.1 (by rw[<-e];exact List.mem_map_of_mem f)),abt g i]
   ·exact Mi W (jl M y) d.2 (fun z f=>j z (pQ _ f)) x b
theorem Gv {K:Int}:∀(W:List Wr) (M:List (List UInt8)),(∀x∈W,x.1<K)->(M.length:Int)<=K->((fV M W).length:Int)<=K
 | [],M,_,h=>h
 | x::W,M,b,h=>by
   have g:=b x (Gu ..);have d:((lK M x.1).length:Int)<=K:=by
    unfold lK;split
    ·simp;omega
    ·exact h
   have f:((jl M x).length:Int)<=K:=by
    unfold jl;split
    ·rw[pE];exact d
    ·exact d
   exact Gv W (jl M x) (fun z e=>b z (pQ _ e)) f
theorem Kz (P:List UInt8->Prop) (d:P []):∀(l:List Wr),(∀x∈l,P x.2)->∀(m:List (List UInt8)),(∀s∈m,P s)->∀s∈fV m l,P s
 | [],_,m,b=>b
 | x::l,e,m,b=>Kz P d l (fun y f=>e y (pQ _ f)) (jl m x) (akM m x P b d (e x (Gu ..)))
end aD
namespace Go.Proofs.YteninnkbmoimgaaGreatDoor
open Go.RowKit aD
theorem ane {w:World} {ops:Array Oper} {rest:List Oper} {o:Oper} {a:Act} {Q:Exit->Act->World->Prop} (hgd:Region.wanted o (yielded ops a.tmps)=true) (d s:Operand)
 (ho:o.op=.call {callee:=.builtin .append,args:=#[d,s],argTypes:=#[31,31]}) (base:Nat) (v:Value) (n:Nat) (xs:List Value) (hv:a.eval d=v) (hown:w.ownsRow base 9 1 v n xs) (p:Option Addr) (m c:Nat) (e:List Value) (hs:a.eval s=.slice p m c) (t:e.length=m) (hc:Cells w p e)
 (r:∀u∈e,u.oneCell'=true) (z:n+m<=100000000) (f:base<=w.heap.size)
 (h:∀l w',w'.ownsRow base 9 1 l (n+m) (xs++e)->w.grownBy w' v.ownBlock->wpList Tryz.prog ops Q rest (a.put o.dst l) w'):wpList Tryz.prog ops Q (o::rest) a w:=by
 by_cases y:m=0
 ·subst y;obtain rfl:e=[]:=gY t;obtain⟨q,k,rfl⟩:=cE hown;obtain⟨_,j,_⟩:=gh hown;obtain⟨E,i,B,D,C⟩:=lH RF;have hr:(Builtin.append_ #[31,31] o.type #[.slice q n k,.slice p 0 c]).run Tryz.prog w=.ok (.slice q n k) w:=by
   cases p<;>cases q<;>simp[Builtin.append_,pO Tryz.underlying31,Go.sizeOf,typeInfo,i,Builtin.lenOf,Builtin.firstCells,loadCells,loadCellsFrom,Go.storeCells,j]
  exact JQ
 ·obtain⟨g,rfl⟩:∃g,p=some g:=by
   exact Aa
  exact sV hgd d s 31 9 ho base (.string ByteArray.empty) 1 16 Tryz.underlying31 RF rfl aq v n xs hv hown (some g) m c e hs rfl af hc r z aq f h
theorem anf (N:Nat) (u:N<=1000000) (w:World):Calls Tryz.prog 161 #[.slice none 0 0,.int .i64 N] w fun e w'=>∃v,e=.returned v/\w'.ownsRow w.heap.size 9 1 v 0 []/\Ext w w':=by
 by_cases o:N=0
 ·subst o;go_enter Tryz.func161,Tryz.ntmps161;go_wp2;go_ret;exact⟨_,rfl,World.ownsRow_nil _ _ _ _,Ext.refl _⟩
 ·obtain⟨r,g,j,q,l⟩:=lH RF;have d:=fun t W=>Lib.run_append_nil_zeros (P:=Tryz.prog) W 31 3 t 9 r (.string ByteArray.empty) .i64 .i64 Tryz.underlying31 aj g j N af af af (by rw[l];omega);have y:decide ((0:Int)<(N:Int))=true:=bM af;have f:=grownCap_ge w N 0 9;have b:=grownCap_le_maxLen w N 0 9 uM;have m:grownCap w N 0 9<=9223372036854775807:=b;have n:=ag (And.intro f b);go_enter Tryz.func161,Tryz.ntmps161;go_wp2_with(at_builtin;refine Lib.wpList_append_run _ rfl _ _ _ _ rfl _ _ rfl rfl _ _ (d _ _) ?_);go_ret;have i:(Builtin.zeroCells #[Value.string ByteArray.empty] N++Builtin.zeroCells #[Value.string ByteArray.empty] (grownCap w N 0 9-N)).size=grownCap w N 0 9*1:=by
   simp[Builtin.zeroCells];omega
  exact⟨_,rfl,⟨rfl,.inr ⟨w.heap.size,_,_,rfl,aH _,(Ext.drew _).blk _ _ (ah.new w _),bL _,n.out.2,i,av⟩⟩,(Ext.alloc _ _).trans (Ext.drew _)⟩
def mF (V:List aB) (k:Nat):Nat:=((V.take k).map List.length).sum
theorem Dr {V:List aB} {k:Nat} (h:k<V.length):mF V (k+1)=mF V k+(V.getD k []).length:=by
 unfold mF;rw[jr h,jW,List.sum_append];simp[List.getD,h]
theorem R5 (V:List aB) (k:Nat):((V.take k).flatten).length=mF V k:=by unfold mF;rw[List.length_flatten]
theorem R6 {V:List aB} {k m:Nat} (d:∀i,(V.getD i []).length<=m) (j:k<=V.length):mF V k<=k*m:=by
 induction k with
 | zero=>simp[mF]
 | succ k e=>
   have b:=Dr (V:=V) (k:=k) af;have f:=e af;have g:=d k;rw[b,Nat.add_mul,Nat.one_mul];omega
theorem abu {V:List aB} {k:Nat} (h:k<V.length):(V.take (k+1)).flatten=(V.take k).flatten++V.getD k []:=by
 rw[jr h,Al];simp[List.getD,h]
theorem ang (p:Option Addr) (m:Nat) (V:List aB) (w:World) (hv:AV w p V) (hl:V.length<=120) (Z:∀i,(V.getD i []).length<=1000):
 Calls Tryz.prog 124 #[.slice p V.length m] w fun e w'=>∃v,e=.returned v/\w'.ownsRow w.heap.size 9 1 v V.flatten.length (V.flatten.map fun s=>.string ⟨s.toArray⟩)/\Ext w w':=by
 have Hv:=ag hv;have Hm:=ag Z;have z:Hid (∀k,k<=V.length->mF V k<=120000):=ag (fun k M=>by
  have:=R6 (m:=1000) Z M;have h2:k*1000<=120*1000:=AE _ af;omega)
 clear hv Z;go_enter Tryz.func124,Tryz.ntmps124;go_wp2_with fail;obtain⟨wo,rfl⟩:∃wo:World,wo=w:=⟨_,rfl⟩;go_loopw[3,11] (fun sz i wr=>∃k:Nat,k<=V.length/\i=.int .i64 k/\sz=.int .i64 (mF V k:Nat)/\wr=wo) (fun _ i _=>V.length-(intOf i).toNat)
 case atStart=>exact⟨0,bL _,rfl,rfl,rfl⟩
 case round=>
  obtain⟨k,M,rfl,rfl,rfl⟩:=hrel;by_cases t:k<V.length
  ·have I:(k:Int)<V.length:=af;obtain⟨b,off,v,rfl,hb,hc,qi,ci,rfl,N,h1,h2,U⟩:=Hv.out.at k t;have F:=z.out k M;have l:=z.out (k+1) t;have u:=Dr t;have r:=ag u;rw[u] at l;generalize V.getD k []=L at *;generalize mF V k=T at *;have i1:decide ((T:Int)+(L.length:Int)<0)=false:=aM af;clear u N U;go_wp2;go_roundw
   case rel=>exact⟨k+1,af,bX,by rw[r.out];go_num,trivial⟩
   case measure=>exact ct
  ·have I:decide ((k:Int)<V.length)=false:=aY;have Y:k=V.length:=af;subst Y;obtain⟨y,rfl⟩:∃y:World,y=wr:=⟨_,rfl⟩;have HG:=ag (anf (mF V V.length) (by have:=z.out _ M;omega) y);go_upto_region 11 with(go_at_call 161;refine HG.out.mono ?_;rintro e w1 ⟨v1,rfl,J,C⟩);have S:=ag J;have Q:=ag C;clear J C;go_loopw[6,27] (fun out i wx=>∃k:Nat,k<=V.length/\i=.int .i64 k/\wx.ownsRow y.heap.size 9 1 out (mF V k) (((V.take k).flatten).map fun s=>.string ⟨s.toArray⟩)/\Ext y wx) (fun _ i _=>V.length-(intOf i).toNat)
   case atStart=>exact⟨0,bL _,rfl,by simpa[mF] using S.out,Q.out⟩
   case round=>
    obtain⟨j,hj,rfl,d,g⟩:=hrel;by_cases f:j<V.length
    ·have H:(j:Int)<V.length:=af;obtain⟨b,off,v,rfl,hb,hc,qi,ci,rfl,N,h1,h2,U⟩:=(Hv.out.ext g).at j f;have r:=ag (Dr f);have R:=ag (abu f);have n:=ag d;have q:=ag g;have Hs:=ag N;have F:=z.out j hj;have l:=z.out (j+1) f;have G:mF V j+(V.getD j []).length<=120000:=by rw[<-Dr f];exact l
     generalize V.getD j []=L at *;have O:=ag G;clear d g N U F l G;go_wp2_with(at_builtin;refine ane (o:=⟨some 33,_,_,_,_,_⟩) rfl (.tmp 31) (.tmp 32) rfl y.heap.size _ (mF V j) _ rfl n.out qi L.length ci (L.map fun s:List UInt8=>Value.string ⟨s.toArray⟩) rfl av Hs.out (ajQ L) (by have:=O.out;omega) q.out.size ?_;intro v8 w8 K E);have B:=Below.ij E n.out (aH _) q.out.size;have fI:=ag (show w8.ownsRow y.heap.size 9 1 v8 (mF V (j+1)) (((V.take (j+1)).flatten).map fun s=>.string ⟨s.toArray⟩) by rw[r.out,R.out,jW];exact K);have rU:=ag (Ext.trans' q.out B);clear K E B;go_roundw
     case rel=>exact⟨j+1,af,bX,fI.out,rU.out⟩
     case measure=>exact ct
    ·have H:decide ((j:Int)<V.length)=false:=aY;have X:j=V.length:=af;subst X;have D:=R5 V V.length;rw[rT] at d D;rw[<-D] at d;go_wp2;go_ret;exact⟨_,rfl,d,g⟩
end Go.Proofs.YteninnkbmoimgaaGreatDoor
namespace aD
def bW (d:DS) (L:aB):List (List UInt8×List UInt8):=L.map fun s=>(ax d s,s)
end aD
namespace Go.Proofs.YteninnkbmoimgaaGreatDoor
open Go.RowKit aD
theorem Gw:(Tryz.prog.info? 37).map (fun i=>(i.zero,i.size,i.bytes))=some (some (.agg #[.string ByteArray.empty,.string ByteArray.empty]),2,32):=aj
theorem R7 (A B:List (List UInt8×List UInt8)):eV (A++B)=eV A++eV B:=by unfold eV;rw[Gp]
theorem anh {d:DS} {L:aB} {k:Nat} (h:k<L.length):eV (bW d (L.take (k+1)))=eV (bW d (L.take k))++[.string ⟨(ax d (L.getD k [])).toArray⟩,.string ⟨(L.getD k []).toArray⟩]:=by
 rw[jr h];unfold bW;rw[jW,R7];simp[eV,List.getD,h]
end Go.Proofs.YteninnkbmoimgaaGreatDoor
namespace aD
open Go.Proofs.YteninnkbmoimgaaGreatDoor (dS dH)
theorem abv {size:Int} {L:aB} (h:eH size L=true):eL size L (iL size L):=by
 refine⟨?_,rfl⟩;unfold eH at h;simp only[eu,gu] at h;obtain⟨⟨b,d⟩,e⟩:=h;unfold gR;simp only[b,d];simp;omega
theorem abw {d:DS} {a:Ar} (h:fP d a):dS d.interval a.nd=0:=by
 have:=h.fits;unfold Go.Proofs.YteninnkbmoimgaaGreatDoor.dS;rw[h.size,h.node,aA av,aA af]
theorem Mj {d:DS} {a:Ar} (h:fP d a) (x:Wr):x∈fX d a↔x=(a.base,iW d.interval a.nd)∨x∈ju d a.nd.ai a.ak:=by
 obtain⟨_,e⟩:=RR h;unfold fX;rw[fD,RQ];constructor
 ·rintro(b | ⟨b,_⟩)
  ·exact .inl b
  ·exact .inr b
 ·rintro(b | b)
  ·exact .inl b
  ·have:=e x b;exact .inr ⟨b,af,af⟩
theorem Gx {d:DS} {a:Ar} (h:fP d a):((fX d a).map (·.1)).Nodup/\∀x∈fX d a,a.base<=x.1/\x.1<=a.base+d.aN:=by
 obtain⟨i,g⟩:=RR h;obtain⟨l,m⟩:=RP i d.aN.toNat;have n:0<=d.aN:=by have:=h.few;omega
 refine⟨?_,fun x b=>?_⟩
 ·have j:(fX d a).Pairwise (fun x y=>x.1<y.1):=by
   unfold fX;rw[lM];exact⟨fun x b=>(m x b).1,l⟩
  unfold List.Nodup;rw[List.pairwise_map];exact j.imp fun f e=>af
 ·rcases(Mj h x).1 b with rfl | b
  ·simp only;omega
  ·have:=g x b;omega
theorem ani {d:DS} {E:List aG} {V:List aB} {k:Nat} (hk:k<E.length) (f:V.length=E.length):((au E k).2,iL d.interval (V.getD k []))∈ju d E V:=by
 unfold ju;refine fT.2 ⟨(au E k,V.getD k []),?_,rfl⟩;have b:au E k=E[k]:=Co;have e:V.getD k []=V[k]' af:=by simp[List.getD,show k<V.length by omega]
 rw[b,e];refine nT.2 ⟨k,by rw[List.length_zip];omega,by rw[List.getElem_zip]⟩
theorem abx {M:List (List UInt8)} {d:DS} {a:Ar} (h:fP d a) (g:∀x∈fX d a,aF M x.1=(x.2,0)):∀n k,n+k=a.nd.ai.length->kK M d.interval (a.nd.ai.drop k) (a.ak.take k)=(a.ak,0)
 | 0,k,j=>by
   obtain rfl:k=a.nd.ai.length:=af;rw[R8,<-h.len,rT]
 | n+1,k,j=>by
   have b:k<a.nd.ai.length:=af;have f:=g _ ((Mj h _).2 (.inr (ani (d:=d) b h.len)));simp only at f;have i:=abv (h.iv (show k<a.ak.length by rw[h.len];exact b)).1;rw[R9 (L:=a.ak.getD k []) b (by rw[f]) (by rw[f];exact i)];have e:a.ak.take k++[a.ak.getD k []]=a.ak.take (k+1):=by
    rw[jr (show k<a.ak.length by rw[h.len];exact b)];simp[List.getD,show k<a.ak.length by rw[h.len];exact b]
   rw[e];exact abx h g n (k+1) af
theorem anj {M:List (List UInt8)} {d:DS} {a:Ar} (h:fP d a) (g:∀x∈fX d a,aF M x.1=(x.2,0)):jw M d a.base=(a,0):=by
 have e:=g _ ((Mj h _).2 (.inl rfl));simp only at e;have o:=abw h;obtain⟨j,l⟩:=Sa o;have f:gH d.interval (iW d.interval a.nd)=0:=by unfold gH;rw[h.size,j];simp
 have m:dz d.interval (iW d.interval a.nd)=a.nd:=by unfold dz;rw[aC f,l]
 have b:dD d a=true:=lD.2 h;have q:rV d a.base a.nd=true:=by
  rw[<-Sb h.base];unfold dD at b;simp only[eu] at b;exact b.1.1.2
 have i:=abx h g a.nd.ai.length 0 af;rw[dP,eF] at i;rw[Sc h.keyed h.base (by rw[e]) (by rw[e];exact f) (by rw[e];exact m) q,i,aA av];have n:(⟨a.base,a.nd,a.ak⟩:Ar)=a:=rfl;rw[n,b,aA av]
end aD

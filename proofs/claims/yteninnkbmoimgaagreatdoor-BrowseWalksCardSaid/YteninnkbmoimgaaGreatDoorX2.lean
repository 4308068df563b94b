/- A part of the proof. -/
import Derived.Test.YteninnkbmoimgaaGreatDoorX1
set_option linter.unusedSimpArgs false
set_option linter.unusedVariables false
set_option maxRecDepth 100000
set_option maxHeartbeats 16000000
variable{P:Prop}
theorem aj(h:P:=by kernel_rfl):P:=h
theorem Ro(h:P:=by
 obtain⟨k,hk,rfl,rfl⟩:=hrel;by_cases k0:k=0
 ·subst k0;go_wp2;go_round
  case rel=>exact⟨1,af,rfl,rfl⟩
  case measure=>simp[intOf]
 ·by_cases k1:k=1
  ·subst k1;go_wp2;go_round
   case rel=>exact⟨2,af,rfl,rfl⟩
   case measure=>simp[intOf]
  ·by_cases k2:k=2
   ·subst k2;go_wp2;go_round
    case rel=>exact⟨3,af,rfl,rfl⟩
    case measure=>simp[intOf]
   ·obtain rfl:k=3:=af;clear i0 i1 i2 k0 k1 k2;go_wp2_with(first | (go_at_call 72;refine(F9 _ _ _ _).mono ?_;rintro e w' ⟨rfl,rfl⟩));all_goals go_ret
    all_goals exact⟨jz (tM vM),Ce⟩):P:=h
theorem Rp(h:P:=by
 obtain⟨k,hk,rfl,rfl⟩:=hrel;by_cases k0:k=0
 ·subst k0;go_wp2;go_round
  case rel=>exact⟨1,af,rfl,rfl⟩
  case measure=>simp[intOf]
 ·by_cases k1:k=1
  ·subst k1;go_wp2;go_round
   case rel=>exact⟨2,af,rfl,rfl⟩
   case measure=>simp[intOf]
  ·by_cases k2:k=2
   ·subst k2;go_wp2;go_round
    case rel=>exact⟨3,af,rfl,rfl⟩
    case measure=>simp[intOf]
   ·obtain rfl:k=3:=af;clear i0 i1 i2 k0 k1 k2;go_wp2_with(first | (go_at_call 73;have tk:=HZ;(refine(LI _ _ 2 [d.format,d.block] _ (ints_at _ _ [d.format,d.block] 3 _ rfl av) rfl af).mono ?_;rw[HZ.out];rintro e w' ⟨rfl,rfl⟩;clear HZ tk)) | (go_at_call 73;go_must(refine(LI _ _ 5 [d.dm,d.bV,d.aN,d.nF,d.mS] _ (ints_at _ _ [d.dm,d.bV,d.aN,d.nF,d.mS] 3 _ rfl av) rfl af).mono ?_;rw[HV.out];rintro e w' ⟨rfl,rfl⟩)) | (go_at_call 72;refine(F9 _ _ _ _).mono ?_;rintro e w' ⟨rfl,rfl⟩));all_goals go_ret
    all_goals exact⟨jz rfl,Ce⟩):P:=h
theorem Rq(h:P:=by
 obtain⟨k,hk,rfl,rfl⟩:=hrel;by_cases k0:k=0
 ·subst k0;go_wp2;go_round
  case rel=>exact⟨1,af,rfl,rfl⟩
  case measure=>simp[intOf]
 ·by_cases k1:k=1
  ·subst k1;go_wp2;go_round
   case rel=>exact⟨2,af,rfl,rfl⟩
   case measure=>simp[intOf]
  ·by_cases k2:k=2
   ·subst k2;go_wp2;go_round
    case rel=>exact⟨3,af,rfl,rfl⟩
    case measure=>simp[intOf]
   ·obtain rfl:k=3:=af;clear i0 i1 i2 k0 k1 k2;go_wp2_with(first | (go_at_call 73;go_must(refine(LI _ _ 2 [d.format,d.block] _ (ints_at _ _ [d.format,d.block] 3 _ rfl av) rfl af).mono ?_;rw[HZ.out];rintro e w' ⟨rfl,rfl⟩)) | (go_at_call 72;refine(F9 _ _ _ _).mono ?_;rintro e w' ⟨rfl,rfl⟩));all_goals go_ret
    all_goals first | exact⟨jz (tM ajs),Ce⟩ | exact⟨jz (aau OT ajg),Ce⟩):P:=h
theorem Rs(h:P:=by
 obtain⟨k,hk,rfl,rfl⟩:=hrel;by_cases k0:k=0
 ·subst k0;go_wp2;go_round
  case rel=>exact⟨1,af,rfl,rfl⟩
  case measure=>simp[intOf]
 ·by_cases k1:k=1
  ·subst k1;go_wp2;go_round
   case rel=>exact⟨2,af,rfl,rfl⟩
   case measure=>simp[intOf]
  ·by_cases k2:k=2
   ·subst k2;go_wp2;go_round
    case rel=>exact⟨3,af,rfl,rfl⟩
    case measure=>simp[intOf]
   ·obtain rfl:k=3:=af;clear i0 i1 i2 k0 k1 k2;go_wp2_with(first | (go_at_call 72;refine(F9 _ _ _ _).mono ?_;rintro e w' ⟨rfl,rfl⟩) | (go_at_call 73;go_must(refine(LI _ _ 2 [d.format,d.block] _ (ints_at _ _ [d.format,d.block] 3 _ rfl av) rfl af).mono ?_;rw[HZ.out];rintro e w' ⟨rfl,rfl⟩)));all_goals go_ret
    all_goals exact⟨jz HN.out,Ce⟩):P:=h
theorem aaC(h:P:=by
 have i0:∀w,(Instr.index 147 (.agg #[.int .i64 128,.int .i64 256,.int .i64 512]) (.int .i64 0)).run Tryz.prog w=.ok (.int .i64 128) w:=fun _=>aj;have i1:∀w,(Instr.index 147 (.agg #[.int .i64 128,.int .i64 256,.int .i64 512]) (.int .i64 1)).run Tryz.prog w=.ok (.int .i64 256) w:=fun _=>aj;have i2:∀w,(Instr.index 147 (.agg #[.int .i64 128,.int .i64 256,.int .i64 512]) (.int .i64 2)).run Tryz.prog w=.ok (.int .i64 512) w:=fun _=>aj;refine vW ?_;go_enter Tryz.func48,Tryz.ntmps48;try simp only[az]
 go_wp2;go_loop[4,9] (fun kn i=>∃k:Nat,k<=3/\i=.int .i64 k/\kn=.bool (decide (0<k))) (fun _ i=>3-(intOf i).toNat)
 case atStart=>exact oZ
 case round=>
  exact Ro):P:=h
theorem aaD(h:P:=by
 have i0:∀w,(Instr.index 147 (.agg #[.int .i64 128,.int .i64 256,.int .i64 512]) (.int .i64 0)).run Tryz.prog w=.ok (.int .i64 128) w:=fun _=>aj;have i1:∀w,(Instr.index 147 (.agg #[.int .i64 128,.int .i64 256,.int .i64 512]) (.int .i64 1)).run Tryz.prog w=.ok (.int .i64 256) w:=fun _=>aj;have i2:∀w,(Instr.index 147 (.agg #[.int .i64 128,.int .i64 256,.int .i64 512]) (.int .i64 2)).run Tryz.prog w=.ok (.int .i64 512) w:=fun _=>aj;refine vW ?_;go_enter Tryz.func48,Tryz.ntmps48;try simp only[az]
 go_wp2;go_loop[4,9] (fun kn i=>∃k:Nat,k<=3/\i=.int .i64 k/\kn=.bool (decide (1<k))) (fun _ i=>3-(intOf i).toNat)
 case atStart=>exact oZ
 case round=>
  exact Ro):P:=h
theorem aaE(h:P:=by
 have i0:∀w,(Instr.index 147 (.agg #[.int .i64 128,.int .i64 256,.int .i64 512]) (.int .i64 0)).run Tryz.prog w=.ok (.int .i64 128) w:=fun _=>aj;have i1:∀w,(Instr.index 147 (.agg #[.int .i64 128,.int .i64 256,.int .i64 512]) (.int .i64 1)).run Tryz.prog w=.ok (.int .i64 256) w:=fun _=>aj;have i2:∀w,(Instr.index 147 (.agg #[.int .i64 128,.int .i64 256,.int .i64 512]) (.int .i64 2)).run Tryz.prog w=.ok (.int .i64 512) w:=fun _=>aj;refine vW ?_;go_enter Tryz.func48,Tryz.ntmps48;try simp only[az]
 go_wp2;go_loop[4,9] (fun kn i=>∃k:Nat,k<=3/\i=.int .i64 k/\kn=.bool (decide (2<k))) (fun _ i=>3-(intOf i).toNat)
 case atStart=>exact oZ
 case round=>
  exact Ro):P:=h
namespace Go.Proofs.YteninnkbmoimgaaGreatDoor
open Go.RowKit aD
def Ints (w:World) (p:Option Addr) (L:List Int):Prop:=Cells w p (L.map (Value.int .i64))
theorem Ints.ext {w w':World} {p:Option Addr} {L:List Int} (h:Ints w p L) (e:Ext w w'):Ints w' p L:=Cells.ext h e
theorem Ints.at {w:World} {p:Option Addr} {L:List Int} (h:Ints w p L) (k:Nat) (hk:k<L.length):
 ∃b d,p=some ⟨b,d,none⟩/\b<w.heap.size/\∀i,i<L.length->w.cell? ⟨b,d+i,none⟩=some (.int .i64 (L.getD i 0)):=by
 obtain⟨b,d,e,f,g⟩:=Cells.at h k vR;exact⟨b,d,e,f,fun i hi=>by rw[g i pq,KA L i hi]⟩
theorem alO (w:World) (L:List Int) (t:TypeId) (b:Array Value) (h:b=(L.map (Value.int .i64)).toArray):Ints (w.alloc (.cells b t)) (some ⟨w.heap.size,0,none⟩) L:=by
 subst h;refine .inr ⟨w.heap.size,0,rfl,av,fun i e=>?_⟩;have d:ah _ _ _:=ah.new w (.cells (L.map (Value.int .i64)).toArray t);simp only[kF] at e;unfold ah at d;unfold World.cell?;simp only[d];simp[e,List.getD]
theorem ints_at (w:World) (b:Nat) (L:List Int) (t:TypeId) (d:Array Value) (h:d=(L.map (Value.int .i64)).toArray) (e:b=w.heap.size):Ints (w.alloc (.cells d t)) (some ⟨b,0,none⟩) L:=by
 subst e;exact alO w L t d h
theorem LI (p:Option Addr) (j n:Nat) (L:List Int) (w:World) (C:Ints w p L) (B:L.length=n) (H:n<=1000000):
 Calls Tryz.prog 73 #[.slice p n j] w fun e w'=>e=.returned (.bool (L.all (·==0)))/\w=w':=by
 subst B;go_enter Tryz.func73,Tryz.ntmps73;go_wp2;go_loop[7] (fun i=>∃k:Nat,k<=L.length/\i=.int .i64 k/\(L.take k).all (·==0)=true) (fun i=>L.length-(intOf i).toNat)
 case atStart=>exact⟨0,bL _,rfl,av⟩
 case round=>
  obtain⟨k,G,rfl,r⟩:=hrel;have o:=ag r;clear r;by_cases d:k<L.length
  ·have g:(k:Int)<L.length:=af;obtain⟨b,D,rfl,F,q⟩:=C.at k d;have z:=q k d;have l:L.getD k 0=L[k]:=by simp[List.getD,d]
   have t:Hid (∀x,L.getD k 0=x->L.all (·==0)=true->x=0):=ag (fun x f h=>by
    rw[mL] at h;have:=h L[k] (mN d);rw[<-l,f] at this;simpa using this)
   have u:Hid (∀x,L.getD k 0=x->x=0->(L.take (k+1)).all (·==0)=true):=ag (fun x f h=>by
    rw[jr d,List.all_append,o.out,<-l,f,h];rfl)
   clear q l;generalize f:L.getD k 0=x at *;have E:=ag f;clear f;by_cases m:x=0
   ·subst m;go_wp2;go_round
    case rel=>exact⟨k+1,af,by go_num,u.out _ rfl rfl⟩
    case measure=>exact ct
   ·have y:(x !=0)=true:=by simpa using m
    go_wp2;go_ret;refine⟨jz ?_,rfl⟩;cases hz:L.all (·==0)
    ·rfl
    ·exact absurd (t.out _ rfl hz) m
  ·have g:decide ((k:Int)<L.length)=false:=aY;go_wp2;go_ret;have:=o.out;rw[mC af] at this;exact⟨jz this.symm,rfl⟩
theorem alP (d:DS) (w:World) (hs:d.interval=128) (f:¬(1<=d.org/\d.org<=3)) (b:(decide (1<=d.org)&&decide (d.org<=3))=false):Calls Tryz.prog 48 #[.agg (az d)] w fun e w'=>e=.returned (.bool (cr d))/\Ext w w':=by
 exact aaC
theorem alQ (d:DS) (w:World) (hs:d.interval=128) (j:1<=d.org) (b:d.org<=3) (g:¬(1<=d.length/\d.length<=121)) (f:(decide (1<=d.length)&&decide (d.length<=121))=false):Calls Tryz.prog 48 #[.agg (az d)] w fun e w'=>e=.returned (.bool (cr d))/\Ext w w':=by
 exact aaC
theorem alR (d:DS) (w:World) (hs:d.interval=128) (m:1<=d.org) (f:d.org<=3) (l:1<=d.length) (b:d.length<=121) (g:¬(d.format=0/\d.block=0)):Calls Tryz.prog 48 #[.agg (az d)] w fun e w'=>e=.returned (.bool (cr d))/\Ext w w':=by
 have HN:Hid (false=cr d):=ag (tM vM);have HZ:Hid ([d.format,d.block].all (·==0)=false):=ag aY;clear g;have i0:∀w,(Instr.index 147 (.agg #[.int .i64 128,.int .i64 256,.int .i64 512]) (.int .i64 0)).run Tryz.prog w=.ok (.int .i64 128) w:=fun _=>aj;have i1:∀w,(Instr.index 147 (.agg #[.int .i64 128,.int .i64 256,.int .i64 512]) (.int .i64 1)).run Tryz.prog w=.ok (.int .i64 256) w:=fun _=>aj;have i2:∀w,(Instr.index 147 (.agg #[.int .i64 128,.int .i64 256,.int .i64 512]) (.int .i64 2)).run Tryz.prog w=.ok (.int .i64 512) w:=fun _=>aj;refine vW ?_;go_enter Tryz.func48,Tryz.ntmps48;try simp only[az]
 go_wp2;go_loop[4,9] (fun j i=>∃k:Nat,k<=3/\i=.int .i64 k/\j=.bool (decide (0<k))) (fun _ i=>3-(intOf i).toNat)
 case atStart=>exact oZ
 case round=>
  exact Rs
theorem alS (d:DS) (w:World) (hs:d.interval=128) (r:1<=d.org) (m:d.org<=3) (h3:(d.org !=3)=true) (q:1<=d.length) (l:d.length<=121) (j:d.format=0) (g:d.block=0):Calls Tryz.prog 48 #[.agg (az d)] w fun e w'=>e=.returned (.bool (cr d))/\Ext w w':=by
 have h3':d.org≠3:=uO;have HZ:Hid ([d.format,d.block].all (·==0)=true):=ag (by simp[j,g]);have HV:Hid ([d.dm,d.bV,d.aN,d.nF,d.mS].all (·==0)=cr d):=ag (by
  cases hv:[d.dm,d.bV,d.aN,d.nF,d.mS].all (·==0)
  ·exact Pc
  ·simp at hv;exact LH vM)
 clear j g h3';have i0:∀w,(Instr.index 147 (.agg #[.int .i64 128,.int .i64 256,.int .i64 512]) (.int .i64 0)).run Tryz.prog w=.ok (.int .i64 128) w:=fun _=>aj;have i1:∀w,(Instr.index 147 (.agg #[.int .i64 128,.int .i64 256,.int .i64 512]) (.int .i64 1)).run Tryz.prog w=.ok (.int .i64 256) w:=fun _=>aj;have i2:∀w,(Instr.index 147 (.agg #[.int .i64 128,.int .i64 256,.int .i64 512]) (.int .i64 2)).run Tryz.prog w=.ok (.int .i64 512) w:=fun _=>aj;refine vW ?_;go_enter Tryz.func48,Tryz.ntmps48;try simp only[az]
 go_wp2;go_loop[4,9] (fun n i=>∃k:Nat,k<=3/\i=.int .i64 k/\n=.bool (decide (0<k))) (fun _ i=>3-(intOf i).toNat)
 case atStart=>exact oZ
 case round=>
  exact Rp
theorem alT (d:DS) (w:World) (l:d.interval=128) (g:d.org=3) (n:1<=d.length) (j:d.length<=121) (f:d.format=0) (b:d.block=0):Calls Tryz.prog 48 #[.agg (az d)] w fun e w'=>e=.returned (.bool (cr d))/\Ext w w':=by
 have HZ:Hid ([d.format,d.block].all (·==0)=true):=ag (by simp[f,b]);have HF:=ag f;have HB:=ag b;clear f b;have i0:∀w,(Instr.index 147 (.agg #[.int .i64 128,.int .i64 256,.int .i64 512]) (.int .i64 0)).run Tryz.prog w=.ok (.int .i64 128) w:=fun _=>aj;have i1:∀w,(Instr.index 147 (.agg #[.int .i64 128,.int .i64 256,.int .i64 512]) (.int .i64 1)).run Tryz.prog w=.ok (.int .i64 256) w:=fun _=>aj;have i2:∀w,(Instr.index 147 (.agg #[.int .i64 128,.int .i64 256,.int .i64 512]) (.int .i64 2)).run Tryz.prog w=.ok (.int .i64 512) w:=fun _=>aj;simp only[az,l,g];go_enter Tryz.func48,Tryz.ntmps48;try simp only[az]
 go_wp2;go_loop[4,9] (fun m i=>∃k:Nat,k<=3/\i=.int .i64 k/\m=.bool (decide (0<k))) (fun _ i=>3-(intOf i).toNat)
 case atStart=>exact oZ
 case round=>
  exact Rq
theorem alU (d:DS) (w:World) (g:d.interval=128):Calls Tryz.prog 48 #[.agg (az d)] w fun e w'=>e=.returned (.bool (cr d))/\Ext w w':=by
 by_cases f:1<=d.org/\d.org<=3
 ·by_cases b:1<=d.length/\d.length<=121
  ·by_cases i:d.format=0/\d.block=0
   ·by_cases h3:d.org=3
    ·exact alT d w g h3 b.1 b.2 i.1 i.2
    ·exact alS d w g f.1 f.2 uO b.1 b.2 i.1 i.2
   ·exact alR d w g f.1 f.2 b.1 b.2 i
  ·exact alQ d w g f.1 f.2 b aY
 ·exact alP d w g f aY
theorem alV (d:DS) (w:World) (hs:d.interval=256) (f:¬(1<=d.org/\d.org<=3)) (b:(decide (1<=d.org)&&decide (d.org<=3))=false):Calls Tryz.prog 48 #[.agg (az d)] w fun e w'=>e=.returned (.bool (cr d))/\Ext w w':=by
 exact aaD
theorem alW (d:DS) (w:World) (hs:d.interval=256) (j:1<=d.org) (b:d.org<=3) (g:¬(1<=d.length/\d.length<=200)) (f:(decide (1<=d.length)&&decide (d.length<=200))=false):Calls Tryz.prog 48 #[.agg (az d)] w fun e w'=>e=.returned (.bool (cr d))/\Ext w w':=by
 exact aaD
theorem alX (d:DS) (w:World) (hs:d.interval=256) (m:1<=d.org) (f:d.org<=3) (l:1<=d.length) (b:d.length<=200) (g:¬(d.format=0/\d.block=0)):Calls Tryz.prog 48 #[.agg (az d)] w fun e w'=>e=.returned (.bool (cr d))/\Ext w w':=by
 have HN:Hid (false=cr d):=ag (tM vM);have HZ:Hid ([d.format,d.block].all (·==0)=false):=ag aY;clear g;have i0:∀w,(Instr.index 147 (.agg #[.int .i64 128,.int .i64 256,.int .i64 512]) (.int .i64 0)).run Tryz.prog w=.ok (.int .i64 128) w:=fun _=>aj;have i1:∀w,(Instr.index 147 (.agg #[.int .i64 128,.int .i64 256,.int .i64 512]) (.int .i64 1)).run Tryz.prog w=.ok (.int .i64 256) w:=fun _=>aj;have i2:∀w,(Instr.index 147 (.agg #[.int .i64 128,.int .i64 256,.int .i64 512]) (.int .i64 2)).run Tryz.prog w=.ok (.int .i64 512) w:=fun _=>aj;refine vW ?_;go_enter Tryz.func48,Tryz.ntmps48;try simp only[az]
 go_wp2;go_loop[4,9] (fun j i=>∃k:Nat,k<=3/\i=.int .i64 k/\j=.bool (decide (1<k))) (fun _ i=>3-(intOf i).toNat)
 case atStart=>exact oZ
 case round=>
  exact Rs
theorem alY (d:DS) (w:World) (hs:d.interval=256) (r:1<=d.org) (m:d.org<=3) (h3:(d.org !=3)=true) (q:1<=d.length) (l:d.length<=200) (j:d.format=0) (g:d.block=0):Calls Tryz.prog 48 #[.agg (az d)] w fun e w'=>e=.returned (.bool (cr d))/\Ext w w':=by
 have h3':d.org≠3:=uO;have HZ:Hid ([d.format,d.block].all (·==0)=true):=ag (by simp[j,g]);have HV:Hid ([d.dm,d.bV,d.aN,d.nF,d.mS].all (·==0)=cr d):=ag (by
  cases hv:[d.dm,d.bV,d.aN,d.nF,d.mS].all (·==0)
  ·exact Pc
  ·simp at hv;exact LH vM)
 clear j g h3';have i0:∀w,(Instr.index 147 (.agg #[.int .i64 128,.int .i64 256,.int .i64 512]) (.int .i64 0)).run Tryz.prog w=.ok (.int .i64 128) w:=fun _=>aj;have i1:∀w,(Instr.index 147 (.agg #[.int .i64 128,.int .i64 256,.int .i64 512]) (.int .i64 1)).run Tryz.prog w=.ok (.int .i64 256) w:=fun _=>aj;have i2:∀w,(Instr.index 147 (.agg #[.int .i64 128,.int .i64 256,.int .i64 512]) (.int .i64 2)).run Tryz.prog w=.ok (.int .i64 512) w:=fun _=>aj;refine vW ?_;go_enter Tryz.func48,Tryz.ntmps48;try simp only[az]
 go_wp2;go_loop[4,9] (fun n i=>∃k:Nat,k<=3/\i=.int .i64 k/\n=.bool (decide (1<k))) (fun _ i=>3-(intOf i).toNat)
 case atStart=>exact oZ
 case round=>
  exact Rp
theorem alZ (d:DS) (w:World) (l:d.interval=256) (g:d.org=3) (n:1<=d.length) (j:d.length<=200) (f:d.format=0) (b:d.block=0):Calls Tryz.prog 48 #[.agg (az d)] w fun e w'=>e=.returned (.bool (cr d))/\Ext w w':=by
 have HZ:Hid ([d.format,d.block].all (·==0)=true):=ag (by simp[f,b]);have HF:=ag f;have HB:=ag b;clear f b;have i0:∀w,(Instr.index 147 (.agg #[.int .i64 128,.int .i64 256,.int .i64 512]) (.int .i64 0)).run Tryz.prog w=.ok (.int .i64 128) w:=fun _=>aj;have i1:∀w,(Instr.index 147 (.agg #[.int .i64 128,.int .i64 256,.int .i64 512]) (.int .i64 1)).run Tryz.prog w=.ok (.int .i64 256) w:=fun _=>aj;have i2:∀w,(Instr.index 147 (.agg #[.int .i64 128,.int .i64 256,.int .i64 512]) (.int .i64 2)).run Tryz.prog w=.ok (.int .i64 512) w:=fun _=>aj;simp only[az,l,g];go_enter Tryz.func48,Tryz.ntmps48;try simp only[az]
 go_wp2;go_loop[4,9] (fun m i=>∃k:Nat,k<=3/\i=.int .i64 k/\m=.bool (decide (1<k))) (fun _ i=>3-(intOf i).toNat)
 case atStart=>exact oZ
 case round=>
  exact Rq
theorem al0 (d:DS) (w:World) (g:d.interval=256):Calls Tryz.prog 48 #[.agg (az d)] w fun e w'=>e=.returned (.bool (cr d))/\Ext w w':=by
 by_cases f:1<=d.org/\d.org<=3
 ·by_cases b:1<=d.length/\d.length<=200
  ·by_cases i:d.format=0/\d.block=0
   ·by_cases h3:d.org=3
    ·exact alZ d w g h3 b.1 b.2 i.1 i.2
    ·exact alY d w g f.1 f.2 uO b.1 b.2 i.1 i.2
   ·exact alX d w g f.1 f.2 b.1 b.2 i
  ·exact alW d w g f.1 f.2 b aY
 ·exact alV d w g f aY
theorem al1 (d:DS) (w:World) (hs:d.interval=512) (f:¬(1<=d.org/\d.org<=3)) (b:(decide (1<=d.org)&&decide (d.org<=3))=false):Calls Tryz.prog 48 #[.agg (az d)] w fun e w'=>e=.returned (.bool (cr d))/\Ext w w':=by
 exact aaE
theorem al2 (d:DS) (w:World) (hs:d.interval=512) (j:1<=d.org) (b:d.org<=3) (g:¬(1<=d.length/\d.length<=200)) (f:(decide (1<=d.length)&&decide (d.length<=200))=false):Calls Tryz.prog 48 #[.agg (az d)] w fun e w'=>e=.returned (.bool (cr d))/\Ext w w':=by
 exact aaE
theorem al3 (d:DS) (w:World) (hs:d.interval=512) (m:1<=d.org) (f:d.org<=3) (l:1<=d.length) (b:d.length<=200) (g:¬(d.format=0/\d.block=0)):Calls Tryz.prog 48 #[.agg (az d)] w fun e w'=>e=.returned (.bool (cr d))/\Ext w w':=by
 have HN:Hid (false=cr d):=ag (tM vM);have HZ:Hid ([d.format,d.block].all (·==0)=false):=ag aY;clear g;have i0:∀w,(Instr.index 147 (.agg #[.int .i64 128,.int .i64 256,.int .i64 512]) (.int .i64 0)).run Tryz.prog w=.ok (.int .i64 128) w:=fun _=>aj;have i1:∀w,(Instr.index 147 (.agg #[.int .i64 128,.int .i64 256,.int .i64 512]) (.int .i64 1)).run Tryz.prog w=.ok (.int .i64 256) w:=fun _=>aj;have i2:∀w,(Instr.index 147 (.agg #[.int .i64 128,.int .i64 256,.int .i64 512]) (.int .i64 2)).run Tryz.prog w=.ok (.int .i64 512) w:=fun _=>aj;refine vW ?_;go_enter Tryz.func48,Tryz.ntmps48;try simp only[az]
 go_wp2;go_loop[4,9] (fun j i=>∃k:Nat,k<=3/\i=.int .i64 k/\j=.bool (decide (2<k))) (fun _ i=>3-(intOf i).toNat)
 case atStart=>exact oZ
 case round=>
  exact Rs
theorem al4 (d:DS) (w:World) (hs:d.interval=512) (r:1<=d.org) (m:d.org<=3) (h3:(d.org !=3)=true) (q:1<=d.length) (l:d.length<=200) (j:d.format=0) (g:d.block=0):Calls Tryz.prog 48 #[.agg (az d)] w fun e w'=>e=.returned (.bool (cr d))/\Ext w w':=by
 have h3':d.org≠3:=uO;have HZ:Hid ([d.format,d.block].all (·==0)=true):=ag (by simp[j,g]);have HV:Hid ([d.dm,d.bV,d.aN,d.nF,d.mS].all (·==0)=cr d):=ag (by
  cases hv:[d.dm,d.bV,d.aN,d.nF,d.mS].all (·==0)
  ·exact Pc
  ·simp at hv;exact LH vM)
 clear j g h3';have i0:∀w,(Instr.index 147 (.agg #[.int .i64 128,.int .i64 256,.int .i64 512]) (.int .i64 0)).run Tryz.prog w=.ok (.int .i64 128) w:=fun _=>aj;have i1:∀w,(Instr.index 147 (.agg #[.int .i64 128,.int .i64 256,.int .i64 512]) (.int .i64 1)).run Tryz.prog w=.ok (.int .i64 256) w:=fun _=>aj;have i2:∀w,(Instr.index 147 (.agg #[.int .i64 128,.int .i64 256,.int .i64 512]) (.int .i64 2)).run Tryz.prog w=.ok (.int .i64 512) w:=fun _=>aj;refine vW ?_;go_enter Tryz.func48,Tryz.ntmps48;try simp only[az]
 go_wp2;go_loop[4,9] (fun n i=>∃k:Nat,k<=3/\i=.int .i64 k/\n=.bool (decide (2<k))) (fun _ i=>3-(intOf i).toNat)
 case atStart=>exact oZ
 case round=>
  exact Rp
theorem al5 (d:DS) (w:World) (l:d.interval=512) (g:d.org=3) (n:1<=d.length) (j:d.length<=200) (f:d.format=0) (b:d.block=0):Calls Tryz.prog 48 #[.agg (az d)] w fun e w'=>e=.returned (.bool (cr d))/\Ext w w':=by
 have HZ:Hid ([d.format,d.block].all (·==0)=true):=ag (by simp[f,b]);have HF:=ag f;have HB:=ag b;clear f b;have i0:∀w,(Instr.index 147 (.agg #[.int .i64 128,.int .i64 256,.int .i64 512]) (.int .i64 0)).run Tryz.prog w=.ok (.int .i64 128) w:=fun _=>aj;have i1:∀w,(Instr.index 147 (.agg #[.int .i64 128,.int .i64 256,.int .i64 512]) (.int .i64 1)).run Tryz.prog w=.ok (.int .i64 256) w:=fun _=>aj;have i2:∀w,(Instr.index 147 (.agg #[.int .i64 128,.int .i64 256,.int .i64 512]) (.int .i64 2)).run Tryz.prog w=.ok (.int .i64 512) w:=fun _=>aj;simp only[az,l,g];go_enter Tryz.func48,Tryz.ntmps48;try simp only[az]
 go_wp2;go_loop[4,9] (fun m i=>∃k:Nat,k<=3/\i=.int .i64 k/\m=.bool (decide (2<k))) (fun _ i=>3-(intOf i).toNat)
 case atStart=>exact oZ
 case round=>
  exact Rq
theorem al6 (d:DS) (w:World) (g:d.interval=512):Calls Tryz.prog 48 #[.agg (az d)] w fun e w'=>e=.returned (.bool (cr d))/\Ext w w':=by
 by_cases f:1<=d.org/\d.org<=3
 ·by_cases b:1<=d.length/\d.length<=200
  ·by_cases i:d.format=0/\d.block=0
   ·by_cases h3:d.org=3
    ·exact al5 d w g h3 b.1 b.2 i.1 i.2
    ·exact al4 d w g f.1 f.2 uO b.1 b.2 i.1 i.2
   ·exact al3 d w g f.1 f.2 b.1 b.2 i
  ·exact al2 d w g f.1 f.2 b aY
 ·exact al1 d w g f aY
theorem al7 (d:DS) (w:World) (g:(d.interval==128)=false) (j:(d.interval==256)=false) (l:(d.interval==512)=false):Calls Tryz.prog 48 #[.agg (az d)] w fun e w'=>e=.returned (.bool (cr d))/\Ext w w':=by
 have f:Hid (false=cr d):=ag (tM (by simp at g j l;unfold sC;omega));have m:∀w,(Instr.index 147 (.agg #[.int .i64 128,.int .i64 256,.int .i64 512]) (.int .i64 0)).run Tryz.prog w=.ok (.int .i64 128) w:=fun _=>aj;have n:∀w,(Instr.index 147 (.agg #[.int .i64 128,.int .i64 256,.int .i64 512]) (.int .i64 1)).run Tryz.prog w=.ok (.int .i64 256) w:=fun _=>aj;have o:∀w,(Instr.index 147 (.agg #[.int .i64 128,.int .i64 256,.int .i64 512]) (.int .i64 2)).run Tryz.prog w=.ok (.int .i64 512) w:=fun _=>aj;go_enter Tryz.func48,Tryz.ntmps48;try simp only[az]
 go_wp2;go_loop[4,9] (fun q i=>∃k:Nat,k<=3/\i=.int .i64 k/\q=.bool (decide (3<k))) (fun _ i=>3-(intOf i).toNat)
 case atStart=>exact oZ
 case round=>
  obtain⟨k,r,rfl,rfl⟩:=hrel;by_cases b:k=0
  ·subst b;go_wp2;go_round
   case rel=>exact⟨1,af,rfl,rfl⟩
   case measure=>simp[intOf]
  ·by_cases k1:k=1
   ·subst k1;go_wp2;go_round
    case rel=>exact⟨2,af,rfl,rfl⟩
    case measure=>simp[intOf]
   ·by_cases k2:k=2
    ·subst k2;go_wp2;go_round
     case rel=>exact⟨3,af,rfl,rfl⟩
     case measure=>simp[intOf]
    ·obtain rfl:k=3:=af;clear m n o b k1 k2;go_wp2_with(first | (go_at_call 72;refine(F9 _ _ _ _).mono ?_;rintro e w' ⟨rfl,rfl⟩));all_goals go_ret
     all_goals exact⟨jz f.out,Ce⟩
theorem LJ (d:DS) (w:World):Calls Tryz.prog 48 #[.agg (az d)] w fun e w'=>e=.returned (.bool (cr d))/\Ext w w':=by
 by_cases b:d.interval=128
 ·exact alU d w b
 ·by_cases f:d.interval=256
  ·exact al0 d w f
  ·by_cases g:d.interval=512
   ·exact al6 d w g
   ·exact al7 d w (by simpa using b) (by simpa using f) (by simpa using g)
end Go.Proofs.YteninnkbmoimgaaGreatDoor

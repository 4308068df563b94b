/- The statement BrowseWalks: its walk joined to the given row and card. -/
import Derived.Test.YteninnkbmoimgaaGreatDoorQX
import Derived.Test.YteninnkbmoimgaaGreatDoorCards
import Derived.Test.YteninnkbmoimgaaGreatDoorTie
import Derived.ProofKit
import Derived.ShutString
import Derived.Below
import Derived.Lay
import Derived.Deep.DeepHandedRow
set_option linter.unusedSimpArgs false
set_option linter.unusedVariables false
set_option maxRecDepth 100000
set_option maxHeartbeats 16000000
namespace Go.Proofs.YteninnkbmoimgaaGreatDoor.browseWalks
open Go.ChangeShapes Go.WideShapes Go.ChangeAt Go.RowKit aD
open Go.ChangeMaps (open_string shut_string)
theorem own:ownKnob Tryz.prog.godebug=none:=aj
theorem laidOut:laidOutB Tryz.prog=true:=aj
theorem contract (H:Type) (enc:TypeId×Value->H) (W:World) (base:Nat) (args:Array Value) (G U:List (DataW H)) (d:List MemPlace)
 (b:∀(j:Nat) t v,Tryz.f4.params[j]? =some t->args[j]? =some v->Value.okWide Tryz.prog W .any base t v)
 (L:DataW.Whole enc Tryz.prog Tryz.f4.params.toList Rows.browseWalksSpec.vars false W args.toList G U d):
 Calls Tryz.prog 4 args W fun e F=>∃v,e=.returned v/\Rows.browseWalksSpec.post enc Tryz.prog Tryz.f4 false true false false W args v F:=by
 have o:=L;obtain⟨p,q,i,V,rfl,Y,Z⟩:=L;have K:DataW.TrodAll enc Tryz.prog W 0 (fun _=>true) true Tryz.f4.params.toList args.toList G p:=i;rw[Tryz.params4] at K b;obtain⟨N,vs0,d0,S,p0,q0,r,rfl,rfl,I,r0⟩:=trodAll_cons K;obtain⟨O,vs1,d1,T,p1,q1,rfl,rfl,rfl,J,r1⟩:=trodAll_cons r0;obtain⟨rfl,rfl,rfl⟩:=trodAll_nil r1;obtain rfl:args=#[N,O]:=by cases args;simp_all
 obtain⟨rfl,rfl⟩:=trodVars_none V;have M:=I;have D:∀x∈p0,x.block<W.heap.size:=by obtain⟨m,z⟩:=M;exact DataW.trod_lt m _ _ _ z
 obtain⟨x0,rfl⟩:=abB (b 0 23 N rfl rfl) I;obtain⟨R,l,g,rfl⟩:=okWide_slice Tryz.underlying24 (b 1 24 O rfl rfl);have k1:=J;have E:∀x∈p1,x.block<W.heap.size:=by obtain⟨m,z⟩:=k1;exact DataW.trod_lt m _ _ _ z
 obtain⟨Q,C,y,u,B⟩:=afP Tryz.underlying24 J;clear i b;have n:=axR R g l Q x0 W C y u B;refine n.mono fun e F ⟨X,f⟩=>?_;subst X;exact⟨_,rfl,_,_,_,[],_,[],o,trodAll_mk1 (shut_bool Tryz.underlying4 _),(trodAll_cons_mk (Below.trod laidOut aj (qG aj) M f D) (trodAll_cons_mk (Below.trod laidOut aj (qG aj) k1 f E) trodAll_mk0)),rfl,f.frame _,fun h=>ot⟩
noncomputable def Cd (b:Os):World:=World.laidAll Tryz.prog b Rows.browseWalksRow.laid
theorem V9 (b:Os):laidMet Tryz.prog Rows.browseWalksRow.laid ((Cd b).forCall (fun _ _=>0) ⟨#[],#[.agg #[.int .i64 0,.int .i64 0,.int .i64 0,.int .i64 0,.int .i64 0,.int .i64 0,.int .i64 0,.int .i64 0,.int .i64 0,.int .i64 0,.int .i64 0,.int .i64 0,.int .i64 0,.int .i64 0,.bool false,.int .i64 0,.string ⟨#[]⟩,.string ⟨#[]⟩,.int .i64 0,.int .i64 0,.bool false],.slice none 0 0],[]⟩).memory:=
 laidMet_laidAll _ aj aj
theorem reads (d:Os) {H:Type} (enc:TypeId×Value->H):∃b,DataW.whole enc Tryz.prog ((Cd d).forCall (fun _ _=>0) ⟨#[],#[.agg #[.int .i64 0,.int .i64 0,.int .i64 0,.int .i64 0,.int .i64 0,.int .i64 0,.int .i64 0,.int .i64 0,.int .i64 0,.int .i64 0,.int .i64 0,.int .i64 0,.int .i64 0,.int .i64 0,.bool false,.int .i64 0,.string ⟨#[]⟩,.string ⟨#[]⟩,.int .i64 0,.int .i64 0,.bool false],.slice none 0 0],[]⟩).memory Tryz.f4.params.toList Rows.browseWalksSpec.vars false (#[.agg #[.int .i64 0,.int .i64 0,.int .i64 0,.int .i64 0,.int .i64 0,.int .i64 0,.int .i64 0,.int .i64 0,.int .i64 0,.int .i64 0,.int .i64 0,.int .i64 0,.int .i64 0,.int .i64 0,.bool false,.int .i64 0,.string ⟨#[]⟩,.string ⟨#[]⟩,.int .i64 0,.int .i64 0,.bool false],.slice none 0 0]:Array Value).toList 8=some ([.agg [.lit (.int .i64 0),.lit (.int .i64 0),.lit (.int .i64 0),.lit (.int .i64 0),.lit (.int .i64 0),.lit (.int .i64 0),.lit (.int .i64 0),.lit (.int .i64 0),.lit (.int .i64 0),.lit (.int .i64 0),.lit (.int .i64 0),.lit (.int .i64 0),.lit (.int .i64 0),.lit (.int .i64 0),.lit (.bool false),.lit (.int .i64 0),.lit (.string []),.lit (.string []),.lit (.int .i64 0),.lit (.int .i64 0),.lit (.bool false)],.nil],[],b):=
 ⟨[],aj⟩
theorem lifted (f:Os) (b:f.Started) (H:Type) (enc:TypeId×Value->H) (F:Stop.Interp):
 ReturnsInHanded {} Tryz.checked f 4 .any ((OpenSpec.ofChange Rows.browseWalksSpec).preRow enc Tryz.prog Tryz.f4 Rows.browseWalksRow.domain false Rows.browseWalksRow.laid) (((OpenSpec.ofChange Rows.browseWalksSpec).at F).post enc Tryz.prog Tryz.f4 false true false false):=by
 obtain⟨g,o⟩:=reads f enc;refine returnsInHanded_of_row (C:=Tryz.checked) (s:=OpenSpec.ofChange Rows.browseWalksSpec) own b aj Tryz.func4
  (witness_row_at (enc:=enc) (C:=Tryz.checked) false (Cd f) #[.agg #[.int .i64 0,.int .i64 0,.int .i64 0,.int .i64 0,.int .i64 0,.int .i64 0,.int .i64 0,.int .i64 0,.int .i64 0,.int .i64 0,.int .i64 0,.int .i64 0,.int .i64 0,.int .i64 0,.bool false,.int .i64 0,.string ⟨#[]⟩,.string ⟨#[]⟩,.int .i64 0,.int .i64 0,.bool false],.slice none 0 0] (World.laidAll_os _ _ _) aj aj aj
    (OpenSpec.preRow_of_cond 8 o aj (fun k m=>by cases m) aj (V9 f))) ?_
 intro W base args i j d e l _ _ n q _ _;exact contract H enc W base args i j d e l
theorem said:Rows.BrowseWalksSaid:=
 OpenClaim.holds_of_cond 4 Tryz.f4 rfl rfl rfl rfl rfl rfl rfl ⟨rfl,rfl,rfl,rfl,rfl⟩ rfl rfl rfl rfl rfl aj Tryz.func4 aj
  (qG aj) YR
  (fun d b H enc _ F=>by rw[OpenClaim.pre_eq_preRow];exact lifted d b H enc F)
theorem plain (f:FuncId) (fn:Func) (g:Tryz.pinned.checked.prog.funcNamed Tryz.f4.name=some f) (d:Tryz.pinned.checked.prog.funcs[f]? =some fn):
 false=Tryz.pinned.checked.prog.looks []/\∀(j:Nat) t,fn.params[j]? =some t->Tryz.pinned.checked.prog.wantsStandIn t=false:=by
 obtain rfl:f=4:=jF ((show Tryz.prog.funcNamed Tryz.f4.name=some 4 by kernel_rfl).symm.trans g) |>.symm;obtain rfl:fn=Tryz.f4:=(jF (Tryz.func4.symm.trans d)).symm;refine⟨aj,fun j t e=>?_⟩;rw[Tryz.params4] at e;have i:t∈#[23,24]:=Array.mem_of_getElem? e;have b:(#[23,24].all fun t=>!Tryz.prog.wantsStandIn t)=true:=aj;have:=(Array.all_eq_true'.1 b) t i;exact(show Tryz.prog.wantsStandIn t=false by simpa using this)
theorem card:Rows.BrowseWalksCardSaid:=
 Claim7.holds_tied_plain_at .later [] _ _ _ _ said (fun _ h=>ot) aj (fun _ h=>ot) browseWalks_row_tie rfl ⟨rfl,rfl⟩ aj rfl plain aj
end Go.Proofs.YteninnkbmoimgaaGreatDoor.browseWalks

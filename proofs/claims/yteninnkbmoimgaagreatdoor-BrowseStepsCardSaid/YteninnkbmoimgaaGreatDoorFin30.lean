/- The statement BrowseSteps: its walk joined to the given row and card. -/
import Derived.Test.YteninnkbmoimgaaGreatDoorQNs
import Derived.Test.YteninnkbmoimgaaGreatDoorCards
import Derived.Test.YteninnkbmoimgaaGreatDoorTie
import Derived.ProofKit
import Derived.ShutString
import Derived.Below
import Derived.Lay
import Derived.Deep.DeepHandedRow
set_option linter.unusedSimpArgs false
set_option linter.unusedVariables false
set_option maxRecDepth 100000
set_option maxHeartbeats 16000000
namespace Go.Proofs.YteninnkbmoimgaaGreatDoor.browseSteps
open Go.ChangeShapes Go.WideShapes Go.ChangeAt Go.RowKit aD
open Go.ChangeMaps (open_string shut_string)
theorem own:ownKnob Tryz.prog.godebug=none:=aj
theorem laidOut:laidOutB Tryz.prog=true:=aj
theorem contract (H:Type) (enc:TypeId×Value->H) (W:World) (base:Nat) (args:Array Value) (I Z:List (DataW H)) (d:List MemPlace)
 (b:∀(j:Nat) t v,Tryz.f3.params[j]? =some t->args[j]? =some v->Value.okWide Tryz.prog W .any base t v)
 (N:DataW.Whole enc Tryz.prog Tryz.f3.params.toList Rows.browseStepsSpec.vars false W args.toList I Z d):
 Calls Tryz.prog 3 args W fun e G=>∃v,e=.returned v/\Rows.browseStepsSpec.post enc Tryz.prog Tryz.f3 false true false false W args v G:=by
 have r:=N;obtain⟨p,q,i,hV,rfl,hfz,hnd⟩:=N;have M:DataW.TrodAll enc Tryz.prog W 0 (fun _=>true) true Tryz.f3.params.toList args.toList I p:=i;rw[Tryz.params3] at M b;obtain⟨Q,vs0,d0,V,p0,q0,u,rfl,rfl,J,r0⟩:=trodAll_cons M;obtain⟨R,vs1,d1,X,p1,q1,rfl,rfl,rfl,K,r1⟩:=trodAll_cons r0;obtain⟨S,vs2,d2,Y,p2,q2,rfl,rfl,rfl,L,r2⟩:=trodAll_cons r1;obtain⟨rfl,rfl,rfl⟩:=trodAll_nil r2;obtain rfl:args=#[Q,R,S]:=by cases args;simp_all
 obtain⟨rfl,rfl⟩:=trodVars_none hV;have O:=J;have D:∀x∈p0,x.block<W.heap.size:=by obtain⟨m,l⟩:=O;exact DataW.trod_lt m _ _ _ l
 obtain⟨x0,rfl⟩:=abB (b 0 23 Q rfl rfl) J;obtain⟨U,n,g,rfl⟩:=okWide_slice Tryz.underlying24 (b 1 24 R rfl rfl);have k1:=K;have E:∀x∈p1,x.block<W.heap.size:=by obtain⟨m,l⟩:=k1;exact DataW.trod_lt m _ _ _ l
 obtain⟨T,C,z,y,B⟩:=afP Tryz.underlying24 K;have k2:=L;have F:∀x∈p2,x.block<W.heap.size:=by obtain⟨m,l⟩:=k2;exact DataW.trod_lt m _ _ _ l
 obtain⟨x2,rfl⟩:=awE (b 2 26 S rfl rfl) L;clear i b;have o:=axG U g n T x0 x2 W C z y B;refine o.mono fun e G ⟨he,f⟩=>?_;subst he;exact⟨_,rfl,_,_,_,[],_,[],r,trodAll_mk1 (shut_bool Tryz.underlying4 _),(trodAll_cons_mk (Below.trod laidOut aj (qG aj) O f D) (trodAll_cons_mk (Below.trod laidOut aj (qG aj) k1 f E) (trodAll_cons_mk (Below.trod laidOut aj (qG aj) k2 f F) trodAll_mk0))),rfl,f.frame _,fun h=>ot⟩
noncomputable def Cd (b:Os):World:=World.laidAll Tryz.prog b Rows.browseStepsRow.laid
theorem V9 (b:Os):laidMet Tryz.prog Rows.browseStepsRow.laid ((Cd b).forCall (fun _ _=>0) ⟨#[],#[.agg #[.int .i64 0,.int .i64 0,.int .i64 0,.int .i64 0,.int .i64 0,.int .i64 0,.int .i64 0,.int .i64 0,.int .i64 0,.int .i64 0,.int .i64 0,.int .i64 0,.int .i64 0,.int .i64 0,.bool false,.int .i64 0,.string ⟨#[]⟩,.string ⟨#[]⟩,.int .i64 0,.int .i64 0,.bool false],.slice none 0 0,.agg #[.string ⟨#[]⟩,.bool false,.bool false,.bool false]],[]⟩).memory:=
 laidMet_laidAll _ aj aj
theorem reads (d:Os) {H:Type} (enc:TypeId×Value->H):∃b,DataW.whole enc Tryz.prog ((Cd d).forCall (fun _ _=>0) ⟨#[],#[.agg #[.int .i64 0,.int .i64 0,.int .i64 0,.int .i64 0,.int .i64 0,.int .i64 0,.int .i64 0,.int .i64 0,.int .i64 0,.int .i64 0,.int .i64 0,.int .i64 0,.int .i64 0,.int .i64 0,.bool false,.int .i64 0,.string ⟨#[]⟩,.string ⟨#[]⟩,.int .i64 0,.int .i64 0,.bool false],.slice none 0 0,.agg #[.string ⟨#[]⟩,.bool false,.bool false,.bool false]],[]⟩).memory Tryz.f3.params.toList Rows.browseStepsSpec.vars false (#[.agg #[.int .i64 0,.int .i64 0,.int .i64 0,.int .i64 0,.int .i64 0,.int .i64 0,.int .i64 0,.int .i64 0,.int .i64 0,.int .i64 0,.int .i64 0,.int .i64 0,.int .i64 0,.int .i64 0,.bool false,.int .i64 0,.string ⟨#[]⟩,.string ⟨#[]⟩,.int .i64 0,.int .i64 0,.bool false],.slice none 0 0,.agg #[.string ⟨#[]⟩,.bool false,.bool false,.bool false]]:Array Value).toList 8=some ([.agg [.lit (.int .i64 0),.lit (.int .i64 0),.lit (.int .i64 0),.lit (.int .i64 0),.lit (.int .i64 0),.lit (.int .i64 0),.lit (.int .i64 0),.lit (.int .i64 0),.lit (.int .i64 0),.lit (.int .i64 0),.lit (.int .i64 0),.lit (.int .i64 0),.lit (.int .i64 0),.lit (.int .i64 0),.lit (.bool false),.lit (.int .i64 0),.lit (.string []),.lit (.string []),.lit (.int .i64 0),.lit (.int .i64 0),.lit (.bool false)],.nil,.agg [.lit (.string []),.lit (.bool false),.lit (.bool false),.lit (.bool false)]],[],b):=
 ⟨[],aj⟩
theorem lifted (f:Os) (b:f.Started) (H:Type) (enc:TypeId×Value->H) (F:Stop.Interp):
 ReturnsInHanded {} Tryz.checked f 3 .any ((OpenSpec.ofChange Rows.browseStepsSpec).preRow enc Tryz.prog Tryz.f3 Rows.browseStepsRow.domain false Rows.browseStepsRow.laid) (((OpenSpec.ofChange Rows.browseStepsSpec).at F).post enc Tryz.prog Tryz.f3 false true false false):=by
 obtain⟨g,o⟩:=reads f enc;refine returnsInHanded_of_row (C:=Tryz.checked) (s:=OpenSpec.ofChange Rows.browseStepsSpec) own b aj Tryz.func3
  (witness_row_at (enc:=enc) (C:=Tryz.checked) false (Cd f) #[.agg #[.int .i64 0,.int .i64 0,.int .i64 0,.int .i64 0,.int .i64 0,.int .i64 0,.int .i64 0,.int .i64 0,.int .i64 0,.int .i64 0,.int .i64 0,.int .i64 0,.int .i64 0,.int .i64 0,.bool false,.int .i64 0,.string ⟨#[]⟩,.string ⟨#[]⟩,.int .i64 0,.int .i64 0,.bool false],.slice none 0 0,.agg #[.string ⟨#[]⟩,.bool false,.bool false,.bool false]] (World.laidAll_os _ _ _) aj aj aj
    (OpenSpec.preRow_of_cond 8 o aj (fun k m=>by cases m) aj (V9 f))) ?_
 intro W base args i j d e l _ _ n q _ _;exact contract H enc W base args i j d e l
theorem said:Rows.BrowseStepsSaid:=
 OpenClaim.holds_of_cond 3 Tryz.f3 rfl rfl rfl rfl rfl rfl rfl ⟨rfl,rfl,rfl,rfl,rfl⟩ rfl rfl rfl rfl rfl aj Tryz.func3 aj
  (qG aj) YR
  (fun d b H enc _ F=>by rw[OpenClaim.pre_eq_preRow];exact lifted d b H enc F)
theorem plain (f:FuncId) (fn:Func) (g:Tryz.pinned.checked.prog.funcNamed Tryz.f3.name=some f) (d:Tryz.pinned.checked.prog.funcs[f]? =some fn):
 false=Tryz.pinned.checked.prog.looks []/\∀(j:Nat) t,fn.params[j]? =some t->Tryz.pinned.checked.prog.wantsStandIn t=false:=by
 obtain rfl:f=3:=jF ((show Tryz.prog.funcNamed Tryz.f3.name=some 3 by kernel_rfl).symm.trans g) |>.symm;obtain rfl:fn=Tryz.f3:=(jF (Tryz.func3.symm.trans d)).symm;refine⟨aj,fun j t e=>?_⟩;rw[Tryz.params3] at e;have i:t∈#[23,24,26]:=Array.mem_of_getElem? e;have b:(#[23,24,26].all fun t=>!Tryz.prog.wantsStandIn t)=true:=aj;have:=(Array.all_eq_true'.1 b) t i;exact(show Tryz.prog.wantsStandIn t=false by simpa using this)
theorem card:Rows.BrowseStepsCardSaid:=
 Claim7.holds_tied_plain_at .later [] _ _ _ _ said (fun _ h=>ot) aj (fun _ h=>ot) browseSteps_row_tie rfl ⟨rfl,rfl⟩ aj rfl plain aj
end Go.Proofs.YteninnkbmoimgaaGreatDoor.browseSteps

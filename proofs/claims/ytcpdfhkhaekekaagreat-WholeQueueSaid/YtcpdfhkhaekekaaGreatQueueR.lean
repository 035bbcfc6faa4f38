/- The law WholeQueue of the given program is proved. Conditions: none. -/
import Derived.Test.YtcpdfhkhaekekaaGreatRows
import Derived.Test.YtcpdfhkhaekekaaGreatQueue0
set_option linter.unusedVariables false
set_option linter.unusedSimpArgs false
namespace Go.Proofs.YtcpdfhkhaekekaaGreat.wholeQueue
open Go.ChangeShapes Go.WideShapes Go.ChangeAt Go.RowKit Go.bI G
theorem own:ownKnob Tryz.prog.godebug=none:=by kernel_rfl
theorem laidOut:laidOutB Tryz.prog=true:=by kernel_rfl
set_option maxRecDepth 100000 in
theorem Se(H:Type)(enc:TypeId×Value->H)(W:World)(base:Nat)(args:Array Value)(ds gs:List (DataW H))(before:List MemPlace)
  (KJ:∀(j:Nat)t v,Tryz.f9.params[j]?=some t->args[j]?=some v->Value.okWide Tryz.prog W .any base t v)
  (jX:DataW.Whole enc Tryz.prog Tryz.f9.params.toList Rows.wholeQueueSpec.vars false W args.toList ds gs before)
  (KG:(DataW.weightsEach Tryz.prog (Tryz.f9.params.toList++(Rows.wholeQueueSpec).plain.varTypes Tryz.prog) (ds++gs)).all (·<=reachBytes)=true):
  Calls Tryz.prog 9 args W λe bE=>∃v,e=.returned v/\Rows.wholeQueueSpec.post enc Tryz.prog Tryz.f9 false true false false W args v bE:=by
 have iO:∀(j:Nat)t v,Tryz.f9.params[j]?=some t->args[j]?=some v->Value.okWide Tryz.prog W .any base t v:=KJ;have Tr:=jX;obtain⟨p,q,J3,n0,rfl,an5,oT⟩:=jX;have eY:DataW.TrodAll enc Tryz.prog W 0 (λ_=>true) true Tryz.f9.params.toList args.toList ds p:=J3;obtain⟨rfl,rfl⟩:=trodVars_none n0;have fj:(DataW.weightsEach Tryz.prog Tryz.f9.params.toList ds).all (·<=reachBytes)=true:=by
  have:=KG
  rw[show(Rows.wholeQueueSpec).plain.varTypes Tryz.prog=[]from rfl,List.append_nil,List.append_nil]at this;exact this
 rw[Tryz.params9]at eY iO fj;have bQ:=WY _ _ _ _ eY;have xB:∀bE:World,Below W.heap.size W bE->DataW.TrodAll enc Tryz.prog bE 0 (λb=>decide (b<W.heap.size)) true Tryz.f9.params.toList args.toList ds p:=by intro bE Aa;rw[Tryz.params9];exact WX laidOut Aa _ _ _ _ (by kernel_rfl) eY bQ
 obtain⟨v0,awi,d0,alx,arO,asr,ana,rfl,rfl,aF,oo⟩:=trodAll_cons eY;obtain⟨v1,bT,d1,aly,arP,ass,rfl,rfl,rfl,h1,cS⟩:=trodAll_cons oo;obtain⟨v2,eV,d2,alz,kk,ast,rfl,rfl,rfl,η,fX⟩:=trodAll_cons cS;obtain⟨rfl,rfl,rfl⟩:=trodAll_nil fX;obtain rfl:args=#[v0,v1,v2]:=by cases args;simp_all
 obtain⟨a0,rfl,w0⟩:=Nf Tryz.underlying5 (iO 0 5 v0 rfl rfl) aF;obtain⟨aq,rfl,δ⟩:=Nf Tryz.underlying5 (iO 1 5 v1 rfl rfl) h1;obtain⟨aX,br,c2,Wk,rfl,s2⟩:=YJ (r:=.int .i64 (.int .i64 (.int .i64 (.int .i64 (.b8 1 (.int .u8 .done) (.done)))))) (b:=56) aeB Tryz.underlying48 (by kernel_rfl) (iO 2 48 v2 rfl rfl) η (ah6 fj (j:=2) rfl rfl);clear J3 KJ;refine Calls.mono (cV.aj0 a0 aq aX br c2 Wk W (GK w0) (GK δ) s2) λe bE⟨v,he,aL,hex⟩=>?_;subst he;subst aL;have Aa:=hex.below;exact⟨_,rfl,_,_,_,[],_,[],Tr,trodAll_mk1 (shut_bool Tryz.underlying4 _),xB _ Aa,rfl,Aa.frame _,λh=>by cases h⟩
set_option maxRecDepth 100000 in
theorem lifted(os:Os)(started:os.Started)(H:Type)(enc:TypeId×Value->H):
  ReturnsInHanded {} Tryz.checked os 9 .any (Rows.wholeQueueSpec.pre6 enc Tryz.prog Tryz.f9 Rows.wholeQueueRow.domain false) (Rows.wholeQueueSpec.post enc Tryz.prog Tryz.f9 false true false false):=by
 refine returnsInHanded_of_change_sized (C:=Tryz.checked) own started (by kernel_rfl) Tryz.func9
  (ChangeSpec.witness6 (enc:=enc) (C:=Tryz.checked) false ⟨#[],#[.int .u8 0,.int .u8 0,.slice none 0 0],[]⟩ 8 (by kernel_rfl) (by kernel_rfl) (by kernel_rfl) (by kernel_rfl)) ?_
 intro W base args ds gs before iO jX _ fj _;exact Se H enc W base args ds gs before iO jX fj
theorem VF:Rows.wholeQueueRow.holds Tryz.pinned (OpenSpec.ofChange Rows.wholeQueueSpec):=
 OpenClaim.holds_of_wide 9 Tryz.f9 rfl rfl rfl rfl rfl rfl rfl ⟨rfl,rfl,rfl,rfl,rfl⟩ rfl rfl rfl rfl rfl (by kernel_rfl) Tryz.func9 (by kernel_rfl)
  (of_decide_eq_true (by kernel_rfl)) (by unfold Func.isWrapper;first|(rw[if_pos (by decide+kernel)];kernel_rfl)|(rw[if_neg (by decide+kernel)];exact⟨rfl,rfl⟩))
  (λos started H enc _=>lifted os started H enc)
theorem proved:Rows.WholeQueueSaid:=VF
#print axioms proved
end Go.Proofs.YtcpdfhkhaekekaaGreat.wholeQueue

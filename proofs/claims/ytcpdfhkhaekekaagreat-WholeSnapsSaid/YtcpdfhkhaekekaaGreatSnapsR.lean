/- The law WholeSnaps of the given program is proved. Conditions: none. -/
import Derived.Test.YtcpdfhkhaekekaaGreatRows
import Derived.Test.YtcpdfhkhaekekaaGreatSnaps0
set_option linter.unusedVariables false
set_option linter.unusedSimpArgs false
namespace Go.Proofs.YtcpdfhkhaekekaaGreat.wholeSnaps
open Go.ChangeShapes Go.WideShapes Go.ChangeAt Go.RowKit Go.bO G
theorem own:ownKnob Tryz.prog.godebug=none:=by kernel_rfl
theorem laidOut:laidOutB Tryz.prog=true:=by kernel_rfl
set_option maxRecDepth 100000 in
theorem Rw(H:Type)(enc:TypeId×Value->H)(W:World)(base:Nat)(args:Array Value)(ds gs:List (DataW H))(before:List MemPlace)
  (Kh:∀(j:Nat)t v,Tryz.f4.params[j]?=some t->args[j]?=some v->Value.okWide Tryz.prog W .any base t v)
  (jQ:DataW.Whole enc Tryz.prog Tryz.f4.params.toList Rows.wholeSnapsSpec.vars false W args.toList ds gs before)
  (TR:(DataW.weightsEach Tryz.prog (Tryz.f4.params.toList++(Rows.wholeSnapsSpec).plain.varTypes Tryz.prog) (ds++gs)).all (·<=reachBytes)=true):
  Calls Tryz.prog 4 args W λe b6=>∃v,e=.returned v/\Rows.wholeSnapsSpec.post enc Tryz.prog Tryz.f4 false true false false W args v b6:=by
 have iw:∀(j:Nat)t v,Tryz.f4.params[j]?=some t->args[j]?=some v->Value.okWide Tryz.prog W .any base t v:=Kh;have SO:=jQ;obtain⟨p,q,JD,nM,rfl,anp,nk⟩:=jQ;have fb:DataW.TrodAll enc Tryz.prog W 0 (λ_=>true) true Tryz.f4.params.toList args.toList ds p:=JD;obtain⟨rfl,rfl⟩:=trodVars_none nM;have ft:(DataW.weightsEach Tryz.prog Tryz.f4.params.toList ds).all (·<=reachBytes)=true:=by
  have:=TR
  rw[show(Rows.wholeSnapsSpec).plain.varTypes Tryz.prog=[]from rfl,List.append_nil,List.append_nil]at this;exact this
 rw[Tryz.params4]at fb iw ft;have bM:=Wq _ _ _ _ fb;have wZ:∀b6:World,Below W.heap.size W b6->DataW.TrodAll enc Tryz.prog b6 0 (λb=>decide (b<W.heap.size)) true Tryz.f4.params.toList args.toList ds p:=by intro b6 zD;rw[Tryz.params4];exact Wp laidOut zD _ _ _ _ (by kernel_rfl) fb bM
 obtain⟨v0,avN,d0,akO,aq8,arK,amu,rfl,rfl,aD,n3⟩:=trodAll_cons fb;obtain⟨v1,bN,d1,akP,aq9,arL,rfl,rfl,rfl,h1,cG⟩:=trodAll_cons n3;obtain⟨v2,eI,d2,akQ,ke,arM,rfl,rfl,rfl,ι,fM⟩:=trodAll_cons cG;obtain⟨v3,hY,d3,akR,arb,arN,rfl,rfl,rfl,aG,iU⟩:=trodAll_cons fM;obtain⟨rfl,rfl,rfl⟩:=trodAll_nil iU;obtain rfl:args=#[v0,v1,v2,v3]:=by cases args;simp_all
 obtain⟨a0,rfl,w0⟩:=ME Tryz.underlying5 (iw 0 5 v0 rfl rfl) aD;obtain⟨ar,rfl,γ⟩:=ME Tryz.underlying5 (iw 1 5 v1 rfl rfl) h1;obtain⟨aX,bu,c2,VQ,rfl,s2⟩:=Rf (r:=.int .i64 (.int .i64 (.int .i64 (.int .i64 (.b3 1 (.int .u8 .done) (.done)))))) (b:=56) V1 Tryz.underlying48 (by kernel_rfl) (iw 2 48 v2 rfl rfl) ι (WJ ft (j:=2) rfl rfl);obtain⟨bh,dB,bI,asi,rfl,lU⟩:=Rf (r:=.int .i64 (.int .i64 (.int .i64 (.int .i64 (.b3 1 (.int .u8 .done) (.done)))))) (b:=56) V1 Tryz.underlying48 (by kernel_rfl) (iw 3 48 v3 rfl rfl) aG (WJ ft (j:=3) rfl rfl);clear JD Kh;refine Calls.mono (eb.ajc a0 ar aX bu c2 VQ bh dB bI asi W (Gl w0) (Gl γ) s2 lU) λe b6⟨v,he,aJ,hex⟩=>?_;subst he;subst aJ;have zD:=hex.below;exact⟨_,rfl,_,_,_,[],_,[],SO,trodAll_mk1 (shut_bool Tryz.underlying4 _),wZ _ zD,rfl,zD.frame _,λh=>by cases h⟩
set_option maxRecDepth 100000 in
theorem lifted(os:Os)(started:os.Started)(H:Type)(enc:TypeId×Value->H):
  ReturnsInHanded {} Tryz.checked os 4 .any (Rows.wholeSnapsSpec.pre6 enc Tryz.prog Tryz.f4 Rows.wholeSnapsRow.domain false) (Rows.wholeSnapsSpec.post enc Tryz.prog Tryz.f4 false true false false):=by
 refine returnsInHanded_of_change_sized (C:=Tryz.checked) own started (by kernel_rfl) Tryz.func4
  (ChangeSpec.witness6 (enc:=enc) (C:=Tryz.checked) false ⟨#[],#[.int .u8 0,.int .u8 0,.slice none 0 0,.slice none 0 0],[]⟩ 8 (by kernel_rfl) (by kernel_rfl) (by kernel_rfl) (by kernel_rfl)) ?_
 intro W base args ds gs before iw jQ _ ft _;exact Rw H enc W base args ds gs before iw jQ ft
theorem U6:Rows.wholeSnapsRow.holds Tryz.pinned (OpenSpec.ofChange Rows.wholeSnapsSpec):=
 OpenClaim.holds_of_wide 4 Tryz.f4 rfl rfl rfl rfl rfl rfl rfl ⟨rfl,rfl,rfl,rfl,rfl⟩ rfl rfl rfl rfl rfl (by kernel_rfl) Tryz.func4 (by kernel_rfl)
  (of_decide_eq_true (by kernel_rfl)) (by unfold Func.isWrapper;first|(rw[if_pos (by decide+kernel)];kernel_rfl)|(rw[if_neg (by decide+kernel)];exact⟨rfl,rfl⟩))
  (λos started H enc _=>lifted os started H enc)
theorem proved:Rows.WholeSnapsSaid:=U6
#print axioms proved
end Go.Proofs.YtcpdfhkhaekekaaGreat.wholeSnaps

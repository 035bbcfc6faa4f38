/- The law WholeSame of the given program is proved. Conditions: none. -/
import Derived.Test.YtcpdfhkhaekekaaGreatRows
import Derived.Test.YtcpdfhkhaekekaaGreatSame0
set_option linter.unusedVariables false
set_option linter.unusedSimpArgs false
namespace Go.Proofs.YtcpdfhkhaekekaaGreat.wholeSame
open Go.ChangeShapes Go.WideShapes Go.ChangeAt Go.RowKit Go.bJ G
theorem own:ownKnob Tryz.prog.godebug=none:=by kernel_rfl
theorem laidOut:laidOutB Tryz.prog=true:=by kernel_rfl
set_option maxRecDepth 100000 in
theorem x3(H:Type)(enc:TypeId×Value->H)(W:World)(base:Nat)(args:Array Value)(ds gs:List (DataW H))(before:List MemPlace)
  (ru:∀(j:Nat)t v,Tryz.f10.params[j]?=some t->args[j]?=some v->Value.okWide Tryz.prog W .any base t v)
  (fX:DataW.Whole enc Tryz.prog Tryz.f10.params.toList Rows.wholeSameSpec.vars false W args.toList ds gs before)
  (yu:(DataW.weightsEach Tryz.prog (Tryz.f10.params.toList++(Rows.wholeSameSpec).plain.varTypes Tryz.prog) (ds++gs)).all (·<=reachBytes)=true):
  Calls Tryz.prog 10 args W λe bq=>∃v,e=.returned v/\Rows.wholeSameSpec.post enc Tryz.prog Tryz.f10 false true false false W args v bq:=by
 have fj:∀(j:Nat)t v,Tryz.f10.params[j]?=some t->args[j]?=some v->Value.okWide Tryz.prog W .any base t v:=ru;have yg:=fX;obtain⟨p,q,o8,k7,rfl,LZ,l1⟩:=fX;have cc:DataW.TrodAll enc Tryz.prog W 0 (λ_=>true) true Tryz.f10.params.toList args.toList ds p:=o8;obtain⟨rfl,rfl⟩:=trodVars_none k7;have eV:(DataW.weightsEach Tryz.prog Tryz.f10.params.toList ds).all (·<=reachBytes)=true:=by
  have:=yu
  rw[show(Rows.wholeSameSpec).plain.varTypes Tryz.prog=[]from rfl,List.append_nil,List.append_nil]at this;exact this
 rw[Tryz.params10]at cc fj eV;have bQ:=Ic _ _ _ _ cc;have pX:∀bq:World,Below W.heap.size W bq->DataW.TrodAll enc Tryz.prog bq 0 (λb=>decide (b<W.heap.size)) true Tryz.f10.params.toList args.toList ds p:=by intro bq kN;rw[Tryz.params10];exact Ib laidOut kN _ _ _ _ (by kernel_rfl) cc bQ
 obtain⟨v0,Oi,d0,Le,M5,Nd,LL,rfl,rfl,aF,lj⟩:=trodAll_cons cc;obtain⟨v1,bN,d1,Lf,M6,Nf,rfl,rfl,rfl,h1,cM⟩:=trodAll_cons lj;obtain⟨v2,eY,d2,Lg,j3,Ng,rfl,rfl,rfl,ι,fC⟩:=trodAll_cons cM;obtain⟨v3,h5,d3,Ur,XL,XY,rfl,rfl,rfl,aJ,iY⟩:=trodAll_cons fC;obtain⟨rfl,rfl,rfl⟩:=trodAll_nil iY;obtain rfl:args=#[v0,v1,v2,v3]:=by cases args;simp_all
 obtain⟨a0,rfl,w0⟩:=sL Tryz.underlying5 (fj 0 5 v0 rfl rfl) aF;obtain⟨aw,rfl,ε⟩:=sL Tryz.underlying5 (fj 1 5 v1 rfl rfl) h1;obtain⟨aX,bu,c2,NC,rfl,s2⟩:=Pb (r:=.int .i64 (.int .i64 (.int .i64 (.int .i64 (.cg 1 (.int .u8 .done) (.done)))))) (b:=56) RX Tryz.underlying48 (by kernel_rfl) (fj 2 48 v2 rfl rfl) ι (SK eV (j:=2) rfl rfl);obtain⟨bj,dU,bP,ayy,rfl,χ,m3⟩:=TJ Tryz.underlying34 Tryz.underlying5 (by kernel_rfl) (fj 3 34 v3 rfl rfl) aJ;clear o8 ru;refine Calls.mono (cY.alG a0 aw aX bu c2 NC bj dU bP ayy W (qx w0) (qx ε) s2 χ (m3.sized eV (j:=3) rfl rfl Tryz.underlying34 1 (by kernel_rfl))) λe bq⟨v,he,az,hex⟩=>?_;subst he;subst az;have kN:=hex.below;exact⟨_,rfl,_,_,_,[],_,[],yg,trodAll_mk1 (shut_bool Tryz.underlying4 _),pX _ kN,rfl,kN.frame _,λh=>by cases h⟩
set_option maxRecDepth 100000 in
theorem lifted(os:Os)(started:os.Started)(H:Type)(enc:TypeId×Value->H):
  ReturnsInHanded {} Tryz.checked os 10 .any (Rows.wholeSameSpec.pre6 enc Tryz.prog Tryz.f10 Rows.wholeSameRow.domain false) (Rows.wholeSameSpec.post enc Tryz.prog Tryz.f10 false true false false):=by
 refine returnsInHanded_of_change_sized (C:=Tryz.checked) own started (by kernel_rfl) Tryz.func10
  (ChangeSpec.witness6 (enc:=enc) (C:=Tryz.checked) false ⟨#[],#[.int .u8 0,.int .u8 0,.slice none 0 0,.slice none 0 0],[]⟩ 8 (by kernel_rfl) (by kernel_rfl) (by kernel_rfl) (by kernel_rfl)) ?_
 intro W base args ds gs before fj fX _ eV _;exact x3 H enc W base args ds gs before fj fX eV
theorem yS:Rows.wholeSameRow.holds Tryz.pinned (OpenSpec.ofChange Rows.wholeSameSpec):=
 OpenClaim.holds_of_wide 10 Tryz.f10 rfl rfl rfl rfl rfl rfl rfl ⟨rfl,rfl,rfl,rfl,rfl⟩ rfl rfl rfl rfl rfl (by kernel_rfl) Tryz.func10 (by kernel_rfl)
  (of_decide_eq_true (by kernel_rfl)) (by unfold Func.isWrapper;first|(rw[if_pos (by decide+kernel)];kernel_rfl)|(rw[if_neg (by decide+kernel)];exact⟨rfl,rfl⟩))
  (λos started H enc _=>lifted os started H enc)
theorem proved:Rows.WholeSameSaid:=yS
#print axioms proved
end Go.Proofs.YtcpdfhkhaekekaaGreat.wholeSame

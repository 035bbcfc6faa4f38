/- The walk of the functions, and the plain laws of the model: part of the proof. Conditions: none. -/
import Derived.OrdersIn
import Derived.TacticsIn
import Derived.RangeFuncFrom
import Derived.RangeFuncLeaves
import Derived.RangeFuncCalls
import Derived.Test.YtcpdfhkhaekekaaGreatProg
import Derived.KernelRfl
import Derived.Test.YtcpdfhkhaekekaaGreatA1
set_option linter.unusedVariables false
set_option linter.unusedSimpArgs false
namespace Go.bO
def rk(r:Option Nat):Fence:={Fence.wide with round:=r}
theorem YJ{r:Option Nat}{m:Nat}{P:Program}{f:FuncId}{args:ag}{w:World}{R:aq}(h:Calls P f args w R):CallsIn (rk r) m P f args w R:=(callsIn_wide (n:=m)).2 h
theorem asj{r:Option Nat}{m:Nat}{P:Program}{row:String}{args:ag}{w:World}{R:Value->ao}(h:Rows P row args w R):RowsIn (rk r) m P row args w R:=λc cs _=>by obtain⟨v,w',υ,ω⟩:=h c cs;exact⟨v,w',υ,stepsIn_wide.2 ω⟩
def HF(ε:Oper):Bool:=match ε.op with| .defer _=>false|_=>true
structure Same(ds:List Deferred)(a0 a:Act):Prop where
 tmps:a0.tmps=a.tmps
 defs:a.defers=a0.defers++ds
theorem Same.put{ds:List Deferred}{a0 a:Act}(h:Same ds a0 a)(d:Option Nat)(v:Value):Same ds (a0.put d v) (a.put d v):=by
 cases d with
 |none=>exact h
 |some d=>exact⟨by simp only[Act.put];rw[h.tmps],h.defs⟩
theorem Same.eval{ds:List Deferred}{a0 a:Act}(h:Same ds a0 a):a0.eval=a.eval:=by
 funext x
 cases x with
 |tmp t=>show a0.tmps.getD t undef=a.tmps.getD t undef;rw[h.tmps]
 |_=>rfl
theorem acW{r:Option Nat}{m:Nat}{P:Program}{ds:List Deferred}{ε:Oper}{a0 a:Act}{w:World}{K rl:Act->ao}{Q Q':Exit->Act->ao}(ω:Same ds a0 a)(k4:HF ε=true)
  (h:ε.wp P a0 w K Q)(iS:∀qG b w,Same ds qG b->K qG w->rl b w)(cV:∀cQ w,Q (.panic cQ) a0 w->Q' (.panic cQ) a w)(lJ:¬LetsOut Q):ε.wpIn (rk r) m P a w rl Q':=by
 refine⟨λ_ _=>trivial,?_⟩;rw[Oper.semAt_eq _ _ _ (by intro c e;simp[HF,e]at k4)];unfold Oper.wp at h;rw[ω.eval]at h;generalize(execOp a.eval ε).run P w=res at h⊢;cases res with
 |ok x w'=>
  cases x with
  |value v=>exact iS _ _ _ (ω.put _ _) h
  |skip=>exact iS _ _ _ (ω.put _ _) h
  |defer d=>
   refine iS _ _ _ (Same.put ?_ _ _) h;exact⟨ω.tmps,by dsimp only;rw[ω.defs];rfl⟩
  |enter f args=>
   refine⟨λe=>(by cases e),YJ (Calls.mono h λe hN he=>?_)⟩;cases e with
   |returned v=>exact iS _ _ _ (ω.put _ _) he
   |panicked cQ=>exact cV _ _ he
   |outgrown=>exact absurd he lJ
  |row row args=>exact⟨λe=>(by cases e),asj (Rows.mono h λv hN aJ=>iS _ _ _ (ω.put _ _) aJ)⟩
  |_=>exact h.elim
 |halt x w'=>
  cases x with
  |panic v=>exact cV _ _ h
  |_=>exact h.elim
theorem OH{r:Option Nat}{m:Nat}{P:Program}{ds:List Deferred}{ops:Array Oper}{Q Q':Exit->Act->ao}(k4:∀ε∈ops.toList,HF ε=true)(dI:∀e a0 a w,Same ds a0 a->Q e a0 w->Q' e a w)(lJ:¬LetsOut Q):
  ∀(l:List Nat)(a0 a:Act)(w:World),Same ds a0 a->wpOps P ops Q l a0 w->wpOpsIn (rk r) m P ops Q' l a w
 |[],a0,a,w,ω,h=>dI _ _ _ _ ω h
 |i::rest,a0,a,w,ω,h=>by
  unfold wpOps at h;unfold wpOpsIn;cases aB:ops[i]?with
  |none=>
   rw[aB]at h;exact OH k4 dI lJ rest a0 a w ω h
  |some ε=>
   rw[aB]at h;dsimp only at h⊢;rw[ω.tmps]at h;split at h
   ·rename_i hw;rw[aS hw];rcases h with h|⟨_,h⟩
    ·exact acW ω (k4 ε (by rw[<-Array.getElem?_toList]at aB;exact eZ aB)) h (λqG b w ψ hk=>OH k4 dI lJ rest qG b w ψ hk) (λcQ w hp=>dI _ _ _ _ ω hp) lJ
    ·exact absurd h lJ
   ·rename_i hw;rw[aM hw];exact⟨λ_ _=>trivial,OH k4 dI lJ rest _ _ _ (ω.put _ _) h⟩
def oh(ds:List Deferred)(n:Nat)(a:Act)(ν:cX):Prop:=a.defers=ds/\a.tmps.size=n/\∀d v,ν.get d=some v->a.tmps[d]?=some v
theorem oh.base{ds:List Deferred}{n:Nat}{a:Act}{ν:cX}(h:oh ds n a ν):Rel n {a with defers:=[]} ν:=⟨rfl,h.2.1,h.2.2⟩
theorem oh.same{ds:List Deferred}{n:Nat}{a:Act}{ν:cX}(h:oh ds n a ν):Same ds {a with defers:=[]} a:=⟨rfl,by rw[h.1];rfl⟩
theorem oh.of{ds:List Deferred}{n:Nat}{a0 a:Act}{ν:cX}(h:Rel n a0 ν)(ω:Same ds a0 a):oh ds n a ν:=⟨by rw[ω.defs,h.1];rfl,by rw[<-ω.tmps];exact h.2.1,λd v aJ=>by rw[<-ω.tmps];exact h.2.2 d v aJ⟩
def zn(ds:List Deferred)(n:Nat)(Q:jz)(Q':Exit->Act->ao):Prop:=∀e a ν w,oh ds n a ν->Q e ν w->Q' e a w
theorem zn.iq{ds:List Deferred}{n:Nat}{Q:jz}{Q':Exit->Act->ao}(h:zn ds n Q Q'){N:cX->ao}{rn:Act->ao}(eG:∀a ν w,oh ds n a ν->N ν w->rn a w):zn ds n (bO.iq N Q) (Exit.then rn Q'):=by intro e a ν w υ aC;cases e<;>first|exact eG _ _ _ υ aC|exact h _ _ _ _ υ aC
theorem zn.sY{ds:List Deferred}{n:Nat}{Q:jz}{Q':Exit->Act->ao}(h:zn ds n Q Q')(id:Nat):zn ds n (bO.sY id Q) (Exit.inBlock id Q'):=by
 intro e a ν w υ aC;cases e with
 |exit yE=>
  simp only[bO.sY]at aC;simp only[Exit.inBlock];by_cases e:yE=id
  ·subst e;simp only[Ca,r9]at aC;rw[aS rfl];exact h _ _ _ _ υ aC
  ·have:Nat.beq yE id=false:=by
    cases ψ:Nat.beq yE id with
    |false=>rfl
    |true=>exact(e (xy ψ)).elim
   rw[this]at aC;rw[aM e];exact h _ _ _ _ υ aC
 |_=>exact h _ _ _ _ υ aC
def WV(P:Program)(l:Nat)(args:ag)(w:World)(N:Value->ao):Prop:=YieldAt Fence.wide 0 P l args w λe w'=>∃v,e=.returned v/\N v w'
def yieldOf(ε:Oper)(ν:cX):Option (Nat×List Operand):=
 match ε.op with
 | .call cl=>(match cl.callee with
  | .value (.tmp t)=>(match ν.get t with
   |some (.func (.yield l) jD gA)=>cond (Nat.beq jD.size 0&&Nat.beq gA.size 0) (some (l,cl.args.toList)) none
   |_=>none)
  |_=>none)
 |_=>none
def GP(c:cW)(n:Nat)(ops:List Oper)(Q:cX->ao)(X:cX->List PanicEntry->ao):List Oper->cX->ao
 |[],ν,w=>Q ν w
 |ε::r,ν,w=>Bv ops ε.guard ν
  (λν=>match yieldOf ε ν with
   |some (l,xs)=>oN ν xs λvs=>WV c.P l vs.toArray w λv w'=>ξ (eF c.tb ε.type) λi=>ye i.desc v λv=>tc n ε.dst v ν λν=>GP c n ops Q X r ν w'
   |none=>DA c ε ν w (λv w=>tc n ε.dst v ν λν=>GP c n ops Q X r ν w) (X ν))
  (λν=>tc n ε.dst undef ν λν=>GP c n ops Q X r ν w)
theorem Nf{c:cW}(π:hh c){n:Nat}{rd:Option Nat}{m:Nat}{ds:List Deferred}{ops:List Oper}(k4:∀ε∈ops,HF ε=true){Q:cX->ao}{X:cX->List PanicEntry->ao}{Q':Exit->Act->ao}
  (dI:∀a ν w,oh ds n a ν->Q ν w->Q' .normal a w)(e5:∀a ν cQ w,oh ds n a ν->X ν cQ w->Q' (.panic cQ) a w):
  ∀(l:List Oper),(∀ε∈l,ε∈ops)->∀(a:Act)(ν:cX)(w:World),oh ds n a ν->GP c n ops Q X l ν w->wpListIn (rk rd) m c.P ops.toArray Q' l a w
 |[],_,a,ν,w,υ,h=>dI a ν w υ h
 |ε::r,aj,a,ν,w,υ,h=>by
  unfold wpListIn;have pa:∀ε∈r,ε∈ops:=λx I=>aj x (hW _ I);have nQ:=k4 ε (aj ε (n2 ..));rcases DE υ.base h with⟨hw,fC,eC,h⟩|⟨hw,fC,eC,h⟩
  ·rw[aS hw];cases ah:yieldOf ε fC with
   |none=>
    rw[ah]at h;refine acW (Q:=λe b w'=>∃cQ,e=.panic cQ/\X fC cQ w') υ.same nQ (Js π eC (K:=λb w'=>∃h7,Rel n b h7/\GP c n ops Q X r h7 w') (λv w' hp=>vU eC hp) (λcQ w' I=>⟨cQ,rfl,I⟩) h) (λqG b w' ω⟨h7,iK,ι⟩=>?_) (λcQ w'⟨ajU,e,I⟩=>?_) (λ⟨b,w',cQ,e,_⟩=>by cases e)
    ·exact Nf π k4 dI e5 r pa _ _ _ (.of iK ω) ι
    ·cases e;exact e5 a fC cQ w' (.of eC υ.same) I
   |some p=>
    obtain⟨l,xs⟩:=p;rw[ah]at h;dsimp only at h;have h:=xr eC h;have yw:∃cl t,ε.op=.call cl/\cl.callee=.value (.tmp t)/\fC.get t=some (.func (.yield l) #[] #[])/\xs=cl.args.toList:=by
     unfold yieldOf at ah;split at ah
     ·rename_i cl fV;split at ah
      ·rename_i t aP;split at ah
       ·rename_i mO jD gA bJ;cases aL:Nat.beq jD.size 0&&Nat.beq gA.size 0 with
        |false=>rw[aL]at ah;cases ah
        |true=>
         rw[aL]at ah;simp only[r9,sa,Fe]at ah;have aL:=H2.1 aL;have aO:jD=#[]:=OZ (xy aL.1);have bE:gA=#[]:=OZ (xy aL.2);exact⟨cl,t,fV,aP,by rw[bJ,ah.1,aO,bE],ah.2.symm⟩
       ·cases ah
      ·cases ah
     ·cases ah
    obtain⟨cl,t,fV,ym,mL,rfl⟩:=yw;have iw:a.eval (.tmp t)=.func (.yield l) #[] #[]:=by
     have:=eC.2.2 t _ mL
     show a.tmps.getD t undef=_;rw[Fc];have e:({a with defers:=[]}:Act).tmps=a.tmps:=rfl;rw[e]at this;rw[this];rfl
    obtain⟨fn,tmps,assign,body,h6,yz⟩:=h;refine⟨λ_ _=>trivial,?_⟩;rw[Oper.semAt_eq _ _ _ (by intro d e;rw[fV]at e;cases e)];have RY:(cl.args.toList.map ({a with defers:=[]}:Act).eval).toArray=cl.args.map a.eval:=by apply qc;simp only[Ff];rfl
    rw[RY]at h6;have hex:(execOp a.eval ε).run c.P w=.ok (.round l fn tmps assign body) w:=by unfold execOp;simp only[fV];unfold resolve;simp only[ym,iw,Deferred.ofValue,pure_bind,invoke,Sem.run_bind,Sem.run_pure,Result.andThen_ok];simpa using h6
    rw[hex];refine⟨λe=>(by cases e),?_⟩;refine RoundIn.mono (F:=rk rd) (n:=m-1) ⟨yz.1,λc cs _=>yz.2 c cs (room_wide _)⟩ λe w' he=>?_;obtain⟨v,rfl,aJ⟩:=he;obtain⟨i,o,aJ⟩:=di aJ;obtain⟨h7,iK,ι⟩:=vU eC (Ds aJ);exact Nf π k4 dI e5 r pa _ _ _ (.of iK (υ.same.put _ _)) ι
  ·rw[aM (by simp[hw])];obtain⟨h7,iK,ι⟩:=vU eC h;exact⟨λ_ _=>trivial,Nf π k4 dI e5 r pa _ _ _ (.of iK (υ.same.put _ _)) ι⟩
def qL(c:cW)(n:Nat):Code->jM->jz->cX->ao
 | .skip,_,Q,ν,w=>Q .normal ν w
 | .ret,_,Q,ν,w=>Q .ret ν w
 | .exit id,_,Q,ν,w=>Q (.exit id) ν w
 | .region _ ops Dy,_,Q,ν,w=>ο (ops.toList.all HF) (cond Dy
  (ο (vN ops.toList) (sQ c n ops.toList (Q .normal) (λcQ w=>Q (.panic cQ) [] w) (ops.toList.length+1) [] [] ν w.drew))
  (GP c n ops.toList (Q .normal) (λν cQ w=>Q (.panic cQ) ν w) ops.toList ν w))
 | .seq x y,s,Q,ν,w=>qL c n x s.left (iq (Il s (qL c n y s.right Q)) Q) ν w
 | .cond p x y,s,Q,ν,w=>ez ν p λv=>dw v λb=>cond b (qL c n x s.left Q ν w) (qL c n y s.right Q ν w)
 | .block id x,s,Q,ν,w=>qL c n x s.left (sY id Q) ν w
 | .label _,_,Q,ν,w=>Q .normal ν w
 | .loop x,.loop b3 K _,Q,ν,w=>gp b3 K ν w
 |_,_,_,_,_=>False
def xn(c:cW)(n:Nat):Code->jM->jz->Prop
 | .seq x y,.cut b3 K uW qj,Q=>xn c n x uW (iq (gp b3 K) Q)/\lg b3 K (qL c n y qj Q) []/\xn c n y qj Q
 | .seq x y,s,Q=>xn c n x s.left (iq (Il s (qL c n y s.right Q)) Q)/\xn c n y s.right Q
 | .cond _ x y,s,Q=>xn c n x s.left Q/\xn c n y s.right Q
 | .block id x,s,Q=>xn c n x s.left (sY id Q)
 | .loop x,.loop b3 K body,Q=>
  lg b3 K (λν w=>∃(bD:gT Prop b3)(m:gT Nat b3),gp b3 bD ν w/\n9 b3 bD m (λk ν w=>qL c n x (body (lZ b3 bD m k)) (iq (gp b3 (lZ b3 bD m k)) Q) ν w) []) []/\
   ∀C:gT Prop b3,xn c n x (body C) (iq (gp b3 C) Q)
 |_,_,_=>True
def xo(c:cW)(n:Nat):Code->jM->jz->Prop->Prop
 | .seq x y,.cut b3 K uW qj,Q,r=>xo c n x uW (iq (gp b3 K) Q) (lg b3 K (qL c n y qj Q) []/\xo c n y qj Q r)
 | .seq x y,s,Q,r=>xo c n x s.left (iq (Il s (qL c n y s.right Q)) Q) (xo c n y s.right Q r)
 | .cond _ x y,s,Q,r=>xo c n x s.left Q (xo c n y s.right Q r)
 | .block id x,s,Q,r=>xo c n x s.left (sY id Q) r
 | .loop x,.loop b3 K body,Q,r=>
  lg b3 K (λν w=>∃(bD:gT Prop b3)(m:gT Nat b3),gp b3 bD ν w/\n9 b3 bD m (λk ν w=>qL c n x (body (lZ b3 bD m k)) (iq (gp b3 (lZ b3 bD m k)) Q) ν w) []) []/\
   (∀C:gT Prop b3,xo c n x (body C) (iq (gp b3 C) Q) True)/\r
 |_,_,_,r=>r
theorem aqt{c:cW}{n:Nat}:∀(x:Code)(s:jM)(Q:jz)(r:Prop),xo c n x s Q r->xn c n x s Q/\r:=by
 intro x
 induction x with
 |seq x y mo mq=>
  intro s Q r h;cases s with
  |cut b3 K uW qj=>
   obtain⟨h1,ι,aG⟩:=mo _ _ _ h;obtain⟨cq,db⟩:=mq _ _ _ aG;exact⟨⟨h1,ι,cq⟩,db⟩
  |_=>
   obtain⟨h1,ι⟩:=mo _ _ _ h;obtain⟨cq,db⟩:=mq _ _ _ ι;exact⟨⟨h1,cq⟩,db⟩
 |cond p x y mo mq=>
  intro s Q r h;obtain⟨h1,ι⟩:=mo _ _ _ h;obtain⟨cq,db⟩:=mq _ _ _ ι;exact⟨⟨h1,cq⟩,db⟩
 |block id x ch=>exactλs Q r h=>ch _ _ _ h
 |loop x ch=>
  intro s Q r h;cases s with
  |loop b3 K body=>
   obtain⟨h1,ι,aG⟩:=h;exact⟨⟨h1,λC=>(ch _ _ _ (ι C)).1⟩,aG⟩
  |_=>exact⟨trivial,h⟩
 |_=>exactλs Q r h=>⟨trivial,h⟩
theorem Sc{c:cW}(π:hh c){n:Nat}{rd:Option Nat}{m:Nat}{ds:List Deferred}:∀(x:Code)(s:jM)(Q:jz)(Q':Exit->Act->ao)(a:Act)(ν:cX)(w:World),
  xn c n x s Q->zn ds n Q Q'->oh ds n a ν->qL c n x s Q ν w->x.wpIn (rk rd) m c.P Q' a w:=by
 intro x
 induction x with
 |skip=>exactλs Q Q' a ν w _ dI υ h=>wpIn_skip (dI _ _ _ _ υ h)
 |ret=>exactλs Q Q' a ν w _ dI υ h=>wpIn_ret (dI _ _ _ _ υ h)
 |exit id=>exactλs Q Q' a ν w _ dI υ h=>wpIn_exit (dI _ _ _ _ υ h)
 |label l=>exactλs Q Q' a ν w _ dI υ h=>wpIn_label (dI _ _ _ _ υ h)
 |goto l=>exactλs Q Q' a ν w _ dI υ h=>h.elim
 |refuse m=>exactλs Q Q' a ν w _ dI υ h=>h.elim
 |scope x ch=>exactλs Q Q' a ν w _ dI υ h=>h.elim
 |rangeFunc f ps rv rB=>exactλs Q Q' a ν w _ dI υ h=>h.elim
 |region id ops Dy=>
  intro s Q Q' a ν w _ dI υ h;obtain⟨k4,h⟩:=hT h;have k4:∀ε∈ops.toList,HF ε=true:=λε aB=>Cb.1 k4 ε aB;cases Dy with
  |false=>
   refine wpIn_region_list ?_
   have:=Nf π (rd:=rd) (m:=m) (ds:=ds) k4 (Q:=Q .normal) (X:=λν cQ w=>Q (.panic cQ) ν w) (Q':=Q') (λa ν w υ h=>dI _ _ _ _ υ h) (λa ν cQ w υ h=>dI _ _ _ _ υ h) ops.toList (λε aB=>aB) a ν w υ h
   simpa using this
  |true=>
   obtain⟨dt,h⟩:=hT h;refine wpIn_region_draw λt=>?_;simp only[Region.schedule,π.mixed,Bool.true_or,oR];have ψ:=υ.base;have key:=Zq π dt (Q:=Q .normal) (X:=λcQ w=>Q (.panic cQ) [] w) (Q':=λe b w'=>(e=.normal/\∃ν,Rel n b ν/\Q .normal ν w')\/∃cQ,e=.panic cQ/\Rel n b []/\Q (.panic cQ) [] w')
    (λa ν w υ h=>.inl ⟨rfl,ν,υ,h⟩) (λa cQ w υ h=>.inr ⟨cQ,rfl,υ,h⟩) ops.size _ [] [] ν {a with defers:=[]} {a with defers:=[]} (Array.replicate ops.size false) _ ?_ ?_ h
   ·refine OH k4 (λe a0 a w ω aC=>?_) (λ⟨b,w',aC⟩=>?_) _ _ a _ υ.same (wpAny_sound ops.size t _ _ _ key)
    ·rcases aC with⟨rfl,ν,BJ,aC⟩|⟨cQ,rfl,BJ,aC⟩
     ·exact dI _ _ _ _ (.of BJ ω) aC
     ·exact dI _ _ _ _ (.of BJ ω) aC
    ·rcases aC with⟨e,_⟩|⟨cQ,e,_⟩<;>cases e
   ·refine⟨ψ,ψ.1,ψ.2.1,by simp,?_,trivial,?_,?_,?_,λd _=>rfl,λi o=>(by cases o)⟩
    ·intro i o;rw[Array.getElem?_replicate]at o;split at o<;>simp at o
    ·intro i o;rw[Array.getElem?_replicate]at o;split at o<;>simp at o
    ·intro i o;cases o
    ·intro i o;cases o
   ·simp
 |seq x y mo mq=>
  intro s Q Q' a ν w aB dI υ h;refine wpIn_seq ?_;cases s with
  |cut b3 K uW qj=>
   obtain⟨lN,kZ,vD⟩:=aB;refine mo uW (iq (gp b3 K) Q) _ a ν w lN (dI.iq λfy fC w' eC hk=>?_) υ h;obtain⟨h7,iK,ι⟩:=oa eC.base eC.base.nil kZ hk;exact mq qj Q Q' fy h7 w' vD dI (.of iK eC.same) ι
  |_=>
   obtain⟨lN,kZ⟩:=aB;exact mo _ _ _ a ν w lN (dI.iq λfy fC w' eC hk=>mq _ Q Q' fy fC w' kZ dI eC hk) υ h
 |cond p x y mo mq=>
  intro s Q Q' a ν w aB dI υ h;obtain⟨b,ψ,h⟩:=Bo (gC υ.base h);have ψ:a.eval p=.bool b:=by rw[<-ψ,υ.same.eval]
  refine wpIn_cond ψ ?_;cases b with
  |true=>exact mo s.left Q Q' a ν w aB.1 dI υ h
  |false=>exact mq s.right Q Q' a ν w aB.2 dI υ h
 |block id x ch=>
  intro s Q Q' a ν w aB dI υ h;exact wpIn_block (ch s.left _ _ a ν w aB (dI.sY id) υ h)
 |loop x ch=>
  intro s Q Q' a ν w aB dI υ h;cases s with
  |loop b3 K body=>
   obtain⟨lN,kZ⟩:=aB;obtain⟨ac0,uA,bD,acb,iJ,yz⟩:=oa υ.base υ.base.nil lN h;have J2:∀{a:Act}{ν:cX},oh ds n a ν->∀d v,ν.get d=some v->(x0 a).get d=some v:=λυ d v h=>by rw[Nn];exact υ.2.2 d v h
   have uA:oh ds n a ac0:=.of uA υ.same;refine wpIn_loop (λa w=>a.defers=ds/\a.tmps.size=n/\gp b3 bD (x0 a) w) (λa w=>l0 b3 acb (x0 a) w) ⟨uA.1,uA.2.1,(oZ (J2 uA) iJ).1⟩ ?_;rintro fy w' ⟨af,ax,SI⟩;have Hi:oh ds n fy (x0 fy):=⟨af,ax,λd v h=>by rw[<-Nn];exact h⟩;obtain⟨h7,iK,ι⟩:=ql Hi.base Hi.base.nil yz SI;refine ch _ _ _ fy h7 w' (kZ _) (dI.iq λa3 aqM aa D9 aG=>?_) (.of iK Hi.same) ι;obtain⟨cq,db⟩:=qm aG;obtain⟨hy,ih⟩:=oZ (J2 D9) cq;exact⟨⟨D9.1,D9.2.1,hy⟩,by rw[<-ih acb];exact db⟩
  |_=>exact h.elim
structure QS{α:Type}(P:Program)(gf:Nat)(lb:ag)(enc:α->Value)(fo:World->ao)(S Sp:List α->Prop)(N:Nat)(bD pE:List α->ao)(w:World):Prop where
 seq:SeqStopsK Fence.wide 0 P gf lb (λx=>#[enc x]) fo S Sp N w
 trans:∀{A B C:World},fo A B->fo B C->fo A C
 book:∀(W:World)(l:Nat)(ε hD:Obj),w.heap.size<=l->W.heap[l]?=some ε->ε.isCells=false->ε.isWalk=false->fo W (W.putObj l hD)
 own:OwnFrom w.heap.size bD
 aqS:OwnFrom w.heap.size pE
 start:bD [] w
def asa{α:Type}(fo:World->ao)(bD pE:List α->ao)(xs:List α)(W:World):jz
 | .normal,_,b6=>KeepsOthers W b6/\fo W b6/\bD xs b6
 | .ret,_,b6=>KeepsOthers W b6/\pE xs b6
 |_,_,_=>False
def Jk(D:Nat):Deferred:={target:=.collected D,args:=#[]}
def Qj(D:Nat)(Q:jz):jz:=λe ν w=>w.heap[D]?=some (.deferred (some []))/\Q e ν (w.putObj D (.deferred none))
def Ya:Code->Array Tmp->Option (Nat×Nat)
 | .region _ ops false,ps=>(match ops.toList,ps.toList with
  |[ε],[p]=>(match ε.op,ε.dst,ε.guard with
   | .assign (.tmp q),some d,none=>cond (Nat.beq q p) (some (p,d)) none
   |_,_,_=>none)
  |_,_=>none)
 |_,_=>none
def ajz:Code->Option TypeId
 | .region _ ops false=>(match ops.toList with|[ε]=>some ε.type|_=>none)
 |_=>none
def B5:Code->Bool
 | .seq x y=>B5 x&&B5 y
 | .cond _ x y=>B5 x&&B5 y
 | .block _ x=>B5 x
 | .loop _=>false
 |_=>true
theorem acL{c:cW}{n:Nat}:∀(x:Code)(Q:jz),B5 x=true->xn c n x .leaf Q:=by
 intro x
 induction x with
 |seq x y mo mq=>exactλQ h=>⟨mo _ (H2.1 h).1,mq _ (H2.1 h).2⟩
 |cond p x y mo mq=>exactλQ h=>⟨mo _ (H2.1 h).1,mq _ (H2.1 h).2⟩
 |block id x ch=>exactλQ h=>ch _ h
 |loop x ch=>exactλQ h=>trivial
 |_=>exactλQ h=>trivial
def Jm(v:Value)(K:Nat->ag->ag->Prop):Prop:=match v with| .func (.func gf) jD lb=>K gf jD lb|_=>False
theorem ako{v:Value}{K:Nat->ag->ag->Prop}(h:Jm v K):∃gf jD lb,v=.func (.func gf) jD lb/\K gf jD lb:=by
 unfold Jm at h;split at h
 ·exact⟨_,_,_,rfl,h⟩
 ·exact h.elim
def Lh(c:cW)(n:Nat)(g:Operand)(ps:Array Tmp)(rv rB y:Code)(Q:jz)(ν:cX)(w:World):Prop:=
 ξ (Ya rv ps) λpd=>ez ν g λv=>Jm v λgf jD lb=>ο (Nat.beq jD.size 0&&c.fns.contains gf&&Nat.blt pd.1 n&&Nat.blt pd.2 n&&B5 rB&&B5 y)
  (∃(α:Type)(enc:α->Value)(fo:World->ao)(S Sp:List α->Prop)(N:Nat)(bD pE:List α->ao),QS c.P gf lb enc fo S Sp N bD pE w/\
   (∀(pre:List α)(x:α)(W:World),bD pre W->pre.length<N->ξ (ajz rv) λty=>ξ (eF c.tb ty) λi=>ye i.desc (enc x) λv=>qL c n rB .leaf (asa fo bD pE (pre++[x]) W) ((pd.2,v)::(pd.1,v)::ν) W)/\
   (∀(D:Nat)(xs:List α)(W:World),w.heap.size<=D->S xs->bD xs W->W.heap[D]?=some (.deferred (some []))->qL c n y .leaf (Qj D Q) ν W)/\
   (∀(D:Nat)(pre:List α)(W:World),w.heap.size<=D->Sp pre->pE pre W->W.heap[D]?=some (.deferred (some []))->Qj D Q .ret ν W))
theorem asb{c:cW}(π:hh c){n id:Nat}{g:Operand}{ps:Array Tmp}{rv rB y:Code}{Q:jz}{Q':Exit->Act->ao}{a:Act}{ν:cX}{w:World}
  (o7:∀D,zn [Jk D] n (Qj D Q) Q')(υ:Rel n a ν)(h:Lh c n g ps rv rB y Q ν w):
  (Code.block id (.rangeFunc g ps rv rB)).wpIn (rk none) 2 c.P (Exit.then (y.wpIn (rk none) 2 c.P Q') Q') a w:=by
 obtain⟨⟨p,d⟩,rN,h⟩:=di h;have h1:=gC υ h;clear h;obtain⟨gf,jD,lb,bJ,ι⟩:=ako h1;clear h1;have cq:=hT ι;clear ι;obtain⟨ψ,aG⟩:=cq;simp only[kx]at ψ;obtain⟨⟨⟨⟨⟨δ,θ⟩,aF⟩,ae⟩,c8⟩,fq⟩:=ψ;have anl:jD=#[]:=OZ (xy δ);subst anl;have hp:p+1<=n:=by simpa[Nat.blt,Nat.ble_eq]using aF
 have af:d+1<=n:=by simpa[Nat.blt,Nat.ble_eq]using ae
 have hp:p<n:=hp;have af:d<n:=af;obtain⟨fn,Tg,J5,SX⟩:=π.fn gf (by simpa using θ);obtain⟨α,enc,fo,S,Sp,N,bD,pE,ok,JM,am6,aow⟩:=aG;have has:∃i ops ε,rv=.region i ops false/\ops.toList=[ε]/\ps=#[p]/\ε.op=.assign (.tmp p)/\ε.dst=some d/\ε.guard=none:=by
  unfold Ya at rN;split at rN
  ·rename_i i ops;split at rN
   ·rename_i ε q TF yx;split at rN
    ·rename_i fQ d2 h1 ι aG;cases aC:Nat.beq fQ q with
     |false=>rw[aC]at rN;cases rN
     |true=>
      rw[aC]at rN;simp only[r9,sa,Fe]at rN;have aC:=xy aC;obtain⟨rfl,rfl⟩:=rN;refine⟨_,ops,ε,rfl,TF,?_,by rw[h1,aC],ι,aG⟩;apply qc;exact yx
    ·cases rN
   ·cases rN
  ·cases rN
 obtain⟨i,ops,ε,rfl,TF,rfl,yw,rK,Ti⟩:=has;refine wpIn_block ?_
 let ar:α->Act:=λx=>{tmps:=(a.tmps.setIfInBounds p (enc x)).setIfInBounds d (enc x),defers:=[]}
 refine wpIn_rangeFunc_ownF (F:=rk none) (n:=2) (w0:=w) rfl (by omega) (gf:=gf) (lb:=lb) bJ trivial (λargs w=>adX Tg J5 SX) (encs:=λx=>#[enc x]) (Kp:=fo) (S:=S) (Sp:=Sp) (N:=N) ?_ (λh k=>ok.trans h k) ok.book (Go.RowKit.Below.refl _ _) (λx=>rfl)
  bD (λc xs W=>c=.ret/\pE xs W) ok.own ?_ ok.start ar ?_ ?_ ?_ ?_
 ·intro l CE QK W ψ JF SJ ah aD
  have:=ok.seq l CE QK W ψ JF SJ (λpre x wB φ aj=>by obtain⟨fn,tmps,assign,body,T4,N7⟩:=ah pre x wB φ aj;exact⟨fn,tmps,assign,body,T4,⟨N7.1,λc cs _=>N7.2 c cs (room_wide _)⟩⟩) aD
  exact YJ (callsIn_wide.1 this)
 ·intro c s A B row ω oy mj;exact⟨ω.1,ok.aqS _ A B row ω.2 oy mj⟩
 ·intro l x W K iS;refine wpIn_region_list ?_;rw[TF];unfold wpListIn;rw[aS (by simp[Region.wanted,Ti])];refine⟨λ_ _=>trivial,?_⟩;rw[Oper.semAt_eq _ _ _ (by intro c e;rw[yw]at e;cases e)];have hl:(#[p].zip #[enc x]).foldl (λt(x:Nat×Value)=>t.setIfInBounds x.1 x.2) a.tmps=a.tmps.setIfInBounds p (enc x):=by
   have:(#[p].zip #[enc x]).toList=[(p,enc x)]:=by simp
   rw[<-Array.foldl_toList,this];rfl
  have anj:(a.tmps.setIfInBounds p (enc x)).getD p undef=enc x:=by
   have:p<a.tmps.size:=by rw[υ.2.1];exact hp
   simp[this]
  have h6:(execOp ({tmps:=(#[p].zip #[enc x]).foldl (λt(x:Nat×Value)=>t.setIfInBounds x.1 x.2) a.tmps,defers:=[]}:Act).eval ε).run c.P W=.ok (.value (enc x)) W:=by
   rw[hl];unfold execOp;simp only[yw]
   have:({tmps:=a.tmps.setIfInBounds p (enc x),defers:=[]}:Act).eval (.tmp p)=enc x:=anj
   simp[this]
  refine(gP (Oper.uponIn (rk (some l)) _ c.P ε _ _ _) h6).mpr ?_;rw[Oper.uponIn_value,rK];exact(gP (λt=>K (Act.put {tmps:=t,defers:=[]} (some d) (enc x)) W) hl).mpr iS
 ·intro l pre x W o aj;obtain⟨_,_,eu⟩:=di (JM pre x W o aj);obtain⟨_,_,jd⟩:=di eu;refine Sc π (ds:=[]) (rd:=some l) rB .leaf _ _ (ar x) _ W (acL _ _ c8) ?_ ?_ (Ds jd)
  ·intro e b fC w' _ aC;cases e with
   |normal=>exact aC
   |ret=>exact⟨aC.1,rfl,aC.2⟩
   |_=>exact aC.elim
  ·refine⟨rfl,by simp[ar,υ.2.1],λj v φ=>?_⟩;rw[GV,GV]at φ;show((a.tmps.setIfInBounds p (enc x)).setIfInBounds d (enc x))[j]?=some v;have ft:=υ.2.1;by_cases aO:d=j
   ·subst aO;rw[aS rfl]at φ;rw[Array.getElem?_setIfInBounds_self_of_lt (by simp[ft,af])];exact φ
   ·rw[aM aO]at φ;rw[Array.getElem?_setIfInBounds_ne aO];by_cases bE:p=j
    ·subst bE;rw[aS rfl]at φ;rw[Array.getElem?_setIfInBounds_self_of_lt (by rw[ft];exact hp)];exact φ
    ·rw[aM bE]at φ;rw[Array.getElem?_setIfInBounds_ne bE];exact υ.2.2 j v φ
 ·intro D xs W b4 ep iJ jQ;have Eb:oh [Jk D] n {a with defers:={target:=.collected D,args:=#[]}::a.defers} ν:=⟨by show _::a.defers=_;rw[υ.1];rfl,υ.2.1,υ.2.2⟩;exact Sc π (ds:=[Jk D]) (rd:=none) y .leaf _ _ _ ν W (acL _ _ fq) (o7 D) Eb (am6 D xs W b4 ep iJ jQ)
 ·rintro D aT pre W b4 ep ⟨rfl,iJ⟩ jQ;have Eb:oh [Jk D] n {a with defers:={target:=.collected D,args:=#[]}::a.defers} ν:=⟨by show _::a.defers=_;rw[υ.1];rfl,υ.2.1,υ.2.2⟩;exact wpIn_ret (o7 D .ret _ ν W Eb (aow D pre W b4 ep iJ jQ))
inductive zs where
 |xD (s:jM)
 |seq (s:jM) (t:zs)
 |cut (b3:List (Nat×c5)) (K:gT Prop b3) (s:jM) (t:zs)
def Br(c:cW)(n:Nat):zs->Code->jz->cX->ao
 | .xD s,.seq (.seq z (.block _ (.rangeFunc g ps rv rB))) y,Q,ν,w=>ng c n z s (iq (Lh c n g ps rv rB y Q) Q) ν w
 | .xD _,_,_,_,_=>False
 | .seq s t,.seq x y,Q,ν,w=>ng c n x s (iq (Br c n t y Q) Q) ν w
 | .seq _ _,_,_,_,_=>False
 | .cut b3 K s t,.seq x y,Q,ν,w=>ng c n x s (iq (gp b3 K) Q) ν w
 | .cut _ _ _ _,_,_,_,_=>False
def EJ(c:cW)(n:Nat):zs->Code->jz->Prop->Prop
 | .xD s,.seq (.seq z (.block _ (.rangeFunc g ps rv rB))) y,Q,r=>oM c n z s (iq (Lh c n g ps rv rB y Q) Q) r
 | .xD _,_,_,r=>r
 | .seq s t,.seq x y,Q,r=>oM c n x s (iq (Br c n t y Q) Q) (EJ c n t y Q r)
 | .seq _ _,_,_,r=>r
 | .cut b3 K s t,.seq x y,Q,r=>oM c n x s (iq (gp b3 K) Q) (lg b3 K (Br c n t y Q) []/\EJ c n t y Q r)
 | .cut _ _ _ _,_,_,r=>r
theorem WK{P:Program}{m:Nat}{x:Code}{Q:Exit->Act->ao}{a:Act}{w:World}(h:x.wp P Q a w):x.wpIn (rk none) m P Q a w:=(wpIn_wide (n:=m)).2 h
theorem alj{c:cW}(π:hh c){n:Nat}:∀(t:zs)(x:Code)(Q:jz)(Q':Exit->Act->ao)(a:Act)(ν:cX)(w:World)(r:Prop),
  EJ c n t x Q r->Holds n Q Q'->(∀D,zn [Jk D] n (Qj D Q) Q')->Rel n a ν->Br c n t x Q ν w->x.wpIn (rk none) 2 c.P Q' a w:=by
 intro t
 induction t with
 |xD s=>
  intro x Q Q' a ν w r aB dI o7 υ h;cases x with
  |seq u y=>
   cases u with
   |seq z b=>
    cases b with
    |block id xD=>
     cases xD with
     |rangeFunc g ps rv rB=>
      have h:ng c n z s (iq (Lh c n g ps rv rB y Q) Q) ν w:=h;have aB:oM c n z s (iq (Lh c n g ps rv rB y Q) Q) r:=aB;refine wpIn_seq (wpIn_seq (WK ?_));refine Nc π z s _ _ a ν w (OC _ _ _ _ aB).1 (λe fy fC w' eC aC=>?_) υ h;cases e with
      |normal=>exact asb π o7 eC aC
      |_=>exact dI _ _ _ _ eC aC
     |_=>exact h.elim
    |_=>exact h.elim
   |_=>exact h.elim
  |_=>exact h.elim
 |seq s t ch=>
  intro x Q Q' a ν w r aB dI o7 υ h;cases x with
  |seq x y=>
   have aB:oM c n x s (iq (Br c n t y Q) Q) (EJ c n t y Q r):=aB;obtain⟨lN,kZ⟩:=OC _ _ _ _ aB;refine wpIn_seq (WK ?_);refine Nc π x s _ _ a ν w lN (λe fy fC w' eC aC=>?_) υ h;cases e with
   |normal=>exact ch y Q Q' fy fC w' r kZ dI o7 eC aC
   |_=>exact dI _ _ _ _ eC aC
  |_=>exact h.elim
 |cut b3 K s t ch=>
  intro x Q Q' a ν w r aB dI o7 υ h;cases x with
  |seq x y=>
   have aB:oM c n x s (iq (gp b3 K) Q) (lg b3 K (Br c n t y Q) []/\EJ c n t y Q r):=aB;obtain⟨lN,kZ,vD⟩:=OC _ _ _ _ aB;refine wpIn_seq (WK ?_);refine Nc π x s _ _ a ν w lN (λe fy fC w' eC aC=>?_) υ h;cases e with
   |normal=>
    obtain⟨h7,iK,ι⟩:=oa eC eC.nil kZ aC;exact ch y Q Q' fy h7 w' r vD dI o7 iK ι
   |_=>exact dI _ _ _ _ eC aC
  |_=>exact h.elim
theorem adN{n:Nat}{args:aU}(aQ:args.length<=n):Rel n {tmps:=args.toArray++Array.replicate (n-args.toArray.size) undef,defers:=[]} (qD 0 args):=by
 refine⟨rfl,by simp;omega,λd v af=>?_⟩;obtain⟨_,ι⟩:=Sv args 0 d v af;rw[Nat.sub_zero]at ι;rw[Array.getElem?_append]
 have:d<args.toArray.size:=by simp;exact(List.getElem?_eq_some_iff.1 ι).1
 rw[aS this];simpa using ι
theorem Ie{c:cW}(π:hh c){n:Nat}{ds:List Deferred}{a:Act}{ν:cX}(υ:oh ds n a ν){fn:Func}{rs:List ResultVar}(kj:fn.results.toList=rs){w:World}{K:aU->Prop}(h:Lg c rs ν w K):
  ∃vs,(results fn a.tmps).run c.P w=.ok (Pl vs) w/\K vs:=by
 obtain⟨vs,lQ,ij⟩:=Pk π υ.base h;rw[<-kj]at lQ;exact⟨vs,VK lQ,ij⟩
theorem ali{c:cW}(π:hh c){f:FuncId}{fn:Func}{code:Code}(bg:c.P.funcs[f]?=some fn)(ψ:fn.body=some code)(rs:List ResultVar)(kj:fn.results.toList=rs)(hB:Nat)(rM:fn.ntmps=hB)(t:zs){args:aU}(aQ:args.length<=hB)
  {w:World}{R:aq}{m ε:Prop}(hm:m=Br c hB t code (fin c rs R) (qD 0 args) w)(aB:ε=EJ c hB t code (fin c rs R) True)(jF:ε)(h:m):Calls c.P f args.toArray w R:=by
 subst rM;refine callsIn_wide.1 (callsIn_of_wp_marks (F:=rk none) (n:=2) bg ψ trivial ?_);refine alj π t code (fin c rs R) _ _ (qD 0 args) w True (aB▸jF) ?_ ?_ (adN aQ) (hm▸h)
 ·intro e a ν w υ aC;have yy:oh [] fn.ntmps a ν:=υ;cases e with
  |ret=>
   obtain⟨vs,lQ,ij⟩:=Ie π yy kj aC;show LeavesInM _ _ _ _ _ _ a.defers _ _;rw[υ.1];exact⟨_,lQ,ij⟩
  |normal=>
   obtain⟨vs,lQ,ij⟩:=Ie π yy kj aC;show LeavesInM _ _ _ _ _ _ a.defers _ _;rw[υ.1];exact⟨_,lQ,ij⟩
  |panic cQ=>
   show LeavesInM _ _ _ _ _ _ a.defers _ _;rw[υ.1];exact aC
  |exit id=>exact aC.elim
  |goto l=>exact aC.elim
  |outgrown=>exact aC.elim
 ·intro D e a ν w υ aC;obtain⟨b4,aC⟩:=aC;have w7:=run_takeDeferred (P:=c.P) b4;cases e with
  |ret=>
   obtain⟨vs,lQ,ij⟩:=Ie π υ kj aC;show LeavesInM _ _ _ _ _ _ a.defers _ _;rw[υ.1];exact⟨by simp,.inl ⟨D,_,rfl,w7,_,lQ,ij⟩⟩
  |normal=>
   obtain⟨vs,lQ,ij⟩:=Ie π υ kj aC;show LeavesInM _ _ _ _ _ _ a.defers _ _;rw[υ.1];exact⟨by simp,.inl ⟨D,_,rfl,w7,_,lQ,ij⟩⟩
  |panic cQ=>
   show LeavesInM _ _ _ _ _ _ a.defers _ _;rw[υ.1];exact⟨by simp,.inl ⟨D,_,rfl,w7,aC⟩⟩
  |exit id=>exact aC.elim
  |goto l=>exact aC.elim
  |outgrown=>exact aC.elim
theorem alk{c:cW}(π:hh c){f:FuncId}{fn:Func}{code:Code}(bg:c.P.funcs[f]?=some fn)(ψ:fn.body=some code)(rs:List ResultVar)(kj:fn.results.toList=rs)(hB:Nat)(rM:fn.ntmps=hB)(s:jM){args:aU}(aQ:args.length<=hB)
  {w:World}{R:aq}{m ε:Prop}(hm:m=qL c hB code s (fin c rs R) (qD 0 args) w)(aB:ε=xo c hB code s (fin c rs R) True)(jF:ε)(h:m):CallsIn Fence.wide 0 c.P f args.toArray w R:=by
 subst rM;refine(callsIn_wide (n:=0)).2 (callsIn_wide.1 (callsIn_of_wp_marks (F:=rk none) (n:=2) bg ψ trivial ?_));refine Sc π (ds:=[]) (rd:=none) code s (fin c rs R) _ _ (qD 0 args) w (aqt _ _ _ _ (aB▸jF)).1 ?_ (adN aQ) (hm▸h);intro e a ν w υ aC;cases e with
 |ret=>
  obtain⟨vs,lQ,ij⟩:=Ie π υ kj aC;show LeavesInM _ _ _ _ _ _ a.defers _ _;rw[υ.1];exact⟨_,lQ,ij⟩
 |normal=>
  obtain⟨vs,lQ,ij⟩:=Ie π υ kj aC;show LeavesInM _ _ _ _ _ _ a.defers _ _;rw[υ.1];exact⟨_,lQ,ij⟩
 |panic cQ=>
  show LeavesInM _ _ _ _ _ _ a.defers _ _;rw[υ.1];exact aC
 |exit id=>exact aC.elim
 |goto l=>exact aC.elim
 |outgrown=>exact aC.elim
open Go
def o0:(b3:List (Nat×c5))->gT Prop b3->Prop
 |[],K=>∀w,K w->K w
 |(_,.int _)::r,K=>∀x,o0 r (K x)
 |(_,.bool)::r,K=>∀x,o0 r (K x)
 |(_,.str)::r,K=>∀x,o0 r (K x)
 |(_,.slice)::r,K=>∀x y z,o0 r (K x y z)
 |(_,.ptr)::r,K=>∀x,o0 r (K x)
 |(_,.addr)::r,K=>∀x,o0 r (K x)
 |(_,.cY)::r,K=>∀x,o0 r (K x)
 |(_,.agg)::r,K=>∀x,o0 r (K x)
 |(_,.val)::r,K=>∀x,o0 r (K x)
 |(_,.vu)::r,K=>∀x,o0 r (K x)
 |(_,.pP)::r,K=>∀x y,o0 r (K x y)
 |(_,.map)::r,K=>∀x,o0 r (K x)
 |(_,.uo _)::r,K=>∀x,o0 r (K x)
 |(_,.um _)::r,K=>o0 r K
 |(_,.zl)::r,K=>∀x,o0 r (K x)
theorem pA:∀(b3:List (Nat×c5))(K:gT Prop b3),o0 b3 K
 |[],_=>λ_ h=>h
 |(_,.int _)::r,_=>λ_=>pA r _
 |(_,.bool)::r,_=>λ_=>pA r _
 |(_,.str)::r,_=>λ_=>pA r _
 |(_,.slice)::r,_=>λ_ _ _=>pA r _
 |(_,.ptr)::r,_=>λ_=>pA r _
 |(_,.addr)::r,_=>λ_=>pA r _
 |(_,.cY)::r,_=>λ_=>pA r _
 |(_,.agg)::r,_=>λ_=>pA r _
 |(_,.val)::r,_=>λ_=>pA r _
 |(_,.vu)::r,_=>λ_=>pA r _
 |(_,.pP)::r,_=>λ_ _=>pA r _
 |(_,.map)::r,_=>λ_=>pA r _
 |(_,.uo _)::r,_=>λ_=>pA r _
 |(_,.um _)::r,_=>pA r _
 |(_,.zl)::r,_=>λ_=>pA r _
def tl:jM->Prop->Prop
 | .leaf,r=>r
 | .seq a b,r=>tl a (tl b r)
 | .cond a b,r=>tl a (tl b r)
 | .block a,r=>tl a r
 | .cut b3 K a b,r=>tl a (o0 b3 K/\tl b r)
 | .loop b3 K body,r=>o0 b3 K/\(∀C:gT Prop b3,tl (body C) True)/\r
theorem uT:∀(s:jM)(r:Prop),r->tl s r
 | .leaf,_,h=>h
 | .seq a b,_,h=>uT a _ (uT b _ h)
 | .cond a b,_,h=>uT a _ (uT b _ h)
 | .block a,_,h=>uT a _ h
 | .cut b3 K a b,_,h=>uT a _ ⟨pA b3 K,uT b _ h⟩
 | .loop b3 K body,_,h=>⟨pA b3 K,λC=>uT (body C) _ trivial,h⟩
def PZ:zs->Prop->Prop
 | .xD s,r=>tl s r
 | .seq s t,r=>tl s (PZ t r)
 | .cut b3 K s t,r=>tl s (o0 b3 K/\PZ t r)
theorem Wr:∀(s:zs)(r:Prop),r->PZ s r
 | .xD s,_,h=>uT s _ h
 | .seq s t,_,h=>uT s _ (Wr t _ h)
 | .cut b3 K s t,_,h=>uT s _ ⟨pA b3 K,Wr t _ h⟩
end Go.bO
namespace Go.Proofs.YtcpdfhkhaekekaaGreat.G
open Tryz
open Go.bO
theorem al{t:TypeId}{i:cF}(h:prog.underlying t=some i.desc)(ι:(prog.info? t).map (λx=>(x.size,x.bytes))=some (i.size,i.bytes):=by kernel_rfl)(aG:((prog.info? t).bind (·.zero)).map (λz=>z.cells.toList)=some i.zero:=by kernel_rfl):cK prog t i:=⟨h,ι,aG⟩
theorem bQ{f:Nat}{r:List Nat}{fn:Func}(h:prog.funcs[f]?=some fn)(t:IW prog r)(h1:(fn.name== "runtime.NumGoroutine")=false:=by kernel_rfl)(ι:fn.body.isNone=false:=by kernel_rfl):IW prog (f::r):=⟨⟨fn,h,h1,ι⟩,t⟩
def aeQ:cF:=⟨.tuple #[],1,0,[(Value.tuple #[])]⟩
theorem atx:cK prog 0 aeQ:=al underlying0
def afU:cF:=⟨.int .i64,1,8,[(.int .i64 0)]⟩
theorem agx:cK prog 3 afU:=al underlying3
def af1:cF:=⟨.bool,1,1,[(.bool false)]⟩
theorem auJ:cK prog 4 af1:=al underlying4
def af7:cF:=⟨.int .u8,1,1,[(.int .u8 0)]⟩
theorem auP:cK prog 5 af7:=al underlying5
def agr:cF:=⟨.string,1,16,[(Value.string ⟨#[]⟩)]⟩
theorem au8:cK prog 9 agr:=al underlying9
def afq:cF:=⟨.interface #[],1,16,[Value.nilIface]⟩
theorem at8:cK prog 20 afq:=al underlying20
def afw:cF:=⟨.slice 41,1,24,[(.slice none 0 0)]⟩
theorem aue:cK prog 22 afw:=al underlying22
def afA:cF:=⟨.pointer 78,1,8,[(.pointer none)]⟩
theorem aui:cK prog 23 afA:=al underlying23
def afE:cF:=⟨.pointer 72,1,8,[(.pointer none)]⟩
theorem aum:cK prog 24 afE:=al underlying24
def afH:cF:=⟨.tuple #[23,24],1,0,[(Value.tuple #[(Value.pointer none),(Value.pointer none)])]⟩
theorem aup:cK prog 25 afH:=al underlying25
def afR:cF:=⟨.struct #[⟨ "Segments",3,0,false,"","",0⟩,⟨ "Blocks",3,1,false,"","",8⟩],2,16,[(.int .i64 0),(.int .i64 0)]⟩
theorem auA:cK prog 28 afR:=al underlying28
def afV:cF:=⟨.array 32 5,32,32,List.replicate 32 (Value.int .u8 0)⟩
theorem auD:cK prog 31 afV:=al underlying31
def afW:cF:=⟨.array 3 31,96,96,List.replicate 96 (Value.int .u8 0)⟩
theorem auE:cK prog 32 afW:=al underlying32
def afX:cF:=⟨.int .i64,1,8,[(.int .i64 0)]⟩
theorem auF:cK prog 33 afX:=al underlying33
def afY:cF:=⟨.slice 5,1,24,[(.slice none 0 0)]⟩
theorem auG:cK prog 34 afY:=al underlying34
def afZ:cF:=⟨.slice 3,1,24,[(.slice none 0 0)]⟩
theorem auH:cK prog 35 afZ:=al underlying35
def af0:cF:=⟨.struct #[⟨ "Ticket",3,0,false,"","",0⟩,⟨ "E",33,1,false,"","",8⟩,⟨ "ID",3,2,false,"","",16⟩,⟨ "Data",34,3,false,"","",24⟩,⟨ "Nums",35,4,false,"","",48⟩],5,72,List.replicate 3 (.int .i64 0)++[.slice none 0 0,.slice none 0 0]⟩
theorem auI:cK prog 37 af0:=al underlying37
def af2:cF:=⟨.struct #[⟨ "Kind",3,0,false,"","",0⟩,⟨ "Vol",3,1,false,"","",8⟩,⟨ "Block",3,2,false,"","",16⟩,⟨ "Size",3,3,false,"","",24⟩,⟨ "Data",34,4,false,"","",32⟩],5,56,List.replicate 4 (.int .i64 0)++[.slice none 0 0]⟩
theorem auK:cK prog 40 af2:=al underlying40
def af3:cF:=⟨.int .u16,1,2,[(.int .u16 0)]⟩
theorem auL:cK prog 41 af3:=al underlying41
def af4:cF:=⟨.int .u64,1,8,[(.int .u64 0)]⟩
theorem auM:cK prog 42 af4:=al underlying42
def af5:cF:=⟨.tuple #[37,4],1,0,[(Value.tuple #[(Value.agg #[(Value.int .i64 0),(Value.int .i64 0),(Value.int .i64 0),(Value.slice none 0 0),(Value.slice none 0 0)]),(Value.bool false)])]⟩
theorem auN:cK prog 44 af5:=al underlying44
def af6:cF:=⟨.slice 40,1,24,[(.slice none 0 0)]⟩
theorem auO:cK prog 48 af6:=al underlying48
def af8:cF:=⟨.tuple #[3,33],1,0,[(Value.tuple #[(Value.int .i64 0),(Value.int .i64 0)])]⟩
theorem auQ:cK prog 55 af8:=al underlying55
def af9:cF:=⟨.tuple #[34,33],1,0,[(Value.tuple #[(Value.slice none 0 0),(Value.int .i64 0)])]⟩
theorem auR:cK prog 59 af9:=al underlying59
def aga:cF:=⟨.tuple #[23,33],1,0,[(Value.tuple #[(Value.pointer none),(Value.int .i64 0)])]⟩
theorem auS:cK prog 61 aga:=al underlying61
def agb:cF:=⟨.tuple #[24,33],1,0,[(Value.tuple #[(Value.pointer none),(Value.int .i64 0)])]⟩
theorem auT:cK prog 64 agb:=al underlying64
def agc:cF:=⟨.pointer 123,1,8,[(.pointer none)]⟩
theorem auU:cK prog 67 agc:=al underlying67
def agd:cF:=⟨.pointer 144,1,8,[(.pointer none)]⟩
theorem auV:cK prog 68 agd:=al underlying68
def age:cF:=⟨.pointer 150,1,8,[(.pointer none)]⟩
theorem auW:cK prog 69 age:=al underlying69
def agf:cF:=⟨.slice 155,1,24,[(.slice none 0 0)]⟩
theorem auX:cK prog 70 agf:=al underlying70
def agh:cF:=⟨.struct #[⟨ "Gate",67,0,true,"","",0⟩,⟨ "d",23,1,false,"","stopcock/pool",8⟩,⟨ "plat",28,2,false,"","stopcock/pool",16⟩,⟨ "roll",68,4,false,"","stopcock/pool",32⟩,⟨ "strand",69,5,false,"","stopcock/pool",40⟩,⟨ "seq",3,6,false,"","stopcock/pool",48⟩,⟨ "used",3,7,false,"","stopcock/pool",56⟩,⟨ "deltas",70,8,false,"","stopcock/pool",64⟩,⟨ "turned",4,9,false,"","stopcock/pool",88⟩,⟨ "clock",3,10,false,"","stopcock/pool",96⟩,⟨ "stamps",35,11,false,"","stopcock/pool",104⟩,⟨ "down",4,12,false,"","stopcock/pool",128⟩],13,136,[.pointer none,.pointer none,.int .i64 0,.int .i64 0,.pointer none,.pointer none,.int .i64 0,.int .i64 0,.slice none 0 0,.bool false,.int .i64 0,.slice none 0 0,.bool false]⟩
theorem auY:cK prog 72 agh:=al underlying72
def agi:cF:=⟨.slice 82,1,24,[(.slice none 0 0)]⟩
theorem auZ:cK prog 75 agi:=al underlying75
def agj:cF:=⟨.slice 189,1,24,[(.slice none 0 0)]⟩
theorem au0:cK prog 76 agj:=al underlying76
def agk:cF:=⟨.struct #[⟨ "sure",75,0,false,"","stopcock/basin",0⟩,⟨ "now",75,1,false,"","stopcock/basin",24⟩,⟨ "loose",76,2,false,"","stopcock/basin",48⟩,⟨ "after",3,3,false,"","stopcock/basin",72⟩,⟨ "off",4,4,false,"","stopcock/basin",80⟩],5,88,List.replicate 3 (.slice none 0 0)++[.int .i64 0,.bool false]⟩
theorem au1:cK prog 78 agk:=al underlying78
def agl:cF:=⟨.array 64 5,64,64,List.replicate 64 (Value.int .u8 0)⟩
theorem au2:cK prog 82 agl:=al underlying82
def agm:cF:=⟨.struct #[⟨ "Kind",3,0,false,"","",0⟩,⟨ "Size",3,1,false,"","",8⟩],2,16,[(.int .i64 0),(.int .i64 0)]⟩
theorem au3:cK prog 84 agm:=al underlying84
def agn:cF:=⟨.array 8 84,16,128,List.replicate 16 (Value.int .i64 0)⟩
theorem au4:cK prog 85 agn:=al underlying85
def ago:cF:=⟨.slice 113,1,24,[(.slice none 0 0)]⟩
theorem au5:cK prog 86 ago:=al underlying86
def agp:cF:=⟨.array 8 86,8,192,List.replicate 8 (.slice none 0 0)⟩
theorem au6:cK prog 87 agp:=al underlying87
def agq:cF:=⟨.struct #[⟨ "Entries",85,0,false,"","",0⟩,⟨ "Places",87,16,false,"","",128⟩],24,320,List.replicate 16 (.int .i64 0)++List.replicate 8 (.slice none 0 0)⟩
theorem au7:cK prog 89 agq:=al underlying89
def ags:cF:=⟨.tuple #[89,28,3,3,33],1,0,[(Value.tuple #[(Value.agg #[(Value.int .i64 0),(Value.int .i64 0),(Value.int .i64 0),(Value.int .i64 0),(Value.int .i64 0),(Value.int .i64 0),(Value.int .i64 0),(Value.int .i64 0),(Value.int .i64 0),(Value.int .i64 0),(Value.int .i64 0),(Value.int .i64 0),(Value.int .i64 0),(Value.int .i64 0),(Value.int .i64 0),(Value.int .i64 0),(Value.slice none 0 0),(Value.slice none 0 0),(Value.slice none 0 0),(Value.slice none 0 0),(Value.slice none 0 0),(Value.slice none 0 0),(Value.slice none 0 0),(Value.slice none 0 0)]),(Value.agg #[(Value.int .i64 0),(Value.int .i64 0)]),(Value.int .i64 0),(Value.int .i64 0),(Value.int .i64 0)])]⟩
theorem au9:cK prog 90 ags:=al underlying90
def agt:cF:=⟨.tuple #[35,33],1,0,[(Value.tuple #[(Value.slice none 0 0),(Value.int .i64 0)])]⟩
theorem ava:cK prog 92 agt:=al underlying92
def agu:cF:=⟨.tuple #[68,33],1,0,[(Value.tuple #[(Value.pointer none),(Value.int .i64 0)])]⟩
theorem avb:cK prog 95 agu:=al underlying95
def agv:cF:=⟨.tuple #[69,33],1,0,[(Value.tuple #[(Value.pointer none),(Value.int .i64 0)])]⟩
theorem avc:cK prog 97 agv:=al underlying97
def agw:cF:=⟨.tuple #[3,40,33],1,0,[(Value.tuple #[(Value.int .i64 0),(Value.agg #[(Value.int .i64 0),(Value.int .i64 0),(Value.int .i64 0),(Value.int .i64 0),(Value.slice none 0 0)]),(Value.int .i64 0)])]⟩
theorem avd:cK prog 99 agw:=al underlying99
def aeR:cF:=⟨.pointer 37,1,8,[(.pointer none)]⟩
theorem aty:cK prog 102 aeR:=al underlying102
def aeS:cF:=⟨.struct #[⟨ "Errno",33,0,true,"","",0⟩],1,8,[(.int .i64 0)]⟩
theorem atz:cK prog 104 aeS:=al underlying104
def aeT:cF:=⟨.tuple #[35,3],1,0,[(Value.tuple #[(Value.slice none 0 0),(Value.int .i64 0)])]⟩
theorem atA:cK prog 107 aeT:=al underlying107
def aeU:cF:=⟨.tuple #[86,33],1,0,[(Value.tuple #[(Value.slice none 0 0),(Value.int .i64 0)])]⟩
theorem atB:cK prog 111 aeU:=al underlying111
def aeV:cF:=⟨.complex .f64,1,16,[(.complex .f64 0 0)]⟩
theorem atC:cK prog 113 aeV:=al underlying113
def aeW:cF:=⟨.tuple #[89,33],1,0,[(Value.tuple #[(Value.agg #[(Value.int .i64 0),(Value.int .i64 0),(Value.int .i64 0),(Value.int .i64 0),(Value.int .i64 0),(Value.int .i64 0),(Value.int .i64 0),(Value.int .i64 0),(Value.int .i64 0),(Value.int .i64 0),(Value.int .i64 0),(Value.int .i64 0),(Value.int .i64 0),(Value.int .i64 0),(Value.int .i64 0),(Value.int .i64 0),(Value.slice none 0 0),(Value.slice none 0 0),(Value.slice none 0 0),(Value.slice none 0 0),(Value.slice none 0 0),(Value.slice none 0 0),(Value.slice none 0 0),(Value.slice none 0 0)]),(Value.int .i64 0)])]⟩
theorem atD:cK prog 116 aeW:=al underlying116
def aeX:cF:=⟨.slice 20,1,24,[(.slice none 0 0)]⟩
theorem atE:cK prog 121 aeX:=al underlying121
def aeY:cF:=⟨.struct #[⟨ "waits",121,0,false,"","stopcock/gate",0⟩,⟨ "ticket",3,1,false,"","stopcock/gate",24⟩],2,32,[.slice none 0 0,.int .i64 0]⟩
theorem atF:cK prog 123 aeY:=al underlying123
def aeZ:cF:=⟨.struct #[⟨ "Request",40,0,true,"","",0⟩,⟨ "ticket",3,5,false,"","stopcock/gate",56⟩],6,64,List.replicate 4 (.int .i64 0)++[.slice none 0 0,.int .i64 0]⟩
theorem atG:cK prog 126 aeZ:=al underlying126
def ae0:cF:=⟨.struct #[⟨ "At",3,0,false,"","",0⟩,⟨ "Data",34,1,false,"","",8⟩],2,32,[.int .i64 0,.slice none 0 0]⟩
theorem atH:cK prog 130 ae0:=al underlying130
def ae1:cF:=⟨.tuple #[89,28,3,33],1,0,[(Value.tuple #[(Value.agg #[(Value.int .i64 0),(Value.int .i64 0),(Value.int .i64 0),(Value.int .i64 0),(Value.int .i64 0),(Value.int .i64 0),(Value.int .i64 0),(Value.int .i64 0),(Value.int .i64 0),(Value.int .i64 0),(Value.int .i64 0),(Value.int .i64 0),(Value.int .i64 0),(Value.int .i64 0),(Value.int .i64 0),(Value.int .i64 0),(Value.slice none 0 0),(Value.slice none 0 0),(Value.slice none 0 0),(Value.slice none 0 0),(Value.slice none 0 0),(Value.slice none 0 0),(Value.slice none 0 0),(Value.slice none 0 0)]),(Value.agg #[(Value.int .i64 0),(Value.int .i64 0)]),(Value.int .i64 0),(Value.int .i64 0)])]⟩
theorem atI:cK prog 131 ae1:=al underlying131
def ae2:cF:=⟨.tuple #[70,3,33],1,0,[(Value.tuple #[(Value.slice none 0 0),(Value.int .i64 0),(Value.int .i64 0)])]⟩
theorem atJ:cK prog 133 ae2:=al underlying133
def ae3:cF:=⟨.tuple #[89,3,33],1,0,[(Value.tuple #[(Value.agg #[(Value.int .i64 0),(Value.int .i64 0),(Value.int .i64 0),(Value.int .i64 0),(Value.int .i64 0),(Value.int .i64 0),(Value.int .i64 0),(Value.int .i64 0),(Value.int .i64 0),(Value.int .i64 0),(Value.int .i64 0),(Value.int .i64 0),(Value.int .i64 0),(Value.int .i64 0),(Value.int .i64 0),(Value.int .i64 0),(Value.slice none 0 0),(Value.slice none 0 0),(Value.slice none 0 0),(Value.slice none 0 0),(Value.slice none 0 0),(Value.slice none 0 0),(Value.slice none 0 0),(Value.slice none 0 0)]),(Value.int .i64 0),(Value.int .i64 0)])]⟩
theorem atK:cK prog 135 ae3:=al underlying135
def ae4:cF:=⟨.pointer 203,1,8,[(.pointer none)]⟩
theorem atL:cK prog 141 ae4:=al underlying141
def ae5:cF:=⟨.array 8 141,8,64,List.replicate 8 (.pointer none)⟩
theorem atM:cK prog 142 ae5:=al underlying142
def ae6:cF:=⟨.struct #[⟨ "entries",85,0,false,"","stopcock/roll",0⟩,⟨ "tables",142,16,false,"","stopcock/roll",128⟩],24,192,List.replicate 16 (.int .i64 0)++List.replicate 8 (.pointer none)⟩
theorem atN:cK prog 144 ae6:=al underlying144
def ae7:cF:=⟨.tuple #[141,33],1,0,[(Value.tuple #[(Value.pointer none),(Value.int .i64 0)])]⟩
theorem atO:cK prog 145 ae7:=al underlying145
def ae8:cF:=⟨.struct #[⟨ "plat",28,0,false,"","stopcock/strand",0⟩,⟨ "free",35,2,false,"","stopcock/strand",16⟩,⟨ "head",3,3,false,"","stopcock/strand",40⟩,⟨ "used",3,4,false,"","stopcock/strand",48⟩],5,56,[.int .i64 0,.int .i64 0,.slice none 0 0,.int .i64 0,.int .i64 0]⟩
theorem atP:cK prog 150 ae8:=al underlying150
def ae9:cF:=⟨.struct #[⟨ "Kind",3,0,false,"","",0⟩,⟨ "Vol",3,1,false,"","",8⟩,⟨ "Other",3,2,false,"","",16⟩,⟨ "Block",3,3,false,"","",24⟩,⟨ "Place",113,4,false,"","",32⟩],5,48,List.replicate 4 (.int .i64 0)++[.complex .f64 0 0]⟩
theorem atQ:cK prog 155 ae9:=al underlying155
def afa:cF:=⟨.tuple #[84,33],1,0,[(Value.tuple #[(Value.agg #[(Value.int .i64 0),(Value.int .i64 0)]),(Value.int .i64 0)])]⟩
theorem atS:cK prog 160 afa:=al underlying160
def afb:cF:=⟨.slice 213,1,24,[(.slice none 0 0)]⟩
theorem atT:cK prog 163 afb:=al underlying163
def afc:cF:=⟨.tuple #[86,163,33],1,0,[(Value.tuple #[(Value.slice none 0 0),(Value.slice none 0 0),(Value.int .i64 0)])]⟩
theorem atU:cK prog 164 afc:=al underlying164
def afd:cF:=⟨.float .f64,1,8,[(Value.float .f64 0)]⟩
theorem atV:cK prog 166 afd:=al underlying166
def afe:cF:=⟨.tuple #[3,3,33],1,0,[(Value.tuple #[(Value.int .i64 0),(Value.int .i64 0),(Value.int .i64 0)])]⟩
theorem atW:cK prog 169 afe:=al underlying169
def aff:cF:=⟨.func #[113] #[4] false,1,8,[Value.nilFunc]⟩
theorem atX:cK prog 173 aff:=al underlying173
def afg:cF:=⟨.tuple #[113,33],1,0,[(Value.tuple #[(Value.complex .f64 0 0),(Value.int .i64 0)])]⟩
theorem atY:cK prog 175 afg:=al underlying175
def afh:cF:=⟨.slice 34,1,24,[(.slice none 0 0)]⟩
theorem atZ:cK prog 178 afh:=al underlying178
def afi:cF:=⟨.tuple #[178,33],1,0,[(Value.tuple #[(Value.slice none 0 0),(Value.int .i64 0)])]⟩
theorem at0:cK prog 179 afi:=al underlying179
def afj:cF:=⟨.tuple #[3,4],1,0,[(Value.tuple #[(Value.int .i64 0),(Value.bool false)])]⟩
theorem at1:cK prog 182 afj:=al underlying182
def afk:cF:=⟨.slice 130,1,24,[(.slice none 0 0)]⟩
theorem at2:cK prog 185 afk:=al underlying185
def afl:cF:=⟨.func #[130] #[4] false,1,8,[Value.nilFunc]⟩
theorem at3:cK prog 187 afl:=al underlying187
def afm:cF:=⟨.struct #[⟨ "at",3,0,false,"","stopcock/basin",0⟩,⟨ "data",82,1,false,"","stopcock/basin",8⟩],65,72,[.int .i64 0]++List.replicate 64 (.int .u8 0)⟩
theorem at4:cK prog 189 afm:=al underlying189
def afn:cF:=⟨.tuple #[70,4],1,0,[(Value.tuple #[(Value.slice none 0 0),(Value.bool false)])]⟩
theorem at5:cK prog 192 afn:=al underlying192
def afo:cF:=⟨.pointer 89,1,8,[(.pointer none)]⟩
theorem at6:cK prog 195 afo:=al underlying195
def afp:cF:=⟨.map 113 213,1,8,[(Value.map none)]⟩
theorem at7:cK prog 196 afp:=al underlying196
def afr:cF:=⟨.slice 250,1,24,[(.slice none 0 0)]⟩
theorem at9:cK prog 201 afr:=al underlying201
def afs:cF:=⟨.struct #[⟨ "size",3,0,false,"","stopcock/table",0⟩,⟨ "pages",201,1,false,"","stopcock/table",8⟩],2,32,[.int .i64 0,.slice none 0 0]⟩
theorem aua:cK prog 203 afs:=al underlying203
def aft:cF:=⟨.tuple #[113,4,33],1,0,[(Value.tuple #[(Value.complex .f64 0 0),(Value.bool false),(Value.int .i64 0)])]⟩
theorem aub:cK prog 206 aft:=al underlying206
def afu:cF:=⟨.func #[3] #[4] false,1,8,[Value.nilFunc]⟩
theorem auc:cK prog 208 afu:=al underlying208
def afv:cF:=⟨.slice 221,1,24,[(.slice none 0 0)]⟩
theorem aud:cK prog 213 afv:=al underlying213
def afx:cF:=⟨.struct #[⟨ "Vol",3,0,false,"","",0⟩,⟨ "Block",3,1,false,"","",8⟩],2,16,[(.int .i64 0),(.int .i64 0)]⟩
theorem auf:cK prog 221 afx:=al underlying221
def afy:cF:=⟨.func #[264] #[] false,1,8,[Value.nilFunc]⟩
theorem aug:cK prog 224 afy:=al underlying224
def afz:cF:=⟨.int .u32,1,4,[(.int .u32 0)]⟩
theorem auh:cK prog 227 afz:=al underlying227
def afB:cF:=⟨.struct #[⟨ "seq",3,0,false,"","stopcock/leaf",0⟩,⟨ "segments",3,1,false,"","stopcock/leaf",8⟩,⟨ "blocks",3,2,false,"","stopcock/leaf",16⟩,⟨ "count",3,3,false,"","stopcock/leaf",24⟩,⟨ "length",3,4,false,"","stopcock/leaf",32⟩],5,40,List.replicate 5 (.int .i64 0)⟩
theorem auj:cK prog 234 afB:=al underlying234
def afC:cF:=⟨.tuple #[234,4],1,0,[(Value.tuple #[(Value.agg #[(Value.int .i64 0),(Value.int .i64 0),(Value.int .i64 0),(Value.int .i64 0),(Value.int .i64 0)]),(Value.bool false)])]⟩
theorem auk:cK prog 235 afC:=al underlying235
def afD:cF:=⟨.tuple #[89,4],1,0,[(Value.tuple #[(Value.agg #[(Value.int .i64 0),(Value.int .i64 0),(Value.int .i64 0),(Value.int .i64 0),(Value.int .i64 0),(Value.int .i64 0),(Value.int .i64 0),(Value.int .i64 0),(Value.int .i64 0),(Value.int .i64 0),(Value.int .i64 0),(Value.int .i64 0),(Value.int .i64 0),(Value.int .i64 0),(Value.int .i64 0),(Value.int .i64 0),(Value.slice none 0 0),(Value.slice none 0 0),(Value.slice none 0 0),(Value.slice none 0 0),(Value.slice none 0 0),(Value.slice none 0 0),(Value.slice none 0 0),(Value.slice none 0 0)]),(Value.bool false)])]⟩
theorem aul:cK prog 238 afD:=al underlying238
def afF:cF:=⟨.func #[34,34] #[4] false,1,8,[Value.nilFunc]⟩
theorem aun:cK prog 241 afF:=al underlying241
def afG:cF:=⟨.tuple #[155,33],1,0,[(Value.tuple #[(Value.agg #[(Value.int .i64 0),(Value.int .i64 0),(Value.int .i64 0),(Value.int .i64 0),(Value.complex .f64 0 0)]),(Value.int .i64 0)])]⟩
theorem auo:cK prog 242 afG:=al underlying242
def afI:cF:=⟨.pointer 252,1,8,[(.pointer none)]⟩
theorem auq:cK prog 250 afI:=al underlying250
def afJ:cF:=⟨.array 8 113,8,128,List.replicate 8 (.complex .f64 0 0)⟩
theorem aur:cK prog 252 afJ:=al underlying252
def afK:cF:=⟨.slice 84,1,24,[(.slice none 0 0)]⟩
theorem aus:cK prog 254 afK:=al underlying254
def afL:cF:=⟨.func #[84] #[4] false,1,8,[Value.nilFunc]⟩
theorem aut:cK prog 255 afL:=al underlying255
def afM:cF:=⟨.func #[274] #[] false,1,8,[Value.nilFunc]⟩
theorem auu:cK prog 258 afM:=al underlying258
def afN:cF:=⟨.func #[34] #[4] false,1,8,[Value.nilFunc]⟩
theorem auv:cK prog 264 afN:=al underlying264
def afO:cF:=⟨.tuple #[155,4],1,0,[(Value.tuple #[(Value.agg #[(Value.int .i64 0),(Value.int .i64 0),(Value.int .i64 0),(Value.int .i64 0),(Value.complex .f64 0 0)]),(Value.bool false)])]⟩
theorem auw:cK prog 270 afO:=al underlying270
def afP:cF:=⟨.tuple #[42,42],1,0,[(Value.tuple #[(Value.int .u64 0),(Value.int .u64 0)])]⟩
theorem auy:cK prog 272 afP:=al underlying272
def afQ:cF:=⟨.func #[70] #[4] false,1,8,[Value.nilFunc]⟩
theorem auz:cK prog 274 afQ:=al underlying274
def afS:cF:=⟨.int .u64,1,8,[(.int .u64 0)]⟩
theorem auB:cK prog 285 afS:=al underlying285
def afT:cF:=⟨.tuple #[285,285],1,0,[(Value.tuple #[(Value.int .u64 0),(Value.int .u64 0)])]⟩
theorem auC:cK prog 286 afT:=al underlying286
abbrev cj:Nat:=3
abbrev dk:Nat:=5
abbrev we:Nat:=20
abbrev P4:Nat:=23
abbrev AS:Nat:=24
abbrev b2:Nat:=28
abbrev Cr:Nat:=33
abbrev gI:Nat:=34
abbrev dm:Nat:=37
abbrev ff:Nat:=40
abbrev IC:Nat:=70
abbrev q6:Nat:=72
abbrev P1:Nat:=78
abbrev P2:Nat:=82
abbrev jl:Nat:=84
abbrev bU:Nat:=89
abbrev Ws:Nat:=104
abbrev eo:Nat:=113
abbrev q5:Nat:=123
abbrev LQ:Nat:=126
abbrev Cs:Nat:=130
abbrev AT:Nat:=144
abbrev tB:Nat:=150
abbrev fk:Nat:=155
abbrev u1:Nat:=178
abbrev P3:Nat:=189
abbrev tC:Nat:=203
abbrev zb:Nat:=213
abbrev hG:Nat:=221
abbrev nx:Nat:=234
abbrev u0:Nat:=250
abbrev xI:Nat:=252
def tb:List (Option cF):=[some aeQ,none,none,some afU,some af1,some af7,none,none,none,some agr,none,none,none,none,none,none,none,none,none,none,some afq,none,some afw,some afA,some afE,some afH,none,none,some afR,none,none,some afV,some afW,some afX,some afY,some afZ,none,some af0,none,none,some af2,some af3,some af4,none,some af5,none,none,none,some af6,none,none,none,none,none,none,some af8,none,none,none,some af9,none,some aga,none,none,some agb,none,none,some agc,some agd,some age,some agf,none,some agh,none,none,some agi,some agj,none,some agk,none,none,none,some agl,none,some agm,some agn,some ago,some agp,none,some agq,some ags,none,some agt,none,none,some agu,none,some agv,none,some agw,none,none,some aeR,none,some aeS,none,none,some aeT,none,none,none,some aeU,none,some aeV,none,none,some aeW,none,none,none,none,some aeX,none,some aeY,none,none,some aeZ,none,none,none,some ae0,some ae1,none,some ae2,none,some ae3,none,none,none,none,none,some ae4,some ae5,none,some ae6,some ae7,none,none,none,none,some ae8,none,none,none,none,some ae9,none,none,none,none,some afa,none,none,some afb,some afc,none,some afd,none,none,some afe,none,none,none,some aff,none,some afg,none,none,some afh,some afi,none,none,some afj,none,none,some afk,none,some afl,none,some afm,none,none,some afn,none,none,some afo,some afp,none,none,none,none,some afr,none,some afs,none,none,some aft,none,some afu,none,none,none,none,some afv,none,none,none,none,none,none,none,some afx,none,none,some afy,none,none,some afz,none,none,none,none,none,none,some afB,some afC,none,none,some afD,none,none,some afF,some afG,none,none,none,none,none,none,none,some afI,none,some afJ,none,some afK,some afL,none,none,some afM,none,none,none,none,none,some afN,none,none,none,none,none,some afO,none,some afP,none,some afQ,none,none,none,none,none,none,none,none,none,none,some afS,some afT]
theorem ats:I6 prog 0 tb:=(And.intro atx (And.intro agx (And.intro auJ (And.intro auP (And.intro au8 (And.intro at8 (And.intro aue (And.intro aui (And.intro aum (And.intro aup (And.intro auA (And.intro auD (And.intro auE (And.intro auF (And.intro auG (And.intro auH (And.intro auI (And.intro auK (And.intro auL (And.intro auM (And.intro auN (And.intro auO (And.intro auQ (And.intro auR (And.intro auS (And.intro auT (And.intro auU (And.intro auV (And.intro auW (And.intro auX (And.intro auY (And.intro auZ (And.intro au0 (And.intro au1 (And.intro au2 (And.intro au3 (And.intro au4 (And.intro au5 (And.intro au6 (And.intro au7 (And.intro au9 (And.intro ava (And.intro avb (And.intro avc (And.intro avd (And.intro aty (And.intro atz (And.intro atA (And.intro atB (And.intro atC (And.intro atD (And.intro atE (And.intro atF (And.intro atG (And.intro atH (And.intro atI (And.intro atJ (And.intro atK (And.intro atL (And.intro atM (And.intro atN (And.intro atO (And.intro atP (And.intro atQ (And.intro atS (And.intro atT (And.intro atU (And.intro atV (And.intro atW (And.intro atX (And.intro atY (And.intro atZ (And.intro at0 (And.intro at1 (And.intro at2 (And.intro at3 (And.intro at4 (And.intro at5 (And.intro at6 (And.intro at7 (And.intro at9 (And.intro aua (And.intro aub (And.intro auc (And.intro aud (And.intro auf (And.intro aug (And.intro auh (And.intro auj (And.intro auk (And.intro aul (And.intro aun (And.intro auo (And.intro auq (And.intro aur (And.intro aus (And.intro aut (And.intro auu (And.intro auv (And.intro auw (And.intro auy (And.intro auz (And.intro auB (And.intro auC trivial))))))))))))))))))))))))))))))))))))))))))))))))))))))))))))))))))))))))))))))))))))))))))))))))))))))))
def fns:List Nat:=[11,12,13,14,15,16,17,18,19,20,21,22,23,24,25,26,27,28,29,30,32,33,34,35,36,37,38,39,40,41,42,43,44,46,48,49,50,51,52,53,54,55,56,57,58,59,60,61,62,63,64,65,66,67,68,69,70,71,72,73,74,75,76,77,78,79,80,81,82,83,84,85,86,87,88,89,90,91,92,93,94,95,96,97,98,99,100,101,102,103,104,105,106,107,108,109,110,111,112,113,114,115,116,117,118,119,120,121,122,123,124,125,126,127,128,129,130,131,132,133,134,135,136,137,138,139,140,141,142,144,145,146,147,148,149,150,151,152,153,154,155,156,157,158,159,160,161,162,163,164,165,166,168,169,170,171,172,173,174,175,176,177,178,179,180,181,182,183,184,187,188,189,190,191,192,193,195,206]
theorem alL:IW prog fns:=(bQ func11 (bQ func12 (bQ func13 (bQ func14 (bQ func15 (bQ func16 (bQ func17 (bQ func18 (bQ func19 (bQ func20 (bQ func21 (bQ func22 (bQ func23 (bQ func24 (bQ func25 (bQ func26 (bQ func27 (bQ func28 (bQ func29 (bQ func30 (bQ func32 (bQ func33 (bQ func34 (bQ func35 (bQ func36 (bQ func37 (bQ func38 (bQ func39 (bQ func40 (bQ func41 (bQ func42 (bQ func43 (bQ func44 (bQ func46 (bQ func48 (bQ func49 (bQ func50 (bQ func51 (bQ func52 (bQ func53 (bQ func54 (bQ func55 (bQ func56 (bQ func57 (bQ func58 (bQ func59 (bQ func60 (bQ func61 (bQ func62 (bQ func63 (bQ func64 (bQ func65 (bQ func66 (bQ func67 (bQ func68 (bQ func69 (bQ func70 (bQ func71 (bQ func72 (bQ func73 (bQ func74 (bQ func75 (bQ func76 (bQ func77 (bQ func78 (bQ func79 (bQ func80 (bQ func81 (bQ func82 (bQ func83 (bQ func84 (bQ func85 (bQ func86 (bQ func87 (bQ func88 (bQ func89 (bQ func90 (bQ func91 (bQ func92 (bQ func93 (bQ func94 (bQ func95 (bQ func96 (bQ func97 (bQ func98 (bQ func99 (bQ func100 (bQ func101 (bQ func102 (bQ func103 (bQ func104 (bQ func105 (bQ func106 (bQ func107 (bQ func108 (bQ func109 (bQ func110 (bQ func111 (bQ func112 (bQ func113 (bQ func114 (bQ func115 (bQ func116 (bQ func117 (bQ func118 (bQ func119 (bQ func120 (bQ func121 (bQ func122 (bQ func123 (bQ func124 (bQ func125 (bQ func126 (bQ func127 (bQ func128 (bQ func129 (bQ func130 (bQ func131 (bQ func132 (bQ func133 (bQ func134 (bQ func135 (bQ func136 (bQ func137 (bQ func138 (bQ func139 (bQ func140 (bQ func141 (bQ func142 (bQ func144 (bQ func145 (bQ func146 (bQ func147 (bQ func148 (bQ func149 (bQ func150 (bQ func151 (bQ func152 (bQ func153 (bQ func154 (bQ func155 (bQ func156 (bQ func157 (bQ func158 (bQ func159 (bQ func160 (bQ func161 (bQ func162 (bQ func163 (bQ func164 (bQ func165 (bQ func166 (bQ func168 (bQ func169 (bQ func170 (bQ func171 (bQ func172 (bQ func173 (bQ func174 (bQ func175 (bQ func176 (bQ func177 (bQ func178 (bQ func179 (bQ func180 (bQ func181 (bQ func182 (bQ func183 (bQ func184 (bQ func187 (bQ func188 (bQ func189 (bQ func190 (bQ func191 (bQ func192 (bQ func193 (bQ func195 (bQ func206 trivial))))))))))))))))))))))))))))))))))))))))))))))))))))))))))))))))))))))))))))))))))))))))))))))))))))))))))))))))))))))))))))))))))))))))))))))))))))))))))))))))))))))))))))))))))
noncomputable def bA:cW:={P:=prog,tb:=tb,fns:=fns}
theorem MW:hh bA:={Ix:=ats,fn:=ZN alL,mixed:=by kernel_rfl}
abbrev au(R:aq):List PanicEntry->ao:=λcQ w=>R (.panicked cQ) w
instance:Coe Int Value:=⟨Value.int .i64⟩
theorem fc{f:FuncId}{fn:Func}(bg:prog.funcs[f]?=some fn)(rs:List ResultVar)(hB:Nat)(s:jM){args:aU}{w:World}{R:aq}{m:Prop}(h:m)(aQ:args.length<=hB:=by exact O0 rfl)(ψ:fn.body=some (fn.body.getD .skip):=by kernel_rfl)(kj:fn.results.toList=rs:=by kernel_rfl)(rM:fn.ntmps=hB:=by kernel_rfl)(hm:m=ng bA hB (fn.body.getD .skip) s (fin bA rs R) (qD 0 args) w:=by kernel_rfl)(aB:tl s True=oM bA hB (fn.body.getD .skip) s (fin bA rs R) True:=by kernel_rfl):Calls prog f args.toArray w R:=
 Zr MW bg ψ rs kj hB rM s aQ hm aB (uT s _ trivial) h
theorem acS{f:FuncId}{fn:Func}(bg:prog.funcs[f]?=some fn)(rs:List ResultVar)(hB:Nat)(s:zs){args:aU}{w:World}{R:aq}{m:Prop}(h:m)(aQ:args.length<=hB:=by exact O0 rfl)(ψ:fn.body=some (fn.body.getD .skip):=by kernel_rfl)(kj:fn.results.toList=rs:=by kernel_rfl)(rM:fn.ntmps=hB:=by kernel_rfl)(hm:m=Br bA hB s (fn.body.getD .skip) (fin bA rs R) (qD 0 args) w:=by kernel_rfl)(aB:PZ s True=EJ bA hB s (fn.body.getD .skip) (fin bA rs R) True:=by kernel_rfl):Calls prog f args.toArray w R:=
 ali MW bg ψ rs kj hB rM s aQ hm aB (Wr s _ trivial) h
theorem acT{f:FuncId}{fn:Func}(bg:prog.funcs[f]?=some fn)(rs:List ResultVar)(hB:Nat)(s:jM){args:aU}{w:World}{R:aq}{m:Prop}(h:m)(aQ:args.length<=hB:=by exact O0 rfl)(ψ:fn.body=some (fn.body.getD .skip):=by kernel_rfl)(kj:fn.results.toList=rs:=by kernel_rfl)(rM:fn.ntmps=hB:=by kernel_rfl)(hm:m=qL bA hB (fn.body.getD .skip) s (fin bA rs R) (qD 0 args) w:=by kernel_rfl)(aB:tl s True=xo bA hB (fn.body.getD .skip) s (fin bA rs R) True:=by kernel_rfl):CallsIn Fence.wide 0 prog f args.toArray w R:=
 alk MW bg ψ rs kj hB rM s aQ hm aB (uT s _ trivial) h
theorem dg{f:FuncId}{fn:Func}(bg:prog.funcs[f]?=some fn)(rs:List ResultVar)(hB:Nat){args:aU}{w:World}{R:aq}{m:Prop}(h:m)(aQ:args.length<=hB:=by exact O0 rfl)(ψ:fn.body=some (fn.body.getD .skip):=by kernel_rfl)(kj:fn.results.toList=rs:=by kernel_rfl)(rM:fn.ntmps=hB:=by kernel_rfl)(hm:m=ng bA hB (fn.body.getD .skip) .leaf (fin bA rs R) (qD 0 args) w:=by kernel_rfl)(aB:True=oM bA hB (fn.body.getD .skip) .leaf (fin bA rs R) True:=by kernel_rfl):Calls prog f args.toArray w R:=
 Zr MW bg ψ rs kj hB rM .leaf aQ hm aB trivial h
abbrev QQ{nD:Type}(f g:World->nD->Prop):Prop:=∀{w r},f w r->g w r
abbrev ic{cH nD:Type}(f g:cH->World->nD->Prop):Prop:=∀{cc w r},f cc w r->g cc w r
abbrev jL{cH cJ nD:Type}(f g:cH->cJ->World->nD->Prop):Prop:=∀{cc ζ w r},f cc ζ w r->g cc ζ w r
abbrev iB{cH cJ cS nD:Type}(f g:cH->cJ->cS->World->nD->Prop):Prop:=∀{cc ζ σ w r},f cc ζ σ w r->g cc ζ σ w r
abbrev kT{cH cJ cS df nD:Type}(f g:cH->cJ->cS->df->World->nD->Prop):Prop:=∀{cc ζ σ ad w r},f cc ζ σ ad w r->g cc ζ σ ad w r
abbrev wz{cH cJ cS df dy nD:Type}(f g:cH->cJ->cS->df->dy->World->nD->Prop):Prop:=∀{cc ζ σ ad aA w r},f cc ζ σ ad aA w r->g cc ζ σ ad aA w r
abbrev xY{cH cJ cS df dy dK nD:Type}(f g:cH->cJ->cS->df->dy->dK->World->nD->Prop):Prop:=∀{cc ζ σ ad aA ak w r},f cc ζ σ ad aA ak w r->g cc ζ σ ad aA ak w r
abbrev Gv{cH cJ cS df dy dK ee nD:Type}(f g:cH->cJ->cS->df->dy->dK->ee->World->nD->Prop):Prop:=∀{cc ζ σ ad aA ak aI w r},f cc ζ σ ad aA ak aI w r->g cc ζ σ ad aA ak aI w r
abbrev A6{cH cJ cS df dy dK ee eB nD:Type}(f g:cH->cJ->cS->df->dy->dK->ee->eB->World->nD->Prop):Prop:=∀{cc ζ σ ad aA ak aI aV w r},f cc ζ σ ad aA ak aI aV w r->g cc ζ σ ad aA ak aI aV w r
abbrev ait{cH cJ cS df dy dK ee eB fm nD:Type}(f g:cH->cJ->cS->df->dy->dK->ee->eB->fm->World->nD->Prop):Prop:=∀{cc ζ σ ad aA ak aI aV cg w r},f cc ζ σ ad aA ak aI aV cg w r->g cc ζ σ ad aA ak aI aV cg w r
abbrev ais{cH cJ cS df dy dK ee eB fm gR iO nD:Type}(f g:cH->cJ->cS->df->dy->dK->ee->eB->fm->gR->iO->World->nD->Prop):Prop:=∀{cc ζ σ ad aA ak aI aV cg cm eK w r},f cc ζ σ ad aA ak aI aV cg cm eK w r->g cc ζ σ ad aA ak aI aV cg cm eK w r
abbrev abZ{cH cJ gr:Type}(b:cH->cJ->World->gr->(cH->cJ->ao)->Prop)(cc:cH)(ζ:cJ)(w:World)(fz:gr):Prop:=∃(bD:cH->cJ->ao)(m:cH->cJ->World->Nat),bD cc ζ w/\∀cc ζ w,bD cc ζ w->b cc ζ w fz λfR gq v=>bD fR gq v/\m fR gq v<m cc ζ w
abbrev Hx{cH cJ cS gr:Type}(b:cH->cJ->cS->World->gr->(cH->cJ->cS->ao)->Prop)(cc:cH)(ζ:cJ)(σ:cS)(w:World)(fz:gr):Prop:=∃(bD:cH->cJ->cS->ao)(m:cH->cJ->cS->World->Nat),bD cc ζ σ w/\∀cc ζ σ w,bD cc ζ σ w->b cc ζ σ w fz λfR gq gy v=>bD fR gq gy v/\m fR gq gy v<m cc ζ σ w
abbrev Oj{cH cJ cS df gr:Type}(b:cH->cJ->cS->df->World->gr->(cH->cJ->cS->df->ao)->Prop)(cc:cH)(ζ:cJ)(σ:cS)(ad:df)(w:World)(fz:gr):Prop:=∃(bD:cH->cJ->cS->df->ao)(m:cH->cJ->cS->df->World->Nat),bD cc ζ σ ad w/\∀cc ζ σ ad w,bD cc ζ σ ad w->b cc ζ σ ad w fz λfR gq gy hg v=>bD fR gq gy hg v/\m fR gq gy hg v<m cc ζ σ ad w
abbrev Aj{cH cJ cS df dy gr:Type}(b:cH->cJ->cS->df->dy->World->gr->(cH->cJ->cS->df->dy->ao)->Prop)(cc:cH)(ζ:cJ)(σ:cS)(ad:df)(aA:dy)(w:World)(fz:gr):Prop:=∃(bD:cH->cJ->cS->df->dy->ao)(m:cH->cJ->cS->df->dy->World->Nat),bD cc ζ σ ad aA w/\∀cc ζ σ ad aA w,bD cc ζ σ ad aA w->b cc ζ σ ad aA w fz λfR gq gy hg hI v=>bD fR gq gy hg hI v/\m fR gq gy hg hI v<m cc ζ σ ad aA w
abbrev ph{cH cJ cS df dy dK gr:Type}(b:cH->cJ->cS->df->dy->dK->World->gr->(cH->cJ->cS->df->dy->dK->ao)->Prop)(cc:cH)(ζ:cJ)(σ:cS)(ad:df)(aA:dy)(ak:dK)(w:World)(fz:gr):Prop:=∃(bD:cH->cJ->cS->df->dy->dK->ao)(m:cH->cJ->cS->df->dy->dK->World->Nat),bD cc ζ σ ad aA ak w/\∀cc ζ σ ad aA ak w,bD cc ζ σ ad aA ak w->b cc ζ σ ad aA ak w fz λfR gq gy hg hI h9 v=>bD fR gq gy hg hI h9 v/\m fR gq gy hg hI h9 v<m cc ζ σ ad aA ak w
abbrev Ev{cH cJ cS df dy dK ee gr:Type}(b:cH->cJ->cS->df->dy->dK->ee->World->gr->(cH->cJ->cS->df->dy->dK->ee->ao)->Prop)(cc:cH)(ζ:cJ)(σ:cS)(ad:df)(aA:dy)(ak:dK)(aI:ee)(w:World)(fz:gr):Prop:=∃(bD:cH->cJ->cS->df->dy->dK->ee->ao)(m:cH->cJ->cS->df->dy->dK->ee->World->Nat),bD cc ζ σ ad aA ak aI w/\∀cc ζ σ ad aA ak aI w,bD cc ζ σ ad aA ak aI w->b cc ζ σ ad aA ak aI w fz λfR gq gy hg hI h9 iH v=>bD fR gq gy hg hI h9 iH v/\m fR gq gy hg hI h9 iH v<m cc ζ σ ad aA ak aI w
abbrev Hy{cH cJ cS df dy dK ee eB gr:Type}(b:cH->cJ->cS->df->dy->dK->ee->eB->World->gr->(cH->cJ->cS->df->dy->dK->ee->eB->ao)->Prop)(cc:cH)(ζ:cJ)(σ:cS)(ad:df)(aA:dy)(ak:dK)(aI:ee)(aV:eB)(w:World)(fz:gr):Prop:=∃(bD:cH->cJ->cS->df->dy->dK->ee->eB->ao)(m:cH->cJ->cS->df->dy->dK->ee->eB->World->Nat),bD cc ζ σ ad aA ak aI aV w/\∀cc ζ σ ad aA ak aI aV w,bD cc ζ σ ad aA ak aI aV w->b cc ζ σ ad aA ak aI aV w fz λfR gq gy hg hI h9 iH ir v=>bD fR gq gy hg hI h9 iH ir v/\m fR gq gy hg hI h9 iH ir v<m cc ζ σ ad aA ak aI aV w
abbrev apB{cH cJ cS df dy dK ee eB gr tM:Type}(b:cH->cJ->cS->df->dy->dK->ee->eB->World->gr->tM->(cH->cJ->cS->df->dy->dK->ee->eB->ao)->Prop)(cc:cH)(ζ:cJ)(σ:cS)(ad:df)(aA:dy)(ak:dK)(aI:ee)(aV:eB)(w:World)(fz:gr)(c1:tM):Prop:=∃(bD:cH->cJ->cS->df->dy->dK->ee->eB->ao)(m:cH->cJ->cS->df->dy->dK->ee->eB->World->Nat),bD cc ζ σ ad aA ak aI aV w/\∀cc ζ σ ad aA ak aI aV w,bD cc ζ σ ad aA ak aI aV w->b cc ζ σ ad aA ak aI aV w fz c1 λfR gq gy hg hI h9 iH ir v=>bD fR gq gy hg hI h9 iH ir v/\m fR gq gy hg hI h9 iH ir v<m cc ζ σ ad aA ak aI aV w
abbrev Ux{cH cJ cS df dy dK ee eB fm gr:Type}(b:cH->cJ->cS->df->dy->dK->ee->eB->fm->World->gr->(cH->cJ->cS->df->dy->dK->ee->eB->fm->ao)->Prop)(cc:cH)(ζ:cJ)(σ:cS)(ad:df)(aA:dy)(ak:dK)(aI:ee)(aV:eB)(cg:fm)(w:World)(fz:gr):Prop:=∃(bD:cH->cJ->cS->df->dy->dK->ee->eB->fm->ao)(m:cH->cJ->cS->df->dy->dK->ee->eB->fm->World->Nat),bD cc ζ σ ad aA ak aI aV cg w/\∀cc ζ σ ad aA ak aI aV cg w,bD cc ζ σ ad aA ak aI aV cg w->b cc ζ σ ad aA ak aI aV cg w fz λfR gq gy hg hI h9 iH ir kq v=>bD fR gq gy hg hI h9 iH ir kq v/\m fR gq gy hg hI h9 iH ir kq v<m cc ζ σ ad aA ak aI aV cg w
abbrev apC{cH cJ cS df dy dK ee eB fm gr tM:Type}(b:cH->cJ->cS->df->dy->dK->ee->eB->fm->World->gr->tM->(cH->cJ->cS->df->dy->dK->ee->eB->fm->ao)->Prop)(cc:cH)(ζ:cJ)(σ:cS)(ad:df)(aA:dy)(ak:dK)(aI:ee)(aV:eB)(cg:fm)(w:World)(fz:gr)(c1:tM):Prop:=∃(bD:cH->cJ->cS->df->dy->dK->ee->eB->fm->ao)(m:cH->cJ->cS->df->dy->dK->ee->eB->fm->World->Nat),bD cc ζ σ ad aA ak aI aV cg w/\∀cc ζ σ ad aA ak aI aV cg w,bD cc ζ σ ad aA ak aI aV cg w->b cc ζ σ ad aA ak aI aV cg w fz c1 λfR gq gy hg hI h9 iH ir kq v=>bD fR gq gy hg hI h9 iH ir kq v/\m fR gq gy hg hI h9 iH ir kq v<m cc ζ σ ad aA ak aI aV cg w
abbrev abX{cH cJ cS df dy dK ee eB fm gR gr:Type}(b:cH->cJ->cS->df->dy->dK->ee->eB->fm->gR->World->gr->(cH->cJ->cS->df->dy->dK->ee->eB->fm->gR->ao)->Prop)(cc:cH)(ζ:cJ)(σ:cS)(ad:df)(aA:dy)(ak:dK)(aI:ee)(aV:eB)(cg:fm)(cm:gR)(w:World)(fz:gr):Prop:=∃(bD:cH->cJ->cS->df->dy->dK->ee->eB->fm->gR->ao)(m:cH->cJ->cS->df->dy->dK->ee->eB->fm->gR->World->Nat),bD cc ζ σ ad aA ak aI aV cg cm w/\∀cc ζ σ ad aA ak aI aV cg cm w,bD cc ζ σ ad aA ak aI aV cg cm w->b cc ζ σ ad aA ak aI aV cg cm w fz λfR gq gy hg hI h9 iH ir kq mC v=>bD fR gq gy hg hI h9 iH ir kq mC v/\m fR gq gy hg hI h9 iH ir kq mC v<m cc ζ σ ad aA ak aI aV cg cm w
abbrev apw{cH cJ cS df dy dK ee eB fm gR gr tM:Type}(b:cH->cJ->cS->df->dy->dK->ee->eB->fm->gR->World->gr->tM->(cH->cJ->cS->df->dy->dK->ee->eB->fm->gR->ao)->Prop)(cc:cH)(ζ:cJ)(σ:cS)(ad:df)(aA:dy)(ak:dK)(aI:ee)(aV:eB)(cg:fm)(cm:gR)(w:World)(fz:gr)(c1:tM):Prop:=∃(bD:cH->cJ->cS->df->dy->dK->ee->eB->fm->gR->ao)(m:cH->cJ->cS->df->dy->dK->ee->eB->fm->gR->World->Nat),bD cc ζ σ ad aA ak aI aV cg cm w/\∀cc ζ σ ad aA ak aI aV cg cm w,bD cc ζ σ ad aA ak aI aV cg cm w->b cc ζ σ ad aA ak aI aV cg cm w fz c1 λfR gq gy hg hI h9 iH ir kq mC v=>bD fR gq gy hg hI h9 iH ir kq mC v/\m fR gq gy hg hI h9 iH ir kq mC v<m cc ζ σ ad aA ak aI aV cg cm w
abbrev abY{cH cJ cS df dy dK ee eB fm gR iO gr:Type}(b:cH->cJ->cS->df->dy->dK->ee->eB->fm->gR->iO->World->gr->(cH->cJ->cS->df->dy->dK->ee->eB->fm->gR->iO->ao)->Prop)(cc:cH)(ζ:cJ)(σ:cS)(ad:df)(aA:dy)(ak:dK)(aI:ee)(aV:eB)(cg:fm)(cm:gR)(eK:iO)(w:World)(fz:gr):Prop:=∃(bD:cH->cJ->cS->df->dy->dK->ee->eB->fm->gR->iO->ao)(m:cH->cJ->cS->df->dy->dK->ee->eB->fm->gR->iO->World->Nat),bD cc ζ σ ad aA ak aI aV cg cm eK w/\∀cc ζ σ ad aA ak aI aV cg cm eK w,bD cc ζ σ ad aA ak aI aV cg cm eK w->b cc ζ σ ad aA ak aI aV cg cm eK w fz λfR gq gy hg hI h9 iH ir kq mC nC v=>bD fR gq gy hg hI h9 iH ir kq mC nC v/\m fR gq gy hg hI h9 iH ir kq mC nC v<m cc ζ σ ad aA ak aI aV cg cm eK w
abbrev apx{cH cJ cS df dy dK ee eB fm gR iO kr gr:Type}(b:cH->cJ->cS->df->dy->dK->ee->eB->fm->gR->iO->kr->World->gr->(cH->cJ->cS->df->dy->dK->ee->eB->fm->gR->iO->kr->ao)->Prop)(cc:cH)(ζ:cJ)(σ:cS)(ad:df)(aA:dy)(ak:dK)(aI:ee)(aV:eB)(cg:fm)(cm:gR)(eK:iO)(fl:kr)(w:World)(fz:gr):Prop:=∃(bD:cH->cJ->cS->df->dy->dK->ee->eB->fm->gR->iO->kr->ao)(m:cH->cJ->cS->df->dy->dK->ee->eB->fm->gR->iO->kr->World->Nat),bD cc ζ σ ad aA ak aI aV cg cm eK fl w/\∀cc ζ σ ad aA ak aI aV cg cm eK fl w,bD cc ζ σ ad aA ak aI aV cg cm eK fl w->b cc ζ σ ad aA ak aI aV cg cm eK fl w fz λfR gq gy hg hI h9 iH ir kq mC nC tL v=>bD fR gq gy hg hI h9 iH ir kq mC nC tL v/\m fR gq gy hg hI h9 iH ir kq mC nC tL v<m cc ζ σ ad aA ak aI aV cg cm eK fl w
abbrev apy{cH cJ cS df dy dK ee eB fm gR iO kr gr tM:Type}(b:cH->cJ->cS->df->dy->dK->ee->eB->fm->gR->iO->kr->World->gr->tM->(cH->cJ->cS->df->dy->dK->ee->eB->fm->gR->iO->kr->ao)->Prop)(cc:cH)(ζ:cJ)(σ:cS)(ad:df)(aA:dy)(ak:dK)(aI:ee)(aV:eB)(cg:fm)(cm:gR)(eK:iO)(fl:kr)(w:World)(fz:gr)(c1:tM):Prop:=∃(bD:cH->cJ->cS->df->dy->dK->ee->eB->fm->gR->iO->kr->ao)(m:cH->cJ->cS->df->dy->dK->ee->eB->fm->gR->iO->kr->World->Nat),bD cc ζ σ ad aA ak aI aV cg cm eK fl w/\∀cc ζ σ ad aA ak aI aV cg cm eK fl w,bD cc ζ σ ad aA ak aI aV cg cm eK fl w->b cc ζ σ ad aA ak aI aV cg cm eK fl w fz c1 λfR gq gy hg hI h9 iH ir kq mC nC tL v=>bD fR gq gy hg hI h9 iH ir kq mC nC tL v/\m fR gq gy hg hI h9 iH ir kq mC nC tL v<m cc ζ σ ad aA ak aI aV cg cm eK fl w
abbrev Oi{cH cJ cS df dy dK ee eB fm gR iO kr qv gr:Type}(b:cH->cJ->cS->df->dy->dK->ee->eB->fm->gR->iO->kr->qv->World->gr->(cH->cJ->cS->df->dy->dK->ee->eB->fm->gR->iO->kr->qv->ao)->Prop)(cc:cH)(ζ:cJ)(σ:cS)(ad:df)(aA:dy)(ak:dK)(aI:ee)(aV:eB)(cg:fm)(cm:gR)(eK:iO)(fl:kr)(c7:qv)(w:World)(fz:gr):Prop:=∃(bD:cH->cJ->cS->df->dy->dK->ee->eB->fm->gR->iO->kr->qv->ao)(m:cH->cJ->cS->df->dy->dK->ee->eB->fm->gR->iO->kr->qv->World->Nat),bD cc ζ σ ad aA ak aI aV cg cm eK fl c7 w/\∀cc ζ σ ad aA ak aI aV cg cm eK fl c7 w,bD cc ζ σ ad aA ak aI aV cg cm eK fl c7 w->b cc ζ σ ad aA ak aI aV cg cm eK fl c7 w fz λfR gq gy hg hI h9 iH ir kq mC nC tL wq v=>bD fR gq gy hg hI h9 iH ir kq mC nC tL wq v/\m fR gq gy hg hI h9 iH ir kq mC nC tL wq v<m cc ζ σ ad aA ak aI aV cg cm eK fl c7 w
abbrev apz{cH cJ cS df dy dK ee eB fm gR iO kr qv gr tM:Type}(b:cH->cJ->cS->df->dy->dK->ee->eB->fm->gR->iO->kr->qv->World->gr->tM->(cH->cJ->cS->df->dy->dK->ee->eB->fm->gR->iO->kr->qv->ao)->Prop)(cc:cH)(ζ:cJ)(σ:cS)(ad:df)(aA:dy)(ak:dK)(aI:ee)(aV:eB)(cg:fm)(cm:gR)(eK:iO)(fl:kr)(c7:qv)(w:World)(fz:gr)(c1:tM):Prop:=∃(bD:cH->cJ->cS->df->dy->dK->ee->eB->fm->gR->iO->kr->qv->ao)(m:cH->cJ->cS->df->dy->dK->ee->eB->fm->gR->iO->kr->qv->World->Nat),bD cc ζ σ ad aA ak aI aV cg cm eK fl c7 w/\∀cc ζ σ ad aA ak aI aV cg cm eK fl c7 w,bD cc ζ σ ad aA ak aI aV cg cm eK fl c7 w->b cc ζ σ ad aA ak aI aV cg cm eK fl c7 w fz c1 λfR gq gy hg hI h9 iH ir kq mC nC tL wq v=>bD fR gq gy hg hI h9 iH ir kq mC nC tL wq v/\m fR gq gy hg hI h9 iH ir kq mC nC tL wq v<m cc ζ σ ad aA ak aI aV cg cm eK fl c7 w
abbrev apA{cH cJ cS df dy dK ee eB fm gR iO kr qv Mi gr:Type}(b:cH->cJ->cS->df->dy->dK->ee->eB->fm->gR->iO->kr->qv->Mi->World->gr->(cH->cJ->cS->df->dy->dK->ee->eB->fm->gR->iO->kr->qv->Mi->ao)->Prop)(cc:cH)(ζ:cJ)(σ:cS)(ad:df)(aA:dy)(ak:dK)(aI:ee)(aV:eB)(cg:fm)(cm:gR)(eK:iO)(fl:kr)(c7:qv)(gb:Mi)(w:World)(fz:gr):Prop:=∃(bD:cH->cJ->cS->df->dy->dK->ee->eB->fm->gR->iO->kr->qv->Mi->ao)(m:cH->cJ->cS->df->dy->dK->ee->eB->fm->gR->iO->kr->qv->Mi->World->Nat),bD cc ζ σ ad aA ak aI aV cg cm eK fl c7 gb w/\∀cc ζ σ ad aA ak aI aV cg cm eK fl c7 gb w,bD cc ζ σ ad aA ak aI aV cg cm eK fl c7 gb w->b cc ζ σ ad aA ak aI aV cg cm eK fl c7 gb w fz λfR gq gy hg hI h9 iH ir kq mC nC tL wq ahs v=>bD fR gq gy hg hI h9 iH ir kq mC nC tL wq ahs v/\m fR gq gy hg hI h9 iH ir kq mC nC tL wq ahs v<m cc ζ σ ad aA ak aI aV cg cm eK fl c7 gb w
end Go.Proofs.YtcpdfhkhaekekaaGreat.G

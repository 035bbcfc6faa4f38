/- The walk of the functions, and the plain laws of the model: part of the proof. Conditions: none. -/
import Derived.OrdersIn
import Derived.TacticsIn
import Derived.RangeFuncFrom
import Derived.RangeFuncLeaves
import Derived.RangeFuncCalls
import Derived.Test.YtcpdfhkhaekekaaGreatProg
import Derived.KernelRfl
import Derived.Test.YtcpdfhkhaekekaaGreatA1
set_option linter.unusedVariables false
set_option linter.unusedSimpArgs false
namespace Go.bJ
def sF(r:Option Nat):Fence:={Fence.wide with round:=r}
theorem aa8{r:Option Nat}{m:Nat}{P:Program}{f:FuncId}{args:aj}{w:World}{R:au}(h:Calls P f args w R):CallsIn (sF r) m P f args w R:=(callsIn_wide (n:=m)).2 h
theorem auQ{r:Option Nat}{m:Nat}{P:Program}{row:String}{args:aj}{w:World}{R:Value->al}(h:Rows P row args w R):RowsIn (sF r) m P row args w R:=λc cs _=>by obtain⟨v,w',φ,ab⟩:=h c cs;exact⟨v,w',φ,stepsIn_wide.2 ab⟩
def Jw(o:Oper):Bool:=match o.op with| .defer _=>false|_=>true
structure Same(ds:List Deferred)(a0 a:Act):Prop where
 tmps:a0.tmps=a.tmps
 defs:a.defers=a0.defers++ds
theorem Same.put{ds:List Deferred}{a0 a:Act}(h:Same ds a0 a)(d:Option Nat)(v:Value):Same ds (a0.put d v) (a.put d v):=by
 cases d with
 |none=>exact h
 |some d=>exact⟨by simp only[Act.put];rw[h.tmps],h.defs⟩
theorem Same.eval{ds:List Deferred}{a0 a:Act}(h:Same ds a0 a):a0.eval=a.eval:=by
 funext x
 cases x with
 |tmp t=>show a0.tmps.getD t undef=a.tmps.getD t undef;rw[h.tmps]
 |_=>rfl
theorem afb{r:Option Nat}{m:Nat}{P:Program}{ds:List Deferred}{o:Oper}{a0 a:Act}{w:World}{K sG:Act->al}{Q Q':Exit->Act->al}(ab:Same ds a0 a)(l9:Jw o=true)
  (h:o.wp P a0 w K Q)(jA:∀r7 b w,Same ds r7 b->K r7 w->sG b w)(dd:∀dg w,Q (.panic dg) a0 w->Q' (.panic dg) a w)(gy:¬LetsOut Q):o.wpIn (sF r) m P a w sG Q':=by
 refine⟨λ_ _=>trivial,?_⟩;rw[Oper.semAt_eq _ _ _ (by intro c e;simp[Jw,e]at l9)];unfold Oper.wp at h;rw[ab.eval]at h;generalize(execOp a.eval o).run P w=res at h⊢;cases res with
 |ok x w'=>
  cases x with
  |value v=>exact jA _ _ _ (ab.put _ _) h
  |skip=>exact jA _ _ _ (ab.put _ _) h
  |defer d=>
   refine jA _ _ _ (Same.put ?_ _ _) h;exact⟨ab.tmps,by dsimp only;rw[ab.defs];rfl⟩
  |enter f args=>
   refine⟨λe=>(by cases e),aa8 (Calls.mono h λe iu he=>?_)⟩;cases e with
   |returned v=>exact jA _ _ _ (ab.put _ _) he
   |panicked dg=>exact dd _ _ he
   |outgrown=>exact absurd he gy
  |row row args=>exact⟨λe=>(by cases e),auQ (Rows.mono h λv iu az=>jA _ _ _ (ab.put _ _) az)⟩
  |_=>exact h.elim
 |halt x w'=>
  cases x with
  |panic v=>exact dd _ _ h
  |_=>exact h.elim
theorem Q6{r:Option Nat}{m:Nat}{P:Program}{ds:List Deferred}{ops:Array Oper}{Q Q':Exit->Act->al}(l9:∀o∈ops.toList,Jw o=true)(dY:∀e a0 a w,Same ds a0 a->Q e a0 w->Q' e a w)(gy:¬LetsOut Q):
  ∀(l:List Nat)(a0 a:Act)(w:World),Same ds a0 a->wpOps P ops Q l a0 w->wpOpsIn (sF r) m P ops Q' l a w
 |[],a0,a,w,ab,h=>dY _ _ _ _ ab h
 |i::rest,a0,a,w,ab,h=>by
  unfold wpOps at h;unfold wpOpsIn;cases aG:ops[i]?with
  |none=>
   rw[aG]at h;exact Q6 l9 dY gy rest a0 a w ab h
  |some o=>
   rw[aG]at h;dsimp only at h⊢;rw[ab.tmps]at h;split at h
   ·rename_i hw;rw[aN hw];rcases h with h|⟨_,h⟩
    ·exact afb ab (l9 o (by rw[<-Array.getElem?_toList]at aG;exact fa aG)) h (λr7 b w τ hk=>Q6 l9 dY gy rest r7 b w τ hk) (λdg w hp=>dY _ _ _ _ ab hp) gy
    ·exact absurd h gy
   ·rename_i hw;rw[aL hw];exact⟨λ_ _=>trivial,Q6 l9 dY gy rest _ _ _ (ab.put _ _) h⟩
def pK(ds:List Deferred)(n:Nat)(a:Act)(ο:dj):Prop:=a.defers=ds/\a.tmps.size=n/\∀d v,ο.get d=some v->a.tmps[d]?=some v
theorem pK.base{ds:List Deferred}{n:Nat}{a:Act}{ο:dj}(h:pK ds n a ο):Rel n {a with defers:=[]} ο:=⟨rfl,h.2.1,h.2.2⟩
theorem pK.same{ds:List Deferred}{n:Nat}{a:Act}{ο:dj}(h:pK ds n a ο):Same ds {a with defers:=[]} a:=⟨rfl,by rw[h.1];rfl⟩
theorem pK.of{ds:List Deferred}{n:Nat}{a0 a:Act}{ο:dj}(h:Rel n a0 ο)(ab:Same ds a0 a):pK ds n a ο:=⟨by rw[ab.defs,h.1];rfl,by rw[<-ab.tmps];exact h.2.1,λd v az=>by rw[<-ab.tmps];exact h.2.2 d v az⟩
def A2(ds:List Deferred)(n:Nat)(Q:j9)(Q':Exit->Act->al):Prop:=∀e a ο w,pK ds n a ο->Q e ο w->Q' e a w
theorem A2.iZ{ds:List Deferred}{n:Nat}{Q:j9}{Q':Exit->Act->al}(h:A2 ds n Q Q'){N:dj->al}{lr:Act->al}(ek:∀a ο w,pK ds n a ο->N ο w->lr a w):A2 ds n (bJ.iZ N Q) (Exit.then lr Q'):=by intro e a ο w φ aH;cases e<;>first|exact ek _ _ _ φ aH|exact h _ _ _ _ φ aH
theorem A2.uu{ds:List Deferred}{n:Nat}{Q:j9}{Q':Exit->Act->al}(h:A2 ds n Q Q')(id:Nat):A2 ds n (bJ.uu id Q) (Exit.inBlock id Q'):=by
 intro e a ο w φ aH;cases e with
 |exit Ac=>
  simp only[bJ.uu]at aH;simp only[Exit.inBlock];by_cases e:Ac=id
  ·subst e;simp only[DR,ts]at aH;rw[aN rfl];exact h _ _ _ _ φ aH
  ·have:Nat.beq Ac id=false:=by
    cases τ:Nat.beq Ac id with
    |false=>rfl
    |true=>exact(e (yY τ)).elim
   rw[this]at aH;rw[aL e];exact h _ _ _ _ φ aH
 |_=>exact h _ _ _ _ φ aH
def Zf(P:Program)(l:Nat)(args:aj)(w:World)(N:Value->al):Prop:=YieldAt Fence.wide 0 P l args w λe w'=>∃v,e=.returned v/\N v w'
def yieldOf(o:Oper)(ο:dj):Option (Nat×List Operand):=
 match o.op with
 | .call cl=>(match cl.callee with
  | .value (.tmp t)=>(match ο.get t with
   |some (.func (.yield l) kd gX)=>cond (Nat.beq kd.size 0&&Nat.beq gX.size 0) (some (l,cl.args.toList)) none
   |_=>none)
  |_=>none)
 |_=>none
def II(c:di)(n:Nat)(ops:List Oper)(Q:dj->al)(X:dj->List PanicEntry->al):List Oper->dj->al
 |[],ο,w=>Q ο w
 |o::r,ο,w=>C8 ops o.guard ο
  (λο=>match yieldOf o ο with
   |some (l,xs)=>qc ο xs λvs=>Zf c.P l vs.toArray w λv w'=>ξ (e6 c.tb o.type) λi=>zF i.desc v λv=>uH n o.dst v ο λο=>II c n ops Q X r ο w'
   |none=>Fv c o ο w (λv w=>uH n o.dst v ο λο=>II c n ops Q X r ο w) (X ο))
  (λο=>uH n o.dst undef ο λο=>II c n ops Q X r ο w)
theorem PH{c:di}(π:hT c){n:Nat}{rd:Option Nat}{m:Nat}{ds:List Deferred}{ops:List Oper}(l9:∀o∈ops,Jw o=true){Q:dj->al}{X:dj->List PanicEntry->al}{Q':Exit->Act->al}
  (dY:∀a ο w,pK ds n a ο->Q ο w->Q' .normal a w)(fF:∀a ο dg w,pK ds n a ο->X ο dg w->Q' (.panic dg) a w):
  ∀(l:List Oper),(∀o∈l,o∈ops)->∀(a:Act)(ο:dj)(w:World),pK ds n a ο->II c n ops Q X l ο w->wpListIn (sF rd) m c.P ops.toArray Q' l a w
 |[],_,a,ο,w,φ,h=>dY a ο w φ h
 |o::r,ak,a,ο,w,φ,h=>by
  unfold wpListIn;have l0:∀o∈r,o∈ops:=λx J=>ak x (ie _ J);have pg:=l9 o (ak o (oj ..));rcases Fz φ.base h with⟨hw,gk,e3,h⟩|⟨hw,gk,e3,h⟩
  ·rw[aN hw];cases ag:yieldOf o gk with
   |none=>
    rw[ag]at h;refine afb (Q:=λe b w'=>∃dg,e=.panic dg/\X gk dg w') φ.same pg (Ll π e3 (K:=λb w'=>∃iO,Rel n b iO/\II c n ops Q X r iO w') (λv w' hp=>xw e3 hp) (λdg w' J=>⟨dg,rfl,J⟩) h) (λr7 b w' ab⟨iO,ju,ι⟩=>?_) (λdg w'⟨amr,e,J⟩=>?_) (λ⟨b,w',dg,e,_⟩=>by cases e)
    ·exact PH π l9 dY fF r l0 _ _ _ (.of ju ab) ι
    ·cases e;exact fF a gk dg w' (.of e3 φ.same) J
   |some p=>
    obtain⟨l,xs⟩:=p;rw[ag]at h;dsimp only at h;have h:=yR e3 h;have z1:∃cl t,o.op=.call cl/\cl.callee=.value (.tmp t)/\gk.get t=some (.func (.yield l) #[] #[])/\xs=cl.args.toList:=by
     unfold yieldOf at ag;split at ag
     ·rename_i cl gD;split at ag
      ·rename_i t aS;split at ag
       ·rename_i mF kd gX bH;cases aI:Nat.beq kd.size 0&&Nat.beq gX.size 0 with
        |false=>rw[aI]at ag;cases ag
        |true=>
         rw[aI]at ag;simp only[ts,tt,G0]at ag;have aI:=JR.1 aI;have aP:kd=#[]:=Rp (yY aI.1);have bM:gX=#[]:=Rp (yY aI.2);exact⟨cl,t,gD,aS,by rw[bH,ag.1,aP,bM],ag.2.symm⟩
       ·cases ag
      ·cases ag
     ·cases ag
    obtain⟨cl,t,gD,zO,n2,rfl⟩:=z1;have fj:a.eval (.tmp t)=.func (.yield l) #[] #[]:=by
     have:=e3.2.2 t _ n2
     show a.tmps.getD t undef=_;rw[Ha];have e:({a with defers:=[]}:Act).tmps=a.tmps:=rfl;rw[e]at this;rw[this];rfl
    obtain⟨fn,tmps,assign,body,iN,z7⟩:=h;refine⟨λ_ _=>trivial,?_⟩;rw[Oper.semAt_eq _ _ _ (by intro d e;rw[gD]at e;cases e)];have Uv:(cl.args.toList.map ({a with defers:=[]}:Act).eval).toArray=cl.args.map a.eval:=by apply rM;simp only[G1];rfl
    rw[Uv]at iN;have hex:(execOp a.eval o).run c.P w=.ok (.round l fn tmps assign body) w:=by unfold execOp;simp only[gD];unfold resolve;simp only[zO,fj,Deferred.ofValue,pure_bind,invoke,Sem.run_bind,Sem.run_pure,Result.andThen_ok];simpa using iN
    rw[hex];refine⟨λe=>(by cases e),?_⟩;refine RoundIn.mono (F:=sF rd) (n:=m-1) ⟨z7.1,λc cs _=>z7.2 c cs (room_wide _)⟩ λe w' he=>?_;obtain⟨v,rfl,az⟩:=he;obtain⟨i,I,az⟩:=dC az;obtain⟨iO,ju,ι⟩:=xw e3 (Fl az);exact PH π l9 dY fF r l0 _ _ _ (.of ju (φ.same.put _ _)) ι
  ·rw[aL (by simp[hw])];obtain⟨iO,ju,ι⟩:=xw e3 h;exact⟨λ_ _=>trivial,PH π l9 dY fF r l0 _ _ _ (.of ju (φ.same.put _ _)) ι⟩
def sd(c:di)(n:Nat):Code->ko->j9->dj->al
 | .skip,_,Q,ο,w=>Q .normal ο w
 | .ret,_,Q,ο,w=>Q .ret ο w
 | .exit id,_,Q,ο,w=>Q (.exit id) ο w
 | .region _ ops Ft,_,Q,ο,w=>ν (ops.toList.all Jw) (cond Ft
  (ν (xo ops.toList) (uh c n ops.toList (Q .normal) (λdg w=>Q (.panic dg) [] w) (ops.toList.length+1) [] [] ο w.drew))
  (II c n ops.toList (Q .normal) (λο dg w=>Q (.panic dg) ο w) ops.toList ο w))
 | .seq x y,s,Q,ο,w=>sd c n x s.left (iZ (J7 s (sd c n y s.right Q)) Q) ο w
 | .cond p x y,s,Q,ο,w=>e0 ο p λv=>dF v λb=>cond b (sd c n x s.left Q ο w) (sd c n y s.right Q ο w)
 | .block id x,s,Q,ο,w=>sd c n x s.left (uu id Q) ο w
 | .label _,_,Q,ο,w=>Q .normal ο w
 | .loop x,.loop cg K _,Q,ο,w=>gV cg K ο w
 |_,_,_,_,_=>False
def yN(c:di)(n:Nat):Code->ko->j9->Prop
 | .seq x y,.cut cg K wi rS,Q=>yN c n x wi (iZ (gV cg K) Q)/\mj cg K (sd c n y rS Q) []/\yN c n y rS Q
 | .seq x y,s,Q=>yN c n x s.left (iZ (J7 s (sd c n y s.right Q)) Q)/\yN c n y s.right Q
 | .cond _ x y,s,Q=>yN c n x s.left Q/\yN c n y s.right Q
 | .block id x,s,Q=>yN c n x s.left (uu id Q)
 | .loop x,.loop cg K body,Q=>
  mj cg K (λο w=>∃(bE:hy Prop cg)(m:hy Nat cg),gV cg bE ο w/\pB cg bE m (λk ο w=>sd c n x (body (nk cg bE m k)) (iZ (gV cg (nk cg bE m k)) Q) ο w) []) []/\
   ∀C:hy Prop cg,yN c n x (body C) (iZ (gV cg C) Q)
 |_,_,_=>True
def yO(c:di)(n:Nat):Code->ko->j9->Prop->Prop
 | .seq x y,.cut cg K wi rS,Q,r=>yO c n x wi (iZ (gV cg K) Q) (mj cg K (sd c n y rS Q) []/\yO c n y rS Q r)
 | .seq x y,s,Q,r=>yO c n x s.left (iZ (J7 s (sd c n y s.right Q)) Q) (yO c n y s.right Q r)
 | .cond _ x y,s,Q,r=>yO c n x s.left Q (yO c n y s.right Q r)
 | .block id x,s,Q,r=>yO c n x s.left (uu id Q) r
 | .loop x,.loop cg K body,Q,r=>
  mj cg K (λο w=>∃(bE:hy Prop cg)(m:hy Nat cg),gV cg bE ο w/\pB cg bE m (λk ο w=>sd c n x (body (nk cg bE m k)) (iZ (gV cg (nk cg bE m k)) Q) ο w) []) []/\
   (∀C:hy Prop cg,yO c n x (body C) (iZ (gV cg C) Q) True)/\r
 |_,_,_,r=>r
theorem as6{c:di}{n:Nat}:∀(x:Code)(s:ko)(Q:j9)(r:Prop),yO c n x s Q r->yN c n x s Q/\r:=by
 intro x
 induction x with
 |seq x y nJ nK=>
  intro s Q r h;cases s with
  |cut cg K wi rS=>
   obtain⟨h1,ι,aJ⟩:=nJ _ _ _ h;obtain⟨cK,dx⟩:=nK _ _ _ aJ;exact⟨⟨h1,ι,cK⟩,dx⟩
  |_=>
   obtain⟨h1,ι⟩:=nJ _ _ _ h;obtain⟨cK,dx⟩:=nK _ _ _ ι;exact⟨⟨h1,cK⟩,dx⟩
 |cond p x y nJ nK=>
  intro s Q r h;obtain⟨h1,ι⟩:=nJ _ _ _ h;obtain⟨cK,dx⟩:=nK _ _ _ ι;exact⟨⟨h1,cK⟩,dx⟩
 |block id x cw=>exactλs Q r h=>cw _ _ _ h
 |loop x cw=>
  intro s Q r h;cases s with
  |loop cg K body=>
   obtain⟨h1,ι,aJ⟩:=h;exact⟨⟨h1,λC=>(cw _ _ _ (ι C)).1⟩,aJ⟩
  |_=>exact⟨trivial,h⟩
 |_=>exactλs Q r h=>⟨trivial,h⟩
theorem UJ{c:di}(π:hT c){n:Nat}{rd:Option Nat}{m:Nat}{ds:List Deferred}:∀(x:Code)(s:ko)(Q:j9)(Q':Exit->Act->al)(a:Act)(ο:dj)(w:World),
  yN c n x s Q->A2 ds n Q Q'->pK ds n a ο->sd c n x s Q ο w->x.wpIn (sF rd) m c.P Q' a w:=by
 intro x
 induction x with
 |skip=>exactλs Q Q' a ο w _ dY φ h=>wpIn_skip (dY _ _ _ _ φ h)
 |ret=>exactλs Q Q' a ο w _ dY φ h=>wpIn_ret (dY _ _ _ _ φ h)
 |exit id=>exactλs Q Q' a ο w _ dY φ h=>wpIn_exit (dY _ _ _ _ φ h)
 |label l=>exactλs Q Q' a ο w _ dY φ h=>wpIn_label (dY _ _ _ _ φ h)
 |goto l=>exactλs Q Q' a ο w _ dY φ h=>h.elim
 |refuse m=>exactλs Q Q' a ο w _ dY φ h=>h.elim
 |scope x cw=>exactλs Q Q' a ο w _ dY φ h=>h.elim
 |rangeFunc f ps sM sQ=>exactλs Q Q' a ο w _ dY φ h=>h.elim
 |region id ops Ft=>
  intro s Q Q' a ο w _ dY φ h;obtain⟨l9,h⟩:=iy h;have l9:∀o∈ops.toList,Jw o=true:=λo aG=>DS.1 l9 o aG;cases Ft with
  |false=>
   refine wpIn_region_list ?_
   have:=PH π (rd:=rd) (m:=m) (ds:=ds) l9 (Q:=Q .normal) (X:=λο dg w=>Q (.panic dg) ο w) (Q':=Q') (λa ο w φ h=>dY _ _ _ _ φ h) (λa ο dg w φ h=>dY _ _ _ _ φ h) ops.toList (λo aG=>aG) a ο w φ h
   simpa using this
  |true=>
   obtain⟨dJ,h⟩:=iy h;refine wpIn_region_draw λt=>?_;simp only[Region.schedule,π.mixed,Bool.true_or,qg];have τ:=φ.base;have key:=abM π dJ (Q:=Q .normal) (X:=λdg w=>Q (.panic dg) [] w) (Q':=λe b w'=>(e=.normal/\∃ο,Rel n b ο/\Q .normal ο w')\/∃dg,e=.panic dg/\Rel n b []/\Q (.panic dg) [] w')
    (λa ο w φ h=>.inl ⟨rfl,ο,φ,h⟩) (λa dg w φ h=>.inr ⟨dg,rfl,φ,h⟩) ops.size _ [] [] ο {a with defers:=[]} {a with defers:=[]} (Array.replicate ops.size false) _ ?_ ?_ h
   ·refine Q6 l9 (λe a0 a w ab aH=>?_) (λ⟨b,w',aH⟩=>?_) _ _ a _ φ.same (wpAny_sound ops.size t _ _ _ key)
    ·rcases aH with⟨rfl,ο,Dn,aH⟩|⟨dg,rfl,Dn,aH⟩
     ·exact dY _ _ _ _ (.of Dn ab) aH
     ·exact dY _ _ _ _ (.of Dn ab) aH
    ·rcases aH with⟨e,_⟩|⟨dg,e,_⟩<;>cases e
   ·refine⟨τ,τ.1,τ.2.1,by simp,?_,trivial,?_,?_,?_,λd _=>rfl,λi I=>(by cases I)⟩
    ·intro i I;rw[Array.getElem?_replicate]at I;split at I<;>simp at I
    ·intro i I;rw[Array.getElem?_replicate]at I;split at I<;>simp at I
    ·intro i I;cases I
    ·intro i I;cases I
   ·simp
 |seq x y nJ nK=>
  intro s Q Q' a ο w aG dY φ h;refine wpIn_seq ?_;cases s with
  |cut cg K wi rS=>
   obtain⟨mT,l3,xa⟩:=aG;refine nJ wi (iZ (gV cg K) Q) _ a ο w mT (dY.iZ λfL gk w' e3 hk=>?_) φ h;obtain⟨iO,ju,ι⟩:=pC e3.base e3.base.nil l3 hk;exact nK rS Q Q' fL iO w' xa dY (.of ju e3.same) ι
  |_=>
   obtain⟨mT,l3⟩:=aG;exact nJ _ _ _ a ο w mT (dY.iZ λfL gk w' e3 hk=>nK _ Q Q' fL gk w' l3 dY e3 hk) φ h
 |cond p x y nJ nK=>
  intro s Q Q' a ο w aG dY φ h;obtain⟨b,τ,h⟩:=CZ (hc φ.base h);have τ:a.eval p=.bool b:=by rw[<-τ,φ.same.eval]
  refine wpIn_cond τ ?_;cases b with
  |true=>exact nJ s.left Q Q' a ο w aG.1 dY φ h
  |false=>exact nK s.right Q Q' a ο w aG.2 dY φ h
 |block id x cw=>
  intro s Q Q' a ο w aG dY φ h;exact wpIn_block (cw s.left _ _ a ο w aG (dY.uu id) φ h)
 |loop x cw=>
  intro s Q Q' a ο w aG dY φ h;cases s with
  |loop cg K body=>
   obtain⟨mT,l3⟩:=aG;obtain⟨aff,vL,bE,aew,jt,z7⟩:=pC φ.base φ.base.nil mT h;have L8:∀{a:Act}{ο:dj},pK ds n a ο->∀d v,ο.get d=some v->(zu a).get d=some v:=λφ d v h=>by rw[PO];exact φ.2.2 d v h
   have vL:pK ds n a aff:=.of vL φ.same;refine wpIn_loop (λa w=>a.defers=ds/\a.tmps.size=n/\gV cg bE (zu a) w) (λa w=>nm cg aew (zu a) w) ⟨vL.1,vL.2.1,(qp (L8 vL) jt).1⟩ ?_;rintro fL w' ⟨ah,ar,Va⟩;have Jb:pK ds n fL (zu fL):=⟨ah,ar,λd v h=>by rw[<-PO];exact h⟩;obtain⟨iO,ju,ι⟩:=rU Jb.base Jb.base.nil z7 Va;refine cw _ _ _ fL iO w' (l3 _) (dY.iZ λa3 atp χ F7 aJ=>?_) (.of ju Jb.same) ι;obtain⟨cK,dx⟩:=rV aJ;obtain⟨h8,hq⟩:=qp (L8 F7) cK;exact⟨⟨F7.1,F7.2.1,h8⟩,by rw[<-hq aew];exact dx⟩
  |_=>exact h.elim
structure Tn{α:Type}(P:Program)(gf:Nat)(lb:aj)(enc:α->Value)(fU:World->al)(S Sp:List α->Prop)(N:Nat)(bE q2:List α->al)(w:World):Prop where
 seq:SeqStopsK Fence.wide 0 P gf lb (λx=>#[enc x]) fU S Sp N w
 trans:∀{A B C:World},fU A B->fU B C->fU A C
 book:∀(W:World)(l:Nat)(o ib:Obj),w.heap.size<=l->W.heap[l]?=some o->o.isCells=false->o.isWalk=false->fU W (W.putObj l ib)
 own:OwnFrom w.heap.size bE
 atx:OwnFrom w.heap.size q2
 start:bE [] w
def auH{α:Type}(fU:World->al)(bE q2:List α->al)(xs:List α)(W:World):j9
 | .normal,_,bq=>KeepsOthers W bq/\fU W bq/\bE xs bq
 | .ret,_,bq=>KeepsOthers W bq/\q2 xs bq
 |_,_,_=>False
def K3(D:Nat):Deferred:={target:=.collected D,args:=#[]}
def SL(D:Nat)(Q:j9):j9:=λe ο w=>w.heap[D]?=some (.deferred (some []))/\Q e ο (w.putObj D (.deferred none))
def aaz:Code->Array Tmp->Option (Nat×Nat)
 | .region _ ops false,ps=>(match ops.toList,ps.toList with
  |[o],[p]=>(match o.op,o.dst,o.guard with
   | .assign (.tmp q),some d,none=>cond (Nat.beq q p) (some (p,d)) none
   |_,_,_=>none)
  |_,_=>none)
 |_,_=>none
def al6:Code->Option TypeId
 | .region _ ops false=>(match ops.toList with|[o]=>some o.type|_=>none)
 |_=>none
def DK:Code->Bool
 | .seq x y=>DK x&&DK y
 | .cond _ x y=>DK x&&DK y
 | .block _ x=>DK x
 | .loop _=>false
 |_=>true
theorem ae0{c:di}{n:Nat}:∀(x:Code)(Q:j9),DK x=true->yN c n x .leaf Q:=by
 intro x
 induction x with
 |seq x y nJ nK=>exactλQ h=>⟨nJ _ (JR.1 h).1,nK _ (JR.1 h).2⟩
 |cond p x y nJ nK=>exactλQ h=>⟨nJ _ (JR.1 h).1,nK _ (JR.1 h).2⟩
 |block id x cw=>exactλQ h=>cw _ h
 |loop x cw=>exactλQ h=>trivial
 |_=>exactλQ h=>trivial
def K9(v:Value)(K:Nat->aj->aj->Prop):Prop:=match v with| .func (.func gf) kd lb=>K gf kd lb|_=>False
theorem amU{v:Value}{K:Nat->aj->aj->Prop}(h:K9 v K):∃gf kd lb,v=.func (.func gf) kd lb/\K gf kd lb:=by
 unfold K9 at h;split at h
 ·exact⟨_,_,_,rfl,h⟩
 ·exact h.elim
def Nz(c:di)(n:Nat)(g:Operand)(ps:Array Tmp)(sM sQ y:Code)(Q:j9)(ο:dj)(w:World):Prop:=
 ξ (aaz sM ps) λpd=>e0 ο g λv=>K9 v λgf kd lb=>ν (Nat.beq kd.size 0&&c.fns.contains gf&&Nat.blt pd.1 n&&Nat.blt pd.2 n&&DK sQ&&DK y)
  (∃(α:Type)(enc:α->Value)(fU:World->al)(S Sp:List α->Prop)(N:Nat)(bE q2:List α->al),Tn c.P gf lb enc fU S Sp N bE q2 w/\
   (∀(pre:List α)(x:α)(W:World),bE pre W->pre.length<N->ξ (al6 sM) λty=>ξ (e6 c.tb ty) λi=>zF i.desc (enc x) λv=>sd c n sQ .leaf (auH fU bE q2 (pre++[x]) W) ((pd.2,v)::(pd.1,v)::ο) W)/\
   (∀(D:Nat)(xs:List α)(W:World),w.heap.size<=D->S xs->bE xs W->W.heap[D]?=some (.deferred (some []))->sd c n y .leaf (SL D Q) ο W)/\
   (∀(D:Nat)(pre:List α)(W:World),w.heap.size<=D->Sp pre->q2 pre W->W.heap[D]?=some (.deferred (some []))->SL D Q .ret ο W))
theorem auI{c:di}(π:hT c){n id:Nat}{g:Operand}{ps:Array Tmp}{sM sQ y:Code}{Q:j9}{Q':Exit->Act->al}{a:Act}{ο:dj}{w:World}
  (lE:∀D,A2 [K3 D] n (SL D Q) Q')(φ:Rel n a ο)(h:Nz c n g ps sM sQ y Q ο w):
  (Code.block id (.rangeFunc g ps sM sQ)).wpIn (sF none) 2 c.P (Exit.then (y.wpIn (sF none) 2 c.P Q') Q') a w:=by
 obtain⟨⟨p,d⟩,s7,h⟩:=dC h;have h1:=hc φ h;clear h;obtain⟨gf,kd,lb,bH,ι⟩:=amU h1;clear h1;have cK:=iy ι;clear ι;obtain⟨τ,aJ⟩:=cK;simp only[lf]at τ;obtain⟨⟨⟨⟨⟨δ,ζ⟩,ax⟩,aa⟩,cu⟩,dR⟩:=τ;have apN:kd=#[]:=Rp (yY δ);subst apN;have hp:p+1<=n:=by simpa[Nat.blt,Nat.ble_eq]using ax
 have ah:d+1<=n:=by simpa[Nat.blt,Nat.ble_eq]using aa
 have hp:p<n:=hp;have ah:d<n:=ah;obtain⟨fn,VM,Mb,Vt⟩:=π.fn gf (by simpa using ζ);obtain⟨α,enc,fU,S,Sp,N,bE,q2,ok,LN,apz,aq0⟩:=aJ;have has:∃i ops o,sM=.region i ops false/\ops.toList=[o]/\ps=#[p]/\o.op=.assign (.tmp p)/\o.dst=some d/\o.guard=none:=by
  unfold aaz at s7;split at s7
  ·rename_i i ops;split at s7
   ·rename_i o q V9 z6;split at s7
    ·rename_i fp d2 h1 ι aJ;cases aH:Nat.beq fp q with
     |false=>rw[aH]at s7;cases s7
     |true=>
      rw[aH]at s7;simp only[ts,tt,G0]at s7;have aH:=yY aH;obtain⟨rfl,rfl⟩:=s7;refine⟨_,ops,o,rfl,V9,?_,by rw[h1,aH],ι,aJ⟩;apply rM;exact z6
    ·cases s7
   ·cases s7
  ·cases s7
 obtain⟨i,ops,o,rfl,V9,rfl,z1,s4,VO⟩:=has;refine wpIn_block ?_
 let aw:α->Act:=λx=>{tmps:=(a.tmps.setIfInBounds p (enc x)).setIfInBounds d (enc x),defers:=[]}
 refine wpIn_rangeFunc_ownF (F:=sF none) (n:=2) (w0:=w) rfl (by omega) (gf:=gf) (lb:=lb) bH trivial (λargs w=>agb VM Mb Vt) (encs:=λx=>#[enc x]) (Kp:=fU) (S:=S) (Sp:=Sp) (N:=N) ?_ (λh k=>ok.trans h k) ok.book (Go.RowKit.Below.refl _ _) (λx=>rfl)
  bE (λc xs W=>c=.ret/\q2 xs W) ok.own ?_ ok.start aw ?_ ?_ ?_ ?_
 ·intro l Et Te W τ LD Vb ag aF
  have:=ok.seq l Et Te W τ LD Vb (λpre x q4 ψ ak=>by obtain⟨fn,tmps,assign,body,Wv,Qz⟩:=ag pre x q4 ψ ak;exact⟨fn,tmps,assign,body,Wv,⟨Qz.1,λc cs _=>Qz.2 c cs (room_wide _)⟩⟩) aF
  exact aa8 (callsIn_wide.1 this)
 ·intro c s A B row ab pY l4;exact⟨ab.1,ok.atx _ A B row ab.2 pY l4⟩
 ·intro l x W K jA;refine wpIn_region_list ?_;rw[V9];unfold wpListIn;rw[aN (by simp[Region.wanted,VO])];refine⟨λ_ _=>trivial,?_⟩;rw[Oper.semAt_eq _ _ _ (by intro c e;rw[z1]at e;cases e)];have hB:(#[p].zip #[enc x]).foldl (λt(x:Nat×Value)=>t.setIfInBounds x.1 x.2) a.tmps=a.tmps.setIfInBounds p (enc x):=by
   have:(#[p].zip #[enc x]).toList=[(p,enc x)]:=by simp
   rw[<-Array.foldl_toList,this];rfl
  have apL:(a.tmps.setIfInBounds p (enc x)).getD p undef=enc x:=by
   have:p<a.tmps.size:=by rw[φ.2.1];exact hp
   simp[this]
  have iN:(execOp ({tmps:=(#[p].zip #[enc x]).foldl (λt(x:Nat×Value)=>t.setIfInBounds x.1 x.2) a.tmps,defers:=[]}:Act).eval o).run c.P W=.ok (.value (enc x)) W:=by
   rw[hB];unfold execOp;simp only[z1]
   have:({tmps:=a.tmps.setIfInBounds p (enc x),defers:=[]}:Act).eval (.tmp p)=enc x:=apL
   simp[this]
  refine(hr (Oper.uponIn (sF (some l)) _ c.P o _ _ _) iN).mpr ?_;rw[Oper.uponIn_value,s4];exact(hr (λt=>K (Act.put {tmps:=t,defers:=[]} (some d) (enc x)) W) hB).mpr jA
 ·intro l pre x W I ak;obtain⟨_,_,eG⟩:=dC (LN pre x W I ak);obtain⟨_,_,jm⟩:=dC eG;refine UJ π (ds:=[]) (rd:=some l) sQ .leaf _ _ (aw x) _ W (ae0 _ _ cu) ?_ ?_ (Fl jm)
  ·intro e b gk w' _ aH;cases e with
   |normal=>exact aH
   |ret=>exact⟨aH.1,rfl,aH.2⟩
   |_=>exact aH.elim
  ·refine⟨rfl,by simp[aw,φ.2.1],λj v ψ=>?_⟩;rw[IM,IM]at ψ;show((a.tmps.setIfInBounds p (enc x)).setIfInBounds d (enc x))[j]?=some v;have eV:=φ.2.1;by_cases aP:d=j
   ·subst aP;rw[aN rfl]at ψ;rw[Array.getElem?_setIfInBounds_self_of_lt (by simp[eV,ah])];exact ψ
   ·rw[aL aP]at ψ;rw[Array.getElem?_setIfInBounds_ne aP];by_cases bM:p=j
    ·subst bM;rw[aN rfl]at ψ;rw[Array.getElem?_setIfInBounds_self_of_lt (by rw[eV];exact hp)];exact ψ
    ·rw[aL bM]at ψ;rw[Array.getElem?_setIfInBounds_ne bM];exact φ.2.2 j v ψ
 ·intro D xs W cn eU jt fX;have F9:pK [K3 D] n {a with defers:={target:=.collected D,args:=#[]}::a.defers} ο:=⟨by show _::a.defers=_;rw[φ.1];rfl,φ.2.1,φ.2.2⟩;exact UJ π (ds:=[K3 D]) (rd:=none) y .leaf _ _ _ ο W (ae0 _ _ dR) (lE D) F9 (apz D xs W cn eU jt fX)
 ·rintro D aW pre W cn eU ⟨rfl,jt⟩ fX;have F9:pK [K3 D] n {a with defers:={target:=.collected D,args:=#[]}::a.defers} ο:=⟨by show _::a.defers=_;rw[φ.1];rfl,φ.2.1,φ.2.2⟩;exact wpIn_ret (lE D .ret _ ο W F9 (aq0 D pre W cn eU jt fX))
inductive A6 where
 |y4 (s:ko)
 |seq (s:ko) (t:A6)
 |cut (cg:List (Nat×cS)) (K:hy Prop cg) (s:ko) (t:A6)
def C3(c:di)(n:Nat):A6->Code->j9->dj->al
 | .y4 s,.seq (.seq z (.block _ (.rangeFunc g ps sM sQ))) y,Q,ο,w=>oB c n z s (iZ (Nz c n g ps sM sQ y Q) Q) ο w
 | .y4 _,_,_,_,_=>False
 | .seq s t,.seq x y,Q,ο,w=>oB c n x s (iZ (C3 c n t y Q) Q) ο w
 | .seq _ _,_,_,_,_=>False
 | .cut cg K s t,.seq x y,Q,ο,w=>oB c n x s (iZ (gV cg K) Q) ο w
 | .cut _ _ _ _,_,_,_,_=>False
def GD(c:di)(n:Nat):A6->Code->j9->Prop->Prop
 | .y4 s,.seq (.seq z (.block _ (.rangeFunc g ps sM sQ))) y,Q,r=>qb c n z s (iZ (Nz c n g ps sM sQ y Q) Q) r
 | .y4 _,_,_,r=>r
 | .seq s t,.seq x y,Q,r=>qb c n x s (iZ (C3 c n t y Q) Q) (GD c n t y Q r)
 | .seq _ _,_,_,r=>r
 | .cut cg K s t,.seq x y,Q,r=>qb c n x s (iZ (gV cg K) Q) (mj cg K (C3 c n t y Q) []/\GD c n t y Q r)
 | .cut _ _ _ _,_,_,r=>r
theorem Y3{P:Program}{m:Nat}{x:Code}{Q:Exit->Act->al}{a:Act}{w:World}(h:x.wp P Q a w):x.wpIn (sF none) m P Q a w:=(wpIn_wide (n:=m)).2 h
theorem anS{c:di}(π:hT c){n:Nat}:∀(t:A6)(x:Code)(Q:j9)(Q':Exit->Act->al)(a:Act)(ο:dj)(w:World)(r:Prop),
  GD c n t x Q r->Holds n Q Q'->(∀D,A2 [K3 D] n (SL D Q) Q')->Rel n a ο->C3 c n t x Q ο w->x.wpIn (sF none) 2 c.P Q' a w:=by
 intro t
 induction t with
 |y4 s=>
  intro x Q Q' a ο w r aG dY lE φ h;cases x with
  |seq u y=>
   cases u with
   |seq z b=>
    cases b with
    |block id y4=>
     cases y4 with
     |rangeFunc g ps sM sQ=>
      have h:oB c n z s (iZ (Nz c n g ps sM sQ y Q) Q) ο w:=h;have aG:qb c n z s (iZ (Nz c n g ps sM sQ y Q) Q) r:=aG;refine wpIn_seq (wpIn_seq (Y3 ?_));refine PF π z s _ _ a ο w (Q2 _ _ _ _ aG).1 (λe fL gk w' e3 aH=>?_) φ h;cases e with
      |normal=>exact auI π lE e3 aH
      |_=>exact dY _ _ _ _ e3 aH
     |_=>exact h.elim
    |_=>exact h.elim
   |_=>exact h.elim
  |_=>exact h.elim
 |seq s t cw=>
  intro x Q Q' a ο w r aG dY lE φ h;cases x with
  |seq x y=>
   have aG:qb c n x s (iZ (C3 c n t y Q) Q) (GD c n t y Q r):=aG;obtain⟨mT,l3⟩:=Q2 _ _ _ _ aG;refine wpIn_seq (Y3 ?_);refine PF π x s _ _ a ο w mT (λe fL gk w' e3 aH=>?_) φ h;cases e with
   |normal=>exact cw y Q Q' fL gk w' r l3 dY lE e3 aH
   |_=>exact dY _ _ _ _ e3 aH
  |_=>exact h.elim
 |cut cg K s t cw=>
  intro x Q Q' a ο w r aG dY lE φ h;cases x with
  |seq x y=>
   have aG:qb c n x s (iZ (gV cg K) Q) (mj cg K (C3 c n t y Q) []/\GD c n t y Q r):=aG;obtain⟨mT,l3,xa⟩:=Q2 _ _ _ _ aG;refine wpIn_seq (Y3 ?_);refine PF π x s _ _ a ο w mT (λe fL gk w' e3 aH=>?_) φ h;cases e with
   |normal=>
    obtain⟨iO,ju,ι⟩:=pC e3 e3.nil l3 aH;exact cw y Q Q' fL iO w' r xa dY lE ju ι
   |_=>exact dY _ _ _ _ e3 aH
  |_=>exact h.elim
theorem af0{n:Nat}{args:aY}(aR:args.length<=n):Rel n {tmps:=args.toArray++Array.replicate (n-args.toArray.size) undef,defers:=[]} (r5 0 args):=by
 refine⟨rfl,by simp;omega,λd v ah=>?_⟩;obtain⟨_,ι⟩:=U0 args 0 d v ah;rw[Nat.sub_zero]at ι;rw[Array.getElem?_append]
 have:d<args.toArray.size:=by simp;exact(List.getElem?_eq_some_iff.1 ι).1
 rw[aN this];simpa using ι
theorem J1{c:di}(π:hT c){n:Nat}{ds:List Deferred}{a:Act}{ο:dj}(φ:pK ds n a ο){fn:Func}{rs:List ResultVar}(ku:fn.results.toList=rs){w:World}{K:aY->Prop}(h:Ny c rs ο w K):
  ∃vs,(results fn a.tmps).run c.P w=.ok (RL vs) w/\K vs:=by
 obtain⟨vs,mW,iU⟩:=RK π φ.base h;rw[<-ku]at mW;exact⟨vs,Yb mW,iU⟩
theorem anR{c:di}(π:hT c){f:FuncId}{fn:Func}{code:Code}(bm:c.P.funcs[f]?=some fn)(τ:fn.body=some code)(rs:List ResultVar)(ku:fn.results.toList=rs)(ia:Nat)(s6:fn.ntmps=ia)(t:A6){args:aY}(aR:args.length<=ia)
  {w:World}{R:au}{m o:Prop}(hm:m=C3 c ia t code (fin c rs R) (r5 0 args) w)(aG:o=GD c ia t code (fin c rs R) True)(kf:o)(h:m):Calls c.P f args.toArray w R:=by
 subst s6;refine callsIn_wide.1 (callsIn_of_wp_marks (F:=sF none) (n:=2) bm τ trivial ?_);refine anS π t code (fin c rs R) _ _ (r5 0 args) w True (aG▸kf) ?_ ?_ (af0 aR) (hm▸h)
 ·intro e a ο w φ aH;have s9:pK [] fn.ntmps a ο:=φ;cases e with
  |ret=>
   obtain⟨vs,mW,iU⟩:=J1 π s9 ku aH;show LeavesInM _ _ _ _ _ _ a.defers _ _;rw[φ.1];exact⟨_,mW,iU⟩
  |normal=>
   obtain⟨vs,mW,iU⟩:=J1 π s9 ku aH;show LeavesInM _ _ _ _ _ _ a.defers _ _;rw[φ.1];exact⟨_,mW,iU⟩
  |panic dg=>
   show LeavesInM _ _ _ _ _ _ a.defers _ _;rw[φ.1];exact aH
  |exit id=>exact aH.elim
  |goto l=>exact aH.elim
  |outgrown=>exact aH.elim
 ·intro D e a ο w φ aH;obtain⟨cn,aH⟩:=aH;have yv:=run_takeDeferred (P:=c.P) cn;cases e with
  |ret=>
   obtain⟨vs,mW,iU⟩:=J1 π φ ku aH;show LeavesInM _ _ _ _ _ _ a.defers _ _;rw[φ.1];exact⟨by simp,.inl ⟨D,_,rfl,yv,_,mW,iU⟩⟩
  |normal=>
   obtain⟨vs,mW,iU⟩:=J1 π φ ku aH;show LeavesInM _ _ _ _ _ _ a.defers _ _;rw[φ.1];exact⟨by simp,.inl ⟨D,_,rfl,yv,_,mW,iU⟩⟩
  |panic dg=>
   show LeavesInM _ _ _ _ _ _ a.defers _ _;rw[φ.1];exact⟨by simp,.inl ⟨D,_,rfl,yv,aH⟩⟩
  |exit id=>exact aH.elim
  |goto l=>exact aH.elim
  |outgrown=>exact aH.elim
theorem anT{c:di}(π:hT c){f:FuncId}{fn:Func}{code:Code}(bm:c.P.funcs[f]?=some fn)(τ:fn.body=some code)(rs:List ResultVar)(ku:fn.results.toList=rs)(ia:Nat)(s6:fn.ntmps=ia)(s:ko){args:aY}(aR:args.length<=ia)
  {w:World}{R:au}{m o:Prop}(hm:m=sd c ia code s (fin c rs R) (r5 0 args) w)(aG:o=yO c ia code s (fin c rs R) True)(kf:o)(h:m):CallsIn Fence.wide 0 c.P f args.toArray w R:=by
 subst s6;refine(callsIn_wide (n:=0)).2 (callsIn_wide.1 (callsIn_of_wp_marks (F:=sF none) (n:=2) bm τ trivial ?_));refine UJ π (ds:=[]) (rd:=none) code s (fin c rs R) _ _ (r5 0 args) w (as6 _ _ _ _ (aG▸kf)).1 ?_ (af0 aR) (hm▸h);intro e a ο w φ aH;cases e with
 |ret=>
  obtain⟨vs,mW,iU⟩:=J1 π φ ku aH;show LeavesInM _ _ _ _ _ _ a.defers _ _;rw[φ.1];exact⟨_,mW,iU⟩
 |normal=>
  obtain⟨vs,mW,iU⟩:=J1 π φ ku aH;show LeavesInM _ _ _ _ _ _ a.defers _ _;rw[φ.1];exact⟨_,mW,iU⟩
 |panic dg=>
  show LeavesInM _ _ _ _ _ _ a.defers _ _;rw[φ.1];exact aH
 |exit id=>exact aH.elim
 |goto l=>exact aH.elim
 |outgrown=>exact aH.elim
open Go
def qq:(cg:List (Nat×cS))->hy Prop cg->Prop
 |[],K=>∀w,K w->K w
 |(_,.int _)::r,K=>∀x,qq r (K x)
 |(_,.bool)::r,K=>∀x,qq r (K x)
 |(_,.str)::r,K=>∀x,qq r (K x)
 |(_,.slice)::r,K=>∀x y z,qq r (K x y z)
 |(_,.ptr)::r,K=>∀x,qq r (K x)
 |(_,.addr)::r,K=>∀x,qq r (K x)
 |(_,.cA)::r,K=>∀x,qq r (K x)
 |(_,.agg)::r,K=>∀x,qq r (K x)
 |(_,.val)::r,K=>∀x,qq r (K x)
 |(_,.wX)::r,K=>∀x,qq r (K x)
 |(_,.re)::r,K=>∀x y,qq r (K x y)
 |(_,.map)::r,K=>∀x,qq r (K x)
 |(_,.vC _)::r,K=>∀x,qq r (K x)
 |(_,.vB _)::r,K=>qq r K
 |(_,.AY)::r,K=>∀x,qq r (K x)
theorem qV:∀(cg:List (Nat×cS))(K:hy Prop cg),qq cg K
 |[],_=>λ_ h=>h
 |(_,.int _)::r,_=>λ_=>qV r _
 |(_,.bool)::r,_=>λ_=>qV r _
 |(_,.str)::r,_=>λ_=>qV r _
 |(_,.slice)::r,_=>λ_ _ _=>qV r _
 |(_,.ptr)::r,_=>λ_=>qV r _
 |(_,.addr)::r,_=>λ_=>qV r _
 |(_,.cA)::r,_=>λ_=>qV r _
 |(_,.agg)::r,_=>λ_=>qV r _
 |(_,.val)::r,_=>λ_=>qV r _
 |(_,.wX)::r,_=>λ_=>qV r _
 |(_,.re)::r,_=>λ_ _=>qV r _
 |(_,.map)::r,_=>λ_=>qV r _
 |(_,.vC _)::r,_=>λ_=>qV r _
 |(_,.vB _)::r,_=>qV r _
 |(_,.AY)::r,_=>λ_=>qV r _
def uQ:ko->Prop->Prop
 | .leaf,r=>r
 | .seq a b,r=>uQ a (uQ b r)
 | .cond a b,r=>uQ a (uQ b r)
 | .block a,r=>uQ a r
 | .cut cg K a b,r=>uQ a (qq cg K/\uQ b r)
 | .loop cg K body,r=>qq cg K/\(∀C:hy Prop cg,uQ (body C) True)/\r
theorem we:∀(s:ko)(r:Prop),r->uQ s r
 | .leaf,_,h=>h
 | .seq a b,_,h=>we a _ (we b _ h)
 | .cond a b,_,h=>we a _ (we b _ h)
 | .block a,_,h=>we a _ h
 | .cut cg K a b,_,h=>we a _ ⟨qV cg K,we b _ h⟩
 | .loop cg K body,_,h=>⟨qV cg K,λC=>we (body C) _ trivial,h⟩
def Sv:A6->Prop->Prop
 | .y4 s,r=>uQ s r
 | .seq s t,r=>uQ s (Sv t r)
 | .cut cg K s t,r=>uQ s (qq cg K/\Sv t r)
theorem YM:∀(s:A6)(r:Prop),r->Sv s r
 | .y4 s,_,h=>we s _ h
 | .seq s t,_,h=>we s _ (YM t _ h)
 | .cut cg K s t,_,h=>we s _ ⟨qV cg K,YM t _ h⟩
end Go.bJ
namespace Go.Proofs.YtcpdfhkhaekekaaGreat.G
open Tryz
open Go.bJ
theorem aA{t:TypeId}{i:c0}(h:prog.underlying t=some i.desc)(ι:(prog.info? t).map (λx=>(x.size,x.bytes))=some (i.size,i.bytes):=by kernel_rfl)(aJ:((prog.info? t).bind (·.zero)).map (λz=>z.cells.toList)=some i.zero:=by kernel_rfl):c5 prog t i:=⟨h,ι,aJ⟩
theorem bX{f:Nat}{r:List Nat}{fn:Func}(h:prog.funcs[f]?=some fn)(t:KF prog r)(h1:(fn.name== "runtime.NumGoroutine")=false:=by kernel_rfl)(ι:fn.body.isNone=false:=by kernel_rfl):KF prog (f::r):=⟨⟨fn,h,h1,ι⟩,t⟩
def ag6:c0:=⟨.tuple #[],1,0,[(Value.tuple #[])]⟩
theorem av4:c5 prog 0 ag6:=aA underlying0
def aia:c0:=⟨.int .i64,1,8,[(.int .i64 0)]⟩
theorem aiN:c5 prog 3 aia:=aA underlying3
def aii:c0:=⟨.bool,1,1,[(.bool false)]⟩
theorem axe:c5 prog 4 aii:=aA underlying4
def aio:c0:=⟨.int .u8,1,1,[(.int .u8 0)]⟩
theorem axk:c5 prog 5 aio:=aA underlying5
def aiH:c0:=⟨.string,1,16,[(Value.string ⟨#[]⟩)]⟩
theorem axD:c5 prog 9 aiH:=aA underlying9
def ahG:c0:=⟨.interface #[],1,16,[Value.nilIface]⟩
theorem awE:c5 prog 20 ahG:=aA underlying20
def ahM:c0:=⟨.slice 41,1,24,[(.slice none 0 0)]⟩
theorem awK:c5 prog 22 ahM:=aA underlying22
def ahQ:c0:=⟨.pointer 78,1,8,[(.pointer none)]⟩
theorem awO:c5 prog 23 ahQ:=aA underlying23
def ahU:c0:=⟨.pointer 72,1,8,[(.pointer none)]⟩
theorem awS:c5 prog 24 ahU:=aA underlying24
def ahX:c0:=⟨.tuple #[23,24],1,0,[(Value.tuple #[(Value.pointer none),(Value.pointer none)])]⟩
theorem awV:c5 prog 25 ahX:=aA underlying25
def ah7:c0:=⟨.struct #[⟨ "Segments",3,0,false,"","",0⟩,⟨ "Blocks",3,1,false,"","",8⟩],2,16,[(.int .i64 0),(.int .i64 0)]⟩
theorem aw5:c5 prog 28 ah7:=aA underlying28
def aib:c0:=⟨.array 32 5,32,32,List.replicate 32 (Value.int .u8 0)⟩
theorem aw8:c5 prog 31 aib:=aA underlying31
def aic:c0:=⟨.array 3 31,96,96,List.replicate 96 (Value.int .u8 0)⟩
theorem aw9:c5 prog 32 aic:=aA underlying32
def aid:c0:=⟨.int .i64,1,8,[(.int .i64 0)]⟩
theorem axa:c5 prog 33 aid:=aA underlying33
def aie:c0:=⟨.slice 5,1,24,[(.slice none 0 0)]⟩
theorem axb:c5 prog 34 aie:=aA underlying34
def aif:c0:=⟨.slice 3,1,24,[(.slice none 0 0)]⟩
theorem axc:c5 prog 35 aif:=aA underlying35
def aih:c0:=⟨.struct #[⟨ "Ticket",3,0,false,"","",0⟩,⟨ "E",33,1,false,"","",8⟩,⟨ "ID",3,2,false,"","",16⟩,⟨ "Data",34,3,false,"","",24⟩,⟨ "Nums",35,4,false,"","",48⟩],5,72,List.replicate 3 (.int .i64 0)++[.slice none 0 0,.slice none 0 0]⟩
theorem axd:c5 prog 37 aih:=aA underlying37
def aij:c0:=⟨.struct #[⟨ "Kind",3,0,false,"","",0⟩,⟨ "Vol",3,1,false,"","",8⟩,⟨ "Block",3,2,false,"","",16⟩,⟨ "Size",3,3,false,"","",24⟩,⟨ "Data",34,4,false,"","",32⟩],5,56,List.replicate 4 (.int .i64 0)++[.slice none 0 0]⟩
theorem axf:c5 prog 40 aij:=aA underlying40
def aik:c0:=⟨.int .u16,1,2,[(.int .u16 0)]⟩
theorem axg:c5 prog 41 aik:=aA underlying41
def ail:c0:=⟨.int .u64,1,8,[(.int .u64 0)]⟩
theorem axh:c5 prog 42 ail:=aA underlying42
def aim:c0:=⟨.tuple #[37,4],1,0,[(Value.tuple #[(Value.agg #[(Value.int .i64 0),(Value.int .i64 0),(Value.int .i64 0),(Value.slice none 0 0),(Value.slice none 0 0)]),(Value.bool false)])]⟩
theorem axi:c5 prog 44 aim:=aA underlying44
def ain:c0:=⟨.slice 40,1,24,[(.slice none 0 0)]⟩
theorem axj:c5 prog 48 ain:=aA underlying48
def aip:c0:=⟨.tuple #[3,33],1,0,[(Value.tuple #[(Value.int .i64 0),(Value.int .i64 0)])]⟩
theorem axl:c5 prog 55 aip:=aA underlying55
def aiq:c0:=⟨.tuple #[34,33],1,0,[(Value.tuple #[(Value.slice none 0 0),(Value.int .i64 0)])]⟩
theorem axm:c5 prog 59 aiq:=aA underlying59
def air:c0:=⟨.tuple #[23,33],1,0,[(Value.tuple #[(Value.pointer none),(Value.int .i64 0)])]⟩
theorem axn:c5 prog 61 air:=aA underlying61
def ais:c0:=⟨.tuple #[24,33],1,0,[(Value.tuple #[(Value.pointer none),(Value.int .i64 0)])]⟩
theorem axo:c5 prog 64 ais:=aA underlying64
def ait:c0:=⟨.pointer 123,1,8,[(.pointer none)]⟩
theorem axp:c5 prog 67 ait:=aA underlying67
def aiu:c0:=⟨.pointer 144,1,8,[(.pointer none)]⟩
theorem axq:c5 prog 68 aiu:=aA underlying68
def aiv:c0:=⟨.pointer 150,1,8,[(.pointer none)]⟩
theorem axr:c5 prog 69 aiv:=aA underlying69
def aiw:c0:=⟨.slice 155,1,24,[(.slice none 0 0)]⟩
theorem axs:c5 prog 70 aiw:=aA underlying70
def aix:c0:=⟨.struct #[⟨ "Gate",67,0,true,"","",0⟩,⟨ "d",23,1,false,"","stopcock/pool",8⟩,⟨ "plat",28,2,false,"","stopcock/pool",16⟩,⟨ "roll",68,4,false,"","stopcock/pool",32⟩,⟨ "strand",69,5,false,"","stopcock/pool",40⟩,⟨ "seq",3,6,false,"","stopcock/pool",48⟩,⟨ "used",3,7,false,"","stopcock/pool",56⟩,⟨ "deltas",70,8,false,"","stopcock/pool",64⟩,⟨ "turned",4,9,false,"","stopcock/pool",88⟩,⟨ "clock",3,10,false,"","stopcock/pool",96⟩,⟨ "stamps",35,11,false,"","stopcock/pool",104⟩,⟨ "down",4,12,false,"","stopcock/pool",128⟩],13,136,[.pointer none,.pointer none,.int .i64 0,.int .i64 0,.pointer none,.pointer none,.int .i64 0,.int .i64 0,.slice none 0 0,.bool false,.int .i64 0,.slice none 0 0,.bool false]⟩
theorem axt:c5 prog 72 aix:=aA underlying72
def aiy:c0:=⟨.slice 82,1,24,[(.slice none 0 0)]⟩
theorem axu:c5 prog 75 aiy:=aA underlying75
def aiz:c0:=⟨.slice 189,1,24,[(.slice none 0 0)]⟩
theorem axv:c5 prog 76 aiz:=aA underlying76
def aiA:c0:=⟨.struct #[⟨ "sure",75,0,false,"","stopcock/basin",0⟩,⟨ "now",75,1,false,"","stopcock/basin",24⟩,⟨ "loose",76,2,false,"","stopcock/basin",48⟩,⟨ "after",3,3,false,"","stopcock/basin",72⟩,⟨ "off",4,4,false,"","stopcock/basin",80⟩],5,88,List.replicate 3 (.slice none 0 0)++[.int .i64 0,.bool false]⟩
theorem axw:c5 prog 78 aiA:=aA underlying78
def aiB:c0:=⟨.array 64 5,64,64,List.replicate 64 (Value.int .u8 0)⟩
theorem axx:c5 prog 82 aiB:=aA underlying82
def aiC:c0:=⟨.struct #[⟨ "Kind",3,0,false,"","",0⟩,⟨ "Size",3,1,false,"","",8⟩],2,16,[(.int .i64 0),(.int .i64 0)]⟩
theorem axy:c5 prog 84 aiC:=aA underlying84
def aiD:c0:=⟨.array 8 84,16,128,List.replicate 16 (Value.int .i64 0)⟩
theorem axz:c5 prog 85 aiD:=aA underlying85
def aiE:c0:=⟨.slice 113,1,24,[(.slice none 0 0)]⟩
theorem axA:c5 prog 86 aiE:=aA underlying86
def aiF:c0:=⟨.array 8 86,8,192,List.replicate 8 (.slice none 0 0)⟩
theorem axB:c5 prog 87 aiF:=aA underlying87
def aiG:c0:=⟨.struct #[⟨ "Entries",85,0,false,"","",0⟩,⟨ "Places",87,16,false,"","",128⟩],24,320,List.replicate 16 (.int .i64 0)++List.replicate 8 (.slice none 0 0)⟩
theorem axC:c5 prog 89 aiG:=aA underlying89
def aiI:c0:=⟨.tuple #[89,28,3,3,33],1,0,[(Value.tuple #[(Value.agg #[(Value.int .i64 0),(Value.int .i64 0),(Value.int .i64 0),(Value.int .i64 0),(Value.int .i64 0),(Value.int .i64 0),(Value.int .i64 0),(Value.int .i64 0),(Value.int .i64 0),(Value.int .i64 0),(Value.int .i64 0),(Value.int .i64 0),(Value.int .i64 0),(Value.int .i64 0),(Value.int .i64 0),(Value.int .i64 0),(Value.slice none 0 0),(Value.slice none 0 0),(Value.slice none 0 0),(Value.slice none 0 0),(Value.slice none 0 0),(Value.slice none 0 0),(Value.slice none 0 0),(Value.slice none 0 0)]),(Value.agg #[(Value.int .i64 0),(Value.int .i64 0)]),(Value.int .i64 0),(Value.int .i64 0),(Value.int .i64 0)])]⟩
theorem axE:c5 prog 90 aiI:=aA underlying90
def aiJ:c0:=⟨.tuple #[35,33],1,0,[(Value.tuple #[(Value.slice none 0 0),(Value.int .i64 0)])]⟩
theorem axF:c5 prog 92 aiJ:=aA underlying92
def aiK:c0:=⟨.tuple #[68,33],1,0,[(Value.tuple #[(Value.pointer none),(Value.int .i64 0)])]⟩
theorem axG:c5 prog 95 aiK:=aA underlying95
def aiL:c0:=⟨.tuple #[69,33],1,0,[(Value.tuple #[(Value.pointer none),(Value.int .i64 0)])]⟩
theorem axH:c5 prog 97 aiL:=aA underlying97
def aiM:c0:=⟨.tuple #[3,40,33],1,0,[(Value.tuple #[(Value.int .i64 0),(Value.agg #[(Value.int .i64 0),(Value.int .i64 0),(Value.int .i64 0),(Value.int .i64 0),(Value.slice none 0 0)]),(Value.int .i64 0)])]⟩
theorem axI:c5 prog 99 aiM:=aA underlying99
def ag7:c0:=⟨.pointer 37,1,8,[(.pointer none)]⟩
theorem av5:c5 prog 102 ag7:=aA underlying102
def ag8:c0:=⟨.struct #[⟨ "Errno",33,0,true,"","",0⟩],1,8,[(.int .i64 0)]⟩
theorem av6:c5 prog 104 ag8:=aA underlying104
def ag9:c0:=⟨.tuple #[35,3],1,0,[(Value.tuple #[(Value.slice none 0 0),(Value.int .i64 0)])]⟩
theorem av7:c5 prog 107 ag9:=aA underlying107
def aha:c0:=⟨.tuple #[86,33],1,0,[(Value.tuple #[(Value.slice none 0 0),(Value.int .i64 0)])]⟩
theorem av8:c5 prog 111 aha:=aA underlying111
def ahb:c0:=⟨.complex .f64,1,16,[(.complex .f64 0 0)]⟩
theorem av9:c5 prog 113 ahb:=aA underlying113
def ahc:c0:=⟨.tuple #[89,33],1,0,[(Value.tuple #[(Value.agg #[(Value.int .i64 0),(Value.int .i64 0),(Value.int .i64 0),(Value.int .i64 0),(Value.int .i64 0),(Value.int .i64 0),(Value.int .i64 0),(Value.int .i64 0),(Value.int .i64 0),(Value.int .i64 0),(Value.int .i64 0),(Value.int .i64 0),(Value.int .i64 0),(Value.int .i64 0),(Value.int .i64 0),(Value.int .i64 0),(Value.slice none 0 0),(Value.slice none 0 0),(Value.slice none 0 0),(Value.slice none 0 0),(Value.slice none 0 0),(Value.slice none 0 0),(Value.slice none 0 0),(Value.slice none 0 0)]),(Value.int .i64 0)])]⟩
theorem awa:c5 prog 116 ahc:=aA underlying116
def ahd:c0:=⟨.slice 20,1,24,[(.slice none 0 0)]⟩
theorem awb:c5 prog 121 ahd:=aA underlying121
def ahe:c0:=⟨.struct #[⟨ "waits",121,0,false,"","stopcock/gate",0⟩,⟨ "ticket",3,1,false,"","stopcock/gate",24⟩],2,32,[.slice none 0 0,.int .i64 0]⟩
theorem awc:c5 prog 123 ahe:=aA underlying123
def ahf:c0:=⟨.struct #[⟨ "Request",40,0,true,"","",0⟩,⟨ "ticket",3,5,false,"","stopcock/gate",56⟩],6,64,List.replicate 4 (.int .i64 0)++[.slice none 0 0,.int .i64 0]⟩
theorem awd:c5 prog 126 ahf:=aA underlying126
def ahg:c0:=⟨.struct #[⟨ "At",3,0,false,"","",0⟩,⟨ "Data",34,1,false,"","",8⟩],2,32,[.int .i64 0,.slice none 0 0]⟩
theorem awe:c5 prog 130 ahg:=aA underlying130
def ahh:c0:=⟨.tuple #[89,28,3,33],1,0,[(Value.tuple #[(Value.agg #[(Value.int .i64 0),(Value.int .i64 0),(Value.int .i64 0),(Value.int .i64 0),(Value.int .i64 0),(Value.int .i64 0),(Value.int .i64 0),(Value.int .i64 0),(Value.int .i64 0),(Value.int .i64 0),(Value.int .i64 0),(Value.int .i64 0),(Value.int .i64 0),(Value.int .i64 0),(Value.int .i64 0),(Value.int .i64 0),(Value.slice none 0 0),(Value.slice none 0 0),(Value.slice none 0 0),(Value.slice none 0 0),(Value.slice none 0 0),(Value.slice none 0 0),(Value.slice none 0 0),(Value.slice none 0 0)]),(Value.agg #[(Value.int .i64 0),(Value.int .i64 0)]),(Value.int .i64 0),(Value.int .i64 0)])]⟩
theorem awf:c5 prog 131 ahh:=aA underlying131
def ahi:c0:=⟨.tuple #[70,3,33],1,0,[(Value.tuple #[(Value.slice none 0 0),(Value.int .i64 0),(Value.int .i64 0)])]⟩
theorem awg:c5 prog 133 ahi:=aA underlying133
def ahj:c0:=⟨.tuple #[89,3,33],1,0,[(Value.tuple #[(Value.agg #[(Value.int .i64 0),(Value.int .i64 0),(Value.int .i64 0),(Value.int .i64 0),(Value.int .i64 0),(Value.int .i64 0),(Value.int .i64 0),(Value.int .i64 0),(Value.int .i64 0),(Value.int .i64 0),(Value.int .i64 0),(Value.int .i64 0),(Value.int .i64 0),(Value.int .i64 0),(Value.int .i64 0),(Value.int .i64 0),(Value.slice none 0 0),(Value.slice none 0 0),(Value.slice none 0 0),(Value.slice none 0 0),(Value.slice none 0 0),(Value.slice none 0 0),(Value.slice none 0 0),(Value.slice none 0 0)]),(Value.int .i64 0),(Value.int .i64 0)])]⟩
theorem awh:c5 prog 135 ahj:=aA underlying135
def ahk:c0:=⟨.pointer 203,1,8,[(.pointer none)]⟩
theorem awi:c5 prog 141 ahk:=aA underlying141
def ahl:c0:=⟨.array 8 141,8,64,List.replicate 8 (.pointer none)⟩
theorem awj:c5 prog 142 ahl:=aA underlying142
def ahm:c0:=⟨.struct #[⟨ "entries",85,0,false,"","stopcock/roll",0⟩,⟨ "tables",142,16,false,"","stopcock/roll",128⟩],24,192,List.replicate 16 (.int .i64 0)++List.replicate 8 (.pointer none)⟩
theorem awk:c5 prog 144 ahm:=aA underlying144
def ahn:c0:=⟨.tuple #[141,33],1,0,[(Value.tuple #[(Value.pointer none),(Value.int .i64 0)])]⟩
theorem awl:c5 prog 145 ahn:=aA underlying145
def aho:c0:=⟨.struct #[⟨ "plat",28,0,false,"","stopcock/strand",0⟩,⟨ "free",35,2,false,"","stopcock/strand",16⟩,⟨ "head",3,3,false,"","stopcock/strand",40⟩,⟨ "used",3,4,false,"","stopcock/strand",48⟩],5,56,[.int .i64 0,.int .i64 0,.slice none 0 0,.int .i64 0,.int .i64 0]⟩
theorem awm:c5 prog 150 aho:=aA underlying150
def ahp:c0:=⟨.struct #[⟨ "Kind",3,0,false,"","",0⟩,⟨ "Vol",3,1,false,"","",8⟩,⟨ "Other",3,2,false,"","",16⟩,⟨ "Block",3,3,false,"","",24⟩,⟨ "Place",113,4,false,"","",32⟩],5,48,List.replicate 4 (.int .i64 0)++[.complex .f64 0 0]⟩
theorem awn:c5 prog 155 ahp:=aA underlying155
def ahq:c0:=⟨.tuple #[84,33],1,0,[(Value.tuple #[(Value.agg #[(Value.int .i64 0),(Value.int .i64 0)]),(Value.int .i64 0)])]⟩
theorem awo:c5 prog 160 ahq:=aA underlying160
def ahr:c0:=⟨.slice 213,1,24,[(.slice none 0 0)]⟩
theorem awp:c5 prog 163 ahr:=aA underlying163
def ahs:c0:=⟨.tuple #[86,163,33],1,0,[(Value.tuple #[(Value.slice none 0 0),(Value.slice none 0 0),(Value.int .i64 0)])]⟩
theorem awq:c5 prog 164 ahs:=aA underlying164
def aht:c0:=⟨.float .f64,1,8,[(Value.float .f64 0)]⟩
theorem awr:c5 prog 166 aht:=aA underlying166
def ahu:c0:=⟨.tuple #[3,3,33],1,0,[(Value.tuple #[(Value.int .i64 0),(Value.int .i64 0),(Value.int .i64 0)])]⟩
theorem aws:c5 prog 169 ahu:=aA underlying169
def ahv:c0:=⟨.func #[113] #[4] false,1,8,[Value.nilFunc]⟩
theorem awt:c5 prog 173 ahv:=aA underlying173
def ahw:c0:=⟨.tuple #[113,33],1,0,[(Value.tuple #[(Value.complex .f64 0 0),(Value.int .i64 0)])]⟩
theorem awu:c5 prog 175 ahw:=aA underlying175
def ahx:c0:=⟨.slice 34,1,24,[(.slice none 0 0)]⟩
theorem awv:c5 prog 178 ahx:=aA underlying178
def ahy:c0:=⟨.tuple #[178,33],1,0,[(Value.tuple #[(Value.slice none 0 0),(Value.int .i64 0)])]⟩
theorem aww:c5 prog 179 ahy:=aA underlying179
def ahz:c0:=⟨.tuple #[3,4],1,0,[(Value.tuple #[(Value.int .i64 0),(Value.bool false)])]⟩
theorem awx:c5 prog 182 ahz:=aA underlying182
def ahA:c0:=⟨.slice 130,1,24,[(.slice none 0 0)]⟩
theorem awy:c5 prog 185 ahA:=aA underlying185
def ahB:c0:=⟨.func #[130] #[4] false,1,8,[Value.nilFunc]⟩
theorem awz:c5 prog 187 ahB:=aA underlying187
def ahC:c0:=⟨.struct #[⟨ "at",3,0,false,"","stopcock/basin",0⟩,⟨ "data",82,1,false,"","stopcock/basin",8⟩],65,72,[.int .i64 0]++List.replicate 64 (.int .u8 0)⟩
theorem awA:c5 prog 189 ahC:=aA underlying189
def ahD:c0:=⟨.tuple #[70,4],1,0,[(Value.tuple #[(Value.slice none 0 0),(Value.bool false)])]⟩
theorem awB:c5 prog 192 ahD:=aA underlying192
def ahE:c0:=⟨.pointer 89,1,8,[(.pointer none)]⟩
theorem awC:c5 prog 195 ahE:=aA underlying195
def ahF:c0:=⟨.map 113 213,1,8,[(Value.map none)]⟩
theorem awD:c5 prog 196 ahF:=aA underlying196
def ahH:c0:=⟨.slice 250,1,24,[(.slice none 0 0)]⟩
theorem awF:c5 prog 201 ahH:=aA underlying201
def ahI:c0:=⟨.struct #[⟨ "size",3,0,false,"","stopcock/table",0⟩,⟨ "pages",201,1,false,"","stopcock/table",8⟩],2,32,[.int .i64 0,.slice none 0 0]⟩
theorem awG:c5 prog 203 ahI:=aA underlying203
def ahJ:c0:=⟨.tuple #[113,4,33],1,0,[(Value.tuple #[(Value.complex .f64 0 0),(Value.bool false),(Value.int .i64 0)])]⟩
theorem awH:c5 prog 206 ahJ:=aA underlying206
def ahK:c0:=⟨.func #[3] #[4] false,1,8,[Value.nilFunc]⟩
theorem awI:c5 prog 208 ahK:=aA underlying208
def ahL:c0:=⟨.slice 221,1,24,[(.slice none 0 0)]⟩
theorem awJ:c5 prog 213 ahL:=aA underlying213
def ahN:c0:=⟨.struct #[⟨ "Vol",3,0,false,"","",0⟩,⟨ "Block",3,1,false,"","",8⟩],2,16,[(.int .i64 0),(.int .i64 0)]⟩
theorem awL:c5 prog 221 ahN:=aA underlying221
def ahO:c0:=⟨.func #[264] #[] false,1,8,[Value.nilFunc]⟩
theorem awM:c5 prog 224 ahO:=aA underlying224
def ahP:c0:=⟨.int .u32,1,4,[(.int .u32 0)]⟩
theorem awN:c5 prog 227 ahP:=aA underlying227
def ahR:c0:=⟨.struct #[⟨ "seq",3,0,false,"","stopcock/leaf",0⟩,⟨ "segments",3,1,false,"","stopcock/leaf",8⟩,⟨ "blocks",3,2,false,"","stopcock/leaf",16⟩,⟨ "count",3,3,false,"","stopcock/leaf",24⟩,⟨ "length",3,4,false,"","stopcock/leaf",32⟩],5,40,List.replicate 5 (.int .i64 0)⟩
theorem awP:c5 prog 234 ahR:=aA underlying234
def ahS:c0:=⟨.tuple #[234,4],1,0,[(Value.tuple #[(Value.agg #[(Value.int .i64 0),(Value.int .i64 0),(Value.int .i64 0),(Value.int .i64 0),(Value.int .i64 0)]),(Value.bool false)])]⟩
theorem awQ:c5 prog 235 ahS:=aA underlying235
def ahT:c0:=⟨.tuple #[89,4],1,0,[(Value.tuple #[(Value.agg #[(Value.int .i64 0),(Value.int .i64 0),(Value.int .i64 0),(Value.int .i64 0),(Value.int .i64 0),(Value.int .i64 0),(Value.int .i64 0),(Value.int .i64 0),(Value.int .i64 0),(Value.int .i64 0),(Value.int .i64 0),(Value.int .i64 0),(Value.int .i64 0),(Value.int .i64 0),(Value.int .i64 0),(Value.int .i64 0),(Value.slice none 0 0),(Value.slice none 0 0),(Value.slice none 0 0),(Value.slice none 0 0),(Value.slice none 0 0),(Value.slice none 0 0),(Value.slice none 0 0),(Value.slice none 0 0)]),(Value.bool false)])]⟩
theorem awR:c5 prog 238 ahT:=aA underlying238
def ahV:c0:=⟨.func #[34,34] #[4] false,1,8,[Value.nilFunc]⟩
theorem awT:c5 prog 241 ahV:=aA underlying241
def ahW:c0:=⟨.tuple #[155,33],1,0,[(Value.tuple #[(Value.agg #[(Value.int .i64 0),(Value.int .i64 0),(Value.int .i64 0),(Value.int .i64 0),(Value.complex .f64 0 0)]),(Value.int .i64 0)])]⟩
theorem awU:c5 prog 242 ahW:=aA underlying242
def ahY:c0:=⟨.pointer 252,1,8,[(.pointer none)]⟩
theorem awW:c5 prog 250 ahY:=aA underlying250
def ahZ:c0:=⟨.array 8 113,8,128,List.replicate 8 (.complex .f64 0 0)⟩
theorem awX:c5 prog 252 ahZ:=aA underlying252
def ah0:c0:=⟨.slice 84,1,24,[(.slice none 0 0)]⟩
theorem awY:c5 prog 254 ah0:=aA underlying254
def ah1:c0:=⟨.func #[84] #[4] false,1,8,[Value.nilFunc]⟩
theorem awZ:c5 prog 255 ah1:=aA underlying255
def ah2:c0:=⟨.func #[274] #[] false,1,8,[Value.nilFunc]⟩
theorem aw0:c5 prog 258 ah2:=aA underlying258
def ah3:c0:=⟨.func #[34] #[4] false,1,8,[Value.nilFunc]⟩
theorem aw1:c5 prog 264 ah3:=aA underlying264
def ah4:c0:=⟨.tuple #[155,4],1,0,[(Value.tuple #[(Value.agg #[(Value.int .i64 0),(Value.int .i64 0),(Value.int .i64 0),(Value.int .i64 0),(Value.complex .f64 0 0)]),(Value.bool false)])]⟩
theorem aw2:c5 prog 270 ah4:=aA underlying270
def ah5:c0:=⟨.tuple #[42,42],1,0,[(Value.tuple #[(Value.int .u64 0),(Value.int .u64 0)])]⟩
theorem aw3:c5 prog 272 ah5:=aA underlying272
def ah6:c0:=⟨.func #[70] #[4] false,1,8,[Value.nilFunc]⟩
theorem aw4:c5 prog 274 ah6:=aA underlying274
def ah8:c0:=⟨.int .u64,1,8,[(.int .u64 0)]⟩
theorem aw6:c5 prog 285 ah8:=aA underlying285
def ah9:c0:=⟨.tuple #[285,285],1,0,[(Value.tuple #[(Value.int .u64 0),(Value.int .u64 0)])]⟩
theorem aw7:c5 prog 286 ah9:=aA underlying286
abbrev cz:Nat:=3
abbrev dt:Nat:=5
abbrev xK:Nat:=20
abbrev SA:Nat:=23
abbrev Ct:Nat:=24
abbrev b2:Nat:=28
abbrev Ea:Nat:=33
abbrev hj:Nat:=34
abbrev ck:Nat:=37
abbrev e7:Nat:=40
abbrev Kn:Nat:=70
abbrev sy:Nat:=72
abbrev Sx:Nat:=78
abbrev Sy:Nat:=82
abbrev jR:Nat:=84
abbrev b3:Nat:=89
abbrev YN:Nat:=104
abbrev eT:Nat:=113
abbrev sx:Nat:=123
abbrev Oc:Nat:=126
abbrev Eb:Nat:=130
abbrev Cu:Nat:=144
abbrev u3:Nat:=150
abbrev fS:Nat:=155
abbrev wq:Nat:=178
abbrev Sz:Nat:=189
abbrev u4:Nat:=203
abbrev AK:Nat:=213
abbrev ig:Nat:=221
abbrev oQ:Nat:=234
abbrev wo:Nat:=250
abbrev y9:Nat:=252
def tb:List (Option c0):=[some ag6,none,none,some aia,some aii,some aio,none,none,none,some aiH,none,none,none,none,none,none,none,none,none,none,some ahG,none,some ahM,some ahQ,some ahU,some ahX,none,none,some ah7,none,none,some aib,some aic,some aid,some aie,some aif,none,some aih,none,none,some aij,some aik,some ail,none,some aim,none,none,none,some ain,none,none,none,none,none,none,some aip,none,none,none,some aiq,none,some air,none,none,some ais,none,none,some ait,some aiu,some aiv,some aiw,none,some aix,none,none,some aiy,some aiz,none,some aiA,none,none,none,some aiB,none,some aiC,some aiD,some aiE,some aiF,none,some aiG,some aiI,none,some aiJ,none,none,some aiK,none,some aiL,none,some aiM,none,none,some ag7,none,some ag8,none,none,some ag9,none,none,none,some aha,none,some ahb,none,none,some ahc,none,none,none,none,some ahd,none,some ahe,none,none,some ahf,none,none,none,some ahg,some ahh,none,some ahi,none,some ahj,none,none,none,none,none,some ahk,some ahl,none,some ahm,some ahn,none,none,none,none,some aho,none,none,none,none,some ahp,none,none,none,none,some ahq,none,none,some ahr,some ahs,none,some aht,none,none,some ahu,none,none,none,some ahv,none,some ahw,none,none,some ahx,some ahy,none,none,some ahz,none,none,some ahA,none,some ahB,none,some ahC,none,none,some ahD,none,none,some ahE,some ahF,none,none,none,none,some ahH,none,some ahI,none,none,some ahJ,none,some ahK,none,none,none,none,some ahL,none,none,none,none,none,none,none,some ahN,none,none,some ahO,none,none,some ahP,none,none,none,none,none,none,some ahR,some ahS,none,none,some ahT,none,none,some ahV,some ahW,none,none,none,none,none,none,none,some ahY,none,some ahZ,none,some ah0,some ah1,none,none,some ah2,none,none,none,none,none,some ah3,none,none,none,none,none,some ah4,none,some ah5,none,some ah6,none,none,none,none,none,none,none,none,none,none,some ah8,some ah9]
theorem avZ:KO prog 0 tb:=(And.intro av4 (And.intro aiN (And.intro axe (And.intro axk (And.intro axD (And.intro awE (And.intro awK (And.intro awO (And.intro awS (And.intro awV (And.intro aw5 (And.intro aw8 (And.intro aw9 (And.intro axa (And.intro axb (And.intro axc (And.intro axd (And.intro axf (And.intro axg (And.intro axh (And.intro axi (And.intro axj (And.intro axl (And.intro axm (And.intro axn (And.intro axo (And.intro axp (And.intro axq (And.intro axr (And.intro axs (And.intro axt (And.intro axu (And.intro axv (And.intro axw (And.intro axx (And.intro axy (And.intro axz (And.intro axA (And.intro axB (And.intro axC (And.intro axE (And.intro axF (And.intro axG (And.intro axH (And.intro axI (And.intro av5 (And.intro av6 (And.intro av7 (And.intro av8 (And.intro av9 (And.intro awa (And.intro awb (And.intro awc (And.intro awd (And.intro awe (And.intro awf (And.intro awg (And.intro awh (And.intro awi (And.intro awj (And.intro awk (And.intro awl (And.intro awm (And.intro awn (And.intro awo (And.intro awp (And.intro awq (And.intro awr (And.intro aws (And.intro awt (And.intro awu (And.intro awv (And.intro aww (And.intro awx (And.intro awy (And.intro awz (And.intro awA (And.intro awB (And.intro awC (And.intro awD (And.intro awF (And.intro awG (And.intro awH (And.intro awI (And.intro awJ (And.intro awL (And.intro awM (And.intro awN (And.intro awP (And.intro awQ (And.intro awR (And.intro awT (And.intro awU (And.intro awW (And.intro awX (And.intro awY (And.intro awZ (And.intro aw0 (And.intro aw1 (And.intro aw2 (And.intro aw3 (And.intro aw4 (And.intro aw6 (And.intro aw7 trivial))))))))))))))))))))))))))))))))))))))))))))))))))))))))))))))))))))))))))))))))))))))))))))))))))))))))
def fns:List Nat:=[11,12,13,14,15,16,17,18,19,20,21,22,23,24,25,26,27,28,29,30,32,33,34,35,36,37,38,39,40,41,42,43,44,46,48,49,50,51,52,53,54,55,56,57,58,59,60,61,62,63,64,65,66,67,68,69,70,71,72,73,74,75,76,77,78,79,80,81,82,83,84,85,86,87,88,89,90,91,92,93,94,95,96,97,98,99,100,101,102,103,104,105,106,107,108,109,110,111,112,113,114,115,116,117,118,119,120,121,122,123,124,125,126,127,128,129,130,131,132,133,134,135,136,137,138,139,140,141,142,144,145,146,147,148,149,150,151,152,153,154,155,156,157,158,159,160,161,162,163,164,165,166,168,169,170,171,172,173,174,175,176,177,178,179,180,181,182,183,184,187,188,189,190,191,192,193,195,206]
theorem aoi:KF prog fns:=(bX func11 (bX func12 (bX func13 (bX func14 (bX func15 (bX func16 (bX func17 (bX func18 (bX func19 (bX func20 (bX func21 (bX func22 (bX func23 (bX func24 (bX func25 (bX func26 (bX func27 (bX func28 (bX func29 (bX func30 (bX func32 (bX func33 (bX func34 (bX func35 (bX func36 (bX func37 (bX func38 (bX func39 (bX func40 (bX func41 (bX func42 (bX func43 (bX func44 (bX func46 (bX func48 (bX func49 (bX func50 (bX func51 (bX func52 (bX func53 (bX func54 (bX func55 (bX func56 (bX func57 (bX func58 (bX func59 (bX func60 (bX func61 (bX func62 (bX func63 (bX func64 (bX func65 (bX func66 (bX func67 (bX func68 (bX func69 (bX func70 (bX func71 (bX func72 (bX func73 (bX func74 (bX func75 (bX func76 (bX func77 (bX func78 (bX func79 (bX func80 (bX func81 (bX func82 (bX func83 (bX func84 (bX func85 (bX func86 (bX func87 (bX func88 (bX func89 (bX func90 (bX func91 (bX func92 (bX func93 (bX func94 (bX func95 (bX func96 (bX func97 (bX func98 (bX func99 (bX func100 (bX func101 (bX func102 (bX func103 (bX func104 (bX func105 (bX func106 (bX func107 (bX func108 (bX func109 (bX func110 (bX func111 (bX func112 (bX func113 (bX func114 (bX func115 (bX func116 (bX func117 (bX func118 (bX func119 (bX func120 (bX func121 (bX func122 (bX func123 (bX func124 (bX func125 (bX func126 (bX func127 (bX func128 (bX func129 (bX func130 (bX func131 (bX func132 (bX func133 (bX func134 (bX func135 (bX func136 (bX func137 (bX func138 (bX func139 (bX func140 (bX func141 (bX func142 (bX func144 (bX func145 (bX func146 (bX func147 (bX func148 (bX func149 (bX func150 (bX func151 (bX func152 (bX func153 (bX func154 (bX func155 (bX func156 (bX func157 (bX func158 (bX func159 (bX func160 (bX func161 (bX func162 (bX func163 (bX func164 (bX func165 (bX func166 (bX func168 (bX func169 (bX func170 (bX func171 (bX func172 (bX func173 (bX func174 (bX func175 (bX func176 (bX func177 (bX func178 (bX func179 (bX func180 (bX func181 (bX func182 (bX func183 (bX func184 (bX func187 (bX func188 (bX func189 (bX func190 (bX func191 (bX func192 (bX func193 (bX func195 (bX func206 trivial))))))))))))))))))))))))))))))))))))))))))))))))))))))))))))))))))))))))))))))))))))))))))))))))))))))))))))))))))))))))))))))))))))))))))))))))))))))))))))))))))))))))))))))))))
noncomputable def bF:di:={P:=prog,tb:=tb,fns:=fns}
theorem Pr:hT bF:={Ki:=avZ,fn:=aca aoi,mixed:=by kernel_rfl}
abbrev ai(R:au):List PanicEntry->al:=λdg w=>R (.panicked dg) w
instance:Coe Int Value:=⟨Value.int .i64⟩
theorem fo{f:FuncId}{fn:Func}(bm:prog.funcs[f]?=some fn)(rs:List ResultVar)(ia:Nat)(s:ko){args:aY}{w:World}{R:au}{m:Prop}(h:m)(aR:args.length<=ia:=by exact Rq rfl)(τ:fn.body=some (fn.body.getD .skip):=by kernel_rfl)(ku:fn.results.toList=rs:=by kernel_rfl)(s6:fn.ntmps=ia:=by kernel_rfl)(hm:m=oB bF ia (fn.body.getD .skip) s (fin bF rs R) (r5 0 args) w:=by kernel_rfl)(aG:uQ s True=qb bF ia (fn.body.getD .skip) s (fin bF rs R) True:=by kernel_rfl):Calls prog f args.toArray w R:=
 abN Pr bm τ rs ku ia s6 s aR hm aG (we s _ trivial) h
theorem ae7{f:FuncId}{fn:Func}(bm:prog.funcs[f]?=some fn)(rs:List ResultVar)(ia:Nat)(s:A6){args:aY}{w:World}{R:au}{m:Prop}(h:m)(aR:args.length<=ia:=by exact Rq rfl)(τ:fn.body=some (fn.body.getD .skip):=by kernel_rfl)(ku:fn.results.toList=rs:=by kernel_rfl)(s6:fn.ntmps=ia:=by kernel_rfl)(hm:m=C3 bF ia s (fn.body.getD .skip) (fin bF rs R) (r5 0 args) w:=by kernel_rfl)(aG:Sv s True=GD bF ia s (fn.body.getD .skip) (fin bF rs R) True:=by kernel_rfl):Calls prog f args.toArray w R:=
 anR Pr bm τ rs ku ia s6 s aR hm aG (YM s _ trivial) h
theorem ae8{f:FuncId}{fn:Func}(bm:prog.funcs[f]?=some fn)(rs:List ResultVar)(ia:Nat)(s:ko){args:aY}{w:World}{R:au}{m:Prop}(h:m)(aR:args.length<=ia:=by exact Rq rfl)(τ:fn.body=some (fn.body.getD .skip):=by kernel_rfl)(ku:fn.results.toList=rs:=by kernel_rfl)(s6:fn.ntmps=ia:=by kernel_rfl)(hm:m=sd bF ia (fn.body.getD .skip) s (fin bF rs R) (r5 0 args) w:=by kernel_rfl)(aG:uQ s True=yO bF ia (fn.body.getD .skip) s (fin bF rs R) True:=by kernel_rfl):CallsIn Fence.wide 0 prog f args.toArray w R:=
 anT Pr bm τ rs ku ia s6 s aR hm aG (we s _ trivial) h
theorem dA{f:FuncId}{fn:Func}(bm:prog.funcs[f]?=some fn)(rs:List ResultVar)(ia:Nat){args:aY}{w:World}{R:au}{m:Prop}(h:m)(aR:args.length<=ia:=by exact Rq rfl)(τ:fn.body=some (fn.body.getD .skip):=by kernel_rfl)(ku:fn.results.toList=rs:=by kernel_rfl)(s6:fn.ntmps=ia:=by kernel_rfl)(hm:m=oB bF ia (fn.body.getD .skip) .leaf (fin bF rs R) (r5 0 args) w:=by kernel_rfl)(aG:True=qb bF ia (fn.body.getD .skip) .leaf (fin bF rs R) True:=by kernel_rfl):Calls prog f args.toArray w R:=
 abN Pr bm τ rs ku ia s6 .leaf aR hm aG trivial h
abbrev Tk{oY:Type}(f g:World->oY->Prop):Prop:=∀{w r},f w r->g w r
abbrev iS{cP oY:Type}(f g:cP->World->oY->Prop):Prop:=∀{cq w r},f cq w r->g cq w r
abbrev kn{cP cR oY:Type}(f g:cP->cR->World->oY->Prop):Prop:=∀{cq θ w r},f cq θ w r->g cq θ w r
abbrev ji{cP cR c9 oY:Type}(f g:cP->cR->c9->World->oY->Prop):Prop:=∀{cq θ ρ w r},f cq θ ρ w r->g cq θ ρ w r
abbrev lu{cP cR c9 dk oY:Type}(f g:cP->cR->c9->dk->World->oY->Prop):Prop:=∀{cq θ ρ ad w r},f cq θ ρ ad w r->g cq θ ρ ad w r
abbrev vg{cP cR c9 dk dQ oY:Type}(f g:cP->cR->c9->dk->dQ->World->oY->Prop):Prop:=∀{cq θ ρ ad aC w r},f cq θ ρ ad aC w r->g cq θ ρ ad aC w r
abbrev xW{cP cR c9 dk dQ ep oY:Type}(f g:cP->cR->c9->dk->dQ->ep->World->oY->Prop):Prop:=∀{cq θ ρ ad aC ay w r},f cq θ ρ ad aC ay w r->g cq θ ρ ad aC ay w r
abbrev Iu{cP cR c9 dk dQ ep eM oY:Type}(f g:cP->cR->c9->dk->dQ->ep->eM->World->oY->Prop):Prop:=∀{cq θ ρ ad aC ay aM w r},f cq θ ρ ad aC ay aM w r->g cq θ ρ ad aC ay aM w r
abbrev CG{cP cR c9 dk dQ ep eM e1 oY:Type}(f g:cP->cR->c9->dk->dQ->ep->eM->e1->World->oY->Prop):Prop:=∀{cq θ ρ ad aC ay aM aU w r},f cq θ ρ ad aC ay aM aU w r->g cq θ ρ ad aC ay aM aU w r
abbrev akN{cP cR c9 dk dQ ep eM e1 fT oY:Type}(f g:cP->cR->c9->dk->dQ->ep->eM->e1->fT->World->oY->Prop):Prop:=∀{cq θ ρ ad aC ay aM aU cj w r},f cq θ ρ ad aC ay aM aU cj w r->g cq θ ρ ad aC ay aM aU cj w r
abbrev akM{cP cR c9 dk dQ ep eM e1 fT hx jx oY:Type}(f g:cP->cR->c9->dk->dQ->ep->eM->e1->fT->hx->jx->World->oY->Prop):Prop:=∀{cq θ ρ ad aC ay aM aU cj ct ez w r},f cq θ ρ ad aC ay aM aU cj ct ez w r->g cq θ ρ ad aC ay aM aU cj ct ez w r
abbrev aek{cP cR gG:Type}(b:cP->cR->World->gG->(cP->cR->al)->Prop)(cq:cP)(θ:cR)(w:World)(fN:gG):Prop:=∃(bE:cP->cR->al)(m:cP->cR->World->Nat),bE cq θ w/\∀cq θ w,bE cq θ w->b cq θ w fN λgl gF v=>bE gl gF v/\m gl gF v<m cq θ w
abbrev DB{cP cR c9 gG:Type}(b:cP->cR->c9->World->gG->(cP->cR->c9->al)->Prop)(cq:cP)(θ:cR)(ρ:c9)(w:World)(fN:gG):Prop:=∃(bE:cP->cR->c9->al)(m:cP->cR->c9->World->Nat),bE cq θ ρ w/\∀cq θ ρ w,bE cq θ ρ w->b cq θ ρ w fN λgl gF gM v=>bE gl gF gM v/\m gl gF gM v<m cq θ ρ w
abbrev MF{cP cR c9 dk gG:Type}(b:cP->cR->c9->dk->World->gG->(cP->cR->c9->dk->al)->Prop)(cq:cP)(θ:cR)(ρ:c9)(ad:dk)(w:World)(fN:gG):Prop:=∃(bE:cP->cR->c9->dk->al)(m:cP->cR->c9->dk->World->Nat),bE cq θ ρ ad w/\∀cq θ ρ ad w,bE cq θ ρ ad w->b cq θ ρ ad w fN λgl gF gM hl v=>bE gl gF gM hl v/\m gl gF gM hl v<m cq θ ρ ad w
abbrev ar8{cP cR c9 dk gG rX:Type}(b:cP->cR->c9->dk->World->gG->rX->(cP->cR->c9->dk->al)->Prop)(cq:cP)(θ:cR)(ρ:c9)(ad:dk)(w:World)(fN:gG)(c1:rX):Prop:=∃(bE:cP->cR->c9->dk->al)(m:cP->cR->c9->dk->World->Nat),bE cq θ ρ ad w/\∀cq θ ρ ad w,bE cq θ ρ ad w->b cq θ ρ ad w fN c1 λgl gF gM hl v=>bE gl gF gM hl v/\m gl gF gM hl v<m cq θ ρ ad w
abbrev yH{cP cR c9 dk dQ gG:Type}(b:cP->cR->c9->dk->dQ->World->gG->(cP->cR->c9->dk->dQ->al)->Prop)(cq:cP)(θ:cR)(ρ:c9)(ad:dk)(aC:dQ)(w:World)(fN:gG):Prop:=∃(bE:cP->cR->c9->dk->dQ->al)(m:cP->cR->c9->dk->dQ->World->Nat),bE cq θ ρ ad aC w/\∀cq θ ρ ad aC w,bE cq θ ρ ad aC w->b cq θ ρ ad aC w fN λgl gF gM hl ih v=>bE gl gF gM hl ih v/\m gl gF gM hl ih v<m cq θ ρ ad aC w
abbrev oc{cP cR c9 dk dQ ep gG:Type}(b:cP->cR->c9->dk->dQ->ep->World->gG->(cP->cR->c9->dk->dQ->ep->al)->Prop)(cq:cP)(θ:cR)(ρ:c9)(ad:dk)(aC:dQ)(ay:ep)(w:World)(fN:gG):Prop:=∃(bE:cP->cR->c9->dk->dQ->ep->al)(m:cP->cR->c9->dk->dQ->ep->World->Nat),bE cq θ ρ ad aC ay w/\∀cq θ ρ ad aC ay w,bE cq θ ρ ad aC ay w->b cq θ ρ ad aC ay w fN λgl gF gM hl ih iR v=>bE gl gF gM hl ih iR v/\m gl gF gM hl ih iR v<m cq θ ρ ad aC ay w
abbrev DC{cP cR c9 dk dQ ep eM gG:Type}(b:cP->cR->c9->dk->dQ->ep->eM->World->gG->(cP->cR->c9->dk->dQ->ep->eM->al)->Prop)(cq:cP)(θ:cR)(ρ:c9)(ad:dk)(aC:dQ)(ay:ep)(aM:eM)(w:World)(fN:gG):Prop:=∃(bE:cP->cR->c9->dk->dQ->ep->eM->al)(m:cP->cR->c9->dk->dQ->ep->eM->World->Nat),bE cq θ ρ ad aC ay aM w/\∀cq θ ρ ad aC ay aM w,bE cq θ ρ ad aC ay aM w->b cq θ ρ ad aC ay aM w fN λgl gF gM hl ih iR jq v=>bE gl gF gM hl ih iR jq v/\m gl gF gM hl ih iR jq v<m cq θ ρ ad aC ay aM w
abbrev Jp{cP cR c9 dk dQ ep eM e1 gG:Type}(b:cP->cR->c9->dk->dQ->ep->eM->e1->World->gG->(cP->cR->c9->dk->dQ->ep->eM->e1->al)->Prop)(cq:cP)(θ:cR)(ρ:c9)(ad:dk)(aC:dQ)(ay:ep)(aM:eM)(aU:e1)(w:World)(fN:gG):Prop:=∃(bE:cP->cR->c9->dk->dQ->ep->eM->e1->al)(m:cP->cR->c9->dk->dQ->ep->eM->e1->World->Nat),bE cq θ ρ ad aC ay aM aU w/\∀cq θ ρ ad aC ay aM aU w,bE cq θ ρ ad aC ay aM aU w->b cq θ ρ ad aC ay aM aU w fN λgl gF gM hl ih iR jq jc v=>bE gl gF gM hl ih iR jq jc v/\m gl gF gM hl ih iR jq jc v<m cq θ ρ ad aC ay aM aU w
abbrev ar9{cP cR c9 dk dQ ep eM e1 gG rX:Type}(b:cP->cR->c9->dk->dQ->ep->eM->e1->World->gG->rX->(cP->cR->c9->dk->dQ->ep->eM->e1->al)->Prop)(cq:cP)(θ:cR)(ρ:c9)(ad:dk)(aC:dQ)(ay:ep)(aM:eM)(aU:e1)(w:World)(fN:gG)(c1:rX):Prop:=∃(bE:cP->cR->c9->dk->dQ->ep->eM->e1->al)(m:cP->cR->c9->dk->dQ->ep->eM->e1->World->Nat),bE cq θ ρ ad aC ay aM aU w/\∀cq θ ρ ad aC ay aM aU w,bE cq θ ρ ad aC ay aM aU w->b cq θ ρ ad aC ay aM aU w fN c1 λgl gF gM hl ih iR jq jc v=>bE gl gF gM hl ih iR jq jc v/\m gl gF gM hl ih iR jq jc v<m cq θ ρ ad aC ay aM aU w
abbrev W0{cP cR c9 dk dQ ep eM e1 fT gG:Type}(b:cP->cR->c9->dk->dQ->ep->eM->e1->fT->World->gG->(cP->cR->c9->dk->dQ->ep->eM->e1->fT->al)->Prop)(cq:cP)(θ:cR)(ρ:c9)(ad:dk)(aC:dQ)(ay:ep)(aM:eM)(aU:e1)(cj:fT)(w:World)(fN:gG):Prop:=∃(bE:cP->cR->c9->dk->dQ->ep->eM->e1->fT->al)(m:cP->cR->c9->dk->dQ->ep->eM->e1->fT->World->Nat),bE cq θ ρ ad aC ay aM aU cj w/\∀cq θ ρ ad aC ay aM aU cj w,bE cq θ ρ ad aC ay aM aU cj w->b cq θ ρ ad aC ay aM aU cj w fN λgl gF gM hl ih iR jq jc k2 v=>bE gl gF gM hl ih iR jq jc k2 v/\m gl gF gM hl ih iR jq jc k2 v<m cq θ ρ ad aC ay aM aU cj w
abbrev asa{cP cR c9 dk dQ ep eM e1 fT gG rX:Type}(b:cP->cR->c9->dk->dQ->ep->eM->e1->fT->World->gG->rX->(cP->cR->c9->dk->dQ->ep->eM->e1->fT->al)->Prop)(cq:cP)(θ:cR)(ρ:c9)(ad:dk)(aC:dQ)(ay:ep)(aM:eM)(aU:e1)(cj:fT)(w:World)(fN:gG)(c1:rX):Prop:=∃(bE:cP->cR->c9->dk->dQ->ep->eM->e1->fT->al)(m:cP->cR->c9->dk->dQ->ep->eM->e1->fT->World->Nat),bE cq θ ρ ad aC ay aM aU cj w/\∀cq θ ρ ad aC ay aM aU cj w,bE cq θ ρ ad aC ay aM aU cj w->b cq θ ρ ad aC ay aM aU cj w fN c1 λgl gF gM hl ih iR jq jc k2 v=>bE gl gF gM hl ih iR jq jc k2 v/\m gl gF gM hl ih iR jq jc k2 v<m cq θ ρ ad aC ay aM aU cj w
abbrev aei{cP cR c9 dk dQ ep eM e1 fT hx gG:Type}(b:cP->cR->c9->dk->dQ->ep->eM->e1->fT->hx->World->gG->(cP->cR->c9->dk->dQ->ep->eM->e1->fT->hx->al)->Prop)(cq:cP)(θ:cR)(ρ:c9)(ad:dk)(aC:dQ)(ay:ep)(aM:eM)(aU:e1)(cj:fT)(ct:hx)(w:World)(fN:gG):Prop:=∃(bE:cP->cR->c9->dk->dQ->ep->eM->e1->fT->hx->al)(m:cP->cR->c9->dk->dQ->ep->eM->e1->fT->hx->World->Nat),bE cq θ ρ ad aC ay aM aU cj ct w/\∀cq θ ρ ad aC ay aM aU cj ct w,bE cq θ ρ ad aC ay aM aU cj ct w->b cq θ ρ ad aC ay aM aU cj ct w fN λgl gF gM hl ih iR jq jc k2 nU v=>bE gl gF gM hl ih iR jq jc k2 nU v/\m gl gF gM hl ih iR jq jc k2 nU v<m cq θ ρ ad aC ay aM aU cj ct w
abbrev ar3{cP cR c9 dk dQ ep eM e1 fT hx gG rX:Type}(b:cP->cR->c9->dk->dQ->ep->eM->e1->fT->hx->World->gG->rX->(cP->cR->c9->dk->dQ->ep->eM->e1->fT->hx->al)->Prop)(cq:cP)(θ:cR)(ρ:c9)(ad:dk)(aC:dQ)(ay:ep)(aM:eM)(aU:e1)(cj:fT)(ct:hx)(w:World)(fN:gG)(c1:rX):Prop:=∃(bE:cP->cR->c9->dk->dQ->ep->eM->e1->fT->hx->al)(m:cP->cR->c9->dk->dQ->ep->eM->e1->fT->hx->World->Nat),bE cq θ ρ ad aC ay aM aU cj ct w/\∀cq θ ρ ad aC ay aM aU cj ct w,bE cq θ ρ ad aC ay aM aU cj ct w->b cq θ ρ ad aC ay aM aU cj ct w fN c1 λgl gF gM hl ih iR jq jc k2 nU v=>bE gl gF gM hl ih iR jq jc k2 nU v/\m gl gF gM hl ih iR jq jc k2 nU v<m cq θ ρ ad aC ay aM aU cj ct w
abbrev aej{cP cR c9 dk dQ ep eM e1 fT hx jx gG:Type}(b:cP->cR->c9->dk->dQ->ep->eM->e1->fT->hx->jx->World->gG->(cP->cR->c9->dk->dQ->ep->eM->e1->fT->hx->jx->al)->Prop)(cq:cP)(θ:cR)(ρ:c9)(ad:dk)(aC:dQ)(ay:ep)(aM:eM)(aU:e1)(cj:fT)(ct:hx)(ez:jx)(w:World)(fN:gG):Prop:=∃(bE:cP->cR->c9->dk->dQ->ep->eM->e1->fT->hx->jx->al)(m:cP->cR->c9->dk->dQ->ep->eM->e1->fT->hx->jx->World->Nat),bE cq θ ρ ad aC ay aM aU cj ct ez w/\∀cq θ ρ ad aC ay aM aU cj ct ez w,bE cq θ ρ ad aC ay aM aU cj ct ez w->b cq θ ρ ad aC ay aM aU cj ct ez w fN λgl gF gM hl ih iR jq jc k2 nU oW v=>bE gl gF gM hl ih iR jq jc k2 nU oW v/\m gl gF gM hl ih iR jq jc k2 nU oW v<m cq θ ρ ad aC ay aM aU cj ct ez w
abbrev ar4{cP cR c9 dk dQ ep eM e1 fT hx jx k3 gG:Type}(b:cP->cR->c9->dk->dQ->ep->eM->e1->fT->hx->jx->k3->World->gG->(cP->cR->c9->dk->dQ->ep->eM->e1->fT->hx->jx->k3->al)->Prop)(cq:cP)(θ:cR)(ρ:c9)(ad:dk)(aC:dQ)(ay:ep)(aM:eM)(aU:e1)(cj:fT)(ct:hx)(ez:jx)(eW:k3)(w:World)(fN:gG):Prop:=∃(bE:cP->cR->c9->dk->dQ->ep->eM->e1->fT->hx->jx->k3->al)(m:cP->cR->c9->dk->dQ->ep->eM->e1->fT->hx->jx->k3->World->Nat),bE cq θ ρ ad aC ay aM aU cj ct ez eW w/\∀cq θ ρ ad aC ay aM aU cj ct ez eW w,bE cq θ ρ ad aC ay aM aU cj ct ez eW w->b cq θ ρ ad aC ay aM aU cj ct ez eW w fN λgl gF gM hl ih iR jq jc k2 nU oW vd v=>bE gl gF gM hl ih iR jq jc k2 nU oW vd v/\m gl gF gM hl ih iR jq jc k2 nU oW vd v<m cq θ ρ ad aC ay aM aU cj ct ez eW w
abbrev ar5{cP cR c9 dk dQ ep eM e1 fT hx jx k3 gG rX:Type}(b:cP->cR->c9->dk->dQ->ep->eM->e1->fT->hx->jx->k3->World->gG->rX->(cP->cR->c9->dk->dQ->ep->eM->e1->fT->hx->jx->k3->al)->Prop)(cq:cP)(θ:cR)(ρ:c9)(ad:dk)(aC:dQ)(ay:ep)(aM:eM)(aU:e1)(cj:fT)(ct:hx)(ez:jx)(eW:k3)(w:World)(fN:gG)(c1:rX):Prop:=∃(bE:cP->cR->c9->dk->dQ->ep->eM->e1->fT->hx->jx->k3->al)(m:cP->cR->c9->dk->dQ->ep->eM->e1->fT->hx->jx->k3->World->Nat),bE cq θ ρ ad aC ay aM aU cj ct ez eW w/\∀cq θ ρ ad aC ay aM aU cj ct ez eW w,bE cq θ ρ ad aC ay aM aU cj ct ez eW w->b cq θ ρ ad aC ay aM aU cj ct ez eW w fN c1 λgl gF gM hl ih iR jq jc k2 nU oW vd v=>bE gl gF gM hl ih iR jq jc k2 nU oW vd v/\m gl gF gM hl ih iR jq jc k2 nU oW vd v<m cq θ ρ ad aC ay aM aU cj ct ez eW w
abbrev QM{cP cR c9 dk dQ ep eM e1 fT hx jx k3 rW gG:Type}(b:cP->cR->c9->dk->dQ->ep->eM->e1->fT->hx->jx->k3->rW->World->gG->(cP->cR->c9->dk->dQ->ep->eM->e1->fT->hx->jx->k3->rW->al)->Prop)(cq:cP)(θ:cR)(ρ:c9)(ad:dk)(aC:dQ)(ay:ep)(aM:eM)(aU:e1)(cj:fT)(ct:hx)(ez:jx)(eW:k3)(df:rW)(w:World)(fN:gG):Prop:=∃(bE:cP->cR->c9->dk->dQ->ep->eM->e1->fT->hx->jx->k3->rW->al)(m:cP->cR->c9->dk->dQ->ep->eM->e1->fT->hx->jx->k3->rW->World->Nat),bE cq θ ρ ad aC ay aM aU cj ct ez eW df w/\∀cq θ ρ ad aC ay aM aU cj ct ez eW df w,bE cq θ ρ ad aC ay aM aU cj ct ez eW df w->b cq θ ρ ad aC ay aM aU cj ct ez eW df w fN λgl gF gM hl ih iR jq jc k2 nU oW vd xQ v=>bE gl gF gM hl ih iR jq jc k2 nU oW vd xQ v/\m gl gF gM hl ih iR jq jc k2 nU oW vd xQ v<m cq θ ρ ad aC ay aM aU cj ct ez eW df w
abbrev ar6{cP cR c9 dk dQ ep eM e1 fT hx jx k3 rW gG rX:Type}(b:cP->cR->c9->dk->dQ->ep->eM->e1->fT->hx->jx->k3->rW->World->gG->rX->(cP->cR->c9->dk->dQ->ep->eM->e1->fT->hx->jx->k3->rW->al)->Prop)(cq:cP)(θ:cR)(ρ:c9)(ad:dk)(aC:dQ)(ay:ep)(aM:eM)(aU:e1)(cj:fT)(ct:hx)(ez:jx)(eW:k3)(df:rW)(w:World)(fN:gG)(c1:rX):Prop:=∃(bE:cP->cR->c9->dk->dQ->ep->eM->e1->fT->hx->jx->k3->rW->al)(m:cP->cR->c9->dk->dQ->ep->eM->e1->fT->hx->jx->k3->rW->World->Nat),bE cq θ ρ ad aC ay aM aU cj ct ez eW df w/\∀cq θ ρ ad aC ay aM aU cj ct ez eW df w,bE cq θ ρ ad aC ay aM aU cj ct ez eW df w->b cq θ ρ ad aC ay aM aU cj ct ez eW df w fN c1 λgl gF gM hl ih iR jq jc k2 nU oW vd xQ v=>bE gl gF gM hl ih iR jq jc k2 nU oW vd xQ v/\m gl gF gM hl ih iR jq jc k2 nU oW vd xQ v<m cq θ ρ ad aC ay aM aU cj ct ez eW df w
abbrev ar7{cP cR c9 dk dQ ep eM e1 fT hx jx k3 rW ON gG:Type}(b:cP->cR->c9->dk->dQ->ep->eM->e1->fT->hx->jx->k3->rW->ON->World->gG->(cP->cR->c9->dk->dQ->ep->eM->e1->fT->hx->jx->k3->rW->ON->al)->Prop)(cq:cP)(θ:cR)(ρ:c9)(ad:dk)(aC:dQ)(ay:ep)(aM:eM)(aU:e1)(cj:fT)(ct:hx)(ez:jx)(eW:k3)(df:rW)(gb:ON)(w:World)(fN:gG):Prop:=∃(bE:cP->cR->c9->dk->dQ->ep->eM->e1->fT->hx->jx->k3->rW->ON->al)(m:cP->cR->c9->dk->dQ->ep->eM->e1->fT->hx->jx->k3->rW->ON->World->Nat),bE cq θ ρ ad aC ay aM aU cj ct ez eW df gb w/\∀cq θ ρ ad aC ay aM aU cj ct ez eW df gb w,bE cq θ ρ ad aC ay aM aU cj ct ez eW df gb w->b cq θ ρ ad aC ay aM aU cj ct ez eW df gb w fN λgl gF gM hl ih iR jq jc k2 nU oW vd xQ ajJ v=>bE gl gF gM hl ih iR jq jc k2 nU oW vd xQ ajJ v/\m gl gF gM hl ih iR jq jc k2 nU oW vd xQ ajJ v<m cq θ ρ ad aC ay aM aU cj ct ez eW df gb w
end Go.Proofs.YtcpdfhkhaekekaaGreat.G

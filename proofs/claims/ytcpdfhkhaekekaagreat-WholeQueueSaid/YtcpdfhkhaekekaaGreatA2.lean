/- The walk of the functions, and the plain laws of the model: part of the proof. Conditions: none. -/
import Derived.OrdersIn
import Derived.TacticsIn
import Derived.RangeFuncFrom
import Derived.RangeFuncLeaves
import Derived.RangeFuncCalls
import Derived.Test.YtcpdfhkhaekekaaGreatProg
import Derived.KernelRfl
import Derived.Test.YtcpdfhkhaekekaaGreatA1
set_option linter.unusedVariables false
set_option linter.unusedSimpArgs false
namespace Go.bI
def rq(r:Option Nat):Fence:={Fence.wide with round:=r}
theorem Zf{r:Option Nat}{m:Nat}{P:Program}{f:FuncId}{args:ah}{w:World}{R:ak}(h:Calls P f args w R):CallsIn (rq r) m P f args w R:=(callsIn_wide (n:=m)).2 h
theorem asW{r:Option Nat}{m:Nat}{P:Program}{row:String}{args:ah}{w:World}{R:Value->ai}(h:Rows P row args w R):RowsIn (rq r) m P row args w R:=λc cs _=>by obtain⟨v,w',σ,ψ⟩:=h c cs;exact⟨v,w',σ,stepsIn_wide.2 ψ⟩
def H0(γ:Oper):Bool:=match γ.op with| .defer _=>false|_=>true
structure Same(ds:List Deferred)(a0 a:Act):Prop where
 tmps:a0.tmps=a.tmps
 defs:a.defers=a0.defers++ds
theorem Same.put{ds:List Deferred}{a0 a:Act}(h:Same ds a0 a)(d:Option Nat)(v:Value):Same ds (a0.put d v) (a.put d v):=by
 cases d with
 |none=>exact h
 |some d=>exact⟨by simp only[Act.put];rw[h.tmps],h.defs⟩
theorem Same.eval{ds:List Deferred}{a0 a:Act}(h:Same ds a0 a):a0.eval=a.eval:=by
 funext x
 cases x with
 |tmp t=>show a0.tmps.getD t undef=a.tmps.getD t undef;rw[h.tmps]
 |_=>rfl
theorem adl{r:Option Nat}{m:Nat}{P:Program}{ds:List Deferred}{γ:Oper}{a0 a:Act}{w:World}{K rr:Act->ai}{Q Q':Exit->Act->ai}(ψ:Same ds a0 a)(lo:H0 γ=true)
  (h:γ.wp P a0 w K Q)(jW:∀qP b w,Same ds qP b->K qP w->rr b w)(cY:∀cX w,Q (.panic cX) a0 w->Q' (.panic cX) a w)(lZ:¬LetsOut Q):γ.wpIn (rq r) m P a w rr Q':=by
 refine⟨λ_ _=>trivial,?_⟩;rw[Oper.semAt_eq _ _ _ (by intro c e;simp[H0,e]at lo)];unfold Oper.wp at h;rw[ψ.eval]at h;generalize(execOp a.eval γ).run P w=res at h⊢;cases res with
 |ok x w'=>
  cases x with
  |value v=>exact jW _ _ _ (ψ.put _ _) h
  |skip=>exact jW _ _ _ (ψ.put _ _) h
  |defer d=>
   refine jW _ _ _ (Same.put ?_ _ _) h;exact⟨ψ.tmps,by dsimp only;rw[ψ.defs];rfl⟩
  |enter f args=>
   refine⟨λe=>(by cases e),Zf (Calls.mono h λe hY he=>?_)⟩;cases e with
   |returned v=>exact jW _ _ _ (ψ.put _ _) he
   |panicked cX=>exact cY _ _ he
   |outgrown=>exact absurd he lZ
  |row row args=>exact⟨λe=>(by cases e),asW (Rows.mono h λv hY aL=>jW _ _ _ (ψ.put _ _) aL)⟩
  |_=>exact h.elim
 |halt x w'=>
  cases x with
  |panic v=>exact cY _ _ h
  |_=>exact h.elim
theorem Pk{r:Option Nat}{m:Nat}{P:Program}{ds:List Deferred}{ops:Array Oper}{Q Q':Exit->Act->ai}(lo:∀γ∈ops.toList,H0 γ=true)(dV:∀e a0 a w,Same ds a0 a->Q e a0 w->Q' e a w)(lZ:¬LetsOut Q):
  ∀(l:List Nat)(a0 a:Act)(w:World),Same ds a0 a->wpOps P ops Q l a0 w->wpOpsIn (rq r) m P ops Q' l a w
 |[],a0,a,w,ψ,h=>dV _ _ _ _ ψ h
 |i::rest,a0,a,w,ψ,h=>by
  unfold wpOps at h;unfold wpOpsIn;cases aE:ops[i]?with
  |none=>
   rw[aE]at h;exact Pk lo dV lZ rest a0 a w ψ h
  |some γ=>
   rw[aE]at h;dsimp only at h⊢;rw[ψ.tmps]at h;split at h
   ·rename_i hw;rw[aY hw];rcases h with h|⟨_,h⟩
    ·exact adl ψ (lo γ (by rw[<-Array.getElem?_toList]at aE;exact eS aE)) h (λqP b w ω hk=>Pk lo dV lZ rest qP b w ω hk) (λcX w hp=>dV _ _ _ _ ψ hp) lZ
    ·exact absurd h lZ
   ·rename_i hw;rw[aN hw];exact⟨λ_ _=>trivial,Pk lo dV lZ rest _ _ _ (ψ.put _ _) h⟩
def oC(ds:List Deferred)(n:Nat)(a:Act)(ν:c4):Prop:=a.defers=ds/\a.tmps.size=n/\∀d v,ν.get d=some v->a.tmps[d]?=some v
theorem oC.base{ds:List Deferred}{n:Nat}{a:Act}{ν:c4}(h:oC ds n a ν):Rel n {a with defers:=[]} ν:=⟨rfl,h.2.1,h.2.2⟩
theorem oC.same{ds:List Deferred}{n:Nat}{a:Act}{ν:c4}(h:oC ds n a ν):Same ds {a with defers:=[]} a:=⟨rfl,by rw[h.1];rfl⟩
theorem oC.of{ds:List Deferred}{n:Nat}{a0 a:Act}{ν:c4}(h:Rel n a0 ν)(ψ:Same ds a0 a):oC ds n a ν:=⟨by rw[ψ.defs,h.1];rfl,by rw[<-ψ.tmps];exact h.2.1,λd v aL=>by rw[<-ψ.tmps];exact h.2.2 d v aL⟩
def zQ(ds:List Deferred)(n:Nat)(Q:jH)(Q':Exit->Act->ai):Prop:=∀e a ν w,oC ds n a ν->Q e ν w->Q' e a w
theorem zQ.iD{ds:List Deferred}{n:Nat}{Q:jH}{Q':Exit->Act->ai}(h:zQ ds n Q Q'){N:c4->ai}{Bq:Act->ai}(eB:∀a ν w,oC ds n a ν->N ν w->Bq a w):zQ ds n (bI.iD N Q) (Exit.then Bq Q'):=by intro e a ν w σ ay;cases e<;>first|exact eB _ _ _ σ ay|exact h _ _ _ _ σ ay
theorem zQ.s8{ds:List Deferred}{n:Nat}{Q:jH}{Q':Exit->Act->ai}(h:zQ ds n Q Q')(id:Nat):zQ ds n (bI.s8 id Q) (Exit.inBlock id Q'):=by
 intro e a ν w σ ay;cases e with
 |exit y5=>
  simp only[bI.s8]at ay;simp only[Exit.inBlock];by_cases e:y5=id
  ·subst e;simp only[Cx,sa]at ay;rw[aY rfl];exact h _ _ _ _ σ ay
  ·have:Nat.beq y5 id=false:=by
    cases ω:Nat.beq y5 id with
    |false=>rfl
    |true=>exact(e (x3 ω)).elim
   rw[this]at ay;rw[aN e];exact h _ _ _ _ σ ay
 |_=>exact h _ _ _ _ σ ay
def Xu(P:Program)(l:Nat)(args:ah)(w:World)(N:Value->ai):Prop:=YieldAt Fence.wide 0 P l args w λe w'=>∃v,e=.returned v/\N v w'
def yieldOf(γ:Oper)(ν:c4):Option (Nat×List Operand):=
 match γ.op with
 | .call cl=>(match cl.callee with
  | .value (.tmp t)=>(match ν.get t with
   |some (.func (.yield l) jM gF)=>cond (Nat.beq jM.size 0&&Nat.beq gF.size 0) (some (l,cl.args.toList)) none
   |_=>none)
  |_=>none)
 |_=>none
def Hc(c:c3)(n:Nat)(ops:List Oper)(Q:c4->ai)(X:c4->List PanicEntry->ai):List Oper->c4->ai
 |[],ν,w=>Q ν w
 |γ::r,ν,w=>BS ops γ.guard ν
  (λν=>match yieldOf γ ν with
   |some (l,xs)=>o6 ν xs λvs=>Xu c.P l vs.toArray w λv w'=>ξ (eU c.tb γ.type) λi=>yH i.desc v λv=>tm n γ.dst v ν λν=>Hc c n ops Q X r ν w'
   |none=>D4 c γ ν w (λv w=>tm n γ.dst v ν λν=>Hc c n ops Q X r ν w) (X ν))
  (λν=>tm n γ.dst undef ν λν=>Hc c n ops Q X r ν w)
theorem NR{c:c3}(π:ht c){n:Nat}{rd:Option Nat}{m:Nat}{ds:List Deferred}{ops:List Oper}(lo:∀γ∈ops,H0 γ=true){Q:c4->ai}{X:c4->List PanicEntry->ai}{Q':Exit->Act->ai}
  (dV:∀a ν w,oC ds n a ν->Q ν w->Q' .normal a w)(eE:∀a ν cX w,oC ds n a ν->X ν cX w->Q' (.panic cX) a w):
  ∀(l:List Oper),(∀γ∈l,γ∈ops)->∀(a:Act)(ν:c4)(w:World),oC ds n a ν->Hc c n ops Q X l ν w->wpListIn (rq rd) m c.P ops.toArray Q' l a w
 |[],_,a,ν,w,σ,h=>dV a ν w σ h
 |γ::r,an,a,ν,w,σ,h=>by
  unfold wpListIn;have qV:∀γ∈r,γ∈ops:=λx I=>an x (h9 _ I);have n4:=lo γ (an γ (om ..));rcases D8 σ.base h with⟨hw,fJ,eP,h⟩|⟨hw,fJ,eP,h⟩
  ·rw[aY hw];cases ag:yieldOf γ fJ with
   |none=>
    rw[ag]at h;refine adl (Q:=λe b w'=>∃cX,e=.panic cX/\X fJ cX w') σ.same n4 (JS π eP (K:=λb w'=>∃im,Rel n b im/\Hc c n ops Q X r im w') (λv w' hp=>wB eP hp) (λcX w' I=>⟨cX,rfl,I⟩) h) (λqP b w' ψ⟨im,iU,η⟩=>?_) (λcX w'⟨akG,e,I⟩=>?_) (λ⟨b,w',cX,e,_⟩=>by cases e)
    ·exact NR π lo dV eE r qV _ _ _ (.of iU ψ) η
    ·cases e;exact eE a fJ cX w' (.of eP σ.same) I
   |some p=>
    obtain⟨l,xs⟩:=p;rw[ag]at h;dsimp only at h;have h:=xW eP h;have yY:∃cl t,γ.op=.call cl/\cl.callee=.value (.tmp t)/\fJ.get t=some (.func (.yield l) #[] #[])/\xs=cl.args.toList:=by
     unfold yieldOf at ag;split at ag
     ·rename_i cl gg;split at ag
      ·rename_i t aO;split at ag
       ·rename_i oc jM gF bL;cases aI:Nat.beq jM.size 0&&Nat.beq gF.size 0 with
        |false=>rw[aI]at ag;cases ag
        |true=>
         rw[aI]at ag;simp only[sa,sb,FK]at ag;have aI:=Iq.1 aI;have aM:jM=#[]:=PD (x3 aI.1);have bz:gF=#[]:=PD (x3 aI.2);exact⟨cl,t,gg,aO,by rw[bL,ag.1,aM,bz],ag.2.symm⟩
       ·cases ag
      ·cases ag
     ·cases ag
    obtain⟨cl,t,gg,yO,mZ,rfl⟩:=yY;have iO:a.eval (.tmp t)=.func (.yield l) #[] #[]:=by
     have:=eP.2.2 t _ mZ
     show a.tmps.getD t undef=_;rw[FJ];have e:({a with defers:=[]}:Act).tmps=a.tmps:=rfl;rw[e]at this;rw[this];rfl
    obtain⟨fn,tmps,assign,body,il,y1⟩:=h;refine⟨λ_ _=>trivial,?_⟩;rw[Oper.semAt_eq _ _ _ (by intro d e;rw[gg]at e;cases e)];have SE:(cl.args.toList.map ({a with defers:=[]}:Act).eval).toArray=cl.args.map a.eval:=by apply qq;simp only[FL];rfl
    rw[SE]at il;have hex:(execOp a.eval γ).run c.P w=.ok (.round l fn tmps assign body) w:=by unfold execOp;simp only[gg];unfold resolve;simp only[yO,iO,Deferred.ofValue,pure_bind,invoke,Sem.run_bind,Sem.run_pure,Result.andThen_ok];simpa using il
    rw[hex];refine⟨λe=>(by cases e),?_⟩;refine RoundIn.mono (F:=rq rd) (n:=m-1) ⟨y1.1,λc cs _=>y1.2 c cs (room_wide _)⟩ λe w' he=>?_;obtain⟨v,rfl,aL⟩:=he;obtain⟨i,o,aL⟩:=du aL;obtain⟨im,iU,η⟩:=wB eP (DW aL);exact NR π lo dV eE r qV _ _ _ (.of iU (σ.same.put _ _)) η
  ·rw[aN (by simp[hw])];obtain⟨im,iU,η⟩:=wB eP h;exact⟨λ_ _=>trivial,NR π lo dV eE r qV _ _ _ (.of iU (σ.same.put _ _)) η⟩
def qT(c:c3)(n:Nat):Code->jU->jH->c4->ai
 | .skip,_,Q,ν,w=>Q .normal ν w
 | .ret,_,Q,ν,w=>Q .ret ν w
 | .exit id,_,Q,ν,w=>Q (.exit id) ν w
 | .region _ ops D2,_,Q,ν,w=>ο (ops.toList.all H0) (cond D2
  (ο (wu ops.toList) (sW c n ops.toList (Q .normal) (λcX w=>Q (.panic cX) [] w) (ops.toList.length+1) [] [] ν w.drew))
  (Hc c n ops.toList (Q .normal) (λν cX w=>Q (.panic cX) ν w) ops.toList ν w))
 | .seq x y,s,Q,ν,w=>qT c n x s.left (iD (II s (qT c n y s.right Q)) Q) ν w
 | .cond p x y,s,Q,ν,w=>eJ ν p λv=>dD v λb=>cond b (qT c n x s.left Q ν w) (qT c n y s.right Q ν w)
 | .block id x,s,Q,ν,w=>qT c n x s.left (s8 id Q) ν w
 | .label _,_,Q,ν,w=>Q .normal ν w
 | .loop x,.loop b8 K _,Q,ν,w=>gC b8 K ν w
 |_,_,_,_,_=>False
def xS(c:c3)(n:Nat):Code->jU->jH->Prop
 | .seq x y,.cut b8 K vb qA,Q=>xS c n x vb (iD (gC b8 K) Q)/\lz b8 K (qT c n y qA Q) []/\xS c n y qA Q
 | .seq x y,s,Q=>xS c n x s.left (iD (II s (qT c n y s.right Q)) Q)/\xS c n y s.right Q
 | .cond _ x y,s,Q=>xS c n x s.left Q/\xS c n y s.right Q
 | .block id x,s,Q=>xS c n x s.left (s8 id Q)
 | .loop x,.loop b8 K body,Q=>
  lz b8 K (λν w=>∃(bw:hb Prop b8)(m:hb Nat b8),gC b8 bw ν w/\ou b8 bw m (λk ν w=>qT c n x (body (mj b8 bw m k)) (iD (gC b8 (mj b8 bw m k)) Q) ν w) []) []/\
   ∀C:hb Prop b8,xS c n x (body C) (iD (gC b8 C) Q)
 |_,_,_=>True
def xT(c:c3)(n:Nat):Code->jU->jH->Prop->Prop
 | .seq x y,.cut b8 K vb qA,Q,r=>xT c n x vb (iD (gC b8 K) Q) (lz b8 K (qT c n y qA Q) []/\xT c n y qA Q r)
 | .seq x y,s,Q,r=>xT c n x s.left (iD (II s (qT c n y s.right Q)) Q) (xT c n y s.right Q r)
 | .cond _ x y,s,Q,r=>xT c n x s.left Q (xT c n y s.right Q r)
 | .block id x,s,Q,r=>xT c n x s.left (s8 id Q) r
 | .loop x,.loop b8 K body,Q,r=>
  lz b8 K (λν w=>∃(bw:hb Prop b8)(m:hb Nat b8),gC b8 bw ν w/\ou b8 bw m (λk ν w=>qT c n x (body (mj b8 bw m k)) (iD (gC b8 (mj b8 bw m k)) Q) ν w) []) []/\
   (∀C:hb Prop b8,xT c n x (body C) (iD (gC b8 C) Q) True)/\r
 |_,_,_,r=>r
theorem aq6{c:c3}{n:Nat}:∀(x:Code)(s:jU)(Q:jH)(r:Prop),xT c n x s Q r->xS c n x s Q/\r:=by
 intro x
 induction x with
 |seq x y mJ mK=>
  intro s Q r h;cases s with
  |cut b8 K vb qA=>
   obtain⟨h1,η,au⟩:=mJ _ _ _ h;obtain⟨bV,c9⟩:=mK _ _ _ au;exact⟨⟨h1,η,bV⟩,c9⟩
  |_=>
   obtain⟨h1,η⟩:=mJ _ _ _ h;obtain⟨bV,c9⟩:=mK _ _ _ η;exact⟨⟨h1,bV⟩,c9⟩
 |cond p x y mJ mK=>
  intro s Q r h;obtain⟨h1,η⟩:=mJ _ _ _ h;obtain⟨bV,c9⟩:=mK _ _ _ η;exact⟨⟨h1,bV⟩,c9⟩
 |block id x cq=>exactλs Q r h=>cq _ _ _ h
 |loop x cq=>
  intro s Q r h;cases s with
  |loop b8 K body=>
   obtain⟨h1,η,au⟩:=h;exact⟨⟨h1,λC=>(cq _ _ _ (η C)).1⟩,au⟩
  |_=>exact⟨trivial,h⟩
 |_=>exactλs Q r h=>⟨trivial,h⟩
theorem SR{c:c3}(π:ht c){n:Nat}{rd:Option Nat}{m:Nat}{ds:List Deferred}:∀(x:Code)(s:jU)(Q:jH)(Q':Exit->Act->ai)(a:Act)(ν:c4)(w:World),
  xS c n x s Q->zQ ds n Q Q'->oC ds n a ν->qT c n x s Q ν w->x.wpIn (rq rd) m c.P Q' a w:=by
 intro x
 induction x with
 |skip=>exactλs Q Q' a ν w _ dV σ h=>wpIn_skip (dV _ _ _ _ σ h)
 |ret=>exactλs Q Q' a ν w _ dV σ h=>wpIn_ret (dV _ _ _ _ σ h)
 |exit id=>exactλs Q Q' a ν w _ dV σ h=>wpIn_exit (dV _ _ _ _ σ h)
 |label l=>exactλs Q Q' a ν w _ dV σ h=>wpIn_label (dV _ _ _ _ σ h)
 |goto l=>exactλs Q Q' a ν w _ dV σ h=>h.elim
 |refuse m=>exactλs Q Q' a ν w _ dV σ h=>h.elim
 |scope x cq=>exactλs Q Q' a ν w _ dV σ h=>h.elim
 |rangeFunc f ps rA rF=>exactλs Q Q' a ν w _ dV σ h=>h.elim
 |region id ops D2=>
  intro s Q Q' a ν w _ dV σ h;obtain⟨lo,h⟩:=h5 h;have lo:∀γ∈ops.toList,H0 γ=true:=λγ aE=>Cy.1 lo γ aE;cases D2 with
  |false=>
   refine wpIn_region_list ?_
   have:=NR π (rd:=rd) (m:=m) (ds:=ds) lo (Q:=Q .normal) (X:=λν cX w=>Q (.panic cX) ν w) (Q':=Q') (λa ν w σ h=>dV _ _ _ _ σ h) (λa ν cX w σ h=>dV _ _ _ _ σ h) ops.toList (λγ aE=>aE) a ν w σ h
   simpa using this
  |true=>
   obtain⟨dq,h⟩:=h5 h;refine wpIn_region_draw λt=>?_;simp only[Region.schedule,π.mixed,Bool.true_or,o9];have ω:=σ.base;have key:=ZT π dq (Q:=Q .normal) (X:=λcX w=>Q (.panic cX) [] w) (Q':=λe b w'=>(e=.normal/\∃ν,Rel n b ν/\Q .normal ν w')\/∃cX,e=.panic cX/\Rel n b []/\Q (.panic cX) [] w')
    (λa ν w σ h=>.inl ⟨rfl,ν,σ,h⟩) (λa cX w σ h=>.inr ⟨cX,rfl,σ,h⟩) ops.size _ [] [] ν {a with defers:=[]} {a with defers:=[]} (Array.replicate ops.size false) _ ?_ ?_ h
   ·refine Pk lo (λe a0 a w ψ ay=>?_) (λ⟨b,w',ay⟩=>?_) _ _ a _ σ.same (wpAny_sound ops.size t _ _ _ key)
    ·rcases ay with⟨rfl,ν,B9,ay⟩|⟨cX,rfl,B9,ay⟩
     ·exact dV _ _ _ _ (.of B9 ψ) ay
     ·exact dV _ _ _ _ (.of B9 ψ) ay
    ·rcases ay with⟨e,_⟩|⟨cX,e,_⟩<;>cases e
   ·refine⟨ω,ω.1,ω.2.1,by simp,?_,trivial,?_,?_,?_,λd _=>rfl,λi o=>(by cases o)⟩
    ·intro i o;rw[Array.getElem?_replicate]at o;split at o<;>simp at o
    ·intro i o;rw[Array.getElem?_replicate]at o;split at o<;>simp at o
    ·intro i o;cases o
    ·intro i o;cases o
   ·simp
 |seq x y mJ mK=>
  intro s Q Q' a ν w aE dV σ h;refine wpIn_seq ?_;cases s with
  |cut b8 K vb qA=>
   obtain⟨l3,lj,v8⟩:=aE;refine mJ vb (iD (gC b8 K) Q) _ a ν w l3 (dV.iD λfz fJ w' eP hk=>?_) σ h;obtain⟨im,iU,η⟩:=ov eP.base eP.base.nil lj hk;exact mK qA Q Q' fz im w' v8 dV (.of iU eP.same) η
  |_=>
   obtain⟨l3,lj⟩:=aE;exact mJ _ _ _ a ν w l3 (dV.iD λfz fJ w' eP hk=>mK _ Q Q' fz fJ w' lj dV eP hk) σ h
 |cond p x y mJ mK=>
  intro s Q Q' a ν w aE dV σ h;obtain⟨b,ω,h⟩:=BL (gL σ.base h);have ω:a.eval p=.bool b:=by rw[<-ω,σ.same.eval]
  refine wpIn_cond ω ?_;cases b with
  |true=>exact mJ s.left Q Q' a ν w aE.1 dV σ h
  |false=>exact mK s.right Q Q' a ν w aE.2 dV σ h
 |block id x cq=>
  intro s Q Q' a ν w aE dV σ h;exact wpIn_block (cq s.left _ _ a ν w aE (dV.s8 id) σ h)
 |loop x cq=>
  intro s Q Q' a ν w aE dV σ h;cases s with
  |loop b8 K body=>
   obtain⟨l3,lj⟩:=aE;obtain⟨adp,uJ,bw,acB,gp,y1⟩:=ov σ.base σ.base.nil l3 h;have Ks:∀{a:Act}{ν:c4},oC ds n a ν->∀d v,ν.get d=some v->(yu a).get d=some v:=λσ d v h=>by rw[N0];exact σ.2.2 d v h
   have uJ:oC ds n a adp:=.of uJ σ.same;refine wpIn_loop (λa w=>a.defers=ds/\a.tmps.size=n/\gC b8 bw (yu a) w) (λa w=>ml b8 acB (yu a) w) ⟨uJ.1,uJ.2.1,(pk (Ks uJ) gp).1⟩ ?_;rintro fz w' ⟨ae,ar,J5⟩;have HD:oC ds n fz (yu fz):=⟨ae,ar,λd v h=>by rw[<-N0];exact h⟩;obtain⟨im,iU,η⟩:=qC HD.base HD.base.nil y1 J5;refine cq _ _ _ fz im w' (lj _) (dV.iD λa3 ars aa EG au=>?_) (.of iU HD.same) η;obtain⟨bV,c9⟩:=qD au;obtain⟨iv,h7⟩:=pk (Ks EG) bV;exact⟨⟨EG.1,EG.2.1,iv⟩,by rw[<-h7 acB];exact c9⟩
  |_=>exact h.elim
structure Rw{α:Type}(P:Program)(gf:Nat)(lb:ah)(enc:α->Value)(fx:World->ai)(S Sp:List α->Prop)(N:Nat)(bw pX:List α->ai)(w:World):Prop where
 seq:SeqStopsK Fence.wide 0 P gf lb (λx=>#[enc x]) fx S Sp N w
 trans:∀{A B C:World},fx A B->fx B C->fx A C
 book:∀(W:World)(l:Nat)(γ hd:Obj),w.heap.size<=l->W.heap[l]?=some γ->γ.isCells=false->γ.isWalk=false->fx W (W.putObj l hd)
 own:OwnFrom w.heap.size bw
 ary:OwnFrom w.heap.size pX
 start:bw [] w
def asO{α:Type}(fx:World->ai)(bw pX:List α->ai)(xs:List α)(W:World):jH
 | .normal,_,bE=>KeepsOthers W bE/\fx W bE/\bw xs bE
 | .ret,_,bE=>KeepsOthers W bE/\pX xs bE
 |_,_,_=>False
def JK(D:Nat):Deferred:={target:=.collected D,args:=#[]}
def QV(D:Nat)(Q:jH):jH:=λe ν w=>w.heap[D]?=some (.deferred (some []))/\Q e ν (w.putObj D (.deferred none))
def YK:Code->Array Tmp->Option (Nat×Nat)
 | .region _ ops false,ps=>(match ops.toList,ps.toList with
  |[γ],[p]=>(match γ.op,γ.dst,γ.guard with
   | .assign (.tmp q),some d,none=>cond (Nat.beq q p) (some (p,d)) none
   |_,_,_=>none)
  |_,_=>none)
 |_,_=>none
def akm:Code->Option TypeId
 | .region _ ops false=>(match ops.toList with|[γ]=>some γ.type|_=>none)
 |_=>none
def Cs:Code->Bool
 | .seq x y=>Cs x&&Cs y
 | .cond _ x y=>Cs x&&Cs y
 | .block _ x=>Cs x
 | .loop _=>false
 |_=>true
theorem ac8{c:c3}{n:Nat}:∀(x:Code)(Q:jH),Cs x=true->xS c n x .leaf Q:=by
 intro x
 induction x with
 |seq x y mJ mK=>exactλQ h=>⟨mJ _ (Iq.1 h).1,mK _ (Iq.1 h).2⟩
 |cond p x y mJ mK=>exactλQ h=>⟨mJ _ (Iq.1 h).1,mK _ (Iq.1 h).2⟩
 |block id x cq=>exactλQ h=>cq _ h
 |loop x cq=>exactλQ h=>trivial
 |_=>exactλQ h=>trivial
def JM(v:Value)(K:Nat->ah->ah->Prop):Prop:=match v with| .func (.func gf) jM lb=>K gf jM lb|_=>False
theorem ak8{v:Value}{K:Nat->ah->ah->Prop}(h:JM v K):∃gf jM lb,v=.func (.func gf) jM lb/\K gf jM lb:=by
 unfold JM at h;split at h
 ·exact⟨_,_,_,rfl,h⟩
 ·exact h.elim
def LR(c:c3)(n:Nat)(g:Operand)(ps:Array Tmp)(rA rF y:Code)(Q:jH)(ν:c4)(w:World):Prop:=
 ξ (YK rA ps) λpd=>eJ ν g λv=>JM v λgf jM lb=>ο (Nat.beq jM.size 0&&c.fns.contains gf&&Nat.blt pd.1 n&&Nat.blt pd.2 n&&Cs rF&&Cs y)
  (∃(α:Type)(enc:α->Value)(fx:World->ai)(S Sp:List α->Prop)(N:Nat)(bw pX:List α->ai),Rw c.P gf lb enc fx S Sp N bw pX w/\
   (∀(pre:List α)(x:α)(W:World),bw pre W->pre.length<N->ξ (akm rA) λty=>ξ (eU c.tb ty) λi=>yH i.desc (enc x) λv=>qT c n rF .leaf (asO fx bw pX (pre++[x]) W) ((pd.2,v)::(pd.1,v)::ν) W)/\
   (∀(D:Nat)(xs:List α)(W:World),w.heap.size<=D->S xs->bw xs W->W.heap[D]?=some (.deferred (some []))->qT c n y .leaf (QV D Q) ν W)/\
   (∀(D:Nat)(pre:List α)(W:World),w.heap.size<=D->Sp pre->pX pre W->W.heap[D]?=some (.deferred (some []))->QV D Q .ret ν W))
theorem asP{c:c3}(π:ht c){n id:Nat}{g:Operand}{ps:Array Tmp}{rA rF y:Code}{Q:jH}{Q':Exit->Act->ai}{a:Act}{ν:c4}{w:World}
  (pw:∀D,zQ [JK D] n (QV D Q) Q')(σ:Rel n a ν)(h:LR c n g ps rA rF y Q ν w):
  (Code.block id (.rangeFunc g ps rA rF)).wpIn (rq none) 2 c.P (Exit.then (y.wpIn (rq none) 2 c.P Q') Q') a w:=by
 obtain⟨⟨p,d⟩,rR,h⟩:=du h;have h1:=gL σ h;clear h;obtain⟨gf,jM,lb,bL,η⟩:=ak8 h1;clear h1;have bV:=h5 η;clear η;obtain⟨ω,au⟩:=bV;simp only[kH]at ω;obtain⟨⟨⟨⟨⟨ε,ι⟩,aH⟩,af⟩,dC⟩,gb⟩:=ω;have an1:jM=#[]:=PD (x3 ε);subst an1;have hp:p+1<=n:=by simpa[Nat.blt,Nat.ble_eq]using aH
 have ae:d+1<=n:=by simpa[Nat.blt,Nat.ble_eq]using af
 have hp:p<n:=hp;have ae:d<n:=ae;obtain⟨fn,TR,Ku,Ty⟩:=π.fn gf (by simpa using ι);obtain⟨α,enc,fx,S,Sp,N,bw,pX,ok,Kc,anN,ao8⟩:=au;have has:∃i ops γ,rA=.region i ops false/\ops.toList=[γ]/\ps=#[p]/\γ.op=.assign (.tmp p)/\γ.dst=some d/\γ.guard=none:=by
  unfold YK at rR;split at rR
  ·rename_i i ops;split at rR
   ·rename_i γ q Uj y0;split at rR
    ·rename_i fO d2 h1 η au;cases ay:Nat.beq fO q with
     |false=>rw[ay]at rR;cases rR
     |true=>
      rw[ay]at rR;simp only[sa,sb,FK]at rR;have ay:=x3 ay;obtain⟨rfl,rfl⟩:=rR;refine⟨_,ops,γ,rfl,Uj,?_,by rw[h1,ay],η,au⟩;apply qq;exact y0
    ·cases rR
   ·cases rR
  ·cases rR
 obtain⟨i,ops,γ,rfl,Uj,rfl,yY,rN,TT⟩:=has;refine wpIn_block ?_
 let aq:α->Act:=λx=>{tmps:=(a.tmps.setIfInBounds p (enc x)).setIfInBounds d (enc x),defers:=[]}
 refine wpIn_rangeFunc_ownF (F:=rq none) (n:=2) (w0:=w) rfl (by omega) (gf:=gf) (lb:=lb) bL trivial (λargs w=>ael TR Ku Ty) (encs:=λx=>#[enc x]) (Kp:=fx) (S:=S) (Sp:=Sp) (N:=N) ?_ (λh k=>ok.trans h k) ok.book (Go.RowKit.Below.refl _ _) (λx=>rfl)
  bw (λc xs W=>c=.ret/\pX xs W) ok.own ?_ ok.start aq ?_ ?_ ?_ ?_
 ·intro l C6 Ro W ω J6 Tl ag aF
  have:=ok.seq l C6 Ro W ω J6 Tl (λpre x xd χ an=>by obtain⟨fn,tmps,assign,body,UK,ON⟩:=ag pre x xd χ an;exact⟨fn,tmps,assign,body,UK,⟨ON.1,λc cs _=>ON.2 c cs (room_wide _)⟩⟩) aF
  exact Zf (callsIn_wide.1 this)
 ·intro c s A B row ψ oR lL;exact⟨ψ.1,ok.ary _ A B row ψ.2 oR lL⟩
 ·intro l x W K jW;refine wpIn_region_list ?_;rw[Uj];unfold wpListIn;rw[aY (by simp[Region.wanted,TT])];refine⟨λ_ _=>trivial,?_⟩;rw[Oper.semAt_eq _ _ _ (by intro c e;rw[yY]at e;cases e)];have hI:(#[p].zip #[enc x]).foldl (λt(x:Nat×Value)=>t.setIfInBounds x.1 x.2) a.tmps=a.tmps.setIfInBounds p (enc x):=by
   have:(#[p].zip #[enc x]).toList=[(p,enc x)]:=by simp
   rw[<-Array.foldl_toList,this];rfl
  have anZ:(a.tmps.setIfInBounds p (enc x)).getD p undef=enc x:=by
   have:p<a.tmps.size:=by rw[σ.2.1];exact hp
   simp[this]
  have il:(execOp ({tmps:=(#[p].zip #[enc x]).foldl (λt(x:Nat×Value)=>t.setIfInBounds x.1 x.2) a.tmps,defers:=[]}:Act).eval γ).run c.P W=.ok (.value (enc x)) W:=by
   rw[hI];unfold execOp;simp only[yY]
   have:({tmps:=a.tmps.setIfInBounds p (enc x),defers:=[]}:Act).eval (.tmp p)=enc x:=anZ
   simp[this]
  refine(gN (Oper.uponIn (rq (some l)) _ c.P γ _ _ _) il).mpr ?_;rw[Oper.uponIn_value,rN];exact(gN (λt=>K (Act.put {tmps:=t,defers:=[]} (some d) (enc x)) W) hI).mpr jW
 ·intro l pre x W o an;obtain⟨_,_,ee⟩:=du (Kc pre x W o an);obtain⟨_,_,jc⟩:=du ee;refine SR π (ds:=[]) (rd:=some l) rF .leaf _ _ (aq x) _ W (ac8 _ _ dC) ?_ ?_ (DW jc)
  ·intro e b fJ w' _ ay;cases e with
   |normal=>exact ay
   |ret=>exact⟨ay.1,rfl,ay.2⟩
   |_=>exact ay.elim
  ·refine⟨rfl,by simp[aq,σ.2.1],λj v χ=>?_⟩;rw[Hh,Hh]at χ;show((a.tmps.setIfInBounds p (enc x)).setIfInBounds d (enc x))[j]?=some v;have fj:=σ.2.1;by_cases aM:d=j
   ·subst aM;rw[aY rfl]at χ;rw[Array.getElem?_setIfInBounds_self_of_lt (by simp[fj,ae])];exact χ
   ·rw[aN aM]at χ;rw[Array.getElem?_setIfInBounds_ne aM];by_cases bz:p=j
    ·subst bz;rw[aY rfl]at χ;rw[Array.getElem?_setIfInBounds_self_of_lt (by rw[fj];exact hp)];exact χ
    ·rw[aN bz]at χ;rw[Array.getElem?_setIfInBounds_ne bz];exact σ.2.2 j v χ
 ·intro D xs W b1 ed gp jX;have EI:oC [JK D] n {a with defers:={target:=.collected D,args:=#[]}::a.defers} ν:=⟨by show _::a.defers=_;rw[σ.1];rfl,σ.2.1,σ.2.2⟩;exact SR π (ds:=[JK D]) (rd:=none) y .leaf _ _ _ ν W (ac8 _ _ gb) (pw D) EI (anN D xs W b1 ed gp jX)
 ·rintro D aT pre W b1 ed ⟨rfl,gp⟩ jX;have EI:oC [JK D] n {a with defers:={target:=.collected D,args:=#[]}::a.defers} ν:=⟨by show _::a.defers=_;rw[σ.1];rfl,σ.2.1,σ.2.2⟩;exact wpIn_ret (pw D .ret _ ν W EI (ao8 D pre W b1 ed gp jX))
inductive zV where
 |x7 (s:jU)
 |seq (s:jU) (t:zV)
 |cut (b8:List (Nat×cQ)) (K:hb Prop b8) (s:jU) (t:zV)
def BO(c:c3)(n:Nat):zV->Code->jH->c4->ai
 | .x7 s,.seq (.seq z (.block _ (.rangeFunc g ps rA rF))) y,Q,ν,w=>nv c n z s (iD (LR c n g ps rA rF y Q) Q) ν w
 | .x7 _,_,_,_,_=>False
 | .seq s t,.seq x y,Q,ν,w=>nv c n x s (iD (BO c n t y Q) Q) ν w
 | .seq _ _,_,_,_,_=>False
 | .cut b8 K s t,.seq x y,Q,ν,w=>nv c n x s (iD (gC b8 K) Q) ν w
 | .cut _ _ _ _,_,_,_,_=>False
def Ff(c:c3)(n:Nat):zV->Code->jH->Prop->Prop
 | .x7 s,.seq (.seq z (.block _ (.rangeFunc g ps rA rF))) y,Q,r=>o5 c n z s (iD (LR c n g ps rA rF y Q) Q) r
 | .x7 _,_,_,r=>r
 | .seq s t,.seq x y,Q,r=>o5 c n x s (iD (BO c n t y Q) Q) (Ff c n t y Q r)
 | .seq _ _,_,_,r=>r
 | .cut b8 K s t,.seq x y,Q,r=>o5 c n x s (iD (gC b8 K) Q) (lz b8 K (BO c n t y Q) []/\Ff c n t y Q r)
 | .cut _ _ _ _,_,_,r=>r
theorem Xl{P:Program}{m:Nat}{x:Code}{Q:Exit->Act->ai}{a:Act}{w:World}(h:x.wp P Q a w):x.wpIn (rq none) m P Q a w:=(wpIn_wide (n:=m)).2 h
theorem al2{c:c3}(π:ht c){n:Nat}:∀(t:zV)(x:Code)(Q:jH)(Q':Exit->Act->ai)(a:Act)(ν:c4)(w:World)(r:Prop),
  Ff c n t x Q r->Holds n Q Q'->(∀D,zQ [JK D] n (QV D Q) Q')->Rel n a ν->BO c n t x Q ν w->x.wpIn (rq none) 2 c.P Q' a w:=by
 intro t
 induction t with
 |x7 s=>
  intro x Q Q' a ν w r aE dV pw σ h;cases x with
  |seq u y=>
   cases u with
   |seq z b=>
    cases b with
    |block id x7=>
     cases x7 with
     |rangeFunc g ps rA rF=>
      have h:nv c n z s (iD (LR c n g ps rA rF y Q) Q) ν w:=h;have aE:o5 c n z s (iD (LR c n g ps rA rF y Q) Q) r:=aE;refine wpIn_seq (wpIn_seq (Xl ?_));refine NP π z s _ _ a ν w (Pe _ _ _ _ aE).1 (λe fz fJ w' eP ay=>?_) σ h;cases e with
      |normal=>exact asP π pw eP ay
      |_=>exact dV _ _ _ _ eP ay
     |_=>exact h.elim
    |_=>exact h.elim
   |_=>exact h.elim
  |_=>exact h.elim
 |seq s t cq=>
  intro x Q Q' a ν w r aE dV pw σ h;cases x with
  |seq x y=>
   have aE:o5 c n x s (iD (BO c n t y Q) Q) (Ff c n t y Q r):=aE;obtain⟨l3,lj⟩:=Pe _ _ _ _ aE;refine wpIn_seq (Xl ?_);refine NP π x s _ _ a ν w l3 (λe fz fJ w' eP ay=>?_) σ h;cases e with
   |normal=>exact cq y Q Q' fz fJ w' r lj dV pw eP ay
   |_=>exact dV _ _ _ _ eP ay
  |_=>exact h.elim
 |cut b8 K s t cq=>
  intro x Q Q' a ν w r aE dV pw σ h;cases x with
  |seq x y=>
   have aE:o5 c n x s (iD (gC b8 K) Q) (lz b8 K (BO c n t y Q) []/\Ff c n t y Q r):=aE;obtain⟨l3,lj,v8⟩:=Pe _ _ _ _ aE;refine wpIn_seq (Xl ?_);refine NP π x s _ _ a ν w l3 (λe fz fJ w' eP ay=>?_) σ h;cases e with
   |normal=>
    obtain⟨im,iU,η⟩:=ov eP eP.nil lj ay;exact cq y Q Q' fz im w' r v8 dV pw iU η
   |_=>exact dV _ _ _ _ eP ay
  |_=>exact h.elim
theorem aea{n:Nat}{args:aU}(aP:args.length<=n):Rel n {tmps:=args.toArray++Array.replicate (n-args.toArray.size) undef,defers:=[]} (qN 0 args):=by
 refine⟨rfl,by simp;omega,λd v ae=>?_⟩;obtain⟨_,η⟩:=S8 args 0 d v ae;rw[Nat.sub_zero]at η;rw[Array.getElem?_append]
 have:d<args.toArray.size:=by simp;exact(List.getElem?_eq_some_iff.1 η).1
 rw[aY this];simpa using η
theorem IA{c:c3}(π:ht c){n:Nat}{ds:List Deferred}{a:Act}{ν:c4}(σ:oC ds n a ν){fn:Func}{rs:List ResultVar}(kr:fn.results.toList=rs){w:World}{K:aU->Prop}(h:LQ c rs ν w K):
  ∃vs,(results fn a.tmps).run c.P w=.ok (PY vs) w/\K vs:=by
 obtain⟨vs,l7,ix⟩:=PX π σ.base h;rw[<-kr]at l7;exact⟨vs,Wf l7,ix⟩
theorem al1{c:c3}(π:ht c){f:FuncId}{fn:Func}{code:Code}(bf:c.P.funcs[f]?=some fn)(ω:fn.body=some code)(rs:List ResultVar)(kr:fn.results.toList=rs)(hL:Nat)(rP:fn.ntmps=hL)(t:zV){args:aU}(aP:args.length<=hL)
  {w:World}{R:ak}{m γ:Prop}(hm:m=BO c hL t code (fin c rs R) (qN 0 args) w)(aE:γ=Ff c hL t code (fin c rs R) True)(jO:γ)(h:m):Calls c.P f args.toArray w R:=by
 subst rP;refine callsIn_wide.1 (callsIn_of_wp_marks (F:=rq none) (n:=2) bf ω trivial ?_);refine al2 π t code (fin c rs R) _ _ (qN 0 args) w True (aE▸jO) ?_ ?_ (aea aP) (hm▸h)
 ·intro e a ν w σ ay;have HE:oC [] fn.ntmps a ν:=σ;cases e with
  |ret=>
   obtain⟨vs,l7,ix⟩:=IA π HE kr ay;show LeavesInM _ _ _ _ _ _ a.defers _ _;rw[σ.1];exact⟨_,l7,ix⟩
  |normal=>
   obtain⟨vs,l7,ix⟩:=IA π HE kr ay;show LeavesInM _ _ _ _ _ _ a.defers _ _;rw[σ.1];exact⟨_,l7,ix⟩
  |panic cX=>
   show LeavesInM _ _ _ _ _ _ a.defers _ _;rw[σ.1];exact ay
  |exit id=>exact ay.elim
  |goto l=>exact ay.elim
  |outgrown=>exact ay.elim
 ·intro D e a ν w σ ay;obtain⟨b1,ay⟩:=ay;have xI:=run_takeDeferred (P:=c.P) b1;cases e with
  |ret=>
   obtain⟨vs,l7,ix⟩:=IA π σ kr ay;show LeavesInM _ _ _ _ _ _ a.defers _ _;rw[σ.1];exact⟨by simp,.inl ⟨D,_,rfl,xI,_,l7,ix⟩⟩
  |normal=>
   obtain⟨vs,l7,ix⟩:=IA π σ kr ay;show LeavesInM _ _ _ _ _ _ a.defers _ _;rw[σ.1];exact⟨by simp,.inl ⟨D,_,rfl,xI,_,l7,ix⟩⟩
  |panic cX=>
   show LeavesInM _ _ _ _ _ _ a.defers _ _;rw[σ.1];exact⟨by simp,.inl ⟨D,_,rfl,xI,ay⟩⟩
  |exit id=>exact ay.elim
  |goto l=>exact ay.elim
  |outgrown=>exact ay.elim
theorem al3{c:c3}(π:ht c){f:FuncId}{fn:Func}{code:Code}(bf:c.P.funcs[f]?=some fn)(ω:fn.body=some code)(rs:List ResultVar)(kr:fn.results.toList=rs)(hL:Nat)(rP:fn.ntmps=hL)(s:jU){args:aU}(aP:args.length<=hL)
  {w:World}{R:ak}{m γ:Prop}(hm:m=qT c hL code s (fin c rs R) (qN 0 args) w)(aE:γ=xT c hL code s (fin c rs R) True)(jO:γ)(h:m):CallsIn Fence.wide 0 c.P f args.toArray w R:=by
 subst rP;refine(callsIn_wide (n:=0)).2 (callsIn_wide.1 (callsIn_of_wp_marks (F:=rq none) (n:=2) bf ω trivial ?_));refine SR π (ds:=[]) (rd:=none) code s (fin c rs R) _ _ (qN 0 args) w (aq6 _ _ _ _ (aE▸jO)).1 ?_ (aea aP) (hm▸h);intro e a ν w σ ay;cases e with
 |ret=>
  obtain⟨vs,l7,ix⟩:=IA π σ kr ay;show LeavesInM _ _ _ _ _ _ a.defers _ _;rw[σ.1];exact⟨_,l7,ix⟩
 |normal=>
  obtain⟨vs,l7,ix⟩:=IA π σ kr ay;show LeavesInM _ _ _ _ _ _ a.defers _ _;rw[σ.1];exact⟨_,l7,ix⟩
 |panic cX=>
  show LeavesInM _ _ _ _ _ _ a.defers _ _;rw[σ.1];exact ay
 |exit id=>exact ay.elim
 |goto l=>exact ay.elim
 |outgrown=>exact ay.elim
open Go
def pn:(b8:List (Nat×cQ))->hb Prop b8->Prop
 |[],K=>∀w,K w->K w
 |(_,.int _)::r,K=>∀x,pn r (K x)
 |(_,.bool)::r,K=>∀x,pn r (K x)
 |(_,.str)::r,K=>∀x,pn r (K x)
 |(_,.slice)::r,K=>∀x y z,pn r (K x y z)
 |(_,.ptr)::r,K=>∀x,pn r (K x)
 |(_,.addr)::r,K=>∀x,pn r (K x)
 |(_,.c5)::r,K=>∀x,pn r (K x)
 |(_,.agg)::r,K=>∀x,pn r (K x)
 |(_,.val)::r,K=>∀x,pn r (K x)
 |(_,.vQ)::r,K=>∀x,pn r (K x)
 |(_,.p5)::r,K=>∀x y,pn r (K x y)
 |(_,.map)::r,K=>∀x,pn r (K x)
 |(_,.uA _)::r,K=>∀x,pn r (K x)
 |(_,.uz _)::r,K=>pn r K
 |(_,.zO)::r,K=>∀x,pn r (K x)
theorem pT:∀(b8:List (Nat×cQ))(K:hb Prop b8),pn b8 K
 |[],_=>λ_ h=>h
 |(_,.int _)::r,_=>λ_=>pT r _
 |(_,.bool)::r,_=>λ_=>pT r _
 |(_,.str)::r,_=>λ_=>pT r _
 |(_,.slice)::r,_=>λ_ _ _=>pT r _
 |(_,.ptr)::r,_=>λ_=>pT r _
 |(_,.addr)::r,_=>λ_=>pT r _
 |(_,.c5)::r,_=>λ_=>pT r _
 |(_,.agg)::r,_=>λ_=>pT r _
 |(_,.val)::r,_=>λ_=>pT r _
 |(_,.vQ)::r,_=>λ_=>pT r _
 |(_,.p5)::r,_=>λ_ _=>pT r _
 |(_,.map)::r,_=>λ_=>pT r _
 |(_,.uA _)::r,_=>λ_=>pT r _
 |(_,.uz _)::r,_=>pT r _
 |(_,.zO)::r,_=>λ_=>pT r _
def tv:jU->Prop->Prop
 | .leaf,r=>r
 | .seq a b,r=>tv a (tv b r)
 | .cond a b,r=>tv a (tv b r)
 | .block a,r=>tv a r
 | .cut b8 K a b,r=>tv a (pn b8 K/\tv b r)
 | .loop b8 K body,r=>pn b8 K/\(∀C:hb Prop b8,tv (body C) True)/\r
theorem u7:∀(s:jU)(r:Prop),r->tv s r
 | .leaf,_,h=>h
 | .seq a b,_,h=>u7 a _ (u7 b _ h)
 | .cond a b,_,h=>u7 a _ (u7 b _ h)
 | .block a,_,h=>u7 a _ h
 | .cut b8 K a b,_,h=>u7 a _ ⟨pT b8 K,u7 b _ h⟩
 | .loop b8 K body,_,h=>⟨pT b8 K,λC=>u7 (body C) _ trivial,h⟩
def QB:zV->Prop->Prop
 | .x7 s,r=>tv s r
 | .seq s t,r=>tv s (QB t r)
 | .cut b8 K s t,r=>tv s (pn b8 K/\QB t r)
theorem WZ:∀(s:zV)(r:Prop),r->QB s r
 | .x7 s,_,h=>u7 s _ h
 | .seq s t,_,h=>u7 s _ (WZ t _ h)
 | .cut b8 K s t,_,h=>u7 s _ ⟨pT b8 K,WZ t _ h⟩
end Go.bI
namespace Go.Proofs.YtcpdfhkhaekekaaGreat.G
open Tryz
open Go.bI
theorem aj{t:TypeId}{i:cR}(h:prog.underlying t=some i.desc)(η:(prog.info? t).map (λx=>(x.size,x.bytes))=some (i.size,i.bytes):=by kernel_rfl)(au:((prog.info? t).bind (·.zero)).map (λz=>z.cells.toList)=some i.zero:=by kernel_rfl):cT prog t i:=⟨h,η,au⟩
theorem bR{f:Nat}{r:List Nat}{fn:Func}(h:prog.funcs[f]?=some fn)(t:Ji prog r)(h1:(fn.name== "runtime.NumGoroutine")=false:=by kernel_rfl)(η:fn.body.isNone=false:=by kernel_rfl):Ji prog (f::r):=⟨⟨fn,h,h1,η⟩,t⟩
def afI:cR:=⟨.tuple #[],1,0,[(Value.tuple #[])]⟩
theorem at8:cT prog 0 afI:=aj underlying0
def agN:cR:=⟨.int .i64,1,8,[(.int .i64 0)]⟩
theorem ahp:cT prog 3 agN:=aj underlying3
def agU:cR:=⟨.bool,1,1,[(.bool false)]⟩
theorem avj:cT prog 4 agU:=aj underlying4
def ag0:cR:=⟨.int .u8,1,1,[(.int .u8 0)]⟩
theorem avp:cT prog 5 ag0:=aj underlying5
def ahj:cR:=⟨.string,1,16,[(Value.string ⟨#[]⟩)]⟩
theorem avI:cT prog 9 ahj:=aj underlying9
def agj:cR:=⟨.interface #[],1,16,[Value.nilIface]⟩
theorem auJ:cT prog 20 agj:=aj underlying20
def agp:cR:=⟨.slice 41,1,24,[(.slice none 0 0)]⟩
theorem auP:cT prog 22 agp:=aj underlying22
def agt:cR:=⟨.pointer 78,1,8,[(.pointer none)]⟩
theorem auT:cT prog 23 agt:=aj underlying23
def agx:cR:=⟨.pointer 72,1,8,[(.pointer none)]⟩
theorem auX:cT prog 24 agx:=aj underlying24
def agA:cR:=⟨.tuple #[23,24],1,0,[(Value.tuple #[(Value.pointer none),(Value.pointer none)])]⟩
theorem au0:cT prog 25 agA:=aj underlying25
def agK:cR:=⟨.struct #[⟨ "Segments",3,0,false,"","",0⟩,⟨ "Blocks",3,1,false,"","",8⟩],2,16,[(.int .i64 0),(.int .i64 0)]⟩
theorem ava:cT prog 28 agK:=aj underlying28
def agO:cR:=⟨.array 32 5,32,32,List.replicate 32 (Value.int .u8 0)⟩
theorem avd:cT prog 31 agO:=aj underlying31
def agP:cR:=⟨.array 3 31,96,96,List.replicate 96 (Value.int .u8 0)⟩
theorem ave:cT prog 32 agP:=aj underlying32
def agQ:cR:=⟨.int .i64,1,8,[(.int .i64 0)]⟩
theorem avf:cT prog 33 agQ:=aj underlying33
def agR:cR:=⟨.slice 5,1,24,[(.slice none 0 0)]⟩
theorem avg:cT prog 34 agR:=aj underlying34
def agS:cR:=⟨.slice 3,1,24,[(.slice none 0 0)]⟩
theorem avh:cT prog 35 agS:=aj underlying35
def agT:cR:=⟨.struct #[⟨ "Ticket",3,0,false,"","",0⟩,⟨ "E",33,1,false,"","",8⟩,⟨ "ID",3,2,false,"","",16⟩,⟨ "Data",34,3,false,"","",24⟩,⟨ "Nums",35,4,false,"","",48⟩],5,72,List.replicate 3 (.int .i64 0)++[.slice none 0 0,.slice none 0 0]⟩
theorem avi:cT prog 37 agT:=aj underlying37
def agV:cR:=⟨.struct #[⟨ "Kind",3,0,false,"","",0⟩,⟨ "Vol",3,1,false,"","",8⟩,⟨ "Block",3,2,false,"","",16⟩,⟨ "Size",3,3,false,"","",24⟩,⟨ "Data",34,4,false,"","",32⟩],5,56,List.replicate 4 (.int .i64 0)++[.slice none 0 0]⟩
theorem avk:cT prog 40 agV:=aj underlying40
def agW:cR:=⟨.int .u16,1,2,[(.int .u16 0)]⟩
theorem avl:cT prog 41 agW:=aj underlying41
def agX:cR:=⟨.int .u64,1,8,[(.int .u64 0)]⟩
theorem avm:cT prog 42 agX:=aj underlying42
def agY:cR:=⟨.tuple #[37,4],1,0,[(Value.tuple #[(Value.agg #[(Value.int .i64 0),(Value.int .i64 0),(Value.int .i64 0),(Value.slice none 0 0),(Value.slice none 0 0)]),(Value.bool false)])]⟩
theorem avn:cT prog 44 agY:=aj underlying44
def agZ:cR:=⟨.slice 40,1,24,[(.slice none 0 0)]⟩
theorem avo:cT prog 48 agZ:=aj underlying48
def ag1:cR:=⟨.tuple #[3,33],1,0,[(Value.tuple #[(Value.int .i64 0),(Value.int .i64 0)])]⟩
theorem avq:cT prog 55 ag1:=aj underlying55
def ag2:cR:=⟨.tuple #[34,33],1,0,[(Value.tuple #[(Value.slice none 0 0),(Value.int .i64 0)])]⟩
theorem avr:cT prog 59 ag2:=aj underlying59
def ag3:cR:=⟨.tuple #[23,33],1,0,[(Value.tuple #[(Value.pointer none),(Value.int .i64 0)])]⟩
theorem avs:cT prog 61 ag3:=aj underlying61
def ag4:cR:=⟨.tuple #[24,33],1,0,[(Value.tuple #[(Value.pointer none),(Value.int .i64 0)])]⟩
theorem avt:cT prog 64 ag4:=aj underlying64
def ag5:cR:=⟨.pointer 123,1,8,[(.pointer none)]⟩
theorem avu:cT prog 67 ag5:=aj underlying67
def ag6:cR:=⟨.pointer 144,1,8,[(.pointer none)]⟩
theorem avv:cT prog 68 ag6:=aj underlying68
def ag7:cR:=⟨.pointer 150,1,8,[(.pointer none)]⟩
theorem avw:cT prog 69 ag7:=aj underlying69
def ag8:cR:=⟨.slice 155,1,24,[(.slice none 0 0)]⟩
theorem avx:cT prog 70 ag8:=aj underlying70
def ag9:cR:=⟨.struct #[⟨ "Gate",67,0,true,"","",0⟩,⟨ "d",23,1,false,"","stopcock/pool",8⟩,⟨ "plat",28,2,false,"","stopcock/pool",16⟩,⟨ "roll",68,4,false,"","stopcock/pool",32⟩,⟨ "strand",69,5,false,"","stopcock/pool",40⟩,⟨ "seq",3,6,false,"","stopcock/pool",48⟩,⟨ "used",3,7,false,"","stopcock/pool",56⟩,⟨ "deltas",70,8,false,"","stopcock/pool",64⟩,⟨ "turned",4,9,false,"","stopcock/pool",88⟩,⟨ "clock",3,10,false,"","stopcock/pool",96⟩,⟨ "stamps",35,11,false,"","stopcock/pool",104⟩,⟨ "down",4,12,false,"","stopcock/pool",128⟩],13,136,[.pointer none,.pointer none,.int .i64 0,.int .i64 0,.pointer none,.pointer none,.int .i64 0,.int .i64 0,.slice none 0 0,.bool false,.int .i64 0,.slice none 0 0,.bool false]⟩
theorem avy:cT prog 72 ag9:=aj underlying72
def aha:cR:=⟨.slice 82,1,24,[(.slice none 0 0)]⟩
theorem avz:cT prog 75 aha:=aj underlying75
def ahb:cR:=⟨.slice 189,1,24,[(.slice none 0 0)]⟩
theorem avA:cT prog 76 ahb:=aj underlying76
def ahc:cR:=⟨.struct #[⟨ "sure",75,0,false,"","stopcock/basin",0⟩,⟨ "now",75,1,false,"","stopcock/basin",24⟩,⟨ "loose",76,2,false,"","stopcock/basin",48⟩,⟨ "after",3,3,false,"","stopcock/basin",72⟩,⟨ "off",4,4,false,"","stopcock/basin",80⟩],5,88,List.replicate 3 (.slice none 0 0)++[.int .i64 0,.bool false]⟩
theorem avB:cT prog 78 ahc:=aj underlying78
def ahd:cR:=⟨.array 64 5,64,64,List.replicate 64 (Value.int .u8 0)⟩
theorem avC:cT prog 82 ahd:=aj underlying82
def ahe:cR:=⟨.struct #[⟨ "Kind",3,0,false,"","",0⟩,⟨ "Size",3,1,false,"","",8⟩],2,16,[(.int .i64 0),(.int .i64 0)]⟩
theorem avD:cT prog 84 ahe:=aj underlying84
def ahf:cR:=⟨.array 8 84,16,128,List.replicate 16 (Value.int .i64 0)⟩
theorem avE:cT prog 85 ahf:=aj underlying85
def ahg:cR:=⟨.slice 113,1,24,[(.slice none 0 0)]⟩
theorem avF:cT prog 86 ahg:=aj underlying86
def ahh:cR:=⟨.array 8 86,8,192,List.replicate 8 (.slice none 0 0)⟩
theorem avG:cT prog 87 ahh:=aj underlying87
def ahi:cR:=⟨.struct #[⟨ "Entries",85,0,false,"","",0⟩,⟨ "Places",87,16,false,"","",128⟩],24,320,List.replicate 16 (.int .i64 0)++List.replicate 8 (.slice none 0 0)⟩
theorem avH:cT prog 89 ahi:=aj underlying89
def ahk:cR:=⟨.tuple #[89,28,3,3,33],1,0,[(Value.tuple #[(Value.agg #[(Value.int .i64 0),(Value.int .i64 0),(Value.int .i64 0),(Value.int .i64 0),(Value.int .i64 0),(Value.int .i64 0),(Value.int .i64 0),(Value.int .i64 0),(Value.int .i64 0),(Value.int .i64 0),(Value.int .i64 0),(Value.int .i64 0),(Value.int .i64 0),(Value.int .i64 0),(Value.int .i64 0),(Value.int .i64 0),(Value.slice none 0 0),(Value.slice none 0 0),(Value.slice none 0 0),(Value.slice none 0 0),(Value.slice none 0 0),(Value.slice none 0 0),(Value.slice none 0 0),(Value.slice none 0 0)]),(Value.agg #[(Value.int .i64 0),(Value.int .i64 0)]),(Value.int .i64 0),(Value.int .i64 0),(Value.int .i64 0)])]⟩
theorem avJ:cT prog 90 ahk:=aj underlying90
def ahl:cR:=⟨.tuple #[35,33],1,0,[(Value.tuple #[(Value.slice none 0 0),(Value.int .i64 0)])]⟩
theorem avK:cT prog 92 ahl:=aj underlying92
def ahm:cR:=⟨.tuple #[68,33],1,0,[(Value.tuple #[(Value.pointer none),(Value.int .i64 0)])]⟩
theorem avL:cT prog 95 ahm:=aj underlying95
def ahn:cR:=⟨.tuple #[69,33],1,0,[(Value.tuple #[(Value.pointer none),(Value.int .i64 0)])]⟩
theorem avM:cT prog 97 ahn:=aj underlying97
def aho:cR:=⟨.tuple #[3,40,33],1,0,[(Value.tuple #[(Value.int .i64 0),(Value.agg #[(Value.int .i64 0),(Value.int .i64 0),(Value.int .i64 0),(Value.int .i64 0),(Value.slice none 0 0)]),(Value.int .i64 0)])]⟩
theorem avN:cT prog 99 aho:=aj underlying99
def afJ:cR:=⟨.pointer 37,1,8,[(.pointer none)]⟩
theorem at9:cT prog 102 afJ:=aj underlying102
def afK:cR:=⟨.struct #[⟨ "Errno",33,0,true,"","",0⟩],1,8,[(.int .i64 0)]⟩
theorem aua:cT prog 104 afK:=aj underlying104
def afL:cR:=⟨.tuple #[35,3],1,0,[(Value.tuple #[(Value.slice none 0 0),(Value.int .i64 0)])]⟩
theorem aub:cT prog 107 afL:=aj underlying107
def afM:cR:=⟨.tuple #[86,33],1,0,[(Value.tuple #[(Value.slice none 0 0),(Value.int .i64 0)])]⟩
theorem auc:cT prog 111 afM:=aj underlying111
def afN:cR:=⟨.complex .f64,1,16,[(.complex .f64 0 0)]⟩
theorem aud:cT prog 113 afN:=aj underlying113
def afO:cR:=⟨.tuple #[89,33],1,0,[(Value.tuple #[(Value.agg #[(Value.int .i64 0),(Value.int .i64 0),(Value.int .i64 0),(Value.int .i64 0),(Value.int .i64 0),(Value.int .i64 0),(Value.int .i64 0),(Value.int .i64 0),(Value.int .i64 0),(Value.int .i64 0),(Value.int .i64 0),(Value.int .i64 0),(Value.int .i64 0),(Value.int .i64 0),(Value.int .i64 0),(Value.int .i64 0),(Value.slice none 0 0),(Value.slice none 0 0),(Value.slice none 0 0),(Value.slice none 0 0),(Value.slice none 0 0),(Value.slice none 0 0),(Value.slice none 0 0),(Value.slice none 0 0)]),(Value.int .i64 0)])]⟩
theorem aue:cT prog 116 afO:=aj underlying116
def afP:cR:=⟨.slice 20,1,24,[(.slice none 0 0)]⟩
theorem auf:cT prog 121 afP:=aj underlying121
def afQ:cR:=⟨.struct #[⟨ "waits",121,0,false,"","stopcock/gate",0⟩,⟨ "ticket",3,1,false,"","stopcock/gate",24⟩],2,32,[.slice none 0 0,.int .i64 0]⟩
theorem aug:cT prog 123 afQ:=aj underlying123
def afR:cR:=⟨.struct #[⟨ "Request",40,0,true,"","",0⟩,⟨ "ticket",3,5,false,"","stopcock/gate",56⟩],6,64,List.replicate 4 (.int .i64 0)++[.slice none 0 0,.int .i64 0]⟩
theorem auh:cT prog 126 afR:=aj underlying126
def afS:cR:=⟨.struct #[⟨ "At",3,0,false,"","",0⟩,⟨ "Data",34,1,false,"","",8⟩],2,32,[.int .i64 0,.slice none 0 0]⟩
theorem aui:cT prog 130 afS:=aj underlying130
def afT:cR:=⟨.tuple #[89,28,3,33],1,0,[(Value.tuple #[(Value.agg #[(Value.int .i64 0),(Value.int .i64 0),(Value.int .i64 0),(Value.int .i64 0),(Value.int .i64 0),(Value.int .i64 0),(Value.int .i64 0),(Value.int .i64 0),(Value.int .i64 0),(Value.int .i64 0),(Value.int .i64 0),(Value.int .i64 0),(Value.int .i64 0),(Value.int .i64 0),(Value.int .i64 0),(Value.int .i64 0),(Value.slice none 0 0),(Value.slice none 0 0),(Value.slice none 0 0),(Value.slice none 0 0),(Value.slice none 0 0),(Value.slice none 0 0),(Value.slice none 0 0),(Value.slice none 0 0)]),(Value.agg #[(Value.int .i64 0),(Value.int .i64 0)]),(Value.int .i64 0),(Value.int .i64 0)])]⟩
theorem auj:cT prog 131 afT:=aj underlying131
def afU:cR:=⟨.tuple #[70,3,33],1,0,[(Value.tuple #[(Value.slice none 0 0),(Value.int .i64 0),(Value.int .i64 0)])]⟩
theorem auk:cT prog 133 afU:=aj underlying133
def afV:cR:=⟨.tuple #[89,3,33],1,0,[(Value.tuple #[(Value.agg #[(Value.int .i64 0),(Value.int .i64 0),(Value.int .i64 0),(Value.int .i64 0),(Value.int .i64 0),(Value.int .i64 0),(Value.int .i64 0),(Value.int .i64 0),(Value.int .i64 0),(Value.int .i64 0),(Value.int .i64 0),(Value.int .i64 0),(Value.int .i64 0),(Value.int .i64 0),(Value.int .i64 0),(Value.int .i64 0),(Value.slice none 0 0),(Value.slice none 0 0),(Value.slice none 0 0),(Value.slice none 0 0),(Value.slice none 0 0),(Value.slice none 0 0),(Value.slice none 0 0),(Value.slice none 0 0)]),(Value.int .i64 0),(Value.int .i64 0)])]⟩
theorem aul:cT prog 135 afV:=aj underlying135
def afW:cR:=⟨.pointer 203,1,8,[(.pointer none)]⟩
theorem aum:cT prog 141 afW:=aj underlying141
def afX:cR:=⟨.array 8 141,8,64,List.replicate 8 (.pointer none)⟩
theorem aun:cT prog 142 afX:=aj underlying142
def afY:cR:=⟨.struct #[⟨ "entries",85,0,false,"","stopcock/roll",0⟩,⟨ "tables",142,16,false,"","stopcock/roll",128⟩],24,192,List.replicate 16 (.int .i64 0)++List.replicate 8 (.pointer none)⟩
theorem auo:cT prog 144 afY:=aj underlying144
def afZ:cR:=⟨.tuple #[141,33],1,0,[(Value.tuple #[(Value.pointer none),(Value.int .i64 0)])]⟩
theorem aup:cT prog 145 afZ:=aj underlying145
def af0:cR:=⟨.struct #[⟨ "plat",28,0,false,"","stopcock/strand",0⟩,⟨ "free",35,2,false,"","stopcock/strand",16⟩,⟨ "head",3,3,false,"","stopcock/strand",40⟩,⟨ "used",3,4,false,"","stopcock/strand",48⟩],5,56,[.int .i64 0,.int .i64 0,.slice none 0 0,.int .i64 0,.int .i64 0]⟩
theorem auq:cT prog 150 af0:=aj underlying150
def af1:cR:=⟨.struct #[⟨ "Kind",3,0,false,"","",0⟩,⟨ "Vol",3,1,false,"","",8⟩,⟨ "Other",3,2,false,"","",16⟩,⟨ "Block",3,3,false,"","",24⟩,⟨ "Place",113,4,false,"","",32⟩],5,48,List.replicate 4 (.int .i64 0)++[.complex .f64 0 0]⟩
theorem aur:cT prog 155 af1:=aj underlying155
def af2:cR:=⟨.tuple #[84,33],1,0,[(Value.tuple #[(Value.agg #[(Value.int .i64 0),(Value.int .i64 0)]),(Value.int .i64 0)])]⟩
theorem aus:cT prog 160 af2:=aj underlying160
def af3:cR:=⟨.slice 213,1,24,[(.slice none 0 0)]⟩
theorem aut:cT prog 163 af3:=aj underlying163
def af4:cR:=⟨.tuple #[86,163,33],1,0,[(Value.tuple #[(Value.slice none 0 0),(Value.slice none 0 0),(Value.int .i64 0)])]⟩
theorem auu:cT prog 164 af4:=aj underlying164
def af5:cR:=⟨.float .f64,1,8,[(Value.float .f64 0)]⟩
theorem auv:cT prog 166 af5:=aj underlying166
def af6:cR:=⟨.tuple #[3,3,33],1,0,[(Value.tuple #[(Value.int .i64 0),(Value.int .i64 0),(Value.int .i64 0)])]⟩
theorem auw:cT prog 169 af6:=aj underlying169
def af7:cR:=⟨.func #[113] #[4] false,1,8,[Value.nilFunc]⟩
theorem auy:cT prog 173 af7:=aj underlying173
def af8:cR:=⟨.tuple #[113,33],1,0,[(Value.tuple #[(Value.complex .f64 0 0),(Value.int .i64 0)])]⟩
theorem auz:cT prog 175 af8:=aj underlying175
def af9:cR:=⟨.slice 34,1,24,[(.slice none 0 0)]⟩
theorem auA:cT prog 178 af9:=aj underlying178
def aga:cR:=⟨.tuple #[178,33],1,0,[(Value.tuple #[(Value.slice none 0 0),(Value.int .i64 0)])]⟩
theorem auB:cT prog 179 aga:=aj underlying179
def agb:cR:=⟨.tuple #[3,4],1,0,[(Value.tuple #[(Value.int .i64 0),(Value.bool false)])]⟩
theorem auC:cT prog 182 agb:=aj underlying182
def agc:cR:=⟨.slice 130,1,24,[(.slice none 0 0)]⟩
theorem auD:cT prog 185 agc:=aj underlying185
def agd:cR:=⟨.func #[130] #[4] false,1,8,[Value.nilFunc]⟩
theorem auE:cT prog 187 agd:=aj underlying187
def age:cR:=⟨.struct #[⟨ "at",3,0,false,"","stopcock/basin",0⟩,⟨ "data",82,1,false,"","stopcock/basin",8⟩],65,72,[.int .i64 0]++List.replicate 64 (.int .u8 0)⟩
theorem auF:cT prog 189 age:=aj underlying189
def agf:cR:=⟨.tuple #[70,4],1,0,[(Value.tuple #[(Value.slice none 0 0),(Value.bool false)])]⟩
theorem auG:cT prog 192 agf:=aj underlying192
def agh:cR:=⟨.pointer 89,1,8,[(.pointer none)]⟩
theorem auH:cT prog 195 agh:=aj underlying195
def agi:cR:=⟨.map 113 213,1,8,[(Value.map none)]⟩
theorem auI:cT prog 196 agi:=aj underlying196
def agk:cR:=⟨.slice 250,1,24,[(.slice none 0 0)]⟩
theorem auK:cT prog 201 agk:=aj underlying201
def agl:cR:=⟨.struct #[⟨ "size",3,0,false,"","stopcock/table",0⟩,⟨ "pages",201,1,false,"","stopcock/table",8⟩],2,32,[.int .i64 0,.slice none 0 0]⟩
theorem auL:cT prog 203 agl:=aj underlying203
def agm:cR:=⟨.tuple #[113,4,33],1,0,[(Value.tuple #[(Value.complex .f64 0 0),(Value.bool false),(Value.int .i64 0)])]⟩
theorem auM:cT prog 206 agm:=aj underlying206
def agn:cR:=⟨.func #[3] #[4] false,1,8,[Value.nilFunc]⟩
theorem auN:cT prog 208 agn:=aj underlying208
def ago:cR:=⟨.slice 221,1,24,[(.slice none 0 0)]⟩
theorem auO:cT prog 213 ago:=aj underlying213
def agq:cR:=⟨.struct #[⟨ "Vol",3,0,false,"","",0⟩,⟨ "Block",3,1,false,"","",8⟩],2,16,[(.int .i64 0),(.int .i64 0)]⟩
theorem auQ:cT prog 221 agq:=aj underlying221
def agr:cR:=⟨.func #[264] #[] false,1,8,[Value.nilFunc]⟩
theorem auR:cT prog 224 agr:=aj underlying224
def ags:cR:=⟨.int .u32,1,4,[(.int .u32 0)]⟩
theorem auS:cT prog 227 ags:=aj underlying227
def agu:cR:=⟨.struct #[⟨ "seq",3,0,false,"","stopcock/leaf",0⟩,⟨ "segments",3,1,false,"","stopcock/leaf",8⟩,⟨ "blocks",3,2,false,"","stopcock/leaf",16⟩,⟨ "count",3,3,false,"","stopcock/leaf",24⟩,⟨ "length",3,4,false,"","stopcock/leaf",32⟩],5,40,List.replicate 5 (.int .i64 0)⟩
theorem auU:cT prog 234 agu:=aj underlying234
def agv:cR:=⟨.tuple #[234,4],1,0,[(Value.tuple #[(Value.agg #[(Value.int .i64 0),(Value.int .i64 0),(Value.int .i64 0),(Value.int .i64 0),(Value.int .i64 0)]),(Value.bool false)])]⟩
theorem auV:cT prog 235 agv:=aj underlying235
def agw:cR:=⟨.tuple #[89,4],1,0,[(Value.tuple #[(Value.agg #[(Value.int .i64 0),(Value.int .i64 0),(Value.int .i64 0),(Value.int .i64 0),(Value.int .i64 0),(Value.int .i64 0),(Value.int .i64 0),(Value.int .i64 0),(Value.int .i64 0),(Value.int .i64 0),(Value.int .i64 0),(Value.int .i64 0),(Value.int .i64 0),(Value.int .i64 0),(Value.int .i64 0),(Value.int .i64 0),(Value.slice none 0 0),(Value.slice none 0 0),(Value.slice none 0 0),(Value.slice none 0 0),(Value.slice none 0 0),(Value.slice none 0 0),(Value.slice none 0 0),(Value.slice none 0 0)]),(Value.bool false)])]⟩
theorem auW:cT prog 238 agw:=aj underlying238
def agy:cR:=⟨.func #[34,34] #[4] false,1,8,[Value.nilFunc]⟩
theorem auY:cT prog 241 agy:=aj underlying241
def agz:cR:=⟨.tuple #[155,33],1,0,[(Value.tuple #[(Value.agg #[(Value.int .i64 0),(Value.int .i64 0),(Value.int .i64 0),(Value.int .i64 0),(Value.complex .f64 0 0)]),(Value.int .i64 0)])]⟩
theorem auZ:cT prog 242 agz:=aj underlying242
def agB:cR:=⟨.pointer 252,1,8,[(.pointer none)]⟩
theorem au1:cT prog 250 agB:=aj underlying250
def agC:cR:=⟨.array 8 113,8,128,List.replicate 8 (.complex .f64 0 0)⟩
theorem au2:cT prog 252 agC:=aj underlying252
def agD:cR:=⟨.slice 84,1,24,[(.slice none 0 0)]⟩
theorem au3:cT prog 254 agD:=aj underlying254
def agE:cR:=⟨.func #[84] #[4] false,1,8,[Value.nilFunc]⟩
theorem au4:cT prog 255 agE:=aj underlying255
def agF:cR:=⟨.func #[274] #[] false,1,8,[Value.nilFunc]⟩
theorem au5:cT prog 258 agF:=aj underlying258
def agG:cR:=⟨.func #[34] #[4] false,1,8,[Value.nilFunc]⟩
theorem au6:cT prog 264 agG:=aj underlying264
def agH:cR:=⟨.tuple #[155,4],1,0,[(Value.tuple #[(Value.agg #[(Value.int .i64 0),(Value.int .i64 0),(Value.int .i64 0),(Value.int .i64 0),(Value.complex .f64 0 0)]),(Value.bool false)])]⟩
theorem au7:cT prog 270 agH:=aj underlying270
def agI:cR:=⟨.tuple #[42,42],1,0,[(Value.tuple #[(Value.int .u64 0),(Value.int .u64 0)])]⟩
theorem au8:cT prog 272 agI:=aj underlying272
def agJ:cR:=⟨.func #[70] #[4] false,1,8,[Value.nilFunc]⟩
theorem au9:cT prog 274 agJ:=aj underlying274
def agL:cR:=⟨.int .u64,1,8,[(.int .u64 0)]⟩
theorem avb:cT prog 285 agL:=aj underlying285
def agM:cR:=⟨.tuple #[285,285],1,0,[(Value.tuple #[(Value.int .u64 0),(Value.int .u64 0)])]⟩
theorem avc:cT prog 286 agM:=aj underlying286
abbrev ck:Nat:=3
abbrev cG:Nat:=5
abbrev wZ:Nat:=20
abbrev QG:Nat:=23
abbrev Ba:Nat:=24
abbrev b5:Nat:=28
abbrev CQ:Nat:=33
abbrev gU:Nat:=34
abbrev eu:Nat:=37
abbrev ev:Nat:=40
abbrev I1:Nat:=70
abbrev rh:Nat:=72
abbrev QD:Nat:=78
abbrev QE:Nat:=82
abbrev jq:Nat:=84
abbrev bX:Nat:=89
abbrev W0:Nat:=104
abbrev eA:Nat:=113
abbrev rf:Nat:=123
abbrev Mq:Nat:=126
abbrev CR:Nat:=130
abbrev Bb:Nat:=144
abbrev tK:Nat:=150
abbrev ft:Nat:=155
abbrev vg:Nat:=178
abbrev QF:Nat:=189
abbrev tL:Nat:=203
abbrev zG:Nat:=213
abbrev hP:Nat:=221
abbrev nL:Nat:=234
abbrev vf:Nat:=250
abbrev yc:Nat:=252
def tb:List (Option cR):=[some afI,none,none,some agN,some agU,some ag0,none,none,none,some ahj,none,none,none,none,none,none,none,none,none,none,some agj,none,some agp,some agt,some agx,some agA,none,none,some agK,none,none,some agO,some agP,some agQ,some agR,some agS,none,some agT,none,none,some agV,some agW,some agX,none,some agY,none,none,none,some agZ,none,none,none,none,none,none,some ag1,none,none,none,some ag2,none,some ag3,none,none,some ag4,none,none,some ag5,some ag6,some ag7,some ag8,none,some ag9,none,none,some aha,some ahb,none,some ahc,none,none,none,some ahd,none,some ahe,some ahf,some ahg,some ahh,none,some ahi,some ahk,none,some ahl,none,none,some ahm,none,some ahn,none,some aho,none,none,some afJ,none,some afK,none,none,some afL,none,none,none,some afM,none,some afN,none,none,some afO,none,none,none,none,some afP,none,some afQ,none,none,some afR,none,none,none,some afS,some afT,none,some afU,none,some afV,none,none,none,none,none,some afW,some afX,none,some afY,some afZ,none,none,none,none,some af0,none,none,none,none,some af1,none,none,none,none,some af2,none,none,some af3,some af4,none,some af5,none,none,some af6,none,none,none,some af7,none,some af8,none,none,some af9,some aga,none,none,some agb,none,none,some agc,none,some agd,none,some age,none,none,some agf,none,none,some agh,some agi,none,none,none,none,some agk,none,some agl,none,none,some agm,none,some agn,none,none,none,none,some ago,none,none,none,none,none,none,none,some agq,none,none,some agr,none,none,some ags,none,none,none,none,none,none,some agu,some agv,none,none,some agw,none,none,some agy,some agz,none,none,none,none,none,none,none,some agB,none,some agC,none,some agD,some agE,none,none,some agF,none,none,none,none,none,some agG,none,none,none,none,none,some agH,none,some agI,none,some agJ,none,none,none,none,none,none,none,none,none,none,some agL,some agM]
theorem at4:Jr prog 0 tb:=(And.intro at8 (And.intro ahp (And.intro avj (And.intro avp (And.intro avI (And.intro auJ (And.intro auP (And.intro auT (And.intro auX (And.intro au0 (And.intro ava (And.intro avd (And.intro ave (And.intro avf (And.intro avg (And.intro avh (And.intro avi (And.intro avk (And.intro avl (And.intro avm (And.intro avn (And.intro avo (And.intro avq (And.intro avr (And.intro avs (And.intro avt (And.intro avu (And.intro avv (And.intro avw (And.intro avx (And.intro avy (And.intro avz (And.intro avA (And.intro avB (And.intro avC (And.intro avD (And.intro avE (And.intro avF (And.intro avG (And.intro avH (And.intro avJ (And.intro avK (And.intro avL (And.intro avM (And.intro avN (And.intro at9 (And.intro aua (And.intro aub (And.intro auc (And.intro aud (And.intro aue (And.intro auf (And.intro aug (And.intro auh (And.intro aui (And.intro auj (And.intro auk (And.intro aul (And.intro aum (And.intro aun (And.intro auo (And.intro aup (And.intro auq (And.intro aur (And.intro aus (And.intro aut (And.intro auu (And.intro auv (And.intro auw (And.intro auy (And.intro auz (And.intro auA (And.intro auB (And.intro auC (And.intro auD (And.intro auE (And.intro auF (And.intro auG (And.intro auH (And.intro auI (And.intro auK (And.intro auL (And.intro auM (And.intro auN (And.intro auO (And.intro auQ (And.intro auR (And.intro auS (And.intro auU (And.intro auV (And.intro auW (And.intro auY (And.intro auZ (And.intro au1 (And.intro au2 (And.intro au3 (And.intro au4 (And.intro au5 (And.intro au6 (And.intro au7 (And.intro au8 (And.intro au9 (And.intro avb (And.intro avc trivial))))))))))))))))))))))))))))))))))))))))))))))))))))))))))))))))))))))))))))))))))))))))))))))))))))))))
def fns:List Nat:=[11,12,13,14,15,16,17,18,19,20,21,22,23,24,25,26,27,28,29,30,32,33,34,35,36,37,38,39,40,41,42,43,44,46,48,49,50,51,52,53,54,55,56,57,58,59,60,61,62,63,64,65,66,67,68,69,70,71,72,73,74,75,76,77,78,79,80,81,82,83,84,85,86,87,88,89,90,91,92,93,94,95,96,97,98,99,100,101,102,103,104,105,106,107,108,109,110,111,112,113,114,115,116,117,118,119,120,121,122,123,124,125,126,127,128,129,130,131,132,133,134,135,136,137,138,139,140,141,142,144,145,146,147,148,149,150,151,152,153,154,155,156,157,158,159,160,161,162,163,164,165,166,168,169,170,171,172,173,174,175,176,177,178,179,180,181,182,183,184,187,188,189,190,191,192,193,195,206]
theorem ams:Ji prog fns:=(bR func11 (bR func12 (bR func13 (bR func14 (bR func15 (bR func16 (bR func17 (bR func18 (bR func19 (bR func20 (bR func21 (bR func22 (bR func23 (bR func24 (bR func25 (bR func26 (bR func27 (bR func28 (bR func29 (bR func30 (bR func32 (bR func33 (bR func34 (bR func35 (bR func36 (bR func37 (bR func38 (bR func39 (bR func40 (bR func41 (bR func42 (bR func43 (bR func44 (bR func46 (bR func48 (bR func49 (bR func50 (bR func51 (bR func52 (bR func53 (bR func54 (bR func55 (bR func56 (bR func57 (bR func58 (bR func59 (bR func60 (bR func61 (bR func62 (bR func63 (bR func64 (bR func65 (bR func66 (bR func67 (bR func68 (bR func69 (bR func70 (bR func71 (bR func72 (bR func73 (bR func74 (bR func75 (bR func76 (bR func77 (bR func78 (bR func79 (bR func80 (bR func81 (bR func82 (bR func83 (bR func84 (bR func85 (bR func86 (bR func87 (bR func88 (bR func89 (bR func90 (bR func91 (bR func92 (bR func93 (bR func94 (bR func95 (bR func96 (bR func97 (bR func98 (bR func99 (bR func100 (bR func101 (bR func102 (bR func103 (bR func104 (bR func105 (bR func106 (bR func107 (bR func108 (bR func109 (bR func110 (bR func111 (bR func112 (bR func113 (bR func114 (bR func115 (bR func116 (bR func117 (bR func118 (bR func119 (bR func120 (bR func121 (bR func122 (bR func123 (bR func124 (bR func125 (bR func126 (bR func127 (bR func128 (bR func129 (bR func130 (bR func131 (bR func132 (bR func133 (bR func134 (bR func135 (bR func136 (bR func137 (bR func138 (bR func139 (bR func140 (bR func141 (bR func142 (bR func144 (bR func145 (bR func146 (bR func147 (bR func148 (bR func149 (bR func150 (bR func151 (bR func152 (bR func153 (bR func154 (bR func155 (bR func156 (bR func157 (bR func158 (bR func159 (bR func160 (bR func161 (bR func162 (bR func163 (bR func164 (bR func165 (bR func166 (bR func168 (bR func169 (bR func170 (bR func171 (bR func172 (bR func173 (bR func174 (bR func175 (bR func176 (bR func177 (bR func178 (bR func179 (bR func180 (bR func181 (bR func182 (bR func183 (bR func184 (bR func187 (bR func188 (bR func189 (bR func190 (bR func191 (bR func192 (bR func193 (bR func195 (bR func206 trivial))))))))))))))))))))))))))))))))))))))))))))))))))))))))))))))))))))))))))))))))))))))))))))))))))))))))))))))))))))))))))))))))))))))))))))))))))))))))))))))))))))))))))))))))))
noncomputable def bB:c3:={P:=prog,tb:=tb,fns:=fns}
theorem Nz:ht bB:={IW:=at4,fn:=aaf ams,mixed:=by kernel_rfl}
abbrev aB(R:ak):List PanicEntry->ai:=λcX w=>R (.panicked cX) w
instance:Coe Int Value:=⟨Value.int .i64⟩
theorem fg{f:FuncId}{fn:Func}(bf:prog.funcs[f]?=some fn)(rs:List ResultVar)(hL:Nat)(s:jU){args:aU}{w:World}{R:ak}{m:Prop}(h:m)(aP:args.length<=hL:=by exact PE rfl)(ω:fn.body=some (fn.body.getD .skip):=by kernel_rfl)(kr:fn.results.toList=rs:=by kernel_rfl)(rP:fn.ntmps=hL:=by kernel_rfl)(hm:m=nv bB hL (fn.body.getD .skip) s (fin bB rs R) (qN 0 args) w:=by kernel_rfl)(aE:tv s True=o5 bB hL (fn.body.getD .skip) s (fin bB rs R) True:=by kernel_rfl):Calls prog f args.toArray w R:=
 ZU Nz bf ω rs kr hL rP s aP hm aE (u7 s _ trivial) h
theorem adh{f:FuncId}{fn:Func}(bf:prog.funcs[f]?=some fn)(rs:List ResultVar)(hL:Nat)(s:zV){args:aU}{w:World}{R:ak}{m:Prop}(h:m)(aP:args.length<=hL:=by exact PE rfl)(ω:fn.body=some (fn.body.getD .skip):=by kernel_rfl)(kr:fn.results.toList=rs:=by kernel_rfl)(rP:fn.ntmps=hL:=by kernel_rfl)(hm:m=BO bB hL s (fn.body.getD .skip) (fin bB rs R) (qN 0 args) w:=by kernel_rfl)(aE:QB s True=Ff bB hL s (fn.body.getD .skip) (fin bB rs R) True:=by kernel_rfl):Calls prog f args.toArray w R:=
 al1 Nz bf ω rs kr hL rP s aP hm aE (WZ s _ trivial) h
theorem adi{f:FuncId}{fn:Func}(bf:prog.funcs[f]?=some fn)(rs:List ResultVar)(hL:Nat)(s:jU){args:aU}{w:World}{R:ak}{m:Prop}(h:m)(aP:args.length<=hL:=by exact PE rfl)(ω:fn.body=some (fn.body.getD .skip):=by kernel_rfl)(kr:fn.results.toList=rs:=by kernel_rfl)(rP:fn.ntmps=hL:=by kernel_rfl)(hm:m=qT bB hL (fn.body.getD .skip) s (fin bB rs R) (qN 0 args) w:=by kernel_rfl)(aE:tv s True=xT bB hL (fn.body.getD .skip) s (fin bB rs R) True:=by kernel_rfl):CallsIn Fence.wide 0 prog f args.toArray w R:=
 al3 Nz bf ω rs kr hL rP s aP hm aE (u7 s _ trivial) h
theorem dt{f:FuncId}{fn:Func}(bf:prog.funcs[f]?=some fn)(rs:List ResultVar)(hL:Nat){args:aU}{w:World}{R:ak}{m:Prop}(h:m)(aP:args.length<=hL:=by exact PE rfl)(ω:fn.body=some (fn.body.getD .skip):=by kernel_rfl)(kr:fn.results.toList=rs:=by kernel_rfl)(rP:fn.ntmps=hL:=by kernel_rfl)(hm:m=nv bB hL (fn.body.getD .skip) .leaf (fin bB rs R) (qN 0 args) w:=by kernel_rfl)(aE:True=o5 bB hL (fn.body.getD .skip) .leaf (fin bB rs R) True:=by kernel_rfl):Calls prog f args.toArray w R:=
 ZU Nz bf ω rs kr hL rP .leaf aP hm aE trivial h
abbrev Ru{nQ:Type}(f g:World->nQ->Prop):Prop:=∀{w r},f w r->g w r
abbrev ic{cF nQ:Type}(f g:cF->World->nQ->Prop):Prop:=∀{cf w r},f cf w r->g cf w r
abbrev jT{cF cL nQ:Type}(f g:cF->cL->World->nQ->Prop):Prop:=∀{cf ζ w r},f cf ζ w r->g cf ζ w r
abbrev iL{cF cL cU nQ:Type}(f g:cF->cL->cU->World->nQ->Prop):Prop:=∀{cf ζ τ w r},f cf ζ τ w r->g cf ζ τ w r
abbrev k6{cF cL cU c7 nQ:Type}(f g:cF->cL->cU->c7->World->nQ->Prop):Prop:=∀{cf ζ τ ab w r},f cf ζ τ ab w r->g cf ζ τ ab w r
abbrev vy{cF cL cU c7 dv nQ:Type}(f g:cF->cL->cU->c7->dv->World->nQ->Prop):Prop:=∀{cf ζ τ ab aA w r},f cf ζ τ ab aA w r->g cf ζ τ ab aA w r
abbrev yq{cF cL cU c7 dv dS nQ:Type}(f g:cF->cL->cU->c7->dv->dS->World->nQ->Prop):Prop:=∀{cf ζ τ ab aA al w r},f cf ζ τ ab aA al w r->g cf ζ τ ab aA al w r
abbrev GU{cF cL cU c7 dv dS ek nQ:Type}(f g:cF->cL->cU->c7->dv->dS->ek->World->nQ->Prop):Prop:=∀{cf ζ τ ab aA al aJ w r},f cf ζ τ ab aA al aJ w r->g cf ζ τ ab aA al aJ w r
abbrev C8{cF cL cU c7 dv dS ek eL nQ:Type}(f g:cF->cL->cU->c7->dv->dS->ek->eL->World->nQ->Prop):Prop:=∀{cf ζ τ ab aA al aJ aV w r},f cf ζ τ ab aA al aJ aV w r->g cf ζ τ ab aA al aJ aV w r
abbrev ajh{cF cL cU c7 dv dS ek eL fw nQ:Type}(f g:cF->cL->cU->c7->dv->dS->ek->eL->fw->World->nQ->Prop):Prop:=∀{cf ζ τ ab aA al aJ aV ct w r},f cf ζ τ ab aA al aJ aV ct w r->g cf ζ τ ab aA al aJ aV ct w r
abbrev ajg{cF cL cU c7 dv dS ek eL fw gZ iY nQ:Type}(f g:cF->cL->cU->c7->dv->dS->ek->eL->fw->gZ->iY->World->nQ->Prop):Prop:=∀{cf ζ τ ab aA al aJ aV ct cv e7 w r},f cf ζ τ ab aA al aJ aV ct cv e7 w r->g cf ζ τ ab aA al aJ aV ct cv e7 w r
abbrev acn{cF cL gm:Type}(b:cF->cL->World->gm->(cF->cL->ai)->Prop)(cf:cF)(ζ:cL)(w:World)(fI:gm):Prop:=∃(bw:cF->cL->ai)(m:cF->cL->World->Nat),bw cf ζ w/\∀cf ζ w,bw cf ζ w->b cf ζ w fI λfK gk v=>bw fK gk v/\m fK gk v<m cf ζ w
abbrev HU{cF cL cU gm:Type}(b:cF->cL->cU->World->gm->(cF->cL->cU->ai)->Prop)(cf:cF)(ζ:cL)(τ:cU)(w:World)(fI:gm):Prop:=∃(bw:cF->cL->cU->ai)(m:cF->cL->cU->World->Nat),bw cf ζ τ w/\∀cf ζ τ w,bw cf ζ τ w->b cf ζ τ w fI λfK gk fv v=>bw fK gk fv v/\m fK gk fv v<m cf ζ τ w
abbrev OY{cF cL cU c7 gm:Type}(b:cF->cL->cU->c7->World->gm->(cF->cL->cU->c7->ai)->Prop)(cf:cF)(ζ:cL)(τ:cU)(ab:c7)(w:World)(fI:gm):Prop:=∃(bw:cF->cL->cU->c7->ai)(m:cF->cL->cU->c7->World->Nat),bw cf ζ τ ab w/\∀cf ζ τ ab w,bw cf ζ τ ab w->b cf ζ τ ab w fI λfK gk fv gl v=>bw fK gk fv gl v/\m fK gk fv gl v<m cf ζ τ ab w
abbrev Cj{cF cL cU c7 dv gm:Type}(b:cF->cL->cU->c7->dv->World->gm->(cF->cL->cU->c7->dv->ai)->Prop)(cf:cF)(ζ:cL)(τ:cU)(ab:c7)(aA:dv)(w:World)(fI:gm):Prop:=∃(bw:cF->cL->cU->c7->dv->ai)(m:cF->cL->cU->c7->dv->World->Nat),bw cf ζ τ ab aA w/\∀cf ζ τ ab aA w,bw cf ζ τ ab aA w->b cf ζ τ ab aA w fI λfK gk fv gl hs v=>bw fK gk fv gl hs v/\m fK gk fv gl hs v<m cf ζ τ ab aA w
abbrev aqd{cF cL cU c7 dv gm qI:Type}(b:cF->cL->cU->c7->dv->World->gm->qI->(cF->cL->cU->c7->dv->ai)->Prop)(cf:cF)(ζ:cL)(τ:cU)(ab:c7)(aA:dv)(w:World)(fI:gm)(c1:qI):Prop:=∃(bw:cF->cL->cU->c7->dv->ai)(m:cF->cL->cU->c7->dv->World->Nat),bw cf ζ τ ab aA w/\∀cf ζ τ ab aA w,bw cf ζ τ ab aA w->b cf ζ τ ab aA w fI c1 λfK gk fv gl hs v=>bw fK gk fv gl hs v/\m fK gk fv gl hs v<m cf ζ τ ab aA w
abbrev pD{cF cL cU c7 dv dS gm:Type}(b:cF->cL->cU->c7->dv->dS->World->gm->(cF->cL->cU->c7->dv->dS->ai)->Prop)(cf:cF)(ζ:cL)(τ:cU)(ab:c7)(aA:dv)(al:dS)(w:World)(fI:gm):Prop:=∃(bw:cF->cL->cU->c7->dv->dS->ai)(m:cF->cL->cU->c7->dv->dS->World->Nat),bw cf ζ τ ab aA al w/\∀cf ζ τ ab aA al w,bw cf ζ τ ab aA al w->b cf ζ τ ab aA al w fI λfK gk fv gl hs ib v=>bw fK gk fv gl hs ib v/\m fK gk fv gl hs ib v<m cf ζ τ ab aA al w
abbrev KZ{cF cL cU c7 dv dS ek gm:Type}(b:cF->cL->cU->c7->dv->dS->ek->World->gm->(cF->cL->cU->c7->dv->dS->ek->ai)->Prop)(cf:cF)(ζ:cL)(τ:cU)(ab:c7)(aA:dv)(al:dS)(aJ:ek)(w:World)(fI:gm):Prop:=∃(bw:cF->cL->cU->c7->dv->dS->ek->ai)(m:cF->cL->cU->c7->dv->dS->ek->World->Nat),bw cf ζ τ ab aA al aJ w/\∀cf ζ τ ab aA al aJ w,bw cf ζ τ ab aA al aJ w->b cf ζ τ ab aA al aJ w fI λfK gk fv gl hs ib iQ v=>bw fK gk fv gl hs ib iQ v/\m fK gk fv gl hs ib iQ v<m cf ζ τ ab aA al aJ w
abbrev K0{cF cL cU c7 dv dS ek eL gm:Type}(b:cF->cL->cU->c7->dv->dS->ek->eL->World->gm->(cF->cL->cU->c7->dv->dS->ek->eL->ai)->Prop)(cf:cF)(ζ:cL)(τ:cU)(ab:c7)(aA:dv)(al:dS)(aJ:ek)(aV:eL)(w:World)(fI:gm):Prop:=∃(bw:cF->cL->cU->c7->dv->dS->ek->eL->ai)(m:cF->cL->cU->c7->dv->dS->ek->eL->World->Nat),bw cf ζ τ ab aA al aJ aV w/\∀cf ζ τ ab aA al aJ aV w,bw cf ζ τ ab aA al aJ aV w->b cf ζ τ ab aA al aJ aV w fI λfK gk fv gl hs ib iQ iE v=>bw fK gk fv gl hs ib iQ iE v/\m fK gk fv gl hs ib iQ iE v<m cf ζ τ ab aA al aJ aV w
abbrev aqe{cF cL cU c7 dv dS ek eL gm qI:Type}(b:cF->cL->cU->c7->dv->dS->ek->eL->World->gm->qI->(cF->cL->cU->c7->dv->dS->ek->eL->ai)->Prop)(cf:cF)(ζ:cL)(τ:cU)(ab:c7)(aA:dv)(al:dS)(aJ:ek)(aV:eL)(w:World)(fI:gm)(c1:qI):Prop:=∃(bw:cF->cL->cU->c7->dv->dS->ek->eL->ai)(m:cF->cL->cU->c7->dv->dS->ek->eL->World->Nat),bw cf ζ τ ab aA al aJ aV w/\∀cf ζ τ ab aA al aJ aV w,bw cf ζ τ ab aA al aJ aV w->b cf ζ τ ab aA al aJ aV w fI c1 λfK gk fv gl hs ib iQ iE v=>bw fK gk fv gl hs ib iQ iE v/\m fK gk fv gl hs ib iQ iE v<m cf ζ τ ab aA al aJ aV w
abbrev K1{cF cL cU c7 dv dS ek eL fw gm:Type}(b:cF->cL->cU->c7->dv->dS->ek->eL->fw->World->gm->(cF->cL->cU->c7->dv->dS->ek->eL->fw->ai)->Prop)(cf:cF)(ζ:cL)(τ:cU)(ab:c7)(aA:dv)(al:dS)(aJ:ek)(aV:eL)(ct:fw)(w:World)(fI:gm):Prop:=∃(bw:cF->cL->cU->c7->dv->dS->ek->eL->fw->ai)(m:cF->cL->cU->c7->dv->dS->ek->eL->fw->World->Nat),bw cf ζ τ ab aA al aJ aV ct w/\∀cf ζ τ ab aA al aJ aV ct w,bw cf ζ τ ab aA al aJ aV ct w->b cf ζ τ ab aA al aJ aV ct w fI λfK gk fv gl hs ib iQ iE ky v=>bw fK gk fv gl hs ib iQ iE ky v/\m fK gk fv gl hs ib iQ iE ky v<m cf ζ τ ab aA al aJ aV ct w
abbrev aco{cF cL cU c7 dv dS ek eL fw gm qI:Type}(b:cF->cL->cU->c7->dv->dS->ek->eL->fw->World->gm->qI->(cF->cL->cU->c7->dv->dS->ek->eL->fw->ai)->Prop)(cf:cF)(ζ:cL)(τ:cU)(ab:c7)(aA:dv)(al:dS)(aJ:ek)(aV:eL)(ct:fw)(w:World)(fI:gm)(c1:qI):Prop:=∃(bw:cF->cL->cU->c7->dv->dS->ek->eL->fw->ai)(m:cF->cL->cU->c7->dv->dS->ek->eL->fw->World->Nat),bw cf ζ τ ab aA al aJ aV ct w/\∀cf ζ τ ab aA al aJ aV ct w,bw cf ζ τ ab aA al aJ aV ct w->b cf ζ τ ab aA al aJ aV ct w fI c1 λfK gk fv gl hs ib iQ iE ky v=>bw fK gk fv gl hs ib iQ iE ky v/\m fK gk fv gl hs ib iQ iE ky v<m cf ζ τ ab aA al aJ aV ct w
abbrev acm{cF cL cU c7 dv dS ek eL fw gZ gm:Type}(b:cF->cL->cU->c7->dv->dS->ek->eL->fw->gZ->World->gm->(cF->cL->cU->c7->dv->dS->ek->eL->fw->gZ->ai)->Prop)(cf:cF)(ζ:cL)(τ:cU)(ab:c7)(aA:dv)(al:dS)(aJ:ek)(aV:eL)(ct:fw)(cv:gZ)(w:World)(fI:gm):Prop:=∃(bw:cF->cL->cU->c7->dv->dS->ek->eL->fw->gZ->ai)(m:cF->cL->cU->c7->dv->dS->ek->eL->fw->gZ->World->Nat),bw cf ζ τ ab aA al aJ aV ct cv w/\∀cf ζ τ ab aA al aJ aV ct cv w,bw cf ζ τ ab aA al aJ aV ct cv w->b cf ζ τ ab aA al aJ aV ct cv w fI λfK gk fv gl hs ib iQ iE ky mT v=>bw fK gk fv gl hs ib iQ iE ky mT v/\m fK gk fv gl hs ib iQ iE ky mT v<m cf ζ τ ab aA al aJ aV ct cv w
abbrev ap7{cF cL cU c7 dv dS ek eL fw gZ gm qI:Type}(b:cF->cL->cU->c7->dv->dS->ek->eL->fw->gZ->World->gm->qI->(cF->cL->cU->c7->dv->dS->ek->eL->fw->gZ->ai)->Prop)(cf:cF)(ζ:cL)(τ:cU)(ab:c7)(aA:dv)(al:dS)(aJ:ek)(aV:eL)(ct:fw)(cv:gZ)(w:World)(fI:gm)(c1:qI):Prop:=∃(bw:cF->cL->cU->c7->dv->dS->ek->eL->fw->gZ->ai)(m:cF->cL->cU->c7->dv->dS->ek->eL->fw->gZ->World->Nat),bw cf ζ τ ab aA al aJ aV ct cv w/\∀cf ζ τ ab aA al aJ aV ct cv w,bw cf ζ τ ab aA al aJ aV ct cv w->b cf ζ τ ab aA al aJ aV ct cv w fI c1 λfK gk fv gl hs ib iQ iE ky mT v=>bw fK gk fv gl hs ib iQ iE ky mT v/\m fK gk fv gl hs ib iQ iE ky mT v<m cf ζ τ ab aA al aJ aV ct cv w
abbrev ap8{cF cL cU c7 dv dS ek eL fw gZ iY gm:Type}(b:cF->cL->cU->c7->dv->dS->ek->eL->fw->gZ->iY->World->gm->(cF->cL->cU->c7->dv->dS->ek->eL->fw->gZ->iY->ai)->Prop)(cf:cF)(ζ:cL)(τ:cU)(ab:c7)(aA:dv)(al:dS)(aJ:ek)(aV:eL)(ct:fw)(cv:gZ)(e7:iY)(w:World)(fI:gm):Prop:=∃(bw:cF->cL->cU->c7->dv->dS->ek->eL->fw->gZ->iY->ai)(m:cF->cL->cU->c7->dv->dS->ek->eL->fw->gZ->iY->World->Nat),bw cf ζ τ ab aA al aJ aV ct cv e7 w/\∀cf ζ τ ab aA al aJ aV ct cv e7 w,bw cf ζ τ ab aA al aJ aV ct cv e7 w->b cf ζ τ ab aA al aJ aV ct cv e7 w fI λfK gk fv gl hs ib iQ iE ky mT nP v=>bw fK gk fv gl hs ib iQ iE ky mT nP v/\m fK gk fv gl hs ib iQ iE ky mT nP v<m cf ζ τ ab aA al aJ aV ct cv e7 w
abbrev ap9{cF cL cU c7 dv dS ek eL fw gZ iY kz gm:Type}(b:cF->cL->cU->c7->dv->dS->ek->eL->fw->gZ->iY->kz->World->gm->(cF->cL->cU->c7->dv->dS->ek->eL->fw->gZ->iY->kz->ai)->Prop)(cf:cF)(ζ:cL)(τ:cU)(ab:c7)(aA:dv)(al:dS)(aJ:ek)(aV:eL)(ct:fw)(cv:gZ)(e7:iY)(fu:kz)(w:World)(fI:gm):Prop:=∃(bw:cF->cL->cU->c7->dv->dS->ek->eL->fw->gZ->iY->kz->ai)(m:cF->cL->cU->c7->dv->dS->ek->eL->fw->gZ->iY->kz->World->Nat),bw cf ζ τ ab aA al aJ aV ct cv e7 fu w/\∀cf ζ τ ab aA al aJ aV ct cv e7 fu w,bw cf ζ τ ab aA al aJ aV ct cv e7 fu w->b cf ζ τ ab aA al aJ aV ct cv e7 fu w fI λfK gk fv gl hs ib iQ iE ky mT nP tV v=>bw fK gk fv gl hs ib iQ iE ky mT nP tV v/\m fK gk fv gl hs ib iQ iE ky mT nP tV v<m cf ζ τ ab aA al aJ aV ct cv e7 fu w
abbrev aqa{cF cL cU c7 dv dS ek eL fw gZ iY kz gm qI:Type}(b:cF->cL->cU->c7->dv->dS->ek->eL->fw->gZ->iY->kz->World->gm->qI->(cF->cL->cU->c7->dv->dS->ek->eL->fw->gZ->iY->kz->ai)->Prop)(cf:cF)(ζ:cL)(τ:cU)(ab:c7)(aA:dv)(al:dS)(aJ:ek)(aV:eL)(ct:fw)(cv:gZ)(e7:iY)(fu:kz)(w:World)(fI:gm)(c1:qI):Prop:=∃(bw:cF->cL->cU->c7->dv->dS->ek->eL->fw->gZ->iY->kz->ai)(m:cF->cL->cU->c7->dv->dS->ek->eL->fw->gZ->iY->kz->World->Nat),bw cf ζ τ ab aA al aJ aV ct cv e7 fu w/\∀cf ζ τ ab aA al aJ aV ct cv e7 fu w,bw cf ζ τ ab aA al aJ aV ct cv e7 fu w->b cf ζ τ ab aA al aJ aV ct cv e7 fu w fI c1 λfK gk fv gl hs ib iQ iE ky mT nP tV v=>bw fK gk fv gl hs ib iQ iE ky mT nP tV v/\m fK gk fv gl hs ib iQ iE ky mT nP tV v<m cf ζ τ ab aA al aJ aV ct cv e7 fu w
abbrev OX{cF cL cU c7 dv dS ek eL fw gZ iY kz qH gm:Type}(b:cF->cL->cU->c7->dv->dS->ek->eL->fw->gZ->iY->kz->qH->World->gm->(cF->cL->cU->c7->dv->dS->ek->eL->fw->gZ->iY->kz->qH->ai)->Prop)(cf:cF)(ζ:cL)(τ:cU)(ab:c7)(aA:dv)(al:dS)(aJ:ek)(aV:eL)(ct:fw)(cv:gZ)(e7:iY)(fu:kz)(dG:qH)(w:World)(fI:gm):Prop:=∃(bw:cF->cL->cU->c7->dv->dS->ek->eL->fw->gZ->iY->kz->qH->ai)(m:cF->cL->cU->c7->dv->dS->ek->eL->fw->gZ->iY->kz->qH->World->Nat),bw cf ζ τ ab aA al aJ aV ct cv e7 fu dG w/\∀cf ζ τ ab aA al aJ aV ct cv e7 fu dG w,bw cf ζ τ ab aA al aJ aV ct cv e7 fu dG w->b cf ζ τ ab aA al aJ aV ct cv e7 fu dG w fI λfK gk fv gl hs ib iQ iE ky mT nP tV w7 v=>bw fK gk fv gl hs ib iQ iE ky mT nP tV w7 v/\m fK gk fv gl hs ib iQ iE ky mT nP tV w7 v<m cf ζ τ ab aA al aJ aV ct cv e7 fu dG w
abbrev aqb{cF cL cU c7 dv dS ek eL fw gZ iY kz qH gm qI:Type}(b:cF->cL->cU->c7->dv->dS->ek->eL->fw->gZ->iY->kz->qH->World->gm->qI->(cF->cL->cU->c7->dv->dS->ek->eL->fw->gZ->iY->kz->qH->ai)->Prop)(cf:cF)(ζ:cL)(τ:cU)(ab:c7)(aA:dv)(al:dS)(aJ:ek)(aV:eL)(ct:fw)(cv:gZ)(e7:iY)(fu:kz)(dG:qH)(w:World)(fI:gm)(c1:qI):Prop:=∃(bw:cF->cL->cU->c7->dv->dS->ek->eL->fw->gZ->iY->kz->qH->ai)(m:cF->cL->cU->c7->dv->dS->ek->eL->fw->gZ->iY->kz->qH->World->Nat),bw cf ζ τ ab aA al aJ aV ct cv e7 fu dG w/\∀cf ζ τ ab aA al aJ aV ct cv e7 fu dG w,bw cf ζ τ ab aA al aJ aV ct cv e7 fu dG w->b cf ζ τ ab aA al aJ aV ct cv e7 fu dG w fI c1 λfK gk fv gl hs ib iQ iE ky mT nP tV w7 v=>bw fK gk fv gl hs ib iQ iE ky mT nP tV w7 v/\m fK gk fv gl hs ib iQ iE ky mT nP tV w7 v<m cf ζ τ ab aA al aJ aV ct cv e7 fu dG w
abbrev aqc{cF cL cU c7 dv dS ek eL fw gZ iY kz qH MS gm:Type}(b:cF->cL->cU->c7->dv->dS->ek->eL->fw->gZ->iY->kz->qH->MS->World->gm->(cF->cL->cU->c7->dv->dS->ek->eL->fw->gZ->iY->kz->qH->MS->ai)->Prop)(cf:cF)(ζ:cL)(τ:cU)(ab:c7)(aA:dv)(al:dS)(aJ:ek)(aV:eL)(ct:fw)(cv:gZ)(e7:iY)(fu:kz)(dG:qH)(gV:MS)(w:World)(fI:gm):Prop:=∃(bw:cF->cL->cU->c7->dv->dS->ek->eL->fw->gZ->iY->kz->qH->MS->ai)(m:cF->cL->cU->c7->dv->dS->ek->eL->fw->gZ->iY->kz->qH->MS->World->Nat),bw cf ζ τ ab aA al aJ aV ct cv e7 fu dG gV w/\∀cf ζ τ ab aA al aJ aV ct cv e7 fu dG gV w,bw cf ζ τ ab aA al aJ aV ct cv e7 fu dG gV w->b cf ζ τ ab aA al aJ aV ct cv e7 fu dG gV w fI λfK gk fv gl hs ib iQ iE ky mT nP tV w7 aii v=>bw fK gk fv gl hs ib iQ iE ky mT nP tV w7 aii v/\m fK gk fv gl hs ib iQ iE ky mT nP tV w7 aii v<m cf ζ τ ab aA al aJ aV ct cv e7 fu dG gV w
end Go.Proofs.YtcpdfhkhaekekaaGreat.G

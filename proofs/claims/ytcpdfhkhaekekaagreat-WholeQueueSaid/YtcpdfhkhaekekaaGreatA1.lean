/- The walk of the functions, and the plain laws of the model: part of the proof. Conditions: none. -/
import Derived.Orders
import Derived.Below
import Derived.ProofKit
import Derived.OpenShut
import Derived.ChangeOld
import Derived.SizedLaws
import Derived.JoinedCond
import Derived.Carry
import Derived.Lib.SmallJoins
import Derived.Deep.Fields
import Derived.Deep.Slices
import Derived.WideShapes
import Derived.Test.YtcpdfhkhaekekaaGreatA0
set_option linter.unusedVariables false
set_option linter.unusedSimpArgs false
namespace Go.bI
def dep(γ:Oper):List Nat:=γ.after.toList.filterMap λe=>cond (Region.binds .any e) (some e.on) none
def Lx(c:c3)(γ:Oper):Bool:=match γ.op with
 | .alloc _=>false
 | .box _ _=>false
 | .store _ _ _=>false
 | .buildSlice _ _ _=>false
 | .makeSlice _ _ _=>false
 | .panic _=>false
 | .convert _ d _=>(match eU c.tb d with
  |some j=>(match j.desc with| .slice _=>false|_=>true)
  |none=>false)
 | .call cl=>(match cl.callee with
  | .builtin b=>(match b with| .append=>false| .copy=>false| .panic=>false|_=>true)
  |_=>false)
 |_=>true
def E5(c:c3)(γ:Oper):Bool:=match γ.op with
 | .load _ _=>true
 | .convert _ d _=>(match eU c.tb d with
  |some j=>(match j.desc with| .int _=>false| .float _=>false|_=>true)
  |none=>true)
 | .build _ _=>true
 | .makeInterface _ _=>true
 | .sliceToArrayPointer _ _=>true
 | .typeAssert _ _ _ _=>true
 | .call cl=>(match cl.callee with
  | .builtin _=>false
  |_=>true)
 |_=>false
def H2(γ:Oper):Bool:=match γ.op with| .select _ _=>false|_=>true
def NJ(γ:Oper)(d:Nat):Bool:=match γ.dst with|some e=>Nat.beq e d|none=>false
def Ab(ops:List Oper)(i:Nat):Bool:=match ops[i]?with
 |some γ=>(match γ.dst with
  |some d=>(List.range ops.length).any λj=>match ops[j]?with|some hq=>(hq.looksAt ops.toArray).contains d&&!(dep hq).contains i|none=>false
  |none=>false)
 |none=>false
def wu(ops:List Oper):Bool:=
 (List.range ops.length).all λi=>match ops[i]?with
  |some γ=>H2 γ&&((γ.looksAt ops.toArray).all λd=>(List.range ops.length).all λj=>match ops[j]?with|some hq=>!NJ hq d||(dep γ).contains j||((dep hq).contains i&&Ab ops j)|none=>true)&&
   ((List.range ops.length).all λj=>Nat.beq i j||(match ops[j]?with|some hq=>(match γ.dst with|some d=>!NJ hq d|none=>true)|none=>true))
  |none=>true
def x6(ops:List Oper)(set:List Nat)(i:Nat):Bool:=match ops[i]?with
 |some γ=>!set.contains i&&(dep γ).all λe=>set.contains e
 |none=>false
def V2(c:c3)(ops:List Oper)(i:Nat):Bool:=match ops[i]?with|some γ=>Lx c γ&&!Ab ops i|none=>false
theorem asv{c:c3}{ops:List Oper}{i:Nat}(h:V2 c ops i=true):Ab ops i=false:=by
 unfold V2 at h;split at h
 ·simp only[kH,Bool.not_eq_true']at h;exact h.2
 ·cases h
def Vm(c:c3)(ops:List Oper)(set:List Nat):Option Nat:=(List.range ops.length).find? λi=>V2 c ops i&&x6 ops set i
def K5(ops:List Oper)(set:List Nat):List Nat:=(List.range ops.length).filter (x6 ops set)
def yD(ops:List Oper):Nat->List Nat->List Nat->List Nat
 |0,_,acc=>acc
 |_+1,[],acc=>acc
 |k+1,i::r,acc=>cond (acc.contains i) (yD ops k r acc) (yD ops k ((match ops[i]?with|some γ=>dep γ|none=>[])++r) (i::acc))
def Bx(F:a1):List Nat->Prop
 |[]=>True
 |[i]=>F i
 |i::r=>F i/\Bx F r
def Wa(c:c3)(ops:List Oper)(γ:Oper)(ν:c4)(w:World)(K:Prop):Prop:=
 BS ops γ.guard ν (λν=>match γ.op with
  | .load t a=>eJ ν a λa=>hD a λp=>ξ p λa=>ξ (eU c.tb t) λi=>ξ γ.dst λd=>ξ (ν.get d) λv=>cond (Ae i.desc) (dZ v λcs=>ο (decide (cs.size=i.size)) (aw w a cs.toList/\K)) (w.cell? a=some v/\K)
  |_=>ξ γ.dst λd=>ξ (ν.get d) λv=>uy c γ ν w λrk=>rk=v/\K) λ_=>K
def recheck(c:c3)(ops:List Oper)(ν:c4)(w:World):List Nat->Prop->Prop
 |[],K=>K
 |j::r,K=>ξ ops[j]? λγ=>cond (E5 c γ) (Wa c ops γ ν w (recheck c ops ν w r K)) (recheck c ops ν w r K)
def sW(c:c3)(n:Nat)(ops:List Oper)(Q:c4->ai)(X:List PanicEntry->ai):Nat->List Nat->List Nat->c4->ai
 |0,_,_,_,_=>False
 |k+1,set,sure,ν,w=>match Vm c ops set with
  |some i=>ξ ops[i]? λγ=>BS ops γ.guard ν
   (λν=>uy c γ ν w λv=>tm n γ.dst v ν λν=>sW c n ops Q X k (i::set) sure ν w)
   (λν=>tm n γ.dst undef ν λν=>sW c n ops Q X k (i::set) sure ν w)
  |none=>match K5 ops set with
   |[]=>Q ν w
   |es=>Bx (λi=>ξ ops[i]? λγ=>BS ops γ.guard ν
    (λν=>D4 c γ ν w (λv w'=>recheck c ops ν w' (set.filter λj=>!(yD ops 200 (dep γ) sure).contains j) (tm n γ.dst v ν λν=>sW c n ops Q X k (i::set) (i::yD ops 200 (dep γ) sure) ν w')) X)
    (λν=>tm n γ.dst undef ν λν=>sW c n ops Q X k (i::set) (i::yD ops 200 (dep γ) sure) ν w)) es
section
variable{ops:List Oper}{a av:Act}{γ:Oper}
theorem al5{x:Operand}(h:∀t,x=.tmp t->a.tmps[t]?=av.tmps[t]?):a.eval x=av.eval x:=by
 cases x with
 |tmp t=>simp only[Act.eval,FJ,h t rfl]
 |_=>rfl
theorem ZW(ψ:H2 γ=true)(h:∀d,d∈γ.looksAt ops.toArray->a.tmps[d]?=av.tmps[d]?):execOp a.eval γ=execOp av.eval γ:=by refine execOp_congr γ (λcs b ω=>by simp[H2,ω]at ψ) λx I=>al5 λt aO=>h t ?_;subst aO;exact V4 _ (u3.2 ⟨.tmp t,by simpa using I,rfl⟩)
theorem ah5(h:∀d,d∈γ.looksAt ops.toArray->a.tmps[d]?=av.tmps[d]?):Region.wanted γ (yielded ops.toArray a.tmps)=Region.wanted γ (yielded ops.toArray av.tmps):=by
 unfold Region.wanted;cases bL:γ.guard with
 |none=>rfl
 |some amD=>
  obtain⟨g,want⟩:=amD
  have:yielded ops.toArray a.tmps g=yielded ops.toArray av.tmps g:=by
   unfold yielded;cases aO:(ops.toArray[g]?).bind (·.dst)with
   |none=>rfl
   |some t=>
    have:=h t (List.mem_append_right _ (by simp only[bL];rw[aO];simp))
    simp only[Option.bind_some,this]
  simp only[this]
theorem AS{d:Option Nat}{v:Value}{j:Nat}(h:d≠some j):(a.put d v).tmps[j]?=a.tmps[j]?:=by
 cases d with
 |none=>rfl
 |some e=>
  have:e≠j:=λx=>h (by rw[x])
  simp[Act.put,Array.getElem?_setIfInBounds_ne this]
theorem Lt{d:Nat}{v:Value}(h:d<a.tmps.size):(a.put (some d) v).tmps[d]?=some v:=by simp[Act.put,h]
theorem Lu{d:Option Nat}{v:Value}:(a.put d v).tmps.size=a.tmps.size:=by cases d<;>simp[Act.put]
theorem put_defers{d:Option Nat}{v:Value}:(a.put d v).defers=a.defers:=by cases d<;>rfl
def slot(a:Act)(d:Option Nat):Value:=(d.bind λd=>a.tmps[d]?).getD undef
theorem adT(ψ:a.tmps.size=av.tmps.size)(d:Option Nat)(v:Value):a.put d (slot (av.put d v) d)=a.put d v:=by
 cases d with
 |none=>rfl
 |some d=>
  by_cases h:d<av.tmps.size
  ·simp[slot,Lt h]
  ·have η:¬d<a.tmps.size:=by omega
   unfold Act.put;simp only;rw[Array.setIfInBounds_eq_of_size_le (by omega),Array.setIfInBounds_eq_of_size_le (by omega)]
theorem ap0{X:List PanicEntry->ai}:¬LetsOut (λe _ w=>∃cX,e=Exit.panic cX/\X cX w):=by rintro⟨a,w,cX,h,_⟩;cases h
theorem awB{P:Program}{w:World}{K:Act->ai}{X:List PanicEntry->ai}{Q:Exit->Act->ai}(he:execOp a.eval γ=execOp av.eval γ)(ψ:a.tmps.size=av.tmps.size)(eE:∀cX w',X cX w'->Q (.panic cX) a w')
  (h:γ.wp P av w (λfz w'=>fz.defers=av.defers/\K (a.put γ.dst (slot fz γ.dst)) w') λe _ w'=>∃cX,e=.panic cX/\X cX w'):γ.wp P a w K Q:=by
 unfold Oper.wp at*;rw[he];generalize(execOp av.eval γ).run P w=r at h⊢;have key:∀v w',(av.put γ.dst v).defers=av.defers/\K (a.put γ.dst (slot (av.put γ.dst v) γ.dst)) w'->K (a.put γ.dst v) w':=λv w' h=>by rw[adT ψ]at h;exact h.2
 cases r with
 |ok x w'=>
  cases x with
  |value v=>exact key _ _ h
  |skip=>exact key _ _ h
  |defer d=>
   exfalso;have h1:(({av with defers:=d::av.defers}:Act).put γ.dst undef).defers=av.defers:=h.1;rw[put_defers]at h1
   have:=gN List.length h1
   simp at this
  |enter f args=>
   simp only[Oper.upon]at h⊢;refine Calls.mono h λe hY he=>?_;cases e with
   |returned v=>exact key _ _ he
   |panicked cX=>
    obtain⟨akG,aM,bz⟩:=he;cases aM;exact eE _ _ bz
   |outgrown=>exact(ap0 he).elim
  |row r args=>
   simp only[Oper.upon]at h⊢;exact Rows.mono h λv hY he=>key _ _ he
  |_=>exact h.elim
 |halt x w'=>
  cases x with
  |panic v=>
   obtain⟨cX,aM,bz⟩:=h;cases aM;exact eE _ _ bz
  |_=>exact h.elim
end
def yr(c:c3)(ops:List Oper)(γ:Oper)(v:Value)(a:Act)(H:Array Obj):Prop:=
 (Region.wanted γ (yielded ops.toArray a.tmps)=true/\Yields c γ a H v)\/(Region.wanted γ (yielded ops.toArray a.tmps)=false/\v=undef)
theorem yr.same{c:c3}{ops:List Oper}{γ:Oper}{v:Value}{a av:Act}{H:Array Obj}(ψ:H2 γ=true)(h:∀d,d∈γ.looksAt ops.toArray->a.tmps[d]?=av.tmps[d]?)(hw:yr c ops γ v av H):yr c ops γ v a H:=by unfold yr Yields at*;rw[ZW ψ h,ah5 h];exact hw
theorem yr.wpOp{c:c3}{ops:List Oper}{γ:Oper}{v:Value}{a:Act}{w:World}{i:Nat}(o:ops[i]?=some γ)(h:yr c ops γ v a w.heap){K:Act->ai}{Q:Exit->Act->ai}(jW:K (a.put γ.dst v) w):Go.wpOp c.P ops.toArray Q i K a w:=by
 unfold Go.wpOp;have lg:ops.toArray[i]?=some γ:=by simpa using o
 simp only[lg];rcases h with⟨hw,aL⟩|⟨hw,rfl⟩
 ·rw[aY hw];exact .inl (aL.wp jW)
 ·rw[aN (by simp[hw])];exact jW
def Ord(ops:List Oper):List Nat->Prop
 |[]=>True
 |i::t=>(∃γ,ops[i]?=some γ/\∀e∈dep γ,e∈t)/\Ord ops t
theorem Fh{ops:List Oper}(h:wu ops=true){i:Nat}{γ:Oper}(o:ops[i]?=some γ):
  H2 γ=true/\(∀d∈γ.looksAt ops.toArray,∀j hq,ops[j]?=some hq->hq.dst=some d->j∈dep γ\/(i∈dep hq/\Ab ops j=true))/\(∀j hq,ops[j]?=some hq->i≠j->∀d,γ.dst=some d->hq.dst≠some d):=by
 have bQ:i<ops.length:=(List.getElem?_eq_some_iff.1 o).1
 have:=Cy.1 h i (nF.2 bQ)
 rw[o]at this;simp only[kH]at this;obtain⟨⟨h1,η⟩,au⟩:=this;refine⟨h1,λd ae j hq χ rN=>?_,λj hq χ cc d ae rN=>?_⟩
 ·have:=Cy.1 (Cy.1 η d ae) j (nF.2 (List.getElem?_eq_some_iff.1 χ).1)
  rw[χ]at this;simp only[NJ,rN,Cx,u1,Bool.false_or,Bool.or_eq_true,kH]at this;rcases this with this|⟨this,bV⟩
  ·exact .inl (by simpa using this)
  ·exact .inr ⟨by simpa using this,bV⟩
 ·have:=Cy.1 au j (nF.2 (List.getElem?_eq_some_iff.1 χ).1)
  rw[χ]at this;simp only[ae,NJ,rN,Cx,u1,Bool.or_false]at this;exact cc (x3 this)
def a7(F:(Value->Prop)->Prop):Prop:=∀K,F K->∃v,K v/\∀rr:Value->Prop,rr v->F rr
section
variable{α:Type}
theorem a7.one(v:Value):a7 λK=>K v:=λK h=>⟨v,h,λ_ h=>h⟩
theorem a7.no:a7 λ_=>False:=λK h=>h.elim
theorem a7.ο{b:Bool}{G:(Value->Prop)->Prop}(h:a7 G):a7 λK=>bI.ο b (G K):=λK hk=>by obtain⟨ω,hk⟩:=h5 hk;obtain⟨v,aL,f⟩:=h K hk;exact⟨v,aL,λrr eX=>bO ω (f rr eX)⟩
theorem a7.cond{b:Bool}{G iR:(Value->Prop)->Prop}(h:a7 G)(eX:a7 iR):a7 λK=>_root_.cond b (G K) (iR K):=by cases b<;>assumption
theorem a7.ξ{x:Option α}{G:α->(Value->Prop)->Prop}(h:∀v,a7 (G v)):a7 λK=>bI.ξ x λv=>G v K:=by
 cases x with
 |none=>exact a7.no
 |some v=>exact h v
theorem a7.eJ{ν:c4}{x:Operand}{G:Value->(Value->Prop)->Prop}(h:∀v,a7 (G v)):a7 λK=>bI.eJ ν x λv=>G v K:=by
 cases x with
 |tmp t=>exact a7.ξ h
 |_=>exact h _
theorem a7.o6{ν:c4}:∀{xs:List Operand}{G:aU->(Value->Prop)->Prop},(∀v,a7 (G v))->a7 λK=>bI.o6 ν xs λv=>G v K
 |[],G,h=>h []
 |x::r,G,h=>a7.eJ (G:=λv K=>bI.o6 ν r λvs=>G (v::vs) K) λv=>a7.o6 (G:=λvs=>G (v::vs)) λvs=>h _
theorem a7.AO{ν:c4}{x:Option Operand}{G:Option Value->(Value->Prop)->Prop}(h:∀v,a7 (G v)):a7 λK=>bI.AO ν x λv=>G v K:=by
 cases x with
 |none=>exact h none
 |some x=>exact a7.eJ λv=>h (some v)
theorem a7.bq{k:IntKind}{x:Value}{G:Int->(Value->Prop)->Prop}(h:∀v,a7 (G v)):a7 λK=>bI.bq k x λv=>G v K:=by cases x<;>first|exact a7.no|exact a7.ο (h _)
theorem a7.dD{x:Value}{G:Bool->(Value->Prop)->Prop}(h:∀v,a7 (G v)):a7 λK=>bI.dD x λv=>G v K:=by cases x<;>first|exact a7.no|exact h _
theorem a7.df{x:Value}{G:J->Nat->Nat->(Value->Prop)->Prop}(h:∀a n c,a7 (G a n c)):a7 λK=>bI.df x λa n c=>G a n c K:=by cases x<;>first|exact a7.no|exact h _ _ _
theorem a7.hD{x:Value}{G:J->(Value->Prop)->Prop}(h:∀v,a7 (G v)):a7 λK=>bI.hD x λv=>G v K:=by cases x<;>first|exact a7.no|exact h _
theorem a7.dZ{x:Value}{G:ah->(Value->Prop)->Prop}(h:∀v,a7 (G v)):a7 λK=>bI.dZ x λv=>G v K:=by cases x<;>first|exact a7.no|exact h _
theorem a7.b6{x:Value}{G:ah->(Value->Prop)->Prop}(h:∀v,a7 (G v)):a7 λK=>bI.b6 x λv=>G v K:=by cases x<;>first|exact a7.no|exact h _
theorem a7.lH{x:Value}{G:ByteArray->(Value->Prop)->Prop}(h:∀v,a7 (G v)):a7 λK=>bI.lH x λv=>G v K:=by cases x<;>first|exact a7.no|exact h _
theorem a7.p6{x:Value}{G:Option Nat->(Value->Prop)->Prop}(h:∀v,a7 (G v)):a7 λK=>bI.p6 x λv=>G v K:=by cases x<;>first|exact a7.no|exact h _
theorem a7.xj{x:Value}{G:Nat->(Value->Prop)->Prop}(h:∀v,a7 (G v)):a7 λK=>bI.xj x λv=>G v K:=by cases x<;>first|exact a7.no|(rename_i k _;cases k<;>first|exact a7.no|exact h _)
theorem a7.lG{x:Value}{G:Nat->Nat->(Value->Prop)->Prop}(h:∀a b,a7 (G a b)):a7 λK=>bI.lG x λa b=>G a b K:=by cases x<;>first|exact a7.no|(rename_i k _ _;cases k<;>first|exact a7.no|exact h _ _)
theorem Zy{d:TypeDesc}{v:Value}:a7 (yH d v):=by
 cases d<;>first
  |exact a7.bq λ_=>a7.one _
  |exact a7.dD λ_=>a7.one _
  |exact a7.lH λ_=>a7.one _
  |exact a7.xj λ_=>a7.one _
  |exact a7.lG λ_ _=>a7.one _
  |exact a7.df λ_ _ _=>a7.one _
  |exact a7.hD λ_=>a7.one _
  |exact a7.p6 λ_=>a7.one _
  |exact a7.dZ λ_=>a7.one _
  |exact a7.b6 λ_=>a7.one _
  |exact a7.one _
theorem akp{op:BinOp}{k:IntKind}{a b:Int}:a7 (Nj op k a b):=by cases op<;>first|exact a7.no|exact a7.one _|exact a7.ο (a7.one _)
theorem akt{op:BinOp}{k:IntKind}{a b:Int}:a7 (Nk op k a b):=by cases op<;>first|exact a7.no|exact a7.ο (a7.one _)
theorem Nh{op:BinOp}{r:Bool}:a7 (z8 op r):=by cases op<;>first|exact a7.no|exact a7.one _
theorem atL{op:BinOp}{a b:ByteArray}:a7 (WB op a b):=by cases op<;>first|exact a7.no|exact a7.one _|exact a7.ο (a7.one _)
theorem akr{d:TypeDesc}{op:BinOp}{x y:Value}:a7 (JF d op x y):=by
 intro K h;unfold JF at h;split at h
 ·exact a7.cond akt (a7.ο akp) K h
 ·exact a7.ο (a7.one _) K h
 ·cases op<;>first|exact a7.ξ (G:=λr K=>bI.ξ _ λi=>K (.complex .f64 r i)) (λ_=>a7.ξ λ_=>a7.one _) K h|exact Nh K h
 ·exact atL K h
 ·split at h
  ·exact Nh K h
  ·exact h.elim
 ·split at h
  ·exact Nh K h
  ·exact h.elim
 ·split at h
  ·exact Nh K h
  ·exact h.elim
 ·exact h.elim
theorem alT{P:Program}{op:BinOp}{t:TypeId}{MO MQ:Operand}{x y:Value}:a7 (ZS P op t MO MQ x y):=λK⟨b,ω,h⟩=>⟨_,h,λrr eX=>⟨b,ω,eX⟩⟩
theorem awd{op:UnOp}{x:Value}:a7 (QJ op x):=by cases op<;>cases x<;>first|exact a7.no|exact a7.one _
theorem aqF{x:Value}:a7 (Vn x):=by cases x<;>first|exact a7.no|exact a7.ξ λ_=>a7.one _|(rename_i f _ _;cases f<;>first|exact a7.no|exact a7.one _)
theorem adD{c:c3}{t:TypeId}{cs:ah}{off:Nat}:a7 (Pn c t cs off):=a7.ξ λi=>a7.cond (a7.one _) (a7.ξ λ_=>Zy)
theorem ame{c:c3}{t:TypeId}{x:Value}{f:Nat}:a7 (SV c t x f):=
 a7.dZ λcs=>a7.ξ λi=>by generalize i.desc=d;cases d<;>first|exact a7.no|exact a7.ξ λ_=>adD
theorem amb{c:c3}{t:TypeId}{x:Value}{f:Nat}:a7 (SU c t x f):=
 a7.hD λcs=>a7.ξ λa=>a7.ξ λi=>by generalize i.desc=d;cases d<;>first|exact a7.no|exact a7.ξ λ_=>a7.ξ λ_=>a7.ο (a7.one _)
theorem apF{c:c3}{t:TypeId}{x ll:Value}:a7 (OQ c t x ll):=by
 cases ll<;>first
  |exact a7.no
  |(refine a7.ο (a7.ξ λi=>?_)
    generalize i.desc=d
    cases d<;>first
      |exact a7.no
      |exact a7.hD λp=>a7.ξ λa=>a7.ο (a7.ξ λei=>a7.one _)
      |exact a7.df λp n m=>a7.ο (a7.ξ λa=>a7.ξ λei=>a7.one _))
theorem apH{c:c3}{t:TypeId}{x ll:Value}:a7 (OS c t x ll):=by
 cases ll<;>first
  |exact a7.no
  |(refine a7.ο (a7.ξ λi=>?_)
    generalize i.desc=d
    cases d<;>first
      |exact a7.no
      |exact a7.dZ λcs=>a7.ο (a7.ξ λei=>adD)
      |exact a7.lH λs=>a7.ξ λb=>a7.one _)
theorem TY{o:Option Value}{n m:Nat}{G:Nat->(Value->Prop)->Prop}(h:∀v,a7 (G v)):a7 λK=>Ey o n m λv=>G v K:=by
 intro K hk;unfold Ey at hk;split at hk
 ·exact h _ K hk
 ·exact a7.ο (a7.ο (h _)) K hk
 ·exact hk.elim
theorem HS{e6:Option Value}{n:Nat}{G:Nat->(Value->Prop)->Prop}(h:∀v,a7 (G v)):a7 λK=>te e6 n λv=>G v K:=by
 intro K hk;unfold te at hk;split at hk
 ·exact h _ K hk
 ·exact a7.ο (a7.ο (h _)) K hk
 ·exact hk.elim
theorem att{c:c3}{t:TypeId}{x:Value}{e6 o:Option Value}:a7 (Ww c t x e6 o):=
 a7.ξ λi=>by
  generalize i.desc=d;cases d<;>first
   |exact a7.no
   |exact a7.lH λs=>TY λh=>HS λl=>a7.one _
   |exact a7.df λa n m=>a7.ξ λei=>TY λh=>HS λl=>a7.one _
   |exact a7.hD λp=>a7.ξ λa=>a7.ξ λei=>TY λh=>HS λl=>a7.one _
theorem atr{c:c3}{t:TypeId}{x:Value}{e6:Option Value}{o tf:Value}:a7 (Wv c t x e6 o tf):=
 a7.ξ λi=>by
  generalize i.desc=d;cases d<;>first
   |exact a7.no
   |exact a7.df λa n m=>a7.ξ λei=>HS λm=>HS λh=>HS λl=>a7.one _
theorem apY{c:c3}{t:TypeId}{x:Value}:a7 (Va c t x):=
 a7.ξ λi=>by
  generalize i.desc=d;cases d<;>first
   |exact a7.no
   |exact a7.one _
   |exact a7.lH λs=>a7.one _
   |exact a7.df λa n m=>a7.one _
theorem arj{ν:c4}{x:Operand}{K:Value->Prop}(h:eJ ν x K):∃v,(∀rr:Value->Prop,rr v->eJ ν x rr)/\K v:=by
 cases x with
 |tmp t=>
  obtain⟨v,e,h⟩:=du h;exact⟨v,λrr eX=>gK e eX,h⟩
 |const v=>exact⟨v,λrr eX=>eX,h⟩
 |global g=>exact⟨_,λrr eX=>eX,h⟩
 |func f=>exact⟨_,λrr eX=>eX,h⟩
theorem akw{c:c3}{b:Builtin}{gy:Array TypeId}{xs:aU}:a7 (JG c b gy xs):=by
 intro K hk;unfold JG at hk;split at hk<;>try exact hk.elim
 ·split at hk
  ·exact a7.ξ (λ_=>apY) K hk
  ·exact hk.elim
 ·split at hk
  ·exact a7.lG (λ_ _=>a7.one _) K hk
  ·exact hk.elim
 ·split at hk
  ·exact a7.lG (λ_ _=>a7.one _) K hk
  ·exact hk.elim
 ·split at hk
  ·exact a7.xj (λ_=>a7.xj λ_=>a7.one _) K hk
  ·exact hk.elim
 ·split at hk
  ·exact a7.one _ K hk
  ·exact hk.elim
 ·split at hk
  ·exact a7.one _ K hk
  ·exact hk.elim
 ·split at hk
  ·refine a7.ξ (λt=>a7.ξ λi=>?_) K hk;generalize i.desc=d;cases d<;>first|exact a7.no|exact a7.df λ_ _ _=>a7.one _
  ·exact hk.elim
theorem ama{k:IntKind}{b:Nat}:a7 (ZX k b):=a7.ξ λn=>a7.ο (a7.ο (a7.one _))
theorem akY{c:c3}{s d:TypeId}(hm:(match eU c.tb d with|some j=>(match j.desc with| .int _=>false| .float _=>false|_=>true)|none=>true)=false){x:Value}{w:World}{K:Value->Prop}(h:JL c s d x w K):
  ∃v,K v/\∀w',JL c s d x w' λrk=>rk=v:=by
 unfold JL at h⊢;obtain⟨i,o,h⟩:=du h;obtain⟨j,χ,h⟩:=du h;rw[χ]at hm;simp only at hm;split at h
 ·rename_i k ae;split at h
  ·exact⟨_,h,λw'=>gK o (gK χ (by rw[ae]))⟩
  ·obtain⟨v,aL,f⟩:=ama K h;exact⟨v,aL,λw'=>gK o (gK χ (by rw[ae];exact f (λrk=>rk=v) rfl))⟩
  ·exact h.elim
 ·rename_i ae;split at h
  ·exact⟨_,h,λw'=>gK o (gK χ (by rw[ae]))⟩
  ·exact h.elim
 ·rename_i ae;rw[ae]at hm;exact absurd hm (by decide)
 ·exact h.elim
theorem al0{c:c3}{γ:Oper}(hm:E5 c γ=false){ν:c4}{w:World}{K:Value->Prop}(h:uy c γ ν w K):∃v,K v/\∀w',uy c γ ν w' λrk=>rk=v:=by
 unfold uy at h⊢;unfold E5 at hm;have use:∀{F:(Value->Prop)->Prop},a7 F->F K->∃v,K v/\∀_:World,F λrk=>rk=v:=λae bf=>by obtain⟨v,aL,f⟩:=ae K bf;exact⟨v,aL,λ_=>f _ rfl⟩
 generalize γ.op=p at h hm⊢;cases p<;>simp only at hm<;>first
  |exact absurd hm (by decide)
  |exact h.elim
  |exact use (a7.eJ λ_=>a7.one _) h
  |exact use (a7.eJ λ_=>aqF) h
  |exact use (a7.eJ λ_=>awd) h
  |exact use (a7.eJ λ_=>amb) h
  |exact use (a7.eJ λ_=>ame) h
  |exact use (a7.eJ λ_=>a7.eJ λ_=>apF) h
  |exact use (a7.eJ λ_=>a7.eJ λ_=>apH) h
  |exact use (a7.eJ λ_=>a7.eJ λ_=>a7.cond (a7.ξ λ_=>akr) alT) h
  |exact use (a7.eJ λ_=>a7.b6 λ_=>a7.ξ λ_=>a7.ξ λ_=>Zy) h
  |exact use (a7.o6 λ_=>a7.o6 λ_=>a7.one _) h
  |exact use (a7.eJ λ_=>a7.dD λ_=>a7.cond (a7.eJ λ_=>a7.one _) (a7.eJ λ_=>a7.one _)) h
  |skip
 ·obtain⟨x,I,h⟩:=arj h;obtain⟨v,aL,f⟩:=akY hm h;exact⟨v,aL,λw'=>I _ (f w')⟩
 ·rename_i t x e6 o tf;cases tf with
  |none=>exact use (a7.eJ λx=>a7.AO λe6=>a7.AO λo=>att) h
  |some m=>
   cases o with
   |none=>exact h.elim
   |some o=>exact use (a7.eJ λx=>a7.AO λe6=>a7.eJ λo=>a7.eJ λtf=>atr) h
 ·rename_i cl;simp only at h⊢;cases gg:cl.callee with
  |builtin b=>
   rw[gg]at h hm;simp only at h hm⊢;exact use (a7.o6 λxs=>akw) h
  |_=>rw[gg]at h;exact h.elim
end
def vD(c:c3)(ops:List Oper)(γ:Oper)(v:Value)(a:Act)(H:Array Obj):Prop:=yr c ops γ v a H/\(E5 c γ=false->∀GQ,yr c ops γ v a GQ)
theorem vD.same{c:c3}{ops:List Oper}{γ:Oper}{v:Value}{a av:Act}{H:Array Obj}(ψ:H2 γ=true)(h:∀d,d∈γ.looksAt ops.toArray->a.tmps[d]?=av.tmps[d]?)(hw:vD c ops γ v av H):vD c ops γ v a H:=
 ⟨hw.1.same ψ h,λhm GQ=>(hw.2 hm GQ).same ψ h⟩
structure mr(c:c3)(n:Nat)(ops:List Oper)(set sure:List Nat)(ν:c4)(av a:Act)(L:Array Bool)(w:World):Prop where
 rel:Rel n av ν
 Jv:a.defers=[]
 xh:a.tmps.size=n
 xN:L.size=ops.length
 sub:∀i:Nat,L[i]?=some true->i∈set
 ord:Ord ops set
 ch:∀i:Nat,L[i]?=some true->∀γ,ops[i]?=some γ->∀e∈dep γ,L[e]?=some true
 WE:∀i∈sure,L[i]?=some true
 Ot:∀i∈set,L[i]?≠some true->∃γ v,ops[i]?=some γ/\vD c ops γ v av w.heap/\∀d,γ.dst=some d->d<n->av.tmps[d]?=some v
 eqs:∀d,(∀i∈set,L[i]?≠some true->∀γ,ops[i]?=some γ->γ.dst≠some d)->a.tmps[d]?=av.tmps[d]?
 O6:∀i∈set,L[i]?≠some true->Ab ops i=false
theorem Ord.mem{ops:List Oper}:∀{set:List Nat},Ord ops set->∀i∈set,∃γ,ops[i]?=some γ/\∀e∈dep γ,e∈set
 |i::t,⟨⟨γ,aE,ae⟩,aO⟩,j,χ=>by
  rcases fE.1 χ with rfl|χ
  ·exact⟨γ,aE,λe he=>h9 _ (ae e he)⟩
  ·obtain⟨γ,aE,ae⟩:=Ord.mem aO j χ;exact⟨γ,aE,λe he=>h9 _ (ae e he)⟩
theorem aqp{γ:Oper}{e:Edge}(he:e∈γ.after)(ω:Region.binds .any e=true):e.on∈dep γ:=by unfold dep;refine u3.2 ⟨e,by simpa using he,by rw[ω];rfl⟩
theorem alb{γ:Oper}{j:Nat}(h:j∈dep γ):∃e,e∈γ.after/\Region.binds .any e=true/\e.on=j:=by
 obtain⟨e,he,χ⟩:=u3.1 h;cases ω:Region.binds .any e with
 |true=>rw[ω]at χ;exact⟨e,by simpa using he,ω,by simpa using χ⟩
 |false=>rw[ω]at χ;cases χ
theorem PV{ops:List Oper}{L:Array Bool}(an:L.size=ops.length){i:Nat}:
  i∈Region.ready .any ops.toArray L↔L[i]?=some false/\∃γ,ops[i]?=some γ/\∀e∈dep γ,L[e]?=some true:=by
 unfold Region.ready;simp only[mO,nF,fp,kH,Bool.not_eq_true',List.getElem?_toArray];constructor
 ·rintro⟨o,h1,η⟩;have lg:i<L.size:=by omega
  refine⟨?_,?_⟩
  ·rw[Array.getElem?_eq_getElem lg];rw[FJ,Array.getElem?_eq_getElem lg]at h1;simpa using h1
  ·have aE:ops[i]?=some ops[i]:=List.getElem?_eq_getElem o;rw[aE]at η;refine⟨_,aE,λj χ=>?_⟩;obtain⟨e,he,ω,rfl⟩:=alb χ;simp only[jd,PC]at η
   have:=Array.all_eq_true'.1 η e he
   rw[ω]at this;simp only[u1,Bool.false_or,FJ]at this;cases I:L[e.on]?with
   |none=>rw[I]at this;cases this
   |some b=>rw[I]at this;simp at this;rw[this]
 ·rintro⟨h1,γ,aE,ae⟩;have o:i<ops.length:=(List.getElem?_eq_some_iff.1 aE).1;refine⟨o,by rw[FJ,h1];rfl,?_⟩;rw[aE];simp only[jd,PC];refine Array.all_eq_true'.2 λe he=>?_;cases ω:Region.binds .any e with
  |false=>rfl
  |true=>
   have:=ae _ (aqp he ω)
   rw[FJ,this];rfl
theorem LO{ops:List Oper}{set:List Nat}{i:Nat}:x6 ops set i=true↔i∉set/\∃γ,ops[i]?=some γ/\∀e∈dep γ,e∈set:=by
 unfold x6;cases aE:ops[i]?with
 |none=>simp
 |some γ=>simp
section
variable{c:c3}{n:Nat}{ops:List Oper}{set sure:List Nat}{ν:c4}{av a:Act}{L:Array Bool}{w:World}
theorem mr.ahC(g:mr c n ops set sure ν av a L w){i:Nat}(h:i∉set):L[i]?≠some true:=λe=>h (g.sub i e)
theorem mr.akc(g:mr c n ops set sure ν av a L w)(h:Region.ready .any ops.toArray L=[]):∀i∈set,L[i]?=some true:=by
 have key:∀s:List Nat,Ord ops s->∀i∈s,L[i]?=some true:=by
  intro s
  induction s with
  |nil=>intro _ i o;cases o
  |cons j t cq=>
   rintro⟨⟨γ,aE,ae⟩,aO⟩ i o;rcases fE.1 o with rfl|o
   ·have bQ:i<L.size:=by rw[g.xN];exact(List.getElem?_eq_some_iff.1 aE).1
    cases I:L[i]?with
    |none=>rw[Array.getElem?_eq_none_iff]at I;omega
    |some b=>
     cases b with
     |true=>rfl
     |false=>
      have:i∈Region.ready .any ops.toArray L:=(PV g.xN).2 ⟨I,γ,aE,λe he=>cq aO e (ae e he)⟩
      rw[h]at this;cases this
   ·exact cq aO i o
 exact key set g.ord
theorem mr.look(g:mr c n ops set sure ν av a L w)(dq:wu ops=true){i:Nat}{γ:Oper}(aE:ops[i]?=some γ)(ae:∀e∈dep γ,L[e]?=some true):∀d,d∈γ.looksAt ops.toArray->a.tmps[d]?=av.tmps[d]?:=by
 intro d an;refine g.eqs d λj χ mG hq jk rN=>mG ?_;rcases(Fh dq aE).2.1 d an j hq jk rN with h|⟨_,h⟩
 ·exact ae j h
 ·rw[g.O6 j χ mG]at h;cases h
theorem mr.settle(g:mr c n ops set sure ν av a L w)(dq:wu ops=true){i:Nat}(σ:x6 ops set i=true){γ:Oper}(aE:ops[i]?=some γ){v:Value}{fJ:c4}(EI:Rel n (av.put γ.dst v) fJ)(hw:vD c ops γ v av w.heap)(ay:Ab ops i=false):
  mr c n ops (i::set) sure fJ (av.put γ.dst v) a L w:=by
 obtain⟨o,hd,jO,ae⟩:=LO.1 σ;rw[aE]at jO;cases jO;obtain⟨aZ,bP,b7⟩:=Fh dq aE;have mG:L[i]?≠some true:=g.ahC o;refine⟨EI,g.Jv,g.xh,g.xN,λj χ=>h9 _ (g.sub j χ),⟨⟨γ,aE,ae⟩,g.ord⟩,g.ch,g.WE,?_,?_,λj χ hu=>?_⟩
 ·intro j χ hu;rcases fE.1 χ with rfl|χ
  ·refine⟨γ,v,aE,hw.same aZ λd an=>AS λe=>?_,λd rN bQ=>?_⟩
   ·rcases bP d an _ γ aE e with h|⟨h,_⟩<;>exact o (ae _ h)
   ·rw[rN];exact Lt (by rw[g.rel.2.1];exact bQ)
  ·obtain⟨hq,u,jk,UH,OG⟩:=g.Ot j χ hu;obtain⟨aq9,Kx,TK⟩:=g.ord.mem j χ;rw[jk]at Kx;cases Kx;obtain⟨m1,m2,m3⟩:=Fh dq jk;refine⟨hq,u,jk,UH.same m1 λd an=>AS λe=>?_,λd rN bQ=>?_⟩
   ·rcases m2 d an i γ aE e with h|⟨_,h⟩
    ·exact o (TK _ h)
    ·rw[ay]at h;cases h
   ·rw[AS λe=>?_]
    ·exact OG d rN bQ
    ·exact m3 i γ aE (λe=>o (e▸χ)) d rN e
 ·intro d vX;have cc:γ.dst≠some d:=vX i (om ..) mG γ aE;rw[AS cc];exact g.eqs d λj χ hu=>vX j (h9 _ χ) hu
 ·rcases fE.1 χ with rfl|χ
  ·exact ay
  ·exact g.O6 j χ hu
theorem IK{i j:Nat}(h:(L.setIfInBounds i true)[j]?=some true):j=i\/L[j]?=some true:=by
 rw[Array.getElem?_setIfInBounds]at h;by_cases e:i=j
 ·exact .inl e.symm
 ·rw[aN e]at h;exact .inr h
theorem yM{i j:Nat}(h:L[j]?=some true):(L.setIfInBounds i true)[j]?=some true:=by
 rw[Array.getElem?_setIfInBounds];by_cases e:i=j
 ·subst e
  have:i<L.size:=(Array.getElem?_eq_some_iff.1 h).1
  rw[aY rfl,aY this]
 ·rw[aN e];exact h
theorem Ta{i:Nat}(h:i<L.size):(L.setIfInBounds i true)[i]?=some true:=by rw[Array.getElem?_setIfInBounds,aY rfl,aY h]
theorem mr.list(g:mr c n ops set sure ν av a L w)(dq:wu ops=true){i:Nat}{γ:Oper}(aE:ops[i]?=some γ)(o:i∈set)(hu:L[i]?≠some true)(ae:∀e∈dep γ,L[e]?=some true):
  ∃v,yr c ops γ v a w.heap/\mr c n ops set sure ν av (a.put γ.dst v) (L.setIfInBounds i true) w:=by
 obtain⟨hd,v,jO,hw,ψ⟩:=g.Ot i o hu;rw[aE]at jO;cases jO;have bQ:i<L.size:=by rw[g.xN];exact(List.getElem?_eq_some_iff.1 aE).1
 refine⟨v,(hw.same (Fh dq aE).1 (g.look dq aE ae)).1,g.rel,by rw[put_defers];exact g.Jv,by rw[Lu];exact g.xh,by simp[g.xN],?_,g.ord,?_,λj χ=>yM (g.WE j χ),?_,?_,λj χ mG=>g.O6 j χ λe=>mG (yM e)⟩
 ·intro j χ;rcases IK χ with rfl|χ
  ·exact o
  ·exact g.sub j χ
 ·intro j χ hq jk e he;rcases IK χ with rfl|χ
  ·rw[aE]at jk;cases jk;exact yM (ae e he)
  ·exact yM (g.ch j χ hq jk e he)
 ·intro j χ mG;exact g.Ot j χ λe=>mG (yM e)
 ·intro d TJ;by_cases e:γ.dst=some d
  ·rw[e];by_cases ar:d<n
   ·rw[Lt (by rw[g.xh];exact ar),ψ d e ar]
   ·rw[Array.getElem?_eq_none (by rw[Lu,g.xh];exact LG ar),Array.getElem?_eq_none (by rw[g.rel.2.1];exact LG ar)]
  ·rw[AS e];refine g.eqs d λj χ mG hq jk=>?_;by_cases Ez:j=i
   ·subst Ez;rw[aE]at jk;cases jk;exact e
   ·refine TJ j χ (λh=>?_) hq jk;rcases IK h with h|h
    ·exact Ez h
    ·exact mG h
theorem Sb(π:∀i:Nat,L[i]?=some true->∀γ,ops[i]?=some γ->∀e∈dep γ,L[e]?=some true):∀(k:Nat)(todo acc:List Nat),(∀i∈todo,L[i]?=some true)->(∀i∈acc,L[i]?=some true)->∀i∈yD ops k todo acc,L[i]?=some true
 |0,_,acc,_,aP=>aP
 |_+1,[],acc,_,aP=>aP
 |k+1,i::r,acc,aO,aP=>by
  unfold yD;cases acc.contains i with
  |true=>exact Sb π k r acc (λj χ=>aO j (h9 _ χ)) aP
  |false=>
   refine Sb π k _ _ (λj χ=>?_) λj χ=>?_
   ·rcases iI.1 χ with χ|χ
    ·cases aE:ops[i]?with
     |none=>rw[aE]at χ;cases χ
     |some γ=>rw[aE]at χ;exact π i (aO i (om ..)) γ aE j χ
    ·exact aO j (h9 _ χ)
   ·rcases fE.1 χ with rfl|χ
    ·exact aO _ (om ..)
    ·exact aP j χ
theorem mr.step(g:mr c n ops set sure ν av a L w)(dq:wu ops=true){i:Nat}(σ:x6 ops set i=true){γ:Oper}(aE:ops[i]?=some γ)(ae:∀e∈dep γ,L[e]?=some true){v:Value}{fJ:c4}{w':World}(EI:Rel n (av.put γ.dst v) fJ)
  (KD:∀j∈set,j∉yD ops 200 (dep γ) sure->∀hq,ops[j]?=some hq->∀u,vD c ops hq u av w.heap->(∀d,hq.dst=some d->d<n->av.tmps[d]?=some u)->vD c ops hq u av w'.heap):
  mr c n ops (i::set) (i::yD ops 200 (dep γ) sure) fJ (av.put γ.dst v) (a.put γ.dst v) (L.setIfInBounds i true) w':=by
 obtain⟨o,hd,jO,anQ⟩:=LO.1 σ;rw[aE]at jO;cases jO;obtain⟨aZ,bP,b7⟩:=Fh dq aE;have bQ:i<L.size:=by rw[g.xN];exact(List.getElem?_eq_some_iff.1 aE).1
 have gg:=Sb g.ch 200 (dep γ) sure ae g.WE;refine⟨EI,by rw[put_defers];exact g.Jv,by rw[Lu];exact g.xh,by simp[g.xN],?_,⟨⟨γ,aE,anQ⟩,g.ord⟩,?_,?_,?_,?_,λj χ mG=>?_⟩
 ·intro j χ;rcases IK χ with rfl|χ
  ·exact om ..
  ·exact h9 _ (g.sub j χ)
 ·intro j χ hq jk e he;rcases IK χ with rfl|χ
  ·rw[aE]at jk;cases jk;exact yM (ae e he)
  ·exact yM (g.ch j χ hq jk e he)
 ·intro j χ;rcases fE.1 χ with rfl|χ
  ·exact Ta bQ
  ·exact yM (gg j χ)
 ·intro j χ mG;have hJ:j≠i:=λe=>mG (by rw[e];exact Ta bQ);have χ:j∈set:=by
   rcases fE.1 χ with h|h
   ·exact(hJ h).elim
   ·exact h
  have Uz:L[j]?≠some true:=λe=>mG (yM e);obtain⟨hq,u,jk,UH,OG⟩:=g.Ot j χ Uz;obtain⟨aq9,Kx,TK⟩:=g.ord.mem j χ;rw[jk]at Kx;cases Kx;obtain⟨m1,m2,m3⟩:=Fh dq jk;have pA:j∉yD ops 200 (dep γ) sure:=λh=>Uz (gg j h);refine⟨hq,u,jk,(KD j χ pA hq jk u UH OG).same m1 λd an=>AS λe=>?_,λd rN bQ=>?_⟩
  ·rcases m2 d an i γ aE e with h|⟨h,_⟩
   ·exact o (TK _ h)
   ·exact Uz (ae _ h)
  ·rw[AS λe=>?_]
   ·exact OG d rN bQ
   ·exact m3 i γ aE hJ d rN e
 ·intro d TJ;by_cases e:γ.dst=some d
  ·rw[e];by_cases ar:d<n
   ·rw[Lt (by rw[g.xh];exact ar),Lt (by rw[g.rel.2.1];exact ar)]
   ·rw[Array.getElem?_eq_none (by rw[Lu,g.xh];exact LG ar),Array.getElem?_eq_none (by rw[Lu,g.rel.2.1];exact LG ar)]
  ·rw[AS e,AS e];refine g.eqs d λj χ mG hq jk=>?_;have hJ:j≠i:=λe=>o (e▸χ);refine TJ j (h9 _ χ) (λh=>?_) hq jk;rcases IK h with h|h
   ·exact hJ h
   ·exact mG h
 ·have hJ:j≠i:=λe=>mG (by rw[e];exact Ta bQ);rcases fE.1 χ with h|h
  ·exact(hJ h).elim
  ·exact g.O6 j h λe=>mG (yM e)
end
theorem count_set{L:Array Bool}{i:Nat}(h:L[i]?=some false):(L.setIfInBounds i true).toList.count false+1=L.toList.count false:=by
 have bQ:i<L.toList.length:=by simpa using(Array.getElem?_eq_some_iff.1 h).1
 rw[Array.toList_setIfInBounds,List.count_set bQ];have e:L.toList[i]=false:=by
  have:=(Array.getElem?_eq_some_iff.1 h).2
  simpa using this
 have hm:false∈L.toList:=by rw[<-e];exact hN _
 have:=List.count_pos_iff.2 hm
 rw[e,show(if(false==false)=true then 1 else 0)=1 from rfl,show(if(true==false)=true then 1 else 0)=0 from rfl];omega
theorem ak3{L:Array Bool}(h:L.toList.count false=0){i:Nat}:L[i]?≠some false:=by
 intro o;have bQ:=(Array.getElem?_eq_some_iff.1 o)
 have:false∈L.toList:=by rw[<-bQ.2,<-Ir];exact hN _
 exact(List.count_eq_zero.1 h) this
theorem acI{c:c3}{ops:List Oper}{set:List Nat}{i:Nat}(h:Vm c ops set=some i):x6 ops set i=true:=by
 have:=List.find?_some h
 simp only[kH]at this;exact this.2
theorem O3{c:c3}{ops:List Oper}{set:List Nat}{i:Nat}(h:Vm c ops set=some i):Ab ops i=false:=by
 have:=List.find?_some h
 simp only[kH]at this;exact asv this.1
theorem acx{ops:List Oper}{set:List Nat}{i:Nat}:i∈K5 ops set↔x6 ops set i=true:=by unfold K5;rw[mO,nF];refine⟨λh=>h.2,λh=>⟨?_,h⟩⟩;obtain⟨_,γ,aE,_⟩:=LO.1 h;exact(List.getElem?_eq_some_iff.1 aE).1
theorem YC{F:a1}:∀{l:List Nat},Bx F l->∀i∈l,F i
 |[j],h,i,o=>by
  have:i=j:=by simpa using o
  subst this;exact h
 |j::k::r,h,i,o=>by
  rcases fE.1 o with rfl|o
  ·exact h.1
  ·exact YC (l:=k::r) h.2 i o
theorem asE{c:c3}(π:ht c){n:Nat}{ops:List Oper}{γ:Oper}{ν:c4}{av:Act}(σ:Rel n av ν){H:Array Obj}{w':World}{K:Prop}(hm:E5 c γ=true)(h:Wa c ops γ ν w' K):
  K/\∀u,vD c ops γ u av H->(∀d,γ.dst=some d->d<n->av.tmps[d]?=some u)->vD c ops γ u av w'.heap:=by
 have O4:∀{u}{GQ:Array Obj},yr c ops γ u av GQ->vD c ops γ u av GQ:=λhw=>⟨hw,λbf=>by rw[hm]at bf;cases bf⟩;unfold Wa at h;rcases D8 σ h with⟨hw,fJ,eP,h⟩|⟨hw,fJ,eP,h⟩
 ·have get:∀{d:Nat}{v:Value},γ.dst=some d->fJ.get d=some v->∀u,(∀d,γ.dst=some d->d<n->av.tmps[d]?=some u)->v=u:=by
   intro d v ae aL u hu;have h1:=eP.2.2 d v aL;have bQ:d<n:=by rw[<-eP.2.1];exact(Array.getElem?_eq_some_iff.1 h1).1
   have η:=hu d ae bQ;rw[h1]at η;exact Cz η
  split at h
  ·rename_i t x yY;have h:=gL eP h;obtain⟨p,hp,h⟩:=uu h;cases p with
   |none=>exact h.elim
   |some a=>
   change ξ (eU c.tb t) _ at h;obtain⟨i,o,h⟩:=du h;obtain⟨d,ae,h⟩:=du h;obtain⟨v,aL,h⟩:=du h;have pB:=π.fs o;cases aP:Ae i.desc with
   |true=>
    rw[aP]at h;obtain⟨cs,rfl,h⟩:=yF h;obtain⟨ψ,h1,jW⟩:=h5 h;refine⟨jW,λu _ hu=>O4 (.inl ⟨hw,?_⟩)⟩;obtain rfl:=get ae aL u hu
    have:=aas π pB aP (cd ψ) h1
    unfold Yields execOp;simp only[yY,hp];exact od this
   |false=>
    rw[aP]at h;refine⟨h.2,λu _ hu=>O4 (.inl ⟨hw,?_⟩)⟩;obtain rfl:=get ae aL u hu
    have:=N2 π pB aP h.1
    unfold Yields execOp;simp only[yY,hp];exact od this
  ·obtain⟨d,ae,h⟩:=du h;obtain⟨v,aL,h⟩:=du h;obtain⟨rk,ag,rfl,jW⟩:=JT π eP h;refine⟨jW,λu _ hu=>O4 (.inl ⟨hw,?_⟩)⟩;obtain rfl:=get ae aL u hu;exact ag
 ·refine⟨h,λu hu _=>O4 (.inr ⟨hw,?_⟩)⟩;rcases hu.1 with⟨h1,_⟩|⟨_,η⟩
  ·rw[hw]at h1;cases h1
  ·exact η
theorem Wc{c:c3}(π:ht c){n:Nat}{ops:List Oper}{ν:c4}{av:Act}(σ:Rel n av ν){H:Array Obj}{w':World}:∀{l:List Nat}{K:Prop},recheck c ops ν w' l K->
  K/\∀j∈l,∀γ,ops[j]?=some γ->∀u,vD c ops γ u av H->(∀d,γ.dst=some d->d<n->av.tmps[d]?=some u)->vD c ops γ u av w'.heap
 |[],K,h=>⟨h,λj χ=>by cases χ⟩
 |i::r,K,h=>by
  obtain⟨γ,aE,h⟩:=du h;cases hm:E5 c γ with
  |true=>
   rw[hm]at h;obtain⟨η,h1⟩:=asE π σ (H:=H) hm h;obtain⟨jW,au⟩:=Wc π σ (H:=H) η;refine⟨jW,λj χ hq jk=>?_⟩;rcases fE.1 χ with rfl|χ
   ·rw[aE]at jk;cases jk;exact h1
   ·exact au j χ hq jk
  |false=>
   rw[hm]at h;obtain⟨jW,au⟩:=Wc π σ (H:=H) h;refine⟨jW,λj χ hq jk=>?_⟩;rcases fE.1 χ with rfl|χ
   ·rw[aE]at jk;cases jk
    exactλu hu _=>⟨hu.2 hm _,hu.2⟩
   ·exact au j χ hq jk
section
variable{c:c3}{n:Nat}{ops:List Oper}{set sure:List Nat}{ν:c4}{av a:Act}{L:Array Bool}{w:World}{Q:c4->ai}{X:List PanicEntry->ai}
theorem aez(π:ht c)(dq:wu ops=true)(g:mr c n ops set sure ν av a L w){i:Nat}(ay:Ab ops i=false)(σ:x6 ops set i=true){γ:Oper}(aE:ops[i]?=some γ)(hw:Region.wanted γ (yielded ops.toArray av.tmps)=true){fJ:c4}(eP:Rel n av fJ){k:Nat}
  (h:uy c γ fJ w λv=>tm n γ.dst v fJ λν=>sW c n ops Q X k (i::set) sure ν w):∃im v,mr c n ops (i::set) sure im (av.put γ.dst v) a L w/\sW c n ops Q X k (i::set) sure im w:=by
 cases hm:E5 c γ with
 |true=>
  obtain⟨v,ag,h⟩:=JT π eP h;obtain⟨im,iU,η⟩:=wB eP h;exact⟨im,v,g.settle dq σ aE iU ⟨.inl ⟨hw,ag⟩,λbf=>by rw[hm]at bf;cases bf⟩ ay,η⟩
 |false=>
  obtain⟨v,h,f⟩:=al0 hm h;obtain⟨im,iU,η⟩:=wB eP h;have all:∀H,Yields c γ av H v:=λH=>by obtain⟨rk,ag,rfl⟩:=JT π eP (f {w with heap:=H});exact ag
  exact⟨im,v,g.settle dq σ aE iU ⟨.inl ⟨hw,all _⟩,λ_ H=>.inl ⟨hw,all H⟩⟩ ay,η⟩
theorem aey(dq:wu ops=true)(g:mr c n ops set sure ν av a L w){i:Nat}(ay:Ab ops i=false)(σ:x6 ops set i=true){γ:Oper}(aE:ops[i]?=some γ)(hw:Region.wanted γ (yielded ops.toArray av.tmps)=false){fJ:c4}(eP:Rel n av fJ){k:Nat}
  (h:tm n γ.dst undef fJ λν=>sW c n ops Q X k (i::set) sure ν w):∃im,mr c n ops (i::set) sure im (av.put γ.dst undef) a L w/\sW c n ops Q X k (i::set) sure im w:=by
 obtain⟨im,iU,η⟩:=wB eP h;exact⟨im,g.settle dq σ aE iU ⟨.inr ⟨hw,rfl⟩,λ_ H=>.inr ⟨hw,rfl⟩⟩ ay,η⟩
theorem last{Q':Exit->Act->ai}(dV:∀a ν w,Rel n a ν->Q ν w->Q' .normal a w)(dq:wu ops=true)(g:mr c n ops set sure ν av a L w)(EH:Region.ready .any ops.toArray L=[]){F:List Nat->Prop}
  (h:match K5 ops set with|[]=>Q ν w|es=>F es):Q' .normal a w:=by
 have dM:=g.akc EH;have amT:K5 ops set=[]:=by
  refine V5.2 λi o=>?_;obtain⟨xC,γ,aE,ae⟩:=LO.1 (acx.1 o);have bQ:i<L.size:=by rw[g.xN];exact(List.getElem?_eq_some_iff.1 aE).1
  have Oa:L[i]?=some false:=by
   cases I:L[i]?with
   |none=>rw[Array.getElem?_eq_none_iff]at I;omega
   |some b=>
    cases b with
    |true=>exact(g.ahC xC I).elim
    |false=>rfl
  have:i∈Region.ready .any ops.toArray L:=(PV g.xN).2 ⟨Oa,γ,aE,λe he=>dM e (ae e he)⟩
  rw[EH]at this;cases this
 rw[amT]at h;refine dV a ν w ⟨g.Jv,g.xh,λd v aL=>?_⟩ h;rw[g.eqs d λi o hu=>(hu (dM i o)).elim];exact g.rel.2.2 d v aL
end
theorem ZT{c:c3}(π:ht c){n:Nat}{ops:List Oper}(dq:wu ops=true){Q:c4->ai}{X:List PanicEntry->ai}{Q':Exit->Act->ai}
  (dV:∀a ν w,Rel n a ν->Q ν w->Q' .normal a w)(eE:∀a cX w,Rel n a []->X cX w->Q' (.panic cX) a w):
  ∀(fuel k:Nat)(set sure:List Nat)(ν:c4)(av a:Act)(L:Array Bool)(w:World),mr c n ops set sure ν av a L w->L.toList.count false<=fuel->sW c n ops Q X k set sure ν w->wpAny c.P .any ops.toArray Q' fuel L a w:=by
 intro fuel
 induction fuel with
 |zero=>
  intro k
  induction k with
  |zero=>exactλ_ _ _ _ _ _ _ _ _ h=>h.elim
  |succ k cq=>
   intro set sure ν av a L w g Hq h;unfold sW at h;split at h
   ·rename_i i o;obtain⟨γ,aE,h⟩:=du h;have σ:=acI o;rcases D8 g.rel h with⟨hw,fJ,eP,h⟩|⟨hw,fJ,eP,h⟩
    ·exact(aez π dq g (O3 o) σ aE hw eP h).elim λim⟨v,g2,η⟩=>cq _ _ _ _ _ _ _ g2 Hq η
    ·exact(aey dq g (O3 o) σ aE hw eP h).elim λim⟨g2,η⟩=>cq _ _ _ _ _ _ _ g2 Hq η
   ·have EH:Region.ready .any ops.toArray L=[]:=by
     refine V5.2 λi o=>?_;exact ak3 (Nat.le_zero.1 Hq) ((PV g.xN).1 o).1
    exact⟨EH,last dV dq g EH h⟩
 |succ fuel UQ=>
  intro k
  induction k with
  |zero=>exactλ_ _ _ _ _ _ _ _ _ h=>h.elim
  |succ k cq=>
   intro set sure ν av a L w g Hq h;have aF:=h;unfold sW at h;split at h
   ·rename_i i o;obtain⟨γ,aE,h⟩:=du h;have σ:=acI o;rcases D8 g.rel h with⟨hw,fJ,eP,h⟩|⟨hw,fJ,eP,h⟩
    ·exact(aez π dq g (O3 o) σ aE hw eP h).elim λim⟨v,g2,η⟩=>cq _ _ _ _ _ _ _ g2 Hq η
    ·exact(aey dq g (O3 o) σ aE hw eP h).elim λim⟨g2,η⟩=>cq _ _ _ _ _ _ _ g2 Hq η
   ·refine⟨λEH=>last dV dq g EH h,λi o=>?_⟩;obtain⟨Oa,γ,aE,ae⟩:=(PV g.xN).1 o;have mG:L[i]?≠some true:=by rw[Oa];simp
    have B0:=count_set Oa;by_cases xC:i∈set
    ·obtain⟨v,hw,g2⟩:=g.list dq aE xC mG ae;exact hw.wpOp aE (UQ _ _ _ _ _ _ _ _ g2 (by omega) aF)
    ·have σ:x6 ops set i=true:=LO.2 ⟨xC,γ,aE,λe he=>g.sub e (ae e he)⟩;have jy:=acx.2 σ;split at h
     ·rename_i B7;rw[B7]at jy;cases jy
     ·have h:=YC h i jy;obtain⟨hd,jO,h⟩:=du h;rw[aE]at jO;cases jO;have abp:=g.look dq aE ae;unfold Go.wpOp;have lj:ops.toArray[i]?=some γ:=by simpa using aE
      simp only[lj];rw[ah5 abp];rcases D8 g.rel h with⟨hw,fJ,eP,h⟩|⟨hw,fJ,eP,h⟩
      ·rw[aY hw];refine .inl (awB (av:=av) (X:=X) (ZW (Fh dq aE).1 abp) (by rw[g.xh,g.rel.2.1]) (λcX w' I=>eE a cX w' ⟨g.Jv,g.xh,λd v h=>by cases h⟩ I) ?_);refine JS π eP (λv w' hp=>?_) (λcX w' I=>⟨cX,rfl,I⟩) h;rw[put_defers,adT (by rw[g.xh,g.rel.2.1])];refine⟨rfl,?_⟩;obtain⟨hp,KD⟩:=Wc π eP (H:=w.heap) hp;obtain⟨im,iU,η⟩:=wB eP hp;have xq:mr c n ops set sure fJ av a L w:={g with rel:=eP};refine UQ _ _ _ _ _ _ _ _ (xq.step dq σ aE ae iU (w':=w') λj χ pA hq jk u hu ψ=>KD j (mO.2 ⟨χ,by simpa using pA⟩) hq jk u hu ψ) (by omega) η
      ·rw[aN (by simp[hw])];obtain⟨im,iU,η⟩:=wB eP h;have xq:mr c n ops set sure fJ av a L w:={g with rel:=eP};exact UQ _ _ _ _ _ _ _ _ (xq.step dq σ aE ae iU (w':=w) λj χ pA hq jk u hu ψ=>hu) (by omega) η
inductive jU where
 |leaf
 |seq (a b:jU)
 |cut (b8:List (Nat×cQ)) (K:hb Prop b8) (a b:jU)
 |cond (a b:jU)
 |block (a:jU)
 |loop (b8:List (Nat×cQ)) (K:hb Prop b8) (body:hb Prop b8->jU)
def jU.left:jU->jU
 | .seq a _=>a
 | .cut _ _ a _=>a
 | .cond a _=>a
 | .block a=>a
 |_=>.leaf
def jU.right:jU->jU
 | .seq _ b=>b
 | .cut _ _ _ b=>b
 | .cond _ b=>b
 |_=>.leaf
abbrev jH:=Exit->c4->ai
def iD(next:c4->ai)(Q:jH):jH
 | .normal,ν,w=>next ν w
 |e,ν,w=>Q e ν w
def s8(id:Nat)(Q:jH):jH
 | .exit y5,ν,w=>cond (Nat.beq y5 id) (Q .normal ν w) (Q (.exit y5) ν w)
 |e,ν,w=>Q e ν w
def HZ(Q:jH):jH
 | .goto _,_,_=>False
 |e,ν,w=>Q e ν w
def II(s:jU)(y:c4->ai):c4->ai:=
 match s with
 | .cut b8 K _ _=>gC b8 K
 |_=>y
def nv(c:c3)(n:Nat):Code->jU->jH->c4->ai
 | .skip,_,Q,ν,w=>Q .normal ν w
 | .ret,_,Q,ν,w=>Q .ret ν w
 | .exit id,_,Q,ν,w=>Q (.exit id) ν w
 | .region _ ops D2,_,Q,ν,w=>cond D2
  (cond (Region.lexB .any ops&&ops.toList.all (Lx c)) (Hd c n ops.toList (λν=>∀k,Q .normal ν (w.drewN k)) w ops.toList ν)
   (ο (wu ops.toList) (sW c n ops.toList (Q .normal) (λcX w=>Q (.panic cX) [] w) (ops.toList.length+1) [] [] ν w.drew)))
  (NQ c n ops.toList (Q .normal) (λν cX w=>Q (.panic cX) ν w) ops.toList ν w)
 | .seq x y,s,Q,ν,w=>nv c n x s.left (iD (II s (nv c n y s.right Q)) Q) ν w
 | .cond p x y,s,Q,ν,w=>eJ ν p λv=>dD v λb=>cond b (nv c n x s.left Q ν w) (nv c n y s.right Q ν w)
 | .block id x,s,Q,ν,w=>nv c n x s.left (s8 id Q) ν w
 | .scope x,s,Q,ν,w=>nv c n x s.left (HZ Q) ν w
 | .label _,_,Q,ν,w=>Q .normal ν w
 | .loop x,.loop b8 K _,Q,ν,w=>gC b8 K ν w
 |_,_,_,_,_=>False
def wq(c:c3)(n:Nat):Code->jU->jH->Prop
 | .seq x y,.cut b8 K vb qA,Q=>wq c n x vb (iD (gC b8 K) Q)/\lz b8 K (nv c n y qA Q) []/\wq c n y qA Q
 | .seq x y,s,Q=>wq c n x s.left (iD (II s (nv c n y s.right Q)) Q)/\wq c n y s.right Q
 | .cond _ x y,s,Q=>wq c n x s.left Q/\wq c n y s.right Q
 | .block id x,s,Q=>wq c n x s.left (s8 id Q)
 | .scope x,s,Q=>wq c n x s.left (HZ Q)
 | .loop x,.loop b8 K body,Q=>
  lz b8 K (λν w=>∃(bw:hb Prop b8)(m:hb Nat b8),gC b8 bw ν w/\ou b8 bw m (λk ν w=>nv c n x (body (mj b8 bw m k)) (iD (gC b8 (mj b8 bw m k)) Q) ν w) []) []/\
   ∀C:hb Prop b8,wq c n x (body C) (iD (gC b8 C) Q)
 |_,_,_=>True
def yu(a:Act):c4:=(List.range a.tmps.size).filterMap λi=>(a.tmps[i]?).map λv=>(i,v)
theorem get_filterMap(f:Nat->Option Value):∀(l:List Nat)(d:Nat),c4.get (l.filterMap λi=>(f i).map λv=>(i,v)) d=if d∈l then f d else none
 |[],d=>by simp[c4.get]
 |i::l,d=>by
  have cq:=get_filterMap f l d;simp only[List.filterMap_cons];cases bf:f i with
  |none=>
   simp only[Option.map_none];rw[cq];by_cases e:d=i
   ·subst e;simp[bf]
   ·simp[e]
  |some v=>
   simp only[jd];rw[Hh,cq];by_cases e:i=d
   ·subst e;simp[bf]
   ·have:d≠i:=λh=>e h.symm
    simp[e,this]
theorem N0(a:Act)(d:Nat):(yu a).get d=a.tmps[d]?:=by
 unfold yu;rw[get_filterMap];by_cases h:d<a.tmps.size
 ·simp[h]
 ·simp[h]
theorem asH{n:Nat}{a:Act}(ae:a.defers=[])(ar:a.tmps.size=n):Rel n a (yu a):=⟨ae,ar,λd v h=>by rw[<-N0];exact h⟩
theorem Rel.nil{n:Nat}{a:Act}{ν:c4}(h:Rel n a ν):Rel n a []:=⟨h.1,h.2.1,λd v h=>by simp[c4.get]at h⟩
def Holds(n:Nat)(Q:jH)(Q':Exit->Act->ai):Prop:=∀e a ν w,Rel n a ν->Q e ν w->Q' e a w
theorem Holds.iD{n:Nat}{Q:jH}{Q':Exit->Act->ai}(h:Holds n Q Q'){N:c4->ai}{Bq:Act->ai}(eB:∀a ν w,Rel n a ν->N ν w->Bq a w):Holds n (bI.iD N Q) (Exit.then Bq Q'):=by intro e a ν w σ ay;cases e<;>first|exact eB _ _ _ σ ay|exact h _ _ _ _ σ ay
theorem Holds.s8{n:Nat}{Q:jH}{Q':Exit->Act->ai}(h:Holds n Q Q')(id:Nat):Holds n (bI.s8 id Q) (Exit.inBlock id Q'):=by
 intro e a ν w σ ay;cases e with
 |exit y5=>
  simp only[bI.s8]at ay;simp only[Exit.inBlock];by_cases e:y5=id
  ·subst e;simp only[Cx,sa]at ay;rw[aY rfl];exact h _ _ _ _ σ ay
  ·have:Nat.beq y5 id=false:=by
    cases ω:Nat.beq y5 id with
    |false=>rfl
    |true=>exact(e (x3 ω)).elim
   rw[this]at ay;rw[aN e];exact h _ _ _ _ σ ay
 |_=>exact h _ _ _ _ σ ay
theorem Holds.HZ{n:Nat}{Q:jH}{Q':Exit->Act->ai}(h:Holds n Q Q'):Holds n (bI.HZ Q) (Exit.noGoto Q'):=by intro e a ν w σ ay;cases e<;>first|exact ay.elim|exact h _ _ _ _ σ ay
theorem NP{c:c3}(π:ht c){n:Nat}:∀(x:Code)(s:jU)(Q:jH)(Q':Exit->Act->ai)(a:Act)(ν:c4)(w:World),
  wq c n x s Q->Holds n Q Q'->Rel n a ν->nv c n x s Q ν w->x.wp c.P Q' a w:=by
 intro x
 induction x with
 |skip=>exactλs Q Q' a ν w _ dV σ h=>wp_skip (dV _ _ _ _ σ h)
 |ret=>exactλs Q Q' a ν w _ dV σ h=>wp_ret (dV _ _ _ _ σ h)
 |exit id=>exactλs Q Q' a ν w _ dV σ h=>wp_exit (dV _ _ _ _ σ h)
 |label l=>exactλs Q Q' a ν w _ dV σ h=>wp_label (dV _ _ _ _ σ h)
 |goto l=>exactλs Q Q' a ν w _ dV σ h=>h.elim
 |refuse m=>exactλs Q Q' a ν w _ dV σ h=>h.elim
 |rangeFunc f ps rA rF=>exactλs Q Q' a ν w _ dV σ h=>h.elim
 |region id ops D2=>
  intro s Q Q' a ν w _ dV σ h;cases D2 with
  |false=>
   refine wp_region_list ?_
   have:=SP π (ops:=ops.toList) (Q:=Q .normal) (X:=λν cX w=>Q (.panic cX) ν w) (Q':=Q') (λa ν w σ h=>dV _ _ _ _ σ h) (λa ν cX w σ h=>dV _ _ _ _ σ h) ops.toList a ν w σ h
   simpa using this
  |true=>
   cases dR:Region.lexB .any ops&&ops.toList.all (Lx c)with
   |false=>
    have h:cond (Region.lexB .any ops&&ops.toList.all (Lx c)) _ (ο (wu ops.toList) (sW c n ops.toList (Q .normal) (λcX w=>Q (.panic cX) [] w) (ops.toList.length+1) [] [] ν w.drew)):=h;rw[dR]at h;obtain⟨dq,h⟩:=h5 h;refine wp_region_any π.mixed ?_;refine ZT π dq (Q:=Q .normal) (X:=λcX w=>Q (.panic cX) [] w) (Q':=Q') (λa ν w σ h=>dV _ _ _ _ σ h) (λa cX w σ h=>dV _ _ _ _ σ h) ops.size _ [] [] ν a a (Array.replicate ops.size false) _ ?_ ?_ h
    ·refine⟨σ,σ.1,σ.2.1,by simp,?_,trivial,?_,?_,?_,λd _=>rfl,λi o=>(by cases o)⟩
     ·intro i o;rw[Array.getElem?_replicate]at o;split at o<;>simp at o
     ·intro i o;rw[Array.getElem?_replicate]at o;split at o<;>simp at o
     ·intro i o;cases o
     ·intro i o;cases o
    ·simp
   |true=>
   have h:cond (Region.lexB .any ops&&ops.toList.all (Lx c)) (Hd c n ops.toList (λν=>∀k,Q .normal ν (w.drewN k)) w ops.toList ν) _:=h;rw[dR]at h;have dR:Region.lexB .any ops=true:=(Iq.1 dR).1;have h:Hd c n ops.toList (λν=>∀k,Q .normal ν (w.drewN k)) w ops.toList ν:=h
   have:=SQ π (ops:=ops.toList) (Q:=λν=>∀k,Q .normal ν (w.drewN k)) (w:=w) (Q':=λfz=>∀w',(∃n,w'=w.drewN n)->Q' .normal fz w') (λa ν σ h w'⟨k,hk⟩=>by subst hk;exact dV _ _ _ _ σ (h k)) ops.toList a ν σ h
   have η:=wp_region_quiet_lit (id:=id) (Q:=Q') (a:=a) (w:=w) (l:=ops.toList) π.mixed (by simpa using dR) this;simpa using η
 |seq x y mJ mK=>
  intro s Q Q' a ν w aE dV σ h;refine wp_seq ?_;cases s with
  |cut b8 K vb qA=>
   obtain⟨l3,lj,v8⟩:=aE;refine mJ vb (iD (gC b8 K) Q) _ a ν w l3 (dV.iD λfz fJ w' eP hk=>?_) σ h;obtain⟨im,iU,η⟩:=ov eP eP.nil lj hk;exact mK qA Q Q' fz im w' v8 dV iU η
  |_=>
   obtain⟨l3,lj⟩:=aE;exact mJ _ _ _ a ν w l3 (dV.iD λfz fJ w' eP hk=>mK _ Q Q' fz fJ w' lj dV eP hk) σ h
 |cond p x y mJ mK=>
  intro s Q Q' a ν w aE dV σ h;obtain⟨b,ω,h⟩:=BL (gL σ h);refine wp_cond ω ?_;cases b with
  |true=>exact mJ s.left Q Q' a ν w aE.1 dV σ h
  |false=>exact mK s.right Q Q' a ν w aE.2 dV σ h
 |block id x cq=>
  intro s Q Q' a ν w aE dV σ h;exact wp_block (cq s.left _ _ a ν w aE (dV.s8 id) σ h)
 |scope x cq=>
  intro s Q Q' a ν w aE dV σ h;exact wp_scope_straight (cq s.left _ _ a ν w aE dV.HZ σ h)
 |loop x cq=>
  intro s Q Q' a ν w aE dV σ h;cases s with
  |loop b8 K body=>
   obtain⟨l3,lj⟩:=aE;obtain⟨adp,uJ,bw,m,gp,y1⟩:=ov σ σ.nil l3 h;have Ks:∀{a:Act}{ν:c4},Rel n a ν->∀d v,ν.get d=some v->(yu a).get d=some v:=λσ d v h=>by rw[N0];exact σ.2.2 d v h
   refine wp_loop (λa w=>a.defers=[]/\a.tmps.size=n/\gC b8 bw (yu a) w) (λa w=>ml b8 m (yu a) w) ⟨uJ.1,uJ.2.1,(pk (Ks uJ) gp).1⟩ ?_;rintro fz w' ⟨ae,ar,J5⟩;have HD:=asH ae ar;obtain⟨im,iU,η⟩:=qC HD HD.nil y1 J5;refine cq _ _ _ fz im w' (lj _) (dV.iD λa3 ars aa EG au=>?_) iU η;obtain⟨bV,c9⟩:=qD au;obtain⟨iv,h7⟩:=pk (Ks EG) bV;exact⟨⟨EG.1,EG.2.1,iv⟩,by rw[<-h7 m];exact c9⟩
  |_=>exact h.elim
def aec(c:c3)(r:ResultVar)(ν:c4)(w:World)(K:Value->Prop):Prop:=
 match r with
 | .tmp t=>ξ (ν.get t) K
 | .cell a t=>ξ (ν.get a) λp=>U9 c t p w K
def LQ(c:c3):List ResultVar->c4->World->(aU->Prop)->Prop
 |[],_,_,K=>K []
 |r::l,ν,w,K=>aec c r ν w λv=>LQ c l ν w λvs=>K (v::vs)
def PY:aU->Value
 |[v]=>v
 |vs=>.tuple vs.toArray
def fin(c:c3)(rs:List ResultVar)(R:ak):jH
 | .ret,ν,w=>LQ c rs ν w λvs=>R (.returned (PY vs)) w
 | .normal,ν,w=>LQ c rs ν w λvs=>R (.returned (PY vs)) w
 | .panic cX,ν,w=>R (.panicked cX) w
 |_,_,_=>False
def IB(tmps:ah)(r:ResultVar):Sem Value:=
 match r with
 | .tmp t=>pure (tmps.getD t undef)
 | .cell a t=>do loadVar t (<-asAddr (tmps.getD a undef))
theorem asM{c:c3}(π:ht c){n:Nat}{a:Act}{ν:c4}(σ:Rel n a ν){r:ResultVar}{w:World}{K:Value->Prop}(h:aec c r ν w K):
  ∃v,(IB a.tmps r).run c.P w=.ok v w/\K v:=by
 cases r with
 |tmp t=>
  obtain⟨v,aL,h⟩:=du h
  have:=σ.2.2 t v aL
  exact⟨v,by simp[IB,this],h⟩
 |cell p t=>
  obtain⟨q,ay,h⟩:=du h;have hp:=σ.2.2 p q ay;obtain⟨v,aL,h⟩:=ace π h;refine⟨v,?_,h⟩;have η:=aL w rfl;have bL:a.tmps.getD p undef=q:=by simp[hp]
  simp only[IB];rw[bL];cases q with
  |pointer γ=>
   cases γ with
   |some b=>
    unfold Instr.loadAt at η;simpa[asAddr,Instr.sureAddr]using η
   |none=>simp[Instr.loadAt,Instr.sureAddr,stuck]at η
  |_=>simp[Instr.loadAt,Instr.sureAddr,stuck]at η
theorem PX{c:c3}(π:ht c){n:Nat}{a:Act}{ν:c4}(σ:Rel n a ν){w:World}:∀{rs:List ResultVar}{K:aU->Prop},LQ c rs ν w K->
  ∃vs,(rs.mapM (IB a.tmps)).run c.P w=.ok vs w/\K vs
 |[],K,h=>⟨[],by simp,h⟩
 |r::l,K,h=>by obtain⟨v,aL,h⟩:=asM π σ h;obtain⟨vs,l7,h⟩:=PX π σ (rs:=l) h;refine⟨v::vs,?_,h⟩;rw[List.mapM_cons,Sem.run_bind,aL,Result.andThen_ok,Sem.run_bind,l7];rfl
theorem Wf{c:c3}{fn:Func}{tmps:ah}{w:World}{vs:aU}
  (h:(fn.results.toList.mapM (IB tmps)).run c.P w=.ok vs w):
  (results fn tmps).run c.P w=.ok (PY vs) w:=by
 have e:results fn tmps=(do
   let vs<-fn.results.mapM (IB tmps)
   pure (if h:vs.size=1 then vs[0]else .tuple vs)):=rfl
 rw[e,Sem.run_bind,Array.mapM_eq_mapM_toList,Sem.run_map,h];simp only[Result.andThen_ok,Sem.run_pure];congr 1
 match vs with
 |[]=>rfl
 |[v]=>rfl
 |v::u::r=>rfl
def qN:Nat->aU->c4
 |_,[]=>[]
 |k,v::r=>(k,v)::qN (k+1) r
theorem S8:∀(l:aU)(k d:Nat)(v:Value),(qN k l).get d=some v->k<=d/\l[d-k]?=some v
 |[],k,d,v,h=>by simp[qN,c4.get]at h
 |u::r,k,d,v,h=>by
  simp only[qN]at h;rw[Hh]at h;by_cases e:k=d
  ·subst e;rw[aY rfl]at h;simpa using h
  ·rw[aN e]at h;obtain⟨h1,η⟩:=S8 r (k+1) d v h;refine⟨by omega,?_⟩;rw[show d-k=(d-(k+1))+1 by omega];simpa using η
theorem al4{c:c3}(π:ht c){f:FuncId}{fn:Func}{code:Code}(bf:c.P.funcs[f]?=some fn)(ω:fn.body=some code)(rs:List ResultVar)(kr:fn.results.toList=rs)(hL:Nat)(rP:fn.ntmps=hL)(s:jU){args:aU}(aP:args.length<=hL)
  {w:World}{R:ak}(aE:wq c hL code s (fin c rs R))(h:nv c hL code s (fin c rs R) (qN 0 args) w):Calls c.P f args.toArray w R:=by
 subst rP;refine calls_of_wp bf ω ?_;refine NP π code s (fin c rs R) _ _ (qN 0 args) w aE ?_ ?_ h
 ·intro e a ν w σ ay;cases e with
  |ret=>
   obtain⟨vs,l7,ix⟩:=PX π σ ay;rw[<-kr]at l7;exact⟨σ.1,_,Wf l7,ix⟩
  |normal=>
   obtain⟨vs,l7,ix⟩:=PX π σ ay;rw[<-kr]at l7;exact⟨σ.1,_,Wf l7,ix⟩
  |panic cX=>exact⟨σ.1,ay⟩
  |exit id=>exact ay.elim
  |goto l=>exact ay.elim
  |outgrown=>exact ay.elim
 ·refine⟨rfl,by simp;omega,λd v ae=>?_⟩;obtain⟨_,η⟩:=S8 args 0 d v ae;rw[Nat.sub_zero]at η;rw[Array.getElem?_append]
  have:d<args.toArray.size:=by simp;exact(List.getElem?_eq_some_iff.1 η).1
  rw[aY this];simpa using η
def o5(c:c3)(n:Nat):Code->jU->jH->Prop->Prop
 | .seq x y,.cut b8 K vb qA,Q,r=>o5 c n x vb (iD (gC b8 K) Q) (lz b8 K (nv c n y qA Q) []/\o5 c n y qA Q r)
 | .seq x y,s,Q,r=>o5 c n x s.left (iD (II s (nv c n y s.right Q)) Q) (o5 c n y s.right Q r)
 | .cond _ x y,s,Q,r=>o5 c n x s.left Q (o5 c n y s.right Q r)
 | .block id x,s,Q,r=>o5 c n x s.left (s8 id Q) r
 | .scope x,s,Q,r=>o5 c n x s.left (HZ Q) r
 | .loop x,.loop b8 K body,Q,r=>
  lz b8 K (λν w=>∃(bw:hb Prop b8)(m:hb Nat b8),gC b8 bw ν w/\ou b8 bw m (λk ν w=>nv c n x (body (mj b8 bw m k)) (iD (gC b8 (mj b8 bw m k)) Q) ν w) []) []/\
   (∀C:hb Prop b8,o5 c n x (body C) (iD (gC b8 C) Q) True)/\r
 |_,_,_,r=>r
theorem Pe{c:c3}{n:Nat}:∀(x:Code)(s:jU)(Q:jH)(r:Prop),o5 c n x s Q r->wq c n x s Q/\r:=by
 intro x
 induction x with
 |seq x y mJ mK=>
  intro s Q r h;cases s with
  |cut b8 K vb qA=>
   obtain⟨h1,η,au⟩:=mJ _ _ _ h;obtain⟨bV,c9⟩:=mK _ _ _ au;exact⟨⟨h1,η,bV⟩,c9⟩
  |_=>
   obtain⟨h1,η⟩:=mJ _ _ _ h;obtain⟨bV,c9⟩:=mK _ _ _ η;exact⟨⟨h1,bV⟩,c9⟩
 |cond p x y mJ mK=>
  intro s Q r h;obtain⟨h1,η⟩:=mJ _ _ _ h;obtain⟨bV,c9⟩:=mK _ _ _ η;exact⟨⟨h1,bV⟩,c9⟩
 |block id x cq=>exactλs Q r h=>cq _ _ _ h
 |scope x cq=>exactλs Q r h=>cq _ _ _ h
 |loop x cq=>
  intro s Q r h;cases s with
  |loop b8 K body=>
   obtain⟨h1,η,au⟩:=h;exact⟨⟨h1,λC=>(cq _ _ _ (η C)).1⟩,au⟩
  |_=>exact⟨trivial,h⟩
 |_=>exactλs Q r h=>⟨trivial,h⟩
theorem ZU{c:c3}(π:ht c){f:FuncId}{fn:Func}{code:Code}(bf:c.P.funcs[f]?=some fn)(ω:fn.body=some code)(rs:List ResultVar)(kr:fn.results.toList=rs)(hL:Nat)(rP:fn.ntmps=hL)(s:jU){args:aU}(aP:args.length<=hL)
  {w:World}{R:ak}{m γ:Prop}(hm:m=nv c hL code s (fin c rs R) (qN 0 args) w)(aE:γ=o5 c hL code s (fin c rs R) True)(jO:γ)(h:m):Calls c.P f args.toArray w R:=
 al4 π bf ω rs kr hL rP s aP (Pe _ _ _ _ (aE▸jO)).1 (hm▸h)
def XQ(P:Program)(f:Nat):Prop:=∃fn,P.funcs[f]?=some fn/\(fn.name== "runtime.NumGoroutine")=false/\fn.body.isNone=false
def Ji(P:Program):List Nat->Prop
 |[]=>True
 |f::r=>XQ P f/\Ji P r
theorem aaf{P:Program}:∀{l:List Nat},Ji P l->∀f,f∈l->XQ P f
 |g::r,h,f,bf=>by
  rcases fE.1 bf with rfl|bf
  ·exact h.1
  ·exact aaf h.2 f bf
open Go.RowKit
structure Kp(w w':World)(S:a1):Prop where
 os:w'.os=w.os
 tape:w'.tape=w.tape
 output:w'.output=w.output
 size:w.heap.size<=w'.heap.size
 block:∀i,i<w.heap.size->¬S i->w'.heap[i]?=w.heap[i]?
abbrev θ(w w':World):Prop:=Kp w w' λ_=>False
theorem Kp.refl(w:World)(S:a1):Kp w w S:=⟨rfl,rfl,rfl,eF _,λ_ _ _=>rfl⟩
theorem Kp.trans{w δ υ:World}{S T U:a1}(h:Kp w δ S)(k:Kp δ υ T)(ed:∀i,i<w.heap.size->S i->U i)(en:∀i,i<w.heap.size->T i->U i):Kp w υ U:=
 ⟨k.os.trans h.os,k.tape.trans h.tape,k.output.trans h.output,fo h.size k.size,λi o hu=>
  (k.block i (sd o h.size) λt=>hu (en i o t)).trans (h.block i o λs=>hu (ed i o s))⟩
theorem Kp.mono{w δ:World}{S U:a1}(h:Kp w δ S)(ed:∀i,i<w.heap.size->S i->U i):Kp w δ U:=
 ⟨h.os,h.tape,h.output,h.size,λi o hu=>h.block i o λs=>hu (ed i o s)⟩
theorem θ.refl(w:World):θ w w:=Kp.refl w _
theorem θ.trans{w δ υ:World}(h:θ w δ)(k:θ δ υ):θ w υ:=Kp.trans h k (λ_ _ h=>h) λ_ _ h=>h
theorem θ.drewN(w:World)(n:Nat):θ w (w.drewN n):=⟨rfl,rfl,rfl,eF _,λ_ _ _=>rfl⟩
theorem θ.drew(w:World):θ w w.drew:=⟨rfl,rfl,rfl,eF _,λ_ _ _=>rfl⟩
theorem θ.alloc(w:World)(γ:Obj):θ w (w.alloc γ):=
 ⟨rfl,rfl,rfl,by show w.heap.size<=(w.heap.push γ).size;simp,λi o _=>by show(w.heap.push γ)[i]?=_;rw[Array.getElem?_push,aN (by omega)]⟩
theorem Kp.below{w w':World}{S:a1}(h:Kp w w' S){B:Nat}(dR:B<=w.heap.size)(ed:∀i,i<B->¬S i):Below B w w':=
 ⟨h.os,h.tape,h.output,h.size,λi o=>h.block i (sd o dR) (ed i o)⟩
theorem θ.below{w w':World}(h:θ w w'):Below w.heap.size w w':=Kp.below h (eF _) λ_ _ h=>h
theorem Kp.ade{w w':World}{B:Nat}(h:Below B w w'):Kp w w' λi=>B<=i:=
 ⟨h.os,h.tape,h.output,h.size,λi o ω=>h.block i (by omega)⟩
theorem Kp.setCell(w:World)(a:Addr)(v:Value){S:a1}(ed:S a.block):Kp w (w.setCell a v) S:=
 ⟨rfl,rfl,rfl,by simp[World.setCell],λi o ψ=>Below.heap_setCell w a v i λe=>ψ (e▸ed)⟩
theorem Kp.setCells(b:Nat){S:a1}(ed:S b):∀(vs:aU)(γ:Nat)(w:World),Kp w (w.setCells b γ vs) S
 |[],_,w=>Kp.refl w S
 |v::r,γ,w=>(Kp.setCell w ⟨b,γ,none⟩ v ed).trans (Kp.setCells b ed r (γ+1) _) (λ_ _ h=>h) λ_ _ h=>h
theorem Nl{w:World}{a:Addr}{v:Value}(h:w.cell? a=some v):a.block<w.heap.size:=block_lt_of_cell h
theorem Kp.cell{w w':World}{S:a1}(h:Kp w w' S){a:Addr}{v:Value}(π:w.cell? a=some v)(ψ:¬S a.block):w'.cell? a=some v:=by
 have:=h.block a.block (Nl π) ψ
 simp only[World.cell?]at π⊢;rw[this];exact π
theorem aw.aC{w w':World}{S:a1}(h:Kp w w' S){a:Addr}{vs:aU}(π:aw w a vs)(ψ:¬S a.block):aw w' a vs:=λj v aL=>h.cell (π j v aL) (by rw[yv];exact ψ)
theorem a8.aC{w w':World}{S:a1}(h:Kp w w' S){a:J}{vs:aU}(π:a8 w a vs)(ψ:∀x,a=some x->¬S x.block):a8 w' a vs:=by
 cases a with
 |none=>exact π
 |some a=>exact aw.aC h π (ψ a rfl)
theorem a8.ex{w w':World}(h:θ w w'){a:J}{vs:aU}(π:a8 w a vs):a8 w' a vs:=π.aC h λ_ _ h=>h
theorem a8.take{w:World}{a:J}{vs:aU}(π:a8 w a vs)(n:Nat):a8 w a (vs.take n):=by
 cases a with
 |none=>have:vs=[]:=π;subst this;simp[a8]
 |some a=>exactλj v aL=>π j v (by rw[List.getElem?_take]at aL;split at aL;exact aL;simp at aL)
theorem a8.cell{w:World}{a:Addr}{vs:aU}(π:a8 w (some a) vs){j:Nat}(χ:j<vs.length):w.cell? (a.add j)=some vs[j]:=π j _ (List.getElem?_eq_getElem χ)
theorem add_add(a:Addr)(m n:Nat):(a.add m).add n=a.add (m+n):=by
 unfold Addr.add;by_cases hm:m=0
 ·subst hm;simp
 ·by_cases ar:n=0
  ·subst ar;simp[hm]
  ·have:m+n≠0:=by omega
   simp[hm,ar,this,Nat.add_assoc]
theorem aw.drop{w:World}{a:Addr}{vs:aU}(π:aw w a vs)(n:Nat):aw w (a.add n) (vs.drop n):=λj v aL=>by rw[add_add];exact π _ v (by rw[List.getElem?_drop]at aL;exact aL)
theorem a8.slice{w:World}{a:J}{vs:aU}(π:a8 w a vs)(m l h:Nat)(hm:vs.length<=m):a8 w (dA a m l 1) ((vs.drop l).take h):=by
 unfold dA;by_cases e:m=l
 ·rw[aY e]
  have:vs.drop l=[]:=q7 (by omega)
  rw[this];cases a with
  |none=>simp[a8]
  |some a=>exactλj v aL=>by simp at aL
 ·rw[aN e];refine a8.take ?_ h;cases a with
  |none=>have:vs=[]:=π;subst this;simp[a8]
  |some a=>
   show aw w (a.add (l*1)) _;rw[eG];exact aw.drop π l
theorem anY{w:World}{b γ:Nat}{cur:ah}{e:TypeId}{fr:Nat×Nat}(h:w.heap[b]?=some (.cells cur e fr))(v:Value):
  (w.setCell ⟨b,γ,none⟩ v).heap[b]?=some (.cells (cur.setIfInBounds γ v) e fr):=by
 simp only[World.setCell];rw[Array.getElem?_modify,aY rfl,h];simp
def put(cur:ah)(γ:Nat):aU->ah
 |[]=>cur
 |v::r=>put (cur.setIfInBounds γ v) (γ+1) r
theorem Kh(b:Nat){e:TypeId}{fr:Nat×Nat}:∀(vs:aU)(γ:Nat)(w:World)(cur:ah),w.heap[b]?=some (.cells cur e fr)->(w.setCells b γ vs).heap[b]?=some (.cells (put cur γ vs) e fr)
 |[],_,_,_,h=>h
 |v::r,γ,w,cur,h=>Kh b r (γ+1) _ _ (anY h v)
theorem size_put:∀(vs:aU)(γ:Nat)(cur:ah),(put cur γ vs).size=cur.size
 |[],_,_=>rfl
 |v::r,γ,cur=>by rw[put,size_put r,Array.size_setIfInBounds]
theorem aap:∀(vs:aU)(γ:Nat)(cur:ah)(i:Nat),(put cur γ vs)[i]?=if γ<=i/\i<γ+vs.length/\i<cur.size then vs[i-γ]?else cur[i]?
 |[],γ,cur,i=>by rw[put,aN (by simp;omega)]
 |v::r,γ,cur,i=>by
  rw[put,aap r (γ+1),Array.size_setIfInBounds,Array.getElem?_setIfInBounds];simp only[List.length_cons];by_cases h1:γ=i
  ·subst h1;by_cases η:γ<cur.size
   ·rw[aN (by omega),aY rfl,aY η,aY (by omega)];simp
   ·rw[aN (by omega),aY rfl,aN η,aN (by omega)];simp[Array.getElem?_eq_none (LG η)]
  ·rw[aN h1];by_cases η:γ+1<=i/\i<γ+1+r.length/\i<cur.size
   ·rw[aY η,aY (by omega),show i-γ=(i-(γ+1))+1 by omega];simp
   ·rw[aN η,aN (by omega)]
theorem GG(cur:ah)(γ:Nat)(vs:aU)(h:γ+vs.length<=cur.size):(put cur γ vs).toList=cur.toList.take γ++vs++cur.toList.drop (γ+vs.length):=by
 have an:cur.toList.length=cur.size:=k0;apply qp;intro i;rw[Array.getElem?_toList,aap];have aO:(cur.toList.take γ).length=γ:=by simp;omega
 by_cases h1:i<γ
 ·rw[aN (by omega),mc,List.getElem?_append_left (by omega),List.getElem?_take_of_lt h1,Array.getElem?_toList]
 ·by_cases η:i<γ+vs.length
  ·rw[aY (by omega),mc,List.getElem?_append_right (by omega),aO,List.getElem?_append_left (by omega)]
  ·rw[aN (by omega),mc,List.getElem?_append_right (by omega),aO,List.getElem?_append_right (by omega),List.getElem?_drop,Array.getElem?_toList];congr 1;omega
theorem Ev(w:World)(γ:Obj):(w.alloc γ).heap[w.heap.size]?=some γ:=heap_alloc_new w γ
theorem cell_of_block{w:World}{b γ:Nat}{cur:ah}{e:TypeId}{fr:Nat×Nat}(h:w.heap[b]?=some (.cells cur e fr)):w.cell? ⟨b,γ,none⟩=cur[γ]?:=by simp[World.cell?,h]
theorem JX{w:World}{b γ:Nat}{cur:ah}{e:TypeId}{fr:Nat×Nat}(h:w.heap[b]?=some (.cells cur e fr)):w.frozen? ⟨b,γ,none⟩=(fr.1<=γ&&γ<fr.2):=by simp[World.frozen?,h]
def xa(fr:Nat×Nat)(n:Nat):Prop:=fr.2<=fr.1\/n<=fr.1
def μ(w:World)(B:Nat)(e:TypeId)(sz:Nat)(p:J)(n c:Nat)(xs:aU):Prop:=
 xs.length=n*sz/\n<=c/\((p=none/\c=0)\/∃b cur fr,p=some ⟨b,0,none⟩/\B<=b/\w.heap[b]?=some (.cells cur e fr)/\xa fr cur.size/\c*sz<=cur.size/\cur.toList.take (n*sz)=xs)
theorem μ.cells{w:World}{B:Nat}{e:TypeId}{sz:Nat}{p:J}{n c:Nat}{xs:aU}(h:μ w B e sz p n c xs):a8 w p xs:=by
 obtain⟨an,ar,h⟩:=h;rcases h with⟨rfl,rfl⟩|⟨b,cur,fr,rfl,dR,ω,jx,π,I⟩
 ·have:n=0:=by omega
  subst this
  have:xs=[]:=q9 (by rw[an];simp)
  subst this;rfl
 ·intro j v aL;have oQ:(⟨b,0,none⟩:Addr).add j=⟨b,j,none⟩:=by rw[Addr.add_lit];simp
  rw[oQ,cell_of_block ω];rw[<-I,List.getElem?_take]at aL;split at aL
  ·rw[<-Array.getElem?_toList];exact aL
  ·simp at aL
theorem μ.nil(w:World)(B:Nat)(e:TypeId)(sz:Nat):μ w B e sz none 0 0 []:=⟨by simp,eF _,.inl ⟨rfl,rfl⟩⟩
theorem μ.aC{w w':World}{S:a1}{B:Nat}{e:TypeId}{sz:Nat}{p:J}{n c:Nat}{xs:aU}(h:μ w B e sz p n c xs)(hk:Kp w w' S)(ψ:∀x,p=some x->¬S x.block):μ w' B e sz p n c xs:=by
 obtain⟨an,ar,h⟩:=h;refine⟨an,ar,?_⟩;rcases h with⟨rfl,rfl⟩|⟨b,cur,fr,rfl,dR,ω,jx,π,I⟩
 ·exact .inl ⟨rfl,rfl⟩
 ·refine .inr ⟨b,cur,fr,rfl,dR,?_,jx,π,I⟩;have bQ:b<w.heap.size:=by
   rcases Is b w.heap.size with h|h
   ·exact h
   ·rw[Array.getElem?_eq_none h]at ω;cases ω
  rw[hk.block b bQ (ψ _ rfl)];exact ω
theorem μ.ex{w w':World}{B:Nat}{e:TypeId}{sz:Nat}{p:J}{n c:Nat}{xs:aU}(h:μ w B e sz p n c xs)(hk:θ w w'):μ w' B e sz p n c xs:=h.aC hk λ_ _ h=>h
theorem μ.lower{w:World}{B B':Nat}{e:TypeId}{sz:Nat}{p:J}{n c:Nat}{xs:aU}(h:μ w B e sz p n c xs)(dR:B'<=B):μ w B' e sz p n c xs:=by
 obtain⟨an,ar,h⟩:=h;refine⟨an,ar,?_⟩;rcases h with h|⟨b,cur,fr,hp,ω,r⟩
 ·exact .inl h
 ·exact .inr ⟨b,cur,fr,hp,fo dR ω,r⟩
theorem μ.ge{w:World}{B:Nat}{e:TypeId}{sz:Nat}{p:J}{n c:Nat}{xs:aU}(h:μ w B e sz p n c xs){x:Addr}(I:p=some x):B<=x.block/\x.block<w.heap.size:=by
 obtain⟨an,ar,h⟩:=h;rcases h with⟨hp,_⟩|⟨b,cur,fr,hp,dR,ω,_⟩
 ·rw[hp]at I;cases I
 ·rw[hp]at I;cases I;refine⟨dR,?_⟩;rcases Is b w.heap.size with h|h
  ·exact h
  ·rw[Array.getElem?_eq_none h]at ω;cases ω
theorem μ.made{w:World}{e:TypeId}{sz n c:Nat}{cur:ah}{fr:Nat×Nat}(ar:n<=c)(π:c*sz<=cur.size)(jx:xa fr cur.size):
  μ (w.alloc (.cells cur e fr)) w.heap.size e sz (some ⟨w.heap.size,0,none⟩) n c (cur.toList.take (n*sz)):=by
 refine⟨?_,ar,.inr ⟨w.heap.size,cur,fr,rfl,eF _,Ev w _,jx,π,rfl⟩⟩
 have:n*sz<=c*sz:=tq _ ar
 simp;omega
theorem xa.zero(n:Nat):xa (0,0) n:=.inl (eF _)
theorem kT{w:World}{B:Nat}{e:TypeId}{sz:Nat}{p:J}{n c m bytes:Nat}{xs:aU}{zero:ah}{Src:aU->Prop}{N:J->Nat->ai}
  (aE:μ w B e sz p n c xs)(dR:B<=w.heap.size)(ys:aU)(ψ:Src ys)(an:ys.length=m*sz)(h1:∀y∈ys,y.oneCell'=true)(aI:zero.size=sz)
  (ω:(n+m)*bytes<=140737488355328)(Ak:n+m<=9223372036854775807)
  (K:∀bU aT w',μ w' B e sz bU (n+m) aT (xs++ys)->Kp w w' (λi=>∃x,p=some x/\x.block=i)->N bU aT w'):gD w p n c m Src e sz bytes zero N:=by
 have kW:=aE.cells;obtain⟨jN,pA,hp⟩:=aE;refine⟨ys,an,ψ,λmE=>?_,λabb=>⟨ω,Ak,xs,jN,kW,λb aT w' xy Er fW=>?_⟩⟩
 ·rcases hp with⟨rfl,rfl⟩|⟨b,cur,fr,rfl,Ei,px,jx,π,I⟩
  ·refine⟨trivial,λw' fW=>?_⟩;have hm:m=0:=by omega
   have ar:n=0:=by omega
   subst hm ar
   have:ys=[]:=q9 (by rw[an];simp)
   subst this;subst fW;refine K _ _ _ ⟨by simpa using jN,da _,.inl ⟨rfl,rfl⟩⟩ (Kp.refl _ _)
  ·have hmul:(n+m)*sz<=c*sz:=tq _ mE;have B6:(n+m)*sz=n*sz+m*sz:=lr _ _ _;have oQ:(⟨b,0,none⟩:Addr).add (n*sz)=⟨b,n*sz,none⟩:=by rw[Addr.add_lit];simp
   refine⟨?_,λw' fW=>?_⟩
   ·show hG w ((⟨b,0,none⟩:Addr).add (n*sz)) ys;rw[oQ];refine⟨rfl,λj χ=>⟨?_,?_⟩,h1⟩<;>dsimp only
    ·rw[cell_of_block px,Array.getElem?_eq_getElem (by omega)];rfl
    ·rw[JX px];rcases jx with h|h<;>simp<;>omega
   ·have hw:w'=w.setCells b (n*sz) ys:=by rw[fW];simp[k1]
    subst hw;have ee:=Kh b ys (n*sz) w cur px;refine K _ _ _ ⟨by simp[jN,an,B6],mE,.inr ⟨b,_,fr,rfl,Ei,ee,by rw[size_put];exact jx,by rw[size_put];exact π,?_⟩⟩ (Kp.setCells b ⟨_,rfl,rfl⟩ ys (n*sz) w);rw[GG _ _ _ (by omega),B6,I,pb (by simp[jN,an])];rw[hr (by simp[jN,an])]
 ·subst fW xy;have Ax:(Builtin.zeroCells zero (aT-(n+m))).size=(aT-(n+m))*sz:=by rw[size_zeroCells,aI]
  have fj:(xs.toArray++ys.toArray++Builtin.zeroCells zero (aT-(n+m))).size=aT*sz:=by
   have:aT*sz=(n+m)*sz+(aT-(n+m))*sz:=by rw[<-lr];congr 1;omega
   simp only[LH,fp,Ax,jN,an,this,lr]
  have xH:=μ.made (w:=w.drew) (e:=e) (sz:=sz) (n:=n+m) (c:=aT) (cur:=xs.toArray++ys.toArray++Builtin.zeroCells zero (aT-(n+m))) (fr:=(0,0)) Er (by rw[fj];exact eF _) (xa.zero _);have xI:(xs.toArray++ys.toArray++Builtin.zeroCells zero (aT-(n+m))).toList.take ((n+m)*sz)=xs++ys:=by
   have hI:(xs.toArray++ys.toArray++Builtin.zeroCells zero (aT-(n+m))).toList=(xs++ys)++(Builtin.zeroCells zero (aT-(n+m))).toList:=by simp
   rw[hI,pb (by simp[jN,an,lr]),hr (by simp[jN,an,lr])]
  rw[xI]at xH;exact K _ _ _ (xH.lower dR) ((θ.trans (θ.drew w) (θ.alloc _ _)).mono λ_ _ h=>h.elim)
section steps
variable{N:Prop}
theorem bH(n:Int)(K:Int->Prop):bq .i64 (.int .i64 n) K=K n:=rfl
theorem NF(n:Int)(K:Int->Prop):bq .u32 (.int .u32 n) K=K n:=rfl
theorem dH(b:Bool)(K:Bool->Prop):dD (.bool b) K=K b:=rfl
theorem er(a:J)(n c:Nat)(K:J->Nat->a1):df (.slice a n c) K=K a n c:=rfl
theorem mX(a:J)(K:J->Prop):hD (.pointer a) K=K a:=rfl
theorem hz(a:ah)(K:ah->Prop):dZ (.agg a) K=K a:=rfl
theorem bZ(a:ah)(K:ah->Prop):b6 (.tuple a) K=K a:=rfl
theorem JN(a:ByteArray)(K:ByteArray->Prop):lH (.string a) K=K a:=rfl
theorem rH(a b:Nat)(K:Nat->a1):lG (.complex .f64 a b) K=K a b:=rfl
theorem NG(a:Option Nat)(K:Option Nat->Prop):p6 (.map a) K=K a:=rfl
theorem bj{α:Type}(v:α)(K:α->Prop):ξ (some v) K=K v:=rfl
theorem bA{b:Bool}{A C:Prop}(h1:b=true->A)(η:b=false->C):cond b A C:=by cases b;exact η rfl;exact h1 rfl
theorem uo{p:Prop}[Decidable p](h:p){A C:Prop}:cond (decide p) A C=A:=by rw[bC h];rfl
theorem iM{p:Prop}[Decidable p](h:¬p){A C:Prop}:cond (decide p) A C=C:=by rw[iJ h];rfl
theorem cond_pos{b:Bool}(h:b=true){A C:Prop}:cond b A C=A:=by rw[h];rfl
theorem cond_neg{b:Bool}(h:b=false){A C:Prop}:cond b A C=C:=by rw[h];rfl
theorem cC{α:Type}(a:α)(l:List α):(List.toArray (a::l))[0]?=some a:=rfl
theorem cD{α:Type}(a b:α)(l:List α):(List.toArray (a::b::l))[1]?=some b:=rfl
theorem mY{α:Type}(a b c:α)(l:List α):(List.toArray (a::b::c::l))[2]?=some c:=rfl
theorem S5{α:Type}(a b c d:α)(l:List α):(List.toArray (a::b::c::d::l))[3]?=some d:=rfl
theorem amx{α:Type}(a b c d e:α)(l:List α):(List.toArray (a::b::c::d::e::l))[4]?=some e:=rfl
end steps
def φ(S:Value->ai):ak:=λe w'=>∃v,e=.returned v/\S v w'
theorem φ.mk{S:Value->ai}{v:Value}{w:World}(h:S v w):φ S (.returned v) w:=⟨v,rfl,h⟩
theorem κ.use{P:Program}{g:Nat}{args:ah}{w:World}{N:Value->ai}{X:List PanicEntry->ai}{S:Value->ai}
  (h:Calls P g args w (φ S))(σ:∀v w',S v w'->N v w'):κ P g args w N X:=
 h.mono λe w'⟨v,he,ψ⟩=>by subst he;exact σ v w' ψ
theorem b3{x:Int}(h1:-9223372036854775808<=x)(η:x<=9223372036854775807):IntKind.i64.wrap x=x:=by rw[IntKind.wrap_i64];omega
theorem sy(x:Int):IntKind.u8.wrap x=x%256:=by simp[IntKind.wrap,IntKind.signed,IntKind.bits]
theorem GJ(k:IntKind)(xs:ao):∀y∈xs.map (Value.int k),y.oneCell'=true:=by intro y ag;obtain⟨x,_,rfl⟩:=gM.1 ag;rfl
theorem a8.alloc{w:World}(cs:aU)(e:TypeId):a8 (w.alloc (.cells cs.toArray e)) (some ⟨w.heap.size,0,none⟩) cs:=λj v aL=>by
 have oQ:(⟨w.heap.size,0,none⟩:Addr).add j=⟨w.heap.size,j,none⟩:=by rw[Addr.add_lit];simp
 rw[oQ,cell_of_block (Ev w _)];simpa using aL
theorem μ.alloc{w:World}(cs:aU)(e:TypeId)(sz n:Nat)(h:cs.length=n*sz):μ (w.alloc (.cells cs.toArray e)) w.heap.size e sz (some ⟨w.heap.size,0,none⟩) n n cs:=by
 have:=μ.made (w:=w) (e:=e) (sz:=sz) (n:=n) (c:=n) (cur:=cs.toArray) (fr:=(0,0)) (eF _) (by simp[h]) (xa.zero _)
 rwa[hr (by simp[h])]at this
theorem BM{α:Type}(a b:α):cond true a b=a:=rfl
theorem jb{α:Type}(a b:α):cond false a b=b:=rfl
theorem JP{α:Type}:(none:Option α).isNone=true:=rfl
theorem mB{α:Type}(a:α):(some a).isNone=false:=rfl
theorem iG{α:Type}(l:List α):l.toArray.toList=l:=rfl
open Go.ChangeShapes Go.WideShapes Go.ChangeAt Go.Deep
section
variable{H:Type}{enc:TypeId×Value->H}{P:Program}
theorem WX(an:laidOutB P=true){W bE:World}(ω:Below W.heap.size W bE):∀(gy:List TypeId)(vs:aU)(ds:List (DataW H))(ps:List MemPlace),
  (gy.all λt=>P.readableRec t&&decide (t<P.types.size))=true->
  DataW.TrodAll enc P W 0 (λ_=>true) true gy vs ds ps->(∀x∈ps,x.block<W.heap.size)->DataW.TrodAll enc P bE 0 (λb=>decide (b<W.heap.size)) true gy vs ds ps
 |[],vs,ds,ps,_,h,_=>by cases vs<;>cases ds<;>simp[DataW.TrodAll]at h⊢;exact h
 |t::gy,vs,ds,ps,aP,h,bQ=>by
  obtain⟨v,W7,d,SB,p,q,rfl,rfl,rfl,aF,h1⟩:=trodAll_cons h;simp only[List.all_cons,kH,pJ]at aP;exact⟨p,q,Below.trod an aP.1.1 aP.1.2 aF ω λx I=>bQ x (V4 _ I),
   WX an ω gy W7 SB q (by simpa using aP.2) h1 λx I=>bQ x (List.mem_append_right _ I),rfl⟩
theorem WY{W:World}{base:Nat}{sp:Nat->Bool}{ae:Bool}:∀(gy:List TypeId)(vs:aU)(ds:List (DataW H))(ps:List MemPlace),
  DataW.TrodAll enc P W base sp ae gy vs ds ps->∀x∈ps,x.block<W.heap.size
 |[],vs,ds,ps,h=>by cases vs<;>cases ds<;>simp[DataW.TrodAll]at h;subst h;simp
 |t::gy,vs,ds,ps,h=>by
  obtain⟨v,W7,d,SB,p,q,rfl,rfl,rfl,aF,h1⟩:=trodAll_cons h;intro x I;rcases iI.1 I with h|h
  ·obtain⟨m,hm⟩:=aF;exact DataW.trod_lt m _ _ _ hm x h
  ·exact WY gy W7 SB q h1 x h
def Room(d:DataW H)(cap:Nat):Prop:=(d=.nil/\cap=0)\/∃e s,d=.slice e s/\e.length+s.length=cap
theorem Room.sized{gy:List TypeId}{ds:List (DataW H)}(h:(DataW.weightsEach P gy ds).all (·<=reachBytes)=true){j:Nat}{t e:TypeId}{d:DataW H}{cap:Nat}(σ:Room d cap)(aO:gy[j]?=some t)(ae:ds[j]?=some d)
  (hu:P.underlying t=some (.slice e))(b:Nat)(ω:P.bytesOf e=b):cap*b<=140737488351232:=by
 subst ω;rcases σ with⟨rfl,rfl⟩|⟨el,sp,rfl,rfl⟩
 ·simp
 ·exact sized_slice h aO ae hu
structure Ints(k:IntKind)(w:World)(a:J)(len cap:Nat)(xs:ao):Prop where
 cells:a8 w a (xs.map (.int k))
 size:xs.length=len
 room:len<=cap
 acE:cap<=maxLen
 wf:∀x∈xs,(Lit.int k x).wf=true
 lt:∀x,a=some x->0<cap->x.block<w.heap.size
 nil:a=none->cap=0
theorem akl{t e:TypeId}{k:IntKind}(aO:P.underlying t=some (.slice e))(he:P.underlying e=some (.int k))(π:P.cellsOf e=1){W:World}{qP:Nat}{v:Value}{d:DataW H}{ps:List MemPlace}(iO:Value.okWide P W .any qP t v)
  (ae:DataW.Trod enc P W 0 (λ_=>true) true t v d ps):∃a len cap xs,v=.slice a len cap/\Ints k W a len cap xs/\Room d cap:=by
 obtain⟨a,len,cap,rfl⟩:=okWide_slice aO iO;have lt:∀x∈ps,x.block<W.heap.size:=by obtain⟨m,hm⟩:=ae;exact DataW.trod_lt m _ _ _ hm
 obtain⟨fuel,bf⟩:=ae;rcases open_ints aO he π bf with⟨iy,I⟩|⟨x,l,c,k5,iy,_,an,hm,aI,I,j0,apz⟩
 ·simp[Value.cells]at iy;obtain⟨rfl,rfl,rfl⟩:=iy;simp only[FK]at I;exact⟨none,0,0,[],rfl,⟨rfl,rfl,eF _,da _,(by simp),(λx h=>by cases h),λ_=>rfl⟩,.inl ⟨I.1,rfl⟩⟩
 ·simp[Value.cells]at iy;obtain⟨rfl,rfl,rfl⟩:=iy;simp only[FK]at I;simp only[o9]at aI;refine⟨_,_,_,k5.take len,rfl,⟨?_,?_,an,hm,λy ag=>apz y (wD ag),?_,λh=>by cases h⟩,.inr ⟨_,_,I.1,by simp[lits];omega⟩⟩
  ·intro j y ag;rw[List.getElem?_map,List.getElem?_take]at ag;split at ag
   ·rw[Option.map_eq_some_iff]at ag;obtain⟨n,ar,rfl⟩:=ag;rw[j0 j (List.getElem?_eq_some_iff.1 ar).1];simp[List.getD,ar]
   ·simp at ag
  ·rw[gY];omega
  ·intro y ag aF;injection ag with ag
   subst ag
   have:=j0 0 (by omega)
   exact Nl (by simpa[Addr.add]using this)
theorem Nf{t:TypeId}{k:IntKind}(aO:P.underlying t=some (.int k)){W:World}{qP:Nat}{v:Value}{d:DataW H}{ps:List MemPlace}(iO:Value.okWide P W .any qP t v)
  (ae:DataW.Trod enc P W 0 (λ_=>true) true t v d ps):∃n,v=.int k n/\(Lit.int k n).wf=true:=by
 obtain⟨n,h,_,_,hw⟩:=open_int aO iO ae;exact⟨n,h,hw⟩
theorem GK{n:Int}(h:(Lit.int .u8 n).wf=true):0<=n/\n<256:=by
 have:0<=n/\n<=255:=by simpa[Lit.wf,IntKind.min,IntKind.max,IntKind.signed,IntKind.bits]using h
 omega
end
def xM(n:Int):UInt8:=UInt8.ofNat n.toNat
theorem WC(qZ:ao):(strOf qZ).toList=qZ.map xM:=by
 rw[ByteArray.toList_eq];have key:∀(l:ao)(b:ByteArray),(l.foldl (λr n=>r.push (UInt8.ofNat n.toNat)) b).data.toList=b.data.toList++l.map xM:=by
  intro l
  induction l with
  |nil=>intro b;simp
  |cons x r cq=>intro b;rw[List.foldl_cons,cq];simp[ByteArray.push,xM]
 rw[strOf,key];simp
theorem acf{n:Int}(aF:0<=n)(h1:n<256):(xM n).toNat=n.toNat:=by rw[xM,UInt8.toNat_ofNat'];exact LB (by omega)
theorem ap1{m n:Int}(aF:0<=m)(h1:m<256)(xK:0<=n)(aZ:n<256):xM m=xM n↔m=n:=by
 constructor
 ·intro h
  have:=gN UInt8.toNat h
  rw[acf aF h1,acf xK aZ]at this;omega
 ·intro h;rw[h]
theorem acg:∀{l m:ao},(∀x∈l,0<=x/\x<256)->(∀x∈m,0<=x/\x<256)->l.map xM=m.map xM->l=m
 |[],[],_,_,_=>rfl
 |[],y::m,_,_,h=>by simp at h
 |x::l,[],_,_,h=>by simp at h
 |x::l,y::m,an,hm,h=>by simp only[x1,List.cons.injEq]at h;have e:=(ap1 (an x (by simp)).1 (an x (by simp)).2 (hm y (by simp)).1 (hm y (by simp)).2).1 h.1;rw[e,acg (λz aI=>an z (by simp[aI])) (λz aI=>hm z (by simp[aI])) h.2]
theorem aeX{l m:ao}(an:∀x∈l,0<=x/\x<256)(hm:∀x∈m,0<=x/\x<256):((strOf l).toList==(strOf m).toList)=decide (l=m):=by
 rw[WC,WC];by_cases h:l=m
 ·subst h;simp
 ·have:l.map xM≠m.map xM:=λe=>h (acg an hm e)
  simp[h,this]
theorem IP(qZ:ao):(strOf qZ).size=qZ.length:=by
 have:=gN List.length (WC qZ)
 rw[ByteArray.toList_eq,jP]at this;simpa using this
theorem we:IntKind.i64.max=9223372036854775807:=by decide
theorem aql(k:IntKind)(n:Nat):madeCells #[Value.int k 0] n=((List.replicate n (0:Int)).map (Value.int k)).toArray:=by
 apply Array.ext
 ·simp[madeCells]
 ·intro i h1 η;simp[madeCells,Nat.mod_one]
theorem anX(w:World)(a:Addr)(n i:Nat)(h:i≠a.block):(w.freeze a n).heap[i]?=w.heap[i]?:=by
 unfold World.freeze;split
 ·rfl
 ·show(w.heap.modify _ _)[i]?=_;rw[Array.getElem?_modify,aN λe=>h e.symm]
theorem Kp.freeze(w:World)(a:Addr)(n:Nat):Kp w (w.freeze a n) λi=>i=a.block:=by refine⟨?_,?_,?_,?_,λi o h=>anX w a n i h⟩<;>unfold World.freeze<;>split<;>simp
theorem μ.writes{w:World}{B:Nat}{e:TypeId}{sz:Nat}{p:J}{n c:Nat}{xs:aU}(aE:μ w B e sz p n c xs)(γ:Nat)(ys:aU)(h:γ+ys.length<=n*sz)(h1:∀y∈ys,y.oneCell'=true):
  M5 w p γ ys/\μ (k1 w p γ ys) B e sz p n c (xs.take γ++ys++xs.drop (γ+ys.length))/\Kp w (k1 w p γ ys) λi=>∃x,p=some x/\x.block=i:=by
 obtain⟨jN,pA,hp⟩:=aE;rcases hp with⟨rfl,rfl⟩|⟨b,cur,fr,rfl,Ei,px,jx,π,I⟩
 ·have ar:n=0:=by omega
  subst ar;rw[Nat.zero_mul]at h jN
  have:ys=[]:=q9 (by omega)
  subst this
  have:xs=[]:=q9 (by omega)
  subst this;exact⟨trivial,⟨by simp,pA,.inl ⟨rfl,rfl⟩⟩,Kp.refl _ _⟩
 ·have hmul:n*sz<=c*sz:=tq _ pA;have oQ:(⟨b,0,none⟩:Addr).add γ=⟨b,γ,none⟩:=by rw[Addr.add_lit];simp
  refine⟨?_,?_,?_⟩
  ·show hG w ((⟨b,0,none⟩:Addr).add γ) ys;rw[oQ];refine⟨rfl,λj χ=>⟨?_,?_⟩,h1⟩<;>dsimp only
   ·rw[cell_of_block px,Array.getElem?_eq_getElem (by omega)];rfl
   ·rw[JX px];rcases jx with h|h<;>simp<;>omega
  ·have ee:=Kh b ys γ w cur px;have hw:k1 w (some ⟨b,0,none⟩) γ ys=w.setCells b γ ys:=by simp[k1]
   rw[hw];refine⟨?_,pA,.inr ⟨b,_,fr,rfl,Ei,ee,by rw[size_put];exact jx,by rw[size_put];exact π,?_⟩⟩
   ·simp only[e9,gY,kI];omega
   ·rw[GG _ _ _ (by omega),<-I];have gg:cur.toList.length=cur.size:=k0;have j1:(cur.toList.take γ++ys).length=γ+ys.length:=by rw[e9,gY];omega
    rw[List.take_append,hr (by omega),j1,AX,q8 (by omega),FE]
  ·have hw:k1 w (some ⟨b,0,none⟩) γ ys=w.setCells b γ ys:=by simp[k1]
   rw[hw];exact Kp.setCells b ⟨_,rfl,rfl⟩ ys γ w
theorem ak0{w:World}{B:Nat}{e:TypeId}{p s:J}{n c nI:Nat}{xs ys:aU}{N:ai}(aE:μ w B e 1 p n c xs)(ψ:a8 w s ys)(an:ys.length=nI)(qg:nI<=n)(h1:∀y∈ys,y.oneCell'=true)
  (K:∀w',μ w' B e 1 p n c (ys++xs.drop nI)->Kp w w' (λi=>∃x,p=some x/\x.block=i)->N w'):vL w p n s nI 1 N:=by
 obtain⟨aZ,bP,b7⟩:=aE.writes 0 ys (by omega) h1;refine⟨ys,by rw[an,eG];exact(q8 qg).symm,ψ,aZ,λw' fW=>?_⟩;subst fW;rw[mN,an]at bP;exact K _ (by simpa using bP) b7
inductive oB where
 |done
 |int (k:IntKind) (r:oB)
 |bool (r:oB)
 |b8 (b:Nat) (e r:oB)
def oB.len:oB->Nat
 | .done=>0
 | .int _ r=>r.len+1
 | .bool r=>r.len+1
 | .b8 _ _ r=>r.len+1
structure Bt(w:World)(m:Nat->a1)(b:Nat)(R:aU->Prop)(a:J)(len cap:Nat)(rows:List aU):Prop where
 size:rows.length=len
 room:len<=cap
 acE:m b cap
 fits:cap<=maxLen
 cells:a8 w a rows.flatten
 each:∀r∈rows,R r
 nil:a=none->cap=0
 lt:∀x,a=some x->0<cap->x.block<w.heap.size
def mu(w:World)(m:Nat->a1):oB->aU->Prop
 | .done,vs=>vs=[]
 | .int k r,vs=>∃n t,vs=.int k n::t/\(Lit.int k n).wf=true/\mu w m r t
 | .bool r,vs=>∃b t,vs=.bool b::t/\mu w m r t
 | .b8 b e r,vs=>∃a len cap rows t,vs=.slice a len cap::t/\Bt w m b (mu w m e) a len cap rows/\mu w m r t
theorem Bt.ints{w:World}{m:Nat->a1}{b:Nat}{k:IntKind}{a:J}{len cap:Nat}{rows:List aU}(h:Bt w m b (mu w m (.int k .done)) a len cap rows):∃xs,Ints k w a len cap xs/\m b cap/\rows=xs.map λx=>[Value.int k x]:=by
 have key:∀rows:List aU,(∀r∈rows,mu w m (.int k .done) r)->∃xs:ao,rows=xs.map (λx=>[Value.int k x])/\∀x∈xs,(Lit.int k x).wf=true:=by
  intro rows
  induction rows with
  |nil=>intro _;exact⟨[],rfl,by simp⟩
  |cons r rs cq=>
   intro σ;obtain⟨xs,rfl,I⟩:=cq λr h=>σ r (h9 _ h);obtain⟨n,t,rfl,ar,aO⟩:=σ r (om ..)
   have:t=[]:=aO
   subst this;exact⟨n::xs,rfl,λx h=>by rcases fE.1 h with rfl|h;exact ar;exact I x h⟩
 obtain⟨xs,rfl,I⟩:=key rows h.each;have vZ:(xs.map λx=>[Value.int k x]).flatten=xs.map (Value.int k):=by
  clear h I
  induction xs with
  |nil=>rfl
  |cons x r cq=>simp[cq]
 have π:=h.cells;rw[vZ]at π;exact⟨xs,⟨π,by simpa using h.size,h.room,h.fits,I,h.lt,h.nil⟩,h.acE,rfl⟩
def fieldsOf(P:Program)(rec:TypeId->oB->Option oB):List Field->Nat->Nat->oB->Option oB
 |[],off,GH,k=>if off=GH then some k else none
 |f::jw,off,GH,k=>if f.offset=off then(fieldsOf P rec jw (off+P.cellsOf f.type) GH k).bind (rec f.type)else none
def HR(P:Program):Nat->TypeId->oB->Option oB
 |0,_,_=>none
 |n+1,t,k=>match P.underlying t with
  |some (.int j)=>some (.int j k)
  |some .bool=>some (.bool k)
  |some (.slice e)=>(HR P n e .done).bind λl=>if l.len=P.cellsOf e/\l.len≠0 then some (.b8 (P.bytesOf e) l k)else none
  |some (.struct jw)=>fieldsOf P (HR P n) jw.toList 0 (P.cellsOf t) k
  |_=>none
section
variable{H:Type}{enc:TypeId×Value->H}{P:Program}
structure Ry(P:Program)(m:Nat->a1)(G:TypeId->DataW H->Prop):Prop where
 b8:∀t e el sp,P.underlying t=some (.slice e)->G t (.slice el sp)->m (P.bytesOf e) (el.length+sp.length)/\∀d∈el,G e d
 zero:∀b,m b 0
 st:∀t jw ds,P.underlying t=some (.struct jw)->G t (.agg ds)->∀(i:Nat)(f:Field)(d:DataW H),jw[i]?=some f->ds[i]?=some d->G f.type d
theorem NU{α:Type}:∀(rows:List (List α))(k:Nat),(∀r∈rows,r.length=k)->∀(i:Nat)(r:List α),rows[i]?=some r->∀j,j<k->rows.flatten[i*k+j]?=r[j]?
 |[],_,_,i,r,h,_,_=>by simp at h
 |x::rs,k,hk,0,r,h,j,χ=>by
  simp only[List.getElem?_cons_zero,sb]at h;subst h
  have:=hk x (by simp)
  rw[Cv,List.getElem?_append_left (by omega)];simp
 |x::rs,k,hk,i+1,r,h,j,χ=>by have I:=hk x (by simp);rw[Cv,List.getElem?_append_right (by rw[I,lr];omega),I,lr,FI,show i*k+k+j-k=i*k+j by omega];exact NU rs k (λr σ=>hk r (h9 _ σ)) i r (by simpa using h) j χ
theorem SZ{α:Type}:∀(rows:List (List α))(k:Nat),(∀r∈rows,r.length=k)->rows.flatten.length=rows.length*k
 |[],k,_=>by simp
 |x::rs,k,hk=>by rw[Cv,e9,hk x (by simp),SZ rs k λr σ=>hk r (h9 _ σ),List.length_cons,lr];omega
theorem Z1{m:Nat->a1}{W:World}{cs:aU}{rec:TypeId->oB->Option oB}
  (GH:Nat)(an:cs.length=GH):∀(jw:List Field)(off:Nat)(k r:oB),fieldsOf P rec jw off GH k=some r->
  (∀(i:Nat)(f:Field),jw[i]?=some f->∀k r,rec f.type k=some r->∀tail,mu W m k tail->mu W m r ((cs.drop f.offset).take (P.cellsOf f.type)++tail))->∀tail,mu W m k tail->mu W m r (cs.drop off++tail)
 |[],off,k,r,h,_,tail,aO=>by
  unfold fieldsOf at h;split at h
  ·rename_i e;simp only[sb]at h;subst h;rw[q7 (by omega)];exact aO
  ·cases h
 |f::jw,off,k,r,h,OE,tail,aO=>by
  unfold fieldsOf at h;split at h
  ·rename_i e;obtain⟨bP,η,au⟩:=Option.bind_eq_some_iff.1 h;have cq:=Z1 GH an jw _ k bP η (λi f bf=>OE (i+1) f (by simpa using bf)) tail aO
   have:=OE 0 f rfl bP r au _ cq
   rw[e,<-mc]at this;rw[<-PB,zm]at this;exact this
  ·cases h
theorem Vb{m:Nat->a1}{G:TypeId->DataW H->Prop}(iw:Ry P m G){W:World}:∀(n:Nat)(t:TypeId)(k r:oB),HR P n t k=some r->
  ∀(fuel:Nat)(cs:aU)(x:DataW H×List MemPlace),DataW.trod enc P W 0 (λ_=>true) true fuel t cs=some x->G t x.1->∀tail,mu W m k tail->mu W m r (cs++tail)
 |0,t,k,r,h,_,_,_,_,_,_,_=>by cases h
 |n+1,t,k,r,h,fuel,cs,x,I,bL,tail,aO=>by
  unfold HR at h;split at h
  ·rename_i j hu;simp only[sb]at h;subst h;obtain⟨z,rfl,_,hw⟩:=DataW.trod_int hu I;exact⟨z,tail,rfl,hw,aO⟩
  ·rename_i hu;simp only[sb]at h;subst h;obtain⟨z,rfl,_⟩:=DataW.trod_bool hu I;exact⟨z,tail,rfl,aO⟩
  ·rename_i e hu;obtain⟨l,η,au⟩:=Option.bind_eq_some_iff.1 h;split at au
   ·rename_i hlen;obtain⟨hlen,cc⟩:=hlen;simp only[sb]at au;subst au;have bQ:=DataW.trod_lt fuel t cs x I;rcases Go.Deep.open_slice hu I with⟨rfl,iz⟩|⟨a,len,cap,m',fk,D,eg,rfl,ω,an,hm,B5,iz,aa5⟩
    ·exact⟨none,0,0,[],tail,rfl,⟨rfl,eF _,iw.zero _,da _,rfl,(by simp),λ_=>rfl,(λx h _=>by cases h)⟩,aO⟩
    ·simp only[o9]at B5;subst B5;rw[iz]at bL bQ;obtain⟨g1,g2⟩:=iw.b8 t e _ _ hu bL;have jZ:len+(m'-len)=m':=by omega
     simp only[jP,CA,jZ]at g1;have abI:∀i,i<len->∃DR,DR.length=P.cellsOf e/\(∀j,j<P.cellsOf e->W.cell? ((a.add (i*P.cellsOf e)).add j)=DR[j]?)/\mu W m l DR:=by
      intro i o;obtain⟨DR,π,apf⟩:=aa5 i (by omega);obtain⟨_,gg,rL⟩:=World.cells?_some π;refine⟨DR,gg,rL,?_⟩
      have:=Vb iw n e .done l η _ _ _ apf (g2 _ (gM.2 ⟨i,nF.2 o,rfl⟩)) [] rfl
      simpa using this
     have Un:∃rows:List aU,rows.length=len/\∀i r,rows[i]?=some r->r.length=P.cellsOf e/\(∀j,j<P.cellsOf e->W.cell? ((a.add (i*P.cellsOf e)).add j)=r[j]?)/\mu W m l r:=by
      clear bQ g1 g2 aa5 bL I iz an jZ
      induction len with
      |zero=>exact⟨[],rfl,λi r h=>by simp at h⟩
      |succ q cq=>
       obtain⟨rows,h1,η⟩:=cq λi o=>abI i (by omega);obtain⟨DR,ay⟩:=abI q (by omega);refine⟨rows++[DR],by simp[h1],λi r o=>?_⟩;by_cases aoc:i<rows.length
       ·rw[List.getElem?_append_left aoc]at o;exact η i r o
       ·have:i=q:=by
         have:=(List.getElem?_eq_some_iff.1 o).1
         simp only[e9,List.length_cons,List.length_nil]at this;omega
        subst this;rw[List.getElem?_append_right (by omega),h1,u4]at o;simp only[List.getElem?_cons_zero,sb]at o;subst o;exact ay
     obtain⟨rows,uJ,iU⟩:=Un;have hk:∀r∈rows,r.length=P.cellsOf e:=λr σ=>by obtain⟨i,o⟩:=List.getElem?_of_mem σ;exact(iU i r o).1
     refine⟨some a,len,m',rows,tail,rfl,⟨uJ,an,g1,hm,?_,λr σ=>by obtain⟨i,o⟩:=List.getElem?_of_mem σ;exact(iU i r o).2.2,(λh=>by cases h),λx nz aF=>?_⟩,aO⟩
     ·intro j v χ;have wc:0<P.cellsOf e:=by omega
      have s5:=(List.getElem?_eq_some_iff.1 χ).1;rw[SZ rows _ hk,uJ]at s5;have ay:j/P.cellsOf e<rows.length:=by rw[uJ];exact(Nat.div_lt_iff_lt_mul wc).2 s5
      have lL:=List.getElem?_eq_getElem ay;have l2:=Nat.mod_lt j wc;have Am:j/P.cellsOf e*P.cellsOf e+j%P.cellsOf e=j:=by rw[Nat.mul_comm];exact Nat.div_add_mod j _
      have h1:=NU rows _ hk _ _ lL _ l2;rw[Am,χ]at h1;rw[<-Am,<-add_add,(iU _ _ lL).2.1 _ l2,<-h1]
     ·injection nz with nz
      subst nz
      have:(MemPlace.cell a.block a.off)∈MemPlace.row a (m'*P.cellsOf e):=by have wc:0<m'*P.cellsOf e:=Nat.mul_pos aF (by omega);exact gM.2 ⟨0,nF.2 wc,by simp⟩
      exact bQ _ (V4 _ this)
   ·cases au
  ·rename_i jw hu;obtain⟨xs,fk,_,iz,an,oV,bf⟩:=DataW.trod_struct hu I;rw[iz]at bL
   have:=Z1 (P:=P) (m:=m) (W:=W) (cs:=cs) (rec:=HR P n) _ an jw.toList 0 k r h (λi f o k r hk tail aO=>by
    have lg:jw[i]?=some f:=by rw[<-Array.getElem?_toList];exact o
    have h1:=bf i f lg;have bQ:i<xs.length:=by rw[oV];exact(Array.getElem?_eq_some_iff.1 lg).1
    rw[List.getElem?_eq_getElem bQ]at h1;exact Vb iw n f.type k r hk _ _ _ h1 (iw.st t jw _ hu bL i f _ lg (by rw[List.getElem?_map,List.getElem?_eq_getElem bQ];rfl)) tail aO) tail aO
   simpa using this
  ·cases h
theorem aeB:Ry P (λb c=>c*b<=140737488351232) (λt d=>(DataW.weights (H:=H) P t d).all (·<=reachBytes)=true)where
 b8:=λt e el sp hu h=>by
  simp only[DataW.weights,hu,List.all_cons,kH,pJ,LC]at h;refine⟨h.1,λd ae=>?_⟩
  have:=h.2.1
  clear h
  induction el with
  |nil=>cases ae
  |cons y r cq=>
   simp only[DataW.weightsAll,LC,kH]at this;rcases fE.1 ae with rfl|ae
   ·exact this.1
   ·exact cq ae this.2
 zero:=λb=>by simp
 st:=λt jw ds hu h i f d bf ae=>by
  simp only[DataW.weights,hu]at h;have key:∀(cw:List Field)(ds:List (DataW H)),(DataW.weightsEach P (cw.map (·.type)) ds).all (·<=reachBytes)=true->∀(i:Nat)(f:Field)(d:DataW H),cw[i]?=some f->ds[i]?=some d->(DataW.weights P f.type d).all (·<=reachBytes)=true:=by
   intro cw
   induction cw with
   |nil=>intro ds _ i f d bf _;simp at bf
   |cons g cw cq=>
    intro ds h i f d bf ae;cases ds with
    |nil=>simp at ae
    |cons y r=>
     simp only[x1,DataW.weightsEach,LC,kH]at h;cases i with
     |zero=>
      simp only[List.getElem?_cons_zero,sb]at bf ae;subst bf;subst ae;exact h.1
     |succ i=>exact cq r h.2 i f d (by simpa using bf) (by simpa using ae)
  exact key jw.toList ds h i f d (by rw[Array.getElem?_toList];exact bf) ae
theorem ah6{gy:List TypeId}{ds:List (DataW H)}(h:(DataW.weightsEach P gy ds).all (·<=reachBytes)=true):∀{j:Nat}{t:TypeId}{d:DataW H},gy[j]?=some t->ds[j]?=some d->(DataW.weights P t d).all (·<=reachBytes)=true:=by
 induction gy generalizing ds with
 |nil=>intro j t d aO _;simp at aO
 |cons u r cq=>
  intro j t d aO ae;cases ds with
  |nil=>simp at ae
  |cons y s=>
   simp only[DataW.weightsEach,LC,kH]at h;cases j with
   |zero=>
    simp only[List.getElem?_cons_zero,sb]at aO ae;subst aO;subst ae;exact h.1
   |succ j=>exact cq h.2 (by simpa using aO) (by simpa using ae)
theorem YJ{m:Nat->a1}{G:TypeId->DataW H->Prop}(iw:Ry P m G){t e:TypeId}{r:oB}{b:Nat}(aO:P.underlying t=some (.slice e))(σ:HR P 9 t .done=some (.b8 b r .done)){W:World}{qP:Nat}{v:Value}{d:DataW H}{ps:List MemPlace}(iO:Value.okWide P W .any qP t v)
  (ae:DataW.Trod enc P W 0 (λ_=>true) true t v d ps)(bL:G t d):∃a len cap rows,v=.slice a len cap/\Bt W m b (mu W m r) a len cap rows:=by
 obtain⟨a,len,cap,rfl⟩:=okWide_slice aO iO;obtain⟨fuel,bf⟩:=ae
 have:=Vb iw 9 t .done _ σ fuel _ _ bf bL [] rfl
 obtain⟨fz,ayf,BK,rows,j1,h1,η,_⟩:=this;simp only[Value.cells,pI,List.cons.injEq,Value.slice.injEq]at h1;obtain⟨⟨rfl,rfl,rfl⟩,_⟩:=h1;exact⟨_,_,_,rows,rfl,η⟩
end
end Go.bI

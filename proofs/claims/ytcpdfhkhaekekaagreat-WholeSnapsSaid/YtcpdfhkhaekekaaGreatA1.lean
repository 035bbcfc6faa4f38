/- The walk of the functions, and the plain laws of the model: part of the proof. Conditions: none. -/
import Derived.Orders
import Derived.Below
import Derived.ProofKit
import Derived.OpenShut
import Derived.ChangeOld
import Derived.SizedLaws
import Derived.JoinedCond
import Derived.Carry
import Derived.Lib.SmallJoins
import Derived.Deep.Fields
import Derived.Deep.Slices
import Derived.WideShapes
import Derived.Test.YtcpdfhkhaekekaaGreatA0
set_option linter.unusedVariables false
set_option linter.unusedSimpArgs false
namespace Go.bO
def dep(ε:Oper):List Nat:=ε.after.toList.filterMap λe=>cond (Region.binds .any e) (some e.on) none
def KY(c:cW)(ε:Oper):Bool:=match ε.op with
 | .alloc _=>false
 | .box _ _=>false
 | .store _ _ _=>false
 | .buildSlice _ _ _=>false
 | .makeSlice _ _ _=>false
 | .panic _=>false
 | .convert _ d _=>(match eF c.tb d with
  |some j=>(match j.desc with| .slice _=>false|_=>true)
  |none=>false)
 | .call cl=>(match cl.callee with
  | .builtin b=>(match b with| .append=>false| .copy=>false| .panic=>false|_=>true)
  |_=>false)
 |_=>true
def Ex(c:cW)(ε:Oper):Bool:=match ε.op with
 | .load _ _=>true
 | .convert _ d _=>(match eF c.tb d with
  |some j=>(match j.desc with| .int _=>false| .float _=>false|_=>true)
  |none=>true)
 | .build _ _=>true
 | .makeInterface _ _=>true
 | .sliceToArrayPointer _ _=>true
 | .typeAssert _ _ _ _=>true
 | .call cl=>(match cl.callee with
  | .builtin _=>false
  |_=>true)
 |_=>false
def HG(ε:Oper):Bool:=match ε.op with| .select _ _=>false|_=>true
def M6(ε:Oper)(d:Nat):Bool:=match ε.dst with|some e=>Nat.beq e d|none=>false
def zE(ops:List Oper)(i:Nat):Bool:=match ops[i]?with
 |some ε=>(match ε.dst with
  |some d=>(List.range ops.length).any λj=>match ops[j]?with|some hb=>(hb.looksAt ops.toArray).contains d&&!(dep hb).contains i|none=>false
  |none=>false)
 |none=>false
def vN(ops:List Oper):Bool:=
 (List.range ops.length).all λi=>match ops[i]?with
  |some ε=>HG ε&&((ε.looksAt ops.toArray).all λd=>(List.range ops.length).all λj=>match ops[j]?with|some hb=>!M6 hb d||(dep ε).contains j||((dep hb).contains i&&zE ops j)|none=>true)&&
   ((List.range ops.length).all λj=>Nat.beq i j||(match ops[j]?with|some hb=>(match ε.dst with|some d=>!M6 hb d|none=>true)|none=>true))
  |none=>true
def xB(ops:List Oper)(set:List Nat)(i:Nat):Bool:=match ops[i]?with
 |some ε=>!set.contains i&&(dep ε).all λe=>set.contains e
 |none=>false
def Vx(c:cW)(ops:List Oper)(i:Nat):Bool:=match ops[i]?with|some ε=>KY c ε&&!zE ops i|none=>false
theorem arP{c:cW}{ops:List Oper}{i:Nat}(h:Vx c ops i=true):zE ops i=false:=by
 unfold Vx at h;split at h
 ·simp only[kx,Bool.not_eq_true']at h;exact h.2
 ·cases h
def UJ(c:cW)(ops:List Oper)(set:List Nat):Option Nat:=(List.range ops.length).find? λi=>Vx c ops i&&xB ops set i
def KA(ops:List Oper)(set:List Nat):List Nat:=(List.range ops.length).filter (xB ops set)
def ya(ops:List Oper):Nat->List Nat->List Nat->List Nat
 |0,_,acc=>acc
 |_+1,[],acc=>acc
 |k+1,i::r,acc=>cond (acc.contains i) (ya ops k r acc) (ya ops k ((match ops[i]?with|some ε=>dep ε|none=>[])++r) (i::acc))
def Ba(F:bf):List Nat->Prop
 |[]=>True
 |[i]=>F i
 |i::r=>F i/\Ba F r
def VG(c:cW)(ops:List Oper)(ε:Oper)(ν:cX)(w:World)(K:Prop):Prop:=
 Bv ops ε.guard ν (λν=>match ε.op with
  | .load t a=>ez ν a λa=>gX a λp=>ξ p λa=>ξ (eF c.tb t) λi=>ξ ε.dst λd=>ξ (ν.get d) λv=>cond (zH i.desc) (dq v λcs=>ο (decide (cs.size=i.size)) (aw w a cs.toList/\K)) (w.cell? a=some v/\K)
  |_=>ξ ε.dst λd=>ξ (ν.get d) λv=>uk c ε ν w λq9=>q9=v/\K) λ_=>K
def recheck(c:cW)(ops:List Oper)(ν:cX)(w:World):List Nat->Prop->Prop
 |[],K=>K
 |j::r,K=>ξ ops[j]? λε=>cond (Ex c ε) (VG c ops ε ν w (recheck c ops ν w r K)) (recheck c ops ν w r K)
def sQ(c:cW)(n:Nat)(ops:List Oper)(Q:cX->ao)(X:List PanicEntry->ao):Nat->List Nat->List Nat->cX->ao
 |0,_,_,_,_=>False
 |k+1,set,sure,ν,w=>match UJ c ops set with
  |some i=>ξ ops[i]? λε=>Bv ops ε.guard ν
   (λν=>uk c ε ν w λv=>tc n ε.dst v ν λν=>sQ c n ops Q X k (i::set) sure ν w)
   (λν=>tc n ε.dst undef ν λν=>sQ c n ops Q X k (i::set) sure ν w)
  |none=>match KA ops set with
   |[]=>Q ν w
   |es=>Ba (λi=>ξ ops[i]? λε=>Bv ops ε.guard ν
    (λν=>DA c ε ν w (λv w'=>recheck c ops ν w' (set.filter λj=>!(ya ops 200 (dep ε) sure).contains j) (tc n ε.dst v ν λν=>sQ c n ops Q X k (i::set) (i::ya ops 200 (dep ε) sure) ν w')) X)
    (λν=>tc n ε.dst undef ν λν=>sQ c n ops Q X k (i::set) (i::ya ops 200 (dep ε) sure) ν w)) es
section
variable{ops:List Oper}{a av:Act}{ε:Oper}
theorem aln{x:Operand}(h:∀t,x=.tmp t->a.tmps[t]?=av.tmps[t]?):a.eval x=av.eval x:=by
 cases x with
 |tmp t=>simp only[Act.eval,Fc,h t rfl]
 |_=>rfl
theorem Zt(ω:HG ε=true)(h:∀d,d∈ε.looksAt ops.toArray->a.tmps[d]?=av.tmps[d]?):execOp a.eval ε=execOp av.eval ε:=by refine execOp_congr ε (λcs b ψ=>by simp[HG,ψ]at ω) λx I=>aln λt aP=>h t ?_;subst aP;exact Vz _ (uQ.2 ⟨.tmp t,by simpa using I,rfl⟩)
theorem ahi(h:∀d,d∈ε.looksAt ops.toArray->a.tmps[d]?=av.tmps[d]?):Region.wanted ε (yielded ops.toArray a.tmps)=Region.wanted ε (yielded ops.toArray av.tmps):=by
 unfold Region.wanted;cases bJ:ε.guard with
 |none=>rfl
 |some alW=>
  obtain⟨g,want⟩:=alW
  have:yielded ops.toArray a.tmps g=yielded ops.toArray av.tmps g:=by
   unfold yielded;cases aP:(ops.toArray[g]?).bind (·.dst)with
   |none=>rfl
   |some t=>
    have:=h t (List.mem_append_right _ (by simp only[bJ];rw[aP];simp))
    simp only[Option.bind_some,this]
  simp only[this]
theorem Ay{d:Option Nat}{v:Value}{j:Nat}(h:d≠some j):(a.put d v).tmps[j]?=a.tmps[j]?:=by
 cases d with
 |none=>rfl
 |some e=>
  have:e≠j:=λx=>h (by rw[x])
  simp[Act.put,Array.getElem?_setIfInBounds_ne this]
theorem KU{d:Nat}{v:Value}(h:d<a.tmps.size):(a.put (some d) v).tmps[d]?=some v:=by simp[Act.put,h]
theorem KV{d:Option Nat}{v:Value}:(a.put d v).tmps.size=a.tmps.size:=by cases d<;>simp[Act.put]
theorem put_defers{d:Option Nat}{v:Value}:(a.put d v).defers=a.defers:=by cases d<;>rfl
def slot(a:Act)(d:Option Nat):Value:=(d.bind λd=>a.tmps[d]?).getD undef
theorem adv(ω:a.tmps.size=av.tmps.size)(d:Option Nat)(v:Value):a.put d (slot (av.put d v) d)=a.put d v:=by
 cases d with
 |none=>rfl
 |some d=>
  by_cases h:d<av.tmps.size
  ·simp[slot,KU h]
  ·have ι:¬d<a.tmps.size:=by omega
   unfold Act.put;simp only;rw[Array.setIfInBounds_eq_of_size_le (by omega),Array.setIfInBounds_eq_of_size_le (by omega)]
theorem apo{X:List PanicEntry->ao}:¬LetsOut (λe _ w=>∃cQ,e=Exit.panic cQ/\X cQ w):=by rintro⟨a,w,cQ,h,_⟩;cases h
theorem av4{P:Program}{w:World}{K:Act->ao}{X:List PanicEntry->ao}{Q:Exit->Act->ao}(he:execOp a.eval ε=execOp av.eval ε)(ω:a.tmps.size=av.tmps.size)(e5:∀cQ w',X cQ w'->Q (.panic cQ) a w')
  (h:ε.wp P av w (λfy w'=>fy.defers=av.defers/\K (a.put ε.dst (slot fy ε.dst)) w') λe _ w'=>∃cQ,e=.panic cQ/\X cQ w'):ε.wp P a w K Q:=by
 unfold Oper.wp at*;rw[he];generalize(execOp av.eval ε).run P w=r at h⊢;have key:∀v w',(av.put ε.dst v).defers=av.defers/\K (a.put ε.dst (slot (av.put ε.dst v) ε.dst)) w'->K (a.put ε.dst v) w':=λv w' h=>by rw[adv ω]at h;exact h.2
 cases r with
 |ok x w'=>
  cases x with
  |value v=>exact key _ _ h
  |skip=>exact key _ _ h
  |defer d=>
   exfalso;have h1:(({av with defers:=d::av.defers}:Act).put ε.dst undef).defers=av.defers:=h.1;rw[put_defers]at h1
   have:=gP List.length h1
   simp at this
  |enter f args=>
   simp only[Oper.upon]at h⊢;refine Calls.mono h λe hN he=>?_;cases e with
   |returned v=>exact key _ _ he
   |panicked cQ=>
    obtain⟨ajU,aO,bE⟩:=he;cases aO;exact e5 _ _ bE
   |outgrown=>exact(apo he).elim
  |row r args=>
   simp only[Oper.upon]at h⊢;exact Rows.mono h λv hN he=>key _ _ he
  |_=>exact h.elim
 |halt x w'=>
  cases x with
  |panic v=>
   obtain⟨cQ,aO,bE⟩:=h;cases aO;exact e5 _ _ bE
  |_=>exact h.elim
end
def xZ(c:cW)(ops:List Oper)(ε:Oper)(v:Value)(a:Act)(H:Array Obj):Prop:=
 (Region.wanted ε (yielded ops.toArray a.tmps)=true/\Yields c ε a H v)\/(Region.wanted ε (yielded ops.toArray a.tmps)=false/\v=undef)
theorem xZ.same{c:cW}{ops:List Oper}{ε:Oper}{v:Value}{a av:Act}{H:Array Obj}(ω:HG ε=true)(h:∀d,d∈ε.looksAt ops.toArray->a.tmps[d]?=av.tmps[d]?)(hw:xZ c ops ε v av H):xZ c ops ε v a H:=by unfold xZ Yields at*;rw[Zt ω h,ahi h];exact hw
theorem xZ.wpOp{c:cW}{ops:List Oper}{ε:Oper}{v:Value}{a:Act}{w:World}{i:Nat}(o:ops[i]?=some ε)(h:xZ c ops ε v a w.heap){K:Act->ao}{Q:Exit->Act->ao}(iS:K (a.put ε.dst v) w):Go.wpOp c.P ops.toArray Q i K a w:=by
 unfold Go.wpOp;have kX:ops.toArray[i]?=some ε:=by simpa using o
 simp only[kX];rcases h with⟨hw,aJ⟩|⟨hw,rfl⟩
 ·rw[aS hw];exact .inl (aJ.wp iS)
 ·rw[aM (by simp[hw])];exact iS
def Ord(ops:List Oper):List Nat->Prop
 |[]=>True
 |i::t=>(∃ε,ops[i]?=some ε/\∀e∈dep ε,e∈t)/\Ord ops t
theorem EL{ops:List Oper}(h:vN ops=true){i:Nat}{ε:Oper}(o:ops[i]?=some ε):
  HG ε=true/\(∀d∈ε.looksAt ops.toArray,∀j hb,ops[j]?=some hb->hb.dst=some d->j∈dep ε\/(i∈dep hb/\zE ops j=true))/\(∀j hb,ops[j]?=some hb->i≠j->∀d,ε.dst=some d->hb.dst≠some d):=by
 have bM:i<ops.length:=(List.getElem?_eq_some_iff.1 o).1
 have:=Cb.1 h i (ns.2 bM)
 rw[o]at this;simp only[kx]at this;obtain⟨⟨h1,ι⟩,aG⟩:=this;refine⟨h1,λd af j hb φ rK=>?_,λj hb φ ca d af rK=>?_⟩
 ·have:=Cb.1 (Cb.1 ι d af) j (ns.2 (List.getElem?_eq_some_iff.1 φ).1)
  rw[φ]at this;simp only[M6,rK,Ca,uO,Bool.false_or,Bool.or_eq_true,kx]at this;rcases this with this|⟨this,cq⟩
  ·exact .inl (by simpa using this)
  ·exact .inr ⟨by simpa using this,cq⟩
 ·have:=Cb.1 aG j (ns.2 (List.getElem?_eq_some_iff.1 φ).1)
  rw[φ]at this;simp only[af,M6,rK,Ca,uO,Bool.or_false]at this;exact ca (xy this)
def aZ(F:(Value->Prop)->Prop):Prop:=∀K,F K->∃v,K v/\∀rl:Value->Prop,rl v->F rl
section
variable{α:Type}
theorem aZ.one(v:Value):aZ λK=>K v:=λK h=>⟨v,h,λ_ h=>h⟩
theorem aZ.no:aZ λ_=>False:=λK h=>h.elim
theorem aZ.ο{b:Bool}{G:(Value->Prop)->Prop}(h:aZ G):aZ λK=>bO.ο b (G K):=λK hk=>by obtain⟨ψ,hk⟩:=hT hk;obtain⟨v,aJ,f⟩:=h K hk;exact⟨v,aJ,λrl fU=>bL ψ (f rl fU)⟩
theorem aZ.cond{b:Bool}{G Xk:(Value->Prop)->Prop}(h:aZ G)(fU:aZ Xk):aZ λK=>_root_.cond b (G K) (Xk K):=by cases b<;>assumption
theorem aZ.ξ{x:Option α}{G:α->(Value->Prop)->Prop}(h:∀v,aZ (G v)):aZ λK=>bO.ξ x λv=>G v K:=by
 cases x with
 |none=>exact aZ.no
 |some v=>exact h v
theorem aZ.ez{ν:cX}{x:Operand}{G:Value->(Value->Prop)->Prop}(h:∀v,aZ (G v)):aZ λK=>bO.ez ν x λv=>G v K:=by
 cases x with
 |tmp t=>exact aZ.ξ h
 |_=>exact h _
theorem aZ.oN{ν:cX}:∀{xs:List Operand}{G:aU->(Value->Prop)->Prop},(∀v,aZ (G v))->aZ λK=>bO.oN ν xs λv=>G v K
 |[],G,h=>h []
 |x::r,G,h=>aZ.ez (G:=λv K=>bO.oN ν r λvs=>G (v::vs) K) λv=>aZ.oN (G:=λvs=>G (v::vs)) λvs=>h _
theorem aZ.Ar{ν:cX}{x:Option Operand}{G:Option Value->(Value->Prop)->Prop}(h:∀v,aZ (G v)):aZ λK=>bO.Ar ν x λv=>G v K:=by
 cases x with
 |none=>exact h none
 |some x=>exact aZ.ez λv=>h (some v)
theorem aZ.br{k:IntKind}{x:Value}{G:Int->(Value->Prop)->Prop}(h:∀v,aZ (G v)):aZ λK=>bO.br k x λv=>G v K:=by cases x<;>first|exact aZ.no|exact aZ.ο (h _)
theorem aZ.dw{x:Value}{G:Bool->(Value->Prop)->Prop}(h:∀v,aZ (G v)):aZ λK=>bO.dw x λv=>G v K:=by cases x<;>first|exact aZ.no|exact h _
theorem aZ.cN{x:Value}{G:J->Nat->Nat->(Value->Prop)->Prop}(h:∀a n c,aZ (G a n c)):aZ λK=>bO.cN x λa n c=>G a n c K:=by cases x<;>first|exact aZ.no|exact h _ _ _
theorem aZ.gX{x:Value}{G:J->(Value->Prop)->Prop}(h:∀v,aZ (G v)):aZ λK=>bO.gX x λv=>G v K:=by cases x<;>first|exact aZ.no|exact h _
theorem aZ.dq{x:Value}{G:ag->(Value->Prop)->Prop}(h:∀v,aZ (G v)):aZ λK=>bO.dq x λv=>G v K:=by cases x<;>first|exact aZ.no|exact h _
theorem aZ.b0{x:Value}{G:ag->(Value->Prop)->Prop}(h:∀v,aZ (G v)):aZ λK=>bO.b0 x λv=>G v K:=by cases x<;>first|exact aZ.no|exact h _
theorem aZ.nK{x:Value}{G:ByteArray->(Value->Prop)->Prop}(h:∀v,aZ (G v)):aZ λK=>bO.nK x λv=>G v K:=by cases x<;>first|exact aZ.no|exact h _
theorem aZ.pQ{x:Value}{G:Option Nat->(Value->Prop)->Prop}(h:∀v,aZ (G v)):aZ λK=>bO.pQ x λv=>G v K:=by cases x<;>first|exact aZ.no|exact h _
theorem aZ.wI{x:Value}{G:Nat->(Value->Prop)->Prop}(h:∀v,aZ (G v)):aZ λK=>bO.wI x λv=>G v K:=by cases x<;>first|exact aZ.no|(rename_i k _;cases k<;>first|exact aZ.no|exact h _)
theorem aZ.lq{x:Value}{G:Nat->Nat->(Value->Prop)->Prop}(h:∀a b,aZ (G a b)):aZ λK=>bO.lq x λa b=>G a b K:=by cases x<;>first|exact aZ.no|(rename_i k _ _;cases k<;>first|exact aZ.no|exact h _ _)
theorem Y3{d:TypeDesc}{v:Value}:aZ (ye d v):=by
 cases d<;>first
  |exact aZ.br λ_=>aZ.one _
  |exact aZ.dw λ_=>aZ.one _
  |exact aZ.nK λ_=>aZ.one _
  |exact aZ.wI λ_=>aZ.one _
  |exact aZ.lq λ_ _=>aZ.one _
  |exact aZ.cN λ_ _ _=>aZ.one _
  |exact aZ.gX λ_=>aZ.one _
  |exact aZ.pQ λ_=>aZ.one _
  |exact aZ.dq λ_=>aZ.one _
  |exact aZ.b0 λ_=>aZ.one _
  |exact aZ.one _
theorem ajC{op:BinOp}{k:IntKind}{a b:Int}:aZ (MI op k a b):=by cases op<;>first|exact aZ.no|exact aZ.one _|exact aZ.ο (aZ.one _)
theorem ajG{op:BinOp}{k:IntKind}{a b:Int}:aZ (MJ op k a b):=by cases op<;>first|exact aZ.no|exact aZ.ο (aZ.one _)
theorem MF{op:BinOp}{r:Bool}:aZ (zC op r):=by cases op<;>first|exact aZ.no|exact aZ.one _
theorem as9{op:BinOp}{a b:ByteArray}:aZ (V7 op a b):=by cases op<;>first|exact aZ.no|exact aZ.one _|exact aZ.ο (aZ.one _)
theorem ajE{d:TypeDesc}{op:BinOp}{x y:Value}:aZ (Jf d op x y):=by
 intro K h;unfold Jf at h;split at h
 ·exact aZ.cond ajG (aZ.ο ajC) K h
 ·exact aZ.ο (aZ.one _) K h
 ·cases op<;>first|exact aZ.ξ (G:=λr K=>bO.ξ _ λi=>K (.complex .f64 r i)) (λ_=>aZ.ξ λ_=>aZ.one _) K h|exact MF K h
 ·exact as9 K h
 ·split at h
  ·exact MF K h
  ·exact h.elim
 ·split at h
  ·exact MF K h
  ·exact h.elim
 ·split at h
  ·exact MF K h
  ·exact h.elim
 ·exact h.elim
theorem ala{P:Program}{op:BinOp}{t:TypeId}{Me Mg:Operand}{x y:Value}:aZ (Zp P op t Me Mg x y):=λK⟨b,ψ,h⟩=>⟨_,h,λrl fU=>⟨b,ψ,fU⟩⟩
theorem avD{op:UnOp}{x:Value}:aZ (P7 op x):=by cases op<;>cases x<;>first|exact aZ.no|exact aZ.one _
theorem ap3{x:Value}:aZ (UK x):=by cases x<;>first|exact aZ.no|exact aZ.ξ λ_=>aZ.one _|(rename_i f _ _;cases f<;>first|exact aZ.no|exact aZ.one _)
theorem adf{c:cW}{t:TypeId}{cs:ag}{off:Nat}:aZ (OK c t cs off):=aZ.ξ λi=>aZ.cond (aZ.one _) (aZ.ξ λ_=>Y3)
theorem alx{c:cW}{t:TypeId}{x:Value}{f:Nat}:aZ (Sf c t x f):=
 aZ.dq λcs=>aZ.ξ λi=>by generalize i.desc=d;cases d<;>first|exact aZ.no|exact aZ.ξ λ_=>adf
theorem alu{c:cW}{t:TypeId}{x:Value}{f:Nat}:aZ (Se c t x f):=
 aZ.gX λcs=>aZ.ξ λa=>aZ.ξ λi=>by generalize i.desc=d;cases d<;>first|exact aZ.no|exact aZ.ξ λ_=>aZ.ξ λ_=>aZ.ο (aZ.one _)
theorem aoZ{c:cW}{t:TypeId}{x k2:Value}:aZ (Oa c t x k2):=by
 cases k2<;>first
  |exact aZ.no
  |(refine aZ.ο (aZ.ξ λi=>?_)
    generalize i.desc=d
    cases d<;>first
      |exact aZ.no
      |exact aZ.gX λp=>aZ.ξ λa=>aZ.ο (aZ.ξ λei=>aZ.one _)
      |exact aZ.cN λp n m=>aZ.ο (aZ.ξ λa=>aZ.ξ λei=>aZ.one _))
theorem ao1{c:cW}{t:TypeId}{x k2:Value}:aZ (Oc c t x k2):=by
 cases k2<;>first
  |exact aZ.no
  |(refine aZ.ο (aZ.ξ λi=>?_)
    generalize i.desc=d
    cases d<;>first
      |exact aZ.no
      |exact aZ.dq λcs=>aZ.ο (aZ.ξ λei=>adf)
      |exact aZ.nK λs=>aZ.ξ λb=>aZ.one _)
theorem Tn{o:Option Value}{n m:Nat}{G:Nat->(Value->Prop)->Prop}(h:∀v,aZ (G v)):aZ λK=>D1 o n m λv=>G v K:=by
 intro K hk;unfold D1 at hk;split at hk
 ·exact h _ K hk
 ·exact aZ.ο (aZ.ο (h _)) K hk
 ·exact hk.elim
theorem Hv{eT:Option Value}{n:Nat}{G:Nat->(Value->Prop)->Prop}(h:∀v,aZ (G v)):aZ λK=>s3 eT n λv=>G v K:=by
 intro K hk;unfold s3 at hk;split at hk
 ·exact h _ K hk
 ·exact aZ.ο (aZ.ο (h _)) K hk
 ·exact hk.elim
theorem asN{c:cW}{t:TypeId}{x:Value}{eT o:Option Value}:aZ (V3 c t x eT o):=
 aZ.ξ λi=>by
  generalize i.desc=d;cases d<;>first
   |exact aZ.no
   |exact aZ.nK λs=>Tn λh=>Hv λl=>aZ.one _
   |exact aZ.cN λa n m=>aZ.ξ λei=>Tn λh=>Hv λl=>aZ.one _
   |exact aZ.gX λp=>aZ.ξ λa=>aZ.ξ λei=>Tn λh=>Hv λl=>aZ.one _
theorem asL{c:cW}{t:TypeId}{x:Value}{eT:Option Value}{o s4:Value}:aZ (V2 c t x eT o s4):=
 aZ.ξ λi=>by
  generalize i.desc=d;cases d<;>first
   |exact aZ.no
   |exact aZ.cN λa n m=>aZ.ξ λei=>Hv λm=>Hv λh=>Hv λl=>aZ.one _
theorem apm{c:cW}{t:TypeId}{x:Value}:aZ (Uu c t x):=
 aZ.ξ λi=>by
  generalize i.desc=d;cases d<;>first
   |exact aZ.no
   |exact aZ.one _
   |exact aZ.nK λs=>aZ.one _
   |exact aZ.cN λa n m=>aZ.one _
theorem aqF{ν:cX}{x:Operand}{K:Value->Prop}(h:ez ν x K):∃v,(∀rl:Value->Prop,rl v->ez ν x rl)/\K v:=by
 cases x with
 |tmp t=>
  obtain⟨v,e,h⟩:=di h;exact⟨v,λrl fU=>gG e fU,h⟩
 |const v=>exact⟨v,λrl fU=>fU,h⟩
 |global g=>exact⟨_,λrl fU=>fU,h⟩
 |func f=>exact⟨_,λrl fU=>fU,h⟩
theorem ajJ{c:cW}{b:Builtin}{gh:Array TypeId}{xs:aU}:aZ (Jg c b gh xs):=by
 intro K hk;unfold Jg at hk;split at hk<;>try exact hk.elim
 ·split at hk
  ·exact aZ.ξ (λ_=>apm) K hk
  ·exact hk.elim
 ·split at hk
  ·exact aZ.lq (λ_ _=>aZ.one _) K hk
  ·exact hk.elim
 ·split at hk
  ·exact aZ.lq (λ_ _=>aZ.one _) K hk
  ·exact hk.elim
 ·split at hk
  ·exact aZ.wI (λ_=>aZ.wI λ_=>aZ.one _) K hk
  ·exact hk.elim
 ·split at hk
  ·exact aZ.one _ K hk
  ·exact hk.elim
 ·split at hk
  ·exact aZ.one _ K hk
  ·exact hk.elim
 ·split at hk
  ·refine aZ.ξ (λt=>aZ.ξ λi=>?_) K hk;generalize i.desc=d;cases d<;>first|exact aZ.no|exact aZ.cN λ_ _ _=>aZ.one _
  ·exact hk.elim
theorem als{k:IntKind}{b:Nat}:aZ (Zu k b):=aZ.ξ λn=>aZ.ο (aZ.ο (aZ.one _))
theorem ake{c:cW}{s d:TypeId}(hm:(match eF c.tb d with|some j=>(match j.desc with| .int _=>false| .float _=>false|_=>true)|none=>true)=false){x:Value}{w:World}{K:Value->Prop}(h:Jl c s d x w K):
  ∃v,K v/\∀w',Jl c s d x w' λq9=>q9=v:=by
 unfold Jl at h⊢;obtain⟨i,o,h⟩:=di h;obtain⟨j,φ,h⟩:=di h;rw[φ]at hm;simp only at hm;split at h
 ·rename_i k af;split at h
  ·exact⟨_,h,λw'=>gG o (gG φ (by rw[af]))⟩
  ·obtain⟨v,aJ,f⟩:=als K h;exact⟨v,aJ,λw'=>gG o (gG φ (by rw[af];exact f (λq9=>q9=v) rfl))⟩
  ·exact h.elim
 ·rename_i af;split at h
  ·exact⟨_,h,λw'=>gG o (gG φ (by rw[af]))⟩
  ·exact h.elim
 ·rename_i af;rw[af]at hm;exact absurd hm (by decide)
 ·exact h.elim
theorem alh{c:cW}{ε:Oper}(hm:Ex c ε=false){ν:cX}{w:World}{K:Value->Prop}(h:uk c ε ν w K):∃v,K v/\∀w',uk c ε ν w' λq9=>q9=v:=by
 unfold uk at h⊢;unfold Ex at hm;have use:∀{F:(Value->Prop)->Prop},aZ F->F K->∃v,K v/\∀_:World,F λq9=>q9=v:=λaf bg=>by obtain⟨v,aJ,f⟩:=af K bg;exact⟨v,aJ,λ_=>f _ rfl⟩
 generalize ε.op=p at h hm⊢;cases p<;>simp only at hm<;>first
  |exact absurd hm (by decide)
  |exact h.elim
  |exact use (aZ.ez λ_=>aZ.one _) h
  |exact use (aZ.ez λ_=>ap3) h
  |exact use (aZ.ez λ_=>avD) h
  |exact use (aZ.ez λ_=>alu) h
  |exact use (aZ.ez λ_=>alx) h
  |exact use (aZ.ez λ_=>aZ.ez λ_=>aoZ) h
  |exact use (aZ.ez λ_=>aZ.ez λ_=>ao1) h
  |exact use (aZ.ez λ_=>aZ.ez λ_=>aZ.cond (aZ.ξ λ_=>ajE) ala) h
  |exact use (aZ.ez λ_=>aZ.b0 λ_=>aZ.ξ λ_=>aZ.ξ λ_=>Y3) h
  |exact use (aZ.oN λ_=>aZ.oN λ_=>aZ.one _) h
  |exact use (aZ.ez λ_=>aZ.dw λ_=>aZ.cond (aZ.ez λ_=>aZ.one _) (aZ.ez λ_=>aZ.one _)) h
  |skip
 ·obtain⟨x,I,h⟩:=aqF h;obtain⟨v,aJ,f⟩:=ake hm h;exact⟨v,aJ,λw'=>I _ (f w')⟩
 ·rename_i t x eT o s4;cases s4 with
  |none=>exact use (aZ.ez λx=>aZ.Ar λeT=>aZ.Ar λo=>asN) h
  |some m=>
   cases o with
   |none=>exact h.elim
   |some o=>exact use (aZ.ez λx=>aZ.Ar λeT=>aZ.ez λo=>aZ.ez λs4=>asL) h
 ·rename_i cl;simp only at h⊢;cases fV:cl.callee with
  |builtin b=>
   rw[fV]at h hm;simp only at h hm⊢;exact use (aZ.oN λxs=>ajJ) h
  |_=>rw[fV]at h;exact h.elim
end
def vl(c:cW)(ops:List Oper)(ε:Oper)(v:Value)(a:Act)(H:Array Obj):Prop:=xZ c ops ε v a H/\(Ex c ε=false->∀Gs,xZ c ops ε v a Gs)
theorem vl.same{c:cW}{ops:List Oper}{ε:Oper}{v:Value}{a av:Act}{H:Array Obj}(ω:HG ε=true)(h:∀d,d∈ε.looksAt ops.toArray->a.tmps[d]?=av.tmps[d]?)(hw:vl c ops ε v av H):vl c ops ε v a H:=
 ⟨hw.1.same ω h,λhm Gs=>(hw.2 hm Gs).same ω h⟩
structure l6(c:cW)(n:Nat)(ops:List Oper)(set sure:List Nat)(ν:cX)(av a:Act)(L:Array Bool)(w:World):Prop where
 rel:Rel n av ν
 Ja:a.defers=[]
 wG:a.tmps.size=n
 xg:L.size=ops.length
 sub:∀i:Nat,L[i]?=some true->i∈set
 ord:Ord ops set
 cU:∀i:Nat,L[i]?=some true->∀ε,ops[i]?=some ε->∀e∈dep ε,L[e]?=some true
 Wb:∀i∈sure,L[i]?=some true
 oz:∀i∈set,L[i]?≠some true->∃ε v,ops[i]?=some ε/\vl c ops ε v av w.heap/\∀d,ε.dst=some d->d<n->av.tmps[d]?=some v
 eqs:∀d,(∀i∈set,L[i]?≠some true->∀ε,ops[i]?=some ε->ε.dst≠some d)->a.tmps[d]?=av.tmps[d]?
 Ou:∀i∈set,L[i]?≠some true->zE ops i=false
theorem Ord.mem{ops:List Oper}:∀{set:List Nat},Ord ops set->∀i∈set,∃ε,ops[i]?=some ε/\∀e∈dep ε,e∈set
 |i::t,⟨⟨ε,aB,af⟩,aP⟩,j,φ=>by
  rcases fA.1 φ with rfl|φ
  ·exact⟨ε,aB,λe he=>hW _ (af e he)⟩
  ·obtain⟨ε,aB,af⟩:=Ord.mem aP j φ;exact⟨ε,aB,λe he=>hW _ (af e he)⟩
theorem apN{ε:Oper}{e:Edge}(he:e∈ε.after)(ψ:Region.binds .any e=true):e.on∈dep ε:=by unfold dep;refine uQ.2 ⟨e,by simpa using he,by rw[ψ];rfl⟩
theorem aks{ε:Oper}{j:Nat}(h:j∈dep ε):∃e,e∈ε.after/\Region.binds .any e=true/\e.on=j:=by
 obtain⟨e,he,φ⟩:=uQ.1 h;cases ψ:Region.binds .any e with
 |true=>rw[ψ]at φ;exact⟨e,by simpa using he,ψ,by simpa using φ⟩
 |false=>rw[ψ]at φ;cases φ
theorem Pg{ops:List Oper}{L:Array Bool}(aj:L.size=ops.length){i:Nat}:
  i∈Region.ready .any ops.toArray L↔L[i]?=some false/\∃ε,ops[i]?=some ε/\∀e∈dep ε,L[e]?=some true:=by
 unfold Region.ready;simp only[mv,ns,fh,kx,Bool.not_eq_true',List.getElem?_toArray];constructor
 ·rintro⟨o,h1,ι⟩;have kX:i<L.size:=by omega
  refine⟨?_,?_⟩
  ·rw[Array.getElem?_eq_getElem kX];rw[Fc,Array.getElem?_eq_getElem kX]at h1;simpa using h1
  ·have aB:ops[i]?=some ops[i]:=List.getElem?_eq_getElem o;rw[aB]at ι;refine⟨_,aB,λj φ=>?_⟩;obtain⟨e,he,ψ,rfl⟩:=aks φ;simp only[iT,OY]at ι
   have:=Array.all_eq_true'.1 ι e he
   rw[ψ]at this;simp only[uO,Bool.false_or,Fc]at this;cases I:L[e.on]?with
   |none=>rw[I]at this;cases this
   |some b=>rw[I]at this;simp at this;rw[this]
 ·rintro⟨h1,ε,aB,af⟩;have o:i<ops.length:=(List.getElem?_eq_some_iff.1 aB).1;refine⟨o,by rw[Fc,h1];rfl,?_⟩;rw[aB];simp only[iT,OY];refine Array.all_eq_true'.2 λe he=>?_;cases ψ:Region.binds .any e with
  |false=>rfl
  |true=>
   have:=af _ (apN he ψ)
   rw[Fc,this];rfl
theorem Ld{ops:List Oper}{set:List Nat}{i:Nat}:xB ops set i=true↔i∉set/\∃ε,ops[i]?=some ε/\∀e∈dep ε,e∈set:=by
 unfold xB;cases aB:ops[i]?with
 |none=>simp
 |some ε=>simp
section
variable{c:cW}{n:Nat}{ops:List Oper}{set sure:List Nat}{ν:cX}{av a:Act}{L:Array Bool}{w:World}
theorem l6.agK(g:l6 c n ops set sure ν av a L w){i:Nat}(h:i∉set):L[i]?≠some true:=λe=>h (g.sub i e)
theorem l6.ajp(g:l6 c n ops set sure ν av a L w)(h:Region.ready .any ops.toArray L=[]):∀i∈set,L[i]?=some true:=by
 have key:∀s:List Nat,Ord ops s->∀i∈s,L[i]?=some true:=by
  intro s
  induction s with
  |nil=>intro _ i o;cases o
  |cons j t ch=>
   rintro⟨⟨ε,aB,af⟩,aP⟩ i o;rcases fA.1 o with rfl|o
   ·have bM:i<L.size:=by rw[g.xg];exact(List.getElem?_eq_some_iff.1 aB).1
    cases I:L[i]?with
    |none=>rw[Array.getElem?_eq_none_iff]at I;omega
    |some b=>
     cases b with
     |true=>rfl
     |false=>
      have:i∈Region.ready .any ops.toArray L:=(Pg g.xg).2 ⟨I,ε,aB,λe he=>ch aP e (af e he)⟩
      rw[h]at this;cases this
   ·exact ch aP i o
 exact key set g.ord
theorem l6.look(g:l6 c n ops set sure ν av a L w)(dt:vN ops=true){i:Nat}{ε:Oper}(aB:ops[i]?=some ε)(af:∀e∈dep ε,L[e]?=some true):∀d,d∈ε.looksAt ops.toArray->a.tmps[d]?=av.tmps[d]?:=by
 intro d aj;refine g.eqs d λj φ ml hb je rK=>ml ?_;rcases(EL dt aB).2.1 d aj j hb je rK with h|⟨_,h⟩
 ·exact af j h
 ·rw[g.Ou j φ ml]at h;cases h
theorem l6.settle(g:l6 c n ops set sure ν av a L w)(dt:vN ops=true){i:Nat}(υ:xB ops set i=true){ε:Oper}(aB:ops[i]?=some ε){v:Value}{fC:cX}(Eb:Rel n (av.put ε.dst v) fC)(hw:vl c ops ε v av w.heap)(aC:zE ops i=false):
  l6 c n ops (i::set) sure fC (av.put ε.dst v) a L w:=by
 obtain⟨o,hD,jF,af⟩:=Ld.1 υ;rw[aB]at jF;cases jF;obtain⟨a1,bP,cd⟩:=EL dt aB;have ml:L[i]?≠some true:=g.agK o;refine⟨Eb,g.Ja,g.wG,g.xg,λj φ=>hW _ (g.sub j φ),⟨⟨ε,aB,af⟩,g.ord⟩,g.cU,g.Wb,?_,?_,λj φ hu=>?_⟩
 ·intro j φ hu;rcases fA.1 φ with rfl|φ
  ·refine⟨ε,v,aB,hw.same a1 λd aj=>Ay λe=>?_,λd rK bM=>?_⟩
   ·rcases bP d aj _ ε aB e with h|⟨h,_⟩<;>exact o (af _ h)
   ·rw[rK];exact KU (by rw[g.rel.2.1];exact bM)
  ·obtain⟨hb,u,je,T1,N0⟩:=g.oz j φ hu;obtain⟨aqw,J6,S9⟩:=g.ord.mem j φ;rw[je]at J6;cases J6;obtain⟨m1,m2,m3⟩:=EL dt je;refine⟨hb,u,je,T1.same m1 λd aj=>Ay λe=>?_,λd rK bM=>?_⟩
   ·rcases m2 d aj i ε aB e with h|⟨_,h⟩
    ·exact o (S9 _ h)
    ·rw[aC]at h;cases h
   ·rw[Ay λe=>?_]
    ·exact N0 d rK bM
    ·exact m3 i ε aB (λe=>o (e▸φ)) d rK e
 ·intro d vz;have ca:ε.dst≠some d:=vz i (n2 ..) ml ε aB;rw[Ay ca];exact g.eqs d λj φ hu=>vz j (hW _ φ) hu
 ·rcases fA.1 φ with rfl|φ
  ·exact aC
  ·exact g.Ou j φ hu
theorem Im{i j:Nat}(h:(L.setIfInBounds i true)[j]?=some true):j=i\/L[j]?=some true:=by
 rw[Array.getElem?_setIfInBounds]at h;by_cases e:i=j
 ·exact .inl e.symm
 ·rw[aM e]at h;exact .inr h
theorem yj{i j:Nat}(h:L[j]?=some true):(L.setIfInBounds i true)[j]?=some true:=by
 rw[Array.getElem?_setIfInBounds];by_cases e:i=j
 ·subst e
  have:i<L.size:=(Array.getElem?_eq_some_iff.1 h).1
  rw[aS rfl,aS this]
 ·rw[aM e];exact h
theorem Sx{i:Nat}(h:i<L.size):(L.setIfInBounds i true)[i]?=some true:=by rw[Array.getElem?_setIfInBounds,aS rfl,aS h]
theorem l6.list(g:l6 c n ops set sure ν av a L w)(dt:vN ops=true){i:Nat}{ε:Oper}(aB:ops[i]?=some ε)(o:i∈set)(hu:L[i]?≠some true)(af:∀e∈dep ε,L[e]?=some true):
  ∃v,xZ c ops ε v a w.heap/\l6 c n ops set sure ν av (a.put ε.dst v) (L.setIfInBounds i true) w:=by
 obtain⟨hD,v,jF,hw,ω⟩:=g.oz i o hu;rw[aB]at jF;cases jF;have bM:i<L.size:=by rw[g.xg];exact(List.getElem?_eq_some_iff.1 aB).1
 refine⟨v,(hw.same (EL dt aB).1 (g.look dt aB af)).1,g.rel,by rw[put_defers];exact g.Ja,by rw[KV];exact g.wG,by simp[g.xg],?_,g.ord,?_,λj φ=>yj (g.Wb j φ),?_,?_,λj φ ml=>g.Ou j φ λe=>ml (yj e)⟩
 ·intro j φ;rcases Im φ with rfl|φ
  ·exact o
  ·exact g.sub j φ
 ·intro j φ hb je e he;rcases Im φ with rfl|φ
  ·rw[aB]at je;cases je;exact yj (af e he)
  ·exact yj (g.cU j φ hb je e he)
 ·intro j φ ml;exact g.oz j φ λe=>ml (yj e)
 ·intro d S8;by_cases e:ε.dst=some d
  ·rw[e];by_cases ax:d<n
   ·rw[KU (by rw[g.wG];exact ax),ω d e ax]
   ·rw[Array.getElem?_eq_none (by rw[KV,g.wG];exact H3 ax),Array.getElem?_eq_none (by rw[g.rel.2.1];exact H3 ax)]
  ·rw[Ay e];refine g.eqs d λj φ ml hb je=>?_;by_cases D2:j=i
   ·subst D2;rw[aB]at je;cases je;exact e
   ·refine S8 j φ (λh=>?_) hb je;rcases Im h with h|h
    ·exact D2 h
    ·exact ml h
theorem Rt(π:∀i:Nat,L[i]?=some true->∀ε,ops[i]?=some ε->∀e∈dep ε,L[e]?=some true):∀(k:Nat)(todo acc:List Nat),(∀i∈todo,L[i]?=some true)->(∀i∈acc,L[i]?=some true)->∀i∈ya ops k todo acc,L[i]?=some true
 |0,_,acc,_,aQ=>aQ
 |_+1,[],acc,_,aQ=>aQ
 |k+1,i::r,acc,aP,aQ=>by
  unfold ya;cases acc.contains i with
  |true=>exact Rt π k r acc (λj φ=>aP j (hW _ φ)) aQ
  |false=>
   refine Rt π k _ _ (λj φ=>?_) λj φ=>?_
   ·rcases iG.1 φ with φ|φ
    ·cases aB:ops[i]?with
     |none=>rw[aB]at φ;cases φ
     |some ε=>rw[aB]at φ;exact π i (aP i (n2 ..)) ε aB j φ
    ·exact aP j (hW _ φ)
   ·rcases fA.1 φ with rfl|φ
    ·exact aP _ (n2 ..)
    ·exact aQ j φ
theorem l6.step(g:l6 c n ops set sure ν av a L w)(dt:vN ops=true){i:Nat}(υ:xB ops set i=true){ε:Oper}(aB:ops[i]?=some ε)(af:∀e∈dep ε,L[e]?=some true){v:Value}{fC:cX}{w':World}(Eb:Rel n (av.put ε.dst v) fC)
  (Kc:∀j∈set,j∉ya ops 200 (dep ε) sure->∀hb,ops[j]?=some hb->∀u,vl c ops hb u av w.heap->(∀d,hb.dst=some d->d<n->av.tmps[d]?=some u)->vl c ops hb u av w'.heap):
  l6 c n ops (i::set) (i::ya ops 200 (dep ε) sure) fC (av.put ε.dst v) (a.put ε.dst v) (L.setIfInBounds i true) w':=by
 obtain⟨o,hD,jF,am9⟩:=Ld.1 υ;rw[aB]at jF;cases jF;obtain⟨a1,bP,cd⟩:=EL dt aB;have bM:i<L.size:=by rw[g.xg];exact(List.getElem?_eq_some_iff.1 aB).1
 have fV:=Rt g.cU 200 (dep ε) sure af g.Wb;refine⟨Eb,by rw[put_defers];exact g.Ja,by rw[KV];exact g.wG,by simp[g.xg],?_,⟨⟨ε,aB,am9⟩,g.ord⟩,?_,?_,?_,?_,λj φ ml=>?_⟩
 ·intro j φ;rcases Im φ with rfl|φ
  ·exact n2 ..
  ·exact hW _ (g.sub j φ)
 ·intro j φ hb je e he;rcases Im φ with rfl|φ
  ·rw[aB]at je;cases je;exact yj (af e he)
  ·exact yj (g.cU j φ hb je e he)
 ·intro j φ;rcases fA.1 φ with rfl|φ
  ·exact Sx bM
  ·exact yj (fV j φ)
 ·intro j φ ml;have hz:j≠i:=λe=>ml (by rw[e];exact Sx bM);have φ:j∈set:=by
   rcases fA.1 φ with h|h
   ·exact(hz h).elim
   ·exact h
  have TS:L[j]?≠some true:=λe=>ml (yj e);obtain⟨hb,u,je,T1,N0⟩:=g.oz j φ TS;obtain⟨aqw,J6,S9⟩:=g.ord.mem j φ;rw[je]at J6;cases J6;obtain⟨m1,m2,m3⟩:=EL dt je;have pc:j∉ya ops 200 (dep ε) sure:=λh=>TS (fV j h);refine⟨hb,u,je,(Kc j φ pc hb je u T1 N0).same m1 λd aj=>Ay λe=>?_,λd rK bM=>?_⟩
  ·rcases m2 d aj i ε aB e with h|⟨h,_⟩
   ·exact o (S9 _ h)
   ·exact TS (af _ h)
  ·rw[Ay λe=>?_]
   ·exact N0 d rK bM
   ·exact m3 i ε aB hz d rK e
 ·intro d S8;by_cases e:ε.dst=some d
  ·rw[e];by_cases ax:d<n
   ·rw[KU (by rw[g.wG];exact ax),KU (by rw[g.rel.2.1];exact ax)]
   ·rw[Array.getElem?_eq_none (by rw[KV,g.wG];exact H3 ax),Array.getElem?_eq_none (by rw[KV,g.rel.2.1];exact H3 ax)]
  ·rw[Ay e,Ay e];refine g.eqs d λj φ ml hb je=>?_;have hz:j≠i:=λe=>o (e▸φ);refine S8 j (hW _ φ) (λh=>?_) hb je;rcases Im h with h|h
   ·exact hz h
   ·exact ml h
 ·have hz:j≠i:=λe=>ml (by rw[e];exact Sx bM);rcases fA.1 φ with h|h
  ·exact(hz h).elim
  ·exact g.Ou j h λe=>ml (yj e)
end
theorem count_set{L:Array Bool}{i:Nat}(h:L[i]?=some false):(L.setIfInBounds i true).toList.count false+1=L.toList.count false:=by
 have bM:i<L.toList.length:=by simpa using(Array.getElem?_eq_some_iff.1 h).1
 rw[Array.toList_setIfInBounds,List.count_set bM];have e:L.toList[i]=false:=by
  have:=(Array.getElem?_eq_some_iff.1 h).2
  simpa using this
 have hm:false∈L.toList:=by rw[<-e];exact hF _
 have:=List.count_pos_iff.2 hm
 rw[e,show(if(false==false)=true then 1 else 0)=1 from rfl,show(if(true==false)=true then 1 else 0)=0 from rfl];omega
theorem akj{L:Array Bool}(h:L.toList.count false=0){i:Nat}:L[i]?≠some false:=by
 intro o;have bM:=(Array.getElem?_eq_some_iff.1 o)
 have:false∈L.toList:=by rw[<-bM.2,<-H4];exact hF _
 exact(List.count_eq_zero.1 h) this
theorem acj{c:cW}{ops:List Oper}{set:List Nat}{i:Nat}(h:UJ c ops set=some i):xB ops set i=true:=by
 have:=List.find?_some h
 simp only[kx]at this;exact this.2
theorem Oo{c:cW}{ops:List Oper}{set:List Nat}{i:Nat}(h:UJ c ops set=some i):zE ops i=false:=by
 have:=List.find?_some h
 simp only[kx]at this;exact arP this.1
theorem ab7{ops:List Oper}{set:List Nat}{i:Nat}:i∈KA ops set↔xB ops set i=true:=by unfold KA;rw[mv,ns];refine⟨λh=>h.2,λh=>⟨?_,h⟩⟩;obtain⟨_,ε,aB,_⟩:=Ld.1 h;exact(List.getElem?_eq_some_iff.1 aB).1
theorem X3{F:bf}:∀{l:List Nat},Ba F l->∀i∈l,F i
 |[j],h,i,o=>by
  have:i=j:=by simpa using o
  subst this;exact h
 |j::k::r,h,i,o=>by
  rcases fA.1 o with rfl|o
  ·exact h.1
  ·exact X3 (l:=k::r) h.2 i o
theorem arZ{c:cW}(π:hh c){n:Nat}{ops:List Oper}{ε:Oper}{ν:cX}{av:Act}(υ:Rel n av ν){H:Array Obj}{w':World}{K:Prop}(hm:Ex c ε=true)(h:VG c ops ε ν w' K):
  K/\∀u,vl c ops ε u av H->(∀d,ε.dst=some d->d<n->av.tmps[d]?=some u)->vl c ops ε u av w'.heap:=by
 have Oq:∀{u}{Gs:Array Obj},xZ c ops ε u av Gs->vl c ops ε u av Gs:=λhw=>⟨hw,λbg=>by rw[hm]at bg;cases bg⟩;unfold VG at h;rcases DE υ h with⟨hw,fC,eC,h⟩|⟨hw,fC,eC,h⟩
 ·have get:∀{d:Nat}{v:Value},ε.dst=some d->fC.get d=some v->∀u,(∀d,ε.dst=some d->d<n->av.tmps[d]?=some u)->v=u:=by
   intro d v af aJ u hu;have h1:=eC.2.2 d v aJ;have bM:d<n:=by rw[<-eC.2.1];exact(Array.getElem?_eq_some_iff.1 h1).1
   have ι:=hu d af bM;rw[h1]at ι;exact AE ι
  split at h
  ·rename_i t x yw;have h:=gC eC h;obtain⟨p,hp,h⟩:=ug h;cases p with
   |none=>exact h.elim
   |some a=>
   change ξ (eF c.tb t) _ at h;obtain⟨i,o,h⟩:=di h;obtain⟨d,af,h⟩:=di h;obtain⟨v,aJ,h⟩:=di h;have pe:=π.fj o;cases aQ:zH i.desc with
   |true=>
    rw[aQ]at h;obtain⟨cs,rfl,h⟩:=yc h;obtain⟨ω,h1,iS⟩:=hT h;refine⟨iS,λu _ hu=>Oq (.inl ⟨hw,?_⟩)⟩;obtain rfl:=get af aJ u hu
    have:=Z0 π pe aQ (b7 ω) h1
    unfold Yields execOp;simp only[yw,hp];exact nW this
   |false=>
    rw[aQ]at h;refine⟨h.2,λu _ hu=>Oq (.inl ⟨hw,?_⟩)⟩;obtain rfl:=get af aJ u hu
    have:=Np π pe aQ h.1
    unfold Yields execOp;simp only[yw,hp];exact nW this
  ·obtain⟨d,af,h⟩:=di h;obtain⟨v,aJ,h⟩:=di h;obtain⟨q9,ah,rfl,iS⟩:=Jt π eC h;refine⟨iS,λu _ hu=>Oq (.inl ⟨hw,?_⟩)⟩;obtain rfl:=get af aJ u hu;exact ah
 ·refine⟨h,λu hu _=>Oq (.inr ⟨hw,?_⟩)⟩;rcases hu.1 with⟨h1,_⟩|⟨_,ι⟩
  ·rw[hw]at h1;cases h1
  ·exact ι
theorem VI{c:cW}(π:hh c){n:Nat}{ops:List Oper}{ν:cX}{av:Act}(υ:Rel n av ν){H:Array Obj}{w':World}:∀{l:List Nat}{K:Prop},recheck c ops ν w' l K->
  K/\∀j∈l,∀ε,ops[j]?=some ε->∀u,vl c ops ε u av H->(∀d,ε.dst=some d->d<n->av.tmps[d]?=some u)->vl c ops ε u av w'.heap
 |[],K,h=>⟨h,λj φ=>by cases φ⟩
 |i::r,K,h=>by
  obtain⟨ε,aB,h⟩:=di h;cases hm:Ex c ε with
  |true=>
   rw[hm]at h;obtain⟨ι,h1⟩:=arZ π υ (H:=H) hm h;obtain⟨iS,aG⟩:=VI π υ (H:=H) ι;refine⟨iS,λj φ hb je=>?_⟩;rcases fA.1 φ with rfl|φ
   ·rw[aB]at je;cases je;exact h1
   ·exact aG j φ hb je
  |false=>
   rw[hm]at h;obtain⟨iS,aG⟩:=VI π υ (H:=H) h;refine⟨iS,λj φ hb je=>?_⟩;rcases fA.1 φ with rfl|φ
   ·rw[aB]at je;cases je
    exactλu hu _=>⟨hu.2 hm _,hu.2⟩
   ·exact aG j φ hb je
section
variable{c:cW}{n:Nat}{ops:List Oper}{set sure:List Nat}{ν:cX}{av a:Act}{L:Array Bool}{w:World}{Q:cX->ao}{X:List PanicEntry->ao}
theorem aeb(π:hh c)(dt:vN ops=true)(g:l6 c n ops set sure ν av a L w){i:Nat}(aC:zE ops i=false)(υ:xB ops set i=true){ε:Oper}(aB:ops[i]?=some ε)(hw:Region.wanted ε (yielded ops.toArray av.tmps)=true){fC:cX}(eC:Rel n av fC){k:Nat}
  (h:uk c ε fC w λv=>tc n ε.dst v fC λν=>sQ c n ops Q X k (i::set) sure ν w):∃h7 v,l6 c n ops (i::set) sure h7 (av.put ε.dst v) a L w/\sQ c n ops Q X k (i::set) sure h7 w:=by
 cases hm:Ex c ε with
 |true=>
  obtain⟨v,ah,h⟩:=Jt π eC h;obtain⟨h7,iK,ι⟩:=vU eC h;exact⟨h7,v,g.settle dt υ aB iK ⟨.inl ⟨hw,ah⟩,λbg=>by rw[hm]at bg;cases bg⟩ aC,ι⟩
 |false=>
  obtain⟨v,h,f⟩:=alh hm h;obtain⟨h7,iK,ι⟩:=vU eC h;have all:∀H,Yields c ε av H v:=λH=>by obtain⟨q9,ah,rfl⟩:=Jt π eC (f {w with heap:=H});exact ah
  exact⟨h7,v,g.settle dt υ aB iK ⟨.inl ⟨hw,all _⟩,λ_ H=>.inl ⟨hw,all H⟩⟩ aC,ι⟩
theorem aea(dt:vN ops=true)(g:l6 c n ops set sure ν av a L w){i:Nat}(aC:zE ops i=false)(υ:xB ops set i=true){ε:Oper}(aB:ops[i]?=some ε)(hw:Region.wanted ε (yielded ops.toArray av.tmps)=false){fC:cX}(eC:Rel n av fC){k:Nat}
  (h:tc n ε.dst undef fC λν=>sQ c n ops Q X k (i::set) sure ν w):∃h7,l6 c n ops (i::set) sure h7 (av.put ε.dst undef) a L w/\sQ c n ops Q X k (i::set) sure h7 w:=by
 obtain⟨h7,iK,ι⟩:=vU eC h;exact⟨h7,g.settle dt υ aB iK ⟨.inr ⟨hw,rfl⟩,λ_ H=>.inr ⟨hw,rfl⟩⟩ aC,ι⟩
theorem last{Q':Exit->Act->ao}(dI:∀a ν w,Rel n a ν->Q ν w->Q' .normal a w)(dt:vN ops=true)(g:l6 c n ops set sure ν av a L w)(Ea:Region.ready .any ops.toArray L=[]){F:List Nat->Prop}
  (h:match KA ops set with|[]=>Q ν w|es=>F es):Q' .normal a w:=by
 have dR:=g.ajp Ea;have wR:KA ops set=[]:=by
  refine VA.2 λi o=>?_;obtain⟨w1,ε,aB,af⟩:=Ld.1 (ab7.1 o);have bM:i<L.size:=by rw[g.xg];exact(List.getElem?_eq_some_iff.1 aB).1
  have Ny:L[i]?=some false:=by
   cases I:L[i]?with
   |none=>rw[Array.getElem?_eq_none_iff]at I;omega
   |some b=>
    cases b with
    |true=>exact(g.agK w1 I).elim
    |false=>rfl
  have:i∈Region.ready .any ops.toArray L:=(Pg g.xg).2 ⟨Ny,ε,aB,λe he=>dR e (af e he)⟩
  rw[Ea]at this;cases this
 rw[wR]at h;refine dI a ν w ⟨g.Ja,g.wG,λd v aJ=>?_⟩ h;rw[g.eqs d λi o hu=>(hu (dR i o)).elim];exact g.rel.2.2 d v aJ
end
theorem Zq{c:cW}(π:hh c){n:Nat}{ops:List Oper}(dt:vN ops=true){Q:cX->ao}{X:List PanicEntry->ao}{Q':Exit->Act->ao}
  (dI:∀a ν w,Rel n a ν->Q ν w->Q' .normal a w)(e5:∀a cQ w,Rel n a []->X cQ w->Q' (.panic cQ) a w):
  ∀(fuel k:Nat)(set sure:List Nat)(ν:cX)(av a:Act)(L:Array Bool)(w:World),l6 c n ops set sure ν av a L w->L.toList.count false<=fuel->sQ c n ops Q X k set sure ν w->wpAny c.P .any ops.toArray Q' fuel L a w:=by
 intro fuel
 induction fuel with
 |zero=>
  intro k
  induction k with
  |zero=>exactλ_ _ _ _ _ _ _ _ _ h=>h.elim
  |succ k ch=>
   intro set sure ν av a L w g G6 h;unfold sQ at h;split at h
   ·rename_i i o;obtain⟨ε,aB,h⟩:=di h;have υ:=acj o;rcases DE g.rel h with⟨hw,fC,eC,h⟩|⟨hw,fC,eC,h⟩
    ·exact(aeb π dt g (Oo o) υ aB hw eC h).elim λh7⟨v,g2,ι⟩=>ch _ _ _ _ _ _ _ g2 G6 ι
    ·exact(aea dt g (Oo o) υ aB hw eC h).elim λh7⟨g2,ι⟩=>ch _ _ _ _ _ _ _ g2 G6 ι
   ·have Ea:Region.ready .any ops.toArray L=[]:=by
     refine VA.2 λi o=>?_;exact akj (Nat.le_zero.1 G6) ((Pg g.xg).1 o).1
    exact⟨Ea,last dI dt g Ea h⟩
 |succ fuel Ua=>
  intro k
  induction k with
  |zero=>exactλ_ _ _ _ _ _ _ _ _ h=>h.elim
  |succ k ch=>
   intro set sure ν av a L w g G6 h;have aD:=h;unfold sQ at h;split at h
   ·rename_i i o;obtain⟨ε,aB,h⟩:=di h;have υ:=acj o;rcases DE g.rel h with⟨hw,fC,eC,h⟩|⟨hw,fC,eC,h⟩
    ·exact(aeb π dt g (Oo o) υ aB hw eC h).elim λh7⟨v,g2,ι⟩=>ch _ _ _ _ _ _ _ g2 G6 ι
    ·exact(aea dt g (Oo o) υ aB hw eC h).elim λh7⟨g2,ι⟩=>ch _ _ _ _ _ _ _ g2 G6 ι
   ·refine⟨λEa=>last dI dt g Ea h,λi o=>?_⟩;obtain⟨Ny,ε,aB,af⟩:=(Pg g.xg).1 o;have ml:L[i]?≠some true:=by rw[Ny];simp
    have BA:=count_set Ny;by_cases w1:i∈set
    ·obtain⟨v,hw,g2⟩:=g.list dt aB w1 ml af;exact hw.wpOp aB (Ua _ _ _ _ _ _ _ _ g2 (by omega) aD)
    ·have υ:xB ops set i=true:=Ld.2 ⟨w1,ε,aB,λe he=>g.sub e (af e he)⟩;have js:=ab7.2 υ;split at h
     ·rename_i BH;rw[BH]at js;cases js
     ·have h:=X3 h i js;obtain⟨hD,jF,h⟩:=di h;rw[aB]at jF;cases jF;have aaZ:=g.look dt aB af;unfold Go.wpOp;have kZ:ops.toArray[i]?=some ε:=by simpa using aB
      simp only[kZ];rw[ahi aaZ];rcases DE g.rel h with⟨hw,fC,eC,h⟩|⟨hw,fC,eC,h⟩
      ·rw[aS hw];refine .inl (av4 (av:=av) (X:=X) (Zt (EL dt aB).1 aaZ) (by rw[g.wG,g.rel.2.1]) (λcQ w' I=>e5 a cQ w' ⟨g.Ja,g.wG,λd v h=>by cases h⟩ I) ?_);refine Js π eC (λv w' hp=>?_) (λcQ w' I=>⟨cQ,rfl,I⟩) h;rw[put_defers,adv (by rw[g.wG,g.rel.2.1])];refine⟨rfl,?_⟩;obtain⟨hp,Kc⟩:=VI π eC (H:=w.heap) hp;obtain⟨h7,iK,ι⟩:=vU eC hp;have wO:l6 c n ops set sure fC av a L w:={g with rel:=eC};refine Ua _ _ _ _ _ _ _ _ (wO.step dt υ aB af iK (w':=w') λj φ pc hb je u hu ω=>Kc j (mv.2 ⟨φ,by simpa using pc⟩) hb je u hu ω) (by omega) ι
      ·rw[aM (by simp[hw])];obtain⟨h7,iK,ι⟩:=vU eC h;have wO:l6 c n ops set sure fC av a L w:={g with rel:=eC};exact Ua _ _ _ _ _ _ _ _ (wO.step dt υ aB af iK (w':=w) λj φ pc hb je u hu ω=>hu) (by omega) ι
inductive jM where
 |leaf
 |seq (a b:jM)
 |cut (b3:List (Nat×c5)) (K:gT Prop b3) (a b:jM)
 |cond (a b:jM)
 |block (a:jM)
 |loop (b3:List (Nat×c5)) (K:gT Prop b3) (body:gT Prop b3->jM)
def jM.left:jM->jM
 | .seq a _=>a
 | .cut _ _ a _=>a
 | .cond a _=>a
 | .block a=>a
 |_=>.leaf
def jM.right:jM->jM
 | .seq _ b=>b
 | .cut _ _ _ b=>b
 | .cond _ b=>b
 |_=>.leaf
abbrev jz:=Exit->cX->ao
def iq(next:cX->ao)(Q:jz):jz
 | .normal,ν,w=>next ν w
 |e,ν,w=>Q e ν w
def sY(id:Nat)(Q:jz):jz
 | .exit yE,ν,w=>cond (Nat.beq yE id) (Q .normal ν w) (Q (.exit yE) ν w)
 |e,ν,w=>Q e ν w
def HE(Q:jz):jz
 | .goto _,_,_=>False
 |e,ν,w=>Q e ν w
def Il(s:jM)(y:cX->ao):cX->ao:=
 match s with
 | .cut b3 K _ _=>gp b3 K
 |_=>y
def ng(c:cW)(n:Nat):Code->jM->jz->cX->ao
 | .skip,_,Q,ν,w=>Q .normal ν w
 | .ret,_,Q,ν,w=>Q .ret ν w
 | .exit id,_,Q,ν,w=>Q (.exit id) ν w
 | .region _ ops Dy,_,Q,ν,w=>cond Dy
  (cond (Region.lexB .any ops&&ops.toList.all (KY c)) (GQ c n ops.toList (λν=>∀k,Q .normal ν (w.drewN k)) w ops.toList ν)
   (ο (vN ops.toList) (sQ c n ops.toList (Q .normal) (λcQ w=>Q (.panic cQ) [] w) (ops.toList.length+1) [] [] ν w.drew)))
  (Nd c n ops.toList (Q .normal) (λν cQ w=>Q (.panic cQ) ν w) ops.toList ν w)
 | .seq x y,s,Q,ν,w=>ng c n x s.left (iq (Il s (ng c n y s.right Q)) Q) ν w
 | .cond p x y,s,Q,ν,w=>ez ν p λv=>dw v λb=>cond b (ng c n x s.left Q ν w) (ng c n y s.right Q ν w)
 | .block id x,s,Q,ν,w=>ng c n x s.left (sY id Q) ν w
 | .scope x,s,Q,ν,w=>ng c n x s.left (HE Q) ν w
 | .label _,_,Q,ν,w=>Q .normal ν w
 | .loop x,.loop b3 K _,Q,ν,w=>gp b3 K ν w
 |_,_,_,_,_=>False
def vM(c:cW)(n:Nat):Code->jM->jz->Prop
 | .seq x y,.cut b3 K uW qj,Q=>vM c n x uW (iq (gp b3 K) Q)/\lg b3 K (ng c n y qj Q) []/\vM c n y qj Q
 | .seq x y,s,Q=>vM c n x s.left (iq (Il s (ng c n y s.right Q)) Q)/\vM c n y s.right Q
 | .cond _ x y,s,Q=>vM c n x s.left Q/\vM c n y s.right Q
 | .block id x,s,Q=>vM c n x s.left (sY id Q)
 | .scope x,s,Q=>vM c n x s.left (HE Q)
 | .loop x,.loop b3 K body,Q=>
  lg b3 K (λν w=>∃(bD:gT Prop b3)(m:gT Nat b3),gp b3 bD ν w/\n9 b3 bD m (λk ν w=>ng c n x (body (lZ b3 bD m k)) (iq (gp b3 (lZ b3 bD m k)) Q) ν w) []) []/\
   ∀C:gT Prop b3,vM c n x (body C) (iq (gp b3 C) Q)
 |_,_,_=>True
def x0(a:Act):cX:=(List.range a.tmps.size).filterMap λi=>(a.tmps[i]?).map λv=>(i,v)
theorem get_filterMap(f:Nat->Option Value):∀(l:List Nat)(d:Nat),cX.get (l.filterMap λi=>(f i).map λv=>(i,v)) d=if d∈l then f d else none
 |[],d=>by simp[cX.get]
 |i::l,d=>by
  have ch:=get_filterMap f l d;simp only[List.filterMap_cons];cases bg:f i with
  |none=>
   simp only[Option.map_none];rw[ch];by_cases e:d=i
   ·subst e;simp[bg]
   ·simp[e]
  |some v=>
   simp only[iT];rw[GV,ch];by_cases e:i=d
   ·subst e;simp[bg]
   ·have:d≠i:=λh=>e h.symm
    simp[e,this]
theorem Nn(a:Act)(d:Nat):(x0 a).get d=a.tmps[d]?:=by
 unfold x0;rw[get_filterMap];by_cases h:d<a.tmps.size
 ·simp[h]
 ·simp[h]
theorem ar3{n:Nat}{a:Act}(af:a.defers=[])(ax:a.tmps.size=n):Rel n a (x0 a):=⟨af,ax,λd v h=>by rw[<-Nn];exact h⟩
theorem Rel.nil{n:Nat}{a:Act}{ν:cX}(h:Rel n a ν):Rel n a []:=⟨h.1,h.2.1,λd v h=>by simp[cX.get]at h⟩
def Holds(n:Nat)(Q:jz)(Q':Exit->Act->ao):Prop:=∀e a ν w,Rel n a ν->Q e ν w->Q' e a w
theorem Holds.iq{n:Nat}{Q:jz}{Q':Exit->Act->ao}(h:Holds n Q Q'){N:cX->ao}{rn:Act->ao}(eG:∀a ν w,Rel n a ν->N ν w->rn a w):Holds n (bO.iq N Q) (Exit.then rn Q'):=by intro e a ν w υ aC;cases e<;>first|exact eG _ _ _ υ aC|exact h _ _ _ _ υ aC
theorem Holds.sY{n:Nat}{Q:jz}{Q':Exit->Act->ao}(h:Holds n Q Q')(id:Nat):Holds n (bO.sY id Q) (Exit.inBlock id Q'):=by
 intro e a ν w υ aC;cases e with
 |exit yE=>
  simp only[bO.sY]at aC;simp only[Exit.inBlock];by_cases e:yE=id
  ·subst e;simp only[Ca,r9]at aC;rw[aS rfl];exact h _ _ _ _ υ aC
  ·have:Nat.beq yE id=false:=by
    cases ψ:Nat.beq yE id with
    |false=>rfl
    |true=>exact(e (xy ψ)).elim
   rw[this]at aC;rw[aM e];exact h _ _ _ _ υ aC
 |_=>exact h _ _ _ _ υ aC
theorem Holds.HE{n:Nat}{Q:jz}{Q':Exit->Act->ao}(h:Holds n Q Q'):Holds n (bO.HE Q) (Exit.noGoto Q'):=by intro e a ν w υ aC;cases e<;>first|exact aC.elim|exact h _ _ _ _ υ aC
theorem Nc{c:cW}(π:hh c){n:Nat}:∀(x:Code)(s:jM)(Q:jz)(Q':Exit->Act->ao)(a:Act)(ν:cX)(w:World),
  vM c n x s Q->Holds n Q Q'->Rel n a ν->ng c n x s Q ν w->x.wp c.P Q' a w:=by
 intro x
 induction x with
 |skip=>exactλs Q Q' a ν w _ dI υ h=>wp_skip (dI _ _ _ _ υ h)
 |ret=>exactλs Q Q' a ν w _ dI υ h=>wp_ret (dI _ _ _ _ υ h)
 |exit id=>exactλs Q Q' a ν w _ dI υ h=>wp_exit (dI _ _ _ _ υ h)
 |label l=>exactλs Q Q' a ν w _ dI υ h=>wp_label (dI _ _ _ _ υ h)
 |goto l=>exactλs Q Q' a ν w _ dI υ h=>h.elim
 |refuse m=>exactλs Q Q' a ν w _ dI υ h=>h.elim
 |rangeFunc f ps rv rB=>exactλs Q Q' a ν w _ dI υ h=>h.elim
 |region id ops Dy=>
  intro s Q Q' a ν w _ dI υ h;cases Dy with
  |false=>
   refine wp_region_list ?_
   have:=Sa π (ops:=ops.toList) (Q:=Q .normal) (X:=λν cQ w=>Q (.panic cQ) ν w) (Q':=Q') (λa ν w υ h=>dI _ _ _ _ υ h) (λa ν cQ w υ h=>dI _ _ _ _ υ h) ops.toList a ν w υ h
   simpa using this
  |true=>
   cases dW:Region.lexB .any ops&&ops.toList.all (KY c)with
   |false=>
    have h:cond (Region.lexB .any ops&&ops.toList.all (KY c)) _ (ο (vN ops.toList) (sQ c n ops.toList (Q .normal) (λcQ w=>Q (.panic cQ) [] w) (ops.toList.length+1) [] [] ν w.drew)):=h;rw[dW]at h;obtain⟨dt,h⟩:=hT h;refine wp_region_any π.mixed ?_;refine Zq π dt (Q:=Q .normal) (X:=λcQ w=>Q (.panic cQ) [] w) (Q':=Q') (λa ν w υ h=>dI _ _ _ _ υ h) (λa cQ w υ h=>dI _ _ _ _ υ h) ops.size _ [] [] ν a a (Array.replicate ops.size false) _ ?_ ?_ h
    ·refine⟨υ,υ.1,υ.2.1,by simp,?_,trivial,?_,?_,?_,λd _=>rfl,λi o=>(by cases o)⟩
     ·intro i o;rw[Array.getElem?_replicate]at o;split at o<;>simp at o
     ·intro i o;rw[Array.getElem?_replicate]at o;split at o<;>simp at o
     ·intro i o;cases o
     ·intro i o;cases o
    ·simp
   |true=>
   have h:cond (Region.lexB .any ops&&ops.toList.all (KY c)) (GQ c n ops.toList (λν=>∀k,Q .normal ν (w.drewN k)) w ops.toList ν) _:=h;rw[dW]at h;have dW:Region.lexB .any ops=true:=(H2.1 dW).1;have h:GQ c n ops.toList (λν=>∀k,Q .normal ν (w.drewN k)) w ops.toList ν:=h
   have:=Sb π (ops:=ops.toList) (Q:=λν=>∀k,Q .normal ν (w.drewN k)) (w:=w) (Q':=λfy=>∀w',(∃n,w'=w.drewN n)->Q' .normal fy w') (λa ν υ h w'⟨k,hk⟩=>by subst hk;exact dI _ _ _ _ υ (h k)) ops.toList a ν υ h
   have ι:=wp_region_quiet_lit (id:=id) (Q:=Q') (a:=a) (w:=w) (l:=ops.toList) π.mixed (by simpa using dW) this;simpa using ι
 |seq x y mo mq=>
  intro s Q Q' a ν w aB dI υ h;refine wp_seq ?_;cases s with
  |cut b3 K uW qj=>
   obtain⟨lN,kZ,vD⟩:=aB;refine mo uW (iq (gp b3 K) Q) _ a ν w lN (dI.iq λfy fC w' eC hk=>?_) υ h;obtain⟨h7,iK,ι⟩:=oa eC eC.nil kZ hk;exact mq qj Q Q' fy h7 w' vD dI iK ι
  |_=>
   obtain⟨lN,kZ⟩:=aB;exact mo _ _ _ a ν w lN (dI.iq λfy fC w' eC hk=>mq _ Q Q' fy fC w' kZ dI eC hk) υ h
 |cond p x y mo mq=>
  intro s Q Q' a ν w aB dI υ h;obtain⟨b,ψ,h⟩:=Bo (gC υ h);refine wp_cond ψ ?_;cases b with
  |true=>exact mo s.left Q Q' a ν w aB.1 dI υ h
  |false=>exact mq s.right Q Q' a ν w aB.2 dI υ h
 |block id x ch=>
  intro s Q Q' a ν w aB dI υ h;exact wp_block (ch s.left _ _ a ν w aB (dI.sY id) υ h)
 |scope x ch=>
  intro s Q Q' a ν w aB dI υ h;exact wp_scope_straight (ch s.left _ _ a ν w aB dI.HE υ h)
 |loop x ch=>
  intro s Q Q' a ν w aB dI υ h;cases s with
  |loop b3 K body=>
   obtain⟨lN,kZ⟩:=aB;obtain⟨ac0,uA,bD,m,iJ,yz⟩:=oa υ υ.nil lN h;have J2:∀{a:Act}{ν:cX},Rel n a ν->∀d v,ν.get d=some v->(x0 a).get d=some v:=λυ d v h=>by rw[Nn];exact υ.2.2 d v h
   refine wp_loop (λa w=>a.defers=[]/\a.tmps.size=n/\gp b3 bD (x0 a) w) (λa w=>l0 b3 m (x0 a) w) ⟨uA.1,uA.2.1,(oZ (J2 uA) iJ).1⟩ ?_;rintro fy w' ⟨af,ax,SI⟩;have Hi:=ar3 af ax;obtain⟨h7,iK,ι⟩:=ql Hi Hi.nil yz SI;refine ch _ _ _ fy h7 w' (kZ _) (dI.iq λa3 aqM aa D9 aG=>?_) iK ι;obtain⟨cq,db⟩:=qm aG;obtain⟨hy,ih⟩:=oZ (J2 D9) cq;exact⟨⟨D9.1,D9.2.1,hy⟩,by rw[<-ih m];exact db⟩
  |_=>exact h.elim
def adP(c:cW)(r:ResultVar)(ν:cX)(w:World)(K:Value->Prop):Prop:=
 match r with
 | .tmp t=>ξ (ν.get t) K
 | .cell a t=>ξ (ν.get a) λp=>Ut c t p w K
def Lg(c:cW):List ResultVar->cX->World->(aU->Prop)->Prop
 |[],_,_,K=>K []
 |r::l,ν,w,K=>adP c r ν w λv=>Lg c l ν w λvs=>K (v::vs)
def Pl:aU->Value
 |[v]=>v
 |vs=>.tuple vs.toArray
def fin(c:cW)(rs:List ResultVar)(R:aq):jz
 | .ret,ν,w=>Lg c rs ν w λvs=>R (.returned (Pl vs)) w
 | .normal,ν,w=>Lg c rs ν w λvs=>R (.returned (Pl vs)) w
 | .panic cQ,ν,w=>R (.panicked cQ) w
 |_,_,_=>False
def Ig(tmps:ag)(r:ResultVar):Sem Value:=
 match r with
 | .tmp t=>pure (tmps.getD t undef)
 | .cell a t=>do loadVar t (<-asAddr (tmps.getD a undef))
theorem ar8{c:cW}(π:hh c){n:Nat}{a:Act}{ν:cX}(υ:Rel n a ν){r:ResultVar}{w:World}{K:Value->Prop}(h:adP c r ν w K):
  ∃v,(Ig a.tmps r).run c.P w=.ok v w/\K v:=by
 cases r with
 |tmp t=>
  obtain⟨v,aJ,h⟩:=di h
  have:=υ.2.2 t v aJ
  exact⟨v,by simp[Ig,this],h⟩
 |cell p t=>
  obtain⟨q,aC,h⟩:=di h;have hp:=υ.2.2 p q aC;obtain⟨v,aJ,h⟩:=abQ π h;refine⟨v,?_,h⟩;have ι:=aJ w rfl;have bJ:a.tmps.getD p undef=q:=by simp[hp]
  simp only[Ig];rw[bJ];cases q with
  |pointer ε=>
   cases ε with
   |some b=>
    unfold Instr.loadAt at ι;simpa[asAddr,Instr.sureAddr]using ι
   |none=>simp[Instr.loadAt,Instr.sureAddr,stuck]at ι
  |_=>simp[Instr.loadAt,Instr.sureAddr,stuck]at ι
theorem Pk{c:cW}(π:hh c){n:Nat}{a:Act}{ν:cX}(υ:Rel n a ν){w:World}:∀{rs:List ResultVar}{K:aU->Prop},Lg c rs ν w K->
  ∃vs,(rs.mapM (Ig a.tmps)).run c.P w=.ok vs w/\K vs
 |[],K,h=>⟨[],by simp,h⟩
 |r::l,K,h=>by obtain⟨v,aJ,h⟩:=ar8 π υ h;obtain⟨vs,lQ,h⟩:=Pk π υ (rs:=l) h;refine⟨v::vs,?_,h⟩;rw[List.mapM_cons,Sem.run_bind,aJ,Result.andThen_ok,Sem.run_bind,lQ];rfl
theorem VK{c:cW}{fn:Func}{tmps:ag}{w:World}{vs:aU}
  (h:(fn.results.toList.mapM (Ig tmps)).run c.P w=.ok vs w):
  (results fn tmps).run c.P w=.ok (Pl vs) w:=by
 have e:results fn tmps=(do
   let vs<-fn.results.mapM (Ig tmps)
   pure (if h:vs.size=1 then vs[0]else .tuple vs)):=rfl
 rw[e,Sem.run_bind,Array.mapM_eq_mapM_toList,Sem.run_map,h];simp only[Result.andThen_ok,Sem.run_pure];congr 1
 match vs with
 |[]=>rfl
 |[v]=>rfl
 |v::u::r=>rfl
def qD:Nat->aU->cX
 |_,[]=>[]
 |k,v::r=>(k,v)::qD (k+1) r
theorem Sv:∀(l:aU)(k d:Nat)(v:Value),(qD k l).get d=some v->k<=d/\l[d-k]?=some v
 |[],k,d,v,h=>by simp[qD,cX.get]at h
 |u::r,k,d,v,h=>by
  simp only[qD]at h;rw[GV]at h;by_cases e:k=d
  ·subst e;rw[aS rfl]at h;simpa using h
  ·rw[aM e]at h;obtain⟨h1,ι⟩:=Sv r (k+1) d v h;refine⟨by omega,?_⟩;rw[show d-k=(d-(k+1))+1 by omega];simpa using ι
theorem alm{c:cW}(π:hh c){f:FuncId}{fn:Func}{code:Code}(bg:c.P.funcs[f]?=some fn)(ψ:fn.body=some code)(rs:List ResultVar)(kj:fn.results.toList=rs)(hB:Nat)(rM:fn.ntmps=hB)(s:jM){args:aU}(aQ:args.length<=hB)
  {w:World}{R:aq}(aB:vM c hB code s (fin c rs R))(h:ng c hB code s (fin c rs R) (qD 0 args) w):Calls c.P f args.toArray w R:=by
 subst rM;refine calls_of_wp bg ψ ?_;refine Nc π code s (fin c rs R) _ _ (qD 0 args) w aB ?_ ?_ h
 ·intro e a ν w υ aC;cases e with
  |ret=>
   obtain⟨vs,lQ,ij⟩:=Pk π υ aC;rw[<-kj]at lQ;exact⟨υ.1,_,VK lQ,ij⟩
  |normal=>
   obtain⟨vs,lQ,ij⟩:=Pk π υ aC;rw[<-kj]at lQ;exact⟨υ.1,_,VK lQ,ij⟩
  |panic cQ=>exact⟨υ.1,aC⟩
  |exit id=>exact aC.elim
  |goto l=>exact aC.elim
  |outgrown=>exact aC.elim
 ·refine⟨rfl,by simp;omega,λd v af=>?_⟩;obtain⟨_,ι⟩:=Sv args 0 d v af;rw[Nat.sub_zero]at ι;rw[Array.getElem?_append]
  have:d<args.toArray.size:=by simp;exact(List.getElem?_eq_some_iff.1 ι).1
  rw[aS this];simpa using ι
def oM(c:cW)(n:Nat):Code->jM->jz->Prop->Prop
 | .seq x y,.cut b3 K uW qj,Q,r=>oM c n x uW (iq (gp b3 K) Q) (lg b3 K (ng c n y qj Q) []/\oM c n y qj Q r)
 | .seq x y,s,Q,r=>oM c n x s.left (iq (Il s (ng c n y s.right Q)) Q) (oM c n y s.right Q r)
 | .cond _ x y,s,Q,r=>oM c n x s.left Q (oM c n y s.right Q r)
 | .block id x,s,Q,r=>oM c n x s.left (sY id Q) r
 | .scope x,s,Q,r=>oM c n x s.left (HE Q) r
 | .loop x,.loop b3 K body,Q,r=>
  lg b3 K (λν w=>∃(bD:gT Prop b3)(m:gT Nat b3),gp b3 bD ν w/\n9 b3 bD m (λk ν w=>ng c n x (body (lZ b3 bD m k)) (iq (gp b3 (lZ b3 bD m k)) Q) ν w) []) []/\
   (∀C:gT Prop b3,oM c n x (body C) (iq (gp b3 C) Q) True)/\r
 |_,_,_,r=>r
theorem OC{c:cW}{n:Nat}:∀(x:Code)(s:jM)(Q:jz)(r:Prop),oM c n x s Q r->vM c n x s Q/\r:=by
 intro x
 induction x with
 |seq x y mo mq=>
  intro s Q r h;cases s with
  |cut b3 K uW qj=>
   obtain⟨h1,ι,aG⟩:=mo _ _ _ h;obtain⟨cq,db⟩:=mq _ _ _ aG;exact⟨⟨h1,ι,cq⟩,db⟩
  |_=>
   obtain⟨h1,ι⟩:=mo _ _ _ h;obtain⟨cq,db⟩:=mq _ _ _ ι;exact⟨⟨h1,cq⟩,db⟩
 |cond p x y mo mq=>
  intro s Q r h;obtain⟨h1,ι⟩:=mo _ _ _ h;obtain⟨cq,db⟩:=mq _ _ _ ι;exact⟨⟨h1,cq⟩,db⟩
 |block id x ch=>exactλs Q r h=>ch _ _ _ h
 |scope x ch=>exactλs Q r h=>ch _ _ _ h
 |loop x ch=>
  intro s Q r h;cases s with
  |loop b3 K body=>
   obtain⟨h1,ι,aG⟩:=h;exact⟨⟨h1,λC=>(ch _ _ _ (ι C)).1⟩,aG⟩
  |_=>exact⟨trivial,h⟩
 |_=>exactλs Q r h=>⟨trivial,h⟩
theorem Zr{c:cW}(π:hh c){f:FuncId}{fn:Func}{code:Code}(bg:c.P.funcs[f]?=some fn)(ψ:fn.body=some code)(rs:List ResultVar)(kj:fn.results.toList=rs)(hB:Nat)(rM:fn.ntmps=hB)(s:jM){args:aU}(aQ:args.length<=hB)
  {w:World}{R:aq}{m ε:Prop}(hm:m=ng c hB code s (fin c rs R) (qD 0 args) w)(aB:ε=oM c hB code s (fin c rs R) True)(jF:ε)(h:m):Calls c.P f args.toArray w R:=
 alm π bg ψ rs kj hB rM s aQ (OC _ _ _ _ (aB▸jF)).1 (hm▸h)
def Xg(P:Program)(f:Nat):Prop:=∃fn,P.funcs[f]?=some fn/\(fn.name== "runtime.NumGoroutine")=false/\fn.body.isNone=false
def IW(P:Program):List Nat->Prop
 |[]=>True
 |f::r=>Xg P f/\IW P r
theorem ZN{P:Program}:∀{l:List Nat},IW P l->∀f,f∈l->Xg P f
 |g::r,h,f,bg=>by
  rcases fA.1 bg with rfl|bg
  ·exact h.1
  ·exact ZN h.2 f bg
open Go.RowKit
structure Kp(w w':World)(S:bf):Prop where
 os:w'.os=w.os
 tape:w'.tape=w.tape
 output:w'.output=w.output
 size:w.heap.size<=w'.heap.size
 block:∀i,i<w.heap.size->¬S i->w'.heap[i]?=w.heap[i]?
abbrev η(w w':World):Prop:=Kp w w' λ_=>False
theorem Kp.refl(w:World)(S:bf):Kp w w S:=⟨rfl,rfl,rfl,ew _,λ_ _ _=>rfl⟩
theorem Kp.trans{w γ τ:World}{S T U:bf}(h:Kp w γ S)(k:Kp γ τ T)(ep:∀i,i<w.heap.size->S i->U i)(e2:∀i,i<w.heap.size->T i->U i):Kp w τ U:=
 ⟨k.os.trans h.os,k.tape.trans h.tape,k.output.trans h.output,fY h.size k.size,λi o hu=>
  (k.block i (H5 o h.size) λt=>hu (e2 i o t)).trans (h.block i o λs=>hu (ep i o s))⟩
theorem Kp.mono{w γ:World}{S U:bf}(h:Kp w γ S)(ep:∀i,i<w.heap.size->S i->U i):Kp w γ U:=
 ⟨h.os,h.tape,h.output,h.size,λi o hu=>h.block i o λs=>hu (ep i o s)⟩
theorem η.refl(w:World):η w w:=Kp.refl w _
theorem η.trans{w γ τ:World}(h:η w γ)(k:η γ τ):η w τ:=Kp.trans h k (λ_ _ h=>h) λ_ _ h=>h
theorem η.drewN(w:World)(n:Nat):η w (w.drewN n):=⟨rfl,rfl,rfl,ew _,λ_ _ _=>rfl⟩
theorem η.drew(w:World):η w w.drew:=⟨rfl,rfl,rfl,ew _,λ_ _ _=>rfl⟩
theorem η.alloc(w:World)(ε:Obj):η w (w.alloc ε):=
 ⟨rfl,rfl,rfl,by show w.heap.size<=(w.heap.push ε).size;simp,λi o _=>by show(w.heap.push ε)[i]?=_;rw[Array.getElem?_push,aM (by omega)]⟩
theorem Kp.below{w w':World}{S:bf}(h:Kp w w' S){B:Nat}(dW:B<=w.heap.size)(ep:∀i,i<B->¬S i):Below B w w':=
 ⟨h.os,h.tape,h.output,h.size,λi o=>h.block i (H5 o dW) (ep i o)⟩
theorem η.below{w w':World}(h:η w w'):Below w.heap.size w w':=Kp.below h (ew _) λ_ _ h=>h
theorem Kp.acP{w w':World}{B:Nat}(h:Below B w w'):Kp w w' λi=>B<=i:=
 ⟨h.os,h.tape,h.output,h.size,λi o ψ=>h.block i (by omega)⟩
theorem Kp.setCell(w:World)(a:Addr)(v:Value){S:bf}(ep:S a.block):Kp w (w.setCell a v) S:=
 ⟨rfl,rfl,rfl,by simp[World.setCell],λi o ω=>Below.heap_setCell w a v i λe=>ω (e▸ep)⟩
theorem Kp.setCells(b:Nat){S:bf}(ep:S b):∀(vs:aU)(ε:Nat)(w:World),Kp w (w.setCells b ε vs) S
 |[],_,w=>Kp.refl w S
 |v::r,ε,w=>(Kp.setCell w ⟨b,ε,none⟩ v ep).trans (Kp.setCells b ep r (ε+1) _) (λ_ _ h=>h) λ_ _ h=>h
theorem MK{w:World}{a:Addr}{v:Value}(h:w.cell? a=some v):a.block<w.heap.size:=block_lt_of_cell h
theorem Kp.cell{w w':World}{S:bf}(h:Kp w w' S){a:Addr}{v:Value}(π:w.cell? a=some v)(ω:¬S a.block):w'.cell? a=some v:=by
 have:=h.block a.block (MK π) ω
 simp only[World.cell?]at π⊢;rw[this];exact π
theorem aw.aH{w w':World}{S:bf}(h:Kp w w' S){a:Addr}{vs:aU}(π:aw w a vs)(ω:¬S a.block):aw w' a vs:=λj v aJ=>h.cell (π j v aJ) (by rw[x1];exact ω)
theorem a7.aH{w w':World}{S:bf}(h:Kp w w' S){a:J}{vs:aU}(π:a7 w a vs)(ω:∀x,a=some x->¬S x.block):a7 w' a vs:=by
 cases a with
 |none=>exact π
 |some a=>exact aw.aH h π (ω a rfl)
theorem a7.ex{w w':World}(h:η w w'){a:J}{vs:aU}(π:a7 w a vs):a7 w' a vs:=π.aH h λ_ _ h=>h
theorem a7.take{w:World}{a:J}{vs:aU}(π:a7 w a vs)(n:Nat):a7 w a (vs.take n):=by
 cases a with
 |none=>have:vs=[]:=π;subst this;simp[a7]
 |some a=>exactλj v aJ=>π j v (by rw[List.getElem?_take]at aJ;split at aJ;exact aJ;simp at aJ)
theorem a7.cell{w:World}{a:Addr}{vs:aU}(π:a7 w (some a) vs){j:Nat}(φ:j<vs.length):w.cell? (a.add j)=some vs[j]:=π j _ (List.getElem?_eq_getElem φ)
theorem add_add(a:Addr)(m n:Nat):(a.add m).add n=a.add (m+n):=by
 unfold Addr.add;by_cases hm:m=0
 ·subst hm;simp
 ·by_cases ax:n=0
  ·subst ax;simp[hm]
  ·have:m+n≠0:=by omega
   simp[hm,ax,this,Nat.add_assoc]
theorem aw.drop{w:World}{a:Addr}{vs:aU}(π:aw w a vs)(n:Nat):aw w (a.add n) (vs.drop n):=λj v aJ=>by rw[add_add];exact π _ v (by rw[List.getElem?_drop]at aJ;exact aJ)
theorem a7.slice{w:World}{a:J}{vs:aU}(π:a7 w a vs)(m l h:Nat)(hm:vs.length<=m):a7 w (du a m l 1) ((vs.drop l).take h):=by
 unfold du;by_cases e:m=l
 ·rw[aS e]
  have:vs.drop l=[]:=qY (by omega)
  rw[this];cases a with
  |none=>simp[a7]
  |some a=>exactλj v aJ=>by simp at aJ
 ·rw[aM e];refine a7.take ?_ h;cases a with
  |none=>have:vs=[]:=π;subst this;simp[a7]
  |some a=>
   show aw w (a.add (l*1)) _;rw[ey];exact aw.drop π l
theorem ani{w:World}{b ε:Nat}{cur:ag}{e:TypeId}{fr:Nat×Nat}(h:w.heap[b]?=some (.cells cur e fr))(v:Value):
  (w.setCell ⟨b,ε,none⟩ v).heap[b]?=some (.cells (cur.setIfInBounds ε v) e fr):=by
 simp only[World.setCell];rw[Array.getElem?_modify,aS rfl,h];simp
def put(cur:ag)(ε:Nat):aU->ag
 |[]=>cur
 |v::r=>put (cur.setIfInBounds ε v) (ε+1) r
theorem JR(b:Nat){e:TypeId}{fr:Nat×Nat}:∀(vs:aU)(ε:Nat)(w:World)(cur:ag),w.heap[b]?=some (.cells cur e fr)->(w.setCells b ε vs).heap[b]?=some (.cells (put cur ε vs) e fr)
 |[],_,_,_,h=>h
 |v::r,ε,w,cur,h=>JR b r (ε+1) _ _ (ani h v)
theorem size_put:∀(vs:aU)(ε:Nat)(cur:ag),(put cur ε vs).size=cur.size
 |[],_,_=>rfl
 |v::r,ε,cur=>by rw[put,size_put r,Array.size_setIfInBounds]
theorem ZX:∀(vs:aU)(ε:Nat)(cur:ag)(i:Nat),(put cur ε vs)[i]?=if ε<=i/\i<ε+vs.length/\i<cur.size then vs[i-ε]?else cur[i]?
 |[],ε,cur,i=>by rw[put,aM (by simp;omega)]
 |v::r,ε,cur,i=>by
  rw[put,ZX r (ε+1),Array.size_setIfInBounds,Array.getElem?_setIfInBounds];simp only[k5];by_cases h1:ε=i
  ·subst h1;by_cases ι:ε<cur.size
   ·rw[aM (by omega),aS rfl,aS ι,aS (by omega)];simp
   ·rw[aM (by omega),aS rfl,aM ι,aM (by omega)];simp[Array.getElem?_eq_none (H3 ι)]
  ·rw[aM h1];by_cases ι:ε+1<=i/\i<ε+1+r.length/\i<cur.size
   ·rw[aS ι,aS (by omega),show i-ε=(i-(ε+1))+1 by omega];simp
   ·rw[aM ι,aM (by omega)]
theorem Ge(cur:ag)(ε:Nat)(vs:aU)(h:ε+vs.length<=cur.size):(put cur ε vs).toList=cur.toList.take ε++vs++cur.toList.drop (ε+vs.length):=by
 have aj:cur.toList.length=cur.size:=kP;apply qb;intro i;rw[Array.getElem?_toList,ZX];have aP:(cur.toList.take ε).length=ε:=by simp;omega
 by_cases h1:i<ε
 ·rw[aM (by omega),lT,List.getElem?_append_left (by omega),List.getElem?_take_of_lt h1,Array.getElem?_toList]
 ·by_cases ι:i<ε+vs.length
  ·rw[aS (by omega),lT,List.getElem?_append_right (by omega),aP,List.getElem?_append_left (by omega)]
  ·rw[aM (by omega),lT,List.getElem?_append_right (by omega),aP,List.getElem?_append_right (by omega),List.getElem?_drop,Array.getElem?_toList];congr 1;omega
theorem DY(w:World)(ε:Obj):(w.alloc ε).heap[w.heap.size]?=some ε:=heap_alloc_new w ε
theorem cell_of_block{w:World}{b ε:Nat}{cur:ag}{e:TypeId}{fr:Nat×Nat}(h:w.heap[b]?=some (.cells cur e fr)):w.cell? ⟨b,ε,none⟩=cur[ε]?:=by simp[World.cell?,h]
theorem Jx{w:World}{b ε:Nat}{cur:ag}{e:TypeId}{fr:Nat×Nat}(h:w.heap[b]?=some (.cells cur e fr)):w.frozen? ⟨b,ε,none⟩=(fr.1<=ε&&ε<fr.2):=by simp[World.frozen?,h]
def wx(fr:Nat×Nat)(n:Nat):Prop:=fr.2<=fr.1\/n<=fr.1
def μ(w:World)(B:Nat)(e:TypeId)(sz:Nat)(p:J)(n c:Nat)(xs:aU):Prop:=
 xs.length=n*sz/\n<=c/\((p=none/\c=0)\/∃b cur fr,p=some ⟨b,0,none⟩/\B<=b/\w.heap[b]?=some (.cells cur e fr)/\wx fr cur.size/\c*sz<=cur.size/\cur.toList.take (n*sz)=xs)
theorem μ.cells{w:World}{B:Nat}{e:TypeId}{sz:Nat}{p:J}{n c:Nat}{xs:aU}(h:μ w B e sz p n c xs):a7 w p xs:=by
 obtain⟨aj,ax,h⟩:=h;rcases h with⟨rfl,rfl⟩|⟨b,cur,fr,rfl,dW,ψ,jr,π,I⟩
 ·have:n=0:=by omega
  subst this
  have:xs=[]:=sb (by rw[aj];simp)
  subst this;rfl
 ·intro j v aJ;have ox:(⟨b,0,none⟩:Addr).add j=⟨b,j,none⟩:=by rw[Addr.add_lit];simp
  rw[ox,cell_of_block ψ];rw[<-I,List.getElem?_take]at aJ;split at aJ
  ·rw[<-Array.getElem?_toList];exact aJ
  ·simp at aJ
theorem μ.nil(w:World)(B:Nat)(e:TypeId)(sz:Nat):μ w B e sz none 0 0 []:=⟨by simp,ew _,.inl ⟨rfl,rfl⟩⟩
theorem μ.aH{w w':World}{S:bf}{B:Nat}{e:TypeId}{sz:Nat}{p:J}{n c:Nat}{xs:aU}(h:μ w B e sz p n c xs)(hk:Kp w w' S)(ω:∀x,p=some x->¬S x.block):μ w' B e sz p n c xs:=by
 obtain⟨aj,ax,h⟩:=h;refine⟨aj,ax,?_⟩;rcases h with⟨rfl,rfl⟩|⟨b,cur,fr,rfl,dW,ψ,jr,π,I⟩
 ·exact .inl ⟨rfl,rfl⟩
 ·refine .inr ⟨b,cur,fr,rfl,dW,?_,jr,π,I⟩;have bM:b<w.heap.size:=by
   rcases H6 b w.heap.size with h|h
   ·exact h
   ·rw[Array.getElem?_eq_none h]at ψ;cases ψ
  rw[hk.block b bM (ω _ rfl)];exact ψ
theorem μ.ex{w w':World}{B:Nat}{e:TypeId}{sz:Nat}{p:J}{n c:Nat}{xs:aU}(h:μ w B e sz p n c xs)(hk:η w w'):μ w' B e sz p n c xs:=h.aH hk λ_ _ h=>h
theorem μ.lower{w:World}{B B':Nat}{e:TypeId}{sz:Nat}{p:J}{n c:Nat}{xs:aU}(h:μ w B e sz p n c xs)(dW:B'<=B):μ w B' e sz p n c xs:=by
 obtain⟨aj,ax,h⟩:=h;refine⟨aj,ax,?_⟩;rcases h with h|⟨b,cur,fr,hp,ψ,r⟩
 ·exact .inl h
 ·exact .inr ⟨b,cur,fr,hp,fY dW ψ,r⟩
theorem μ.ge{w:World}{B:Nat}{e:TypeId}{sz:Nat}{p:J}{n c:Nat}{xs:aU}(h:μ w B e sz p n c xs){x:Addr}(I:p=some x):B<=x.block/\x.block<w.heap.size:=by
 obtain⟨aj,ax,h⟩:=h;rcases h with⟨hp,_⟩|⟨b,cur,fr,hp,dW,ψ,_⟩
 ·rw[hp]at I;cases I
 ·rw[hp]at I;cases I;refine⟨dW,?_⟩;rcases H6 b w.heap.size with h|h
  ·exact h
  ·rw[Array.getElem?_eq_none h]at ψ;cases ψ
theorem μ.made{w:World}{e:TypeId}{sz n c:Nat}{cur:ag}{fr:Nat×Nat}(ax:n<=c)(π:c*sz<=cur.size)(jr:wx fr cur.size):
  μ (w.alloc (.cells cur e fr)) w.heap.size e sz (some ⟨w.heap.size,0,none⟩) n c (cur.toList.take (n*sz)):=by
 refine⟨?_,ax,.inr ⟨w.heap.size,cur,fr,rfl,ew _,DY w _,jr,π,rfl⟩⟩
 have:n*sz<=c*sz:=tf _ ax
 simp;omega
theorem wx.zero(n:Nat):wx (0,0) n:=.inl (ew _)
theorem lp{w:World}{B:Nat}{e:TypeId}{sz:Nat}{p:J}{n c m bytes:Nat}{xs:aU}{zero:ag}{Src:aU->Prop}{N:J->Nat->ao}
  (aB:μ w B e sz p n c xs)(dW:B<=w.heap.size)(ys:aU)(ω:Src ys)(aj:ys.length=m*sz)(h1:∀y∈ys,y.oneCell'=true)(aL:zero.size=sz)
  (ψ:(n+m)*bytes<=140737488355328)(zO:n+m<=9223372036854775807)
  (K:∀bT aT w',μ w' B e sz bT (n+m) aT (xs++ys)->Kp w w' (λi=>∃x,p=some x/\x.block=i)->N bT aT w'):gK w p n c m Src e sz bytes zero N:=by
 have kL:=aB.cells;obtain⟨jE,pc,hp⟩:=aB;refine⟨ys,aj,ω,λmi=>?_,λaaL=>⟨ψ,zO,xs,jE,kL,λb aT w' wW DU fK=>?_⟩⟩
 ·rcases hp with⟨rfl,rfl⟩|⟨b,cur,fr,rfl,DN,o8,jr,π,I⟩
  ·refine⟨trivial,λw' fK=>?_⟩;have hm:m=0:=by omega
   have ax:n=0:=by omega
   subst hm ax
   have:ys=[]:=sb (by rw[aj];simp)
   subst this;subst fK;refine K _ _ _ ⟨by simpa using jE,en _,.inl ⟨rfl,rfl⟩⟩ (Kp.refl _ _)
  ·have hmul:(n+m)*sz<=c*sz:=tf _ mi;have BG:(n+m)*sz=n*sz+m*sz:=k7 _ _ _;have ox:(⟨b,0,none⟩:Addr).add (n*sz)=⟨b,n*sz,none⟩:=by rw[Addr.add_lit];simp
   refine⟨?_,λw' fK=>?_⟩
   ·show hr w ((⟨b,0,none⟩:Addr).add (n*sz)) ys;rw[ox];refine⟨rfl,λj φ=>⟨?_,?_⟩,h1⟩<;>dsimp only
    ·rw[cell_of_block o8,Array.getElem?_eq_getElem (by omega)];rfl
    ·rw[Jx o8];rcases jr with h|h<;>simp<;>omega
   ·have hw:w'=w.setCells b (n*sz) ys:=by rw[fK];simp[kQ]
    subst hw;have eu:=JR b ys (n*sz) w cur o8;refine K _ _ _ ⟨by simp[jE,aj,BG],mi,.inr ⟨b,_,fr,rfl,DN,eu,by rw[size_put];exact jr,by rw[size_put];exact π,?_⟩⟩ (Kp.setCells b ⟨_,rfl,rfl⟩ ys (n*sz) w);rw[Ge _ _ _ (by omega),BG,I,oT (by simp[jE,aj])];rw[hc (by simp[jE,aj])]
 ·subst fK wW;have z7:(Builtin.zeroCells zero (aT-(n+m))).size=(aT-(n+m))*sz:=by rw[size_zeroCells,aL]
  have ft:(xs.toArray++ys.toArray++Builtin.zeroCells zero (aT-(n+m))).size=aT*sz:=by
   have:aT*sz=(n+m)*sz+(aT-(n+m))*sz:=by rw[<-k7];congr 1;omega
   simp only[K6,fh,z7,jE,aj,this,k7]
  have w5:=μ.made (w:=w.drew) (e:=e) (sz:=sz) (n:=n+m) (c:=aT) (cur:=xs.toArray++ys.toArray++Builtin.zeroCells zero (aT-(n+m))) (fr:=(0,0)) DU (by rw[ft];exact ew _) (wx.zero _);have w7:(xs.toArray++ys.toArray++Builtin.zeroCells zero (aT-(n+m))).toList.take ((n+m)*sz)=xs++ys:=by
   have hl:(xs.toArray++ys.toArray++Builtin.zeroCells zero (aT-(n+m))).toList=(xs++ys)++(Builtin.zeroCells zero (aT-(n+m))).toList:=by simp
   rw[hl,oT (by simp[jE,aj,k7]),hc (by simp[jE,aj,k7])]
  rw[w7]at w5;exact K _ _ _ (w5.lower dW) ((η.trans (η.drew w) (η.alloc _ _)).mono λ_ _ h=>h.elim)
section steps
variable{N:Prop}
theorem bH(n:Int)(K:Int->Prop):br .i64 (.int .i64 n) K=K n:=rfl
theorem M1(n:Int)(K:Int->Prop):br .u32 (.int .u32 n) K=K n:=rfl
theorem dE(b:Bool)(K:Bool->Prop):dw (.bool b) K=K b:=rfl
theorem dY(a:J)(n c:Nat)(K:J->Nat->bf):cN (.slice a n c) K=K a n c:=rfl
theorem nc(a:J)(K:J->Prop):gX (.pointer a) K=K a:=rfl
theorem hx(a:ag)(K:ag->Prop):dq (.agg a) K=K a:=rfl
theorem bX(a:ag)(K:ag->Prop):b0 (.tuple a) K=K a:=rfl
theorem RN(a:ByteArray)(K:ByteArray->Prop):nK (.string a) K=K a:=rfl
theorem rE(a b:Nat)(K:Nat->bf):lq (.complex .f64 a b) K=K a b:=rfl
theorem M3(a:Option Nat)(K:Option Nat->Prop):pQ (.map a) K=K a:=rfl
theorem bk{α:Type}(v:α)(K:α->Prop):ξ (some v) K=K v:=rfl
theorem bz{b:Bool}{A C:Prop}(h1:b=true->A)(ι:b=false->C):cond b A C:=by cases b;exact ι rfl;exact h1 rfl
theorem ud{p:Prop}[Decidable p](h:p){A C:Prop}:cond (decide p) A C=A:=by rw[bB h];rfl
theorem iD{p:Prop}[Decidable p](h:¬p){A C:Prop}:cond (decide p) A C=C:=by rw[iy h];rfl
theorem cond_pos{b:Bool}(h:b=true){A C:Prop}:cond b A C=A:=by rw[h];rfl
theorem cond_neg{b:Bool}(h:b=false){A C:Prop}:cond b A C=C:=by rw[h];rfl
theorem cC{α:Type}(a:α)(l:List α):(List.toArray (a::l))[0]?=some a:=rfl
theorem cD{α:Type}(a b:α)(l:List α):(List.toArray (a::b::l))[1]?=some b:=rfl
theorem mK{α:Type}(a b c:α)(l:List α):(List.toArray (a::b::c::l))[2]?=some c:=rfl
theorem Sr{α:Type}(a b c d:α)(l:List α):(List.toArray (a::b::c::d::l))[3]?=some d:=rfl
theorem alQ{α:Type}(a b c d e:α)(l:List α):(List.toArray (a::b::c::d::e::l))[4]?=some e:=rfl
end steps
def χ(S:Value->ao):aq:=λe w'=>∃v,e=.returned v/\S v w'
theorem χ.mk{S:Value->ao}{v:Value}{w:World}(h:S v w):χ S (.returned v) w:=⟨v,rfl,h⟩
theorem κ.use{P:Program}{g:Nat}{args:ag}{w:World}{N:Value->ao}{X:List PanicEntry->ao}{S:Value->ao}
  (h:Calls P g args w (χ S))(υ:∀v w',S v w'->N v w'):κ P g args w N X:=
 h.mono λe w'⟨v,he,ω⟩=>by subst he;exact υ v w' ω
theorem bY{x:Int}(h1:-9223372036854775808<=x)(ι:x<=9223372036854775807):IntKind.i64.wrap x=x:=by rw[IntKind.wrap_i64];omega
theorem wi(x:Int):IntKind.u8.wrap x=x%256:=by simp[IntKind.wrap,IntKind.signed,IntKind.bits]
theorem IF(k:IntKind)(xs:an):∀y∈xs.map (Value.int k),y.oneCell'=true:=by intro y ah;obtain⟨x,_,rfl⟩:=gO.1 ah;rfl
theorem a7.alloc{w:World}(cs:aU)(e:TypeId):a7 (w.alloc (.cells cs.toArray e)) (some ⟨w.heap.size,0,none⟩) cs:=λj v aJ=>by
 have ox:(⟨w.heap.size,0,none⟩:Addr).add j=⟨w.heap.size,j,none⟩:=by rw[Addr.add_lit];simp
 rw[ox,cell_of_block (DY w _)];simpa using aJ
theorem μ.alloc{w:World}(cs:aU)(e:TypeId)(sz n:Nat)(h:cs.length=n*sz):μ (w.alloc (.cells cs.toArray e)) w.heap.size e sz (some ⟨w.heap.size,0,none⟩) n n cs:=by
 have:=μ.made (w:=w) (e:=e) (sz:=sz) (n:=n) (c:=n) (cur:=cs.toArray) (fr:=(0,0)) (ew _) (by simp[h]) (wx.zero _)
 rwa[hc (by simp[h])]at this
theorem Bp{α:Type}(a b:α):cond true a b=a:=rfl
theorem iY{α:Type}(a b:α):cond false a b=b:=rfl
theorem Jo{α:Type}:(none:Option α).isNone=true:=rfl
theorem mI{α:Type}(a:α):(some a).isNone=false:=rfl
theorem ie{α:Type}(l:List α):l.toArray.toList=l:=rfl
open Go.ChangeShapes Go.WideShapes Go.ChangeAt Go.Deep
section
variable{H:Type}{enc:TypeId×Value->H}{P:Program}
theorem Wp(aj:laidOutB P=true){W b6:World}(ψ:Below W.heap.size W b6):∀(gh:List TypeId)(vs:aU)(ds:List (DataW H))(ps:List MemPlace),
  (gh.all λt=>P.readableRec t&&decide (t<P.types.size))=true->
  DataW.TrodAll enc P W 0 (λ_=>true) true gh vs ds ps->(∀x∈ps,x.block<W.heap.size)->DataW.TrodAll enc P b6 0 (λb=>decide (b<W.heap.size)) true gh vs ds ps
 |[],vs,ds,ps,_,h,_=>by cases vs<;>cases ds<;>simp[DataW.TrodAll]at h⊢;exact h
 |t::gh,vs,ds,ps,aQ,h,bM=>by
  obtain⟨v,Wx,d,RV,p,q,rfl,rfl,rfl,aD,h1⟩:=trodAll_cons h;simp only[List.all_cons,kx,po]at aQ;exact⟨p,q,Below.trod aj aQ.1.1 aQ.1.2 aD ψ λx I=>bM x (Vz _ I),
   Wp aj ψ gh Wx RV q (by simpa using aQ.2) h1 λx I=>bM x (List.mem_append_right _ I),rfl⟩
theorem Wq{W:World}{base:Nat}{sp:Nat->Bool}{af:Bool}:∀(gh:List TypeId)(vs:aU)(ds:List (DataW H))(ps:List MemPlace),
  DataW.TrodAll enc P W base sp af gh vs ds ps->∀x∈ps,x.block<W.heap.size
 |[],vs,ds,ps,h=>by cases vs<;>cases ds<;>simp[DataW.TrodAll]at h;subst h;simp
 |t::gh,vs,ds,ps,h=>by
  obtain⟨v,Wx,d,RV,p,q,rfl,rfl,rfl,aD,h1⟩:=trodAll_cons h;intro x I;rcases iG.1 I with h|h
  ·obtain⟨m,hm⟩:=aD;exact DataW.trod_lt m _ _ _ hm x h
  ·exact Wq gh Wx RV q h1 x h
def Room(d:DataW H)(cap:Nat):Prop:=(d=.nil/\cap=0)\/∃e s,d=.slice e s/\e.length+s.length=cap
theorem Room.sized{gh:List TypeId}{ds:List (DataW H)}(h:(DataW.weightsEach P gh ds).all (·<=reachBytes)=true){j:Nat}{t e:TypeId}{d:DataW H}{cap:Nat}(υ:Room d cap)(aP:gh[j]?=some t)(af:ds[j]?=some d)
  (hu:P.underlying t=some (.slice e))(b:Nat)(ψ:P.bytesOf e=b):cap*b<=140737488351232:=by
 subst ψ;rcases υ with⟨rfl,rfl⟩|⟨el,sp,rfl,rfl⟩
 ·simp
 ·exact sized_slice h aP af hu
structure Ints(k:IntKind)(w:World)(a:J)(len cap:Nat)(xs:an):Prop where
 cells:a7 w a (xs.map (.int k))
 size:xs.length=len
 room:len<=cap
 acf:cap<=maxLen
 wf:∀x∈xs,(Lit.int k x).wf=true
 lt:∀x,a=some x->0<cap->x.block<w.heap.size
 nil:a=none->cap=0
theorem ajy{t e:TypeId}{k:IntKind}(aP:P.underlying t=some (.slice e))(he:P.underlying e=some (.int k))(π:P.cellsOf e=1){W:World}{qG:Nat}{v:Value}{d:DataW H}{ps:List MemPlace}(iw:Value.okWide P W .any qG t v)
  (af:DataW.Trod enc P W 0 (λ_=>true) true t v d ps):∃a len cap xs,v=.slice a len cap/\Ints k W a len cap xs/\Room d cap:=by
 obtain⟨a,len,cap,rfl⟩:=okWide_slice aP iw;have lt:∀x∈ps,x.block<W.heap.size:=by obtain⟨m,hm⟩:=af;exact DataW.trod_lt m _ _ _ hm
 obtain⟨fuel,bg⟩:=af;rcases open_ints aP he π bg with⟨jq,I⟩|⟨x,l,c,kS,jq,_,aj,hm,aL,I,jT,aoT⟩
 ·simp[Value.cells]at jq;obtain⟨rfl,rfl,rfl⟩:=jq;simp only[Fe]at I;exact⟨none,0,0,[],rfl,⟨rfl,rfl,ew _,en _,(by simp),(λx h=>by cases h),λ_=>rfl⟩,.inl ⟨I.1,rfl⟩⟩
 ·simp[Value.cells]at jq;obtain⟨rfl,rfl,rfl⟩:=jq;simp only[Fe]at I;simp only[oR]at aL;refine⟨_,_,_,kS.take len,rfl,⟨?_,?_,aj,hm,λy ah=>aoT y (vW ah),?_,λh=>by cases h⟩,.inr ⟨_,_,I.1,by simp[lits];omega⟩⟩
  ·intro j y ah;rw[List.getElem?_map,List.getElem?_take]at ah;split at ah
   ·rw[Option.map_eq_some_iff]at ah;obtain⟨n,ax,rfl⟩:=ah;rw[jT j (List.getElem?_eq_some_iff.1 ax).1];simp[List.getD,ax]
   ·simp at ah
  ·rw[gQ];omega
  ·intro y ah aD;injection ah with ah
   subst ah
   have:=jT 0 (by omega)
   exact MK (by simpa[Addr.add]using this)
theorem ME{t:TypeId}{k:IntKind}(aP:P.underlying t=some (.int k)){W:World}{qG:Nat}{v:Value}{d:DataW H}{ps:List MemPlace}(iw:Value.okWide P W .any qG t v)
  (af:DataW.Trod enc P W 0 (λ_=>true) true t v d ps):∃n,v=.int k n/\(Lit.int k n).wf=true:=by
 obtain⟨n,h,_,_,hw⟩:=open_int aP iw af;exact⟨n,h,hw⟩
theorem Gl{n:Int}(h:(Lit.int .u8 n).wf=true):0<=n/\n<256:=by
 have:0<=n/\n<=255:=by simpa[Lit.wf,IntKind.min,IntKind.max,IntKind.signed,IntKind.bits]using h
 omega
end
def xe(n:Int):UInt8:=UInt8.ofNat n.toNat
theorem V8(qQ:an):(strOf qQ).toList=qQ.map xe:=by
 rw[ByteArray.toList_eq];have key:∀(l:an)(b:ByteArray),(l.foldl (λr n=>r.push (UInt8.ofNat n.toNat)) b).data.toList=b.data.toList++l.map xe:=by
  intro l
  induction l with
  |nil=>intro b;simp
  |cons x r ch=>intro b;rw[List.foldl_cons,ch];simp[ByteArray.push,xe]
 rw[strOf,key];simp
theorem abR{n:Int}(aD:0<=n)(h1:n<256):(xe n).toNat=n.toNat:=by rw[xe,UInt8.toNat_ofNat'];exact K2 (by omega)
theorem apq{m n:Int}(aD:0<=m)(h1:m<256)(w9:0<=n)(a1:n<256):xe m=xe n↔m=n:=by
 constructor
 ·intro h
  have:=gP UInt8.toNat h
  rw[abR aD h1,abR w9 a1]at this;omega
 ·intro h;rw[h]
theorem abS:∀{l m:an},(∀x∈l,0<=x/\x<256)->(∀x∈m,0<=x/\x<256)->l.map xe=m.map xe->l=m
 |[],[],_,_,_=>rfl
 |[],y::m,_,_,h=>by simp at h
 |x::l,[],_,_,h=>by simp at h
 |x::l,y::m,aj,hm,h=>by simp only[xw,List.cons.injEq]at h;have e:=(apq (aj x (by simp)).1 (aj x (by simp)).2 (hm y (by simp)).1 (hm y (by simp)).2).1 h.1;rw[e,abS (λz aL=>aj z (by simp[aL])) (λz aL=>hm z (by simp[aL])) h.2]
theorem aez{l m:an}(aj:∀x∈l,0<=x/\x<256)(hm:∀x∈m,0<=x/\x<256):((strOf l).toList==(strOf m).toList)=decide (l=m):=by
 rw[V8,V8];by_cases h:l=m
 ·subst h;simp
 ·have:l.map xe≠m.map xe:=λe=>h (abS aj hm e)
  simp[h,this]
theorem V9(qQ:an):(strOf qQ).size=qQ.length:=by
 have:=gP List.length (V8 qQ)
 rw[ByteArray.toList_eq,jV]at this;simpa using this
theorem BP:IntKind.i64.max=9223372036854775807:=by decide
theorem apJ(k:IntKind)(n:Nat):madeCells #[Value.int k 0] n=((List.replicate n (0:Int)).map (Value.int k)).toArray:=by
 apply Array.ext
 ·simp[madeCells]
 ·intro i h1 ι;simp[madeCells,Nat.mod_one]
theorem anh(w:World)(a:Addr)(n i:Nat)(h:i≠a.block):(w.freeze a n).heap[i]?=w.heap[i]?:=by
 unfold World.freeze;split
 ·rfl
 ·show(w.heap.modify _ _)[i]?=_;rw[Array.getElem?_modify,aM λe=>h e.symm]
theorem Kp.freeze(w:World)(a:Addr)(n:Nat):Kp w (w.freeze a n) λi=>i=a.block:=by refine⟨?_,?_,?_,?_,λi o h=>anh w a n i h⟩<;>unfold World.freeze<;>split<;>simp
theorem μ.writes{w:World}{B:Nat}{e:TypeId}{sz:Nat}{p:J}{n c:Nat}{xs:aU}(aB:μ w B e sz p n c xs)(ε:Nat)(ys:aU)(h:ε+ys.length<=n*sz)(h1:∀y∈ys,y.oneCell'=true):
  Mu w p ε ys/\μ (kQ w p ε ys) B e sz p n c (xs.take ε++ys++xs.drop (ε+ys.length))/\Kp w (kQ w p ε ys) λi=>∃x,p=some x/\x.block=i:=by
 obtain⟨jE,pc,hp⟩:=aB;rcases hp with⟨rfl,rfl⟩|⟨b,cur,fr,rfl,DN,o8,jr,π,I⟩
 ·have ax:n=0:=by omega
  subst ax;rw[Nat.zero_mul]at h jE
  have:ys=[]:=sb (by omega)
  subst this
  have:xs=[]:=sb (by omega)
  subst this;exact⟨trivial,⟨by simp,pc,.inl ⟨rfl,rfl⟩⟩,Kp.refl _ _⟩
 ·have hmul:n*sz<=c*sz:=tf _ pc;have ox:(⟨b,0,none⟩:Addr).add ε=⟨b,ε,none⟩:=by rw[Addr.add_lit];simp
  refine⟨?_,?_,?_⟩
  ·show hr w ((⟨b,0,none⟩:Addr).add ε) ys;rw[ox];refine⟨rfl,λj φ=>⟨?_,?_⟩,h1⟩<;>dsimp only
   ·rw[cell_of_block o8,Array.getElem?_eq_getElem (by omega)];rfl
   ·rw[Jx o8];rcases jr with h|h<;>simp<;>omega
  ·have eu:=JR b ys ε w cur o8;have hw:kQ w (some ⟨b,0,none⟩) ε ys=w.setCells b ε ys:=by simp[kQ]
   rw[hw];refine⟨?_,pc,.inr ⟨b,_,fr,rfl,DN,eu,by rw[size_put];exact jr,by rw[size_put];exact π,?_⟩⟩
   ·simp only[fe,gQ,ky];omega
   ·rw[Ge _ _ _ (by omega),<-I];have fV:cur.toList.length=cur.size:=kP;have jW:(cur.toList.take ε++ys).length=ε+ys.length:=by rw[fe,gQ];omega
    rw[List.take_append,hc (by omega),jW,AF,qZ (by omega),E6]
  ·have hw:kQ w (some ⟨b,0,none⟩) ε ys=w.setCells b ε ys:=by simp[kQ]
   rw[hw];exact Kp.setCells b ⟨_,rfl,rfl⟩ ys ε w
theorem akg{w:World}{B:Nat}{e:TypeId}{p s:J}{n c nu:Nat}{xs ys:aU}{N:ao}(aB:μ w B e 1 p n c xs)(ω:a7 w s ys)(aj:ys.length=nu)(p0:nu<=n)(h1:∀y∈ys,y.oneCell'=true)
  (K:∀w',μ w' B e 1 p n c (ys++xs.drop nu)->Kp w w' (λi=>∃x,p=some x/\x.block=i)->N w'):vq w p n s nu 1 N:=by
 obtain⟨a1,bP,cd⟩:=aB.writes 0 ys (by omega) h1;refine⟨ys,by rw[aj,ey];exact(qZ p0).symm,ω,a1,λw' fK=>?_⟩;subst fK;rw[mS,aj]at bP;exact K _ (by simpa using bP) cd
inductive og where
 |done
 |int (k:IntKind) (r:og)
 |bool (r:og)
 |b3 (b:Nat) (e r:og)
def og.len:og->Nat
 | .done=>0
 | .int _ r=>r.len+1
 | .bool r=>r.len+1
 | .b3 _ _ r=>r.len+1
structure zr(w:World)(m:Nat->bf)(b:Nat)(R:aU->Prop)(a:J)(len cap:Nat)(rows:List aU):Prop where
 size:rows.length=len
 room:len<=cap
 acf:m b cap
 fits:cap<=maxLen
 cells:a7 w a rows.flatten
 each:∀r∈rows,R r
 nil:a=none->cap=0
 lt:∀x,a=some x->0<cap->x.block<w.heap.size
def lH(w:World)(m:Nat->bf):og->aU->Prop
 | .done,vs=>vs=[]
 | .int k r,vs=>∃n t,vs=.int k n::t/\(Lit.int k n).wf=true/\lH w m r t
 | .bool r,vs=>∃b t,vs=.bool b::t/\lH w m r t
 | .b3 b e r,vs=>∃a len cap rows t,vs=.slice a len cap::t/\zr w m b (lH w m e) a len cap rows/\lH w m r t
theorem zr.ints{w:World}{m:Nat->bf}{b:Nat}{k:IntKind}{a:J}{len cap:Nat}{rows:List aU}(h:zr w m b (lH w m (.int k .done)) a len cap rows):∃xs,Ints k w a len cap xs/\m b cap/\rows=xs.map λx=>[Value.int k x]:=by
 have key:∀rows:List aU,(∀r∈rows,lH w m (.int k .done) r)->∃xs:an,rows=xs.map (λx=>[Value.int k x])/\∀x∈xs,(Lit.int k x).wf=true:=by
  intro rows
  induction rows with
  |nil=>intro _;exact⟨[],rfl,by simp⟩
  |cons r rs ch=>
   intro υ;obtain⟨xs,rfl,I⟩:=ch λr h=>υ r (hW _ h);obtain⟨n,t,rfl,ax,aP⟩:=υ r (n2 ..)
   have:t=[]:=aP
   subst this;exact⟨n::xs,rfl,λx h=>by rcases fA.1 h with rfl|h;exact ax;exact I x h⟩
 obtain⟨xs,rfl,I⟩:=key rows h.each;have vB:(xs.map λx=>[Value.int k x]).flatten=xs.map (Value.int k):=by
  clear h I
  induction xs with
  |nil=>rfl
  |cons x r ch=>simp[ch]
 have π:=h.cells;rw[vB]at π;exact⟨xs,⟨π,by simpa using h.size,h.room,h.fits,I,h.lt,h.nil⟩,h.acf,rfl⟩
def fieldsOf(P:Program)(rec:TypeId->og->Option og):List Field->Nat->Nat->og->Option og
 |[],off,Gf,k=>if off=Gf then some k else none
 |f::jo,off,Gf,k=>if f.offset=off then(fieldsOf P rec jo (off+P.cellsOf f.type) Gf k).bind (rec f.type)else none
def Hu(P:Program):Nat->TypeId->og->Option og
 |0,_,_=>none
 |n+1,t,k=>match P.underlying t with
  |some (.int j)=>some (.int j k)
  |some .bool=>some (.bool k)
  |some (.slice e)=>(Hu P n e .done).bind λl=>if l.len=P.cellsOf e/\l.len≠0 then some (.b3 (P.bytesOf e) l k)else none
  |some (.struct jo)=>fieldsOf P (Hu P n) jo.toList 0 (P.cellsOf t) k
  |_=>none
section
variable{H:Type}{enc:TypeId×Value->H}{P:Program}
structure QU(P:Program)(m:Nat->bf)(G:TypeId->DataW H->Prop):Prop where
 b3:∀t e el sp,P.underlying t=some (.slice e)->G t (.slice el sp)->m (P.bytesOf e) (el.length+sp.length)/\∀d∈el,G e d
 zero:∀b,m b 0
 st:∀t jo ds,P.underlying t=some (.struct jo)->G t (.agg ds)->∀(i:Nat)(f:Field)(d:DataW H),jo[i]?=some f->ds[i]?=some d->G f.type d
theorem Ni{α:Type}:∀(rows:List (List α))(k:Nat),(∀r∈rows,r.length=k)->∀(i:Nat)(r:List α),rows[i]?=some r->∀j,j<k->rows.flatten[i*k+j]?=r[j]?
 |[],_,_,i,r,h,_,_=>by simp at h
 |x::rs,k,hk,0,r,h,j,φ=>by
  simp only[List.getElem?_cons_zero,sa]at h;subst h
  have:=hk x (by simp)
  rw[B8,List.getElem?_append_left (by omega)];simp
 |x::rs,k,hk,i+1,r,h,j,φ=>by have I:=hk x (by simp);rw[B8,List.getElem?_append_right (by rw[I,k7];omega),I,k7,Fb,show i*k+k+j-k=i*k+j by omega];exact Ni rs k (λr υ=>hk r (hW _ υ)) i r (by simpa using h) j φ
theorem Sj{α:Type}:∀(rows:List (List α))(k:Nat),(∀r∈rows,r.length=k)->rows.flatten.length=rows.length*k
 |[],k,_=>by simp
 |x::rs,k,hk=>by rw[B8,fe,hk x (by simp),Sj rs k λr υ=>hk r (hW _ υ),k5,k7];omega
theorem Zy{m:Nat->bf}{W:World}{cs:aU}{rec:TypeId->og->Option og}
  (Gf:Nat)(aj:cs.length=Gf):∀(jo:List Field)(off:Nat)(k r:og),fieldsOf P rec jo off Gf k=some r->
  (∀(i:Nat)(f:Field),jo[i]?=some f->∀k r,rec f.type k=some r->∀tail,lH W m k tail->lH W m r ((cs.drop f.offset).take (P.cellsOf f.type)++tail))->∀tail,lH W m k tail->lH W m r (cs.drop off++tail)
 |[],off,k,r,h,_,tail,aP=>by
  unfold fieldsOf at h;split at h
  ·rename_i e;simp only[sa]at h;subst h;rw[qY (by omega)];exact aP
  ·cases h
 |f::jo,off,k,r,h,NY,tail,aP=>by
  unfold fieldsOf at h;split at h
  ·rename_i e;obtain⟨bP,ι,aG⟩:=Option.bind_eq_some_iff.1 h;have ch:=Zy Gf aj jo _ k bP ι (λi f bg=>NY (i+1) f (by simpa using bg)) tail aP
   have:=NY 0 f rfl bP r aG _ ch
   rw[e,<-lT]at this;rw[<-OX,yT]at this;exact this
  ·cases h
theorem Uv{m:Nat->bf}{G:TypeId->DataW H->Prop}(DP:QU P m G){W:World}:∀(n:Nat)(t:TypeId)(k r:og),Hu P n t k=some r->
  ∀(fuel:Nat)(cs:aU)(x:DataW H×List MemPlace),DataW.trod enc P W 0 (λ_=>true) true fuel t cs=some x->G t x.1->∀tail,lH W m k tail->lH W m r (cs++tail)
 |0,t,k,r,h,_,_,_,_,_,_,_=>by cases h
 |n+1,t,k,r,h,fuel,cs,x,I,bJ,tail,aP=>by
  unfold Hu at h;split at h
  ·rename_i j hu;simp only[sa]at h;subst h;obtain⟨z,rfl,_,hw⟩:=DataW.trod_int hu I;exact⟨z,tail,rfl,hw,aP⟩
  ·rename_i hu;simp only[sa]at h;subst h;obtain⟨z,rfl,_⟩:=DataW.trod_bool hu I;exact⟨z,tail,rfl,aP⟩
  ·rename_i e hu;obtain⟨l,ι,aG⟩:=Option.bind_eq_some_iff.1 h;split at aG
   ·rename_i hlen;obtain⟨hlen,ca⟩:=hlen;simp only[sa]at aG;subst aG;have bM:=DataW.trod_lt fuel t cs x I;rcases Go.Deep.open_slice hu I with⟨rfl,jU⟩|⟨a,len,cap,m',eX,D,ea,rfl,ψ,aj,hm,BF,jU,aaF⟩
    ·exact⟨none,0,0,[],tail,rfl,⟨rfl,ew _,DP.zero _,en _,rfl,(by simp),λ_=>rfl,(λx h _=>by cases h)⟩,aP⟩
    ·simp only[oR]at BF;subst BF;rw[jU]at bJ bM;obtain⟨g1,g2⟩:=DP.b3 t e _ _ hu bJ;have jS:len+(m'-len)=m':=by omega
     simp only[jV,Cc,jS]at g1;have abg:∀i,i<len->∃Dm,Dm.length=P.cellsOf e/\(∀j,j<P.cellsOf e->W.cell? ((a.add (i*P.cellsOf e)).add j)=Dm[j]?)/\lH W m l Dm:=by
      intro i o;obtain⟨Dm,π,aoB⟩:=aaF i (by omega);obtain⟨_,fV,rI⟩:=World.cells?_some π;refine⟨Dm,fV,rI,?_⟩
      have:=Uv DP n e .done l ι _ _ _ aoB (g2 _ (gO.2 ⟨i,ns.2 o,rfl⟩)) [] rfl
      simpa using this
     have TI:∃rows:List aU,rows.length=len/\∀i r,rows[i]?=some r->r.length=P.cellsOf e/\(∀j,j<P.cellsOf e->W.cell? ((a.add (i*P.cellsOf e)).add j)=r[j]?)/\lH W m l r:=by
      clear bM g1 g2 aaF bJ I jU aj jS
      induction len with
      |zero=>exact⟨[],rfl,λi r h=>by simp at h⟩
      |succ q ch=>
       obtain⟨rows,h1,ι⟩:=ch λi o=>abg i (by omega);obtain⟨Dm,aC⟩:=abg q (by omega);refine⟨rows++[Dm],by simp[h1],λi r o=>?_⟩;by_cases anw:i<rows.length
       ·rw[List.getElem?_append_left anw]at o;exact ι i r o
       ·have:i=q:=by
         have:=(List.getElem?_eq_some_iff.1 o).1
         simp only[fe,k5,Fa]at this;omega
        subst this;rw[List.getElem?_append_right (by omega),h1,v7]at o;simp only[List.getElem?_cons_zero,sa]at o;subst o;exact aC
     obtain⟨rows,uA,iK⟩:=TI;have hk:∀r∈rows,r.length=P.cellsOf e:=λr υ=>by obtain⟨i,o⟩:=List.getElem?_of_mem υ;exact(iK i r o).1
     refine⟨some a,len,m',rows,tail,rfl,⟨uA,aj,g1,hm,?_,λr υ=>by obtain⟨i,o⟩:=List.getElem?_of_mem υ;exact(iK i r o).2.2,(λh=>by cases h),λx nm aD=>?_⟩,aP⟩
     ·intro j v φ;have vG:0<P.cellsOf e:=by omega
      have sV:=(List.getElem?_eq_some_iff.1 φ).1;rw[Sj rows _ hk,uA]at sV;have aC:j/P.cellsOf e<rows.length:=by rw[uA];exact(Nat.div_lt_iff_lt_mul vG).2 sV
      have mj:=List.getElem?_eq_getElem aC;have lM:=Nat.mod_lt j vG;have zQ:j/P.cellsOf e*P.cellsOf e+j%P.cellsOf e=j:=by rw[Nat.mul_comm];exact Nat.div_add_mod j _
      have h1:=Ni rows _ hk _ _ mj _ lM;rw[zQ,φ]at h1;rw[<-zQ,<-add_add,(iK _ _ mj).2.1 _ lM,<-h1]
     ·injection nm with nm
      subst nm
      have:(MemPlace.cell a.block a.off)∈MemPlace.row a (m'*P.cellsOf e):=by have vG:0<m'*P.cellsOf e:=Nat.mul_pos aD (by omega);exact gO.2 ⟨0,ns.2 vG,by simp⟩
      exact bM _ (Vz _ this)
   ·cases aG
  ·rename_i jo hu;obtain⟨xs,eX,_,jU,aj,oD,bg⟩:=DataW.trod_struct hu I;rw[jU]at bJ
   have:=Zy (P:=P) (m:=m) (W:=W) (cs:=cs) (rec:=Hu P n) _ aj jo.toList 0 k r h (λi f o k r hk tail aP=>by
    have kX:jo[i]?=some f:=by rw[<-Array.getElem?_toList];exact o
    have h1:=bg i f kX;have bM:i<xs.length:=by rw[oD];exact(Array.getElem?_eq_some_iff.1 kX).1
    rw[List.getElem?_eq_getElem bM]at h1;exact Uv DP n f.type k r hk _ _ _ h1 (DP.st t jo _ hu bJ i f _ kX (by rw[List.getElem?_map,List.getElem?_eq_getElem bM];rfl)) tail aP) tail aP
   simpa using this
  ·cases h
theorem V1:QU P (λb c=>c*b<=140737488351232) (λt d=>(DataW.weights (H:=H) P t d).all (·<=reachBytes)=true)where
 b3:=λt e el sp hu h=>by
  simp only[DataW.weights,hu,List.all_cons,kx,po,K3]at h;refine⟨h.1,λd af=>?_⟩
  have:=h.2.1
  clear h
  induction el with
  |nil=>cases af
  |cons y r ch=>
   simp only[DataW.weightsAll,K3,kx]at this;rcases fA.1 af with rfl|af
   ·exact this.1
   ·exact ch af this.2
 zero:=λb=>by simp
 st:=λt jo ds hu h i f d bg af=>by
  simp only[DataW.weights,hu]at h;have key:∀(cp:List Field)(ds:List (DataW H)),(DataW.weightsEach P (cp.map (·.type)) ds).all (·<=reachBytes)=true->∀(i:Nat)(f:Field)(d:DataW H),cp[i]?=some f->ds[i]?=some d->(DataW.weights P f.type d).all (·<=reachBytes)=true:=by
   intro cp
   induction cp with
   |nil=>intro ds _ i f d bg _;simp at bg
   |cons g cp ch=>
    intro ds h i f d bg af;cases ds with
    |nil=>simp at af
    |cons y r=>
     simp only[xw,DataW.weightsEach,K3,kx]at h;cases i with
     |zero=>
      simp only[List.getElem?_cons_zero,sa]at bg af;subst bg;subst af;exact h.1
     |succ i=>exact ch r h.2 i f d (by simpa using bg) (by simpa using af)
  exact key jo.toList ds h i f d (by rw[Array.getElem?_toList];exact bg) af
theorem WJ{gh:List TypeId}{ds:List (DataW H)}(h:(DataW.weightsEach P gh ds).all (·<=reachBytes)=true):∀{j:Nat}{t:TypeId}{d:DataW H},gh[j]?=some t->ds[j]?=some d->(DataW.weights P t d).all (·<=reachBytes)=true:=by
 induction gh generalizing ds with
 |nil=>intro j t d aP _;simp at aP
 |cons u r ch=>
  intro j t d aP af;cases ds with
  |nil=>simp at af
  |cons y s=>
   simp only[DataW.weightsEach,K3,kx]at h;cases j with
   |zero=>
    simp only[List.getElem?_cons_zero,sa]at aP af;subst aP;subst af;exact h.1
   |succ j=>exact ch h.2 (by simpa using aP) (by simpa using af)
theorem Rf{m:Nat->bf}{G:TypeId->DataW H->Prop}(DP:QU P m G){t e:TypeId}{r:og}{b:Nat}(aP:P.underlying t=some (.slice e))(υ:Hu P 9 t .done=some (.b3 b r .done)){W:World}{qG:Nat}{v:Value}{d:DataW H}{ps:List MemPlace}(iw:Value.okWide P W .any qG t v)
  (af:DataW.Trod enc P W 0 (λ_=>true) true t v d ps)(bJ:G t d):∃a len cap rows,v=.slice a len cap/\zr W m b (lH W m r) a len cap rows:=by
 obtain⟨a,len,cap,rfl⟩:=okWide_slice aP iw;obtain⟨fuel,bg⟩:=af
 have:=Uv DP 9 t .done _ υ fuel _ _ bg bJ [] rfl
 obtain⟨fy,axK,Bn,rows,jW,h1,ι,_⟩:=this;simp only[Value.cells,pn,List.cons.injEq,Value.slice.injEq]at h1;obtain⟨⟨rfl,rfl,rfl⟩,_⟩:=h1;exact⟨_,_,_,rows,rfl,ι⟩
end
end Go.bO

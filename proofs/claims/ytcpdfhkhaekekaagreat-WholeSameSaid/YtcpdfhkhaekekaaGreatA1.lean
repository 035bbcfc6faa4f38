/- The walk of the functions, and the plain laws of the model: part of the proof. Conditions: none. -/
import Derived.Orders
import Derived.Below
import Derived.ProofKit
import Derived.OpenShut
import Derived.ChangeOld
import Derived.SizedLaws
import Derived.JoinedCond
import Derived.Carry
import Derived.Lib.SmallJoins
import Derived.Deep.Fields
import Derived.Deep.Slices
import Derived.WideShapes
import Derived.Test.YtcpdfhkhaekekaaGreatA0
set_option linter.unusedVariables false
set_option linter.unusedSimpArgs false
namespace Go.bJ
def dep(o:Oper):List Nat:=o.after.toList.filterMap λe=>cond (Region.binds .any e) (some e.on) none
def Nh(c:di)(o:Oper):Bool:=match o.op with
 | .alloc _=>false
 | .box _ _=>false
 | .store _ _ _=>false
 | .buildSlice _ _ _=>false
 | .makeSlice _ _ _=>false
 | .panic _=>false
 | .convert _ d _=>(match e6 c.tb d with
  |some j=>(match j.desc with| .slice _=>false|_=>true)
  |none=>false)
 | .call cl=>(match cl.callee with
  | .builtin b=>(match b with| .append=>false| .copy=>false| .panic=>false|_=>true)
  |_=>false)
 |_=>true
def Gu(c:di)(o:Oper):Bool:=match o.op with
 | .load _ _=>true
 | .convert _ d _=>(match e6 c.tb d with
  |some j=>(match j.desc with| .int _=>false| .float _=>false|_=>true)
  |none=>true)
 | .build _ _=>true
 | .makeInterface _ _=>true
 | .sliceToArrayPointer _ _=>true
 | .typeAssert _ _ _ _=>true
 | .call cl=>(match cl.callee with
  | .builtin _=>false
  |_=>true)
 |_=>false
def Jx(o:Oper):Bool:=match o.op with| .select _ _=>false|_=>true
def PB(o:Oper)(d:Nat):Bool:=match o.dst with|some e=>Nat.beq e d|none=>false
def Bg(ops:List Oper)(i:Nat):Bool:=match ops[i]?with
 |some o=>(match o.dst with
  |some d=>(List.range ops.length).any λj=>match ops[j]?with|some hN=>(hN.looksAt ops.toArray).contains d&&!(dep hN).contains i|none=>false
  |none=>false)
 |none=>false
def xo(ops:List Oper):Bool:=
 (List.range ops.length).all λi=>match ops[i]?with
  |some o=>Jx o&&((o.looksAt ops.toArray).all λd=>(List.range ops.length).all λj=>match ops[j]?with|some hN=>!PB hN d||(dep o).contains j||((dep hN).contains i&&Bg ops j)|none=>true)&&
   ((List.range ops.length).all λj=>Nat.beq i j||(match ops[j]?with|some hN=>(match o.dst with|some d=>!PB hN d|none=>true)|none=>true))
  |none=>true
def y2(ops:List Oper)(set:List Nat)(i:Nat):Bool:=match ops[i]?with
 |some o=>!set.contains i&&(dep o).all λe=>set.contains e
 |none=>false
def XZ(c:di)(ops:List Oper)(i:Nat):Bool:=match ops[i]?with|some o=>Nh c o&&!Bg ops i|none=>false
theorem aum{c:di}{ops:List Oper}{i:Nat}(h:XZ c ops i=true):Bg ops i=false:=by
 unfold XZ at h;split at h
 ·simp only[lf,Bool.not_eq_true']at h;exact h.2
 ·cases h
def Xc(c:di)(ops:List Oper)(set:List Nat):Option Nat:=(List.range ops.length).find? λi=>XZ c ops i&&y2 ops set i
def MK(ops:List Oper)(set:List Nat):List Nat:=(List.range ops.length).filter (y2 ops set)
def zC(ops:List Oper):Nat->List Nat->List Nat->List Nat
 |0,_,acc=>acc
 |_+1,[],acc=>acc
 |k+1,i::r,acc=>cond (acc.contains i) (zC ops k r acc) (zC ops k ((match ops[i]?with|some o=>dep o|none=>[])++r) (i::acc))
def CL(F:bl):List Nat->Prop
 |[]=>True
 |[i]=>F i
 |i::r=>F i/\CL F r
def X7(c:di)(ops:List Oper)(o:Oper)(ο:dj)(w:World)(K:Prop):Prop:=
 C8 ops o.guard ο (λο=>match o.op with
  | .load t a=>e0 ο a λa=>gI a λp=>ξ p λa=>ξ (e6 c.tb t) λi=>ξ o.dst λd=>ξ (ο.get d) λv=>cond (Bi i.desc) (cv v λcs=>ν (decide (cs.size=i.size)) (aB w a cs.toList/\K)) (w.cell? a=some v/\K)
  |_=>ξ o.dst λd=>ξ (ο.get d) λv=>vA c o ο w λqv=>qv=v/\K) (λ_=>K)
def recheck(c:di)(ops:List Oper)(ο:dj)(w:World):List Nat->Prop->Prop
 |[],K=>K
 |j::r,K=>ξ ops[j]? λo=>cond (Gu c o) (X7 c ops o ο w (recheck c ops ο w r K)) (recheck c ops ο w r K)
def uh(c:di)(n:Nat)(ops:List Oper)(Q:dj->al)(X:List PanicEntry->al):Nat->List Nat->List Nat->dj->al
 |0,_,_,_,_=>False
 |k+1,set,sure,ο,w=>match Xc c ops set with
  |some i=>ξ ops[i]? λo=>C8 ops o.guard ο
   (λο=>vA c o ο w λv=>uH n o.dst v ο λο=>uh c n ops Q X k (i::set) sure ο w)
   (λο=>uH n o.dst undef ο λο=>uh c n ops Q X k (i::set) sure ο w)
  |none=>match MK ops set with
   |[]=>Q ο w
   |es=>CL (λi=>ξ ops[i]? λo=>C8 ops o.guard ο
    (λο=>Fv c o ο w (λv w'=>recheck c ops ο w' (set.filter λj=>!(zC ops 200 (dep o) sure).contains j) (uH n o.dst v ο λο=>uh c n ops Q X k (i::set) (i::zC ops 200 (dep o) sure) ο w')) X)
    (λο=>uH n o.dst undef ο λο=>uh c n ops Q X k (i::set) (i::zC ops 200 (dep o) sure) ο w)) es
section
variable{ops:List Oper}{a av:Act}{o:Oper}
theorem anV{x:Operand}(h:∀t,x=.tmp t->a.tmps[t]?=av.tmps[t]?):a.eval x=av.eval x:=by
 cases x with
 |tmp t=>simp only[Act.eval,Ha,h t rfl]
 |_=>rfl
theorem abP(ab:Jx o=true)(h:∀d,d∈o.looksAt ops.toArray->a.tmps[d]?=av.tmps[d]?):execOp a.eval o=execOp av.eval o:=by refine execOp_congr o (λcs b τ=>by simp[Jx,τ]at ab) λx J=>anV λt aS=>h t ?_;subst aS;exact Ro _ (wa.2 ⟨.tmp t,by simpa using J,rfl⟩)
theorem ajy(h:∀d,d∈o.looksAt ops.toArray->a.tmps[d]?=av.tmps[d]?):Region.wanted o (yielded ops.toArray a.tmps)=Region.wanted o (yielded ops.toArray av.tmps):=by
 unfold Region.wanted;cases bH:o.guard with
 |none=>rfl
 |some aot=>
  obtain⟨g,want⟩:=aot
  have:yielded ops.toArray a.tmps g=yielded ops.toArray av.tmps g:=by
   unfold yielded;cases aS:(ops.toArray[g]?).bind (·.dst)with
   |none=>rfl
   |some t=>
    have:=h t (List.mem_append_right _ (by simp only[bH];rw[aS];simp))
    simp only[Option.bind_some,this]
  simp only[this]
theorem B8{d:Option Nat}{v:Value}{j:Nat}(h:d≠some j):(a.put d v).tmps[j]?=a.tmps[j]?:=by
 cases d with
 |none=>rfl
 |some e=>
  have:e≠j:=λx=>h (by rw[x])
  simp[Act.put,Array.getElem?_setIfInBounds_ne this]
theorem M9{d:Nat}{v:Value}(h:d<a.tmps.size):(a.put (some d) v).tmps[d]?=some v:=by simp[Act.put,h]
theorem Na{d:Option Nat}{v:Value}:(a.put d v).tmps.size=a.tmps.size:=by cases d<;>simp[Act.put]
theorem put_defers{d:Option Nat}{v:Value}:(a.put d v).defers=a.defers:=by cases d<;>rfl
def slot(a:Act)(d:Option Nat):Value:=(d.bind λd=>a.tmps[d]?).getD undef
theorem afJ(ab:a.tmps.size=av.tmps.size)(d:Option Nat)(v:Value):a.put d (slot (av.put d v) d)=a.put d v:=by
 cases d with
 |none=>rfl
 |some d=>
  by_cases h:d<av.tmps.size
  ·simp[slot,M9 h]
  ·have ι:¬d<a.tmps.size:=by omega
   unfold Act.put;simp only;rw[Array.setIfInBounds_eq_of_size_le (by omega),Array.setIfInBounds_eq_of_size_le (by omega)]
theorem arW{X:List PanicEntry->al}:¬LetsOut (λe _ w=>∃dg,e=Exit.panic dg/\X dg w):=by rintro⟨a,w,dg,h,_⟩;cases h
theorem ays{P:Program}{w:World}{K:Act->al}{X:List PanicEntry->al}{Q:Exit->Act->al}(he:execOp a.eval o=execOp av.eval o)(ab:a.tmps.size=av.tmps.size)(fF:∀dg w',X dg w'->Q (.panic dg) a w')
  (h:o.wp P av w (λfL w'=>fL.defers=av.defers/\K (a.put o.dst (slot fL o.dst)) w') (λe _ w'=>∃dg,e=.panic dg/\X dg w')):o.wp P a w K Q:=by
 unfold Oper.wp at*;rw[he];generalize(execOp av.eval o).run P w=r at h⊢;have key:∀v w',(av.put o.dst v).defers=av.defers/\K (a.put o.dst (slot (av.put o.dst v) o.dst)) w'->K (a.put o.dst v) w':=λv w' h=>by rw[afJ ab]at h;exact h.2
 cases r with
 |ok x w'=>
  cases x with
  |value v=>exact key _ _ h
  |skip=>exact key _ _ h
  |defer d=>
   exfalso;have h1:(({av with defers:=d::av.defers}:Act).put o.dst undef).defers=av.defers:=h.1;rw[put_defers]at h1
   have:=hr List.length h1
   simp at this
  |enter f args=>
   simp only[Oper.upon]at h⊢;refine Calls.mono h λe iu he=>?_;cases e with
   |returned v=>exact key _ _ he
   |panicked dg=>
    obtain⟨amr,aP,bM⟩:=he;cases aP;exact fF _ _ bM
   |outgrown=>exact(arW he).elim
  |row r args=>
   simp only[Oper.upon]at h⊢;exact Rows.mono h λv iu he=>key _ _ he
  |_=>exact h.elim
 |halt x w'=>
  cases x with
  |panic v=>
   obtain⟨dg,aP,bM⟩:=h;cases aP;exact fF _ _ bM
  |_=>exact h.elim
end
def zt(c:di)(ops:List Oper)(o:Oper)(v:Value)(a:Act)(H:Array Obj):Prop:=
 (Region.wanted o (yielded ops.toArray a.tmps)=true/\Yields c o a H v)\/(Region.wanted o (yielded ops.toArray a.tmps)=false/\v=undef)
theorem zt.same{c:di}{ops:List Oper}{o:Oper}{v:Value}{a av:Act}{H:Array Obj}(ab:Jx o=true)(h:∀d,d∈o.looksAt ops.toArray->a.tmps[d]?=av.tmps[d]?)(hw:zt c ops o v av H):zt c ops o v a H:=by unfold zt Yields at*;rw[abP ab h,ajy h];exact hw
theorem zt.wpOp{c:di}{ops:List Oper}{o:Oper}{v:Value}{a:Act}{w:World}{i:Nat}(I:ops[i]?=some o)(h:zt c ops o v a w.heap){K:Act->al}{Q:Exit->Act->al}(jA:K (a.put o.dst v) w):Go.wpOp c.P ops.toArray Q i K a w:=by
 unfold Go.wpOp;have lZ:ops.toArray[i]?=some o:=by simpa using I
 simp only[lZ];rcases h with⟨hw,az⟩|⟨hw,rfl⟩
 ·rw[aN hw];exact .inl (az.wp jA)
 ·rw[aL (by simp[hw])];exact jA
def Ord(ops:List Oper):List Nat->Prop
 |[]=>True
 |i::t=>(∃o,ops[i]?=some o/\∀e∈dep o,e∈t)/\Ord ops t
theorem GG{ops:List Oper}(h:xo ops=true){i:Nat}{o:Oper}(I:ops[i]?=some o):
  Jx o=true/\(∀d∈o.looksAt ops.toArray,∀j hN,ops[j]?=some hN->hN.dst=some d->j∈dep o\/(i∈dep hN/\Bg ops j=true))/\(∀j hN,ops[j]?=some hN->i≠j->∀d,o.dst=some d->hN.dst≠some d):=by
 have bQ:i<ops.length:=(List.getElem?_eq_some_iff.1 I).1
 have:=DS.1 h i (lh.2 bQ)
 rw[I]at this;simp only[lf]at this;obtain⟨⟨h1,ι⟩,aJ⟩:=this;refine⟨h1,λd ah j hN ψ s4=>?_,λj hN ψ b1 d ah s4=>?_⟩
 ·have:=DS.1 (DS.1 ι d ah) j (lh.2 (List.getElem?_eq_some_iff.1 ψ).1)
  rw[ψ]at this;simp only[PB,s4,DR,v7,Bool.false_or,Bool.or_eq_true,lf]at this;rcases this with this|⟨this,cK⟩
  ·exact .inl (by simpa using this)
  ·exact .inr ⟨by simpa using this,cK⟩
 ·have:=DS.1 aJ j (lh.2 (List.getElem?_eq_some_iff.1 ψ).1)
  rw[ψ]at this;simp only[ah,PB,s4,DR,v7,Bool.or_false]at this;exact b1 (yY this)
def bg(F:(Value->Prop)->Prop):Prop:=∀K,F K->∃v,K v/\∀sG:Value->Prop,sG v->F sG
section
variable{α:Type}
theorem bg.one(v:Value):bg λK=>K v:=λK h=>⟨v,h,λ_ h=>h⟩
theorem bg.no:bg λ_=>False:=λK h=>h.elim
theorem bg.ν{b:Bool}{G:(Value->Prop)->Prop}(h:bg G):bg λK=>bJ.ν b (G K):=λK hk=>by obtain⟨τ,hk⟩:=iy hk;obtain⟨v,az,f⟩:=h K hk;exact⟨v,az,λsG e2=>bU τ (f sG e2)⟩
theorem bg.cond{b:Bool}{G ZE:(Value->Prop)->Prop}(h:bg G)(e2:bg ZE):bg λK=>_root_.cond b (G K) (ZE K):=by cases b<;>assumption
theorem bg.ξ{x:Option α}{G:α->(Value->Prop)->Prop}(h:∀v,bg (G v)):bg λK=>bJ.ξ x λv=>G v K:=by
 cases x with
 |none=>exact bg.no
 |some v=>exact h v
theorem bg.e0{ο:dj}{x:Operand}{G:Value->(Value->Prop)->Prop}(h:∀v,bg (G v)):bg λK=>bJ.e0 ο x λv=>G v K:=by
 cases x with
 |tmp t=>exact bg.ξ h
 |_=>exact h _
theorem bg.qc{ο:dj}:∀{xs:List Operand}{G:aY->(Value->Prop)->Prop},(∀v,bg (G v))->bg λK=>bJ.qc ο xs λv=>G v K
 |[],G,h=>h []
 |x::r,G,h=>bg.e0 (G:=λv K=>bJ.qc ο r λvs=>G (v::vs) K) λv=>bg.qc (G:=λvs=>G (v::vs)) λvs=>h _
theorem bg.B2{ο:dj}{x:Option Operand}{G:Option Value->(Value->Prop)->Prop}(h:∀v,bg (G v)):bg λK=>bJ.B2 ο x λv=>G v K:=by
 cases x with
 |none=>exact h none
 |some x=>exact bg.e0 λv=>h (some v)
theorem bg.br{k:IntKind}{x:Value}{G:Int->(Value->Prop)->Prop}(h:∀v,bg (G v)):bg λK=>bJ.br k x λv=>G v K:=by cases x<;>first|exact bg.no|exact bg.ν (h _)
theorem bg.dF{x:Value}{G:Bool->(Value->Prop)->Prop}(h:∀v,bg (G v)):bg λK=>bJ.dF x λv=>G v K:=by cases x<;>first|exact bg.no|exact h _
theorem bg.cX{x:Value}{G:γ->Nat->Nat->(Value->Prop)->Prop}(h:∀a n c,bg (G a n c)):bg λK=>bJ.cX x λa n c=>G a n c K:=by cases x<;>first|exact bg.no|exact h _ _ _
theorem bg.gI{x:Value}{G:γ->(Value->Prop)->Prop}(h:∀v,bg (G v)):bg λK=>bJ.gI x λv=>G v K:=by cases x<;>first|exact bg.no|exact h _
theorem bg.cv{x:Value}{G:aj->(Value->Prop)->Prop}(h:∀v,bg (G v)):bg λK=>bJ.cv x λv=>G v K:=by cases x<;>first|exact bg.no|exact h _
theorem bg.b7{x:Value}{G:aj->(Value->Prop)->Prop}(h:∀v,bg (G v)):bg λK=>bJ.b7 x λv=>G v K:=by cases x<;>first|exact bg.no|exact h _
theorem bg.iI{x:Value}{G:ByteArray->(Value->Prop)->Prop}(h:∀v,bg (G v)):bg λK=>bJ.iI x λv=>G v K:=by cases x<;>first|exact bg.no|exact h _
theorem bg.rf{x:Value}{G:Option Nat->(Value->Prop)->Prop}(h:∀v,bg (G v)):bg λK=>bJ.rf x λv=>G v K:=by cases x<;>first|exact bg.no|exact h _
theorem bg.x5{x:Value}{G:Nat->(Value->Prop)->Prop}(h:∀v,bg (G v)):bg λK=>bJ.x5 x λv=>G v K:=by cases x<;>first|exact bg.no|(rename_i k _;cases k<;>first|exact bg.no|exact h _)
theorem bg.mA{x:Value}{G:Nat->Nat->(Value->Prop)->Prop}(h:∀a b,bg (G a b)):bg λK=>bJ.mA x λa b=>G a b K:=by cases x<;>first|exact bg.no|(rename_i k _ _;cases k<;>first|exact bg.no|exact h _ _)
theorem abr{d:TypeDesc}{v:Value}:bg (zF d v):=by
 cases d<;>first
  |exact bg.br λ_=>bg.one _
  |exact bg.dF λ_=>bg.one _
  |exact bg.iI λ_=>bg.one _
  |exact bg.x5 λ_=>bg.one _
  |exact bg.mA λ_ _=>bg.one _
  |exact bg.cX λ_ _ _=>bg.one _
  |exact bg.gI λ_=>bg.one _
  |exact bg.rf λ_=>bg.one _
  |exact bg.cv λ_=>bg.one _
  |exact bg.b7 λ_=>bg.one _
  |exact bg.one _
theorem al9{op:BinOp}{k:IntKind}{a b:Int}:bg (Pe op k a b):=by cases op<;>first|exact bg.no|exact bg.one _|exact bg.ν (bg.one _)
theorem amd{op:BinOp}{k:IntKind}{a b:Int}:bg (Pf op k a b):=by cases op<;>first|exact bg.no|exact bg.ν (bg.one _)
theorem Pc{op:BinOp}{r:Bool}:bg (Bf op r):=by cases op<;>first|exact bg.no|exact bg.one _
theorem avG{op:BinOp}{a b:ByteArray}:bg (Yv op a b):=by cases op<;>first|exact bg.no|exact bg.one _|exact bg.ν (bg.one _)
theorem amb{d:TypeDesc}{op:BinOp}{x y:Value}:bg (KY d op x y):=by
 intro K h;unfold KY at h;split at h
 ·exact bg.cond amd (bg.ν al9) K h
 ·exact bg.ν (bg.one _) K h
 ·cases op<;>first|exact bg.ξ (G:=λr K=>bJ.ξ _ λi=>K (.complex .f64 r i)) (λ_=>bg.ξ λ_=>bg.one _) K h|exact Pc K h
 ·exact avG K h
 ·split at h
  ·exact Pc K h
  ·exact h.elim
 ·split at h
  ·exact Pc K h
  ·exact h.elim
 ·split at h
  ·exact Pc K h
  ·exact h.elim
 ·exact h.elim
theorem anI{P:Program}{op:BinOp}{t:TypeId}{OI OK:Operand}{x y:Value}:bg (abL P op t OI OK x y):=λK⟨b,τ,h⟩=>⟨_,h,λsG e2=>⟨b,τ,e2⟩⟩
theorem ax8{op:UnOp}{x:Value}:bg (SD op x):=by cases op<;>cases x<;>first|exact bg.no|exact bg.one _
theorem asE{x:Value}:bg (Xd x):=by cases x<;>first|exact bg.no|exact bg.ξ λ_=>bg.one _|(rename_i f _ _;cases f<;>first|exact bg.no|exact bg.one _)
theorem aft{c:di}{t:TypeId}{cs:aj}{off:Nat}:bg (Q9 c t cs off):=bg.ξ λi=>bg.cond (bg.one _) (bg.ξ λ_=>abr)
theorem an4{c:di}{t:TypeId}{x:Value}{f:Nat}:bg (UM c t x f):=
 bg.cv λcs=>bg.ξ λi=>by generalize i.desc=d;cases d<;>first|exact bg.no|exact bg.ξ λ_=>aft
theorem an1{c:di}{t:TypeId}{x:Value}{f:Nat}:bg (UL c t x f):=
 bg.gI λcs=>bg.ξ λa=>bg.ξ λi=>by generalize i.desc=d;cases d<;>first|exact bg.no|exact bg.ξ λ_=>bg.ξ λ_=>bg.ν (bg.one _)
theorem ary{c:di}{t:TypeId}{x l6:Value}:bg (QC c t x l6):=by
 cases l6<;>first
  |exact bg.no
  |(refine bg.ν (bg.ξ λi=>?_)
    generalize i.desc=d
    cases d<;>first
      |exact bg.no
      |exact bg.gI λp=>bg.ξ λa=>bg.ν (bg.ξ λei=>bg.one _)
      |exact bg.cX λp n m=>bg.ν (bg.ξ λa=>bg.ξ λei=>bg.one _))
theorem arA{c:di}{t:TypeId}{x l6:Value}:bg (QE c t x l6):=by
 cases l6<;>first
  |exact bg.no
  |(refine bg.ν (bg.ξ λi=>?_)
    generalize i.desc=d
    cases d<;>first
      |exact bg.no
      |exact bg.cv λcs=>bg.ν (bg.ξ λei=>aft)
      |exact bg.iI λs=>bg.ξ λb=>bg.one _)
theorem VS{I:Option Value}{n m:Nat}{G:Nat->(Value->Prop)->Prop}(h:∀v,bg (G v)):bg λK=>F1 I n m λv=>G v K:=by
 intro K hk;unfold F1 at hk;split at hk
 ·exact h _ K hk
 ·exact bg.ν (bg.ν (h _)) K hk
 ·exact hk.elim
theorem Jn{fk:Option Value}{n:Nat}{G:Nat->(Value->Prop)->Prop}(h:∀v,bg (G v)):bg λK=>ux fk n λv=>G v K:=by
 intro K hk;unfold ux at hk;split at hk
 ·exact h _ K hk
 ·exact bg.ν (bg.ν (h _)) K hk
 ·exact hk.elim
theorem avk{c:di}{t:TypeId}{x:Value}{fk I:Option Value}:bg (Yq c t x fk I):=
 bg.ξ λi=>by
  generalize i.desc=d;cases d<;>first
   |exact bg.no
   |exact bg.iI λs=>VS λh=>Jn λl=>bg.one _
   |exact bg.cX λa n m=>bg.ξ λei=>VS λh=>Jn λl=>bg.one _
   |exact bg.gI λp=>bg.ξ λa=>bg.ξ λei=>VS λh=>Jn λl=>bg.one _
theorem avi{c:di}{t:TypeId}{x:Value}{fk:Option Value}{I uy:Value}:bg (Yp c t x fk I uy):=
 bg.ξ λi=>by
  generalize i.desc=d;cases d<;>first
   |exact bg.no
   |exact bg.cX λa n m=>bg.ξ λei=>Jn λm=>Jn λh=>Jn λl=>bg.one _
theorem arU{c:di}{t:TypeId}{x:Value}:bg (WX c t x):=
 bg.ξ λi=>by
  generalize i.desc=d;cases d<;>first
   |exact bg.no
   |exact bg.one _
   |exact bg.iI λs=>bg.one _
   |exact bg.cX λa n m=>bg.one _
theorem ati{ο:dj}{x:Operand}{K:Value->Prop}(h:e0 ο x K):∃v,(∀sG:Value->Prop,sG v->e0 ο x sG)/\K v:=by
 cases x with
 |tmp t=>
  obtain⟨v,e,h⟩:=dC h;exact⟨v,λsG e2=>hh e e2,h⟩
 |const v=>exact⟨v,λsG e2=>e2,h⟩
 |global g=>exact⟨_,λsG e2=>e2,h⟩
 |func f=>exact⟨_,λsG e2=>e2,h⟩
theorem amg{c:di}{b:Builtin}{gR:Array TypeId}{xs:aY}:bg (KZ c b gR xs):=by
 intro K hk;unfold KZ at hk;split at hk<;>try exact hk.elim
 ·split at hk
  ·exact bg.ξ (λ_=>arU) K hk
  ·exact hk.elim
 ·split at hk
  ·exact bg.mA (λ_ _=>bg.one _) K hk
  ·exact hk.elim
 ·split at hk
  ·exact bg.mA (λ_ _=>bg.one _) K hk
  ·exact hk.elim
 ·split at hk
  ·exact bg.x5 (λ_=>bg.x5 λ_=>bg.one _) K hk
  ·exact hk.elim
 ·split at hk
  ·exact bg.one _ K hk
  ·exact hk.elim
 ·split at hk
  ·exact bg.one _ K hk
  ·exact hk.elim
 ·split at hk
  ·refine bg.ξ (λt=>bg.ξ λi=>?_) K hk;generalize i.desc=d;cases d<;>first|exact bg.no|exact bg.cX λ_ _ _=>bg.one _
  ·exact hk.elim
theorem an0{k:IntKind}{b:Nat}:bg (abQ k b):=bg.ξ λn=>bg.ν (bg.ν (bg.one _))
theorem amJ{c:di}{s d:TypeId}(hm:(match e6 c.tb d with|some j=>(match j.desc with| .int _=>false| .float _=>false|_=>true)|none=>true)=false){x:Value}{w:World}{K:Value->Prop}(h:K4 c s d x w K):
  ∃v,K v/\∀w',K4 c s d x w' λqv=>qv=v:=by
 unfold K4 at h⊢;obtain⟨i,I,h⟩:=dC h;obtain⟨j,ψ,h⟩:=dC h;rw[ψ]at hm;simp only at hm;split at h
 ·rename_i k ah;split at h
  ·exact⟨_,h,λw'=>hh I (hh ψ (by rw[ah]))⟩
  ·obtain⟨v,az,f⟩:=an0 K h;exact⟨v,az,λw'=>hh I (hh ψ (by rw[ah];exact f (λqv=>qv=v) rfl))⟩
  ·exact h.elim
 ·rename_i ah;split at h
  ·exact⟨_,h,λw'=>hh I (hh ψ (by rw[ah]))⟩
  ·exact h.elim
 ·rename_i ah;rw[ah]at hm;exact absurd hm (by decide)
 ·exact h.elim
theorem anQ{c:di}{o:Oper}(hm:Gu c o=false){ο:dj}{w:World}{K:Value->Prop}(h:vA c o ο w K):∃v,K v/\∀w',vA c o ο w' λqv=>qv=v:=by
 unfold vA at h⊢;unfold Gu at hm;have use:∀{F:(Value->Prop)->Prop},bg F->F K->∃v,K v/\∀_:World,F λqv=>qv=v:=λah bm=>by obtain⟨v,az,f⟩:=ah K bm;exact⟨v,az,λ_=>f _ rfl⟩
 generalize o.op=p at h hm⊢;cases p<;>simp only at hm<;>first
  |exact absurd hm (by decide)
  |exact h.elim
  |exact use (bg.e0 λ_=>bg.one _) h
  |exact use (bg.e0 λ_=>asE) h
  |exact use (bg.e0 λ_=>ax8) h
  |exact use (bg.e0 λ_=>an1) h
  |exact use (bg.e0 λ_=>an4) h
  |exact use (bg.e0 λ_=>bg.e0 λ_=>ary) h
  |exact use (bg.e0 λ_=>bg.e0 λ_=>arA) h
  |exact use (bg.e0 λ_=>bg.e0 λ_=>bg.cond (bg.ξ λ_=>amb) anI) h
  |exact use (bg.e0 λ_=>bg.b7 λ_=>bg.ξ λ_=>bg.ξ λ_=>abr) h
  |exact use (bg.qc λ_=>bg.qc λ_=>bg.one _) h
  |exact use (bg.e0 λ_=>bg.dF λ_=>bg.cond (bg.e0 λ_=>bg.one _) (bg.e0 λ_=>bg.one _)) h
  |skip
 ·obtain⟨x,J,h⟩:=ati h;obtain⟨v,az,f⟩:=amJ hm h;exact⟨v,az,λw'=>J _ (f w')⟩
 ·rename_i t x fk I uy;cases uy with
  |none=>exact use (bg.e0 λx=>bg.B2 λfk=>bg.B2 λI=>avk) h
  |some m=>
   cases I with
   |none=>exact h.elim
   |some I=>exact use (bg.e0 λx=>bg.B2 λfk=>bg.e0 λI=>bg.e0 λuy=>avi) h
 ·rename_i cl;simp only at h⊢;cases gD:cl.callee with
  |builtin b=>
   rw[gD]at h hm;simp only at h hm⊢;exact use (bg.qc λxs=>amg) h
  |_=>rw[gD]at h;exact h.elim
end
def wM(c:di)(ops:List Oper)(o:Oper)(v:Value)(a:Act)(H:Array Obj):Prop:=zt c ops o v a H/\(Gu c o=false->∀Ip,zt c ops o v a Ip)
theorem wM.same{c:di}{ops:List Oper}{o:Oper}{v:Value}{a av:Act}{H:Array Obj}(ab:Jx o=true)(h:∀d,d∈o.looksAt ops.toArray->a.tmps[d]?=av.tmps[d]?)(hw:wM c ops o v av H):wM c ops o v a H:=
 ⟨hw.1.same ab h,λhm Ip=>(hw.2 hm Ip).same ab h⟩
structure nx(c:di)(n:Nat)(ops:List Oper)(set sure:List Nat)(ο:dj)(av a:Act)(L:Array Bool)(w:World):Prop where
 rel:Rel n av ο
 KU:a.defers=[]
 x2:a.tmps.size=n
 yI:L.size=ops.length
 sub:∀i:Nat,L[i]?=some true->i∈set
 ord:Ord ops set
 b8:∀i:Nat,L[i]?=some true->∀o,ops[i]?=some o->∀e∈dep o,L[e]?=some true
 Yy:∀i∈sure,L[i]?=some true
 kS:∀i∈set,L[i]?≠some true->∃o v,ops[i]?=some o/\wM c ops o v av w.heap/\∀d,o.dst=some d->d<n->av.tmps[d]?=some v
 eqs:∀d,(∀i∈set,L[i]?≠some true->∀o,ops[i]?=some o->o.dst≠some d)->a.tmps[d]?=av.tmps[d]?
 QT:∀i∈set,L[i]?≠some true->Bg ops i=false
theorem Ord.mem{ops:List Oper}:∀{set:List Nat},Ord ops set->∀i∈set,∃o,ops[i]?=some o/\∀e∈dep o,e∈set
 |i::t,⟨⟨o,aG,ah⟩,aS⟩,j,ψ=>by
  rcases fB.1 ψ with rfl|ψ
  ·exact⟨o,aG,λe he=>ie _ (ah e he)⟩
  ·obtain⟨o,aG,ah⟩:=Ord.mem aS j ψ;exact⟨o,aG,λe he=>ie _ (ah e he)⟩
theorem asm{o:Oper}{e:Edge}(he:e∈o.after)(τ:Region.binds .any e=true):e.on∈dep o:=by unfold dep;refine wa.2 ⟨e,by simpa using he,by rw[τ];rfl⟩
theorem am2{o:Oper}{j:Nat}(h:j∈dep o):∃e,e∈o.after/\Region.binds .any e=true/\e.on=j:=by
 obtain⟨e,he,ψ⟩:=wa.1 h;cases τ:Region.binds .any e with
 |true=>rw[τ]at ψ;exact⟨e,by simpa using he,τ,by simpa using ψ⟩
 |false=>rw[τ]at ψ;cases ψ
theorem RH{ops:List Oper}{L:Array Bool}(ak:L.size=ops.length){i:Nat}:
  i∈Region.ready .any ops.toArray L↔L[i]?=some false/\∃o,ops[i]?=some o/\∀e∈dep o,L[e]?=some true:=by
 unfold Region.ready;simp only[nN,lh,fP,lf,Bool.not_eq_true',List.getElem?_toArray];constructor
 ·rintro⟨I,h1,ι⟩;have lZ:i<L.size:=by omega
  refine⟨?_,?_⟩
  ·rw[Array.getElem?_eq_getElem lZ];rw[Ha,Array.getElem?_eq_getElem lZ]at h1;simpa using h1
  ·have aG:ops[i]?=some ops[i]:=List.getElem?_eq_getElem I;rw[aG]at ι;refine⟨_,aG,λj ψ=>?_⟩;obtain⟨e,he,τ,rfl⟩:=am2 ψ;simp only[jB,Rn]at ι
   have:=Array.all_eq_true'.1 ι e he
   rw[τ]at this;simp only[v7,Bool.false_or,Ha]at this;cases J:L[e.on]?with
   |none=>rw[J]at this;cases this
   |some b=>rw[J]at this;simp at this;rw[this]
 ·rintro⟨h1,o,aG,ah⟩;have I:i<ops.length:=(List.getElem?_eq_some_iff.1 aG).1;refine⟨I,by rw[Ha,h1];rfl,?_⟩;rw[aG];simp only[jB,Rn];refine Array.all_eq_true'.2 λe he=>?_;cases τ:Region.binds .any e with
  |false=>rfl
  |true=>
   have:=ah _ (asm he τ)
   rw[Ha,this];rfl
theorem Nw{ops:List Oper}{set:List Nat}{i:Nat}:y2 ops set i=true↔i∉set/\∃o,ops[i]?=some o/\∀e∈dep o,e∈set:=by
 unfold y2;cases aG:ops[i]?with
 |none=>simp
 |some o=>simp
section
variable{c:di}{n:Nat}{ops:List Oper}{set sure:List Nat}{ο:dj}{av a:Act}{L:Array Bool}{w:World}
theorem nx.ai2(g:nx c n ops set sure ο av a L w){i:Nat}(h:i∉set):L[i]?≠some true:=λe=>h (g.sub i e)
theorem nx.alX(g:nx c n ops set sure ο av a L w)(h:Region.ready .any ops.toArray L=[]):∀i∈set,L[i]?=some true:=by
 have key:∀s:List Nat,Ord ops s->∀i∈s,L[i]?=some true:=by
  intro s
  induction s with
  |nil=>intro _ i I;cases I
  |cons j t cw=>
   rintro⟨⟨o,aG,ah⟩,aS⟩ i I;rcases fB.1 I with rfl|I
   ·have bQ:i<L.size:=by rw[g.yI];exact(List.getElem?_eq_some_iff.1 aG).1
    cases J:L[i]?with
    |none=>rw[Array.getElem?_eq_none_iff]at J;omega
    |some b=>
     cases b with
     |true=>rfl
     |false=>
      have:i∈Region.ready .any ops.toArray L:=(RH g.yI).2 ⟨J,o,aG,λe he=>cw aS e (ah e he)⟩
      rw[h]at this;cases this
   ·exact cw aS i I
 exact key set g.ord
theorem nx.look(g:nx c n ops set sure ο av a L w)(dJ:xo ops=true){i:Nat}{o:Oper}(aG:ops[i]?=some o)(ah:∀e∈dep o,L[e]?=some true):∀d,d∈o.looksAt ops.toArray->a.tmps[d]?=av.tmps[d]?:=by
 intro d ak;refine g.eqs d λj ψ nG hN jH s4=>nG ?_;rcases(GG dJ aG).2.1 d ak j hN jH s4 with h|⟨_,h⟩
 ·exact ah j h
 ·rw[g.QT j ψ nG]at h;cases h
theorem nx.settle(g:nx c n ops set sure ο av a L w)(dJ:xo ops=true){i:Nat}(φ:y2 ops set i=true){o:Oper}(aG:ops[i]?=some o){v:Value}{gk:dj}(F9:Rel n (av.put o.dst v) gk)(hw:wM c ops o v av w.heap)(aH:Bg ops i=false):
  nx c n ops (i::set) sure gk (av.put o.dst v) a L w:=by
 obtain⟨I,ib,kf,ah⟩:=Nw.1 φ;rw[aG]at kf;cases kf;obtain⟨aV,bK,b4⟩:=GG dJ aG;have nG:L[i]?≠some true:=g.ai2 I;refine⟨F9,g.KU,g.x2,g.yI,λj ψ=>ie _ (g.sub j ψ),⟨⟨o,aG,ah⟩,g.ord⟩,g.b8,g.Yy,?_,?_,λj ψ hu=>?_⟩
 ·intro j ψ hu;rcases fB.1 ψ with rfl|ψ
  ·refine⟨o,v,aG,hw.same aV λd ak=>B8 λe=>?_,λd s4 bQ=>?_⟩
   ·rcases bK d ak _ o aG e with h|⟨h,_⟩<;>exact I (ah _ h)
   ·rw[s4];exact M9 (by rw[g.rel.2.1];exact bQ)
  ·obtain⟨hN,u,jH,Ws,Qq⟩:=g.kS j ψ hu;obtain⟨as9,Md,VF⟩:=g.ord.mem j ψ;rw[jH]at Md;cases Md;obtain⟨m1,m2,m3⟩:=GG dJ jH;refine⟨hN,u,jH,Ws.same m1 λd ak=>B8 λe=>?_,λd s4 bQ=>?_⟩
   ·rcases m2 d ak i o aG e with h|⟨_,h⟩
    ·exact I (VF _ h)
    ·rw[aH]at h;cases h
   ·rw[B8 λe=>?_]
    ·exact Qq d s4 bQ
    ·exact m3 i o aG (λe=>I (e▸ψ)) d s4 e
 ·intro d w6;have b1:o.dst≠some d:=w6 i (oj ..) nG o aG;rw[B8 b1];exact g.eqs d λj ψ hu=>w6 j (ie _ ψ) hu
 ·rcases fB.1 ψ with rfl|ψ
  ·exact aH
  ·exact g.QT j ψ hu
theorem J8{i j:Nat}(h:(L.setIfInBounds i true)[j]?=some true):j=i\/L[j]?=some true:=by
 rw[Array.getElem?_setIfInBounds]at h;by_cases e:i=j
 ·exact .inl e.symm
 ·rw[aL e]at h;exact .inr h
theorem zK{i j:Nat}(h:L[j]?=some true):(L.setIfInBounds i true)[j]?=some true:=by
 rw[Array.getElem?_setIfInBounds];by_cases e:i=j
 ·subst e
  have:i<L.size:=(Array.getElem?_eq_some_iff.1 h).1
  rw[aN rfl,aN this]
 ·rw[aL e];exact h
theorem U2{i:Nat}(h:i<L.size):(L.setIfInBounds i true)[i]?=some true:=by rw[Array.getElem?_setIfInBounds,aN rfl,aN h]
theorem nx.list(g:nx c n ops set sure ο av a L w)(dJ:xo ops=true){i:Nat}{o:Oper}(aG:ops[i]?=some o)(I:i∈set)(hu:L[i]?≠some true)(ah:∀e∈dep o,L[e]?=some true):
  ∃v,zt c ops o v a w.heap/\nx c n ops set sure ο av (a.put o.dst v) (L.setIfInBounds i true) w:=by
 obtain⟨ib,v,kf,hw,ab⟩:=g.kS i I hu;rw[aG]at kf;cases kf;have bQ:i<L.size:=by rw[g.yI];exact(List.getElem?_eq_some_iff.1 aG).1
 refine⟨v,(hw.same (GG dJ aG).1 (g.look dJ aG ah)).1,g.rel,by rw[put_defers];exact g.KU,by rw[Na];exact g.x2,by simp[g.yI],?_,g.ord,?_,λj ψ=>zK (g.Yy j ψ),?_,?_,λj ψ nG=>g.QT j ψ λe=>nG (zK e)⟩
 ·intro j ψ;rcases J8 ψ with rfl|ψ
  ·exact I
  ·exact g.sub j ψ
 ·intro j ψ hN jH e he;rcases J8 ψ with rfl|ψ
  ·rw[aG]at jH;cases jH;exact zK (ah e he)
  ·exact zK (g.b8 j ψ hN jH e he)
 ·intro j ψ nG;exact g.kS j ψ λe=>nG (zK e)
 ·intro d VE;by_cases e:o.dst=some d
  ·rw[e];by_cases ar:d<n
   ·rw[M9 (by rw[g.x2];exact ar),ab d e ar]
   ·rw[Array.getElem?_eq_none (by rw[Na,g.x2];exact JS ar),Array.getElem?_eq_none (by rw[g.rel.2.1];exact JS ar)]
  ·rw[B8 e];refine g.eqs d λj ψ nG hN jH=>?_;by_cases F2:j=i
   ·subst F2;rw[aG]at jH;cases jH;exact e
   ·refine VE j ψ (λh=>?_) hN jH;rcases J8 h with h|h
    ·exact F2 h
    ·exact nG h
theorem TX(π:∀i:Nat,L[i]?=some true->∀o,ops[i]?=some o->∀e∈dep o,L[e]?=some true):∀(k:Nat)(todo acc:List Nat),(∀i∈todo,L[i]?=some true)->(∀i∈acc,L[i]?=some true)->∀i∈zC ops k todo acc,L[i]?=some true
 |0,_,acc,_,aR=>aR
 |_+1,[],acc,_,aR=>aR
 |k+1,i::r,acc,aS,aR=>by
  unfold zC;cases acc.contains i with
  |true=>exact TX π k r acc (λj ψ=>aS j (ie _ ψ)) aR
  |false=>
   refine TX π k _ _ (λj ψ=>?_) (λj ψ=>?_)
   ·rcases iC.1 ψ with ψ|ψ
    ·cases aG:ops[i]?with
     |none=>rw[aG]at ψ;cases ψ
     |some o=>rw[aG]at ψ;exact π i (aS i (oj ..)) o aG j ψ
    ·exact aS j (ie _ ψ)
   ·rcases fB.1 ψ with rfl|ψ
    ·exact aS _ (oj ..)
    ·exact aR j ψ
theorem nx.step(g:nx c n ops set sure ο av a L w)(dJ:xo ops=true){i:Nat}(φ:y2 ops set i=true){o:Oper}(aG:ops[i]?=some o)(ah:∀e∈dep o,L[e]?=some true){v:Value}{gk:dj}{w':World}(F9:Rel n (av.put o.dst v) gk)
  (Dp:∀j∈set,j∉zC ops 200 (dep o) sure->∀hN,ops[j]?=some hN->∀u,wM c ops hN u av w.heap->(∀d,hN.dst=some d->d<n->av.tmps[d]?=some u)->wM c ops hN u av w'.heap):
  nx c n ops (i::set) (i::zC ops 200 (dep o) sure) gk (av.put o.dst v) (a.put o.dst v) (L.setIfInBounds i true) w':=by
 obtain⟨I,ib,kf,apC⟩:=Nw.1 φ;rw[aG]at kf;cases kf;obtain⟨aV,bK,b4⟩:=GG dJ aG;have bQ:i<L.size:=by rw[g.yI];exact(List.getElem?_eq_some_iff.1 aG).1
 have gD:=TX g.b8 200 (dep o) sure ah g.Yy;refine⟨F9,by rw[put_defers];exact g.KU,by rw[Na];exact g.x2,by simp[g.yI],?_,⟨⟨o,aG,apC⟩,g.ord⟩,?_,?_,?_,?_,λj ψ nG=>?_⟩
 ·intro j ψ;rcases J8 ψ with rfl|ψ
  ·exact oj ..
  ·exact ie _ (g.sub j ψ)
 ·intro j ψ hN jH e he;rcases J8 ψ with rfl|ψ
  ·rw[aG]at jH;cases jH;exact zK (ah e he)
  ·exact zK (g.b8 j ψ hN jH e he)
 ·intro j ψ;rcases fB.1 ψ with rfl|ψ
  ·exact U2 bQ
  ·exact zK (gD j ψ)
 ·intro j ψ nG;have h9:j≠i:=λe=>nG (by rw[e];exact U2 bQ);have ψ:j∈set:=by
   rcases fB.1 ψ with h|h
   ·exact(h9 h).elim
   ·exact h
  have Wk:L[j]?≠some true:=λe=>nG (zK e);obtain⟨hN,u,jH,Ws,Qq⟩:=g.kS j ψ Wk;obtain⟨as9,Md,VF⟩:=g.ord.mem j ψ;rw[jH]at Md;cases Md;obtain⟨m1,m2,m3⟩:=GG dJ jH;have qE:j∉zC ops 200 (dep o) sure:=λh=>Wk (gD j h);refine⟨hN,u,jH,(Dp j ψ qE hN jH u Ws Qq).same m1 λd ak=>B8 λe=>?_,λd s4 bQ=>?_⟩
  ·rcases m2 d ak i o aG e with h|⟨h,_⟩
   ·exact I (VF _ h)
   ·exact Wk (ah _ h)
  ·rw[B8 λe=>?_]
   ·exact Qq d s4 bQ
   ·exact m3 i o aG h9 d s4 e
 ·intro d VE;by_cases e:o.dst=some d
  ·rw[e];by_cases ar:d<n
   ·rw[M9 (by rw[g.x2];exact ar),M9 (by rw[g.rel.2.1];exact ar)]
   ·rw[Array.getElem?_eq_none (by rw[Na,g.x2];exact JS ar),Array.getElem?_eq_none (by rw[Na,g.rel.2.1];exact JS ar)]
  ·rw[B8 e,B8 e];refine g.eqs d λj ψ nG hN jH=>?_;have h9:j≠i:=λe=>I (e▸ψ);refine VE j (ie _ ψ) (λh=>?_) hN jH;rcases J8 h with h|h
   ·exact h9 h
   ·exact nG h
 ·have h9:j≠i:=λe=>nG (by rw[e];exact U2 bQ);rcases fB.1 ψ with h|h
  ·exact(h9 h).elim
  ·exact g.QT j h λe=>nG (zK e)
end
theorem count_set{L:Array Bool}{i:Nat}(h:L[i]?=some false):(L.setIfInBounds i true).toList.count false+1=L.toList.count false:=by
 have bQ:i<L.toList.length:=by simpa using(Array.getElem?_eq_some_iff.1 h).1
 rw[Array.toList_setIfInBounds,List.count_set bQ];have e:L.toList[i]=false:=by
  have:=(Array.getElem?_eq_some_iff.1 h).2
  simpa using this
 have hm:false∈L.toList:=by rw[<-e];exact hP _
 have:=List.count_pos_iff.2 hm
 rw[e,show(if(false==false)=true then 1 else 0)=1 from rfl,show(if(true==false)=true then 1 else 0)=0 from rfl];omega
theorem amO{L:Array Bool}(h:L.toList.count false=0){i:Nat}:L[i]?≠some false:=by
 intro I;have bQ:=(Array.getElem?_eq_some_iff.1 I)
 have:false∈L.toList:=by rw[<-bQ.2,<-JT];exact hP _
 exact(List.count_eq_zero.1 h) this
theorem aeC{c:di}{ops:List Oper}{set:List Nat}{i:Nat}(h:Xc c ops set=some i):y2 ops set i=true:=by
 have:=List.find?_some h
 simp only[lf]at this;exact this.2
theorem QQ{c:di}{ops:List Oper}{set:List Nat}{i:Nat}(h:Xc c ops set=some i):Bg ops i=false:=by
 have:=List.find?_some h
 simp only[lf]at this;exact aum this.1
theorem aes{ops:List Oper}{set:List Nat}{i:Nat}:i∈MK ops set↔y2 ops set i=true:=by unfold MK;rw[nN,lh];refine⟨λh=>h.2,λh=>⟨?_,h⟩⟩;obtain⟨_,o,aG,_⟩:=Nw.1 h;exact(List.getElem?_eq_some_iff.1 aG).1
theorem aas{F:bl}:∀{l:List Nat},CL F l->∀i∈l,F i
 |[j],h,i,I=>by
  have:i=j:=by simpa using I
  subst this;exact h
 |j::k::r,h,i,I=>by
  rcases fB.1 I with rfl|I
  ·exact h.1
  ·exact aas (l:=k::r) h.2 i I
theorem auw{c:di}(π:hT c){n:Nat}{ops:List Oper}{o:Oper}{ο:dj}{av:Act}(φ:Rel n av ο){H:Array Obj}{w':World}{K:Prop}(hm:Gu c o=true)(h:X7 c ops o ο w' K):
  K/\∀u,wM c ops o u av H->(∀d,o.dst=some d->d<n->av.tmps[d]?=some u)->wM c ops o u av w'.heap:=by
 have QR:∀{u}{Ip:Array Obj},zt c ops o u av Ip->wM c ops o u av Ip:=λhw=>⟨hw,λbm=>by rw[hm]at bm;cases bm⟩;unfold X7 at h;rcases Fz φ h with⟨hw,gk,e3,h⟩|⟨hw,gk,e3,h⟩
 ·have get:∀{d:Nat}{v:Value},o.dst=some d->gk.get d=some v->∀u,(∀d,o.dst=some d->d<n->av.tmps[d]?=some u)->v=u:=by
   intro d v ah az u hu;have h1:=e3.2.2 d v az;have bQ:d<n:=by rw[<-e3.2.1];exact(Array.getElem?_eq_some_iff.1 h1).1
   have ι:=hu d ah bQ;rw[h1]at ι;exact Cd ι
  split at h
  ·rename_i t x z1;have h:=hc e3 h;obtain⟨p,hp,h⟩:=vw h;cases p with
   |none=>exact h.elim
   |some a=>
   change ξ (e6 c.tb t) _ at h;obtain⟨i,I,h⟩:=dC h;obtain⟨d,ah,h⟩:=dC h;obtain⟨v,az,h⟩:=dC h;have oF:=π.fR I;cases aR:Bi i.desc with
   |true=>
    rw[aR]at h;obtain⟨cs,rfl,h⟩:=zD h;obtain⟨ab,h1,jA⟩:=iy h;refine⟨jA,λu _ hu=>QR (.inl ⟨hw,?_⟩)⟩;obtain rfl:=get ah az u hu
    have:=acp π oF aR (b6 ab) h1
    unfold Yields execOp;simp only[z1,hp];exact pq this
   |false=>
    rw[aR]at h;refine⟨h.2,λu _ hu=>QR (.inl ⟨hw,?_⟩)⟩;obtain rfl:=get ah az u hu
    have:=PR π oF aR h.1
    unfold Yields execOp;simp only[z1,hp];exact pq this
  ·obtain⟨d,ah,h⟩:=dC h;obtain⟨v,az,h⟩:=dC h;obtain⟨qv,ag,rfl,jA⟩:=Lm π e3 h;refine⟨jA,λu _ hu=>QR (.inl ⟨hw,?_⟩)⟩;obtain rfl:=get ah az u hu;exact ag
 ·refine⟨h,λu hu _=>QR (.inr ⟨hw,?_⟩)⟩;rcases hu.1 with⟨h1,_⟩|⟨_,ι⟩
  ·rw[hw]at h1;cases h1
  ·exact ι
theorem Ya{c:di}(π:hT c){n:Nat}{ops:List Oper}{ο:dj}{av:Act}(φ:Rel n av ο){H:Array Obj}{w':World}:∀{l:List Nat}{K:Prop},recheck c ops ο w' l K->
  K/\∀j∈l,∀o,ops[j]?=some o->∀u,wM c ops o u av H->(∀d,o.dst=some d->d<n->av.tmps[d]?=some u)->wM c ops o u av w'.heap
 |[],K,h=>⟨h,λj ψ=>by cases ψ⟩
 |i::r,K,h=>by
  obtain⟨o,aG,h⟩:=dC h;cases hm:Gu c o with
  |true=>
   rw[hm]at h;obtain⟨ι,h1⟩:=auw π φ (H:=H) hm h;obtain⟨jA,aJ⟩:=Ya π φ (H:=H) ι;refine⟨jA,λj ψ hN jH=>?_⟩;rcases fB.1 ψ with rfl|ψ
   ·rw[aG]at jH;cases jH;exact h1
   ·exact aJ j ψ hN jH
  |false=>
   rw[hm]at h;obtain⟨jA,aJ⟩:=Ya π φ (H:=H) h;refine⟨jA,λj ψ hN jH=>?_⟩;rcases fB.1 ψ with rfl|ψ
   ·rw[aG]at jH;cases jH
    exactλu hu _=>⟨hu.2 hm _,hu.2⟩
   ·exact aJ j ψ hN jH
section
variable{c:di}{n:Nat}{ops:List Oper}{set sure:List Nat}{ο:dj}{av a:Act}{L:Array Bool}{w:World}{Q:dj->al}{X:List PanicEntry->al}
theorem agp(π:hT c)(dJ:xo ops=true)(g:nx c n ops set sure ο av a L w){i:Nat}(aH:Bg ops i=false)(φ:y2 ops set i=true){o:Oper}(aG:ops[i]?=some o)(hw:Region.wanted o (yielded ops.toArray av.tmps)=true){gk:dj}(e3:Rel n av gk){k:Nat}
  (h:vA c o gk w λv=>uH n o.dst v gk λο=>uh c n ops Q X k (i::set) sure ο w):∃iO v,nx c n ops (i::set) sure iO (av.put o.dst v) a L w/\uh c n ops Q X k (i::set) sure iO w:=by
 cases hm:Gu c o with
 |true=>
  obtain⟨v,ag,h⟩:=Lm π e3 h;obtain⟨iO,ju,ι⟩:=xw e3 h;exact⟨iO,v,g.settle dJ φ aG ju ⟨.inl ⟨hw,ag⟩,λbm=>by rw[hm]at bm;cases bm⟩ aH,ι⟩
 |false=>
  obtain⟨v,h,f⟩:=anQ hm h;obtain⟨iO,ju,ι⟩:=xw e3 h;have all:∀H,Yields c o av H v:=λH=>by obtain⟨qv,ag,rfl⟩:=Lm π e3 (f {w with heap:=H});exact ag
  exact⟨iO,v,g.settle dJ φ aG ju ⟨.inl ⟨hw,all _⟩,λ_ H=>.inl ⟨hw,all H⟩⟩ aH,ι⟩
theorem ago(dJ:xo ops=true)(g:nx c n ops set sure ο av a L w){i:Nat}(aH:Bg ops i=false)(φ:y2 ops set i=true){o:Oper}(aG:ops[i]?=some o)(hw:Region.wanted o (yielded ops.toArray av.tmps)=false){gk:dj}(e3:Rel n av gk){k:Nat}
  (h:uH n o.dst undef gk λο=>uh c n ops Q X k (i::set) sure ο w):∃iO,nx c n ops (i::set) sure iO (av.put o.dst undef) a L w/\uh c n ops Q X k (i::set) sure iO w:=by
 obtain⟨iO,ju,ι⟩:=xw e3 h;exact⟨iO,g.settle dJ φ aG ju ⟨.inr ⟨hw,rfl⟩,λ_ H=>.inr ⟨hw,rfl⟩⟩ aH,ι⟩
theorem last{Q':Exit->Act->al}(dY:∀a ο w,Rel n a ο->Q ο w->Q' .normal a w)(dJ:xo ops=true)(g:nx c n ops set sure ο av a L w)(F8:Region.ready .any ops.toArray L=[]){F:List Nat->Prop}
  (h:match MK ops set with|[]=>Q ο w|es=>F es):Q' .normal a w:=by
 have ew:=g.alX F8;have eB:MK ops set=[]:=by
  refine X1.2 λi I=>?_;obtain⟨yo,o,aG,ah⟩:=Nw.1 (aes.1 I);have bQ:i<L.size:=by rw[g.yI];exact(List.getElem?_eq_some_iff.1 aG).1
  have PZ:L[i]?=some false:=by
   cases J:L[i]?with
   |none=>rw[Array.getElem?_eq_none_iff]at J;omega
   |some b=>
    cases b with
    |true=>exact(g.ai2 yo J).elim
    |false=>rfl
  have:i∈Region.ready .any ops.toArray L:=(RH g.yI).2 ⟨PZ,o,aG,λe he=>ew e (ah e he)⟩
  rw[F8]at this;cases this
 rw[eB]at h;refine dY a ο w ⟨g.KU,g.x2,λd v az=>?_⟩ h;rw[g.eqs d λi I hu=>(hu (ew i I)).elim];exact g.rel.2.2 d v az
end
theorem abM{c:di}(π:hT c){n:Nat}{ops:List Oper}(dJ:xo ops=true){Q:dj->al}{X:List PanicEntry->al}{Q':Exit->Act->al}
  (dY:∀a ο w,Rel n a ο->Q ο w->Q' .normal a w)(fF:∀a dg w,Rel n a []->X dg w->Q' (.panic dg) a w):
  ∀(fuel k:Nat)(set sure:List Nat)(ο:dj)(av a:Act)(L:Array Bool)(w:World),nx c n ops set sure ο av a L w->L.toList.count false<=fuel->uh c n ops Q X k set sure ο w->wpAny c.P .any ops.toArray Q' fuel L a w:=by
 intro fuel
 induction fuel with
 |zero=>
  intro k
  induction k with
  |zero=>exactλ_ _ _ _ _ _ _ _ _ h=>h.elim
  |succ k cw=>
   intro set sure ο av a L w g IZ h;unfold uh at h;split at h
   ·rename_i i I;obtain⟨o,aG,h⟩:=dC h;have φ:=aeC I;rcases Fz g.rel h with⟨hw,gk,e3,h⟩|⟨hw,gk,e3,h⟩
    ·exact(agp π dJ g (QQ I) φ aG hw e3 h).elim λiO⟨v,g2,ι⟩=>cw _ _ _ _ _ _ _ g2 IZ ι
    ·exact(ago dJ g (QQ I) φ aG hw e3 h).elim λiO⟨g2,ι⟩=>cw _ _ _ _ _ _ _ g2 IZ ι
   ·have F8:Region.ready .any ops.toArray L=[]:=by
     refine X1.2 λi I=>?_;exact amO (Nat.le_zero.1 IZ) ((RH g.yI).1 I).1
    exact⟨F8,last dY dJ g F8 h⟩
 |succ fuel WB=>
  intro k
  induction k with
  |zero=>exactλ_ _ _ _ _ _ _ _ _ h=>h.elim
  |succ k cw=>
   intro set sure ο av a L w g IZ h;have aF:=h;unfold uh at h;split at h
   ·rename_i i I;obtain⟨o,aG,h⟩:=dC h;have φ:=aeC I;rcases Fz g.rel h with⟨hw,gk,e3,h⟩|⟨hw,gk,e3,h⟩
    ·exact(agp π dJ g (QQ I) φ aG hw e3 h).elim λiO⟨v,g2,ι⟩=>cw _ _ _ _ _ _ _ g2 IZ ι
    ·exact(ago dJ g (QQ I) φ aG hw e3 h).elim λiO⟨g2,ι⟩=>cw _ _ _ _ _ _ _ g2 IZ ι
   ·refine⟨λF8=>last dY dJ g F8 h,λi I=>?_⟩;obtain⟨PZ,o,aG,ah⟩:=(RH g.yI).1 I;have nG:L[i]?≠some true:=by rw[PZ];simp
    have De:=count_set PZ;by_cases yo:i∈set
    ·obtain⟨v,hw,g2⟩:=g.list dJ aG yo nG ah;exact hw.wpOp aG (WB _ _ _ _ _ _ _ _ g2 (by omega) aF)
    ·have φ:y2 ops set i=true:=Nw.2 ⟨yo,o,aG,λe he=>g.sub e (ah e he)⟩;have j0:=aes.2 φ;split at h
     ·rename_i Dl;rw[Dl]at j0;cases j0
     ·have h:=aas h i j0;obtain⟨ib,kf,h⟩:=dC h;rw[aG]at kf;cases kf;have ado:=g.look dJ aG ah;unfold Go.wpOp;have l3:ops.toArray[i]?=some o:=by simpa using aG
      simp only[l3];rw[ajy ado];rcases Fz g.rel h with⟨hw,gk,e3,h⟩|⟨hw,gk,e3,h⟩
      ·rw[aN hw];refine .inl (ays (av:=av) (X:=X) (abP (GG dJ aG).1 ado) (by rw[g.x2,g.rel.2.1]) (λdg w' J=>fF a dg w' ⟨g.KU,g.x2,λd v h=>by cases h⟩ J) ?_);refine Ll π e3 (λv w' hp=>?_) (λdg w' J=>⟨dg,rfl,J⟩) h;rw[put_defers,afJ (by rw[g.x2,g.rel.2.1])];refine⟨rfl,?_⟩;obtain⟨hp,Dp⟩:=Ya π e3 (H:=w.heap) hp;obtain⟨iO,ju,ι⟩:=xw e3 hp;have ye:nx c n ops set sure gk av a L w:={g with rel:=e3};refine WB _ _ _ _ _ _ _ _ (ye.step dJ φ aG ah ju (w':=w') λj ψ qE hN jH u hu ab=>Dp j (nN.2 ⟨ψ,by simpa using qE⟩) hN jH u hu ab) (by omega) ι
      ·rw[aL (by simp[hw])];obtain⟨iO,ju,ι⟩:=xw e3 h;have ye:nx c n ops set sure gk av a L w:={g with rel:=e3};exact WB _ _ _ _ _ _ _ _ (ye.step dJ φ aG ah ju (w':=w) λj ψ qE hN jH u hu ab=>hu) (by omega) ι
inductive ko where
 |leaf
 |seq (a b:ko)
 |cut (cg:List (Nat×cS)) (K:hy Prop cg) (a b:ko)
 |cond (a b:ko)
 |block (a:ko)
 |loop (cg:List (Nat×cS)) (K:hy Prop cg) (body:hy Prop cg->ko)
def ko.left:ko->ko
 | .seq a _=>a
 | .cut _ _ a _=>a
 | .cond a _=>a
 | .block a=>a
 |_=>.leaf
def ko.right:ko->ko
 | .seq _ b=>b
 | .cut _ _ _ b=>b
 | .cond _ b=>b
 |_=>.leaf
abbrev j9:=Exit->dj->al
def iZ(next:dj->al)(Q:j9):j9
 | .normal,ο,w=>next ο w
 |e,ο,w=>Q e ο w
def uu(id:Nat)(Q:j9):j9
 | .exit Ac,ο,w=>cond (Nat.beq Ac id) (Q .normal ο w) (Q (.exit Ac) ο w)
 |e,ο,w=>Q e ο w
def Jv(Q:j9):j9
 | .goto _,_,_=>False
 |e,ο,w=>Q e ο w
def J7(s:ko)(y:dj->al):dj->al:=
 match s with
 | .cut cg K _ _=>gV cg K
 |_=>y
def oB(c:di)(n:Nat):Code->ko->j9->dj->al
 | .skip,_,Q,ο,w=>Q .normal ο w
 | .ret,_,Q,ο,w=>Q .ret ο w
 | .exit id,_,Q,ο,w=>Q (.exit id) ο w
 | .region _ ops Ft,_,Q,ο,w=>cond Ft
  (cond (Region.lexB .any ops&&ops.toList.all (Nh c)) (IJ c n ops.toList (λο=>∀k,Q .normal ο (w.drewN k)) w ops.toList ο)
   (ν (xo ops.toList) (uh c n ops.toList (Q .normal) (λdg w=>Q (.panic dg) [] w) (ops.toList.length+1) [] [] ο w.drew)))
  (PG c n ops.toList (Q .normal) (λο dg w=>Q (.panic dg) ο w) ops.toList ο w)
 | .seq x y,s,Q,ο,w=>oB c n x s.left (iZ (J7 s (oB c n y s.right Q)) Q) ο w
 | .cond p x y,s,Q,ο,w=>e0 ο p λv=>dF v λb=>cond b (oB c n x s.left Q ο w) (oB c n y s.right Q ο w)
 | .block id x,s,Q,ο,w=>oB c n x s.left (uu id Q) ο w
 | .scope x,s,Q,ο,w=>oB c n x s.left (Jv Q) ο w
 | .label _,_,Q,ο,w=>Q .normal ο w
 | .loop x,.loop cg K _,Q,ο,w=>gV cg K ο w
 |_,_,_,_,_=>False
def xn(c:di)(n:Nat):Code->ko->j9->Prop
 | .seq x y,.cut cg K wi rS,Q=>xn c n x wi (iZ (gV cg K) Q)/\mj cg K (oB c n y rS Q) []/\xn c n y rS Q
 | .seq x y,s,Q=>xn c n x s.left (iZ (J7 s (oB c n y s.right Q)) Q)/\xn c n y s.right Q
 | .cond _ x y,s,Q=>xn c n x s.left Q/\xn c n y s.right Q
 | .block id x,s,Q=>xn c n x s.left (uu id Q)
 | .scope x,s,Q=>xn c n x s.left (Jv Q)
 | .loop x,.loop cg K body,Q=>
  mj cg K (λο w=>∃(bE:hy Prop cg)(m:hy Nat cg),gV cg bE ο w/\pB cg bE m (λk ο w=>oB c n x (body (nk cg bE m k)) (iZ (gV cg (nk cg bE m k)) Q) ο w) []) []/\
   ∀C:hy Prop cg,xn c n x (body C) (iZ (gV cg C) Q)
 |_,_,_=>True
def zu(a:Act):dj:=(List.range a.tmps.size).filterMap λi=>(a.tmps[i]?).map λv=>(i,v)
theorem get_filterMap(f:Nat->Option Value):∀(l:List Nat)(d:Nat),dj.get (l.filterMap λi=>(f i).map λv=>(i,v)) d=if d∈l then f d else none
 |[],d=>by simp[dj.get]
 |i::l,d=>by
  have cw:=get_filterMap f l d;simp only[List.filterMap_cons];cases bm:f i with
  |none=>
   simp only[Option.map_none];rw[cw];by_cases e:d=i
   ·subst e;simp[bm]
   ·simp[e]
  |some v=>
   simp only[jB];rw[IM,cw];by_cases e:i=d
   ·subst e;simp[bm]
   ·have:d≠i:=λh=>e h.symm
    simp[e,this]
theorem PO(a:Act)(d:Nat):(zu a).get d=a.tmps[d]?:=by
 unfold zu;rw[get_filterMap];by_cases h:d<a.tmps.size
 ·simp[h]
 ·simp[h]
theorem auA{n:Nat}{a:Act}(ah:a.defers=[])(ar:a.tmps.size=n):Rel n a (zu a):=⟨ah,ar,λd v h=>by rw[<-PO];exact h⟩
theorem Rel.nil{n:Nat}{a:Act}{ο:dj}(h:Rel n a ο):Rel n a []:=⟨h.1,h.2.1,λd v h=>by simp[dj.get]at h⟩
def Holds(n:Nat)(Q:j9)(Q':Exit->Act->al):Prop:=∀e a ο w,Rel n a ο->Q e ο w->Q' e a w
theorem Holds.iZ{n:Nat}{Q:j9}{Q':Exit->Act->al}(h:Holds n Q Q'){N:dj->al}{lr:Act->al}(ek:∀a ο w,Rel n a ο->N ο w->lr a w):Holds n (bJ.iZ N Q) (Exit.then lr Q'):=by intro e a ο w φ aH;cases e<;>first|exact ek _ _ _ φ aH|exact h _ _ _ _ φ aH
theorem Holds.uu{n:Nat}{Q:j9}{Q':Exit->Act->al}(h:Holds n Q Q')(id:Nat):Holds n (bJ.uu id Q) (Exit.inBlock id Q'):=by
 intro e a ο w φ aH;cases e with
 |exit Ac=>
  simp only[bJ.uu]at aH;simp only[Exit.inBlock];by_cases e:Ac=id
  ·subst e;simp only[DR,ts]at aH;rw[aN rfl];exact h _ _ _ _ φ aH
  ·have:Nat.beq Ac id=false:=by
    cases τ:Nat.beq Ac id with
    |false=>rfl
    |true=>exact(e (yY τ)).elim
   rw[this]at aH;rw[aL e];exact h _ _ _ _ φ aH
 |_=>exact h _ _ _ _ φ aH
theorem Holds.Jv{n:Nat}{Q:j9}{Q':Exit->Act->al}(h:Holds n Q Q'):Holds n (bJ.Jv Q) (Exit.noGoto Q'):=by intro e a ο w φ aH;cases e<;>first|exact aH.elim|exact h _ _ _ _ φ aH
theorem PF{c:di}(π:hT c){n:Nat}:∀(x:Code)(s:ko)(Q:j9)(Q':Exit->Act->al)(a:Act)(ο:dj)(w:World),
  xn c n x s Q->Holds n Q Q'->Rel n a ο->oB c n x s Q ο w->x.wp c.P Q' a w:=by
 intro x
 induction x with
 |skip=>exactλs Q Q' a ο w _ dY φ h=>wp_skip (dY _ _ _ _ φ h)
 |ret=>exactλs Q Q' a ο w _ dY φ h=>wp_ret (dY _ _ _ _ φ h)
 |exit id=>exactλs Q Q' a ο w _ dY φ h=>wp_exit (dY _ _ _ _ φ h)
 |label l=>exactλs Q Q' a ο w _ dY φ h=>wp_label (dY _ _ _ _ φ h)
 |goto l=>exactλs Q Q' a ο w _ dY φ h=>h.elim
 |refuse m=>exactλs Q Q' a ο w _ dY φ h=>h.elim
 |rangeFunc f ps sM sQ=>exactλs Q Q' a ο w _ dY φ h=>h.elim
 |region id ops Ft=>
  intro s Q Q' a ο w _ dY φ h;cases Ft with
  |false=>
   refine wp_region_list ?_
   have:=UH π (ops:=ops.toList) (Q:=Q .normal) (X:=λο dg w=>Q (.panic dg) ο w) (Q':=Q') (λa ο w φ h=>dY _ _ _ _ φ h) (λa ο dg w φ h=>dY _ _ _ _ φ h) ops.toList a ο w φ h
   simpa using this
  |true=>
   cases eh:Region.lexB .any ops&&ops.toList.all (Nh c)with
   |false=>
    have h:cond (Region.lexB .any ops&&ops.toList.all (Nh c)) _ (ν (xo ops.toList) (uh c n ops.toList (Q .normal) (λdg w=>Q (.panic dg) [] w) (ops.toList.length+1) [] [] ο w.drew)):=h;rw[eh]at h;obtain⟨dJ,h⟩:=iy h;refine wp_region_any π.mixed ?_;refine abM π dJ (Q:=Q .normal) (X:=λdg w=>Q (.panic dg) [] w) (Q':=Q') (λa ο w φ h=>dY _ _ _ _ φ h) (λa dg w φ h=>dY _ _ _ _ φ h) ops.size _ [] [] ο a a (Array.replicate ops.size false) _ ?_ ?_ h
    ·refine⟨φ,φ.1,φ.2.1,by simp,?_,trivial,?_,?_,?_,λd _=>rfl,λi I=>(by cases I)⟩
     ·intro i I;rw[Array.getElem?_replicate]at I;split at I<;>simp at I
     ·intro i I;rw[Array.getElem?_replicate]at I;split at I<;>simp at I
     ·intro i I;cases I
     ·intro i I;cases I
    ·simp
   |true=>
   have h:cond (Region.lexB .any ops&&ops.toList.all (Nh c)) (IJ c n ops.toList (λο=>∀k,Q .normal ο (w.drewN k)) w ops.toList ο) _:=h;rw[eh]at h;have eh:Region.lexB .any ops=true:=(JR.1 eh).1;have h:IJ c n ops.toList (λο=>∀k,Q .normal ο (w.drewN k)) w ops.toList ο:=h
   have:=UI π (ops:=ops.toList) (Q:=λο=>∀k,Q .normal ο (w.drewN k)) (w:=w) (Q':=λfL=>∀w',(∃n,w'=w.drewN n)->Q' .normal fL w') (λa ο φ h w'⟨k,hk⟩=>by subst hk;exact dY _ _ _ _ φ (h k)) ops.toList a ο φ h
   have ι:=wp_region_quiet_lit (id:=id) (Q:=Q') (a:=a) (w:=w) (l:=ops.toList) π.mixed (by simpa using eh) this;simpa using ι
 |seq x y nJ nK=>
  intro s Q Q' a ο w aG dY φ h;refine wp_seq ?_;cases s with
  |cut cg K wi rS=>
   obtain⟨mT,l3,xa⟩:=aG;refine nJ wi (iZ (gV cg K) Q) _ a ο w mT (dY.iZ λfL gk w' e3 hk=>?_) φ h;obtain⟨iO,ju,ι⟩:=pC e3 e3.nil l3 hk;exact nK rS Q Q' fL iO w' xa dY ju ι
  |_=>
   obtain⟨mT,l3⟩:=aG;exact nJ _ _ _ a ο w mT (dY.iZ λfL gk w' e3 hk=>nK _ Q Q' fL gk w' l3 dY e3 hk) φ h
 |cond p x y nJ nK=>
  intro s Q Q' a ο w aG dY φ h;obtain⟨b,τ,h⟩:=CZ (hc φ h);refine wp_cond τ ?_;cases b with
  |true=>exact nJ s.left Q Q' a ο w aG.1 dY φ h
  |false=>exact nK s.right Q Q' a ο w aG.2 dY φ h
 |block id x cw=>
  intro s Q Q' a ο w aG dY φ h;exact wp_block (cw s.left _ _ a ο w aG (dY.uu id) φ h)
 |scope x cw=>
  intro s Q Q' a ο w aG dY φ h;exact wp_scope_straight (cw s.left _ _ a ο w aG dY.Jv φ h)
 |loop x cw=>
  intro s Q Q' a ο w aG dY φ h;cases s with
  |loop cg K body=>
   obtain⟨mT,l3⟩:=aG;obtain⟨aff,vL,bE,m,jt,z7⟩:=pC φ φ.nil mT h;have L8:∀{a:Act}{ο:dj},Rel n a ο->∀d v,ο.get d=some v->(zu a).get d=some v:=λφ d v h=>by rw[PO];exact φ.2.2 d v h
   refine wp_loop (λa w=>a.defers=[]/\a.tmps.size=n/\gV cg bE (zu a) w) (λa w=>nm cg m (zu a) w) ⟨vL.1,vL.2.1,(qp (L8 vL) jt).1⟩ ?_;rintro fL w' ⟨ah,ar,Va⟩;have Jb:=auA ah ar;obtain⟨iO,ju,ι⟩:=rU Jb Jb.nil z7 Va;refine cw _ _ _ fL iO w' (l3 _) (dY.iZ λa3 atp χ F7 aJ=>?_) ju ι;obtain⟨cK,dx⟩:=rV aJ;obtain⟨h8,hq⟩:=qp (L8 F7) cK;exact⟨⟨F7.1,F7.2.1,h8⟩,by rw[<-hq m];exact dx⟩
  |_=>exact h.elim
def af2(c:di)(r:ResultVar)(ο:dj)(w:World)(K:Value->Prop):Prop:=
 match r with
 | .tmp t=>ξ (ο.get t) K
 | .cell a t=>ξ (ο.get a) λp=>WW c t p w K
def Ny(c:di):List ResultVar->dj->World->(aY->Prop)->Prop
 |[],_,_,K=>K []
 |r::l,ο,w,K=>af2 c r ο w λv=>Ny c l ο w λvs=>K (v::vs)
def RL:aY->Value
 |[v]=>v
 |vs=>.tuple vs.toArray
def fin(c:di)(rs:List ResultVar)(R:au):j9
 | .ret,ο,w=>Ny c rs ο w λvs=>R (.returned (RL vs)) w
 | .normal,ο,w=>Ny c rs ο w λvs=>R (.returned (RL vs)) w
 | .panic dg,ο,w=>R (.panicked dg) w
 |_,_,_=>False
def J2(tmps:aj)(r:ResultVar):Sem Value:=
 match r with
 | .tmp t=>pure (tmps.getD t undef)
 | .cell a t=>do loadVar t (<-asAddr (tmps.getD a undef))
theorem auF{c:di}(π:hT c){n:Nat}{a:Act}{ο:dj}(φ:Rel n a ο){r:ResultVar}{w:World}{K:Value->Prop}(h:af2 c r ο w K):
  ∃v,(J2 a.tmps r).run c.P w=.ok v w/\K v:=by
 cases r with
 |tmp t=>
  obtain⟨v,az,h⟩:=dC h
  have:=φ.2.2 t v az
  exact⟨v,by simp[J2,this],h⟩
 |cell p t=>
  obtain⟨q,aH,h⟩:=dC h;have hp:=φ.2.2 p q aH;obtain⟨v,az,h⟩:=aeb π h;refine⟨v,?_,h⟩;have ι:=az w rfl;have bH:a.tmps.getD p undef=q:=by simp[hp]
  simp only[J2];rw[bH];cases q with
  |pointer o=>
   cases o with
   |some b=>
    unfold Instr.loadAt at ι;simpa[asAddr,Instr.sureAddr]using ι
   |none=>simp[Instr.loadAt,Instr.sureAddr,stuck]at ι
  |_=>simp[Instr.loadAt,Instr.sureAddr,stuck]at ι
theorem RK{c:di}(π:hT c){n:Nat}{a:Act}{ο:dj}(φ:Rel n a ο){w:World}:∀{rs:List ResultVar}{K:aY->Prop},Ny c rs ο w K->
  ∃vs,(rs.mapM (J2 a.tmps)).run c.P w=.ok vs w/\K vs
 |[],K,h=>⟨[],by simp,h⟩
 |r::l,K,h=>by obtain⟨v,az,h⟩:=auF π φ h;obtain⟨vs,mW,h⟩:=RK π φ (rs:=l) h;refine⟨v::vs,?_,h⟩;rw[List.mapM_cons,Sem.run_bind,az,Result.andThen_ok,Sem.run_bind,mW];rfl
theorem Yb{c:di}{fn:Func}{tmps:aj}{w:World}{vs:aY}
  (h:(fn.results.toList.mapM (J2 tmps)).run c.P w=.ok vs w):
  (results fn tmps).run c.P w=.ok (RL vs) w:=by
 have e:results fn tmps=(do
   let vs<-fn.results.mapM (J2 tmps)
   pure (if h:vs.size=1 then vs[0]else .tuple vs)):=rfl
 rw[e,Sem.run_bind,Array.mapM_eq_mapM_toList,Sem.run_map,h];simp only[Result.andThen_ok,Sem.run_pure];congr 1
 match vs with
 |[]=>rfl
 |[v]=>rfl
 |v::u::r=>rfl
def r5:Nat->aY->dj
 |_,[]=>[]
 |k,v::r=>(k,v)::r5 (k+1) r
theorem U0:∀(l:aY)(k d:Nat)(v:Value),(r5 k l).get d=some v->k<=d/\l[d-k]?=some v
 |[],k,d,v,h=>by simp[r5,dj.get]at h
 |u::r,k,d,v,h=>by
  simp only[r5]at h;rw[IM]at h;by_cases e:k=d
  ·subst e;rw[aN rfl]at h;simpa using h
  ·rw[aL e]at h;obtain⟨h1,ι⟩:=U0 r (k+1) d v h;refine⟨by omega,?_⟩;rw[show d-k=(d-(k+1))+1 by omega];simpa using ι
theorem anU{c:di}(π:hT c){f:FuncId}{fn:Func}{code:Code}(bm:c.P.funcs[f]?=some fn)(τ:fn.body=some code)(rs:List ResultVar)(ku:fn.results.toList=rs)(ia:Nat)(s6:fn.ntmps=ia)(s:ko){args:aY}(aR:args.length<=ia)
  {w:World}{R:au}(aG:xn c ia code s (fin c rs R))(h:oB c ia code s (fin c rs R) (r5 0 args) w):Calls c.P f args.toArray w R:=by
 subst s6;refine calls_of_wp bm τ ?_;refine PF π code s (fin c rs R) _ _ (r5 0 args) w aG ?_ ?_ h
 ·intro e a ο w φ aH;cases e with
  |ret=>
   obtain⟨vs,mW,iU⟩:=RK π φ aH;rw[<-ku]at mW;exact⟨φ.1,_,Yb mW,iU⟩
  |normal=>
   obtain⟨vs,mW,iU⟩:=RK π φ aH;rw[<-ku]at mW;exact⟨φ.1,_,Yb mW,iU⟩
  |panic dg=>exact⟨φ.1,aH⟩
  |exit id=>exact aH.elim
  |goto l=>exact aH.elim
  |outgrown=>exact aH.elim
 ·refine⟨rfl,by simp;omega,λd v ah=>?_⟩;obtain⟨_,ι⟩:=U0 args 0 d v ah;rw[Nat.sub_zero]at ι;rw[Array.getElem?_append]
  have:d<args.toArray.size:=by simp;exact(List.getElem?_eq_some_iff.1 ι).1
  rw[aN this];simpa using ι
def qb(c:di)(n:Nat):Code->ko->j9->Prop->Prop
 | .seq x y,.cut cg K wi rS,Q,r=>qb c n x wi (iZ (gV cg K) Q) (mj cg K (oB c n y rS Q) []/\qb c n y rS Q r)
 | .seq x y,s,Q,r=>qb c n x s.left (iZ (J7 s (oB c n y s.right Q)) Q) (qb c n y s.right Q r)
 | .cond _ x y,s,Q,r=>qb c n x s.left Q (qb c n y s.right Q r)
 | .block id x,s,Q,r=>qb c n x s.left (uu id Q) r
 | .scope x,s,Q,r=>qb c n x s.left (Jv Q) r
 | .loop x,.loop cg K body,Q,r=>
  mj cg K (λο w=>∃(bE:hy Prop cg)(m:hy Nat cg),gV cg bE ο w/\pB cg bE m (λk ο w=>oB c n x (body (nk cg bE m k)) (iZ (gV cg (nk cg bE m k)) Q) ο w) []) []/\
   (∀C:hy Prop cg,qb c n x (body C) (iZ (gV cg C) Q) True)/\r
 |_,_,_,r=>r
theorem Q2{c:di}{n:Nat}:∀(x:Code)(s:ko)(Q:j9)(r:Prop),qb c n x s Q r->xn c n x s Q/\r:=by
 intro x
 induction x with
 |seq x y nJ nK=>
  intro s Q r h;cases s with
  |cut cg K wi rS=>
   obtain⟨h1,ι,aJ⟩:=nJ _ _ _ h;obtain⟨cK,dx⟩:=nK _ _ _ aJ;exact⟨⟨h1,ι,cK⟩,dx⟩
  |_=>
   obtain⟨h1,ι⟩:=nJ _ _ _ h;obtain⟨cK,dx⟩:=nK _ _ _ ι;exact⟨⟨h1,cK⟩,dx⟩
 |cond p x y nJ nK=>
  intro s Q r h;obtain⟨h1,ι⟩:=nJ _ _ _ h;obtain⟨cK,dx⟩:=nK _ _ _ ι;exact⟨⟨h1,cK⟩,dx⟩
 |block id x cw=>exactλs Q r h=>cw _ _ _ h
 |scope x cw=>exactλs Q r h=>cw _ _ _ h
 |loop x cw=>
  intro s Q r h;cases s with
  |loop cg K body=>
   obtain⟨h1,ι,aJ⟩:=h;exact⟨⟨h1,λC=>(cw _ _ _ (ι C)).1⟩,aJ⟩
  |_=>exact⟨trivial,h⟩
 |_=>exactλs Q r h=>⟨trivial,h⟩
theorem abN{c:di}(π:hT c){f:FuncId}{fn:Func}{code:Code}(bm:c.P.funcs[f]?=some fn)(τ:fn.body=some code)(rs:List ResultVar)(ku:fn.results.toList=rs)(ia:Nat)(s6:fn.ntmps=ia)(s:ko){args:aY}(aR:args.length<=ia)
  {w:World}{R:au}{m o:Prop}(hm:m=oB c ia code s (fin c rs R) (r5 0 args) w)(aG:o=qb c ia code s (fin c rs R) True)(kf:o)(h:m):Calls c.P f args.toArray w R:=
 anU π bm τ rs ku ia s6 s aR (Q2 _ _ _ _ (aG▸kf)).1 (hm▸h)
def ZA(P:Program)(f:Nat):Prop:=∃fn,P.funcs[f]?=some fn/\(fn.name== "runtime.NumGoroutine")=false/\fn.body.isNone=false
def KF(P:Program):List Nat->Prop
 |[]=>True
 |f::r=>ZA P f/\KF P r
theorem aca{P:Program}:∀{l:List Nat},KF P l->∀f,f∈l->ZA P f
 |g::r,h,f,bm=>by
  rcases fB.1 bm with rfl|bm
  ·exact h.1
  ·exact aca h.2 f bm
open Go.RowKit
structure Kp(w w':World)(S:bl):Prop where
 os:w'.os=w.os
 tape:w'.tape=w.tape
 output:w'.output=w.output
 size:w.heap.size<=w'.heap.size
 block:∀i,i<w.heap.size->¬S i->w'.heap[i]?=w.heap[i]?
abbrev η(w w':World):Prop:=Kp w w' λ_=>False
theorem Kp.refl(w:World)(S:bl):Kp w w S:=⟨rfl,rfl,rfl,dO _,λ_ _ _=>rfl⟩
theorem Kp.trans{w ε υ:World}{S T U:bl}(h:Kp w ε S)(k:Kp ε υ T)(eU:∀i,i<w.heap.size->S i->U i)(fe:∀i,i<w.heap.size->T i->U i):Kp w υ U:=
 ⟨k.os.trans h.os,k.tape.trans h.tape,k.output.trans h.output,gE h.size k.size,λi I hu=>
  (k.block i (Nat.lt_of_lt_of_le I h.size) λt=>hu (fe i I t)).trans (h.block i I λs=>hu (eU i I s))⟩
theorem Kp.mono{w ε:World}{S U:bl}(h:Kp w ε S)(eU:∀i,i<w.heap.size->S i->U i):Kp w ε U:=
 ⟨h.os,h.tape,h.output,h.size,λi I hu=>h.block i I λs=>hu (eU i I s)⟩
theorem η.refl(w:World):η w w:=Kp.refl w _
theorem η.trans{w ε υ:World}(h:η w ε)(k:η ε υ):η w υ:=Kp.trans h k (λ_ _ h=>h) (λ_ _ h=>h)
theorem η.drewN(w:World)(n:Nat):η w (w.drewN n):=⟨rfl,rfl,rfl,dO _,λ_ _ _=>rfl⟩
theorem η.drew(w:World):η w w.drew:=⟨rfl,rfl,rfl,dO _,λ_ _ _=>rfl⟩
theorem η.alloc(w:World)(o:Obj):η w (w.alloc o):=
 ⟨rfl,rfl,rfl,by show w.heap.size<=(w.heap.push o).size;simp,λi I _=>by show(w.heap.push o)[i]?=_;rw[Array.getElem?_push,aL (by omega)]⟩
theorem Kp.below{w w':World}{S:bl}(h:Kp w w' S){B:Nat}(eh:B<=w.heap.size)(eU:∀i,i<B->¬S i):Below B w w':=
 ⟨h.os,h.tape,h.output,h.size,λi I=>h.block i (Nat.lt_of_lt_of_le I eh) (eU i I)⟩
theorem η.below{w w':World}(h:η w w'):Below w.heap.size w w':=Kp.below h (dO _) λ_ _ h=>h
theorem Kp.ae4{w w':World}{B:Nat}(h:Below B w w'):Kp w w' λi=>B<=i:=
 ⟨h.os,h.tape,h.output,h.size,λi I τ=>h.block i (by omega)⟩
theorem Kp.setCell(w:World)(a:Addr)(v:Value){S:bl}(eU:S a.block):Kp w (w.setCell a v) S:=
 ⟨rfl,rfl,rfl,by simp[World.setCell],λi I ab=>Below.heap_setCell w a v i λe=>ab (e▸eU)⟩
theorem Kp.setCells(b:Nat){S:bl}(eU:S b):∀(vs:aY)(o:Nat)(w:World),Kp w (w.setCells b o vs) S
 |[],_,w=>Kp.refl w S
 |v::r,o,w=>(Kp.setCell w ⟨b,o,none⟩ v eU).trans (Kp.setCells b eU r (o+1) _) (λ_ _ h=>h) (λ_ _ h=>h)
theorem Pg{w:World}{a:Addr}{v:Value}(h:w.cell? a=some v):a.block<w.heap.size:=block_lt_of_cell h
theorem Kp.cell{w w':World}{S:bl}(h:Kp w w' S){a:Addr}{v:Value}(π:w.cell? a=some v)(ab:¬S a.block):w'.cell? a=some v:=by
 have:=h.block a.block (Pg π) ab
 simp only[World.cell?]at π⊢;rw[this];exact π
theorem aB.aO{w w':World}{S:bl}(h:Kp w w' S){a:Addr}{vs:aY}(π:aB w a vs)(ab:¬S a.block):aB w' a vs:=λj v az=>h.cell (π j v az) (by rw[zv];exact ab)
theorem bd.aO{w w':World}{S:bl}(h:Kp w w' S){a:γ}{vs:aY}(π:bd w a vs)(ab:∀x,a=some x->¬S x.block):bd w' a vs:=by
 cases a with
 |none=>exact π
 |some a=>exact aB.aO h π (ab a rfl)
theorem bd.ex{w w':World}(h:η w w'){a:γ}{vs:aY}(π:bd w a vs):bd w' a vs:=π.aO h λ_ _ h=>h
theorem bd.take{w:World}{a:γ}{vs:aY}(π:bd w a vs)(n:Nat):bd w a (vs.take n):=by
 cases a with
 |none=>have:vs=[]:=π;subst this;simp[bd]
 |some a=>exactλj v az=>π j v (by rw[List.getElem?_take]at az;split at az;exact az;simp at az)
theorem bd.cell{w:World}{a:Addr}{vs:aY}(π:bd w (some a) vs){j:Nat}(ψ:j<vs.length):w.cell? (a.add j)=some vs[j]:=π j _ (List.getElem?_eq_getElem ψ)
theorem add_add(a:Addr)(m n:Nat):(a.add m).add n=a.add (m+n):=by
 unfold Addr.add;by_cases hm:m=0
 ·subst hm;simp
 ·by_cases ar:n=0
  ·subst ar;simp[hm]
  ·have:m+n≠0:=by omega
   simp[hm,ar,this,Nat.add_assoc]
theorem aB.drop{w:World}{a:Addr}{vs:aY}(π:aB w a vs)(n:Nat):aB w (a.add n) (vs.drop n):=λj v az=>by rw[add_add];exact π _ v (by rw[List.getElem?_drop]at az;exact az)
theorem bd.slice{w:World}{a:γ}{vs:aY}(π:bd w a vs)(m l h:Nat)(hm:vs.length<=m):bd w (dL a m l 1) ((vs.drop l).take h):=by
 unfold dL;by_cases e:m=l
 ·rw[aN e]
  have:vs.drop l=[]:=sq (by omega)
  rw[this];cases a with
  |none=>simp[bd]
  |some a=>exactλj v az=>by simp at az
 ·rw[aL e];refine bd.take ?_ h;cases a with
  |none=>have:vs=[]:=π;subst this;simp[bd]
  |some a=>
   show aB w (a.add (l*1)) _;rw[eS];exact aB.drop π l
theorem apK{w:World}{b o:Nat}{cur:aj}{e:TypeId}{fr:Nat×Nat}(h:w.heap[b]?=some (.cells cur e fr))(v:Value):
  (w.setCell ⟨b,o,none⟩ v).heap[b]?=some (.cells (cur.setIfInBounds o v) e fr):=by
 simp only[World.setCell];rw[Array.getElem?_modify,aN rfl,h];simp
def put(cur:aj)(o:Nat):aY->aj
 |[]=>cur
 |v::r=>put (cur.setIfInBounds o v) (o+1) r
theorem LU(b:Nat){e:TypeId}{fr:Nat×Nat}:∀(vs:aY)(o:Nat)(w:World)(cur:aj),w.heap[b]?=some (.cells cur e fr)->(w.setCells b o vs).heap[b]?=some (.cells (put cur o vs) e fr)
 |[],_,_,_,h=>h
 |v::r,o,w,cur,h=>LU b r (o+1) _ _ (apK h v)
theorem size_put:∀(vs:aY)(o:Nat)(cur:aj),(put cur o vs).size=cur.size
 |[],_,_=>rfl
 |v::r,o,cur=>by rw[put,size_put r,Array.size_setIfInBounds]
theorem acm:∀(vs:aY)(o:Nat)(cur:aj)(i:Nat),(put cur o vs)[i]?=if o<=i/\i<o+vs.length/\i<cur.size then vs[i-o]?else cur[i]?
 |[],o,cur,i=>by rw[put,aL (by simp;omega)]
 |v::r,o,cur,i=>by
  rw[put,acm r (o+1),Array.size_setIfInBounds,Array.getElem?_setIfInBounds];simp only[kU];by_cases h1:o=i
  ·subst h1;by_cases ι:o<cur.size
   ·rw[aL (by omega),aN rfl,aN ι,aN (by omega)];simp
   ·rw[aL (by omega),aN rfl,aL ι,aL (by omega)];simp[Array.getElem?_eq_none (JS ι)]
  ·rw[aL h1];by_cases ι:o+1<=i/\i<o+1+r.length/\i<cur.size
   ·rw[aN ι,aN (by omega),show i-o=(i-(o+1))+1 by omega];simp
   ·rw[aL ι,aL (by omega)]
theorem H9(cur:aj)(o:Nat)(vs:aY)(h:o+vs.length<=cur.size):(put cur o vs).toList=cur.toList.take o++vs++cur.toList.drop (o+vs.length):=by
 have ak:cur.toList.length=cur.size:=lL;apply rL;intro i;rw[Array.getElem?_toList,acm];have aS:(cur.toList.take o).length=o:=by simp;omega
 by_cases h1:i<o
 ·rw[aL (by omega),nc,List.getElem?_append_left (by omega),List.getElem?_take_of_lt h1,Array.getElem?_toList]
 ·by_cases ι:i<o+vs.length
  ·rw[aN (by omega),nc,List.getElem?_append_right (by omega),aS,List.getElem?_append_left (by omega)]
  ·rw[aL (by omega),nc,List.getElem?_append_right (by omega),aS,List.getElem?_append_right (by omega),List.getElem?_drop,Array.getElem?_toList];congr 1;omega
theorem FY(w:World)(o:Obj):(w.alloc o).heap[w.heap.size]?=some o:=heap_alloc_new w o
theorem cell_of_block{w:World}{b o:Nat}{cur:aj}{e:TypeId}{fr:Nat×Nat}(h:w.heap[b]?=some (.cells cur e fr)):w.cell? ⟨b,o,none⟩=cur[o]?:=by simp[World.cell?,h]
theorem Lr{w:World}{b o:Nat}{cur:aj}{e:TypeId}{fr:Nat×Nat}(h:w.heap[b]?=some (.cells cur e fr)):w.frozen? ⟨b,o,none⟩=(fr.1<=o&&o<fr.2):=by simp[World.frozen?,h]
def xT(fr:Nat×Nat)(n:Nat):Prop:=fr.2<=fr.1\/n<=fr.1
def μ(w:World)(B:Nat)(e:TypeId)(sz:Nat)(p:γ)(n c:Nat)(xs:aY):Prop:=
 xs.length=n*sz/\n<=c/\((p=none/\c=0)\/∃b cur fr,p=some ⟨b,0,none⟩/\B<=b/\w.heap[b]?=some (.cells cur e fr)/\xT fr cur.size/\c*sz<=cur.size/\cur.toList.take (n*sz)=xs)
theorem μ.cells{w:World}{B:Nat}{e:TypeId}{sz:Nat}{p:γ}{n c:Nat}{xs:aY}(h:μ w B e sz p n c xs):bd w p xs:=by
 obtain⟨ak,ar,h⟩:=h;rcases h with⟨rfl,rfl⟩|⟨b,cur,fr,rfl,eh,τ,jZ,π,J⟩
 ·have:n=0:=by omega
  subst this
  have:xs=[]:=tu (by rw[ak];simp)
  subst this;rfl
 ·intro j v az;have pV:(⟨b,0,none⟩:Addr).add j=⟨b,j,none⟩:=by rw[Addr.add_lit];simp
  rw[pV,cell_of_block τ];rw[<-J,List.getElem?_take]at az;split at az
  ·rw[<-Array.getElem?_toList];exact az
  ·simp at az
theorem μ.nil(w:World)(B:Nat)(e:TypeId)(sz:Nat):μ w B e sz none 0 0 []:=⟨by simp,dO _,.inl ⟨rfl,rfl⟩⟩
theorem μ.aO{w w':World}{S:bl}{B:Nat}{e:TypeId}{sz:Nat}{p:γ}{n c:Nat}{xs:aY}(h:μ w B e sz p n c xs)(hk:Kp w w' S)(ab:∀x,p=some x->¬S x.block):μ w' B e sz p n c xs:=by
 obtain⟨ak,ar,h⟩:=h;refine⟨ak,ar,?_⟩;rcases h with⟨rfl,rfl⟩|⟨b,cur,fr,rfl,eh,τ,jZ,π,J⟩
 ·exact .inl ⟨rfl,rfl⟩
 ·refine .inr ⟨b,cur,fr,rfl,eh,?_,jZ,π,J⟩;have bQ:b<w.heap.size:=by
   rcases JU b w.heap.size with h|h
   ·exact h
   ·rw[Array.getElem?_eq_none h]at τ;cases τ
  rw[hk.block b bQ (ab _ rfl)];exact τ
theorem μ.ex{w w':World}{B:Nat}{e:TypeId}{sz:Nat}{p:γ}{n c:Nat}{xs:aY}(h:μ w B e sz p n c xs)(hk:η w w'):μ w' B e sz p n c xs:=h.aO hk λ_ _ h=>h
theorem μ.lower{w:World}{B B':Nat}{e:TypeId}{sz:Nat}{p:γ}{n c:Nat}{xs:aY}(h:μ w B e sz p n c xs)(eh:B'<=B):μ w B' e sz p n c xs:=by
 obtain⟨ak,ar,h⟩:=h;refine⟨ak,ar,?_⟩;rcases h with h|⟨b,cur,fr,hp,τ,r⟩
 ·exact .inl h
 ·exact .inr ⟨b,cur,fr,hp,gE eh τ,r⟩
theorem μ.ge{w:World}{B:Nat}{e:TypeId}{sz:Nat}{p:γ}{n c:Nat}{xs:aY}(h:μ w B e sz p n c xs){x:Addr}(J:p=some x):B<=x.block/\x.block<w.heap.size:=by
 obtain⟨ak,ar,h⟩:=h;rcases h with⟨hp,_⟩|⟨b,cur,fr,hp,eh,τ,_⟩
 ·rw[hp]at J;cases J
 ·rw[hp]at J;cases J;refine⟨eh,?_⟩;rcases JU b w.heap.size with h|h
  ·exact h
  ·rw[Array.getElem?_eq_none h]at τ;cases τ
theorem μ.made{w:World}{e:TypeId}{sz n c:Nat}{cur:aj}{fr:Nat×Nat}(ar:n<=c)(π:c*sz<=cur.size)(jZ:xT fr cur.size):
  μ (w.alloc (.cells cur e fr)) w.heap.size e sz (some ⟨w.heap.size,0,none⟩) n c (cur.toList.take (n*sz)):=by
 refine⟨?_,ar,.inr ⟨w.heap.size,cur,fr,rfl,dO _,FY w _,jZ,π,rfl⟩⟩
 have:n*sz<=c*sz:=uK _ ar
 simp;omega
theorem xT.zero(n:Nat):xT (0,0) n:=.inl (dO _)
theorem mx{w:World}{B:Nat}{e:TypeId}{sz:Nat}{p:γ}{n c m bytes:Nat}{xs:aY}{zero:aj}{Src:aY->Prop}{N:γ->Nat->al}
  (aG:μ w B e sz p n c xs)(eh:B<=w.heap.size)(ys:aY)(ab:Src ys)(ak:ys.length=m*sz)(h1:∀y∈ys,y.oneCell'=true)(aI:zero.size=sz)
  (τ:(n+m)*bytes<=140737488355328)(Br:n+m<=9223372036854775807)
  (K:∀b5 aW w',μ w' B e sz b5 (n+m) aW (xs++ys)->Kp w w' (λi=>∃x,p=some x/\x.block=i)->N b5 aW w'):ho w p n c m Src e sz bytes zero N:=by
 have lG:=aG.cells;obtain⟨ke,qE,hp⟩:=aG;refine⟨ys,ak,ab,λnF=>?_,λac8=>⟨τ,Br,xs,ke,lG,λb aW w' yk FU gw=>?_⟩⟩
 ·rcases hp with⟨rfl,rfl⟩|⟨b,cur,fr,rfl,FL,o9,jZ,π,J⟩
  ·refine⟨trivial,λw' gw=>?_⟩;have hm:m=0:=by omega
   have ar:n=0:=by omega
   subst hm ar
   have:ys=[]:=tu (by rw[ak];simp)
   subst this;subst gw;refine K _ _ _ ⟨by simpa using ke,eR _,.inl ⟨rfl,rfl⟩⟩ (Kp.refl _ _)
  ·have hmul:(n+m)*sz<=c*sz:=uK _ nF;have Dk:(n+m)*sz=n*sz+m*sz:=mc _ _ _;have pV:(⟨b,0,none⟩:Addr).add (n*sz)=⟨b,n*sz,none⟩:=by rw[Addr.add_lit];simp
   refine⟨?_,λw' gw=>?_⟩
   ·show a6 w ((⟨b,0,none⟩:Addr).add (n*sz)) ys;rw[pV];refine⟨rfl,λj ψ=>⟨?_,?_⟩,h1⟩<;>dsimp only
    ·rw[cell_of_block o9,Array.getElem?_eq_getElem (by omega)];rfl
    ·rw[Lr o9];rcases jZ with h|h<;>simp<;>omega
   ·have hw:w'=w.setCells b (n*sz) ys:=by rw[gw];simp[lM]
    subst hw;have eG:=LU b ys (n*sz) w cur o9;refine K _ _ _ ⟨by simp[ke,ak,Dk],nF,.inr ⟨b,_,fr,rfl,FL,eG,by rw[size_put];exact jZ,by rw[size_put];exact π,?_⟩⟩ (Kp.setCells b ⟨_,rfl,rfl⟩ ys (n*sz) w);rw[H9 _ _ _ (by omega),Dk,J,qj (by simp[ke,ak])];rw[hR (by simp[ke,ak])]
 ·subst gw yk;have BJ:(Builtin.zeroCells zero (aW-(n+m))).size=(aW-(n+m))*sz:=by rw[size_zeroCells,aI]
  have eV:(xs.toArray++ys.toArray++Builtin.zeroCells zero (aW-(n+m))).size=aW*sz:=by
   have:aW*sz=(n+m)*sz+(aW-(n+m))*sz:=by rw[<-mc];congr 1;omega
   simp only[Nq,fP,BJ,ke,ak,this,mc]
  have yt:=μ.made (w:=w.drew) (e:=e) (sz:=sz) (n:=n+m) (c:=aW) (cur:=xs.toArray++ys.toArray++Builtin.zeroCells zero (aW-(n+m))) (fr:=(0,0)) FU (by rw[eV];exact dO _) (xT.zero _);have yv:(xs.toArray++ys.toArray++Builtin.zeroCells zero (aW-(n+m))).toList.take ((n+m)*sz)=xs++ys:=by
   have hB:(xs.toArray++ys.toArray++Builtin.zeroCells zero (aW-(n+m))).toList=(xs++ys)++(Builtin.zeroCells zero (aW-(n+m))).toList:=by simp
   rw[hB,qj (by simp[ke,ak,mc]),hR (by simp[ke,ak,mc])]
  rw[yv]at yt;exact K _ _ _ (yt.lower eh) ((η.trans (η.drew w) (η.alloc _ _)).mono λ_ _ h=>h.elim)
section steps
variable{N:Prop}
theorem bL(n:Int)(K:Int->Prop):br .i64 (.int .i64 n) K=K n:=rfl
theorem Pw(n:Int)(K:Int->Prop):br .u32 (.int .u32 n) K=K n:=rfl
theorem dX(b:Bool)(K:Bool->Prop):dF (.bool b) K=K b:=rfl
theorem ee(a:γ)(n c:Nat)(K:γ->Nat->bl):cX (.slice a n c) K=K a n c:=rfl
theorem n0(a:γ)(K:γ->Prop):gI (.pointer a) K=K a:=rfl
theorem hA(a:aj)(K:aj->Prop):cv (.agg a) K=K a:=rfl
theorem ca(a:aj)(K:aj->Prop):b7 (.tuple a) K=K a:=rfl
theorem wT(a:ByteArray)(K:ByteArray->Prop):iI (.string a) K=K a:=rfl
theorem sV(a b:Nat)(K:Nat->bl):mA (.complex .f64 a b) K=K a b:=rfl
theorem Px(a:Option Nat)(K:Option Nat->Prop):rf (.map a) K=K a:=rfl
theorem bo{α:Type}(v:α)(K:α->Prop):ξ (some v) K=K v:=rfl
theorem bt{b:Bool}{A C:Prop}(h1:b=true->A)(ι:b=false->C):cond b A C:=by cases b;exact ι rfl;exact h1 rfl
theorem vv{p:Prop}[Decidable p](h:p){A C:Prop}:cond (decide p) A C=A:=by rw[bI h];rfl
theorem jl{p:Prop}[Decidable p](h:¬p){A C:Prop}:cond (decide p) A C=C:=by rw[iX h];rfl
theorem cond_pos{b:Bool}(h:b=true){A C:Prop}:cond b A C=A:=by rw[h];rfl
theorem cond_neg{b:Bool}(h:b=false){A C:Prop}:cond b A C=C:=by rw[h];rfl
theorem cT{α:Type}(a:α)(l:List α):(List.toArray (a::l))[0]?=some a:=rfl
theorem cU{α:Type}(a b:α)(l:List α):(List.toArray (a::b::l))[1]?=some b:=rfl
theorem n1{α:Type}(a b c:α)(l:List α):(List.toArray (a::b::c::l))[2]?=some c:=rfl
theorem UX{α:Type}(a b c d:α)(l:List α):(List.toArray (a::b::c::d::l))[3]?=some d:=rfl
theorem aon{α:Type}(a b c d e:α)(l:List α):(List.toArray (a::b::c::d::e::l))[4]?=some e:=rfl
end steps
def ω(S:Value->al):au:=λe w'=>∃v,e=.returned v/\S v w'
theorem ω.mk{S:Value->al}{v:Value}{w:World}(h:S v w):ω S (.returned v) w:=⟨v,rfl,h⟩
theorem κ.use{P:Program}{g:Nat}{args:aj}{w:World}{N:Value->al}{X:List PanicEntry->al}{S:Value->al}
  (h:Calls P g args w (ω S))(φ:∀v w',S v w'->N v w'):κ P g args w N X:=
 h.mono λe w'⟨v,he,ab⟩=>by subst he;exact φ v w' ab
theorem bS{x:Int}(h1:-9223372036854775808<=x)(ι:x<=9223372036854775807):IntKind.i64.wrap x=x:=by rw[IntKind.wrap_i64];omega
theorem tJ(x:Int):IntKind.u8.wrap x=x%256:=by simp[IntKind.wrap,IntKind.signed,IntKind.bits]
theorem Kr(k:IntKind)(xs:aq):∀y∈xs.map (Value.int k),y.oneCell'=true:=by intro y ag;obtain⟨x,_,rfl⟩:=gx.1 ag;rfl
theorem bd.alloc{w:World}(cs:aY)(e:TypeId):bd (w.alloc (.cells cs.toArray e)) (some ⟨w.heap.size,0,none⟩) cs:=λj v az=>by
 have pV:(⟨w.heap.size,0,none⟩:Addr).add j=⟨w.heap.size,j,none⟩:=by rw[Addr.add_lit];simp
 rw[pV,cell_of_block (FY w _)];simpa using az
theorem μ.alloc{w:World}(cs:aY)(e:TypeId)(sz n:Nat)(h:cs.length=n*sz):μ (w.alloc (.cells cs.toArray e)) w.heap.size e sz (some ⟨w.heap.size,0,none⟩) n n cs:=by
 have:=μ.made (w:=w) (e:=e) (sz:=sz) (n:=n) (c:=n) (cur:=cs.toArray) (fr:=(0,0)) (dO _) (by simp[h]) (xT.zero _)
 rwa[hR (by simp[h])]at this
theorem C0{α:Type}(a b:α):cond true a b=a:=rfl
theorem jz{α:Type}(a b:α):cond false a b=b:=rfl
theorem Lh{α:Type}:(none:Option α).isNone=true:=rfl
theorem nD{α:Type}(a:α):(some a).isNone=false:=rfl
theorem h7{α:Type}(l:List α):l.toArray.toList=l:=rfl
open Go.ChangeShapes Go.WideShapes Go.ChangeAt Go.Deep
section
variable{H:Type}{enc:TypeId×Value->H}{P:Program}
theorem Ib(ak:laidOutB P=true){W bq:World}(τ:Below W.heap.size W bq):∀(gR:List TypeId)(vs:aY)(ds:List (DataW H))(ps:List MemPlace),
  (gR.all λt=>P.readableRec t&&decide (t<P.types.size))=true->
  DataW.TrodAll enc P W 0 (λ_=>true) true gR vs ds ps->(∀x∈ps,x.block<W.heap.size)->DataW.TrodAll enc P bq 0 (λb=>decide (b<W.heap.size)) true gR vs ds ps
 |[],vs,ds,ps,_,h,_=>by cases vs<;>cases ds<;>simp[DataW.TrodAll]at h⊢;exact h
 |t::gR,vs,ds,ps,aR,h,bQ=>by
  obtain⟨v,YT,d,Uq,p,q,rfl,rfl,rfl,aF,h1⟩:=trodAll_cons h;simp only[List.all_cons,lf,qI]at aR;exact⟨p,q,Below.trod ak aR.1.1 aR.1.2 aF τ (λx J=>bQ x (Ro _ J)),
   Ib ak τ gR YT Uq q (by simpa using aR.2) h1 (λx J=>bQ x (List.mem_append_right _ J)),rfl⟩
theorem Ic{W:World}{base:Nat}{sp:Nat->Bool}{ah:Bool}:∀(gR:List TypeId)(vs:aY)(ds:List (DataW H))(ps:List MemPlace),
  DataW.TrodAll enc P W base sp ah gR vs ds ps->∀x∈ps,x.block<W.heap.size
 |[],vs,ds,ps,h=>by cases vs<;>cases ds<;>simp[DataW.TrodAll]at h;subst h;simp
 |t::gR,vs,ds,ps,h=>by
  obtain⟨v,YT,d,Uq,p,q,rfl,rfl,rfl,aF,h1⟩:=trodAll_cons h;intro x J;rcases iC.1 J with h|h
  ·obtain⟨m,hm⟩:=aF;exact DataW.trod_lt m _ _ _ hm x h
  ·exact Ic gR YT Uq q h1 x h
def Room(d:DataW H)(cap:Nat):Prop:=(d=.nil/\cap=0)\/∃e s,d=.slice e s/\e.length+s.length=cap
theorem Room.sized{gR:List TypeId}{ds:List (DataW H)}(h:(DataW.weightsEach P gR ds).all (·<=reachBytes)=true){j:Nat}{t e:TypeId}{d:DataW H}{cap:Nat}(φ:Room d cap)(aS:gR[j]?=some t)(ah:ds[j]?=some d)
  (hu:P.underlying t=some (.slice e))(b:Nat)(τ:P.bytesOf e=b):cap*b<=140737488351232:=by
 subst τ;rcases φ with⟨rfl,rfl⟩|⟨el,sp,rfl,rfl⟩
 ·simp
 ·exact sized_slice h aS ah hu
structure Ints(k:IntKind)(w:World)(a:γ)(len cap:Nat)(xs:aq):Prop where
 cells:bd w a (xs.map (.int k))
 size:xs.length=len
 room:len<=cap
 aez:cap<=maxLen
 wf:∀x∈xs,(Lit.int k x).wf=true
 lt:∀x,a=some x->0<cap->x.block<w.heap.size
 nil:a=none->cap=0
theorem TJ{t e:TypeId}{k:IntKind}(aS:P.underlying t=some (.slice e))(he:P.underlying e=some (.int k))(π:P.cellsOf e=1){W:World}{r7:Nat}{v:Value}{d:DataW H}{ps:List MemPlace}(fj:Value.okWide P W .any r7 t v)
  (ah:DataW.Trod enc P W 0 (λ_=>true) true t v d ps):∃a len cap xs,v=.slice a len cap/\Ints k W a len cap xs/\Room d cap:=by
 obtain⟨a,len,cap,rfl⟩:=okWide_slice aS fj;have lt:∀x∈ps,x.block<W.heap.size:=by obtain⟨m,hm⟩:=ah;exact DataW.trod_lt m _ _ _ hm
 obtain⟨fuel,bm⟩:=ah;rcases open_ints aS he π bm with⟨jY,J⟩|⟨x,l,c,lR,jY,_,ak,hm,aI,J,kq,ars⟩
 ·simp[Value.cells]at jY;obtain⟨rfl,rfl,rfl⟩:=jY;simp only[G0]at J;exact⟨none,0,0,[],rfl,⟨rfl,rfl,dO _,eR _,(by simp),(λx h=>by cases h),λ_=>rfl⟩,.inl ⟨J.1,rfl⟩⟩
 ·simp[Value.cells]at jY;obtain⟨rfl,rfl,rfl⟩:=jY;simp only[G0]at J;simp only[qg]at aI;refine⟨_,_,_,lR.take len,rfl,⟨?_,?_,ak,hm,λy ag=>ars y (xy ag),?_,λh=>by cases h⟩,.inr ⟨_,_,J.1,by simp[lits];omega⟩⟩
  ·intro j y ag;rw[List.getElem?_map,List.getElem?_take]at ag;split at ag
   ·rw[Option.map_eq_some_iff]at ag;obtain⟨n,ar,rfl⟩:=ag;rw[kq j (List.getElem?_eq_some_iff.1 ar).1];simp[List.getD,ar]
   ·simp at ag
  ·rw[hs];omega
  ·intro y ag aF;injection ag with ag
   subst ag
   have:=kq 0 (by omega)
   exact Pg (by simpa[Addr.add]using this)
theorem sL{t:TypeId}{k:IntKind}(aS:P.underlying t=some (.int k)){W:World}{r7:Nat}{v:Value}{d:DataW H}{ps:List MemPlace}(fj:Value.okWide P W .any r7 t v)
  (ah:DataW.Trod enc P W 0 (λ_=>true) true t v d ps):∃n,v=.int k n/\(Lit.int k n).wf=true:=by
 obtain⟨n,h,_,_,hw⟩:=open_int aS fj ah;exact⟨n,h,hw⟩
theorem qx{n:Int}(h:(Lit.int .u8 n).wf=true):0<=n/\n<256:=by
 have:0<=n/\n<=255:=by simpa[Lit.wf,IntKind.min,IntKind.max,IntKind.signed,IntKind.bits]using h
 omega
end
def yG(n:Int):UInt8:=UInt8.ofNat n.toNat
theorem Yw(sk:aq):(strOf sk).toList=sk.map yG:=by
 rw[ByteArray.toList_eq];have key:∀(l:aq)(b:ByteArray),(l.foldl (λr n=>r.push (UInt8.ofNat n.toNat)) b).data.toList=b.data.toList++l.map yG:=by
  intro l
  induction l with
  |nil=>intro b;simp
  |cons x r cw=>intro b;rw[List.foldl_cons,cw];simp[ByteArray.push,yG]
 rw[strOf,key];simp
theorem aec{n:Int}(aF:0<=n)(h1:n<256):(yG n).toNat=n.toNat:=by rw[yG,UInt8.toNat_ofNat'];exact Nl (by omega)
theorem arX{m n:Int}(aF:0<=m)(h1:m<256)(yy:0<=n)(aV:n<256):yG m=yG n↔m=n:=by
 constructor
 ·intro h
  have:=hr UInt8.toNat h
  rw[aec aF h1,aec yy aV]at this;omega
 ·intro h;rw[h]
theorem aed:∀{l m:aq},(∀x∈l,0<=x/\x<256)->(∀x∈m,0<=x/\x<256)->l.map yG=m.map yG->l=m
 |[],[],_,_,_=>rfl
 |[],y::m,_,_,h=>by simp at h
 |x::l,[],_,_,h=>by simp at h
 |x::l,y::m,ak,hm,h=>by simp only[yW,List.cons.injEq]at h;have e:=(arX (ak x (by simp)).1 (ak x (by simp)).2 (hm y (by simp)).1 (hm y (by simp)).2).1 h.1;rw[e,aed (λz aI=>ak z (by simp[aI])) (λz aI=>hm z (by simp[aI])) h.2]
theorem agP{l m:aq}(ak:∀x∈l,0<=x/\x<256)(hm:∀x∈m,0<=x/\x<256):((strOf l).toList==(strOf m).toList)=decide (l=m):=by
 rw[Yw,Yw];by_cases h:l=m
 ·subst h;simp
 ·have:l.map yG≠m.map yG:=λe=>h (aed ak hm e)
  simp[h,this]
theorem R5(sk:aq):(strOf sk).size=sk.length:=by
 have:=hr List.length (Yw sk)
 rw[ByteArray.toList_eq,jM]at this;simpa using this
theorem yx:IntKind.i64.max=9223372036854775807:=by decide
theorem ash(k:IntKind)(n:Nat):madeCells #[Value.int k 0] n=((List.replicate n (0:Int)).map (Value.int k)).toArray:=by
 apply Array.ext
 ·simp[madeCells]
 ·intro i h1 ι;simp[madeCells,Nat.mod_one]
theorem apJ(w:World)(a:Addr)(n i:Nat)(h:i≠a.block):(w.freeze a n).heap[i]?=w.heap[i]?:=by
 unfold World.freeze;split
 ·rfl
 ·show(w.heap.modify _ _)[i]?=_;rw[Array.getElem?_modify,aL (λe=>h e.symm)]
theorem Kp.freeze(w:World)(a:Addr)(n:Nat):Kp w (w.freeze a n) λi=>i=a.block:=by refine⟨?_,?_,?_,?_,λi I h=>apJ w a n i h⟩<;>unfold World.freeze<;>split<;>simp
theorem μ.writes{w:World}{B:Nat}{e:TypeId}{sz:Nat}{p:γ}{n c:Nat}{xs:aY}(aG:μ w B e sz p n c xs)(o:Nat)(ys:aY)(h:o+ys.length<=n*sz)(h1:∀y∈ys,y.oneCell'=true):
  O1 w p o ys/\μ (lM w p o ys) B e sz p n c (xs.take o++ys++xs.drop (o+ys.length))/\Kp w (lM w p o ys) λi=>∃x,p=some x/\x.block=i:=by
 obtain⟨ke,qE,hp⟩:=aG;rcases hp with⟨rfl,rfl⟩|⟨b,cur,fr,rfl,FL,o9,jZ,π,J⟩
 ·have ar:n=0:=by omega
  subst ar;rw[Nat.zero_mul]at h ke
  have:ys=[]:=tu (by omega)
  subst this
  have:xs=[]:=tu (by omega)
  subst this;exact⟨trivial,⟨by simp,qE,.inl ⟨rfl,rfl⟩⟩,Kp.refl _ _⟩
 ·have hmul:n*sz<=c*sz:=uK _ qE;have pV:(⟨b,0,none⟩:Addr).add o=⟨b,o,none⟩:=by rw[Addr.add_lit];simp
  refine⟨?_,?_,?_⟩
  ·show a6 w ((⟨b,0,none⟩:Addr).add o) ys;rw[pV];refine⟨rfl,λj ψ=>⟨?_,?_⟩,h1⟩<;>dsimp only
   ·rw[cell_of_block o9,Array.getElem?_eq_getElem (by omega)];rfl
   ·rw[Lr o9];rcases jZ with h|h<;>simp<;>omega
  ·have eG:=LU b ys o w cur o9;have hw:lM w (some ⟨b,0,none⟩) o ys=w.setCells b o ys:=by simp[lM]
   rw[hw];refine⟨?_,qE,.inr ⟨b,_,fr,rfl,FL,eG,by rw[size_put];exact jZ,by rw[size_put];exact π,?_⟩⟩
   ·simp only[fw,hs,lg];omega
   ·rw[H9 _ _ _ (by omega),<-J];have gD:cur.toList.length=cur.size:=lL;have jQ:(cur.toList.take o++ys).length=o+ys.length:=by rw[fw,hs];omega
    rw[List.take_append,hR (by omega),jQ,Ce,sr (by omega),G2]
  ·have hw:lM w (some ⟨b,0,none⟩) o ys=w.setCells b o ys:=by simp[lM]
   rw[hw];exact Kp.setCells b ⟨_,rfl,rfl⟩ ys o w
theorem amL{w:World}{B:Nat}{e:TypeId}{p s:γ}{n c oN:Nat}{xs ys:aY}{N:al}(aG:μ w B e 1 p n c xs)(ab:bd w s ys)(ak:ys.length=oN)(rr:oN<=n)(h1:∀y∈ys,y.oneCell'=true)
  (K:∀w',μ w' B e 1 p n c (ys++xs.drop oN)->Kp w w' (λi=>∃x,p=some x/\x.block=i)->N w'):wS w p n s oN 1 N:=by
 obtain⟨aV,bK,b4⟩:=aG.writes 0 ys (by omega) h1;refine⟨ys,by rw[ak,eS];exact(sr rr).symm,ab,aV,λw' gw=>?_⟩;subst gw;rw[oh,ak]at bK;exact K _ (by simpa using bK) b4
inductive o3 where
 |done
 |int (k:IntKind) (r:o3)
 |bool (r:o3)
 |cg (b:Nat) (e r:o3)
def o3.len:o3->Nat
 | .done=>0
 | .int _ r=>r.len+1
 | .bool r=>r.len+1
 | .cg _ _ r=>r.len+1
structure zq(w:World)(m:Nat->bl)(b:Nat)(R:aY->Prop)(a:γ)(len cap:Nat)(rows:List aY):Prop where
 size:rows.length=len
 room:len<=cap
 aez:m b cap
 fits:cap<=maxLen
 cells:bd w a rows.flatten
 each:∀r∈rows,R r
 nil:a=none->cap=0
 lt:∀x,a=some x->0<cap->x.block<w.heap.size
def lq(w:World)(m:Nat->bl):o3->aY->Prop
 | .done,vs=>vs=[]
 | .int k r,vs=>∃n t,vs=.int k n::t/\(Lit.int k n).wf=true/\lq w m r t
 | .bool r,vs=>∃b t,vs=.bool b::t/\lq w m r t
 | .cg b e r,vs=>∃a len cap rows t,vs=.slice a len cap::t/\zq w m b (lq w m e) a len cap rows/\lq w m r t
theorem zq.ints{w:World}{m:Nat->bl}{b:Nat}{k:IntKind}{a:γ}{len cap:Nat}{rows:List aY}(h:zq w m b (lq w m (.int k .done)) a len cap rows):∃xs,Ints k w a len cap xs/\m b cap/\rows=xs.map λx=>[Value.int k x]:=by
 have key:∀rows:List aY,(∀r∈rows,lq w m (.int k .done) r)->∃xs:aq,rows=xs.map (λx=>[Value.int k x])/\∀x∈xs,(Lit.int k x).wf=true:=by
  intro rows
  induction rows with
  |nil=>intro _;exact⟨[],rfl,by simp⟩
  |cons r rs cw=>
   intro φ;obtain⟨xs,rfl,J⟩:=cw λr h=>φ r (ie _ h);obtain⟨n,t,rfl,ar,aS⟩:=φ r (oj ..)
   have:t=[]:=aS
   subst this;exact⟨n::xs,rfl,λx h=>by rcases fB.1 h with rfl|h;exact ar;exact J x h⟩
 obtain⟨xs,rfl,J⟩:=key rows h.each;have w8:(xs.map λx=>[Value.int k x]).flatten=xs.map (Value.int k):=by
  clear h J
  induction xs with
  |nil=>rfl
  |cons x r cw=>simp[cw]
 have π:=h.cells;rw[w8]at π;exact⟨xs,⟨π,by simpa using h.size,h.room,h.fits,J,h.lt,h.nil⟩,h.aez,rfl⟩
def fieldsOf(P:Program)(rec:TypeId->o3->Option o3):List Field->Nat->Nat->o3->Option o3
 |[],off,Ia,k=>if off=Ia then some k else none
 |f::jV,off,Ia,k=>if f.offset=off then(fieldsOf P rec jV (off+P.cellsOf f.type) Ia k).bind (rec f.type)else none
def Jm(P:Program):Nat->TypeId->o3->Option o3
 |0,_,_=>none
 |n+1,t,k=>match P.underlying t with
  |some (.int j)=>some (.int j k)
  |some .bool=>some (.bool k)
  |some (.slice e)=>(Jm P n e .done).bind λl=>if l.len=P.cellsOf e/\l.len≠0 then some (.cg (P.bytesOf e) l k)else none
  |some (.struct jV)=>fieldsOf P (Jm P n) jV.toList 0 (P.cellsOf t) k
  |_=>none
section
variable{H:Type}{enc:TypeId×Value->H}{P:Program}
structure Tp(P:Program)(m:Nat->bl)(G:TypeId->DataW H->Prop):Prop where
 cg:∀t e el sp,P.underlying t=some (.slice e)->G t (.slice el sp)->m (P.bytesOf e) (el.length+sp.length)/\∀d∈el,G e d
 zero:∀b,m b 0
 st:∀t jV ds,P.underlying t=some (.struct jV)->G t (.agg ds)->∀(i:Nat)(f:Field)(d:DataW H),jV[i]?=some f->ds[i]?=some d->G f.type d
theorem PJ{α:Type}:∀(rows:List (List α))(k:Nat),(∀r∈rows,r.length=k)->∀(i:Nat)(r:List α),rows[i]?=some r->∀j,j<k->rows.flatten[i*k+j]?=r[j]?
 |[],_,_,i,r,h,_,_=>by simp at h
 |x::rs,k,hk,0,r,h,j,ψ=>by
  simp only[List.getElem?_cons_zero,tt]at h;subst h
  have:=hk x (by simp)
  rw[DP,List.getElem?_append_left (by omega)];simp
 |x::rs,k,hk,i+1,r,h,j,ψ=>by have J:=hk x (by simp);rw[DP,List.getElem?_append_right (by rw[J,mc];omega),J,mc,G9,show i*k+k+j-k=i*k+j by omega];exact PJ rs k (λr φ=>hk r (ie _ φ)) i r (by simpa using h) j ψ
theorem UQ{α:Type}:∀(rows:List (List α))(k:Nat),(∀r∈rows,r.length=k)->rows.flatten.length=rows.length*k
 |[],k,_=>by simp
 |x::rs,k,hk=>by rw[DP,fw,hk x (by simp),UQ rs k λr φ=>hk r (ie _ φ),kU,mc];omega
theorem abU{m:Nat->bl}{W:World}{cs:aY}{rec:TypeId->o3->Option o3}
  (Ia:Nat)(ak:cs.length=Ia):∀(jV:List Field)(off:Nat)(k r:o3),fieldsOf P rec jV off Ia k=some r->
  (∀(i:Nat)(f:Field),jV[i]?=some f->∀k r,rec f.type k=some r->∀tail,lq W m k tail->lq W m r ((cs.drop f.offset).take (P.cellsOf f.type)++tail))->∀tail,lq W m k tail->lq W m r (cs.drop off++tail)
 |[],off,k,r,h,_,tail,aS=>by
  unfold fieldsOf at h;split at h
  ·rename_i e;simp only[tt]at h;subst h;rw[sq (by omega)];exact aS
  ·cases h
 |f::jV,off,k,r,h,Qo,tail,aS=>by
  unfold fieldsOf at h;split at h
  ·rename_i e;obtain⟨bK,ι,aJ⟩:=Option.bind_eq_some_iff.1 h;have cw:=abU Ia ak jV _ k bK ι (λi f bm=>Qo (i+1) f (by simpa using bm)) tail aS
   have:=Qo 0 f rfl bK r aJ _ cw
   rw[e,<-nc]at this;rw[<-Rm,Au]at this;exact this
  ·cases h
theorem WY{m:Nat->bl}{G:TypeId->DataW H->Prop}(FN:Tp P m G){W:World}:∀(n:Nat)(t:TypeId)(k r:o3),Jm P n t k=some r->
  ∀(fuel:Nat)(cs:aY)(x:DataW H×List MemPlace),DataW.trod enc P W 0 (λ_=>true) true fuel t cs=some x->G t x.1->∀tail,lq W m k tail->lq W m r (cs++tail)
 |0,t,k,r,h,_,_,_,_,_,_,_=>by cases h
 |n+1,t,k,r,h,fuel,cs,x,J,bH,tail,aS=>by
  unfold Jm at h;split at h
  ·rename_i j hu;simp only[tt]at h;subst h;obtain⟨z,rfl,_,hw⟩:=DataW.trod_int hu J;exact⟨z,tail,rfl,hw,aS⟩
  ·rename_i hu;simp only[tt]at h;subst h;obtain⟨z,rfl,_⟩:=DataW.trod_bool hu J;exact⟨z,tail,rfl,aS⟩
  ·rename_i e hu;obtain⟨l,ι,aJ⟩:=Option.bind_eq_some_iff.1 h;split at aJ
   ·rename_i hlen;obtain⟨hlen,b1⟩:=hlen;simp only[tt]at aJ;subst aJ;have bQ:=DataW.trod_lt fuel t cs x J;rcases Go.Deep.open_slice hu J with⟨rfl,kr⟩|⟨a,len,cap,m',fG,D,eK,rfl,τ,ak,hm,Dj,kr,ac2⟩
    ·exact⟨none,0,0,[],tail,rfl,⟨rfl,dO _,FN.zero _,eR _,rfl,(by simp),λ_=>rfl,(λx h _=>by cases h)⟩,aS⟩
    ·simp only[qg]at Dj;subst Dj;rw[kr]at bH bQ;obtain⟨g1,g2⟩:=FN.cg t e _ _ hu bH;have jG:len+(m'-len)=m':=by omega
     simp only[jM,xC,jG]at g1;have adF:∀i,i<len->∃Fb,Fb.length=P.cellsOf e/\(∀j,j<P.cellsOf e->W.cell? ((a.add (i*P.cellsOf e)).add j)=Fb[j]?)/\lq W m l Fb:=by
      intro i I;obtain⟨Fb,π,aq7⟩:=ac2 i (by omega);obtain⟨_,gD,s0⟩:=World.cells?_some π;refine⟨Fb,gD,s0,?_⟩
      have:=WY FN n e .done l ι _ _ _ aq7 (g2 _ (gx.2 ⟨i,lh.2 I,rfl⟩)) [] rfl
      simpa using this
     have Wc:∃rows:List aY,rows.length=len/\∀i r,rows[i]?=some r->r.length=P.cellsOf e/\(∀j,j<P.cellsOf e->W.cell? ((a.add (i*P.cellsOf e)).add j)=r[j]?)/\lq W m l r:=by
      clear bQ g1 g2 ac2 bH J kr ak jG
      induction len with
      |zero=>exact⟨[],rfl,λi r h=>by simp at h⟩
      |succ q cw=>
       obtain⟨rows,h1,ι⟩:=cw λi I=>adF i (by omega);obtain⟨Fb,aH⟩:=adF q (by omega);refine⟨rows++[Fb],by simp[h1],λi r I=>?_⟩;by_cases apY:i<rows.length
       ·rw[List.getElem?_append_left apY]at I;exact ι i r I
       ·have:i=q:=by
         have:=(List.getElem?_eq_some_iff.1 I).1
         simp only[fw,kU,G8]at this;omega
        subst this;rw[List.getElem?_append_right (by omega),h1,tv]at I;simp only[List.getElem?_cons_zero,tt]at I;subst I;exact aH
     obtain⟨rows,vL,ju⟩:=Wc;have hk:∀r∈rows,r.length=P.cellsOf e:=λr φ=>by obtain⟨i,I⟩:=List.getElem?_of_mem φ;exact(ju i r I).1
     refine⟨some a,len,m',rows,tail,rfl,⟨vL,ak,g1,hm,?_,λr φ=>by obtain⟨i,I⟩:=List.getElem?_of_mem φ;exact(ju i r I).2.2,(λh=>by cases h),λx oG aF=>?_⟩,aS⟩
     ·intro j v ψ;have xd:0<P.cellsOf e:=by omega
      have pb:=(List.getElem?_eq_some_iff.1 ψ).1;rw[UQ rows _ hk,vL]at pb;have aH:j/P.cellsOf e<rows.length:=by rw[vL];exact(Nat.div_lt_iff_lt_mul xd).2 pb
      have l4:=List.getElem?_eq_getElem aH;have mS:=Nat.mod_lt j xd;have Bw:j/P.cellsOf e*P.cellsOf e+j%P.cellsOf e=j:=by rw[Nat.mul_comm];exact Nat.div_add_mod j _
      have h1:=PJ rows _ hk _ _ l4 _ mS;rw[Bw,ψ]at h1;rw[<-Bw,<-add_add,(ju _ _ l4).2.1 _ mS,<-h1]
     ·injection oG with oG
      subst oG
      have:(MemPlace.cell a.block a.off)∈MemPlace.row a (m'*P.cellsOf e):=by have xd:0<m'*P.cellsOf e:=Nat.mul_pos aF (by omega);exact gx.2 ⟨0,lh.2 xd,by simp⟩
      exact bQ _ (Ro _ this)
   ·cases aJ
  ·rename_i jV hu;obtain⟨xs,fG,_,kr,ak,p2,bm⟩:=DataW.trod_struct hu J;rw[kr]at bH
   have:=abU (P:=P) (m:=m) (W:=W) (cs:=cs) (rec:=Jm P n) _ ak jV.toList 0 k r h (λi f I k r hk tail aS=>by
    have lZ:jV[i]?=some f:=by rw[<-Array.getElem?_toList];exact I
    have h1:=bm i f lZ;have bQ:i<xs.length:=by rw[p2];exact(Array.getElem?_eq_some_iff.1 lZ).1
    rw[List.getElem?_eq_getElem bQ]at h1;exact WY FN n f.type k r hk _ _ _ h1 (FN.st t jV _ hu bH i f _ lZ (by rw[List.getElem?_map,List.getElem?_eq_getElem bQ];rfl)) tail aS) tail aS
   simpa using this
  ·cases h
theorem RX:Tp P (λb c=>c*b<=140737488351232) (λt d=>(DataW.weights (H:=H) P t d).all (·<=reachBytes)=true)where
 cg:=λt e el sp hu h=>by
  simp only[DataW.weights,hu,List.all_cons,lf,qI,Nn]at h;refine⟨h.1,λd ah=>?_⟩
  have:=h.2.1
  clear h
  induction el with
  |nil=>cases ah
  |cons y r cw=>
   simp only[DataW.weightsAll,Nn,lf]at this;rcases fB.1 ah with rfl|ah
   ·exact this.1
   ·exact cw ah this.2
 zero:=λb=>by simp
 st:=λt jV ds hu h i f d bm ah=>by
  simp only[DataW.weights,hu]at h;have key:∀(cH:List Field)(ds:List (DataW H)),(DataW.weightsEach P (cH.map (·.type)) ds).all (·<=reachBytes)=true->∀(i:Nat)(f:Field)(d:DataW H),cH[i]?=some f->ds[i]?=some d->(DataW.weights P f.type d).all (·<=reachBytes)=true:=by
   intro cH
   induction cH with
   |nil=>intro ds _ i f d bm _;simp at bm
   |cons g cH cw=>
    intro ds h i f d bm ah;cases ds with
    |nil=>simp at ah
    |cons y r=>
     simp only[yW,DataW.weightsEach,Nn,lf]at h;cases i with
     |zero=>
      simp only[List.getElem?_cons_zero,tt]at bm ah;subst bm;subst ah;exact h.1
     |succ i=>exact cw r h.2 i f d (by simpa using bm) (by simpa using ah)
  exact key jV.toList ds h i f d (by rw[Array.getElem?_toList];exact bm) ah
theorem SK{gR:List TypeId}{ds:List (DataW H)}(h:(DataW.weightsEach P gR ds).all (·<=reachBytes)=true):∀{j:Nat}{t:TypeId}{d:DataW H},gR[j]?=some t->ds[j]?=some d->(DataW.weights P t d).all (·<=reachBytes)=true:=by
 induction gR generalizing ds with
 |nil=>intro j t d aS _;simp at aS
 |cons u r cw=>
  intro j t d aS ah;cases ds with
  |nil=>simp at ah
  |cons y s=>
   simp only[DataW.weightsEach,Nn,lf]at h;cases j with
   |zero=>
    simp only[List.getElem?_cons_zero,tt]at aS ah;subst aS;subst ah;exact h.1
   |succ j=>exact cw h.2 (by simpa using aS) (by simpa using ah)
theorem Pb{m:Nat->bl}{G:TypeId->DataW H->Prop}(FN:Tp P m G){t e:TypeId}{r:o3}{b:Nat}(aS:P.underlying t=some (.slice e))(φ:Jm P 9 t .done=some (.cg b r .done)){W:World}{r7:Nat}{v:Value}{d:DataW H}{ps:List MemPlace}(fj:Value.okWide P W .any r7 t v)
  (ah:DataW.Trod enc P W 0 (λ_=>true) true t v d ps)(bH:G t d):∃a len cap rows,v=.slice a len cap/\zq W m b (lq W m r) a len cap rows:=by
 obtain⟨a,len,cap,rfl⟩:=okWide_slice aS fj;obtain⟨fuel,bm⟩:=ah
 have:=WY FN 9 t .done _ φ fuel _ _ bm bH [] rfl
 obtain⟨fL,aAd,CY,rows,jQ,h1,ι,_⟩:=this;simp only[Value.cells,qi,List.cons.injEq,Value.slice.injEq]at h1;obtain⟨⟨rfl,rfl,rfl⟩,_⟩:=h1;exact⟨_,_,_,rows,rfl,ι⟩
end
end Go.bJ

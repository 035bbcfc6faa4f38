/- The walk of the functions, and the plain laws of the model: part of the proof. Conditions: none. -/
import Derived.WalkKit
import Derived.Orders
import Derived.Laws.Rows
import Derived.Deep.Draws
import Derived.Laws.IdiomCopy
import Derived.RangeFuncRecord
import Derived.Maps.RangeRun
import Derived.Deep.Quiet
import Derived.Scope
set_option linter.unusedVariables false
set_option linter.unusedSimpArgs false
namespace Go.bO
abbrev aq:=Ending->World->Prop
abbrev ao:=World->Prop
abbrev J:=Option Addr
abbrev bf:=Nat->Prop
abbrev an:=List Int
abbrev aU:=List Value
abbrev ag:=Array Value
abbrev aM:=@if_neg
abbrev aS:=@if_pos
abbrev bB:=@decide_eq_true
abbrev b7:=@of_decide_eq_true
abbrev cy:=@Int.toNat_natCast
abbrev dd:=@of_decide_eq_false
abbrev en:=@Nat.zero_le
abbrev ew:=@Nat.le_refl
abbrev ey:=@Nat.mul_one
abbrev eH:=@Int.eq_ofNat_of_zero_le
abbrev eZ:=@List.mem_of_getElem?
abbrev fe:=@List.length_append
abbrev fh:=@List.size_toArray
abbrev fA:=@List.mem_cons
abbrev fY:=@Nat.le_trans
abbrev gO:=@List.mem_map
abbrev gP:=@congrArg
abbrev gQ:=@List.length_take
abbrev hc:=@List.take_of_length_le
abbrev hF:=@List.getElem_mem
abbrev hW:=@List.mem_cons_of_mem
abbrev im:=@List.length_set
abbrev iy:=@decide_eq_false
abbrev iG:=@List.mem_append
abbrev iT:=@Option.map_some
abbrev jV:=@List.length_map
abbrev kx:=@Bool.and_eq_true
abbrev ky:=@List.length_drop
abbrev kP:=@Array.length_toList
abbrev k5:=@List.length_cons
abbrev k6:=@List.take_succ_eq_append_getElem
abbrev k7:=@Nat.add_mul
abbrev lB:=@List.mem_singleton
abbrev lT:=@List.append_assoc
abbrev mv:=@List.mem_filter
abbrev mR:=@Iff.rfl
abbrev mS:=@Nat.zero_add
abbrev ns:=@List.mem_range
abbrev n1:=@List.not_mem_nil
abbrev n2:=@List.mem_cons_self
abbrev oR:=@if_true
abbrev oS:=@or_false
abbrev oT:=@List.take_append_of_le_length
abbrev oU:=@List.mem_flatMap
abbrev pk:=@List.mem_or_eq_of_mem_set
abbrev pn:=@List.append_nil
abbrev po:=@decide_eq_true_eq
abbrev qb:=@List.ext_getElem?
abbrev qc:=@Array.ext'
abbrev qW:=@if_false
abbrev qX:=@List.map_set
abbrev qY:=@List.drop_eq_nil_of_le
abbrev qZ:=@Nat.min_eq_left
abbrev q0:=@List.map_append
abbrev r9:=@cond_true
abbrev sa:=@Option.some.injEq
abbrev sb:=@List.eq_nil_of_length_eq_zero
abbrev sd:=@Int.mul_le_mul
abbrev se:=@List.length_replicate
abbrev te:=@List.nil_append
abbrev tf:=@Nat.mul_le_mul_right
abbrev uN:=@List.eq_of_mem_replicate
abbrev uO:=@Bool.not_true
abbrev uP:=@List.range_succ
abbrev uQ:=@List.mem_filterMap
abbrev vV:=@Bool.false_eq_true
abbrev vW:=@List.mem_of_mem_take
abbrev vX:=@cond_false
abbrev vY:=@List.map_take
abbrev vZ:=@List.flatMap_append
abbrev v7:=@Nat.sub_self
abbrev xw:=@List.map_cons
abbrev xx:=@List.map_drop
abbrev xy:=@Nat.eq_of_beq_eq_true
abbrev yR:=@Bool.not_false
abbrev yS:=@List.flatMap_cons
abbrev yT:=@List.take_append_drop
abbrev yU:=@Int.mul_nonneg
abbrev AA:=@List.length_singleton
abbrev AB:=@List.take_length
abbrev AD:=@Array.toList_modify
abbrev AE:=@Option.some.inj
abbrev AF:=@List.take_take
abbrev AG:=@Prod.ext
abbrev B8:=@List.flatten_cons
abbrev B9:=@List.filter_append
abbrev Ca:=@Nat.beq_refl
abbrev Cb:=@List.all_eq_true
abbrev Cc:=@List.length_range
abbrev Cd:=@List.drop_append_of_le_length
abbrev Ce:=@List.set_append_right
abbrev Cf:=@List.map_map
abbrev Cg:=@List.map_congr_left
abbrev Ch:=@List.pairwise_iff_getElem
abbrev E9:=@List.replicate_succ
abbrev Fa:=@List.length_nil
abbrev Fb:=@Nat.one_mul
abbrev Fc:=@Array.getD_eq_getD_getElem?
abbrev Fe:=@Prod.mk.injEq
abbrev Ff:=@Array.toList_map
abbrev E6:=@List.drop_take
abbrev E7:=@List.take_zero
abbrev E8:=@List.length_tail
abbrev HU:=@Nat.le_of_eq
abbrev HV:=@List.drop_eq_getElem_cons
abbrev HW:=@List.any_eq_false
abbrev HX:=@Int.fdiv_eq_ediv_of_nonneg
abbrev HY:=@List.mem_of_mem_drop
abbrev HZ:=@Int.mul_le_mul_of_nonneg_right
abbrev H0:=@Option.isSome_iff_exists
abbrev H2:=@Bool.and_eq_true_iff
abbrev H3:=@Nat.le_of_not_lt
abbrev H4:=@Array.getElem_toList
abbrev H5:=@Nat.lt_of_lt_of_le
abbrev H6:=@Nat.lt_or_ge
abbrev H7:=@List.set_cons_zero
abbrev H8:=@Nat.lt_succ_self
abbrev H9:=@Int.tmod_eq_emod_of_nonneg
abbrev Ia:=@Nat.add_sub_cancel_left
abbrev KZ:=@List.map_replicate
abbrev K0:=@decide_eq_false_iff_not
abbrev K1:=@Int.ediv_eq_zero_of_lt
abbrev K2:=@Nat.mod_eq_of_lt
abbrev K3:=@List.all_append
abbrev K4:=@Array.toArray_toList
abbrev K5:=@Int.toNat_of_nonneg
abbrev K6:=@Array.size_append
abbrev K7:=@Int.emod_eq_of_lt
abbrev K8:=@List.drop_left
abbrev K9:=@List.nodup_cons
abbrev La:=@Option.filter_some
abbrev Lb:=@List.mem_zipIdx_iff_getElem?
abbrev OU:=@List.any_eq_true
abbrev OV:=@Bool.or_eq_false_iff
abbrev OW:=@Int.emod_lt_of_pos
abbrev OX:=@List.drop_drop
abbrev OY:=@Option.getD_some
abbrev OZ:=@Array.eq_empty_of_size_eq_zero
abbrev O0:=@Nat.le_of_ble_eq_true
abbrev O1:=@List.filter_eq_self
abbrev O2:=@List.take_left
abbrev O3:=@Array.size_modify
abbrev O4:=@Array.toList_push
abbrev O5:=@List.nodup_range
abbrev O6:=@Int.emod_nonneg
abbrev O7:=@Bool.true_and
abbrev O8:=@List.take_add_one
abbrev O9:=@List.mem_mapIdx
abbrev Pa:=@List.drop_zero
abbrev Pb:=@List.filter_eq_nil_iff
abbrev Pc:=@List.Pairwise.map
abbrev Pd:=@List.sum_append
abbrev Pe:=@List.mem_iff_getElem
abbrev Pf:=@List.take_replicate
abbrev Vy:=@List.length_filter_le
abbrev Vz:=@List.mem_append_left
abbrev VA:=@List.eq_nil_iff_forall_not_mem
abbrev VB:=@List.mem_of_mem_tail
abbrev VC:=@Int.add_mul_ediv_right
abbrev VD:=@List.length_pos_iff
abbrev VE:=@List.Pairwise.imp_of_mem
abbrev cX:=List (Nat×Value)
def cX.get:cX->Nat->Option Value
 |[],_=>none
 |(j,v)::r,d=>cond (Nat.beq j d) (some v) (cX.get r d)
structure cF where
 desc:TypeDesc
 size:Nat
 bytes:Nat
 zero:aU
def cK(P:Program)(t:TypeId)(i:cF):Prop:=
 P.underlying t=some i.desc/\(P.info? t).map (λx=>(x.size,x.bytes))=some (i.size,i.bytes)/\
  ((P.info? t).bind (·.zero)).map (λz=>z.cells.toList)=some i.zero
def eF:List (Option cF)->Nat->Option cF
 |[],_=>none
 |x::_,0=>x
 |_::r,n+1=>eF r n
def I6(P:Program):Nat->List (Option cF)->Prop
 |_,[]=>True
 |k,none::r=>I6 P (k+1) r
 |k,some i::r=>cK P k i/\I6 P (k+1) r
theorem Wj{P:Program}:∀{tb:List (Option cF)}{k:Nat},I6 P k tb->∀{t i},eF tb t=some i->cK P (k+t) i
 |[],_,_,t,i,h=>by simp[eF]at h
 |none::r,k,hk,0,i,h=>by simp[eF]at h
 |some j::r,k,hk,0,i,h=>by simp only[eF,sa]at h;subst h;exact hk.1
 |none::r,k,hk,t+1,i,h=>by
  have:=Wj (tb:=r) (k:=k+1) hk (t:=t) (i:=i) (by simpa[eF]using h)
  rwa[Nat.add_right_comm,Nat.add_assoc]at this
 |some j::r,k,hk,t+1,i,h=>by
  have:=Wj (tb:=r) (k:=k+1) hk.2 (t:=t) (i:=i) (by simpa[eF]using h)
  rwa[Nat.add_right_comm,Nat.add_assoc]at this
structure cW where
 P:Program
 tb:List (Option cF)
 fns:List Nat
structure hh(c:cW):Prop where
 Ix:I6 c.P 0 c.tb
 fn:∀f,f∈c.fns->∃fn,c.P.funcs[f]?=some fn/\(fn.name== "runtime.NumGoroutine")=false/\fn.body.isNone=false
 mixed:c.P.follows .mixedOrders=true
theorem hh.fj{c:cW}(h:hh c){t:TypeId}{i:cF}(aP:eF c.tb t=some i):cK c.P t i:=by
 have:=Wj h.Ix aP
 rwa[mS]at this
def Rel(n:Nat)(a:Act)(ν:cX):Prop:=a.defers=[]/\a.tmps.size=n/\∀d v,ν.get d=some v->a.tmps[d]?=some v
def ο(b:Bool)(N:Prop):Prop:=cond b N False
def br(k:IntKind)(v:Value)(K:Int->Prop):Prop:=match v with| .int k' n=>ο (decide (k'=k)) (K n)|_=>False
def dw(v:Value)(K:Bool->Prop):Prop:=match v with| .bool b=>K b|_=>False
def cN(v:Value)(K:J->Nat->bf):Prop:=match v with| .slice a n c=>K a n c|_=>False
def gX(v:Value)(K:J->Prop):Prop:=match v with| .pointer a=>K a|_=>False
def dq(v:Value)(K:ag->Prop):Prop:=match v with| .agg cs=>K cs|_=>False
def b0(v:Value)(K:ag->Prop):Prop:=match v with| .tuple cs=>K cs|_=>False
def nK(v:Value)(K:ByteArray->Prop):Prop:=match v with| .string s=>K s|_=>False
def wI(v:Value)(K:bf):Prop:=match v with| .float .f64 b=>K b|_=>False
def lq(v:Value)(K:Nat->bf):Prop:=match v with| .complex .f64 a b=>K a b|_=>False
def pQ(v:Value)(K:Option Nat->Prop):Prop:=match v with| .map r=>K r|_=>False
def ξ{α:Type}(x:Option α)(K:α->Prop):Prop:=match x with|some v=>K v|none=>False
def ye(d:TypeDesc)(v:Value)(K:Value->Prop):Prop:=
 match d with
 | .int k=>br k v λn=>K (.int k n)
 | .bool=>dw v λb=>K (.bool b)
 | .string=>nK v λs=>K (.string s)
 | .float _=>wI v λb=>K (.float .f64 b)
 | .complex _=>lq v λa b=>K (.complex .f64 a b)
 | .slice _=>cN v λa n c=>K (.slice a n c)
 | .pointer _=>gX v λa=>K (.pointer a)
 | .map _ _=>pQ v λr=>K (.map r)
 | .struct _=>dq v λcs=>K (.agg cs)
 | .array _ _=>dq v λcs=>K (.agg cs)
 | .tuple _=>b0 v λcs=>K (.tuple cs)
 |_=>K v
section inv
variable{N:Prop}{v:Value}
theorem hT{b:Bool}(h:ο b N):b=true/\N:=by cases b<;>simp_all[ο]
theorem bL{b:Bool}(ψ:b=true)(h:N):ο b N:=by subst ψ;exact h
theorem aW{p:Prop}[Decidable p](ψ:p)(h:N):ο (decide p) N:=bL (bB ψ) h
theorem GL{k:IntKind}{K:Int->Prop}(h:br k v K):∃n,v=.int k n/\K n:=by
 unfold br at h;split at h
 ·have e:=b7 (hT h).1;subst e;exact⟨_,rfl,(hT h).2⟩
 ·exact h.elim
theorem Bo{K:Bool->Prop}(h:dw v K):∃n,v=.bool n/\K n:=by
 unfold dw at h;split at h
 ·exact⟨_,rfl,h⟩
 ·exact h.elim
theorem nd{K:J->Nat->bf}(h:cN v K):∃a n c,v=.slice a n c/\K a n c:=by
 unfold cN at h;split at h
 ·exact⟨_,_,_,rfl,h⟩
 ·exact h.elim
theorem ug{K:J->Prop}(h:gX v K):∃a,v=.pointer a/\K a:=by
 unfold gX at h;split at h
 ·exact⟨_,rfl,h⟩
 ·exact h.elim
theorem yc{K:ag->Prop}(h:dq v K):∃a,v=.agg a/\K a:=by
 unfold dq at h;split at h
 ·exact⟨_,rfl,h⟩
 ·exact h.elim
theorem Y2{K:ag->Prop}(h:b0 v K):∃a,v=.tuple a/\K a:=by
 unfold b0 at h;split at h
 ·exact⟨_,rfl,h⟩
 ·exact h.elim
theorem wJ{K:ByteArray->Prop}(h:nK v K):∃a,v=.string a/\K a:=by
 unfold nK at h;split at h
 ·exact⟨_,rfl,h⟩
 ·exact h.elim
theorem Dr{K:bf}(h:wI v K):∃a,v=.float .f64 a/\K a:=by
 unfold wI at h;split at h
 ·exact⟨_,rfl,h⟩
 ·exact h.elim
theorem zG{K:Nat->bf}(h:lq v K):∃a b,v=.complex .f64 a b/\K a b:=by
 unfold lq at h;split at h
 ·exact⟨_,_,rfl,h⟩
 ·exact h.elim
theorem yd{K:Option Nat->Prop}(h:pQ v K):∃a,v=.map a/\K a:=by
 unfold pQ at h;split at h
 ·exact⟨_,rfl,h⟩
 ·exact h.elim
theorem di{α:Type}{x:Option α}{K:α->Prop}(h:ξ x K):∃v,x=some v/\K v:=by
 unfold ξ at h;split at h
 ·exact⟨_,rfl,h⟩
 ·exact h.elim
theorem gG{α:Type}{x:Option α}{K:α->Prop}{v:α}(e:x=some v)(h:K v):ξ x K:=by subst e;exact h
theorem Ds{d:TypeDesc}{K:Value->Prop}(h:ye d v K):K v:=by
 unfold ye at h;split at h
 ·obtain⟨n,e,h⟩:=GL h;rw[e];exact h
 ·obtain⟨n,rfl,h⟩:=Bo h;exact h
 ·obtain⟨n,rfl,h⟩:=wJ h;exact h
 ·obtain⟨n,rfl,h⟩:=Dr h;exact h
 ·obtain⟨n,m,rfl,h⟩:=zG h;exact h
 ·obtain⟨n,m,l,rfl,h⟩:=nd h;exact h
 ·obtain⟨n,rfl,h⟩:=ug h;exact h
 ·obtain⟨n,rfl,h⟩:=yd h;exact h
 ·obtain⟨n,rfl,h⟩:=yc h;exact h
 ·obtain⟨n,rfl,h⟩:=yc h;exact h
 ·obtain⟨n,rfl,h⟩:=Y2 h;exact h
 ·exact h
end inv
def ez(ν:cX)(x:Operand)(K:Value->Prop):Prop:=
 match x with
 | .tmp t=>ξ (ν.get t) K
 | .const v=>K v
 | .global g=>K (.pointer (some ⟨g,0,none⟩))
 | .func f=>K (.func (.func f) #[] #[])
theorem gC{n:Nat}{a:Act}{ν:cX}(υ:Rel n a ν){x:Operand}{K:Value->Prop}(h:ez ν x K):K (a.eval x):=by
 cases x with
 |tmp t=>
  obtain⟨v,e,h⟩:=di h
  have:=υ.2.2 _ _ e
  show K (a.tmps.getD t undef);rw[Fc,this];exact h
 |const v=>exact h
 |global g=>exact h
 |func f=>exact h
def oN(ν:cX):List Operand->(aU->Prop)->Prop
 |[],K=>K []
 |x::r,K=>ez ν x λv=>oN ν r λvs=>K (v::vs)
theorem xr{n:Nat}{a:Act}{ν:cX}(υ:Rel n a ν):∀{xs:List Operand}{K:aU->Prop},oN ν xs K->K (xs.map a.eval)
 |[],_,h=>h
 |x::r,K,h=>xr υ (xs:=r) (gC υ h)
def Ar(ν:cX):Option Operand->(Option Value->Prop)->Prop
 |none,K=>K none
 |some x,K=>ez ν x λv=>K (some v)
theorem U3{n:Nat}{a:Act}{ν:cX}(υ:Rel n a ν):∀{x:Option Operand}{K:Option Value->Prop},Ar ν x K->K (x.map a.eval)
 |none,_,h=>h
 |some x,K,h=>gC (K:=λv=>K (some v)) υ h
def KK(ν:cX):List (Nat×Operand)->(List (Nat×Value)->Prop)->Prop
 |[],K=>K []
 |(i,x)::r,K=>ez ν x λv=>KK ν r λvs=>K ((i,v)::vs)
theorem U2{n:Nat}{a:Act}{ν:cX}(υ:Rel n a ν):∀{xs:List (Nat×Operand)}{K:List (Nat×Value)->Prop},KK ν xs K->K (xs.map λ(i,x)=>(i,a.eval x))
 |[],_,h=>h
 |(i,x)::r,K,h=>U2 υ (xs:=r) (gC (K:=λv=>KK ν r λvs=>K ((i,v)::vs)) υ h)
def gd{α:Type}(P:Program)(m:Sem α)(H:Array Obj)(v:α):Prop:=∀w:World,w.heap=H->m.run P w=.ok v w
theorem gd.pure{α:Type}{P:Program}{H:Array Obj}(v:α):gd P (pure v) H v:=λ_ _=>rfl
theorem gd.underlying{P:Program}{H:Array Obj}{t:TypeId}{d:TypeDesc}(h:P.underlying t=some d):gd P (underlying t) H d:=λw _=>run_underlying h w
theorem cK.j8{P:Program}{H:Array Obj}{t:TypeId}{i:cF}(h:cK P t i):gd P (Go.underlying t) H i.desc:=gd.underlying h.1
theorem cK.rG{P:Program}{H:Array Obj}{t:TypeId}{i:cF}(h:cK P t i):gd P (sizeOf t) H i.size:=λw _=>by
 obtain⟨_,ι,_⟩:=h;cases aC:P.info? t with
 |none=>simp[aC]at ι
 |some x=>
  simp only[aC,iT,sa,Fe]at ι;simp[sizeOf,typeInfo,aC,ι.1]
def zH:TypeDesc->Bool
 | .struct _=>true
 | .array _ _=>true
 |_=>false
theorem cK.No{P:Program}{H:Array Obj}{t:TypeId}{i:cF}(h:cK P t i):gd P (isAgg t) H (zH i.desc):=λw hw=>by unfold isAgg;rw[Sem.run_bind,h.j8 w hw,Result.andThen_ok];cases i.desc<;>rfl
def tZ(x y:Nat):Option Nat:=FloatKind.f64.format.add x y
def ek(op:BinOp)(x y:Nat):Bool:=
 let c:=FloatKind.f64.format.order x y
 match op with
 | .eql=>c==some .eq
 | .neq=>c !=some .eq
 | .lss=>c==some .lt
 | .leq=>c==some .lt||c==some .eq
 | .gtr=>c==some .gt
 | .geq=>c==some .gt||c==some .eq
 |_=>false
def abG:BinOp->Bool
 | .eql=>true| .neq=>true| .lss=>true| .leq=>true| .gtr=>true| .geq=>true
 |_=>false
def MI(op:BinOp)(k:IntKind)(a b:Int)(K:Value->Prop):Prop:=
 match op with
 | .add=>K (.int k (k.wrap (a+b)))
 | .sub=>K (.int k (k.wrap (a-b)))
 | .mul=>K (.int k (k.wrap (a*b)))
 | .quo=>ο (decide (b≠0)) (K (.int k (k.wrap (a.tdiv b))))
 | .rem=>ο (decide (b≠0)) (K (.int k (a.tmod b)))
 | .and=>K (.int k (k.wrap (BitVec.ofInt k.bits a&&&BitVec.ofInt k.bits b).toNat))
 | .or=>K (.int k (k.wrap (BitVec.ofInt k.bits a|||BitVec.ofInt k.bits b).toNat))
 | .xor=>K (.int k (k.wrap (BitVec.ofInt k.bits a^^^BitVec.ofInt k.bits b).toNat))
 | .eql=>K (.bool (a==b))
 | .neq=>K (.bool (a !=b))
 | .lss=>K (.bool (decide (a<b)))
 | .leq=>K (.bool (decide (a<=b)))
 | .gtr=>K (.bool (decide (a>b)))
 | .geq=>K (.bool (decide (a>=b)))
 |_=>False
theorem ajD{P:Program}{H:Array Obj}{op:BinOp}{k:IntKind}{a b:Int}{K:Value->Prop}{t:TypeId}(h:MI op k a b K):
  ∃v,gd P (binOp op t (.int k a) (.int k b)) H v/\K v:=by
 cases op<;>simp only[MI]at h<;>first
  |exact h.elim
  |(obtain⟨ψ,h⟩:=hT h
    have ψ:=b7 ψ;exact⟨_,λw _=>by simp[binOp,Op.intDiv,ψ],h⟩)
  |exact⟨_,λw _=>by simp[binOp,Op.intArith,Op.intBits,Op.intCmp],h⟩
def MJ(op:BinOp)(k:IntKind)(a b:Int)(K:Value->Prop):Prop:=
 match op with
 | .shl=>ο (decide (0<=b)) (K (.int k (k.wrap (a*2^(min b.toNat k.bits)))))
 | .shr=>ο (decide (0<=b)) (K (.int k (a.fdiv (2^(min b.toNat k.bits)))))
 |_=>False
theorem ajH{P:Program}{H:Array Obj}{op:BinOp}{k k':IntKind}{a b:Int}{K:Value->Prop}{t:TypeId}(h:MJ op k a b K):
  ∃v,gd P (binOp op t (.int k a) (.int k' b)) H v/\K v:=by
 cases op<;>simp only[MJ]at h<;>first
  |exact h.elim
  |(obtain⟨ψ,h⟩:=hT h
    have ψ:¬b<0:=by have:=b7 ψ;omega
    exact⟨_,λw _=>by simp[binOp,Op.shift,ψ],h⟩)
def abH:BinOp->Bool
 | .shl=>true| .shr=>true
 |_=>false
theorem asl{P:Program}{t:TypeId}{x y:Value}{w:World}{b:Bool}(h:(Op.equalIn (9999+1) t x y).run P w=.ok b w):(Op.equal t x y).run P w=.ok b w:=h
theorem R7{P:Program}{H:Array Obj}{t:TypeId}{op:BinOp}{x y:Value}{b:Bool}{v:Value}(I:binOp op t x y=match op with| .eql=>(do pure (.bool (<-Op.equal t x y)))|_=>(do pure (.bool (!(<-Op.equal t x y)))))
  (h:∀w:World,(Op.equalIn (9999+1) t x y).run P w=.ok b w)(aJ:v=match op with| .eql=>.bool b|_=>.bool (!b)):gd P (binOp op t x y) H v:=λw _=>by
 rw[I,aJ];cases op<;>simp[asl (h w)]
def zC(op:BinOp)(r:Bool)(K:Value->Prop):Prop:=
 match op with
 | .eql=>K (.bool r)
 | .neq=>K (.bool (!r))
 |_=>False
noncomputable abbrev fits(a b:ByteArray):Bool:=@decide (((a.size+b.size:Nat):Int)<=IntKind.i64.max) (Classical.propDecidable _)
theorem ZC{a b:ByteArray}(h:((a.size+b.size:Nat):Int)<=IntKind.i64.max){N:Prop}(k:N):ο (fits a b) N:=bL (@bB _ (Classical.propDecidable _) h) k
def V7(op:BinOp)(a b:ByteArray)(K:Value->Prop):Prop:=
 match op with
 | .eql=>K (.bool (a.toList==b.toList))
 | .neq=>K (.bool (!(a.toList==b.toList)))
 | .lss=>K (.bool (Op.bytesLess a.toList b.toList))
 | .add=>ο (fits a b) (K (.string (a++b)))
 |_=>False
def Jf(d:TypeDesc)(op:BinOp)(x y:Value)(K:Value->Prop):Prop:=
 match x,y with
 | .int k a,.int k' b=>cond (abH op) (MJ op k a b K) (ο (decide (k'=k)) (MI op k a b K))
 | .float .f64 a,.float .f64 b=>ο (abG op) (K (.bool (ek op a b)))
 | .complex .f64 a b,.complex .f64 c e=>
  match op with
  | .add=>ξ (tZ a c) λr=>ξ (tZ b e) λi=>K (.complex .f64 r i)
  |op=>zC op (ek .eql a c&&ek .eql b e) K
 | .string a,.string b=>V7 op a b K
 | .bool a,.bool b=>match d with| .bool=>zC op (a==b) K|_=>False
 | .slice a _ _,.slice none _ _=>match d with| .slice _=>zC op a.isNone K|_=>False
 | .pointer a,.pointer none=>match d with| .pointer _=>zC op a.isNone K|_=>False
 |_,_=>False
theorem ajF{P:Program}{H:Array Obj}{i:cF}{t:TypeId}(o:cK P t i){op:BinOp}{x y:Value}{K:Value->Prop}(h:Jf i.desc op x y K):
  ∃v,gd P (binOp op t x y) H v/\K v:=by
 unfold Jf at h;split at h
 ·rename_i k a k' b;by_cases ω:abH op=true
  ·rw[ω]at h;exact ajH h
  ·rw[Bool.eq_false_iff.2 ω]at h;obtain⟨e,h⟩:=hT h;have e:=b7 e;subst e;exact ajD h
 ·rename_i a b;obtain⟨e,h⟩:=hT h;refine⟨_,λw _=>?_,h⟩;cases op<;>first|(simp[abG]at e;done)|simp[binOp,Op.floatCmp,ek]
 ·rename_i a b c e;split at h
  ·obtain⟨r,υ,h⟩:=di h;obtain⟨s,ω,h⟩:=di h;refine⟨_,λw _=>?_,h⟩;unfold tZ at υ ω;simp[binOp,Op.complexOp,Op.Complex.arith,Op.floatArith,υ,ω]
  ·cases op<;>simp only[zC]at h<;>first
    |exact h.elim
    |exact⟨_,λw _=>by simp[binOp,Op.complexOp,Op.Complex.cmp,Op.floatCmp,ek,asBool],h⟩
 ·rename_i a b;cases op<;>simp only[V7]at h<;>first
   |exact h.elim
   |exact⟨_,λw _=>by simp[binOp,Op.stringOp],h⟩
   |(obtain⟨e,h⟩:=hT h
     have e:=@b7 _ (Classical.propDecidable _) e;exact⟨_,λw _=>by simp[binOp,Op.stringOp];exact e,h⟩)
 ·rename_i a b;split at h
  ·rename_i af;have hu:P.underlying t=some .bool:=by rw[o.1,af]
   have e:∀w:World,(Op.equalIn (9999+1) t (.bool a) (.bool b)).run P w=.ok (a==b) w:=λw=>by unfold Op.equalIn;simp[run_underlying hu]
   cases op<;>simp only[zC]at h<;>first
    |exact h.elim
    |exact⟨_,R7 rfl e rfl,h⟩
  ·exact h.elim
 ·rename_i a n c eX aT;split at h
  ·rename_i e af;have hu:P.underlying t=some (.slice e):=by rw[o.1,af]
   have e:∀w:World,(Op.equalIn (9999+1) t (.slice a n c) (.slice none eX aT)).run P w=.ok a.isNone w:=λw=>by unfold Op.equalIn;cases a<;>simp[run_underlying hu]
   cases op<;>simp only[zC]at h<;>first
    |exact h.elim
    |exact⟨_,R7 rfl e rfl,h⟩
  ·exact h.elim
 ·rename_i a;split at h
  ·rename_i e af;have hu:P.underlying t=some (.pointer e):=by rw[o.1,af]
   have e:∀w:World,(Op.equalIn (9999+1) t (.pointer a) (.pointer none)).run P w=.ok a.isNone w:=λw=>by unfold Op.equalIn;cases a<;>simp[run_underlying hu]
   cases op<;>simp only[zC]at h<;>first
    |exact h.elim
    |exact⟨_,R7 (by first|rfl|(cases a<;>rfl)) e rfl,h⟩
  ·exact h.elim
 ·exact h.elim
def aw(w:World)(a:Addr)(vs:aU):Prop:=∀j v,vs[j]?=some v->w.cell? (a.add j)=some v
def a7(w:World)(a:J)(vs:aU):Prop:=match a with|none=>vs=[]|some a=>aw w a vs
def strOf(qQ:an):ByteArray:=qQ.foldl (λr n=>r.push (UInt8.ofNat n.toNat)) ByteArray.empty
theorem YS{w w':World}(h:w'.heap=w.heap)(a:Addr):w'.cell? a=w.cell? a:=by simp only[World.cell?,h]
section
variable{P:Program}{H:Array Obj}
theorem alT{w:World}{a:Addr}{v:Value}(h:w.cell? a=some v):gd P (load a) w.heap v:=λw' fK=>by rw[run_load,YS fK,h]
theorem Sy{w:World}{a:Addr}{vs:aU}(h:aw w a vs):gd P (loadCells a vs.length) w.heap vs.toArray:=λw' fK=>
 run_loadCells_list w' a vs λj v aJ=>by rw[YS fK];exact h j v aJ
def OK(c:cW)(t:TypeId)(cs:ag)(off:Nat)(K:Value->Prop):Prop:=
 ξ (eF c.tb t) λi=>cond (zH i.desc) (K (.agg (cs.extract off (off+i.size)))) (ξ cs[off]? λv=>ye i.desc v K)
theorem adg{c:cW}(π:hh c){t:TypeId}{cs:ag}{off:Nat}{K:Value->Prop}(h:OK c t cs off K):
  ∃v,gd c.P (part t cs off) H v/\K v:=by
 obtain⟨i,o,h⟩:=di h;have o:=π.fj o;cases af:zH i.desc with
 |true=>
  rw[af]at h;refine⟨_,λw hw=>?_,h⟩;unfold part;rw[Sem.run_bind,o.No w hw,Result.andThen_ok,af,aS rfl,Sem.run_bind,o.rG w hw];rfl
 |false=>
  rw[af]at h;obtain⟨v,aJ,h⟩:=di h;refine⟨v,λw hw=>?_,Ds h⟩;unfold part;rw[Sem.run_bind,o.No w hw,Result.andThen_ok,af];simp[aJ]
def Sf(c:cW)(t:TypeId)(x:Value)(f:Nat)(K:Value->Prop):Prop:=
 dq x λcs=>ξ (eF c.tb t) λi=>match i.desc with
  | .struct jo=>ξ jo[f]? λc9=>OK c c9.type cs c9.offset K
  |_=>False
theorem aly{c:cW}(π:hh c){t:TypeId}{x:Value}{f:Nat}{K:Value->Prop}(h:Sf c t x f K):
  ∃v,gd c.P (Instr.field t x f) H v/\K v:=by
 obtain⟨cs,rfl,h⟩:=yc h;obtain⟨i,o,h⟩:=di h;have o:=π.fj o;split at h
 ·rename_i jo af;obtain⟨c9,bg,h⟩:=di h;obtain⟨v,aJ,h⟩:=adg π (H:=H) h;refine⟨v,λw hw=>?_,h⟩;unfold Instr.field;rw[Sem.run_bind,o.j8 w hw,Result.andThen_ok,af];simp[bg,asAgg,aJ w hw]
 ·exact h.elim
def Oc(c:cW)(t:TypeId)(x k2:Value)(K:Value->Prop):Prop:=
 match k2 with
 | .int _ n=>ο (decide (0<=n)) (ξ (eF c.tb t) λi=>match i.desc with
  | .array len e=>dq x λcs=>ο (decide (n<(len:Int))) (ξ (eF c.tb e) λei=>OK c e cs (n.toNat*ei.size) K)
  | .string=>nK x λs=>ξ s[n.toNat]? λb=>K (.int .u8 (b.toNat:Int))
  |_=>False)
 |_=>False
theorem ao2{c:cW}(π:hh c){t:TypeId}{x k2:Value}{K:Value->Prop}(h:Oc c t x k2 K):
  ∃v,gd c.P (Instr.index t x k2) H v/\K v:=by
 unfold Oc at h;split at h
 ·rename_i k n;obtain⟨aD,h⟩:=hT h;have aD:=b7 aD;obtain⟨i,o,h⟩:=di h;have o:=π.fj o;split at h
  ·rename_i len e af;obtain⟨cs,rfl,h⟩:=yc h;obtain⟨h1,h⟩:=hT h;have h1:=b7 h1;obtain⟨ei,fX,h⟩:=di h;have fX:=π.fj fX;obtain⟨v,aJ,h⟩:=adg π (H:=H) h;refine⟨v,λw hw=>?_,h⟩;unfold Instr.index;simp only[asIntOf,pure_bind];rw[Sem.run_bind,o.j8 w hw,Result.andThen_ok,af];simp only[aD,h1,and_self,oR];rw[Sem.run_bind,fX.rG w hw,Result.andThen_ok,aJ w hw]
  ·rename_i af;obtain⟨s,rfl,h⟩:=wJ h;obtain⟨b,ψ,h⟩:=di h;refine⟨_,λw hw=>?_,h⟩;unfold Instr.index;simp only[asIntOf,pure_bind];rw[Sem.run_bind,o.j8 w hw,Result.andThen_ok,af];simp[aD,ψ]
  ·exact h.elim
 ·exact h.elim
def Se(c:cW)(t:TypeId)(x:Value)(f:Nat)(K:Value->Prop):Prop:=
 gX x λp=>ξ p λa=>ξ (eF c.tb t) λi=>match i.desc with
  | .struct jo=>ξ jo[f]? λc9=>ξ (eF c.tb c9.type) λj=>ο (decide (j.size≠0)) (K (.pointer (some (a.add c9.offset))))
  |_=>False
theorem alv{c:cW}(π:hh c){t:TypeId}{x:Value}{f:Nat}{K:Value->Prop}(h:Se c t x f K):
  ∃v,gd c.P (Instr.fieldAt t x f) H v/\K v:=by
 obtain⟨p,rfl,h⟩:=ug h;obtain⟨a,rfl,h⟩:=di h;obtain⟨i,o,h⟩:=di h;have o:=π.fj o;split at h
 ·rename_i jo af;obtain⟨c9,bg,h⟩:=di h;obtain⟨j,φ,h⟩:=di h;have φ:=π.fj φ;obtain⟨aD,h⟩:=hT h;have aD:=b7 aD;refine⟨_,λw hw=>?_,h⟩;unfold Instr.fieldAt;rw[Sem.run_bind,o.j8 w hw,Result.andThen_ok,af];simp only[bg,Instr.sureAddr,pure_bind,fieldPlace];rw[Sem.run_bind,Sem.run_bind,φ.rG w hw];simp[aD]
 ·exact h.elim
def Oa(c:cW)(t:TypeId)(x k2:Value)(K:Value->Prop):Prop:=
 match k2 with
 | .int _ n=>ο (decide (0<=n)) (ξ (eF c.tb t) λi=>match i.desc with
  | .array len e=>gX x λp=>ξ p λa=>ο (decide (n<(len:Int))) (ξ (eF c.tb e) λei=>K (.pointer (some (a.add (n.toNat*ei.size)))))
  | .slice e=>cN x λp len _=>ο (decide (n<(len:Int))) (ξ p λa=>ξ (eF c.tb e) λei=>K (.pointer (some (a.add (n.toNat*ei.size)))))
  |_=>False)
 |_=>False
theorem ao0{c:cW}(π:hh c){t:TypeId}{x k2:Value}{K:Value->Prop}(h:Oa c t x k2 K):
  ∃v,gd c.P (Instr.indexAt t x k2) H v/\K v:=by
 unfold Oa at h;split at h
 ·rename_i k n;obtain⟨aD,h⟩:=hT h;have aD:=b7 aD;obtain⟨i,o,h⟩:=di h;have o:=π.fj o;split at h
  ·rename_i len e af;obtain⟨p,rfl,h⟩:=ug h;obtain⟨a,rfl,h⟩:=di h;obtain⟨h1,h⟩:=hT h;have h1:=b7 h1;obtain⟨ei,fX,h⟩:=di h;have fX:=π.fj fX;refine⟨_,λw hw=>?_,h⟩;unfold Instr.indexAt;simp only[asIntOf,pure_bind];have ω:=fX.rG w hw;simp[o.j8 w hw,af,Instr.sureAddr,aD,h1,ω]
  ·rename_i e af;obtain⟨p,len,dj,rfl,h⟩:=nd h;obtain⟨h1,h⟩:=hT h;have h1:=b7 h1;obtain⟨a,rfl,ι⟩:=di h;obtain⟨ei,fX,aG⟩:=di ι;have fX:=π.fj fX;refine⟨_,λw hw=>?_,aG⟩;unfold Instr.indexAt;simp only[asIntOf,pure_bind];have ω:=fX.rG w hw;simp[o.j8 w hw,af,Instr.sureAddr,aD,h1,ω]
  ·exact h.elim
 ·exact h.elim
def Ut(c:cW)(t:TypeId)(x:Value)(w:World)(K:Value->Prop):Prop:=
 gX x λp=>ξ p λa=>ξ (eF c.tb t) λi=>match i.desc with
  | .int k=>∃n:Int,w.cell? a=some (.int k n)/\K (.int k n)
  | .bool=>∃b:Bool,w.cell? a=some (.bool b)/\K (.bool b)
  | .string=>∃s:ByteArray,w.cell? a=some (.string s)/\K (.string s)
  | .float _=>∃b:Nat,w.cell? a=some (.float .f64 b)/\K (.float .f64 b)
  | .complex _=>∃r m:Nat,w.cell? a=some (.complex .f64 r m)/\K (.complex .f64 r m)
  | .slice _=>∃(p:J)(n m:Nat),w.cell? a=some (.slice p n m)/\K (.slice p n m)
  | .pointer _=>∃p:J,w.cell? a=some (.pointer p)/\K (.pointer p)
  | .map _ _=>∃r:Option Nat,w.cell? a=some (.map r)/\K (.map r)
  | .struct _=>∃cs:ag,cs.size=i.size/\aw w a cs.toList/\K (.agg cs)
  | .array _ _=>∃cs:ag,cs.size=i.size/\aw w a cs.toList/\K (.agg cs)
  | .interface _=>∃v:Value,w.cell? a=some v/\K v
  | .func _ _ _=>∃v:Value,w.cell? a=some v/\K v
  |_=>False
theorem Np{c:cW}(π:hh c){t:TypeId}{i:cF}(o:cK c.P t i)(af:zH i.desc=false){w:World}{a:Addr}{v:Value}(h:w.cell? a=some v):
  gd c.P (Instr.loadAt t (.pointer (some a))) w.heap v:=λw' fK=>by
 have ι:=o.No (H:=w.heap) w' fK;rw[af]at ι;have aG:=alT (P:=c.P) h w' fK;unfold Instr.loadAt;simp only[Instr.sureAddr,pure_bind];unfold loadVar;rw[Sem.run_bind,ι,Result.andThen_ok];exact aG
theorem Z0{c:cW}(π:hh c){t:TypeId}{i:cF}(o:cK c.P t i)(af:zH i.desc=true){w:World}{a:Addr}{cs:ag}(ω:cs.size=i.size)(h:aw w a cs.toList):
  gd c.P (Instr.loadAt t (.pointer (some a))) w.heap (.agg cs):=λw' fK=>by
 have ι:=o.No (H:=w.heap) w' fK;rw[af]at ι;have aG:=Sy (P:=c.P) h w' fK;have cq:=o.rG (H:=w.heap) w' fK;rw[kP,ω]at aG;unfold Instr.loadAt;simp only[Instr.sureAddr,pure_bind];unfold loadVar;rw[Sem.run_bind,ι,Result.andThen_ok,aS rfl,Sem.run_bind,cq,Result.andThen_ok,Sem.run_bind,aG];simp
theorem abQ{c:cW}(π:hh c){t:TypeId}{x:Value}{w:World}{K:Value->Prop}(h:Ut c t x w K):
  ∃v,gd c.P (Instr.loadAt t x) w.heap v/\K v:=by
 obtain⟨p,rfl,h⟩:=ug h;obtain⟨a,rfl,h⟩:=di h;obtain⟨i,o,h⟩:=di h;have o:=π.fj o;split at h<;>rename_i af<;>first
  |(obtain⟨n,e,h⟩:=h;exact⟨_,Np π o (by rw[af];rfl) e,h⟩)
  |(obtain⟨n,m,e,h⟩:=h;exact⟨_,Np π o (by rw[af];rfl) e,h⟩)
  |(obtain⟨n,m,l,e,h⟩:=h;exact⟨_,Np π o (by rw[af];rfl) e,h⟩)
  |(obtain⟨cs,ω,e,h⟩:=h;exact⟨_,Z0 π o (by rw[af];rfl) ω e,h⟩)
  |exact h.elim
def D1(o:Option Value)(len cap:Nat)(K:bf):Prop:=
 match o with
 |none=>K len
 |some (.int _ n)=>ο (decide (0<=n)) (ο (decide (n<=(cap:Int))) (K n.toNat))
 |_=>False
def s3(eT:Option Value)(h:Nat)(K:bf):Prop:=
 match eT with
 |none=>K 0
 |some (.int _ n)=>ο (decide (0<=n)) (ο (decide (n<=(h:Int))) (K n.toNat))
 |_=>False
theorem Rh{isS:Bool}{eT o:Option Value}{len cap:Nat}{K:Nat->bf}(h:D1 o len cap λh=>s3 eT h λl=>K l h):
  ∃l m,gd P (Instr.sliceBounds isS len cap eT o none) H (l,m,cap)/\K l m:=by
 have ψ:∀(k:IntKind)(n:Int)(y:Nat)(code:BoundsCode),0<=n->n<=(y:Int)->gd P (Instr.sliceBound (.int k n) y code) H n.toNat:=by intro k n y code aD h1 w _;simp[Instr.sliceBound,asIntOf,aD,h1]
 have key:∀{m:Nat},s3 eT m (λl=>K l m)->∃l,gd P (match eT with|some v=>Instr.sliceBound v m .sliceB|none=>pure 0) H l/\K l m:=by
  intro m h;unfold s3 at h;split at h
  ·exact⟨0,gd.pure _,h⟩
  ·obtain⟨aD,h⟩:=hT h;obtain⟨h1,h⟩:=hT h;exact⟨_,ψ _ _ _ _ (b7 aD) (b7 h1),h⟩
  ·exact h.elim
 have apc:∃m,gd P (match o with|some v=>Instr.sliceBound v cap (if isS then .sliceAcap else .sliceAlen)|none=>pure len) H m/\s3 eT m (λl=>K l m):=by
  unfold D1 at h;split at h
  ·exact⟨len,gd.pure _,h⟩
  ·obtain⟨aD,h⟩:=hT h;obtain⟨h1,h⟩:=hT h;exact⟨_,ψ _ _ _ _ (b7 aD) (b7 h1),h⟩
  ·exact h.elim
 obtain⟨m,hm,h⟩:=apc;obtain⟨l,aj,h⟩:=key h;refine⟨l,m,λw hw=>?_,h⟩;have h1:=hm w hw;have ι:=aj w hw;unfold Instr.sliceBounds;cases o<;>cases eT<;>simp_all[Sem.run_bind]
def du(a:J)(m l s:Nat):J:=if m=l then a else a.map (·.add (l*s))
def V3(c:cW)(t:TypeId)(x:Value)(eT o:Option Value)(K:Value->Prop):Prop:=
 ξ (eF c.tb t) λi=>match i.desc with
  | .string=>nK x λs=>D1 o s.size s.size λh=>s3 eT h λl=>K (.string (s.extract l h))
  | .slice e=>cN x λa len cap=>ξ (eF c.tb e) λei=>D1 o len cap λh=>s3 eT h λl=>K (.slice (du a cap l ei.size) (h-l) (cap-l))
  | .array n e=>gX x λp=>ξ p λa=>ξ (eF c.tb e) λei=>D1 o n n λh=>s3 eT h λl=>K (.slice (du (some a) n l ei.size) (h-l) (n-l))
  |_=>False
theorem asO{c:cW}(π:hh c){t:TypeId}{x:Value}{eT o:Option Value}{K:Value->Prop}(h:V3 c t x eT o K):
  ∃v,gd c.P (Instr.sliceAt t x eT o none) H v/\K v:=by
 obtain⟨i,o,h⟩:=di h;have o:=π.fj o;split at h
 ·rename_i af;obtain⟨s,rfl,ι⟩:=wJ h;obtain⟨l,m,ψ,aG⟩:=Rh (P:=c.P) (H:=H) (isS:=false) ι;refine⟨_,λw hw=>?_,aG⟩;have h1:=o.j8 w hw;rw[af]at h1;have ι:=ψ w hw;unfold Instr.sliceAt;rw[Sem.run_bind,h1,Result.andThen_ok];dsimp only;unfold Instr.slice;rw[Sem.run_bind,h1,Result.andThen_ok];simp[ι]
 ·rename_i e af;obtain⟨a,len,cap,rfl,h⟩:=nd h;obtain⟨ei,fX,h⟩:=di h;have fX:=π.fj fX;obtain⟨l,m,ψ,h⟩:=Rh (P:=c.P) (H:=H) (isS:=true) h;refine⟨_,λw hw=>?_,h⟩;have h1:=o.j8 w hw;rw[af]at h1;have ι:=ψ w hw;have aG:=fX.rG w hw;unfold Instr.sliceAt;rw[Sem.run_bind,h1,Result.andThen_ok];dsimp only;unfold Instr.slice;rw[Sem.run_bind,h1,Result.andThen_ok];simp[ι,aG,du]
 ·rename_i n e af;obtain⟨p,rfl,h⟩:=ug h;obtain⟨a,rfl,h⟩:=di h;obtain⟨ei,fX,h⟩:=di h;have fX:=π.fj fX;obtain⟨l,m,ψ,h⟩:=Rh (P:=c.P) (H:=H) (isS:=false) h;refine⟨_,λw hw=>?_,h⟩;have h1:=o.j8 w hw;rw[af]at h1;have ι:=ψ w hw;have aG:=fX.rG w hw;unfold Instr.sliceAt;rw[Sem.run_bind,h1,Result.andThen_ok];simp only[Instr.sureAddr,pure_bind,Sem.run_bind,ι,aG,Result.andThen_ok,du];by_cases anP:n=l<;>simp[anP]
 ·exact h.elim
def V2(c:cW)(t:TypeId)(x:Value)(eT:Option Value)(o s4:Value)(K:Value->Prop):Prop:=
 ξ (eF c.tb t) λi=>match i.desc with
  | .slice e=>cN x λa len cap=>ξ (eF c.tb e) λei=>s3 (some s4) cap λm=>s3 (some o) m λh=>s3 eT h λl=>K (.slice (du a m l ei.size) (h-l) (m-l))
  |_=>False
theorem Uw{v:Value}{n:Nat}{K:bf}(h:s3 (some v) n K):∃m,(∀code,gd P (Instr.sliceBound v n code) H m)/\K m:=by
 unfold s3 at h;split at h
 ·rename_i e;cases e
 ·rename_i k j e;cases e;obtain⟨aD,h⟩:=hT h;obtain⟨h1,h⟩:=hT h;have aD:=b7 aD;have h1:=b7 h1;exact⟨_,λcode w _=>by simp[Instr.sliceBound,asIntOf,aD,h1],h⟩
 ·exact h.elim
theorem asM{c:cW}(π:hh c){t:TypeId}{x:Value}{eT:Option Value}{o s4:Value}{K:Value->Prop}(h:V2 c t x eT o s4 K):
  ∃v,gd c.P (Instr.sliceAt t x eT (some o) (some s4)) H v/\K v:=by
 obtain⟨i,kX,h⟩:=di h;have kX:=π.fj kX;split at h
 ·rename_i e af;obtain⟨a,len,cap,rfl,h⟩:=nd h;obtain⟨ei,fX,h⟩:=di h;have fX:=π.fj fX;obtain⟨m,hm,h⟩:=Uw (P:=c.P) (H:=H) h;obtain⟨dS,anv,h⟩:=Uw (P:=c.P) (H:=H) h;have pb:∃l,(∀w:World,w.heap=H->(match eT with|some v=>Instr.sliceBound v dS .slice3C|none=>pure 0).run c.P w=.ok l w)/\K (.slice (du a m l ei.size) (dS-l) (m-l)):=by
   cases eT with
   |none=>exact⟨0,λw _=>by simp,h⟩
   |some v=>
    obtain⟨l,aj,h⟩:=Uw (P:=c.P) (H:=H) h;exact⟨l,λw hw=>aj _ w hw,h⟩
  obtain⟨l,aj,h⟩:=pb;refine⟨_,λw hw=>?_,h⟩;have h1:=kX.j8 w hw;rw[af]at h1;have ι:=hm .slice3Acap w hw;have aG:=fX.rG w hw;have cq:=anv .slice3B w hw;have db:=aj w hw;unfold Instr.sliceAt;rw[Sem.run_bind,h1,Result.andThen_ok];dsimp only;unfold Instr.slice;rw[Sem.run_bind,h1,Result.andThen_ok];unfold Instr.sliceBounds;cases eT<;>simp_all[du,Sem.run_bind]
 ·exact h.elim
def Zu(k:IntKind)(b:Nat)(K:Value->Prop):Prop:=
 ξ ((FloatKind.f64.decode b).toInt .zero) λn=>ο (decide (k.min<=n)) (ο (decide (n<=k.max)) (K (.int k n)))
def ata(w:World)(a:J)(n:Nat)(K:Value->Prop):Prop:=
 ∃qQ:an,qQ.length=n/\a7 w a (qQ.map (Value.int .u8))/\K (.string (strOf qQ))
def Jl(c:cW)(s d:TypeId)(x:Value)(w:World)(K:Value->Prop):Prop:=
 ξ (eF c.tb s) λi=>ξ (eF c.tb d) λj=>match j.desc with
  | .int k=>(match x with
   | .int _ n=>K (.int k (k.wrap n))
   | .float .f64 b=>Zu k b K
   |_=>False)
  | .float .f64=>(match x with
   | .int _ n=>K (.float .f64 (FloatKind.f64.nearest n))
   |_=>False)
  | .string=>(match i.desc with
   | .slice e=>ξ (eF c.tb e) λei=>(match ei.desc with
    | .int .u8=>cN x λa n _=>ata w a n K
    |_=>False)
   | .string=>nK x λs=>K (.string s)
   |_=>False)
  |_=>False
theorem akf{c:cW}(π:hh c){s d:TypeId}{x:Value}{w:World}{K:Value->Prop}(h:Jl c s d x w K):
  ∃v,gd c.P (convert s d x) w.heap v/\K v:=by
 obtain⟨i,o,h⟩:=di h;have o:=π.fj o;obtain⟨j,φ,h⟩:=di h;have φ:=π.fj φ;split at h
 ·rename_i k af;split at h
  ·rename_i k' n;refine⟨_,λw' hw=>?_,h⟩;unfold convert;rw[Sem.run_bind,o.j8 w' hw,Result.andThen_ok,Sem.run_bind,φ.j8 w' hw,Result.andThen_ok,af];cases i.desc<;>rfl
  ·rename_i mE fb dW;obtain⟨n,ax,h⟩:=di h;obtain⟨aD,h⟩:=hT h;obtain⟨h1,h⟩:=hT h;refine⟨_,λw' hw=>?_,h⟩;unfold convert;rw[Sem.run_bind,o.j8 w' hw,Result.andThen_ok,Sem.run_bind,φ.j8 w' hw,Result.andThen_ok,af];have aD:=b7 aD;have h1:=b7 h1;have e:(Conv.floatToInt .f64 mE k).run c.P w'=.ok (.int k n) w':=by
    simp[Conv.floatToInt,ax,aD,h1]
   cases i.desc<;>exact e
  ·exact h.elim
 ·rename_i af;split at h
  ·rename_i k' n;refine⟨_,λw' hw=>?_,h⟩;unfold convert;rw[Sem.run_bind,o.j8 w' hw,Result.andThen_ok,Sem.run_bind,φ.j8 w' hw,Result.andThen_ok,af];cases i.desc<;>rfl
  ·exact h.elim
 ·rename_i af;split at h
  ·rename_i e ω;obtain⟨ei,fX,h⟩:=di h;have fX:=π.fj fX;split at h
   ·rename_i he;obtain⟨a,n,dj,rfl,qQ,aj,jq,h⟩:=nd h;refine⟨_,λw' hw=>?_,h⟩;have Kg:c.P.underlying s=some (.slice e):=by rw[o.1,ω]
    have aoD:c.P.underlying e=some (.int .u8):=by rw[fX.1,he]
    have aoE:c.P.underlying d=some .string:=by rw[φ.1,af]
    rw[run_convert_bytes_string w' s d e a n dj Kg aoD aoE];cases a with
    |none=>
     have:qQ=[]:=by simpa[a7]using jq
     subst this;rfl
    |some a=>
     refine run_bytesToString w' a n dj qQ ?_
     have:=Sy (P:=c.P) (w:=w) (a:=a) (vs:=qQ.map (Value.int .u8)) jq w' hw
     rwa[jV,aj]at this
   ·exact h.elim
  ·rename_i ω;obtain⟨axY,rfl,h⟩:=wJ h;refine⟨_,λw' hw=>?_,h⟩;unfold convert;rw[Sem.run_bind,o.j8 w' hw,Result.andThen_ok,Sem.run_bind,φ.j8 w' hw,Result.andThen_ok,af,ω];rfl
  ·exact h.elim
 ·exact h.elim
end
def Uu(c:cW)(t:TypeId)(x:Value)(K:Value->Prop):Prop:=
 ξ (eF c.tb t) λi=>match i.desc with
  | .string=>nK x λs=>K (.int .i64 (s.size:Int))
  | .array n _=>K (.int .i64 (n:Int))
  | .slice _=>cN x λ_ n _=>K (.int .i64 (n:Int))
  |_=>False
def max2(a b:Int):Int:=if b>a then b else a
def min2(a b:Int):Int:=if b<a then b else a
def Jg(c:cW)(b:Builtin)(gh:Array TypeId)(xs:aU)(K:Value->Prop):Prop:=
 match b with
 | .len=>(match xs with|[x]=>ξ gh[0]? λt=>Uu c t x K|_=>False)
 | .real=>(match xs with|[x]=>lq x λa _=>K (.float .f64 a)|_=>False)
 | .imag=>(match xs with|[x]=>lq x λ_ a=>K (.float .f64 a)|_=>False)
 | .complex=>(match xs with|[x,y]=>wI x λa=>wI y λb=>K (.complex .f64 a b)|_=>False)
 | .max=>(match xs with|[.int k a,.int _ b]=>K (.int k (max2 a b))|_=>False)
 | .min=>(match xs with|[.int k a,.int _ b]=>K (.int k (min2 a b))|_=>False)
 | .cap=>(match xs with|[x]=>ξ gh[0]? λt=>ξ (eF c.tb t) λi=>(match i.desc with| .slice _=>cN x λ_ _ n=>K (.int .i64 (n:Int))|_=>False)|_=>False)
 |_=>False
theorem apn{c:cW}(π:hh c){H:Array Obj}{gh:Array TypeId}{t:TypeId}(aP:gh[0]?=some t){ty:TypeId}{x:Value}{K:Value->Prop}(h:Uu c t x K):
  ∃v,gd c.P (Builtin.len_ gh ty #[x]) H v/\K v:=by
 obtain⟨i,o,h⟩:=di h;have o:=π.fj o;split at h
 ·rename_i af;obtain⟨s,rfl,ι⟩:=wJ h;refine⟨_,λw hw=>?_,ι⟩;have h1:=o.j8 w hw;rw[af]at h1;simp[Builtin.len_,aP,h1,goInt]
 ·rename_i n e af;refine⟨_,λw hw=>?_,h⟩;have h1:=o.j8 w hw;rw[af]at h1;simp[Builtin.len_,aP,h1,goInt]
 ·rename_i e af;obtain⟨a,n,dj,rfl,ι⟩:=nd h;refine⟨_,λw hw=>?_,ι⟩;have h1:=o.j8 w hw;rw[af]at h1;simp[Builtin.len_,aP,h1,goInt]
 ·exact h.elim
theorem ajK{c:cW}(π:hh c){H:Array Obj}{b:Builtin}{gh:Array TypeId}{ty:TypeId}{cs:Array Bool}{xs:aU}{K:Value->Prop}(h:Jg c b gh xs K):
  ∃v,gd c.P (builtin b gh ty cs xs.toArray) H (Next.value v)/\K v:=by
 have lift:∀{m:Sem Value}{v:Value},gd c.P m H v->gd c.P (do pure (Next.value (<-m))) H (Next.value v):=by intro m v hm w hw;rw[Sem.run_bind,hm w hw];rfl
 unfold Jg at h;split at h
 ·split at h
  ·obtain⟨t,aP,h⟩:=di h;obtain⟨v,aJ,h⟩:=apn π (H:=H) aP (ty:=ty) h;exact⟨v,lift aJ,h⟩
  ·exact h.elim
 ·split at h
  ·obtain⟨a,b,rfl,ι⟩:=zG h;exact⟨_,lift (gd.pure _),ι⟩
  ·exact h.elim
 ·split at h
  ·obtain⟨a,b,rfl,ι⟩:=zG h;exact⟨_,lift (gd.pure _),ι⟩
  ·exact h.elim
 ·split at h
  ·obtain⟨a,rfl,ι⟩:=Dr h;obtain⟨b,rfl,aG⟩:=Dr ι;exact⟨_,lift (m:=Builtin.complex_ gh ty #[.float .f64 a,.float .f64 b]) λw _=>rfl,aG⟩
  ·exact h.elim
 ·split at h
  ·rename_i k a k' b;refine⟨_,lift (m:=Builtin.max_ gh ty #[.int k a,.int k' b]) λw _=>?_,h⟩;simp[Builtin.max_,Builtin.max2,max2]
  ·exact h.elim
 ·split at h
  ·rename_i k a k' b;refine⟨_,lift (m:=Builtin.min_ gh ty #[.int k a,.int k' b]) λw _=>?_,h⟩;simp[Builtin.min_,Builtin.min2,min2]
  ·exact h.elim
 ·split at h
  ·obtain⟨t,aP,h⟩:=di h;obtain⟨i,o,h⟩:=di h;have o:=π.fj o;split at h
   ·rename_i x e af;obtain⟨a,n,dj,rfl,ι⟩:=nd h;refine⟨_,lift (m:=Builtin.cap_ gh ty #[.slice a n dj]) λw hw=>?_,ι⟩;have h1:=o.j8 w hw;rw[af]at h1;simp[Builtin.cap_,aP,h1,goInt]
   ·exact h.elim
  ·exact h.elim
 ·exact h.elim
def P7(op:UnOp)(x:Value)(K:Value->Prop):Prop:=
 match op,x with
 | .not,.bool b=>K (.bool (!b))
 | .neg,.int k n=>K (.int k (k.wrap (0-n)))
 | .xor,.int k n=>K (.int k (k.wrap (BitVec.ofInt k.bits (if k.signed then-1 else k.max)^^^BitVec.ofInt k.bits n).toNat))
 |_,_=>False
theorem avE{P:Program}{H:Array Obj}{op:UnOp}{x:Value}{K:Value->Prop}(h:P7 op x K):∃v,gd P (Op.unary op x) H v/\K v:=by
 unfold P7 at h;split at h
 ·exact⟨_,gd.pure _,h⟩
 ·exact⟨_,λw _=>by simp[Op.unary,Op.intArith],h⟩
 ·exact⟨_,λw _=>by simp[Op.unary,Op.intBits],h⟩
 ·exact h.elim
def UK(x:Value)(K:Value->Prop):Prop:=
 match x with
 | .pointer p=>ξ p λa=>K (.pointer (some a))
 | .func (.func f) jD gA=>K (.func (.func f) jD gA)
 |_=>False
def Vm(x y:Value):Bool:=
 match x,y with
 | .nilIface,_=>false
 | .agg _,_=>false
 |_,_=>true
def alb(P:Program)(op:BinOp)(t:TypeId)(Me Mg:Operand)(x y:Value)(b:Bool):Prop:=∀w:World,(do eqGuard op t Me Mg x y;binOp op t x y:Sem Value).run P w=.ok (.bool b) w
def Zp(P:Program)(op:BinOp)(t:TypeId)(Me Mg:Operand)(x y:Value)(K:Value->Prop):Prop:=∃b:Bool,alb P op t Me Mg x y b/\K (.bool b)
def uk(c:cW)(ε:Oper)(ν:cX)(w:World)(K:Value->Prop):Prop:=
 match ε.op with
 | .move x=>ez ν x K
 | .assign x=>ez ν x K
 | .pick p a b=>ez ν p λp=>dw p λt=>cond t (ez ν a K) (ez ν b K)
 | .load t a=>ez ν a λa=>Ut c t a w K
 | .nilCheck x=>ez ν x λx=>UK x K
 | .binOp op t x y _=>ez ν x λa=>ez ν y λb=>cond (Vm a b) (ξ (eF c.tb t) λi=>Jf i.desc op a b K) (Zp c.P op t x y a b K)
 | .unOp op _ x=>ez ν x λx=>P7 op x K
 | .convert s d x=>ez ν x λx=>Jl c s d x w K
 | .makeInterface t x=>ez ν x λx=>ξ (eF c.tb t) λi=>(match i.desc with| .interface _=>False|_=>K (.iface t x))
 | .makeFunc fn jD gA=>oN ν jD.toList λjD=>oN ν gA.toList λgA=>K (.func fn jD.toArray gA.toArray)
 | .slice t x eT o none=>ez ν x λx=>Ar ν eT λeT=>Ar ν o λo=>V3 c t x eT o K
 | .slice t x eT (some o) (some s4)=>ez ν x λx=>Ar ν eT λeT=>ez ν o λo=>ez ν s4 λs4=>V2 c t x eT o s4 K
 | .fieldAddr s x f=>ez ν x λx=>Se c s x f K
 | .field t x f=>ez ν x λx=>Sf c t x f K
 | .indexAddr t x k2=>ez ν x λx=>ez ν k2 λk2=>Oa c t x k2 K
 | .index t x k2=>ez ν x λx=>ez ν k2 λk2=>Oc c t x k2 K
 | .extract t k2=>ez ν t λt=>b0 t λvs=>ξ vs[k2]? λv=>ξ (eF c.tb ε.type) λi=>ye i.desc v K
 | .build t parts=>KK ν parts.toList λps=>ξ (eF c.tb t) λi=>(match i.desc with
  | .struct jo=>ξ (jo.toList.mapM λf=>(eF c.tb f.type).map λj=>(f.offset,j.size)) λpl=>ξ (Instr.fill (λi=>pl.toArray[i]?) i.zero.toArray ps) λcs=>K (.agg cs)
  | .array _ e=>ξ (eF c.tb e) λj=>ξ (Instr.fill (λi=>some (i*j.size,j.size)) i.zero.toArray ps) λcs=>K (.agg cs)
  |_=>False)
 | .sliceToArrayPointer t x=>ez ν x λx=>ξ (eF c.tb t) λi=>(match i.desc with
  | .array n _=>cN x λa len _=>ο (decide (n<=len)) (K (.pointer a))
  |_=>False)
 | .typeAssert x _ t ok=>ez ν x λx=>ξ (eF c.tb t) λi=>(match i.desc with
  | .interface _=>False
  |_=>(match x with
   | .iface u v=>ο (decide (u=t)) (ye i.desc v λv=>K (if ok then .tuple #[v,.bool true]else v))
   |_=>False))
 | .call cl=>(match cl.callee with
  | .builtin b=>oN ν cl.args.toList λxs=>Jg c b cl.argTypes xs K
  |_=>False)
 |_=>False
def Yields(c:cW)(ε:Oper)(a:Act)(H:Array Obj)(v:Value):Prop:=gd c.P (execOp a.eval ε) H (Next.value v)
theorem nW{P:Program}{H:Array Obj}{m:Sem Value}{v:Value}(hm:gd P m H v):gd P (do pure (Next.value (<-m))) H (Next.value v):=by intro w hw;rw[Sem.run_bind,hm w hw];rfl
theorem ab4{c:cW}(π:hh c){H:Array Obj}:∀{jo:List Field}{pl:List (Nat×Nat)},(jo.mapM λf=>(eF c.tb f.type).map λj=>(f.offset,j.size))=some pl->
  gd c.P (jo.mapM λf=>do pure (f.offset,<-sizeOf f.type)) H pl
 |[],pl,h=>by
  simp only[List.mapM_nil]at h;obtain rfl:([]:List (Nat×Nat))=pl:=by simpa using h
  exact gd.pure _
 |f::jo,pl,h=>by
  simp only[List.mapM_cons]at h;cases φ:eF c.tb f.type with
  |none=>simp[φ]at h
  |some j=>
   have ω:=(π.fj φ).rG (H:=H);cases υ:(jo.mapM λf=>(eF c.tb f.type).map λj=>(f.offset,j.size))with
   |none=>simp[φ,υ]at h
   |some r=>
    have NY:=ab4 π (H:=H) υ;simp[φ,υ]at h;subst h;intro w hw;have h1:=ω w hw;have ι:=NY w hw;simp only[bind_pure_comp]at ι;simp only[List.mapM_cons,bind_pure_comp];simp[h1,ι]
theorem alS{c:cW}(π:hh c){H:Array Obj}{jo:Array Field}{pl:List (Nat×Nat)}(h:(jo.toList.mapM λf=>(eF c.tb f.type).map λj=>(f.offset,j.size))=some pl):
  gd c.P (jo.mapM λf=>do pure (f.offset,<-sizeOf f.type)) H pl.toArray:=by
 intro w hw;rw[Array.mapM_eq_mapM_toList,Sem.run_map];rw[ab4 π h w hw];rfl
theorem cK.Sz{P:Program}{H:Array Obj}{t:TypeId}{i:cF}(h:cK P t i):∃z,gd P (zeroValue t) H z/\z.cells=i.zero.toArray:=by
 obtain⟨_,_,aG⟩:=h;cases aC:P.info? t with
 |none=>simp[aC]at aG
 |some x=>
  cases aL:x.zero with
  |none=>simp[aC,aL]at aG
  |some z=>
   simp[aC,aL]at aG;refine⟨z,λw _=>by simp[zeroValue,typeInfo,aC,aL],?_⟩;rw[<-aG,K4]
theorem Jt{c:cW}(π:hh c){n:Nat}{ε:Oper}{a:Act}{ν:cX}(υ:Rel n a ν){w:World}{K:Value->Prop}(h:uk c ε ν w K):
  ∃v,Yields c ε a w.heap v/\K v:=by
 unfold uk at h;unfold Yields execOp;split at h<;>first|exact h.elim|(rename_i aB;rw[aB])
 ·exact⟨_,gd.pure _,gC υ h⟩
 ·exact⟨_,gd.pure _,gC υ h⟩
 ·obtain⟨t,aP,h⟩:=Bo (gC υ h);dsimp only;rw[aP];cases t with
  |true=>exact⟨_,gd.pure _,gC υ h⟩
  |false=>exact⟨_,gd.pure _,gC υ h⟩
 ·obtain⟨v,aJ,h⟩:=abQ π (gC υ h);exact⟨v,nW aJ,h⟩
 ·have h:=gC υ h;unfold UK at h;dsimp only;split at h
  ·rename_i p e;obtain⟨b,rfl,ι⟩:=di h;rw[e];exact⟨_,gd.pure _,ι⟩
  ·rename_i f jD gA e;rw[e];exact⟨_,gd.pure _,h⟩
  ·exact h.elim
 ·rename_i op t x y ax6;have h:=gC υ (gC υ h);cases he:Vm (a.eval x) (a.eval y)with
  |false=>
   rw[he]at h;obtain⟨b,ψ,h⟩:=h;exact⟨.bool b,nW λw' _=>ψ w',h⟩
  |true=>
  rw[he]at h;obtain⟨i,o,h⟩:=di h;obtain⟨v,aJ,h⟩:=ajF (H:=w.heap) (π.fj o) h;refine⟨v,nW λw' fK=>?_,h⟩;have bJ:(eqGuard op t x y (a.eval x) (a.eval y)).run c.P w'=.ok () w':=by
   unfold eqGuard;cases abz:a.eval x<;>rw[abz]at he<;>first
    |(simp[Vm]at he;done)
    |(cases op<;>simp<;>rfl)
    |(cases op<;>rfl)
  rw[Sem.run_bind,bJ,Result.andThen_ok,aJ w' fK]
 ·obtain⟨v,aJ,h⟩:=avE (P:=c.P) (H:=w.heap) (gC υ h);exact⟨v,nW aJ,h⟩
 ·obtain⟨v,aJ,h⟩:=akf π (gC υ h);exact⟨v,nW aJ,h⟩
 ·rename_i t x;obtain⟨i,o,h⟩:=di (gC υ h);have o:=π.fj o;split at h
  ·exact h.elim
  ·rename_i ca;refine⟨_,nW λw' fK=>?_,h⟩;have hu:=o.j8 w' fK;unfold Instr.makeInterface;rw[Sem.run_bind,hu,Result.andThen_ok];cases af:i.desc<;>first|rfl|exact(ca _ af).elim
 ·rename_i fn jD gA;have h:=xr υ h;have h:=xr υ h;refine⟨_,nW (gd.pure _),?_⟩;have aO:(jD.toList.map a.eval).toArray=jD.map a.eval:=by rw[<-Ff,K4]
  have bE:(gA.toList.map a.eval).toArray=gA.map a.eval:=by rw[<-Ff,K4]
  rw[aO,bE]at h;exact h
 ·rename_i t x eT o;have h:=gC υ h;have h:=U3 υ h;have h:=U3 υ h;obtain⟨v,aJ,h⟩:=asO π (H:=w.heap) h;exact⟨v,nW aJ,h⟩
 ·rename_i t x eT o s4;have h:=gC υ h;have h:=U3 υ h;have h:=gC υ h;have h:=gC υ h;obtain⟨v,aJ,h⟩:=asM π (H:=w.heap) h;exact⟨v,nW aJ,h⟩
 ·obtain⟨v,aJ,h⟩:=alv π (H:=w.heap) (gC υ h);exact⟨v,nW aJ,h⟩
 ·obtain⟨v,aJ,h⟩:=aly π (H:=w.heap) (gC υ h);exact⟨v,nW aJ,h⟩
 ·obtain⟨v,aJ,h⟩:=ao0 π (H:=w.heap) (gC υ (gC υ h));exact⟨v,nW aJ,h⟩
 ·obtain⟨v,aJ,h⟩:=ao2 π (H:=w.heap) (gC υ (gC υ h));exact⟨v,nW aJ,h⟩
 ·rename_i t k2;obtain⟨vs,lQ,h⟩:=Y2 (gC υ h);obtain⟨v,aJ,h⟩:=di h;obtain⟨i,o,h⟩:=di h;refine⟨v,nW λw' _=>?_,Ds h⟩;rw[lQ];simp[Instr.extract,aJ]
 ·rename_i t parts;have h:=U2 υ h;obtain⟨i,o,h⟩:=di h;have o:=π.fj o;obtain⟨z,aL,qO⟩:=o.Sz (H:=w.heap);have yx:(parts.map λ(i,x)=>(i,a.eval x)).toList=parts.toList.map λ(i,x)=>(i,a.eval x):=by simp
  split at h
  ·rename_i jo af;obtain⟨pl,uy,h⟩:=di h;obtain⟨cs,jq,h⟩:=di h;refine⟨_,nW λw' fK=>?_,h⟩;have hu:=o.j8 w' fK;rw[af]at hu;have hm:=alS π (H:=w.heap) uy w' fK;simp only[bind_pure_comp]at hm;unfold Instr.build;rw[Sem.run_bind,aL w' fK,Result.andThen_ok,Sem.run_bind,hu,Result.andThen_ok];simp only[bind_pure_comp];rw[Sem.run_bind,hm,Result.andThen_ok];rw[qO,yx,jq];rfl
  ·rename_i e af;obtain⟨j,φ,h⟩:=di h;obtain⟨cs,jq,h⟩:=di h;refine⟨_,nW λw' fK=>?_,h⟩;have hu:=o.j8 w' fK;rw[af]at hu;have φ:=(π.fj φ).rG w' fK;unfold Instr.build;rw[Sem.run_bind,aL w' fK,Result.andThen_ok,Sem.run_bind,hu,Result.andThen_ok];dsimp only;rw[Sem.run_bind,φ,Result.andThen_ok];rw[qO,yx,jq];rfl
  ·exact h.elim
 ·rename_i t x;obtain⟨i,o,h⟩:=di (gC υ h);have o:=π.fj o;split at h
  ·rename_i m e af;obtain⟨p,len,dj,I,h⟩:=nd h;obtain⟨aD,h⟩:=hT h;have aD:¬len<m:=by have:=b7 aD;omega
   refine⟨_,nW λw' fK=>?_,h⟩;have hu:=o.j8 w' fK;rw[af]at hu;rw[I];unfold Instr.arrayAt;rw[Sem.run_bind,hu,Result.andThen_ok];simp[aD]
  ·exact h.elim
 ·rename_i x ax5 t ok;obtain⟨i,o,h⟩:=di (gC υ h);have o:=π.fj o;split at h
  ·exact h.elim
  ·rename_i ca;split at h
   ·rename_i u v I;obtain⟨aD,h⟩:=hT h;have aD:=b7 aD;have ι:=Ds h;clear h;subst aD;refine⟨_,nW λw' fK=>?_,ι⟩;have hu:=o.j8 w' fK;rw[I];unfold Instr.typeAssert;simp only[];rw[Sem.run_bind,hu,Result.andThen_ok];cases af:i.desc<;>first|exact(ca _ af).elim|simp
   ·exact h.elim
 ·rename_i cl;split at h
  ·rename_i b ψ;have h:=xr υ h;obtain⟨v,aJ,h⟩:=ajK π (H:=w.heap) (ty:=ε.type) (cs:=cl.args.map λ| .const _=>true|_=>false) h;refine⟨v,λw' fK=>?_,h⟩;have aJ:=aJ w' fK;dsimp only;unfold resolve;rw[ψ];simp only[pure_bind,invoke];have aO:(cl.args.toList.map a.eval).toArray=cl.args.map a.eval:=by rw[<-Ff,K4]
   rw[aO]at aJ;exact aJ
  ·exact h.elim
def hr(w:World)(a:Addr)(vs:aU):Prop:=
 a.spot=none/\(∀j,j<vs.length->(w.cell? ⟨a.block,a.off+j,none⟩).isSome=true/\w.frozen? ⟨a.block,a.off+j,none⟩=false)/\∀v∈vs,v.oneCell'=true
abbrev bG(w:World)(a:Addr)(cs:List Value)(K:World->Prop):Prop:=hr w a cs/\∀w',w'=w.setCells a.block a.off cs->K w'
abbrev ed(w:World)(a:Addr)(v:Value)(K:World->Prop):Prop:=(w.cell? a).isSome=true/\w.frozen? a=false/\∀w',w'=w.setCell a v->K w'
theorem Lm{P:Program}{w:World}{a:Addr}{vs:aU}(h:hr w a vs):(storeCells a vs).run P w=.ok () (w.setCells a.block a.off vs):=by obtain⟨b,ε,s⟩:=a;obtain⟨rfl,h,h1⟩:=h;exact run_storeCells_cells b ε vs 0 w (λj φ=>by simpa using(h j φ).1) (λj φ=>by simpa using(h j φ).2) h1
theorem x1(a:Addr)(n:Nat):(a.add n).block=a.block:=by unfold Addr.add;split<;>rfl
theorem I9(a:Addr)(n:Nat):(a.add n).off=a.off+n:=by
 unfold Addr.add;split
 ·rename_i h;simp[h]
 ·rfl
def Mu(w:World)(a:J)(off:Nat)(vs:aU):Prop:=match a with|none=>True|some a=>hr w (a.add off) vs
def kQ(w:World)(a:J)(off:Nat)(vs:aU):World:=match a with|none=>w|some a=>w.setCells a.block (a.off+off) vs
def aet(c:cW)(t:TypeId)(a:Addr)(v:Value)(w:World)(N:ao):Prop:=
 ξ (eF c.tb t) λi=>cond (zH i.desc)
  (dq v λcs=>ο (decide (cs.size=i.size)) (hr w a cs.toList/\∀w',w'=w.setCells a.block a.off cs.toList->N w'))
  (ο (decide (i.size=1)) (ο v.oneCell' ((w.cell? a).isSome=true/\w.frozen? a=false/\∀w',w'=w.setCell a v->N w')))
theorem as3{c:cW}(π:hh c){t:TypeId}{a:Addr}{v:Value}{w:World}{N:ao}(h:aet c t a v w N):
  ∃w',(Instr.storeAt t (.pointer (some a)) v).run c.P w=.ok () w'/\N w':=by
 obtain⟨i,o,h⟩:=di h;have o:=π.fj o;have ft:=o.rG (H:=w.heap) w rfl;cases af:zH i.desc with
 |true=>
  rw[af]at h;obtain⟨cs,rfl,ι⟩:=yc h;obtain⟨ω,hw,aG⟩:=hT ι;have ω:=b7 ω;refine⟨_,?_,aG _ rfl⟩;unfold Instr.storeAt;simp only[Instr.sureAddr,pure_bind];unfold storeVar;simp[ft,Value.cells,ω,Lm hw]
 |false=>
  rw[af]at h;obtain⟨ω,ι⟩:=hT h;obtain⟨h1,jT,bg,aG⟩:=hT ι;have ω:=b7 ω;obtain⟨u,hu⟩:=H0.1 jT;refine⟨_,?_,aG _ rfl⟩;have Ki:v.cells=#[v]:=by cases v<;>first|rfl|(simp[Value.oneCell']at h1)
  have bV:(store a v).run c.P w=.ok () (w.setCell a v):=by rw[run_store c.P w a v _ h1];simp[hu,bg]
  unfold Instr.storeAt;simp only[Instr.sureAddr,pure_bind];unfold storeVar;simp[ft,Ki,ω,storeCells,Addr.add_zero',bV]
def aN(w:World)(cells:ag)(e:TypeId)(K:Nat->ao):Prop:=∀b w',b=w.heap.size->w'=w.alloc (.cells cells e)->K b w'
def aca(c:cW)(t:TypeId)(l m:Value)(w:World)(N:Value->ao):Prop:=
 ξ (eF c.tb t) λi=>match i.desc with
  | .slice e=>ξ (eF c.tb e) λei=>(match l,m with
   | .int _ l,.int _ m=>ο (decide (0<=l)) (ο (decide (l<=m)) (ο (decide ((ei.bytes:Int)*m<=281474976710656/\m<=9223372036854775807))
    (aN w (madeCells ei.zero.toArray (m.toNat*ei.size)) e λb w'=>N (.slice (some ⟨b,0,none⟩) l.toNat m.toNat) w')))
   |_,_=>False)
  |_=>False
theorem cK.info{P:Program}{t:TypeId}{i:cF}(h:cK P t i):∃x z,P.info? t=some x/\x.zero=some z/\z.cells=i.zero.toArray/\x.size=i.size/\x.bytes=i.bytes:=by
 obtain⟨_,ι,aG⟩:=h;cases aC:P.info? t with
 |none=>simp[aC]at aG
 |some x=>
  cases aL:x.zero with
  |none=>simp[aC,aL]at aG
  |some z=>
   simp[aC,aL]at aG;simp[aC]at ι;exact⟨x,z,rfl,aL,by rw[<-aG,K4],ι.1,ι.2⟩
theorem apU{c:cW}(π:hh c){t:TypeId}{l m:Value}{w:World}{N:Value->ao}(h:aca c t l m w N):
  ∃v w',(Instr.makeSlice t l m).run c.P w=.ok v w'/\N v w':=by
 obtain⟨i,o,h⟩:=di h;have o:=π.fj o;split at h
 ·rename_i e af;obtain⟨ei,fX,h⟩:=di h;have fX:=π.fj fX;split at h
  ·rename_i apf l Un m anO axi;obtain⟨aD,h⟩:=hT h;obtain⟨h1,h⟩:=hT h;obtain⟨ι,h⟩:=hT h;have aD:=b7 aD;have h1:=b7 h1;have ι:=b7 ι;obtain⟨x,z,I,aL,qO,ω,ψ⟩:=fX.info
   have:=run_make w t e x z (P:=c.P) (by rw[o.1,af]) I aL apf Un l m aD h1 (by rw[ψ];exact ι.1) ι.2
   rw[qO,ω]at this;exact⟨_,_,this,h _ _ rfl rfl⟩
  ·exact h.elim
 ·exact h.elim
def gK(w:World)(base:J)(n cap:Nat)(m:Nat)(Src:aU->Prop)(e:TypeId)(size bytes:Nat)(zero:ag)(N:J->Nat->ao):Prop:=
 ∃xs:aU,xs.length=m*size/\Src xs/\
  (n+m<=cap->Mu w base (n*size) xs/\∀w',w'=kQ w base (n*size) xs->N base cap w')/\
  (cap<n+m->(n+m)*bytes<=140737488355328/\n+m<=9223372036854775807/\∃EM:aU,EM.length=n*size/\a7 w base EM/\
   ∀b Bn w',b=w.heap.size->n+m<=Bn->w'=w.drew.alloc (.cells (EM.toArray++xs.toArray++Builtin.zeroCells zero (Bn-(n+m))) e)->N (some ⟨b,0,none⟩) Bn w')
theorem Pq{P:Program}{w w':World}(hw:w'.heap=w.heap){a:J}{xs:aU}(h:a7 w a xs){size n len cap:Nat}(aj:xs.length=n*size):
  (Builtin.firstCells size n (.slice a len cap)).run P w'=.ok xs.toArray w':=by
 cases a with
 |none=>
  have:xs=[]:=h
  subst this;simp[Builtin.firstCells]
 |some a=>
  have:=Sy (P:=P) (w:=w) (a:=a) (vs:=xs) h w' hw
  rw[aj]at this;exact this
theorem X7{c:cW}(π:hh c){w:World}{base:J}{n cap m:Nat}{Src:aU->Prop}{e:TypeId}{ei:cF}(fX:cK c.P e ei){N:J->Nat->ao}
  (h:gK w base n cap m Src e ei.size ei.bytes ei.zero.toArray N){gh:Array TypeId}{t ty:TypeId}{x:Value}(aP:gh[0]?=some t)(Kf:c.P.underlying t=some (.slice e))
  (I:∀xs,Src xs->xs.length=m*ei.size->
   ((∃t1 d1,gh[1]?=some t1/\c.P.underlying t1=some d1/\(d1=.string\/∃cO,d1=.slice cO))/\(∀w':World,(Builtin.lenOf x).run c.P w'=.ok m w')/\∀w':World,w'.heap=w.heap->(Builtin.firstCells ei.size m x).run c.P w'=.ok xs.toArray w')):
  ∃a aT w',(Builtin.append_ gh ty #[.slice base n cap,x]).run c.P w=.ok (.slice a (n+m) aT) w'/\N a aT w':=by
 obtain⟨xs,aj,N1,c4,J7⟩:=h;obtain⟨⟨t1,d1,rP,Kg,lK⟩,hlen,aaH⟩:=I xs N1 aj;obtain⟨inf,z,zR,aL,qO,ω,ψ⟩:=fX.info;have uB:∀w':World,(underlying t).run c.P w'=.ok (.slice e) w':=λw'=>run_underlying Kf w';have ft:∀w':World,(sizeOf e).run c.P w'=.ok ei.size w':=λw'=>by simp[sizeOf,typeInfo,zR,ω]
 have yB:∀w':World,(underlying t1).run c.P w'=.ok d1 w':=λw'=>run_underlying Kg w';by_cases mi:n+m<=cap
 ·obtain⟨yD,eG⟩:=c4 mi;refine⟨_,_,_,?_,eG _ rfl⟩;have bg:=aaH w rfl;cases base with
  |none=>
   rcases lK with rfl|⟨cO,rfl⟩<;>simp[Builtin.append_,aP,uB,ft,rP,yB,hlen,mi,bg,kQ]
  |some a=>
   have bV:=Lm (P:=c.P) yD;rw[x1,I9]at bV;rcases lK with rfl|⟨cO,rfl⟩<;>simp[Builtin.append_,aP,uB,ft,rP,yB,hlen,mi,bg,kQ,bV]
 ·have bJ:cap<n+m:=by omega
  obtain⟨JM,zO,EM,pb,kL,eG⟩:=J7 bJ;have jS:n+m<=grownCap w (n+m) cap e:=grownCap_ge w _ _ e;refine⟨_,_,_,?_,eG _ (grownCap w (n+m) cap e) _ rfl jS rfl⟩;have Nw:¬(9223372036854775807<((n:Int)+(m:Int))):=by omega
  have anm:=growslice_fits (need:=n+m) (old:=cap) (bytes:=inf.bytes) bJ (by rw[ψ];exact JM);have Nv:¬(281474976710656<Builtin.nextslicecap (n+m) cap*inf.bytes):=by omega
  have bg:=aaH w.drew rfl;have yt:=Pq (P:=c.P) (w:=w) (w':=w.drew) rfl kL (size:=ei.size) (n:=n) (len:=n) (cap:=cap) pb;have pe:∀w':World,(typeInfo e).run c.P w'=.ok inf w':=λw'=>by simp[typeInfo,zR]
  have BO:∀w':World,(zeroValue e).run c.P w'=.ok z w':=λw'=>by simp[zeroValue,typeInfo,zR,aL]
  rcases lK with rfl|⟨cO,rfl⟩<;>simp[Builtin.append_,aP,uB,ft,rP,yB,hlen,mi,pe,BO,Nw,Nv,Question.forced,bg,yt,newRow,grownCap,qO]
  all_goals
   congr 2;apply qc;simp[lT]
def MD(w:World)(base:J)(n cap m:Nat)(e:TypeId)(size bytes:Nat)(zero:ag)(N:J->Nat->ao):Prop:=
 (m:Int)*(bytes:Int)<=281474976710656/\(m:Int)<=9223372036854775807/\gK w base n cap m (λxs=>xs.toArray=Builtin.zeroCells zero m) e size bytes zero N
theorem ajw{c:cW}(π:hh c){w:World}{base:J}{n cap m:Nat}{e:TypeId}{ei:cF}(fX:cK c.P e ei){N:J->Nat->ao}
  (h:MD w base n cap m e ei.size ei.bytes ei.zero.toArray N){gh:Array TypeId}{t t1 ty:TypeId}{a1:IntKind}(aP:gh[0]?=some t)(Kf:c.P.underlying t=some (.slice e))(rP:gh[1]?=some t1)(Kg:c.P.underlying t1=some (.int a1)):
  ∃a aT w',(∀k:IntKind,(Builtin.append_ gh ty #[.slice base n cap,.int k (m:Int)]).run c.P w=.ok (.slice a (n+m) aT) w')/\N a aT w':=by
 obtain⟨anM,axh,xs,aj,N1,c4,J7⟩:=h;obtain⟨inf,z,zR,aL,qO,ω,ψ⟩:=fX.info;have uB:∀w':World,(underlying t).run c.P w'=.ok (.slice e) w':=λw'=>run_underlying Kf w';have yB:∀w':World,(underlying t1).run c.P w'=.ok (.int a1) w':=λw'=>run_underlying Kg w';have ft:∀w':World,(sizeOf e).run c.P w'=.ok ei.size w':=λw'=>by simp[sizeOf,typeInfo,zR,ω]
 have pe:∀w':World,(typeInfo e).run c.P w'=.ok inf w':=λw'=>by simp[typeInfo,zR]
 have BO:∀w':World,(zeroValue e).run c.P w'=.ok z w':=λw'=>by simp[zeroValue,typeInfo,zR,aL]
 have yD:IntKind.i64.wrap (m:Int)=m:=by rw[IntKind.wrap_i64];omega
 have D5:¬((m:Int)<0):=by omega
 have Hg:¬(281474976710656<(m:Int)*(inf.bytes:Int)):=by rw[ψ];omega
 have abA:m*ei.size=0->xs=[]:=λaD=>sb (by rw[aj,aD]);by_cases mi:n+m<=cap
 ·obtain⟨aoS,eG⟩:=c4 mi;refine⟨_,_,_,λk=>?_,eG _ rfl⟩;cases base with
  |none=>
   by_cases aD:m*ei.size=0
   ·simp[Builtin.append_,aP,uB,ft,rP,yB,asInt,asIntOf,yD,D5,pe,Hg,mi,kQ,aD]
   ·simp[Builtin.append_,aP,uB,ft,rP,yB,asInt,asIntOf,yD,D5,pe,Hg,mi,kQ,aD,BO]
  |some a=>
   have bV:=Lm (P:=c.P) aoS;rw[x1,I9]at bV;by_cases aD:m*ei.size=0
   ·have:=abA aD
    subst this;simp[Builtin.append_,aP,uB,ft,rP,yB,asInt,asIntOf,yD,D5,pe,Hg,mi,kQ,aD,bV]
   ·have ι:(storeCells (a.add (n*ei.size)) (Builtin.zeroCells ei.zero.toArray m).toList).run c.P w=.ok () (w.setCells a.block (a.off+n*ei.size) xs):=by rw[<-N1];exact bV
    simp[Builtin.append_,aP,uB,ft,rP,yB,asInt,asIntOf,yD,D5,pe,Hg,mi,kQ,aD,BO,qO,ι]
 ·have bJ:cap<n+m:=by omega
  obtain⟨JM,zO,EM,pb,kL,eG⟩:=J7 bJ;have jS:n+m<=grownCap w (n+m) cap e:=grownCap_ge w _ _ e;refine⟨_,_,_,λk=>?_,eG _ (grownCap w (n+m) cap e) _ rfl jS rfl⟩;have Nw:¬(9223372036854775807<((n:Int)+(m:Int))):=by omega
  have anm:=growslice_fits (need:=n+m) (old:=cap) (bytes:=inf.bytes) bJ (by rw[ψ];exact JM);have Nv:¬(281474976710656<Builtin.nextslicecap (n+m) cap*inf.bytes):=by omega
  have yt:=Pq (P:=c.P) (w:=w) (w':=w.drew) rfl kL (size:=ei.size) (n:=n) (len:=n) (cap:=cap) pb;by_cases aD:m*ei.size=0
  ·have:=abA aD
   subst this;simp[Builtin.append_,aP,uB,ft,rP,yB,asInt,asIntOf,yD,D5,pe,Hg,mi,BO,Nw,Nv,Question.forced,yt,newRow,grownCap,qO,aD]
  ·simp[Builtin.append_,aP,uB,ft,rP,yB,asInt,asIntOf,yD,D5,pe,Hg,mi,BO,Nw,Nv,Question.forced,yt,newRow,grownCap,qO,aD,N1]
def vq(w:World)(d:J)(cU:Nat)(s:J)(nu:Nat)(size:Nat)(N:ao):Prop:=
 ∃xs:aU,xs.length=Nat.min nu cU*size/\a7 w s xs/\Mu w d 0 xs/\∀w',w'=kQ w d 0 xs->N w'
theorem aki{c:cW}(π:hh c){w:World}{d s:J}{cU dc nu sc:Nat}{e:TypeId}{ei:cF}(fX:cK c.P e ei){N:ao}
  (h:vq w d cU s nu ei.size N){gh:Array TypeId}{t ty:TypeId}(aP:gh[0]?=some t)(Kf:c.P.underlying t=some (.slice e)):
  ∃w',(Builtin.copy_ gh ty #[.slice d cU dc,.slice s nu sc]).run c.P w=.ok (.int .i64 ((Nat.min nu cU:Nat):Int)) w'/\N w':=by
 obtain⟨xs,aj,jq,yD,eG⟩:=h;have uB:∀w':World,(underlying t).run c.P w'=.ok (.slice e) w':=λw'=>run_underlying Kf w';have ft:∀w':World,(sizeOf e).run c.P w'=.ok ei.size w':=λw'=>fX.rG (H:=w'.heap) w' rfl;have bg:=Pq (P:=c.P) (w:=w) (w':=w) rfl jq (size:=ei.size) (n:=Nat.min nu cU) (len:=nu) (cap:=sc) aj;refine⟨_,?_,eG _ rfl⟩;cases d with
 |none=>simp[Builtin.copy_,aP,uB,ft,Builtin.lenOf,bg,kQ,goInt]
 |some a=>
  have bV:=Lm (P:=c.P) yD;rw[x1,I9]at bV;have hl:a.add 0=a:=Addr.add_zero' a;rw[hl]at bV;simp[Builtin.copy_,aP,uB,ft,Builtin.lenOf,bg,kQ,goInt,bV]
def YD(c:cW)(t:TypeId)(len:Nat)(ps:List (Nat×Value))(w:World)(N:Value->ao):Prop:=
 ξ (eF c.tb t) λi=>match i.desc with
  | .slice e=>ξ (eF c.tb e) λei=>ο (decide (len*ei.size<=16777216)) (ξ (Instr.fill (λi=>some (i*ei.size,ei.size)) (madeCells ei.zero.toArray (len*ei.size)) ps) λcs=>
   aN w cs e λb w'=>N (.slice (some ⟨b,0,none⟩) len len) w')
  |_=>False
theorem ajL{c:cW}(π:hh c){t:TypeId}{len:Nat}{ps:Array (Nat×Value)}{w:World}{N:Value->ao}(h:YD c t len ps.toList w N):
  ∃v w',(Instr.buildSlice t len ps).run c.P w=.ok v w'/\N v w':=by
 obtain⟨i,o,h⟩:=di h;have o:=π.fj o;split at h
 ·rename_i e af;obtain⟨ei,fX,h⟩:=di h;have fX:=π.fj fX;obtain⟨aD,h⟩:=hT h;have aD:¬16777216<len*ei.size:=by have:=b7 aD;omega
  obtain⟨cs,jq,h⟩:=di h;refine⟨_,_,?_,h _ _ rfl rfl⟩;obtain⟨z,aL,qO⟩:=fX.Sz (H:=w.heap);have aL:=aL w rfl;have hu:=o.j8 (H:=w.heap) w rfl;rw[af]at hu;have ft:=fX.rG (H:=w.heap) w rfl;unfold Instr.buildSlice;rw[Sem.run_bind,hu,Result.andThen_ok];dsimp only;rw[Sem.run_bind,ft,Result.andThen_ok];simp only[show(2:Nat)^24=16777216 from rfl,gt_iff_lt,aD,qW,pure_bind];by_cases ax:len*ei.size=0
  ·have aO:madeCells ei.zero.toArray (len*ei.size)=(Array.range (len*ei.size)).map λi=>(#[]:ag)[i%(#[]:ag).size]!:=by
    simp[madeCells,ax]
   rw[aO]at jq;simp only[ax,oR,pure_bind];rw[ax]at jq;rw[jq];simp[newRow]
  ·have aO:madeCells ei.zero.toArray (len*ei.size)=(Array.range (len*ei.size)).map λi=>z.cells[i%z.cells.size]!:=by
    simp[madeCells,qO]
   rw[aO]at jq;simp only[ax,qW];rw[Sem.run_bind,aL,Result.andThen_ok,jq];simp[newRow]
 ·exact h.elim
def Bl(s:ByteArray):aU:=s.data.toList.map λb=>Value.int .u8 (b.toNat:Int)
def adZ(w:World)(e:TypeId)(s:ByteArray)(N:Nat->Nat->ao):Prop:=
 ∀b cap w',b=w.heap.size->s.size<=cap->w'=w.drew.alloc (.cells (Bl s++List.replicate (cap-s.size) (Value.int .u8 0)).toArray e (cap,cap+1))->N b cap w'
theorem asu{c:cW}(π:hh c){s d:TypeId}{e:TypeId}{ei:cF}(af:c.P.underlying d=some (.slice e))(he:c.P.underlying e=some (.int .u8))(ω:c.P.underlying s=some .string)
  {x:ByteArray}{w:World}{N:Nat->Nat->ao}(h:adZ w e x N):∃b cap w',(convert s d (.string x)).run c.P w=.ok (.slice (some ⟨b,0,none⟩) x.size cap) w'/\N b cap w':=by
 have jS:x.size<=grownCap w x.size 0 e:=grownCap_ge w _ _ e;refine⟨_,_,_,?_,h _ (grownCap w x.size 0 e) _ rfl jS rfl⟩;have aO:(convert s d (.string x)).run c.P w=(Conv.stringToBytes e x).run c.P w:=by simp[convert,run_underlying ω,run_underlying af,run_underlying he]
 rw[aO];have bE:(Array.map (λb:UInt8=>Value.int .u8 (b.toNat:Int)) x.data++Array.replicate (grownCap w x.size 0 e-x.size) (Value.int .u8 0))=(Bl x++List.replicate (grownCap w x.size 0 e-x.size) (Value.int .u8 0)).toArray:=by apply qc;simp[Bl]
 have iZ:(Bl x++List.replicate (grownCap w x.size 0 e-x.size) (Value.int .u8 0)).toArray.size=grownCap w x.size 0 e:=by
  have:x.data.size=x.size:=rfl
  simp[Bl,this];omega
 unfold Conv.stringToBytes;simp only[Sem.run_bind,choose,Sem.run,Question.forced,vV,qW,Sem.run_pure',Result.andThen_ok];show((newRow e (Array.map (λb:UInt8=>Value.int .u8 (b.toNat:Int)) x.data++Array.replicate (grownCap w x.size 0 e-x.size) (Value.int .u8 0))).run c.P w.drew).andThen _=_;rw[bE];simp only[newRow,newObj,Sem.run_bind,Sem.run,Sem.run_pure,Result.andThen_ok];unfold markStringish;simp only[Sem.run_bind,shape,Sem.run,Sem.run_pure',Result.andThen_ok];have h3:World.shape? {w.drew with heap:=w.drew.heap.push (.cells (Bl x++List.replicate (grownCap w x.size 0 e-x.size) (Value.int .u8 0)).toArray e (0,0))} w.drew.heap.size=some (e,grownCap w x.size 0 e):=by simp only[World.shape?,Array.getElem?_push_size];rw[iZ]
 rw[h3];simp only[freeze,Sem.run,Sem.run_pure',Result.andThen_ok,Sem.run_pure];congr 1;unfold World.freeze;rw[aM (by decide)];simp only[World.alloc];congr 1;apply Array.ext_getElem?;intro i;rw[Array.getElem?_modify];have axy:w.drew.heap.size=w.heap.size:=rfl;rcases Nat.lt_trichotomy i w.drew.heap.size with o|o|o
 ·rw[aM (by show¬w.drew.heap.size=i;omega),Array.getElem?_push,aM (by omega),Array.getElem?_push,aM (by omega)]
 ·subst o;rw[aS rfl,Array.getElem?_push_size];show _=(w.heap.push _)[w.heap.size]?;rw[Array.getElem?_push_size];simp
 ·rw[aM (by show¬w.drew.heap.size=i;omega),Array.getElem?_push,aM (by omega),Array.getElem?_push,aM (by omega)]
def xi(w:World)(a:Addr)(N:ao):Prop:=
 ∃(cur:ag)(e:TypeId)(fr:Nat×Nat),w.heap[a.block]?=some (.cells cur e fr)/\∀w',w'=w.freeze ⟨a.block,cur.size,none⟩ 1->N w'
theorem apL{c:cW}{d:TypeId}{e:TypeId}(af:c.P.underlying d=some (.slice e))(he:c.P.underlying e=some (.int .u8)){a:Addr}{n m:Nat}{w:World}{N:ao}(h:xi w a N):
  ∃w',(convert d d (.slice (some a) n m)).run c.P w=.ok (.slice (some a) n m) w'/\N w':=by
 obtain⟨cur,cO,fr,ψ,h⟩:=h;refine⟨_,?_,h _ rfl⟩;have aom:w.shape? a.block=some (cO,cur.size):=by unfold World.shape?;rw[ψ]
 simp[convert,run_underlying af,run_underlying he,markStringish,aom]
def κ(P:Program)(g:Nat)(args:ag)(w:World)(N:Value->ao)(X:List PanicEntry->ao):Prop:=
 Calls P g args w λe w'=>match e with| .returned v=>N v w'| .panicked cQ=>X cQ w'| .outgrown=>False
def Sd(P:Program)(g:Nat)(args:ag)(w:World)(N:Value->ao):Prop:=∃v w',(callFunc g args).run P w=.ok (.value v) w'/\N v w'
def DA(c:cW)(ε:Oper)(ν:cX)(w:World)(N:Value->ao)(X:List PanicEntry->ao):Prop:=
 match ε.op with
 | .alloc e=>ξ (eF c.tb e) λi=>aN w i.zero.toArray e λb w'=>N (.pointer (some ⟨b,0,none⟩)) w'
 | .box e x=>ez ν x λv=>aN w v.cells e λb w'=>N (.pointer (some ⟨b,0,none⟩)) w'
 | .store t a x=>ez ν a λa=>ez ν x λv=>gX a λp=>ξ p λa=>aet c t a v w λw'=>N undef w'
 | .buildSlice t len parts=>KK ν parts.toList λps=>YD c t len ps w N
 | .makeSlice t l m=>ez ν l λl=>ez ν m λm=>aca c t l m w N
 | .convert s d x=>ξ (eF c.tb d) λj=>(match j.desc with
  | .slice e=>ξ (eF c.tb s) λi=>ξ (eF c.tb e) λei=>(match i.desc,ei.desc with
   | .string,.int .u8=>ez ν x λx=>nK x λx=>adZ w e x λb cap w'=>N (.slice (some ⟨b,0,none⟩) x.size cap) w'
   | .slice _,.int .u8=>ο (Nat.beq s d) (ez ν x λx=>cN x λa n m=>ξ a λa=>xi w a λw'=>N (.slice (some a) n m) w')
   |_,_=>False)
  |_=>uk c ε ν w λv=>N v w)
 | .call cl=>(match cl.callee with
  | .value f=>ez ν f λf=>oN ν cl.args.toList λxs=>(match f with
   | .func (.func g) jD gA=>cond (c.fns.contains g) (κ c.P g (jD.toList++xs++gA.toList).toArray w (λv w'=>ξ (eF c.tb ε.type) λi=>ye i.desc v λv=>N v w') X) (Sd c.P g (jD.toList++xs++gA.toList).toArray w λv w'=>ξ (eF c.tb ε.type) λi=>ye i.desc v λv=>N v w')
   |_=>False)
  | .builtin .append=>oN ν cl.args.toList λxs=>(match xs with
   |[x,y]=>ξ cl.argTypes[0]? λt=>ξ cl.argTypes[1]? λt1=>ξ (eF c.tb t) λi=>ξ (eF c.tb t1) λi1=>(match i.desc with
    | .slice e=>ξ (eF c.tb e) λei=>cN x λa n cap=>(match i1.desc with
     | .slice _=>cN y λb m _=>gK w a n cap m (a7 w b) e ei.size ei.bytes ei.zero.toArray λfy aT w'=>N (.slice fy (n+m) aT) w'
     | .string=>nK y λs=>ο (decide (ei.size=1)) (gK w a n cap s.size (λxs=>xs=Bl s) e ei.size ei.bytes ei.zero.toArray λfy aT w'=>N (.slice fy (n+s.size) aT) w')
     | .int _=>(match y with
      | .int _ m=>ο (decide (0<=m)) (MD w a n cap m.toNat e ei.size ei.bytes ei.zero.toArray λfy aT w'=>N (.slice fy (n+m.toNat) aT) w')
      |_=>False)
     |_=>False)
    |_=>False)
   |_=>False)
  | .builtin .copy=>oN ν cl.args.toList λxs=>(match xs with
   |[x,y]=>ξ cl.argTypes[0]? λt=>ξ (eF c.tb t) λi=>(match i.desc with
    | .slice e=>ξ (eF c.tb e) λei=>cN x λa n _=>cN y λb m _=>vq w a n b m ei.size λw'=>N (.int .i64 ((Nat.min m n:Nat):Int)) w'
    |_=>False)
   |_=>False)
  | .builtin .panic=>oN ν cl.args.toList λxs=>(match xs with
   |[.iface t v]=>X [{v:=.iface t v,recovered:=false}] w
   |_=>False)
  |_=>uk c ε ν w λv=>N v w)
 | .panic x=>ez ν x λx=>(match x with
  | .iface t v=>X [{v:=.iface t v,recovered:=false}] w
  |_=>False)
 |_=>uk c ε ν w λv=>N v w
theorem Yields.wp{c:cW}{ε:Oper}{a:Act}{w:World}{v:Value}{K:Act->ao}{Q:Exit->Act->ao}(h:Yields c ε a w.heap v)(iS:K (a.put ε.dst v) w):ε.wp c.P a w K Q:=by unfold Oper.wp;rw[h w rfl];exact iS
theorem sv{c:cW}{ε:Oper}{a:Act}{w w':World}{m:Sem Value}{v:Value}{K:Act->ao}{Q:Exit->Act->ao}
  (he:execOp a.eval ε=(do pure (Next.value (<-m))))(h:m.run c.P w=.ok v w')(iS:K (a.put ε.dst v) w'):ε.wp c.P a w K Q:=by
 unfold Oper.wp;rw[he,Sem.run_bind,h];exact iS
theorem adX{P:Program}{g:Nat}{fn:Func}{args:ag}{w:World}(h:P.funcs[g]?=some fn)(ax:(fn.name== "runtime.NumGoroutine")=false)(ψ:fn.body.isNone=false):
  (callFunc g args).run P w=.ok (.enter g args) w:=by
 unfold callFunc;simp only[Sem.run_bind,program,Sem.run,Sem.run_pure',Result.andThen_ok,h,ax,ψ];simp
set_option maxHeartbeats 2000000 in
theorem Js{c:cW}(π:hh c){n:Nat}{ε:Oper}{a:Act}{ν:cX}(υ:Rel n a ν){w:World}{N:Value->ao}{X:List PanicEntry->ao}
  {K:Act->ao}{Q:Exit->Act->ao}(eG:∀v w',N v w'->K (a.put ε.dst v) w')(e5:∀cQ w',X cQ w'->Q (.panic cQ) a w')
  (h:DA c ε ν w N X):ε.wp c.P a w K Q:=by
 have Hj:uk c ε ν w (λv=>N v w)->ε.wp c.P a w K Q:=λh=>by obtain⟨v,aJ,h⟩:=Jt π υ h;exact aJ.wp (eG _ _ h)
 unfold DA at h;split at h<;>first|exact Hj h|(rename_i aB)
 ·rename_i e;obtain⟨i,o,h⟩:=di h;obtain⟨z,aL,qO⟩:=(π.fj o).Sz (H:=w.heap);refine sv (m:=Instr.alloc e true (.tuple #[])) (v:=.pointer (some ⟨w.heap.size,0,none⟩)) (w':=w.alloc (.cells z.cells e)) (by simp[execOp,aB]) ?_ (eG _ _ ?_)
  ·have:=aL w rfl
   simp[Instr.alloc,this,newVar,newRow]
  ·rw[qO];exact h _ _ rfl rfl
 ·rename_i e x;have h:=gC υ h;refine sv (m:=Instr.box e (a.eval x)) (v:=.pointer (some ⟨w.heap.size,0,none⟩)) (w':=w.alloc (.cells (a.eval x).cells e)) (by simp[execOp,aB]) ?_ (eG _ _ (h _ _ rfl rfl));simp[Instr.box,newVar,newRow]
 ·rename_i t p x;obtain⟨q,aC,h⟩:=ug (gC υ (gC υ h));obtain⟨b,rfl,ι⟩:=di h;obtain⟨w',h6,aG⟩:=as3 π ι;unfold Oper.wp execOp;simp only[aB,aC,Sem.run_bind,h6,Result.andThen_ok];exact eG _ _ aG
 ·rename_i t len parts;have h:=U2 υ h;have yx:(parts.map λ(i,x)=>(i,a.eval x)).toList=parts.toList.map λ(i,x)=>(i,a.eval x):=by simp
  rw[<-yx]at h;obtain⟨v,w',h6,ι⟩:=ajL π h;exact sv (m:=Instr.buildSlice t len (parts.map λ(i,x)=>(i,a.eval x))) (by simp[execOp,aB]) h6 (eG _ _ ι)
 ·rename_i t l m;obtain⟨v,w',h6,ι⟩:=apU π (gC υ (gC υ h));exact sv (m:=Instr.makeSlice t (a.eval l) (a.eval m)) (by simp[execOp,aB]) h6 (eG _ _ ι)
 ·rename_i s d x;obtain⟨j,φ,h⟩:=di h;split at h
  ·rename_i e af;obtain⟨i,o,h⟩:=di h;obtain⟨ei,fX,h⟩:=di h;split at h
   ·rename_i abk JS;obtain⟨st,bV,h⟩:=wJ (gC υ h);have my:c.P.underlying d=some (.slice e):=by rw[(π.fj φ).1,af]
    have qn:c.P.underlying e=some (.int .u8):=by rw[(π.fj fX).1,JS]
    have avx:c.P.underlying s=some .string:=by rw[(π.fj o).1,abk]
    obtain⟨b,dj,w',h6,ι⟩:=asu (ei:=ei) π my qn avx h;refine sv (m:=convert s d (a.eval x)) (by simp[execOp,aB]) ?_ (eG _ _ ι);rw[bV];exact h6
   ·rename_i bE abk JS;obtain⟨ω,aG⟩:=hT h;have cq:=gC υ aG;clear aG h;obtain rfl:=xy ω;obtain⟨p,k,m,I,h⟩:=nd cq;obtain⟨p,rfl,h⟩:=di h;have my:c.P.underlying s=some (.slice e):=by rw[(π.fj φ).1,af]
    have qn:c.P.underlying e=some (.int .u8):=by rw[(π.fj fX).1,JS]
    obtain⟨w',h6,ι⟩:=apL (n:=k) (m:=m) my qn h;refine sv (m:=convert s s (a.eval x)) (by simp[execOp,aB]) ?_ (eG _ _ ι);rw[I];exact h6
   ·exact h.elim
  ·exact Hj h
 ·rename_i cl;split at h
  ·rename_i f ym;have h:=xr υ (gC υ h);split at h
   ·rename_i g jD gA bg;have RY:(jD.toList++cl.args.toList.map a.eval++gA.toList).toArray=jD++cl.args.map a.eval++gA:=by
     apply qc;simp
    rw[RY]at h;cases bJ:c.fns.contains g with
    |false=>
     rw[bJ]at h;obtain⟨v,w',h6,h⟩:=h;obtain⟨i,o,he⟩:=di h;unfold Oper.wp execOp;simp only[aB];unfold resolve;simp only[ym,bg,Deferred.ofValue,pure_bind,invoke,Sem.run_bind,Sem.run_pure,Result.andThen_ok];rw[h6];exact eG _ _ (Ds he)
    |true=>
    rw[bJ]at h;obtain⟨fn,Tg,J5,SX⟩:=π.fn g (by simpa using bJ);unfold Oper.wp execOp;simp only[aB];unfold resolve;simp only[ym,bg,Deferred.ofValue,pure_bind,invoke,Sem.run_bind,Sem.run_pure,Result.andThen_ok];rw[adX Tg J5 SX];refine Calls.mono h λe w' he=>?_;cases e with
    |returned v=>
     obtain⟨i,o,he⟩:=di he;exact eG _ _ (Ds he)
    |panicked cQ=>exact e5 _ _ he
    |outgrown=>exact he.elim
   ·exact h.elim
  ·rename_i ym;have h:=xr υ h;split at h
   ·rename_i x y hV;have JL:cl.args.map a.eval=#[x,y]:=by
     apply qc;simpa using hV
    obtain⟨t,aP,h⟩:=di h;obtain⟨t1,rP,h⟩:=di h;obtain⟨i,o,h⟩:=di h;obtain⟨i1,Tm,h⟩:=di h;have key:∀{v:Value}{w':World},(Builtin.append_ cl.argTypes ε.type #[x,y]).run c.P w=.ok v w'->N v w'->ε.wp c.P a w K Q:=λ{v w'}h6 ax=>by unfold Oper.wp execOp;simp only[aB];unfold resolve;simp only[ym,pure_bind,invoke,builtin,JL,Sem.run_bind,h6,Result.andThen_ok];exact eG _ _ ax
    split at h
    ·rename_i e af;obtain⟨ei,fX,h⟩:=di h;have u:c.P.underlying t=some (.slice e):=by rw[(π.fj o).1,af]
     obtain⟨b,m,cap,I,h⟩:=nd h;rw[I]at key;split at h
     ·rename_i cO lK;have my:c.P.underlying t1=some (.slice cO):=by rw[(π.fj Tm).1,lK]
      obtain⟨gL,m',Bn,ah,h⟩:=nd h;rw[ah]at key;obtain⟨θ,c2,w',h6,ι⟩:=X7 (ty:=ε.type) π (π.fj fX) h aP u (x:=.slice gL m' Bn) (λxs hV aj=>
       ⟨⟨t1,_,rP,my,.inr ⟨cO,rfl⟩⟩,λw'=>by simp[Builtin.lenOf],λw' hw=>Pq (w:=w) hw hV aj⟩)
      exact key h6 ι
     ·rename_i lK;have my:c.P.underlying t1=some .string:=by rw[(π.fj Tm).1,lK]
      obtain⟨s,ah,h⟩:=wJ h;rw[ah]at key;obtain⟨h1,h⟩:=hT h;have h1:=b7 h1;obtain⟨θ,c2,w',h6,ι⟩:=X7 (ty:=ε.type) π (π.fj fX) h aP u (x:=.string s) (λxs hV aj=>
       ⟨⟨t1,_,rP,my,.inl rfl⟩,λw'=>by simp[Builtin.lenOf],λw' hw=>by
        subst hV;have ω:s.data.size=s.size:=rfl;have aO:(s.extract 0 s.size).data=s.data:=by rw[ByteArray.data_extract,<-ω,Array.extract_size]
        simp only[Builtin.firstCells,Sem.run_pure,aO];congr 1;apply qc;simp[Bl]⟩)
      exact key h6 ι
     ·rename_i a1 lK;have my:c.P.underlying t1=some (.int a1):=by rw[(π.fj Tm).1,lK]
      split at h
      ·obtain⟨aD,h⟩:=hT h;have aD:=b7 aD;obtain⟨θ,c2,w',h6,ι⟩:=ajw (ty:=ε.type) π (π.fj fX) h aP u rP my;rw[K5 aD]at h6;exact key (h6 _) ι
      ·exact h.elim
     ·exact h.elim
    ·exact h.elim
   ·exact h.elim
  ·rename_i ym;have h:=xr υ h;split at h
   ·rename_i x y hV;have JL:cl.args.map a.eval=#[x,y]:=by
     apply qc;simpa using hV
    obtain⟨t,aP,h⟩:=di h;obtain⟨i,o,h⟩:=di h;split at h
    ·rename_i e af;obtain⟨ei,fX,h⟩:=di h;have u:c.P.underlying t=some (.slice e):=by rw[(π.fj o).1,af]
     obtain⟨b,m,cap,I,h⟩:=nd h;obtain⟨gL,m',Bn,ah,h⟩:=nd h;obtain⟨w',h6,ι⟩:=aki (dc:=cap) (sc:=Bn) (ty:=ε.type) π (π.fj fX) h aP u;unfold Oper.wp execOp;simp only[aB];unfold resolve;simp only[ym,pure_bind,invoke,builtin,JL,I,ah,Sem.run_bind,h6,Result.andThen_ok];exact eG _ _ ι
    ·exact h.elim
   ·exact h.elim
  ·rename_i ym;have h:=xr υ h;split at h
   ·rename_i t v hV;have JL:cl.args.map a.eval=#[.iface t v]:=by
     apply qc;simpa using hV
    unfold Oper.wp execOp;simp only[aB];unfold resolve;simp only[ym,pure_bind,invoke,builtin,JL];simp[Instr.panic,goPanic,Oper.upon];exact e5 _ _ h
   ·exact h.elim
  ·exact Hj h
 ·rename_i x;have h:=gC υ h;split at h
  ·rename_i t v I;unfold Oper.wp execOp;simp[aB,I,Instr.panic,goPanic,Oper.upon];exact e5 _ _ h
  ·exact h.elim
def aci(w:World)(K:Nat->ao):Prop:=∀b w',b=w.heap.size->w'=w.alloc (.map #[] 0)->K b w'
def UD(w:World)(r:Option Nat)(K:Int->Prop):Prop:=match r with
 |none=>K 0
 |some b=>∃es n,w.heap[b]?=some (.map es n)/\K (es.size:Int)
def Uz(c:cW)(cl:Call):Bool:=match cl.argTypes[0]?with
 |some t=>(match eF c.tb t with
  |some i=>(match i.desc with| .map _ _=>true|_=>false)
  |none=>false)
 |none=>false
def GR(r m:Nat)(e:MapEntry):Prop:=∃AH m',e.key=.complex .f64 AH m'/\(ek .eql r AH&&ek .eql m m')=false
def IQ(P:Program)(t:TypeId)(z:Value):Prop:=(P.info? t).bind (·.zero)=some z
def Om(P:Program)(w:World)(b r m:Nat)(t:TypeId)(z:Value)(K:Value->Int->ao):Prop:=
 IQ P t z/\∃es clock,w.heap[b]?=some (.map es clock)/\
  (((∀e∈es.toList,GR r m e)/\∀w',w'=w.putObj b (.map (es.push ⟨.complex .f64 r m,z,clock⟩) (clock+1))->K z (clock:Int) w')\/
  (∃i e,es.toList[i]?=some e/\e.key=.complex .f64 r m/\(ek .eql r r&&ek .eql m m)=true/\(∀cO∈es.toList.take i,GR r m cO)/\K e.val (e.born:Int) w))
def On(w:World)(b:Nat)(st:Int)(v:Value)(K:ao):Prop:=
 ∃es clock i,w.heap[b]?=some (.map es clock)/\es.findIdx? (λe=>(e.born:Int)==st)=some i/\∀w',w'=w.putObj b (.map (es.modify i λe=>{e with val:=v}) clock)->K w'
def Ru(w:World)(p:J)(n:Nat)(zero:ag)(K:ao):Prop:=
 ((p=none\/n=0)/\K w)\/∃a,p=some a/\n≠0/\hr w a (Builtin.zeroCells zero n).toList/\∀w',w'=w.setCells a.block a.off (Builtin.zeroCells zero n).toList->K w'
def Hw(P:Program)(w:World)(UF:Option Nat)(r m:Nat)(t:TypeId)(z:Value)(K:Value->Prop):Prop:=
 IQ P t z/\∃b es clock,UF=some b/\w.heap[b]?=some (.map es clock)/\
  (((∀e∈es.toList,GR r m e)/\K z)\/
  (∃i e,es.toList[i]?=some e/\e.key=.complex .f64 r m/\(ek .eql r r&&ek .eql m m)=true/\(∀cO∈es.toList.take i,GR r m cO)/\K e.val))
def adH(w:World)(UF:Option Nat)(K:Nat->ao):Prop:=
 ∃m es clock,UF=some m/\w.heap[m]?=some (.map es clock)/\∀b w',b=w.heap.size->w'=w.alloc (.mapIter (some m) clock #[] clock)->K b w'
def UI(w:World)(d:Addr)(Mo:Prop)(K:MapEntry->ao):Prop:=
 ∃(b m since fz:Nat)(seen:Array Nat)(es:Array MapEntry)(clock:Nat),d=⟨b,0,none⟩/\w.heap[b]?=some (.mapIter (some m) since seen fz)/\w.heap[m]?=some (.map es clock)/\(∀x∈es.toList,x.born<since)/\since<=fz/\
  ((leftOf es seen).size=0->Mo)/\
  ∀e∈(leftOf es seen).toList,∀γ w',(γ=w\/γ=w.drew)->w'=γ.putObj b (.mapIter (some m) since (seen.push e.born) clock)->K e w'
def R5(w:World)(d:Addr)(K:Value->Value->Prop):Prop:=
 ∃(b m since:Nat)(seen:Array Nat)(es:Array MapEntry)(clock:Nat)(e:MapEntry),d=⟨b,0,none⟩/\w.heap[b]?=some (.mapIter (some m) since (seen.push e.born) clock)/\w.heap[m]?=some (.map es clock)/\e∈es.toList/\(es.toList.map (·.born)).Nodup/\K e.key e.val
theorem VS{P:Program}{w:World}{kN:TypeId}{k:FloatKind}{r m:Nat}(hk:P.underlying kN=some (.complex k)):∀(es:List MapEntry)(i:Nat),(∀e∈es,GR r m e)->
  (Instr.findAsking kN (.complex .f64 r m) es i).run P w=.ok none w
 |[],i,_=>by simp[Instr.findAsking]
 |e::es,i,h=>by
  obtain⟨AH,m',he,bg⟩:=h e (n2 ..);have ch:=VS (w:=w) hk es (i+1) λe he=>h e (hW _ he);have DZ:(Op.floatEq .f64 r AH&&Op.floatEq .f64 m m')=false:=bg;have aC:(Op.equal kN (.complex .f64 r m) e.key).run P w=.ok false w:=by rw[he];unfold Op.equal Op.maxDepth Op.equalIn;simp only[Sem.run_bind,run_underlying hk,Result.andThen_ok,oR,Sem.run_pure,DZ]
  rw[Instr.findAsking,Sem.run_bind,aC];exact ch
theorem VT{P:Program}{w:World}{kN:TypeId}{k:FloatKind}{r m:Nat}(hk:P.underlying kN=some (.complex k))(ω:(ek .eql r r&&ek .eql m m)=true):∀(es:List MapEntry)(n i:Nat)(e:MapEntry),es[i]?=some e->
  e.key=.complex .f64 r m->(∀cO∈es.take i,GR r m cO)->(Instr.findAsking kN (.complex .f64 r m) es n).run P w=.ok (some (n+i,e.val)) w
 |[],n,i,e,h,_,_=>by simp at h
 |a::es,n,0,e,h,he,_=>by
  obtain rfl:a=e:=by simpa using h
  have DZ:(Op.floatEq .f64 r r&&Op.floatEq .f64 m m)=true:=ω;have aC:(Op.equal kN (.complex .f64 r m) a.key).run P w=.ok true w:=by rw[he];unfold Op.equal Op.maxDepth Op.equalIn;simp only[Sem.run_bind,run_underlying hk,Result.andThen_ok,oR,Sem.run_pure,DZ]
  rw[Instr.findAsking,Sem.run_bind,aC];rfl
 |a::es,n,i+1,e,h,he,aQ=>by
  obtain⟨AH,m',amr,bg⟩:=aQ a (by simp);have ch:=VT (w:=w) hk ω es (n+1) i e (by simpa using h) he λcO dG=>aQ cO (by simp[dG]);have DZ:(Op.floatEq .f64 r AH&&Op.floatEq .f64 m m')=false:=bg;have aC:(Op.equal kN (.complex .f64 r m) a.key).run P w=.ok false w:=by rw[amr];unfold Op.equal Op.maxDepth Op.equalIn;simp only[Sem.run_bind,run_underlying hk,Result.andThen_ok,oR,Sem.run_pure,DZ]
  rw[Instr.findAsking,Sem.run_bind,aC];simp only[Result.andThen];have aO:n+(i+1)=n+1+i:=by omega
  rw[aO];simpa using ch
theorem alC{k:FloatKind}{r m:Nat}:∀(es:List MapEntry),Instr.findNow (.complex k) (.complex .f64 r m) es 0=if es=[]then some none else none
 |[]=>rfl
 |e::es=>by simp[Instr.findNow,Instr.sameNow]
theorem Pp{P:Program}{w:World}{kN:TypeId}{k:FloatKind}{r m:Nat}(hk:P.underlying kN=some (.complex k))(es:List MapEntry):
  (Instr.findKey kN (.complex .f64 r m) es).run P w=(Instr.findAsking kN (.complex .f64 r m) es).run P w:=by
 unfold Instr.findKey;rw[Sem.run_bind,run_underlying hk,Result.andThen_ok,alC];cases es with
 |nil=>simp[Instr.findAsking]
 |cons e es=>simp
theorem Po{P:Program}{w:World}{kN:TypeId}{k:FloatKind}{r m:Nat}(hk:P.underlying kN=some (.complex k))(b:Bool)(n:Nat):(Instr.checkKey b (n+1) kN (.complex .f64 r m)).run P w=.ok () w:=by unfold Instr.checkKey;simp[Sem.run_bind,run_underlying hk,Result.andThen]
theorem acd{α:Type}(f:α->α):∀(l:List α)(i:Nat)(a:α),l[i]?=some a->f a=a->l.modify i f=l
 |[],_,_,h,_=>by simp at h
 |b::l,0,a,h,bg=>by
  obtain rfl:b=a:=by simpa using h
  simp[bg]
 |b::l,i+1,a,h,bg=>by rw[List.modify_succ_cons,acd f l i a (by simpa using h) bg]
theorem aru{w:World}{b:Nat}{ε:Obj}(h:w.heap[b]?=some ε):w.putObj b ε=w:=by
 have:w.heap.setIfInBounds b ε=w.heap:=by
  apply qc;rw[Array.toList_setIfInBounds];apply qb;intro j;rw[List.getElem?_set];split
  ·rename_i e;subst e;have aj:b<w.heap.toList.length:=by
    rw[kP];exact(Array.getElem?_eq_some_iff.mp h).1
   rw[aS aj,Array.getElem?_toList,h]
  ·rfl
 unfold World.putObj;rw[this]
def R9(c:cW)(ε:Oper)(ν:cX)(w:World)(N:Value->ao)(X:List PanicEntry->ao):Prop:=
 match ε.op with
 | .makeMap _ none=>aci w λb w'=>N (.map (some b)) w'
 | .mapEntry t m k=>ξ (eF c.tb t) λi=>(match i.desc with
  | .map kN e=>ξ (eF c.tb kN) λKu=>ξ (eF c.tb e) λei=>(match Ku.desc,ei.desc with
   | .complex _,.slice _=>ez ν m λm=>pQ m λb=>ξ b λb=>ez ν k λk=>lq k λx y=>Om c.P w b x y e (.slice none 0 0) λv st w'=>cN v λp n q=>N (.tuple #[.slice p n q,.int .i64 st]) w'
   |_,_=>False)
  |_=>False)
 | .entryStore _ m st v=>ez ν m λm=>pQ m λb=>ξ b λb=>ez ν st λst=>br .i64 st λst=>ez ν v λv=>On w b st v λw'=>N undef w'
 | .lookup t m k false=>ξ (eF c.tb t) λi=>(match i.desc with
  | .map kN e=>ξ (eF c.tb kN) λKu=>ξ (eF c.tb e) λei=>(match Ku.desc,ei.desc with
   | .complex _,.slice _=>ez ν m λm=>pQ m λb=>ez ν k λk=>lq k λx y=>Hw c.P w b x y e (.slice none 0 0) λv=>cN v λp n q=>N (.slice p n q) w
   |_,_=>False)
  |_=>False)
 | .range t m=>ξ (eF c.tb t) λi=>(match i.desc with
  | .map _ _=>ez ν m λm=>pQ m λr=>adH w r λb w'=>N (.pointer (some ⟨b,0,none⟩)) w'
  |_=>False)
 | .next it false=>ez ν it λv=>gX v λp=>ξ p λd=>UI w d (N (.tuple #[.bool false]) w) λe w'=>N (.tuple #[.bool true,e.key,e.val]) w'
 | .entry it=>ez ν it λv=>gX v λp=>ξ p λd=>R5 w d λx y=>N (.tuple #[x,y]) w
 | .call cl=>(match cl.callee with
  | .builtin .len=>cond (Uz c cl) (oN ν cl.args.toList λxs=>(match xs with
   |[x]=>pQ x λr=>UD w r λn=>N (.int .i64 n) w
   |_=>False)) (DA c ε ν w N X)
  | .builtin .clear=>(match cl.argTypes[0]?with
   |some t=>ξ (eF c.tb t) λi=>(match i.desc with
    | .slice e=>ξ (eF c.tb e) λei=>oN ν cl.args.toList λxs=>(match xs with
     |[x]=>cN x λp n q=>Ru w p n ei.zero.toArray λw'=>N (.tuple #[]) w'
     |_=>False)
    |_=>False)
   |none=>False)
  |_=>DA c ε ν w N X)
 |_=>DA c ε ν w N X
set_option maxHeartbeats 1000000 in
theorem alg{c:cW}(π:hh c){n:Nat}{ε:Oper}{a:Act}{ν:cX}(υ:Rel n a ν){w:World}{N:Value->ao}{X:List PanicEntry->ao}
  {K:Act->ao}{Q:Exit->Act->ao}(eG:∀v w',N v w'->K (a.put ε.dst v) w')(e5:∀cQ w',X cQ w'->Q (.panic cQ) a w')
  (h:R9 c ε ν w N X):ε.wp c.P a w K Q:=by
 unfold R9 at h;split at h
 ·rename_i t aB;refine sv (m:=Instr.makeMap t none) (v:=.map (some w.heap.size)) (w':=w.alloc (.map #[] 0)) (by simp[execOp,aB]) ?_ (eG _ _ (h _ _ rfl rfl));simp[Instr.makeMap]
 ·rename_i t m k aB;obtain⟨i,o,h⟩:=di h;split at h
  ·rename_i kN e af;obtain⟨Ku,Tw,h⟩:=di h;obtain⟨ei,fX,h⟩:=di h;split at h
   ·rename_i yI RZ Tv JS;obtain⟨b,hm,h⟩:=yd (gC υ h);obtain⟨b,rfl,h⟩:=di h;obtain⟨x,y,hk,aL,es,clock,ψ,h⟩:=zG (gC υ h);have my:c.P.underlying t=some (.map kN e):=by rw[(π.fj o).1,af]
    have qn:c.P.underlying kN=some (.complex yI):=by rw[(π.fj Tw).1,Tv]
    have bJ:(getObj b).run c.P w=.ok (.map es clock) w:=by simp[getObj,Sem.run,ψ]
    have ka:∀ε:Obj,(setObj b ε).run c.P w=.ok () (w.putObj b ε):=λε=>by simp[setObj,Sem.run,ψ,World.putObj]
    have hzero:(zeroValue e).run c.P w=.ok (.slice none 0 0) w:=by
     unfold IQ at aL;cases aC:c.P.info? e with
     |none=>simp[aC]at aL
     |some x=>
      have:x.zero=some (.slice none 0 0):=by simpa[aC]using aL
      simp[zeroValue,typeInfo,aC,this]
    rcases h with⟨aQ,h⟩|⟨i,iI,qM,w3,TO,JJ,h⟩
    ·have h:=h _ rfl;refine sv (m:=Instr.mapEntry t (a.eval m) (a.eval k)) (v:=.tuple #[.slice none 0 0,.int .i64 clock]) (by simp[execOp,aB]) ?_ (eG _ _ h);rw[hm,hk];unfold Instr.mapEntry;simp only[Sem.run_bind,run_underlying my,Result.andThen_ok,bJ,Po qn,Pp qn,VS qn _ _ aQ,hzero,ka];rfl
    ·obtain⟨p,q,Db,aJ,h⟩:=nd h;refine sv (m:=Instr.mapEntry t (a.eval m) (a.eval k)) (v:=.tuple #[.slice p q Db,.int .i64 iI.born]) (w':=w) (by simp[execOp,aB]) ?_ (eG _ _ h);rw[hm,hk];unfold Instr.mapEntry;have amz:es[i]?=some iI:=by rw[<-Array.getElem?_toList];exact qM
     have lM:es.modify i (λe=>{e with key:=Value.complex .f64 x y})=es:=by apply qc;rw[AD];exact acd _ _ _ iI qM (by rw[<-w3])
     have aou:(Instr.keyThatStays (.complex .f64 x y) (.complex .f64 x y)).run c.P w=.ok (.complex .f64 x y) w:=by simp[Instr.keyThatStays,Instr.sameBits]
     simp only[Sem.run_bind,run_underlying my,Result.andThen_ok,bJ,Po qn,Pp qn,VT qn TO _ _ i iI qM w3 JJ,mS,amz,iT,OY,w3,aou,ka,lM,aru ψ,aJ];rfl
   ·exact h.elim
  ·exact h.elim
 ·rename_i t m st v aB;obtain⟨b,hm,h⟩:=yd (gC υ h);obtain⟨b,rfl,h⟩:=di h;obtain⟨wa,bV,h⟩:=GL (gC υ h);obtain⟨es,clock,i,ψ,bg,h⟩:=gC υ h;have h:=h _ rfl;have bJ:(getObj b).run c.P w=.ok (.map es clock) w:=by simp[getObj,Sem.run,ψ]
  have ka:∀ε:Obj,(setObj b ε).run c.P w=.ok () (w.putObj b ε):=λε=>by simp[setObj,Sem.run,ψ,World.putObj]
  unfold Oper.wp execOp;have h6:(Instr.entryStore t (a.eval m) (a.eval st) (a.eval v)).run c.P w=.ok () (w.putObj b (.map (es.modify i λe=>{e with val:=a.eval v}) clock)):=by rw[hm,bV];unfold Instr.entryStore;simp only[Sem.run_bind,Result.andThen_ok,bJ,asInt,asIntOf,Sem.run_pure,bg,ka]
  simp only[aB,Sem.run_bind,h6,Result.andThen_ok];exact eG _ _ h
 ·rename_i t m k aB;obtain⟨i,o,h⟩:=di h;split at h
  ·rename_i kN e af;obtain⟨Ku,Tw,h⟩:=di h;obtain⟨ei,fX,h⟩:=di h;split at h
   ·rename_i yI RZ Tv JS;obtain⟨b,hm,h⟩:=yd (gC υ h);obtain⟨x,y,hk,aL,b,es,clock,rfl,ψ,h⟩:=zG (gC υ h);have my:c.P.underlying t=some (.map kN e):=by rw[(π.fj o).1,af]
    have qn:c.P.underlying kN=some (.complex yI):=by rw[(π.fj Tw).1,Tv]
    have bJ:(getObj b).run c.P w=.ok (.map es clock) w:=by simp[getObj,Sem.run,ψ]
    have hzero:(zeroValue e).run c.P w=.ok (.slice none 0 0) w:=by
     unfold IQ at aL;cases aC:c.P.info? e with
     |none=>simp[aC]at aL
     |some x=>
      have:x.zero=some (.slice none 0 0):=by simpa[aC]using aL
      simp[zeroValue,typeInfo,aC,this]
    rcases h with⟨aQ,h⟩|⟨i,iI,qM,w3,TO,JJ,h⟩
    ·obtain⟨p,q,Db,aJ,h⟩:=nd h;refine sv (m:=Instr.lookup t (a.eval m) (a.eval k) false) (v:=.slice p q Db) (w':=w) (by simp[execOp,aB]) ?_ (eG _ _ h);rw[<-aJ];rw[hm,hk];unfold Instr.lookup;simp only[Sem.run_bind,run_underlying my,Result.andThen_ok,bJ,Sem.run_pure,Po qn,Pp qn,VS qn _ _ aQ,hzero];rfl
    ·obtain⟨p,q,Db,aJ,h⟩:=nd h;refine sv (m:=Instr.lookup t (a.eval m) (a.eval k) false) (v:=.slice p q Db) (w':=w) (by simp[execOp,aB]) ?_ (eG _ _ h);rw[<-aJ];rw[hm,hk];unfold Instr.lookup;simp only[Sem.run_bind,run_underlying my,Result.andThen_ok,bJ,Sem.run_pure,Po qn,Pp qn,VT qn TO _ _ i iI qM w3 JJ];rfl
   ·exact h.elim
  ·exact h.elim
 ·rename_i t m aB;obtain⟨i,o,h⟩:=di h;split at h
  ·rename_i kN e af;obtain⟨b,hm,m',es,clock,rfl,ψ,h⟩:=yd (gC υ h);have my:c.P.underlying t=some (.map kN e):=by rw[(π.fj o).1,af]
   have bJ:(getObj m').run c.P w=.ok (.map es clock) w:=by simp[getObj,Sem.run,ψ]
   refine sv (m:=Instr.range t (a.eval m)) (v:=.pointer (some ⟨w.heap.size,0,none⟩)) (w':=w.alloc (.mapIter (some m') clock #[] clock)) (by simp[execOp,aB]) ?_ (eG _ _ (h _ _ rfl rfl));rw[hm];unfold Instr.range;simp only[Sem.run_bind,run_underlying my,Result.andThen_ok,bJ];rfl
  ·exact h.elim
 ·rename_i it aB;obtain⟨p,hp,h⟩:=ug (gC υ h);obtain⟨d,rfl,b,m,since,fz,seen,es,clock,rfl,ψ,hm,hold,Ee,aD,h1⟩:=di h;rcases run_next_at (P:=c.P) w ε.type b m since fz seen es clock ψ hm hold Ee with⟨aj,h6⟩|⟨e,he,γ,Eh,h6⟩
  ·refine sv (m:=Instr.next (a.eval it) false ε.type) (by simp[execOp,aB]) (by rw[hp];exact h6) (eG _ _ (aD aj))
  ·refine sv (m:=Instr.next (a.eval it) false ε.type) (by simp[execOp,aB]) (by rw[hp];exact h6) (eG _ _ (h1 e he γ _ Eh rfl))
 ·rename_i it aB;obtain⟨p,hp,h⟩:=ug (gC υ h);obtain⟨d,rfl,b,m,since,seen,es,clock,e,rfl,ψ,hm,he,ax,h⟩:=di h;exact sv (m:=Instr.entry (a.eval it)) (by simp[execOp,aB]) (by rw[hp];exact run_entry_at w b m since seen es clock e ψ hm he ax) (eG _ _ h)
 ·rename_i cl aB;split at h
  ·rename_i ψ;cases hm:Uz c cl with
   |false=>
    rw[hm]at h;exact Js π υ eG e5 h
   |true=>
    rw[hm]at h;have h:=xr υ h;split at h
    ·rename_i x I;obtain⟨r,rfl,h⟩:=yd h;unfold Uz at hm;split at hm
     ·rename_i t aP;split at hm
      ·rename_i i o;split at hm
       ·rename_i k e af;have hu:=(π.fj o).j8 w rfl;rw[af]at hu;have aO:cl.args.map a.eval=#[.map r]:=by
         have:(cl.args.map a.eval).toList=[.map r]:=by rw[Ff];exact I
         exact qc this
        have fin:∀n:Int,(Builtin.len_ cl.argTypes ε.type #[.map r]).run c.P w=.ok (.int .i64 n) w->N (.int .i64 n) w->ε.wp c.P a w K Q:=λn h6 ax=>by
         unfold Oper.wp
         have:(execOp a.eval ε).run c.P w=.ok (.value (.int .i64 n)) w:=by unfold execOp;simp only[aB];unfold resolve;rw[ψ];simp only[pure_bind,invoke];rw[aO];show(do pure (Next.value (<-Builtin.len_ cl.argTypes ε.type #[.map r]))).run c.P w=_;rw[Sem.run_bind,h6];rfl
         rw[this];exact eG _ _ ax
        cases r with
        |none=>exact fin 0 (by simp[Builtin.len_,aP,hu,goInt]) h
        |some b=>
         obtain⟨es,m,he,h⟩:=h;have bJ:(getObj b).run c.P w=.ok (.map es m) w:=by simp[getObj,Sem.run,he]
         exact fin _ (by simp[Builtin.len_,aP,hu,goInt,bJ,Result.andThen]) h
       ·cases hm
      ·cases hm
     ·cases hm
    ·exact h.elim
  ·rename_i ψ;split at h
   ·rename_i t aP;obtain⟨i,o,h⟩:=di h;split at h
    ·rename_i e af;obtain⟨ei,fX,h⟩:=di h;have h:=xr υ h;split at h
     ·rename_i x I;obtain⟨p,n,q,hp,h⟩:=nd h;have my:c.P.underlying t=some (.slice e):=by rw[(π.fj o).1,af]
      have aO:cl.args.map a.eval=#[.slice p n q]:=by
       have:(cl.args.map a.eval).toList=[.slice p n q]:=by rw[Ff,I,hp]
       exact qc this
      have fin:∀w',(Builtin.clear_ cl.argTypes ε.type #[.slice p n q]).run c.P w=.ok (.tuple #[]) w'->N (.tuple #[]) w'->ε.wp c.P a w K Q:=λw' h6 ax=>by unfold Oper.wp execOp;simp only[aB];unfold resolve;simp only[ψ,pure_bind,invoke,builtin,aO,Sem.run_bind,h6,Result.andThen_ok];exact eG _ _ ax
      rcases h with⟨aL,h⟩|⟨wE,rfl,ax,hw,h⟩
      ·refine fin w ?_ h;rcases aL with rfl|rfl
       ·simp[Builtin.clear_,aP,run_underlying my,Result.andThen]
       ·cases p<;>simp[Builtin.clear_,aP,run_underlying my,Result.andThen]
      ·refine fin _ ?_ (h _ rfl);obtain⟨sw,z,zR,aL,qO,-,-⟩:=(π.fj fX).info;have BO:(zeroValue e).run c.P w=.ok z w:=by simp[zeroValue,typeInfo,zR,aL]
       rw[<-qO]at hw⊢;obtain⟨n,rfl⟩:=Nat.exists_eq_succ_of_ne_zero ax;simp[Builtin.clear_,aP,run_underlying my,BO,Lm hw,Result.andThen]
     ·exact h.elim
    ·exact h.elim
   ·exact h.elim
  ·exact Js π υ eG e5 h
 ·exact Js π υ eG e5 h
def tc(n:Nat)(d:Option Nat)(v:Value)(ν:cX)(K:cX->Prop):Prop:=
 match d with
 |some d=>ο (Nat.blt d n) (K ((d,v)::ν))
 |none=>K ν
theorem GV(j:Nat)(v:Value)(ν:cX)(d:Nat):cX.get ((j,v)::ν) d=if j=d then some v else ν.get d:=by
 by_cases h:j=d
 ·subst h;simp[cX.get]
 ·have:Nat.beq j d=false:=by
   cases ψ:Nat.beq j d with
   |false=>rfl
   |true=>exact(h (xy ψ)).elim
  simp[cX.get,this,h]
theorem vU{n:Nat}{a:Act}{ν:cX}(υ:Rel n a ν){d:Option Nat}{v:Value}{K:cX->Prop}(h:tc n d v ν K):∃fC,Rel n (a.put d v) fC/\K fC:=by
 cases d with
 |none=>exact⟨ν,υ,h⟩
 |some d=>
  obtain⟨af,h⟩:=hT h;have af:d+1<=n:=by simpa[Nat.blt,Nat.ble_eq]using af
  have af:d<n:=af;refine⟨_,⟨υ.1,by simpa[Act.put]using υ.2.1,λj u φ=>?_⟩,h⟩;rw[GV]at φ;simp only[Act.put];rw[Array.getElem?_setIfInBounds];by_cases e:d=j
  ·subst e
   have:v=u:=by simpa using φ
   subst this
   have:d<a.tmps.size:=by rw[υ.2.1];exact af
   simp[this]
  ·rw[aM e]at φ⊢;exact υ.2.2 j u φ
theorem Rel.set{n:Nat}{a:Act}{ν:cX}(υ:Rel n a ν){d:Nat}{v:Value}(aJ:a.tmps[d]?=some v):Rel n a ((d,v)::ν):=by
 refine⟨υ.1,υ.2.1,λj u φ=>?_⟩;rw[GV]at φ;by_cases e:d=j
 ·subst e;rw[aS rfl]at φ;rw[aJ,φ]
 ·rw[aM e]at φ;exact υ.2.2 j u φ
def Bv(ops:List Oper)(g:Option (Nat×Bool))(ν:cX)(yes no:cX->Prop):Prop:=
 match g with
 |none=>yes ν
 |some (j,want)=>ξ ops[j]? λhb=>ξ hb.dst λd=>ξ (ν.get d) λv=>match v with
  | .bool b=>(match want with
   |true=>cond b (yes ((d,.bool true)::ν)) (no ((d,.bool false)::ν))
   |false=>cond b (no ((d,.bool true)::ν)) (yes ((d,.bool false)::ν)))
  | .tuple _=>no ν
  |_=>False
theorem DE{n:Nat}{a:Act}{ν:cX}(υ:Rel n a ν){ops:List Oper}{ε:Oper}{yes no:cX->Prop}(h:Bv ops ε.guard ν yes no):
  (Region.wanted ε (yielded ops.toArray a.tmps)=true/\∃fC,Rel n a fC/\yes fC)\/(Region.wanted ε (yielded ops.toArray a.tmps)=false/\∃fC,Rel n a fC/\no fC):=by
 unfold Bv at h;split at h
 ·rename_i bJ;exact .inl ⟨by simp[Region.wanted,bJ],ν,υ,h⟩
 ·rename_i j want bJ;obtain⟨hb,φ,h⟩:=di h;obtain⟨d,af,h⟩:=di h;obtain⟨v,aJ,h⟩:=di h;have nT:=υ.2.2 d v aJ;have eP:ops.toArray[j]?=some hb:=by simpa using φ
  split at h
  ·rename_i b;have ah:yielded ops.toArray a.tmps j=some b:=by simp[yielded,eP,af,nT]
   cases want<;>cases b<;>first
    |exact .inl ⟨by simp[Region.wanted,bJ,ah],_,υ.set nT,h⟩
    |exact .inr ⟨by simp[Region.wanted,bJ,ah],_,υ.set nT,h⟩
  ·rename_i cs;have ah:yielded ops.toArray a.tmps j=none:=by simp[yielded,eP,af,nT]
   exact .inr ⟨by simp[Region.wanted,bJ,ah],_,υ,h⟩
  ·exact h.elim
def Nd(c:cW)(n:Nat)(ops:List Oper)(Q:cX->ao)(X:cX->List PanicEntry->ao):List Oper->cX->ao
 |[],ν,w=>Q ν w
 |ε::r,ν,w=>Bv ops ε.guard ν
  (λν=>R9 c ε ν w (λv w=>tc n ε.dst v ν λν=>Nd c n ops Q X r ν w) (X ν))
  (λν=>tc n ε.dst undef ν λν=>Nd c n ops Q X r ν w)
theorem Sa{c:cW}(π:hh c){n:Nat}{ops:List Oper}{Q:cX->ao}{X:cX->List PanicEntry->ao}{Q':Exit->Act->ao}
  (dI:∀a ν w,Rel n a ν->Q ν w->Q' .normal a w)(e5:∀a ν cQ w,Rel n a ν->X ν cQ w->Q' (.panic cQ) a w):
  ∀(l:List Oper)(a:Act)(ν:cX)(w:World),Rel n a ν->Nd c n ops Q X l ν w->wpList c.P ops.toArray Q' l a w
 |[],a,ν,w,υ,h=>dI a ν w υ h
 |ε::r,a,ν,w,υ,h=>by
  unfold wpList;rcases DE υ h with⟨hw,fC,eC,h⟩|⟨hw,fC,eC,h⟩
  ·rw[aS hw];refine .inl (alg π eC (K:=wpList c.P ops.toArray Q' r) (λv w' hp=>?_) (λcQ w' I=>e5 a fC cQ w' eC I) h);obtain⟨h7,iK,ι⟩:=vU eC hp;exact Sa π dI e5 r _ _ _ iK ι
  ·rw[aM (by simp[hw])];obtain⟨h7,iK,ι⟩:=vU eC h;exact Sa π dI e5 r _ _ _ iK ι
def GQ(c:cW)(n:Nat)(ops:List Oper)(Q:cX->Prop)(w:World):List Oper->cX->Prop
 |[],ν=>Q ν
 |ε::r,ν=>Bv ops ε.guard ν
  (λν=>uk c ε ν w λv=>tc n ε.dst v ν λν=>GQ c n ops Q w r ν)
  (λν=>tc n ε.dst undef ν λν=>GQ c n ops Q w r ν)
theorem Sb{c:cW}(π:hh c){n:Nat}{ops:List Oper}{Q:cX->Prop}{w:World}{Q':Act->Prop}
  (dI:∀a ν,Rel n a ν->Q ν->Q' a):
  ∀(l:List Oper)(a:Act)(ν:cX),Rel n a ν->GQ c n ops Q w l ν->wpQuiet c.P ops.toArray (λw'=>∃n,w'=w.drewN n) Q' l a
 |[],a,ν,υ,h=>dI a ν υ h
 |ε::r,a,ν,υ,h=>by
  unfold wpQuiet;rcases DE υ h with⟨hw,fC,eC,h⟩|⟨hw,fC,eC,h⟩
  ·rw[aS hw];obtain⟨v,aJ,h⟩:=Jt π eC h;obtain⟨h7,iK,ι⟩:=vU eC h;refine⟨v,?_,Sb π dI r _ _ iK ι⟩;rintro w' ⟨k,rfl⟩;unfold Oper.quietAt;rw[aJ (w.drewN k) rfl];exact⟨rfl,rfl⟩
  ·rw[aM (by simp[hw])];obtain⟨h7,iK,ι⟩:=vU eC h;exact Sb π dI r _ _ iK ι
inductive c5 where
 |int (k:IntKind)|bool|str|slice|ptr|addr|cY|agg|val|vu|pP|map|uo (g:Nat)|um (g:Nat)|zl
def gT(β:Type):List (Nat×c5)->Type
 |[]=>World->β
 |(_,.int _)::r=>Int->gT β r
 |(_,.bool)::r=>Bool->gT β r
 |(_,.str)::r=>ByteArray->gT β r
 |(_,.slice)::r=>J->Nat->Nat->gT β r
 |(_,.ptr)::r=>J->gT β r
 |(_,.addr)::r=>Addr->gT β r
 |(_,.cY)::r=>Nat->gT β r
 |(_,.agg)::r=>ag->gT β r
 |(_,.val)::r=>Value->gT β r
 |(_,.vu)::r=>Nat->gT β r
 |(_,.pP)::r=>Nat->Nat->gT β r
 |(_,.map)::r=>Option Nat->gT β r
 |(_,.uo _)::r=>Nat->gT β r
 |(_,.um _)::r=>gT β r
 |(_,.zl)::r=>Nat->gT β r
def RJ(v:Value)(K:Addr->Prop):Prop:=match v with| .pointer (some a)=>K a|_=>False
def RK(v:Value)(K:bf):Prop:=match v with| .pointer (some ⟨b,0,none⟩)=>K b|_=>False
def RM(g:Nat)(v:Value)(K:bf):Prop:=match v with| .func (.func wO) ⟨[]⟩ ⟨[.pointer (some ⟨b,0,none⟩)]⟩=>ο (Nat.beq wO g) (K b)|_=>False
def RL(g:Nat)(v:Value)(N:Prop):Prop:=match v with| .func (.func wO) ⟨[]⟩ ⟨[]⟩=>ο (Nat.beq wO g) N|_=>False
def RO(v:Value)(K:bf):Prop:=match v with| .func (.yield l) ⟨[]⟩ ⟨[]⟩=>K l|_=>False
theorem M4{v:Value}{K:bf}(h:RO v K):∃l,v=.func (.yield l) #[] #[]/\K l:=by
 unfold RO at h;split at h
 ·exact⟨_,rfl,h⟩
 ·exact h.elim
theorem MZ{g:Nat}{v:Value}{N:Prop}(h:RL g v N):v=.func (.func g) #[] #[]/\N:=by
 unfold RL at h;split at h
 ·obtain⟨e,ι⟩:=hT h;have e:=xy e;exact⟨by rw[e],ι⟩
 ·exact h.elim
theorem MX{v:Value}{K:Addr->Prop}(h:RJ v K):∃a,v=.pointer (some a)/\K a:=by
 unfold RJ at h;split at h
 ·exact⟨_,rfl,h⟩
 ·exact h.elim
theorem MY{v:Value}{K:bf}(h:RK v K):∃b,v=.pointer (some ⟨b,0,none⟩)/\K b:=by
 unfold RK at h;split at h
 ·exact⟨_,rfl,h⟩
 ·exact h.elim
theorem M0{g:Nat}{v:Value}{K:bf}(h:RM g v K):∃b,v=.func (.func g) #[] #[.pointer (some ⟨b,0,none⟩)]/\K b:=by
 unfold RM at h;split at h
 ·obtain⟨e,ι⟩:=hT h;have e:=xy e;exact⟨_,by rw[e],ι⟩
 ·exact h.elim
def gp:(b3:List (Nat×c5))->gT Prop b3->cX->ao
 |[],K,_,w=>K w
 |(d,.int k)::r,K,ν,w=>ξ (ν.get d) λv=>br k v λx=>gp r (K x) ν w
 |(d,.bool)::r,K,ν,w=>ξ (ν.get d) λv=>dw v λx=>gp r (K x) ν w
 |(d,.str)::r,K,ν,w=>ξ (ν.get d) λv=>nK v λx=>gp r (K x) ν w
 |(d,.slice)::r,K,ν,w=>ξ (ν.get d) λv=>cN v λx y z=>gp r (K x y z) ν w
 |(d,.ptr)::r,K,ν,w=>ξ (ν.get d) λv=>gX v λx=>gp r (K x) ν w
 |(d,.addr)::r,K,ν,w=>ξ (ν.get d) λv=>RJ v λx=>gp r (K x) ν w
 |(d,.cY)::r,K,ν,w=>ξ (ν.get d) λv=>RK v λx=>gp r (K x) ν w
 |(d,.agg)::r,K,ν,w=>ξ (ν.get d) λv=>dq v λx=>gp r (K x) ν w
 |(d,.val)::r,K,ν,w=>ξ (ν.get d) λv=>gp r (K v) ν w
 |(d,.vu)::r,K,ν,w=>ξ (ν.get d) λv=>wI v λx=>gp r (K x) ν w
 |(d,.pP)::r,K,ν,w=>ξ (ν.get d) λv=>lq v λx y=>gp r (K x y) ν w
 |(d,.map)::r,K,ν,w=>ξ (ν.get d) λv=>pQ v λx=>gp r (K x) ν w
 |(d,.uo g)::r,K,ν,w=>ξ (ν.get d) λv=>RM g v λx=>gp r (K x) ν w
 |(d,.um g)::r,K,ν,w=>ξ (ν.get d) λv=>RL g v (gp r K ν w)
 |(d,.zl)::r,K,ν,w=>ξ (ν.get d) λv=>RO v λx=>gp r (K x) ν w
def l0:(b3:List (Nat×c5))->gT Nat b3->cX->World->Nat
 |[],K,_,w=>K w
 |(d,.int _)::r,K,ν,w=>match ν.get d with|some (.int _ x)=>l0 r (K x) ν w|_=>0
 |(d,.bool)::r,K,ν,w=>match ν.get d with|some (.bool x)=>l0 r (K x) ν w|_=>0
 |(d,.str)::r,K,ν,w=>match ν.get d with|some (.string x)=>l0 r (K x) ν w|_=>0
 |(d,.slice)::r,K,ν,w=>match ν.get d with|some (.slice x y z)=>l0 r (K x y z) ν w|_=>0
 |(d,.ptr)::r,K,ν,w=>match ν.get d with|some (.pointer x)=>l0 r (K x) ν w|_=>0
 |(d,.addr)::r,K,ν,w=>match ν.get d with|some (.pointer (some x))=>l0 r (K x) ν w|_=>0
 |(d,.cY)::r,K,ν,w=>match ν.get d with|some (.pointer (some ⟨b,0,none⟩))=>l0 r (K b) ν w|_=>0
 |(d,.agg)::r,K,ν,w=>match ν.get d with|some (.agg x)=>l0 r (K x) ν w|_=>0
 |(d,.val)::r,K,ν,w=>match ν.get d with|some x=>l0 r (K x) ν w|_=>0
 |(d,.vu)::r,K,ν,w=>match ν.get d with|some (.float .f64 x)=>l0 r (K x) ν w|_=>0
 |(d,.pP)::r,K,ν,w=>match ν.get d with|some (.complex .f64 x y)=>l0 r (K x y) ν w|_=>0
 |(d,.map)::r,K,ν,w=>match ν.get d with|some (.map x)=>l0 r (K x) ν w|_=>0
 |(d,.uo _)::r,K,ν,w=>match ν.get d with|some (.func _ _ ⟨[.pointer (some ⟨b,0,none⟩)]⟩)=>l0 r (K b) ν w|_=>0
 |(_,.um _)::r,K,ν,w=>l0 r K ν w
 |(d,.zl)::r,K,ν,w=>match ν.get d with|some (.func (.yield l) _ _)=>l0 r (K l) ν w|_=>0
def lg:(b3:List (Nat×c5))->gT Prop b3->(cX->ao)->cX->Prop
 |[],K,G,ν=>∀w,K w->G ν w
 |(d,.int k)::r,K,G,ν=>∀x,lg r (K x) G ((d,.int k x)::ν)
 |(d,.bool)::r,K,G,ν=>∀x,lg r (K x) G ((d,.bool x)::ν)
 |(d,.str)::r,K,G,ν=>∀x,lg r (K x) G ((d,.string x)::ν)
 |(d,.slice)::r,K,G,ν=>∀x y z,lg r (K x y z) G ((d,.slice x y z)::ν)
 |(d,.ptr)::r,K,G,ν=>∀x,lg r (K x) G ((d,.pointer x)::ν)
 |(d,.addr)::r,K,G,ν=>∀x,lg r (K x) G ((d,.pointer (some x))::ν)
 |(d,.cY)::r,K,G,ν=>∀b,lg r (K b) G ((d,.pointer (some ⟨b,0,none⟩))::ν)
 |(d,.agg)::r,K,G,ν=>∀x,lg r (K x) G ((d,.agg x)::ν)
 |(d,.val)::r,K,G,ν=>∀x,lg r (K x) G ((d,x)::ν)
 |(d,.vu)::r,K,G,ν=>∀x,lg r (K x) G ((d,.float .f64 x)::ν)
 |(d,.pP)::r,K,G,ν=>∀x y,lg r (K x y) G ((d,.complex .f64 x y)::ν)
 |(d,.map)::r,K,G,ν=>∀x,lg r (K x) G ((d,.map x)::ν)
 |(d,.uo g)::r,K,G,ν=>∀b,lg r (K b) G ((d,.func (.func g) #[] #[.pointer (some ⟨b,0,none⟩)])::ν)
 |(d,.um g)::r,K,G,ν=>lg r K G ((d,.func (.func g) #[] #[])::ν)
 |(d,.zl)::r,K,G,ν=>∀x,lg r (K x) G ((d,.func (.yield x) #[] #[])::ν)
theorem oa{n:Nat}{a:Act}{ν:cX}(υ:Rel n a ν){G:cX->ao}{w:World}:∀{b3:List (Nat×c5)}{K:gT Prop b3}{acc:cX},Rel n a acc->lg b3 K G acc->gp b3 K ν w->∃fC,Rel n a fC/\G fC w
 |[],K,acc,h5,dR,h=>⟨acc,h5,dR w h⟩
 |(d,k)::r,K,acc,h5,dR,h=>by
  cases k<;>simp only[gp]at h<;>obtain⟨v,aJ,h⟩:=di h<;>have ω:=υ.2.2 d v aJ
  ·obtain⟨x,rfl,ι⟩:=GL h;exact oa υ (h5.set ω) (dR x) ι
  ·obtain⟨x,rfl,h⟩:=Bo h;exact oa υ (h5.set ω) (dR x) h
  ·obtain⟨x,rfl,h⟩:=wJ h;exact oa υ (h5.set ω) (dR x) h
  ·obtain⟨x,y,z,rfl,h⟩:=nd h;exact oa υ (h5.set ω) (dR x y z) h
  ·obtain⟨x,rfl,h⟩:=ug h;exact oa υ (h5.set ω) (dR x) h
  ·obtain⟨x,rfl,h⟩:=MX h;exact oa υ (h5.set ω) (dR x) h
  ·obtain⟨x,rfl,h⟩:=MY h;exact oa υ (h5.set ω) (dR x) h
  ·obtain⟨x,rfl,h⟩:=yc h;exact oa υ (h5.set ω) (dR x) h
  ·exact oa υ (h5.set ω) (dR v) h
  ·obtain⟨x,rfl,h⟩:=Dr h;exact oa υ (h5.set ω) (dR x) h
  ·obtain⟨x,y,rfl,h⟩:=zG h;exact oa υ (h5.set ω) (dR x y) h
  ·obtain⟨x,rfl,h⟩:=yd h;exact oa υ (h5.set ω) (dR x) h
  ·obtain⟨x,rfl,ι⟩:=M0 h;exact oa υ (h5.set ω) (dR x) ι
  ·obtain⟨rfl,ι⟩:=MZ h;exact oa υ (h5.set ω) dR ι
  ·obtain⟨x,rfl,ι⟩:=M4 h;exact oa υ (h5.set ω) (dR x) ι
def n9:(b3:List (Nat×c5))->gT Prop b3->gT Nat b3->(Nat->cX->ao)->cX->Prop
 |[],K,m,G,ν=>∀w,K w->G (m w) ν w
 |(d,.int k)::r,K,m,G,ν=>∀x,n9 r (K x) (m x) G ((d,.int k x)::ν)
 |(d,.bool)::r,K,m,G,ν=>∀x,n9 r (K x) (m x) G ((d,.bool x)::ν)
 |(d,.str)::r,K,m,G,ν=>∀x,n9 r (K x) (m x) G ((d,.string x)::ν)
 |(d,.slice)::r,K,m,G,ν=>∀x y z,n9 r (K x y z) (m x y z) G ((d,.slice x y z)::ν)
 |(d,.ptr)::r,K,m,G,ν=>∀x,n9 r (K x) (m x) G ((d,.pointer x)::ν)
 |(d,.addr)::r,K,m,G,ν=>∀x,n9 r (K x) (m x) G ((d,.pointer (some x))::ν)
 |(d,.cY)::r,K,m,G,ν=>∀x,n9 r (K x) (m x) G ((d,.pointer (some ⟨x,0,none⟩))::ν)
 |(d,.agg)::r,K,m,G,ν=>∀x,n9 r (K x) (m x) G ((d,.agg x)::ν)
 |(d,.val)::r,K,m,G,ν=>∀x,n9 r (K x) (m x) G ((d,x)::ν)
 |(d,.vu)::r,K,m,G,ν=>∀x,n9 r (K x) (m x) G ((d,.float .f64 x)::ν)
 |(d,.pP)::r,K,m,G,ν=>∀x y,n9 r (K x y) (m x y) G ((d,.complex .f64 x y)::ν)
 |(d,.map)::r,K,m,G,ν=>∀x,n9 r (K x) (m x) G ((d,.map x)::ν)
 |(d,.uo g)::r,K,m,G,ν=>∀x,n9 r (K x) (m x) G ((d,.func (.func g) #[] #[.pointer (some ⟨x,0,none⟩)])::ν)
 |(d,.um g)::r,K,m,G,ν=>n9 r K m G ((d,.func (.func g) #[] #[])::ν)
 |(d,.zl)::r,K,m,G,ν=>∀x,n9 r (K x) (m x) G ((d,.func (.yield x) #[] #[])::ν)
theorem ql{n:Nat}{a:Act}{ν:cX}(υ:Rel n a ν){G:Nat->cX->ao}{w:World}:∀{b3:List (Nat×c5)}{K:gT Prop b3}{m:gT Nat b3}{acc:cX},Rel n a acc->n9 b3 K m G acc->gp b3 K ν w->∃fC,Rel n a fC/\G (l0 b3 m ν w) fC w
 |[],K,m,acc,h5,dR,h=>⟨acc,h5,dR w h⟩
 |(d,k)::r,K,m,acc,h5,dR,h=>by
  cases k<;>simp only[gp]at h<;>obtain⟨v,aJ,h⟩:=di h<;>have ω:=υ.2.2 d v aJ<;>simp only[l0,aJ]
  ·obtain⟨x,rfl,ι⟩:=GL h;exact ql υ (h5.set ω) (dR x) ι
  ·obtain⟨x,rfl,ι⟩:=Bo h;exact ql υ (h5.set ω) (dR x) ι
  ·obtain⟨x,rfl,ι⟩:=wJ h;exact ql υ (h5.set ω) (dR x) ι
  ·obtain⟨x,y,z,rfl,ι⟩:=nd h;exact ql υ (h5.set ω) (dR x y z) ι
  ·obtain⟨x,rfl,ι⟩:=ug h;exact ql υ (h5.set ω) (dR x) ι
  ·obtain⟨x,rfl,ι⟩:=MX h;exact ql υ (h5.set ω) (dR x) ι
  ·obtain⟨x,rfl,ι⟩:=MY h;exact ql υ (h5.set ω) (dR x) ι
  ·obtain⟨x,rfl,ι⟩:=yc h;exact ql υ (h5.set ω) (dR x) ι
  ·exact ql υ (h5.set ω) (dR v) h
  ·obtain⟨x,rfl,ι⟩:=Dr h;exact ql υ (h5.set ω) (dR x) ι
  ·obtain⟨x,y,rfl,ι⟩:=zG h;exact ql υ (h5.set ω) (dR x y) ι
  ·obtain⟨x,rfl,ι⟩:=yd h;exact ql υ (h5.set ω) (dR x) ι
  ·obtain⟨x,rfl,ι⟩:=M0 h;exact ql υ (h5.set ω) (dR x) ι
  ·obtain⟨rfl,ι⟩:=MZ h;exact ql υ (h5.set ω) dR ι
  ·obtain⟨x,rfl,ι⟩:=M4 h;exact ql υ (h5.set ω) (dR x) ι
theorem oZ{ν h7:cX}(aB:∀d v,ν.get d=some v->h7.get d=some v){w:World}:∀{b3:List (Nat×c5)}{K:gT Prop b3},gp b3 K ν w->gp b3 K h7 w/\∀m,l0 b3 m ν w=l0 b3 m h7 w
 |[],K,h=>⟨h,λ_=>rfl⟩
 |(d,k)::r,K,h=>by
  cases k<;>simp only[gp]at h<;>obtain⟨v,aJ,h⟩:=di h<;>have ω:=aB d v aJ<;>simp only[l0,gp,aJ,ω]
  ·obtain⟨x,rfl,ι⟩:=GL h;obtain⟨h1,aG⟩:=oZ aB ι;exact⟨aW rfl h1,λm=>aG (m x)⟩
  ·obtain⟨x,rfl,ι⟩:=Bo h;obtain⟨h1,aG⟩:=oZ aB ι;exact⟨h1,λm=>aG (m x)⟩
  ·obtain⟨x,rfl,ι⟩:=wJ h;obtain⟨h1,aG⟩:=oZ aB ι;exact⟨h1,λm=>aG (m x)⟩
  ·obtain⟨x,y,z,rfl,ι⟩:=nd h;obtain⟨h1,aG⟩:=oZ aB ι;exact⟨h1,λm=>aG (m x y z)⟩
  ·obtain⟨x,rfl,ι⟩:=ug h;obtain⟨h1,aG⟩:=oZ aB ι;exact⟨h1,λm=>aG (m x)⟩
  ·obtain⟨x,rfl,ι⟩:=MX h;obtain⟨h1,aG⟩:=oZ aB ι;exact⟨h1,λm=>aG (m x)⟩
  ·obtain⟨x,rfl,ι⟩:=MY h;obtain⟨h1,aG⟩:=oZ aB ι;exact⟨h1,λm=>aG (m x)⟩
  ·obtain⟨x,rfl,ι⟩:=yc h;obtain⟨h1,aG⟩:=oZ aB ι;exact⟨h1,λm=>aG (m x)⟩
  ·obtain⟨h1,ι⟩:=oZ aB h;exact⟨h1,λm=>ι (m v)⟩
  ·obtain⟨x,rfl,ι⟩:=Dr h;obtain⟨h1,aG⟩:=oZ aB ι;exact⟨h1,λm=>aG (m x)⟩
  ·obtain⟨x,y,rfl,ι⟩:=zG h;obtain⟨h1,aG⟩:=oZ aB ι;exact⟨h1,λm=>aG (m x y)⟩
  ·obtain⟨x,rfl,ι⟩:=yd h;obtain⟨h1,aG⟩:=oZ aB ι;exact⟨h1,λm=>aG (m x)⟩
  ·obtain⟨x,rfl,ι⟩:=M0 h;obtain⟨h1,aG⟩:=oZ aB ι;exact⟨bL (by simp[Ca]) h1,λm=>aG (m x)⟩
  ·obtain⟨rfl,ι⟩:=MZ h;obtain⟨h1,aG⟩:=oZ aB ι;exact⟨bL (by simp[Ca]) h1,λm=>aG m⟩
  ·obtain⟨x,rfl,ι⟩:=M4 h;obtain⟨h1,aG⟩:=oZ aB ι;exact⟨h1,λm=>aG (m x)⟩
def lZ:(b3:List (Nat×c5))->gT Prop b3->gT Nat b3->Nat->gT Prop b3
 |[],bD,m,k=>λw=>bD w/\m w<k
 |(_,.int _)::r,bD,m,k=>λx=>lZ r (bD x) (m x) k
 |(_,.bool)::r,bD,m,k=>λx=>lZ r (bD x) (m x) k
 |(_,.str)::r,bD,m,k=>λx=>lZ r (bD x) (m x) k
 |(_,.slice)::r,bD,m,k=>λx y z=>lZ r (bD x y z) (m x y z) k
 |(_,.ptr)::r,bD,m,k=>λx=>lZ r (bD x) (m x) k
 |(_,.addr)::r,bD,m,k=>λx=>lZ r (bD x) (m x) k
 |(_,.cY)::r,bD,m,k=>λx=>lZ r (bD x) (m x) k
 |(_,.agg)::r,bD,m,k=>λx=>lZ r (bD x) (m x) k
 |(_,.val)::r,bD,m,k=>λx=>lZ r (bD x) (m x) k
 |(_,.vu)::r,bD,m,k=>λx=>lZ r (bD x) (m x) k
 |(_,.pP)::r,bD,m,k=>λx y=>lZ r (bD x y) (m x y) k
 |(_,.map)::r,bD,m,k=>λx=>lZ r (bD x) (m x) k
 |(_,.uo _)::r,bD,m,k=>λx=>lZ r (bD x) (m x) k
 |(_,.um _)::r,bD,m,k=>lZ r bD m k
 |(_,.zl)::r,bD,m,k=>λx=>lZ r (bD x) (m x) k
theorem qm{k:Nat}{ν:cX}{w:World}:∀{b3:List (Nat×c5)}{bD:gT Prop b3}{m:gT Nat b3},gp b3 (lZ b3 bD m k) ν w->gp b3 bD ν w/\l0 b3 m ν w<k
 |[],bD,m,h=>h
 |(d,apa)::r,bD,m,h=>by
  cases apa<;>simp only[gp]at h<;>obtain⟨v,aJ,h⟩:=di h<;>simp only[l0,gp,aJ]
  ·obtain⟨x,rfl,ι⟩:=GL h;obtain⟨h1,aG⟩:=qm ι;exact⟨aW rfl h1,aG⟩
  ·obtain⟨x,rfl,ι⟩:=Bo h;obtain⟨h1,aG⟩:=qm ι;exact⟨h1,aG⟩
  ·obtain⟨x,rfl,ι⟩:=wJ h;obtain⟨h1,aG⟩:=qm ι;exact⟨h1,aG⟩
  ·obtain⟨x,y,z,rfl,ι⟩:=nd h;obtain⟨h1,aG⟩:=qm ι;exact⟨h1,aG⟩
  ·obtain⟨x,rfl,ι⟩:=ug h;obtain⟨h1,aG⟩:=qm ι;exact⟨h1,aG⟩
  ·obtain⟨x,rfl,ι⟩:=MX h;obtain⟨h1,aG⟩:=qm ι;exact⟨h1,aG⟩
  ·obtain⟨x,rfl,ι⟩:=MY h;obtain⟨h1,aG⟩:=qm ι;exact⟨h1,aG⟩
  ·obtain⟨x,rfl,ι⟩:=yc h;obtain⟨h1,aG⟩:=qm ι;exact⟨h1,aG⟩
  ·exact qm h
  ·obtain⟨x,rfl,ι⟩:=Dr h;obtain⟨h1,aG⟩:=qm ι;exact⟨h1,aG⟩
  ·obtain⟨x,y,rfl,ι⟩:=zG h;obtain⟨h1,aG⟩:=qm ι;exact⟨h1,aG⟩
  ·obtain⟨x,rfl,ι⟩:=yd h;obtain⟨h1,aG⟩:=qm ι;exact⟨h1,aG⟩
  ·obtain⟨x,rfl,ι⟩:=M0 h;obtain⟨h1,aG⟩:=qm ι;exact⟨bL (by simp[Ca]) h1,aG⟩
  ·obtain⟨rfl,ι⟩:=MZ h;obtain⟨h1,aG⟩:=qm ι;exact⟨bL (by simp[Ca]) h1,aG⟩
  ·obtain⟨x,rfl,ι⟩:=M4 h;obtain⟨h1,aG⟩:=qm ι;exact⟨h1,aG⟩
end Go.bO

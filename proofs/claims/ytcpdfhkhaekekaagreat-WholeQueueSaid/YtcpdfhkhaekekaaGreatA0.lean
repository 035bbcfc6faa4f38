/- The walk of the functions, and the plain laws of the model: part of the proof. Conditions: none. -/
import Derived.WalkKit
import Derived.Orders
import Derived.Laws.Rows
import Derived.Deep.Draws
import Derived.Laws.IdiomCopy
import Derived.RangeFuncRecord
import Derived.Maps.RangeRun
import Derived.Deep.Quiet
import Derived.Scope
set_option linter.unusedVariables false
set_option linter.unusedSimpArgs false
namespace Go.bI
abbrev ak:=Ending->World->Prop
abbrev ai:=World->Prop
abbrev J:=Option Addr
abbrev a1:=Nat->Prop
abbrev ao:=List Int
abbrev aU:=List Value
abbrev ah:=Array Value
abbrev aN:=@if_neg
abbrev aY:=@if_pos
abbrev bC:=@decide_eq_true
abbrev cd:=@of_decide_eq_true
abbrev cP:=@Int.toNat_natCast
abbrev da:=@Nat.zero_le
abbrev dh:=@of_decide_eq_false
abbrev eF:=@Nat.le_refl
abbrev eG:=@Nat.mul_one
abbrev eS:=@List.mem_of_getElem?
abbrev eR:=@Int.eq_ofNat_of_zero_le
abbrev e9:=@List.length_append
abbrev fo:=@Nat.le_trans
abbrev fp:=@List.size_toArray
abbrev fE:=@List.mem_cons
abbrev gM:=@List.mem_map
abbrev gN:=@congrArg
abbrev gY:=@List.length_take
abbrev hr:=@List.take_of_length_le
abbrev hN:=@List.getElem_mem
abbrev h9:=@List.mem_cons_of_mem
abbrev iI:=@List.mem_append
abbrev iJ:=@decide_eq_false
abbrev jd:=@Option.map_some
abbrev jB:=@List.length_set
abbrev jP:=@List.length_map
abbrev kH:=@Bool.and_eq_true
abbrev kI:=@List.length_drop
abbrev k0:=@Array.length_toList
abbrev lp:=@List.mem_singleton
abbrev lq:=@List.take_succ_eq_append_getElem
abbrev lr:=@Nat.add_mul
abbrev mc:=@List.append_assoc
abbrev mN:=@Nat.zero_add
abbrev mO:=@List.mem_filter
abbrev nh:=@Iff.rfl
abbrev nF:=@List.mem_range
abbrev oj:=@List.not_mem_nil
abbrev om:=@List.mem_cons_self
abbrev o9:=@if_true
abbrev pa:=@or_false
abbrev pb:=@List.take_append_of_le_length
abbrev pc:=@List.mem_flatMap
abbrev pH:=@List.mem_or_eq_of_mem_set
abbrev pI:=@List.append_nil
abbrev pJ:=@decide_eq_true_eq
abbrev qp:=@List.ext_getElem?
abbrev qq:=@Array.ext'
abbrev qt:=@List.map_append
abbrev q5:=@if_false
abbrev q6:=@List.map_set
abbrev q7:=@List.drop_eq_nil_of_le
abbrev q8:=@Nat.min_eq_left
abbrev q9:=@List.eq_nil_of_length_eq_zero
abbrev r9:=@List.nil_append
abbrev sa:=@cond_true
abbrev sb:=@Option.some.injEq
abbrev sd:=@Nat.lt_of_lt_of_le
abbrev se:=@Int.mul_le_mul
abbrev sf:=@List.length_replicate
abbrev tq:=@Nat.mul_le_mul_right
abbrev u0:=@List.eq_of_mem_replicate
abbrev u1:=@Bool.not_true
abbrev u2:=@List.range_succ
abbrev u3:=@List.mem_filterMap
abbrev u4:=@Nat.sub_self
abbrev wC:=@Bool.false_eq_true
abbrev wD:=@List.mem_of_mem_take
abbrev wE:=@cond_false
abbrev wF:=@List.map_take
abbrev wG:=@List.flatMap_append
abbrev x1:=@List.map_cons
abbrev x2:=@List.map_drop
abbrev x3:=@Nat.eq_of_beq_eq_true
abbrev zk:=@Bool.not_false
abbrev zl:=@List.flatMap_cons
abbrev zm:=@List.take_append_drop
abbrev zn:=@Int.mul_nonneg
abbrev AU:=@List.length_singleton
abbrev AV:=@List.take_length
abbrev AW:=@Array.toList_modify
abbrev AX:=@List.take_take
abbrev AY:=@Prod.ext
abbrev Cv:=@List.flatten_cons
abbrev Cw:=@List.filter_append
abbrev Cx:=@Nat.beq_refl
abbrev Cy:=@List.all_eq_true
abbrev Cz:=@Option.some.inj
abbrev CA:=@List.length_range
abbrev CB:=@List.drop_append_of_le_length
abbrev CC:=@List.set_append_right
abbrev CD:=@List.map_map
abbrev CE:=@List.map_congr_left
abbrev CF:=@ByteArray.size_append
abbrev CG:=@List.pairwise_iff_getElem
abbrev FH:=@List.replicate_succ
abbrev FI:=@Nat.one_mul
abbrev FJ:=@Array.getD_eq_getD_getElem?
abbrev FK:=@Prod.mk.injEq
abbrev FL:=@Array.toList_map
abbrev FE:=@List.drop_take
abbrev FF:=@List.take_zero
abbrev FG:=@List.length_tail
abbrev Ii:=@Nat.le_of_eq
abbrev Ij:=@List.drop_eq_getElem_cons
abbrev Ik:=@List.any_eq_false
abbrev Il:=@Int.fdiv_eq_ediv_of_nonneg
abbrev Im:=@List.mem_of_mem_drop
abbrev Io:=@Int.mul_le_mul_of_nonneg_right
abbrev Ip:=@Option.isSome_iff_exists
abbrev Iq:=@Bool.and_eq_true_iff
abbrev Ir:=@Array.getElem_toList
abbrev Is:=@Nat.lt_or_ge
abbrev It:=@List.set_cons_zero
abbrev Iu:=@Nat.lt_succ_self
abbrev Iv:=@Int.tmod_eq_emod_of_nonneg
abbrev Iw:=@Nat.add_sub_cancel_left
abbrev Ly:=@List.map_replicate
abbrev Lz:=@decide_eq_false_iff_not
abbrev LA:=@Int.ediv_eq_zero_of_lt
abbrev LB:=@Nat.mod_eq_of_lt
abbrev LC:=@List.all_append
abbrev LD:=@Array.toArray_toList
abbrev LF:=@Int.toNat_of_nonneg
abbrev LG:=@Nat.le_of_not_lt
abbrev LH:=@Array.size_append
abbrev LI:=@Int.emod_eq_of_lt
abbrev LJ:=@List.drop_left
abbrev LK:=@List.nodup_cons
abbrev LL:=@Option.filter_some
abbrev LM:=@List.mem_zipIdx_iff_getElem?
abbrev Py:=@List.any_eq_true
abbrev Pz:=@Bool.or_eq_false_iff
abbrev PA:=@Int.emod_lt_of_pos
abbrev PB:=@List.drop_drop
abbrev PC:=@Option.getD_some
abbrev PD:=@Array.eq_empty_of_size_eq_zero
abbrev PE:=@Nat.le_of_ble_eq_true
abbrev PF:=@List.filter_eq_self
abbrev PG:=@List.take_left
abbrev PH:=@Array.size_modify
abbrev PI:=@Array.toList_push
abbrev PJ:=@List.nodup_range
abbrev PK:=@Int.emod_nonneg
abbrev PL:=@Bool.true_and
abbrev PM:=@List.take_add_one
abbrev PN:=@List.mem_mapIdx
abbrev PO:=@List.drop_zero
abbrev PQ:=@List.filter_eq_nil_iff
abbrev PR:=@List.Pairwise.map
abbrev PS:=@List.sum_append
abbrev PT:=@List.mem_iff_getElem
abbrev PU:=@List.take_replicate
abbrev V3:=@List.length_filter_le
abbrev V4:=@List.mem_append_left
abbrev V5:=@List.eq_nil_iff_forall_not_mem
abbrev V6:=@List.mem_of_mem_tail
abbrev V7:=@Int.add_mul_ediv_right
abbrev V8:=@List.length_pos_iff
abbrev V9:=@List.Pairwise.imp_of_mem
abbrev c4:=List (Nat×Value)
def c4.get:c4->Nat->Option Value
 |[],_=>none
 |(j,v)::r,d=>cond (Nat.beq j d) (some v) (c4.get r d)
structure cR where
 desc:TypeDesc
 size:Nat
 bytes:Nat
 zero:aU
def cT(P:Program)(t:TypeId)(i:cR):Prop:=
 P.underlying t=some i.desc/\(P.info? t).map (λx=>(x.size,x.bytes))=some (i.size,i.bytes)/\
  ((P.info? t).bind (·.zero)).map (λz=>z.cells.toList)=some i.zero
def eU:List (Option cR)->Nat->Option cR
 |[],_=>none
 |x::_,0=>x
 |_::r,n+1=>eU r n
def Jr(P:Program):Nat->List (Option cR)->Prop
 |_,[]=>True
 |k,none::r=>Jr P (k+1) r
 |k,some i::r=>cT P k i/\Jr P (k+1) r
theorem WN{P:Program}:∀{tb:List (Option cR)}{k:Nat},Jr P k tb->∀{t i},eU tb t=some i->cT P (k+t) i
 |[],_,_,t,i,h=>by simp[eU]at h
 |none::r,k,hk,0,i,h=>by simp[eU]at h
 |some j::r,k,hk,0,i,h=>by simp only[eU,sb]at h;subst h;exact hk.1
 |none::r,k,hk,t+1,i,h=>by
  have:=WN (tb:=r) (k:=k+1) hk (t:=t) (i:=i) (by simpa[eU]using h)
  rwa[Nat.add_right_comm,Nat.add_assoc]at this
 |some j::r,k,hk,t+1,i,h=>by
  have:=WN (tb:=r) (k:=k+1) hk.2 (t:=t) (i:=i) (by simpa[eU]using h)
  rwa[Nat.add_right_comm,Nat.add_assoc]at this
structure c3 where
 P:Program
 tb:List (Option cR)
 fns:List Nat
structure ht(c:c3):Prop where
 IW:Jr c.P 0 c.tb
 fn:∀f,f∈c.fns->∃fn,c.P.funcs[f]?=some fn/\(fn.name== "runtime.NumGoroutine")=false/\fn.body.isNone=false
 mixed:c.P.follows .mixedOrders=true
theorem ht.fs{c:c3}(h:ht c){t:TypeId}{i:cR}(aO:eU c.tb t=some i):cT c.P t i:=by
 have:=WN h.IW aO
 rwa[mN]at this
def Rel(n:Nat)(a:Act)(ν:c4):Prop:=a.defers=[]/\a.tmps.size=n/\∀d v,ν.get d=some v->a.tmps[d]?=some v
def ο(b:Bool)(N:Prop):Prop:=cond b N False
def bq(k:IntKind)(v:Value)(K:Int->Prop):Prop:=match v with| .int k' n=>ο (decide (k'=k)) (K n)|_=>False
def dD(v:Value)(K:Bool->Prop):Prop:=match v with| .bool b=>K b|_=>False
def df(v:Value)(K:J->Nat->a1):Prop:=match v with| .slice a n c=>K a n c|_=>False
def hD(v:Value)(K:J->Prop):Prop:=match v with| .pointer a=>K a|_=>False
def dZ(v:Value)(K:ah->Prop):Prop:=match v with| .agg cs=>K cs|_=>False
def b6(v:Value)(K:ah->Prop):Prop:=match v with| .tuple cs=>K cs|_=>False
def lH(v:Value)(K:ByteArray->Prop):Prop:=match v with| .string s=>K s|_=>False
def xj(v:Value)(K:a1):Prop:=match v with| .float .f64 b=>K b|_=>False
def lG(v:Value)(K:Nat->a1):Prop:=match v with| .complex .f64 a b=>K a b|_=>False
def p6(v:Value)(K:Option Nat->Prop):Prop:=match v with| .map r=>K r|_=>False
def ξ{α:Type}(x:Option α)(K:α->Prop):Prop:=match x with|some v=>K v|none=>False
def yH(d:TypeDesc)(v:Value)(K:Value->Prop):Prop:=
 match d with
 | .int k=>bq k v λn=>K (.int k n)
 | .bool=>dD v λb=>K (.bool b)
 | .string=>lH v λs=>K (.string s)
 | .float _=>xj v λb=>K (.float .f64 b)
 | .complex _=>lG v λa b=>K (.complex .f64 a b)
 | .slice _=>df v λa n c=>K (.slice a n c)
 | .pointer _=>hD v λa=>K (.pointer a)
 | .map _ _=>p6 v λr=>K (.map r)
 | .struct _=>dZ v λcs=>K (.agg cs)
 | .array _ _=>dZ v λcs=>K (.agg cs)
 | .tuple _=>b6 v λcs=>K (.tuple cs)
 |_=>K v
section inv
variable{N:Prop}{v:Value}
theorem h5{b:Bool}(h:ο b N):b=true/\N:=by cases b<;>simp_all[ο]
theorem bO{b:Bool}(ω:b=true)(h:N):ο b N:=by subst ω;exact h
theorem aW{p:Prop}[Decidable p](ω:p)(h:N):ο (decide p) N:=bO (bC ω) h
theorem G8{k:IntKind}{K:Int->Prop}(h:bq k v K):∃n,v=.int k n/\K n:=by
 unfold bq at h;split at h
 ·have e:=cd (h5 h).1;subst e;exact⟨_,rfl,(h5 h).2⟩
 ·exact h.elim
theorem BL{K:Bool->Prop}(h:dD v K):∃n,v=.bool n/\K n:=by
 unfold dD at h;split at h
 ·exact⟨_,rfl,h⟩
 ·exact h.elim
theorem nu{K:J->Nat->a1}(h:df v K):∃a n c,v=.slice a n c/\K a n c:=by
 unfold df at h;split at h
 ·exact⟨_,_,_,rfl,h⟩
 ·exact h.elim
theorem uu{K:J->Prop}(h:hD v K):∃a,v=.pointer a/\K a:=by
 unfold hD at h;split at h
 ·exact⟨_,rfl,h⟩
 ·exact h.elim
theorem yF{K:ah->Prop}(h:dZ v K):∃a,v=.agg a/\K a:=by
 unfold dZ at h;split at h
 ·exact⟨_,rfl,h⟩
 ·exact h.elim
theorem Zx{K:ah->Prop}(h:b6 v K):∃a,v=.tuple a/\K a:=by
 unfold b6 at h;split at h
 ·exact⟨_,rfl,h⟩
 ·exact h.elim
theorem xk{K:ByteArray->Prop}(h:lH v K):∃a,v=.string a/\K a:=by
 unfold lH at h;split at h
 ·exact⟨_,rfl,h⟩
 ·exact h.elim
theorem DV{K:a1}(h:xj v K):∃a,v=.float .f64 a/\K a:=by
 unfold xj at h;split at h
 ·exact⟨_,rfl,h⟩
 ·exact h.elim
theorem Ad{K:Nat->a1}(h:lG v K):∃a b,v=.complex .f64 a b/\K a b:=by
 unfold lG at h;split at h
 ·exact⟨_,_,rfl,h⟩
 ·exact h.elim
theorem yG{K:Option Nat->Prop}(h:p6 v K):∃a,v=.map a/\K a:=by
 unfold p6 at h;split at h
 ·exact⟨_,rfl,h⟩
 ·exact h.elim
theorem du{α:Type}{x:Option α}{K:α->Prop}(h:ξ x K):∃v,x=some v/\K v:=by
 unfold ξ at h;split at h
 ·exact⟨_,rfl,h⟩
 ·exact h.elim
theorem gK{α:Type}{x:Option α}{K:α->Prop}{v:α}(e:x=some v)(h:K v):ξ x K:=by subst e;exact h
theorem DW{d:TypeDesc}{K:Value->Prop}(h:yH d v K):K v:=by
 unfold yH at h;split at h
 ·obtain⟨n,e,h⟩:=G8 h;rw[e];exact h
 ·obtain⟨n,rfl,h⟩:=BL h;exact h
 ·obtain⟨n,rfl,h⟩:=xk h;exact h
 ·obtain⟨n,rfl,h⟩:=DV h;exact h
 ·obtain⟨n,m,rfl,h⟩:=Ad h;exact h
 ·obtain⟨n,m,l,rfl,h⟩:=nu h;exact h
 ·obtain⟨n,rfl,h⟩:=uu h;exact h
 ·obtain⟨n,rfl,h⟩:=yG h;exact h
 ·obtain⟨n,rfl,h⟩:=yF h;exact h
 ·obtain⟨n,rfl,h⟩:=yF h;exact h
 ·obtain⟨n,rfl,h⟩:=Zx h;exact h
 ·exact h
end inv
def eJ(ν:c4)(x:Operand)(K:Value->Prop):Prop:=
 match x with
 | .tmp t=>ξ (ν.get t) K
 | .const v=>K v
 | .global g=>K (.pointer (some ⟨g,0,none⟩))
 | .func f=>K (.func (.func f) #[] #[])
theorem gL{n:Nat}{a:Act}{ν:c4}(σ:Rel n a ν){x:Operand}{K:Value->Prop}(h:eJ ν x K):K (a.eval x):=by
 cases x with
 |tmp t=>
  obtain⟨v,e,h⟩:=du h
  have:=σ.2.2 _ _ e
  show K (a.tmps.getD t undef);rw[FJ,this];exact h
 |const v=>exact h
 |global g=>exact h
 |func f=>exact h
def o6(ν:c4):List Operand->(aU->Prop)->Prop
 |[],K=>K []
 |x::r,K=>eJ ν x λv=>o6 ν r λvs=>K (v::vs)
theorem xW{n:Nat}{a:Act}{ν:c4}(σ:Rel n a ν):∀{xs:List Operand}{K:aU->Prop},o6 ν xs K->K (xs.map a.eval)
 |[],_,h=>h
 |x::r,K,h=>xW σ (xs:=r) (gL σ h)
def AO(ν:c4):Option Operand->(Option Value->Prop)->Prop
 |none,K=>K none
 |some x,K=>eJ ν x λv=>K (some v)
theorem VC{n:Nat}{a:Act}{ν:c4}(σ:Rel n a ν):∀{x:Option Operand}{K:Option Value->Prop},AO ν x K->K (x.map a.eval)
 |none,_,h=>h
 |some x,K,h=>gL (K:=λv=>K (some v)) σ h
def Lg(ν:c4):List (Nat×Operand)->(List (Nat×Value)->Prop)->Prop
 |[],K=>K []
 |(i,x)::r,K=>eJ ν x λv=>Lg ν r λvs=>K ((i,v)::vs)
theorem VB{n:Nat}{a:Act}{ν:c4}(σ:Rel n a ν):∀{xs:List (Nat×Operand)}{K:List (Nat×Value)->Prop},Lg ν xs K->K (xs.map λ(i,x)=>(i,a.eval x))
 |[],_,h=>h
 |(i,x)::r,K,h=>VB σ (xs:=r) (gL (K:=λv=>Lg ν r λvs=>K ((i,v)::vs)) σ h)
def gu{α:Type}(P:Program)(m:Sem α)(H:Array Obj)(v:α):Prop:=∀w:World,w.heap=H->m.run P w=.ok v w
theorem gu.pure{α:Type}{P:Program}{H:Array Obj}(v:α):gu P (pure v) H v:=λ_ _=>rfl
theorem gu.underlying{P:Program}{H:Array Obj}{t:TypeId}{d:TypeDesc}(h:P.underlying t=some d):gu P (underlying t) H d:=λw _=>run_underlying h w
theorem cT.kd{P:Program}{H:Array Obj}{t:TypeId}{i:cR}(h:cT P t i):gu P (Go.underlying t) H i.desc:=gu.underlying h.1
theorem cT.rJ{P:Program}{H:Array Obj}{t:TypeId}{i:cR}(h:cT P t i):gu P (sizeOf t) H i.size:=λw _=>by
 obtain⟨_,η,_⟩:=h;cases ay:P.info? t with
 |none=>simp[ay]at η
 |some x=>
  simp only[ay,jd,sb,FK]at η;simp[sizeOf,typeInfo,ay,η.1]
def Ae:TypeDesc->Bool
 | .struct _=>true
 | .array _ _=>true
 |_=>false
theorem cT.N1{P:Program}{H:Array Obj}{t:TypeId}{i:cR}(h:cT P t i):gu P (isAgg t) H (Ae i.desc):=λw hw=>by unfold isAgg;rw[Sem.run_bind,h.kd w hw,Result.andThen_ok];cases i.desc<;>rfl
def uh(x y:Nat):Option Nat:=FloatKind.f64.format.add x y
def ey(op:BinOp)(x y:Nat):Bool:=
 let c:=FloatKind.f64.format.order x y
 match op with
 | .eql=>c==some .eq
 | .neq=>c !=some .eq
 | .lss=>c==some .lt
 | .leq=>c==some .lt||c==some .eq
 | .gtr=>c==some .gt
 | .geq=>c==some .gt||c==some .eq
 |_=>false
def ab5:BinOp->Bool
 | .eql=>true| .neq=>true| .lss=>true| .leq=>true| .gtr=>true| .geq=>true
 |_=>false
def Nj(op:BinOp)(k:IntKind)(a b:Int)(K:Value->Prop):Prop:=
 match op with
 | .add=>K (.int k (k.wrap (a+b)))
 | .sub=>K (.int k (k.wrap (a-b)))
 | .mul=>K (.int k (k.wrap (a*b)))
 | .quo=>ο (decide (b≠0)) (K (.int k (k.wrap (a.tdiv b))))
 | .rem=>ο (decide (b≠0)) (K (.int k (a.tmod b)))
 | .and=>K (.int k (k.wrap (BitVec.ofInt k.bits a&&&BitVec.ofInt k.bits b).toNat))
 | .or=>K (.int k (k.wrap (BitVec.ofInt k.bits a|||BitVec.ofInt k.bits b).toNat))
 | .xor=>K (.int k (k.wrap (BitVec.ofInt k.bits a^^^BitVec.ofInt k.bits b).toNat))
 | .eql=>K (.bool (a==b))
 | .neq=>K (.bool (a !=b))
 | .lss=>K (.bool (decide (a<b)))
 | .leq=>K (.bool (decide (a<=b)))
 | .gtr=>K (.bool (decide (a>b)))
 | .geq=>K (.bool (decide (a>=b)))
 |_=>False
theorem akq{P:Program}{H:Array Obj}{op:BinOp}{k:IntKind}{a b:Int}{K:Value->Prop}{t:TypeId}(h:Nj op k a b K):
  ∃v,gu P (binOp op t (.int k a) (.int k b)) H v/\K v:=by
 cases op<;>simp only[Nj]at h<;>first
  |exact h.elim
  |(obtain⟨ω,h⟩:=h5 h
    have ω:=cd ω;exact⟨_,λw _=>by simp[binOp,Op.intDiv,ω],h⟩)
  |exact⟨_,λw _=>by simp[binOp,Op.intArith,Op.intBits,Op.intCmp],h⟩
def Nk(op:BinOp)(k:IntKind)(a b:Int)(K:Value->Prop):Prop:=
 match op with
 | .shl=>ο (decide (0<=b)) (K (.int k (k.wrap (a*2^(min b.toNat k.bits)))))
 | .shr=>ο (decide (0<=b)) (K (.int k (a.fdiv (2^(min b.toNat k.bits)))))
 |_=>False
theorem aku{P:Program}{H:Array Obj}{op:BinOp}{k k':IntKind}{a b:Int}{K:Value->Prop}{t:TypeId}(h:Nk op k a b K):
  ∃v,gu P (binOp op t (.int k a) (.int k' b)) H v/\K v:=by
 cases op<;>simp only[Nk]at h<;>first
  |exact h.elim
  |(obtain⟨ω,h⟩:=h5 h
    have ω:¬b<0:=by have:=cd ω;omega
    exact⟨_,λw _=>by simp[binOp,Op.shift,ω],h⟩)
def ab6:BinOp->Bool
 | .shl=>true| .shr=>true
 |_=>false
theorem as1{P:Program}{t:TypeId}{x y:Value}{w:World}{b:Bool}(h:(Op.equalIn (9999+1) t x y).run P w=.ok b w):(Op.equal t x y).run P w=.ok b w:=h
theorem SM{P:Program}{H:Array Obj}{t:TypeId}{op:BinOp}{x y:Value}{b:Bool}{v:Value}(I:binOp op t x y=match op with| .eql=>(do pure (.bool (<-Op.equal t x y)))|_=>(do pure (.bool (!(<-Op.equal t x y)))))
  (h:∀w:World,(Op.equalIn (9999+1) t x y).run P w=.ok b w)(aL:v=match op with| .eql=>.bool b|_=>.bool (!b)):gu P (binOp op t x y) H v:=λw _=>by
 rw[I,aL];cases op<;>simp[as1 (h w)]
def z8(op:BinOp)(r:Bool)(K:Value->Prop):Prop:=
 match op with
 | .eql=>K (.bool r)
 | .neq=>K (.bool (!r))
 |_=>False
noncomputable abbrev fits(a b:ByteArray):Bool:=@decide (((a.size+b.size:Nat):Int)<=IntKind.i64.max) (Classical.propDecidable _)
theorem Hf{a b:ByteArray}(h:((a.size+b.size:Nat):Int)<=IntKind.i64.max){N:Prop}(k:N):ο (fits a b) N:=bO (@bC _ (Classical.propDecidable _) h) k
def WB(op:BinOp)(a b:ByteArray)(K:Value->Prop):Prop:=
 match op with
 | .eql=>K (.bool (a.toList==b.toList))
 | .neq=>K (.bool (!(a.toList==b.toList)))
 | .lss=>K (.bool (Op.bytesLess a.toList b.toList))
 | .add=>ο (fits a b) (K (.string (a++b)))
 |_=>False
def JF(d:TypeDesc)(op:BinOp)(x y:Value)(K:Value->Prop):Prop:=
 match x,y with
 | .int k a,.int k' b=>cond (ab6 op) (Nk op k a b K) (ο (decide (k'=k)) (Nj op k a b K))
 | .float .f64 a,.float .f64 b=>ο (ab5 op) (K (.bool (ey op a b)))
 | .complex .f64 a b,.complex .f64 c e=>
  match op with
  | .add=>ξ (uh a c) λr=>ξ (uh b e) λi=>K (.complex .f64 r i)
  |op=>z8 op (ey .eql a c&&ey .eql b e) K
 | .string a,.string b=>WB op a b K
 | .bool a,.bool b=>match d with| .bool=>z8 op (a==b) K|_=>False
 | .slice a _ _,.slice none _ _=>match d with| .slice _=>z8 op a.isNone K|_=>False
 | .pointer a,.pointer none=>match d with| .pointer _=>z8 op a.isNone K|_=>False
 |_,_=>False
theorem aks{P:Program}{H:Array Obj}{i:cR}{t:TypeId}(o:cT P t i){op:BinOp}{x y:Value}{K:Value->Prop}(h:JF i.desc op x y K):
  ∃v,gu P (binOp op t x y) H v/\K v:=by
 unfold JF at h;split at h
 ·rename_i k a k' b;by_cases ψ:ab6 op=true
  ·rw[ψ]at h;exact aku h
  ·rw[Bool.eq_false_iff.2 ψ]at h;obtain⟨e,h⟩:=h5 h;have e:=cd e;subst e;exact akq h
 ·rename_i a b;obtain⟨e,h⟩:=h5 h;refine⟨_,λw _=>?_,h⟩;cases op<;>first|(simp[ab5]at e;done)|simp[binOp,Op.floatCmp,ey]
 ·rename_i a b c e;split at h
  ·obtain⟨r,σ,h⟩:=du h;obtain⟨s,ψ,h⟩:=du h;refine⟨_,λw _=>?_,h⟩;unfold uh at σ ψ;simp[binOp,Op.complexOp,Op.Complex.arith,Op.floatArith,σ,ψ]
  ·cases op<;>simp only[z8]at h<;>first
    |exact h.elim
    |exact⟨_,λw _=>by simp[binOp,Op.complexOp,Op.Complex.cmp,Op.floatCmp,ey,asBool],h⟩
 ·rename_i a b;cases op<;>simp only[WB]at h<;>first
   |exact h.elim
   |exact⟨_,λw _=>by simp[binOp,Op.stringOp],h⟩
   |(obtain⟨e,h⟩:=h5 h
     have e:=@cd _ (Classical.propDecidable _) e;exact⟨_,λw _=>by simp[binOp,Op.stringOp];exact e,h⟩)
 ·rename_i a b;split at h
  ·rename_i ae;have hu:P.underlying t=some .bool:=by rw[o.1,ae]
   have e:∀w:World,(Op.equalIn (9999+1) t (.bool a) (.bool b)).run P w=.ok (a==b) w:=λw=>by unfold Op.equalIn;simp[run_underlying hu]
   cases op<;>simp only[z8]at h<;>first
    |exact h.elim
    |exact⟨_,SM rfl e rfl,h⟩
  ·exact h.elim
 ·rename_i a n c fk aT;split at h
  ·rename_i e ae;have hu:P.underlying t=some (.slice e):=by rw[o.1,ae]
   have e:∀w:World,(Op.equalIn (9999+1) t (.slice a n c) (.slice none fk aT)).run P w=.ok a.isNone w:=λw=>by unfold Op.equalIn;cases a<;>simp[run_underlying hu]
   cases op<;>simp only[z8]at h<;>first
    |exact h.elim
    |exact⟨_,SM rfl e rfl,h⟩
  ·exact h.elim
 ·rename_i a;split at h
  ·rename_i e ae;have hu:P.underlying t=some (.pointer e):=by rw[o.1,ae]
   have e:∀w:World,(Op.equalIn (9999+1) t (.pointer a) (.pointer none)).run P w=.ok a.isNone w:=λw=>by unfold Op.equalIn;cases a<;>simp[run_underlying hu]
   cases op<;>simp only[z8]at h<;>first
    |exact h.elim
    |exact⟨_,SM (by first|rfl|(cases a<;>rfl)) e rfl,h⟩
  ·exact h.elim
 ·exact h.elim
def aw(w:World)(a:Addr)(vs:aU):Prop:=∀j v,vs[j]?=some v->w.cell? (a.add j)=some v
def a8(w:World)(a:J)(vs:aU):Prop:=match a with|none=>vs=[]|some a=>aw w a vs
def strOf(qZ:ao):ByteArray:=qZ.foldl (λr n=>r.push (UInt8.ofNat n.toNat)) ByteArray.empty
theorem Zo{w w':World}(h:w'.heap=w.heap)(a:Addr):w'.cell? a=w.cell? a:=by simp only[World.cell?,h]
section
variable{P:Program}{H:Array Obj}
theorem amA{w:World}{a:Addr}{v:Value}(h:w.cell? a=some v):gu P (load a) w.heap v:=λw' fW=>by rw[run_load,Zo fW,h]
theorem Tb{w:World}{a:Addr}{vs:aU}(h:aw w a vs):gu P (loadCells a vs.length) w.heap vs.toArray:=λw' fW=>
 run_loadCells_list w' a vs λj v aL=>by rw[Zo fW];exact h j v aL
def Pn(c:c3)(t:TypeId)(cs:ah)(off:Nat)(K:Value->Prop):Prop:=
 ξ (eU c.tb t) λi=>cond (Ae i.desc) (K (.agg (cs.extract off (off+i.size)))) (ξ cs[off]? λv=>yH i.desc v K)
theorem adE{c:c3}(π:ht c){t:TypeId}{cs:ah}{off:Nat}{K:Value->Prop}(h:Pn c t cs off K):
  ∃v,gu c.P (part t cs off) H v/\K v:=by
 obtain⟨i,o,h⟩:=du h;have o:=π.fs o;cases ae:Ae i.desc with
 |true=>
  rw[ae]at h;refine⟨_,λw hw=>?_,h⟩;unfold part;rw[Sem.run_bind,o.N1 w hw,Result.andThen_ok,ae,aY rfl,Sem.run_bind,o.rJ w hw];rfl
 |false=>
  rw[ae]at h;obtain⟨v,aL,h⟩:=du h;refine⟨v,λw hw=>?_,DW h⟩;unfold part;rw[Sem.run_bind,o.N1 w hw,Result.andThen_ok,ae];simp[aL]
def SV(c:c3)(t:TypeId)(x:Value)(f:Nat)(K:Value->Prop):Prop:=
 dZ x λcs=>ξ (eU c.tb t) λi=>match i.desc with
  | .struct jw=>ξ jw[f]? λdn=>Pn c dn.type cs dn.offset K
  |_=>False
theorem amf{c:c3}(π:ht c){t:TypeId}{x:Value}{f:Nat}{K:Value->Prop}(h:SV c t x f K):
  ∃v,gu c.P (Instr.field t x f) H v/\K v:=by
 obtain⟨cs,rfl,h⟩:=yF h;obtain⟨i,o,h⟩:=du h;have o:=π.fs o;split at h
 ·rename_i jw ae;obtain⟨dn,bf,h⟩:=du h;obtain⟨v,aL,h⟩:=adE π (H:=H) h;refine⟨v,λw hw=>?_,h⟩;unfold Instr.field;rw[Sem.run_bind,o.kd w hw,Result.andThen_ok,ae];simp[bf,asAgg,aL w hw]
 ·exact h.elim
def OS(c:c3)(t:TypeId)(x ll:Value)(K:Value->Prop):Prop:=
 match ll with
 | .int _ n=>ο (decide (0<=n)) (ξ (eU c.tb t) λi=>match i.desc with
  | .array len e=>dZ x λcs=>ο (decide (n<(len:Int))) (ξ (eU c.tb e) λei=>Pn c e cs (n.toNat*ei.size) K)
  | .string=>lH x λs=>ξ s[n.toNat]? λb=>K (.int .u8 (b.toNat:Int))
  |_=>False)
 |_=>False
theorem apI{c:c3}(π:ht c){t:TypeId}{x ll:Value}{K:Value->Prop}(h:OS c t x ll K):
  ∃v,gu c.P (Instr.index t x ll) H v/\K v:=by
 unfold OS at h;split at h
 ·rename_i k n;obtain⟨aF,h⟩:=h5 h;have aF:=cd aF;obtain⟨i,o,h⟩:=du h;have o:=π.fs o;split at h
  ·rename_i len e ae;obtain⟨cs,rfl,h⟩:=yF h;obtain⟨h1,h⟩:=h5 h;have h1:=cd h1;obtain⟨ei,gq,h⟩:=du h;have gq:=π.fs gq;obtain⟨v,aL,h⟩:=adE π (H:=H) h;refine⟨v,λw hw=>?_,h⟩;unfold Instr.index;simp only[asIntOf,pure_bind];rw[Sem.run_bind,o.kd w hw,Result.andThen_ok,ae];simp only[aF,h1,and_self,o9];rw[Sem.run_bind,gq.rJ w hw,Result.andThen_ok,aL w hw]
  ·rename_i ae;obtain⟨s,rfl,h⟩:=xk h;obtain⟨b,ω,h⟩:=du h;refine⟨_,λw hw=>?_,h⟩;unfold Instr.index;simp only[asIntOf,pure_bind];rw[Sem.run_bind,o.kd w hw,Result.andThen_ok,ae];simp[aF,ω]
  ·exact h.elim
 ·exact h.elim
def SU(c:c3)(t:TypeId)(x:Value)(f:Nat)(K:Value->Prop):Prop:=
 hD x λp=>ξ p λa=>ξ (eU c.tb t) λi=>match i.desc with
  | .struct jw=>ξ jw[f]? λdn=>ξ (eU c.tb dn.type) λj=>ο (decide (j.size≠0)) (K (.pointer (some (a.add dn.offset))))
  |_=>False
theorem amc{c:c3}(π:ht c){t:TypeId}{x:Value}{f:Nat}{K:Value->Prop}(h:SU c t x f K):
  ∃v,gu c.P (Instr.fieldAt t x f) H v/\K v:=by
 obtain⟨p,rfl,h⟩:=uu h;obtain⟨a,rfl,h⟩:=du h;obtain⟨i,o,h⟩:=du h;have o:=π.fs o;split at h
 ·rename_i jw ae;obtain⟨dn,bf,h⟩:=du h;obtain⟨j,χ,h⟩:=du h;have χ:=π.fs χ;obtain⟨aF,h⟩:=h5 h;have aF:=cd aF;refine⟨_,λw hw=>?_,h⟩;unfold Instr.fieldAt;rw[Sem.run_bind,o.kd w hw,Result.andThen_ok,ae];simp only[bf,Instr.sureAddr,pure_bind,fieldPlace];rw[Sem.run_bind,Sem.run_bind,χ.rJ w hw];simp[aF]
 ·exact h.elim
def OQ(c:c3)(t:TypeId)(x ll:Value)(K:Value->Prop):Prop:=
 match ll with
 | .int _ n=>ο (decide (0<=n)) (ξ (eU c.tb t) λi=>match i.desc with
  | .array len e=>hD x λp=>ξ p λa=>ο (decide (n<(len:Int))) (ξ (eU c.tb e) λei=>K (.pointer (some (a.add (n.toNat*ei.size)))))
  | .slice e=>df x λp len _=>ο (decide (n<(len:Int))) (ξ p λa=>ξ (eU c.tb e) λei=>K (.pointer (some (a.add (n.toNat*ei.size)))))
  |_=>False)
 |_=>False
theorem apG{c:c3}(π:ht c){t:TypeId}{x ll:Value}{K:Value->Prop}(h:OQ c t x ll K):
  ∃v,gu c.P (Instr.indexAt t x ll) H v/\K v:=by
 unfold OQ at h;split at h
 ·rename_i k n;obtain⟨aF,h⟩:=h5 h;have aF:=cd aF;obtain⟨i,o,h⟩:=du h;have o:=π.fs o;split at h
  ·rename_i len e ae;obtain⟨p,rfl,h⟩:=uu h;obtain⟨a,rfl,h⟩:=du h;obtain⟨h1,h⟩:=h5 h;have h1:=cd h1;obtain⟨ei,gq,h⟩:=du h;have gq:=π.fs gq;refine⟨_,λw hw=>?_,h⟩;unfold Instr.indexAt;simp only[asIntOf,pure_bind];have ψ:=gq.rJ w hw;simp[o.kd w hw,ae,Instr.sureAddr,aF,h1,ψ]
  ·rename_i e ae;obtain⟨p,len,dw,rfl,h⟩:=nu h;obtain⟨h1,h⟩:=h5 h;have h1:=cd h1;obtain⟨a,rfl,η⟩:=du h;obtain⟨ei,gq,au⟩:=du η;have gq:=π.fs gq;refine⟨_,λw hw=>?_,au⟩;unfold Instr.indexAt;simp only[asIntOf,pure_bind];have ψ:=gq.rJ w hw;simp[o.kd w hw,ae,Instr.sureAddr,aF,h1,ψ]
  ·exact h.elim
 ·exact h.elim
def U9(c:c3)(t:TypeId)(x:Value)(w:World)(K:Value->Prop):Prop:=
 hD x λp=>ξ p λa=>ξ (eU c.tb t) λi=>match i.desc with
  | .int k=>∃n:Int,w.cell? a=some (.int k n)/\K (.int k n)
  | .bool=>∃b:Bool,w.cell? a=some (.bool b)/\K (.bool b)
  | .string=>∃s:ByteArray,w.cell? a=some (.string s)/\K (.string s)
  | .float _=>∃b:Nat,w.cell? a=some (.float .f64 b)/\K (.float .f64 b)
  | .complex _=>∃r m:Nat,w.cell? a=some (.complex .f64 r m)/\K (.complex .f64 r m)
  | .slice _=>∃(p:J)(n m:Nat),w.cell? a=some (.slice p n m)/\K (.slice p n m)
  | .pointer _=>∃p:J,w.cell? a=some (.pointer p)/\K (.pointer p)
  | .map _ _=>∃r:Option Nat,w.cell? a=some (.map r)/\K (.map r)
  | .struct _=>∃cs:ah,cs.size=i.size/\aw w a cs.toList/\K (.agg cs)
  | .array _ _=>∃cs:ah,cs.size=i.size/\aw w a cs.toList/\K (.agg cs)
  | .interface _=>∃v:Value,w.cell? a=some v/\K v
  | .func _ _ _=>∃v:Value,w.cell? a=some v/\K v
  |_=>False
theorem N2{c:c3}(π:ht c){t:TypeId}{i:cR}(o:cT c.P t i)(ae:Ae i.desc=false){w:World}{a:Addr}{v:Value}(h:w.cell? a=some v):
  gu c.P (Instr.loadAt t (.pointer (some a))) w.heap v:=λw' fW=>by
 have η:=o.N1 (H:=w.heap) w' fW;rw[ae]at η;have au:=amA (P:=c.P) h w' fW;unfold Instr.loadAt;simp only[Instr.sureAddr,pure_bind];unfold loadVar;rw[Sem.run_bind,η,Result.andThen_ok];exact au
theorem aas{c:c3}(π:ht c){t:TypeId}{i:cR}(o:cT c.P t i)(ae:Ae i.desc=true){w:World}{a:Addr}{cs:ah}(ψ:cs.size=i.size)(h:aw w a cs.toList):
  gu c.P (Instr.loadAt t (.pointer (some a))) w.heap (.agg cs):=λw' fW=>by
 have η:=o.N1 (H:=w.heap) w' fW;rw[ae]at η;have au:=Tb (P:=c.P) h w' fW;have bV:=o.rJ (H:=w.heap) w' fW;rw[k0,ψ]at au;unfold Instr.loadAt;simp only[Instr.sureAddr,pure_bind];unfold loadVar;rw[Sem.run_bind,η,Result.andThen_ok,aY rfl,Sem.run_bind,bV,Result.andThen_ok,Sem.run_bind,au];simp
theorem ace{c:c3}(π:ht c){t:TypeId}{x:Value}{w:World}{K:Value->Prop}(h:U9 c t x w K):
  ∃v,gu c.P (Instr.loadAt t x) w.heap v/\K v:=by
 obtain⟨p,rfl,h⟩:=uu h;obtain⟨a,rfl,h⟩:=du h;obtain⟨i,o,h⟩:=du h;have o:=π.fs o;split at h<;>rename_i ae<;>first
  |(obtain⟨n,e,h⟩:=h;exact⟨_,N2 π o (by rw[ae];rfl) e,h⟩)
  |(obtain⟨n,m,e,h⟩:=h;exact⟨_,N2 π o (by rw[ae];rfl) e,h⟩)
  |(obtain⟨n,m,l,e,h⟩:=h;exact⟨_,N2 π o (by rw[ae];rfl) e,h⟩)
  |(obtain⟨cs,ψ,e,h⟩:=h;exact⟨_,aas π o (by rw[ae];rfl) ψ e,h⟩)
  |exact h.elim
def Ey(o:Option Value)(len cap:Nat)(K:a1):Prop:=
 match o with
 |none=>K len
 |some (.int _ n)=>ο (decide (0<=n)) (ο (decide (n<=(cap:Int))) (K n.toNat))
 |_=>False
def te(e6:Option Value)(h:Nat)(K:a1):Prop:=
 match e6 with
 |none=>K 0
 |some (.int _ n)=>ο (decide (0<=n)) (ο (decide (n<=(h:Int))) (K n.toNat))
 |_=>False
theorem R0{isS:Bool}{e6 o:Option Value}{len cap:Nat}{K:Nat->a1}(h:Ey o len cap λh=>te e6 h λl=>K l h):
  ∃l m,gu P (Instr.sliceBounds isS len cap e6 o none) H (l,m,cap)/\K l m:=by
 have ω:∀(k:IntKind)(n:Int)(y:Nat)(code:BoundsCode),0<=n->n<=(y:Int)->gu P (Instr.sliceBound (.int k n) y code) H n.toNat:=by intro k n y code aF h1 w _;simp[Instr.sliceBound,asIntOf,aF,h1]
 have key:∀{m:Nat},te e6 m (λl=>K l m)->∃l,gu P (match e6 with|some v=>Instr.sliceBound v m .sliceB|none=>pure 0) H l/\K l m:=by
  intro m h;unfold te at h;split at h
  ·exact⟨0,gu.pure _,h⟩
  ·obtain⟨aF,h⟩:=h5 h;obtain⟨h1,h⟩:=h5 h;exact⟨_,ω _ _ _ _ (cd aF) (cd h1),h⟩
  ·exact h.elim
 have apP:∃m,gu P (match o with|some v=>Instr.sliceBound v cap (if isS then .sliceAcap else .sliceAlen)|none=>pure len) H m/\te e6 m (λl=>K l m):=by
  unfold Ey at h;split at h
  ·exact⟨len,gu.pure _,h⟩
  ·obtain⟨aF,h⟩:=h5 h;obtain⟨h1,h⟩:=h5 h;exact⟨_,ω _ _ _ _ (cd aF) (cd h1),h⟩
  ·exact h.elim
 obtain⟨m,hm,h⟩:=apP;obtain⟨l,an,h⟩:=key h;refine⟨l,m,λw hw=>?_,h⟩;have h1:=hm w hw;have η:=an w hw;unfold Instr.sliceBounds;cases o<;>cases e6<;>simp_all[Sem.run_bind]
def dA(a:J)(m l s:Nat):J:=if m=l then a else a.map (·.add (l*s))
def Ww(c:c3)(t:TypeId)(x:Value)(e6 o:Option Value)(K:Value->Prop):Prop:=
 ξ (eU c.tb t) λi=>match i.desc with
  | .string=>lH x λs=>Ey o s.size s.size λh=>te e6 h λl=>K (.string (s.extract l h))
  | .slice e=>df x λa len cap=>ξ (eU c.tb e) λei=>Ey o len cap λh=>te e6 h λl=>K (.slice (dA a cap l ei.size) (h-l) (cap-l))
  | .array n e=>hD x λp=>ξ p λa=>ξ (eU c.tb e) λei=>Ey o n n λh=>te e6 h λl=>K (.slice (dA (some a) n l ei.size) (h-l) (n-l))
  |_=>False
theorem atu{c:c3}(π:ht c){t:TypeId}{x:Value}{e6 o:Option Value}{K:Value->Prop}(h:Ww c t x e6 o K):
  ∃v,gu c.P (Instr.sliceAt t x e6 o none) H v/\K v:=by
 obtain⟨i,o,h⟩:=du h;have o:=π.fs o;split at h
 ·rename_i ae;obtain⟨s,rfl,η⟩:=xk h;obtain⟨l,m,ω,au⟩:=R0 (P:=c.P) (H:=H) (isS:=false) η;refine⟨_,λw hw=>?_,au⟩;have h1:=o.kd w hw;rw[ae]at h1;have η:=ω w hw;unfold Instr.sliceAt;rw[Sem.run_bind,h1,Result.andThen_ok];dsimp only;unfold Instr.slice;rw[Sem.run_bind,h1,Result.andThen_ok];simp[η]
 ·rename_i e ae;obtain⟨a,len,cap,rfl,h⟩:=nu h;obtain⟨ei,gq,h⟩:=du h;have gq:=π.fs gq;obtain⟨l,m,ω,h⟩:=R0 (P:=c.P) (H:=H) (isS:=true) h;refine⟨_,λw hw=>?_,h⟩;have h1:=o.kd w hw;rw[ae]at h1;have η:=ω w hw;have au:=gq.rJ w hw;unfold Instr.sliceAt;rw[Sem.run_bind,h1,Result.andThen_ok];dsimp only;unfold Instr.slice;rw[Sem.run_bind,h1,Result.andThen_ok];simp[η,au,dA]
 ·rename_i n e ae;obtain⟨p,rfl,h⟩:=uu h;obtain⟨a,rfl,h⟩:=du h;obtain⟨ei,gq,h⟩:=du h;have gq:=π.fs gq;obtain⟨l,m,ω,h⟩:=R0 (P:=c.P) (H:=H) (isS:=false) h;refine⟨_,λw hw=>?_,h⟩;have h1:=o.kd w hw;rw[ae]at h1;have η:=ω w hw;have au:=gq.rJ w hw;unfold Instr.sliceAt;rw[Sem.run_bind,h1,Result.andThen_ok];simp only[Instr.sureAddr,pure_bind,Sem.run_bind,η,au,Result.andThen_ok,dA];by_cases aou:n=l<;>simp[aou]
 ·exact h.elim
def Wv(c:c3)(t:TypeId)(x:Value)(e6:Option Value)(o tf:Value)(K:Value->Prop):Prop:=
 ξ (eU c.tb t) λi=>match i.desc with
  | .slice e=>df x λa len cap=>ξ (eU c.tb e) λei=>te (some tf) cap λm=>te (some o) m λh=>te e6 h λl=>K (.slice (dA a m l ei.size) (h-l) (m-l))
  |_=>False
theorem Vc{v:Value}{n:Nat}{K:a1}(h:te (some v) n K):∃m,(∀code,gu P (Instr.sliceBound v n code) H m)/\K m:=by
 unfold te at h;split at h
 ·rename_i e;cases e
 ·rename_i k j e;cases e;obtain⟨aF,h⟩:=h5 h;obtain⟨h1,h⟩:=h5 h;have aF:=cd aF;have h1:=cd h1;exact⟨_,λcode w _=>by simp[Instr.sliceBound,asIntOf,aF,h1],h⟩
 ·exact h.elim
theorem ats{c:c3}(π:ht c){t:TypeId}{x:Value}{e6:Option Value}{o tf:Value}{K:Value->Prop}(h:Wv c t x e6 o tf K):
  ∃v,gu c.P (Instr.sliceAt t x e6 (some o) (some tf)) H v/\K v:=by
 obtain⟨i,lg,h⟩:=du h;have lg:=π.fs lg;split at h
 ·rename_i e ae;obtain⟨a,len,cap,rfl,h⟩:=nu h;obtain⟨ei,gq,h⟩:=du h;have gq:=π.fs gq;obtain⟨m,hm,h⟩:=Vc (P:=c.P) (H:=H) h;obtain⟨eo,aob,h⟩:=Vc (P:=c.P) (H:=H) h;have pz:∃l,(∀w:World,w.heap=H->(match e6 with|some v=>Instr.sliceBound v eo .slice3C|none=>pure 0).run c.P w=.ok l w)/\K (.slice (dA a m l ei.size) (eo-l) (m-l)):=by
   cases e6 with
   |none=>exact⟨0,λw _=>by simp,h⟩
   |some v=>
    obtain⟨l,an,h⟩:=Vc (P:=c.P) (H:=H) h;exact⟨l,λw hw=>an _ w hw,h⟩
  obtain⟨l,an,h⟩:=pz;refine⟨_,λw hw=>?_,h⟩;have h1:=lg.kd w hw;rw[ae]at h1;have η:=hm .slice3Acap w hw;have au:=gq.rJ w hw;have bV:=aob .slice3B w hw;have c9:=an w hw;unfold Instr.sliceAt;rw[Sem.run_bind,h1,Result.andThen_ok];dsimp only;unfold Instr.slice;rw[Sem.run_bind,h1,Result.andThen_ok];unfold Instr.sliceBounds;cases e6<;>simp_all[dA,Sem.run_bind]
 ·exact h.elim
def ZX(k:IntKind)(b:Nat)(K:Value->Prop):Prop:=
 ξ ((FloatKind.f64.decode b).toInt .zero) λn=>ο (decide (k.min<=n)) (ο (decide (n<=k.max)) (K (.int k n)))
def atM(w:World)(a:J)(n:Nat)(K:Value->Prop):Prop:=
 ∃qZ:ao,qZ.length=n/\a8 w a (qZ.map (Value.int .u8))/\K (.string (strOf qZ))
def JL(c:c3)(s d:TypeId)(x:Value)(w:World)(K:Value->Prop):Prop:=
 ξ (eU c.tb s) λi=>ξ (eU c.tb d) λj=>match j.desc with
  | .int k=>(match x with
   | .int _ n=>K (.int k (k.wrap n))
   | .float .f64 b=>ZX k b K
   |_=>False)
  | .float .f64=>(match x with
   | .int _ n=>K (.float .f64 (FloatKind.f64.nearest n))
   |_=>False)
  | .string=>(match i.desc with
   | .slice e=>ξ (eU c.tb e) λei=>(match ei.desc with
    | .int .u8=>df x λa n _=>atM w a n K
    |_=>False)
   | .string=>lH x λs=>K (.string s)
   |_=>False)
  |_=>False
theorem akZ{c:c3}(π:ht c){s d:TypeId}{x:Value}{w:World}{K:Value->Prop}(h:JL c s d x w K):
  ∃v,gu c.P (convert s d x) w.heap v/\K v:=by
 obtain⟨i,o,h⟩:=du h;have o:=π.fs o;obtain⟨j,χ,h⟩:=du h;have χ:=π.fs χ;split at h
 ·rename_i k ae;split at h
  ·rename_i k' n;refine⟨_,λw' hw=>?_,h⟩;unfold convert;rw[Sem.run_bind,o.kd w' hw,Result.andThen_ok,Sem.run_bind,χ.kd w' hw,Result.andThen_ok,ae];cases i.desc<;>rfl
  ·rename_i lW eY dR;obtain⟨n,ar,h⟩:=du h;obtain⟨aF,h⟩:=h5 h;obtain⟨h1,h⟩:=h5 h;refine⟨_,λw' hw=>?_,h⟩;unfold convert;rw[Sem.run_bind,o.kd w' hw,Result.andThen_ok,Sem.run_bind,χ.kd w' hw,Result.andThen_ok,ae];have aF:=cd aF;have h1:=cd h1;have e:(Conv.floatToInt .f64 lW k).run c.P w'=.ok (.int k n) w':=by
    simp[Conv.floatToInt,ar,aF,h1]
   cases i.desc<;>exact e
  ·exact h.elim
 ·rename_i ae;split at h
  ·rename_i k' n;refine⟨_,λw' hw=>?_,h⟩;unfold convert;rw[Sem.run_bind,o.kd w' hw,Result.andThen_ok,Sem.run_bind,χ.kd w' hw,Result.andThen_ok,ae];cases i.desc<;>rfl
  ·exact h.elim
 ·rename_i ae;split at h
  ·rename_i e ψ;obtain⟨ei,gq,h⟩:=du h;have gq:=π.fs gq;split at h
   ·rename_i he;obtain⟨a,n,dw,rfl,qZ,an,iy,h⟩:=nu h;refine⟨_,λw' hw=>?_,h⟩;have KI:c.P.underlying s=some (.slice e):=by rw[o.1,ψ]
    have aph:c.P.underlying e=some (.int .u8):=by rw[gq.1,he]
    have api:c.P.underlying d=some .string:=by rw[χ.1,ae]
    rw[run_convert_bytes_string w' s d e a n dw KI aph api];cases a with
    |none=>
     have:qZ=[]:=by simpa[a8]using iy
     subst this;rfl
    |some a=>
     refine run_bytesToString w' a n dw qZ ?_
     have:=Tb (P:=c.P) (w:=w) (a:=a) (vs:=qZ.map (Value.int .u8)) iy w' hw
     rwa[jP,an]at this
   ·exact h.elim
  ·rename_i ψ;obtain⟨ayo,rfl,h⟩:=xk h;refine⟨_,λw' hw=>?_,h⟩;unfold convert;rw[Sem.run_bind,o.kd w' hw,Result.andThen_ok,Sem.run_bind,χ.kd w' hw,Result.andThen_ok,ae,ψ];rfl
  ·exact h.elim
 ·exact h.elim
end
def Va(c:c3)(t:TypeId)(x:Value)(K:Value->Prop):Prop:=
 ξ (eU c.tb t) λi=>match i.desc with
  | .string=>lH x λs=>K (.int .i64 (s.size:Int))
  | .array n _=>K (.int .i64 (n:Int))
  | .slice _=>df x λ_ n _=>K (.int .i64 (n:Int))
  |_=>False
def max2(a b:Int):Int:=if b>a then b else a
def min2(a b:Int):Int:=if b<a then b else a
def JG(c:c3)(b:Builtin)(gy:Array TypeId)(xs:aU)(K:Value->Prop):Prop:=
 match b with
 | .len=>(match xs with|[x]=>ξ gy[0]? λt=>Va c t x K|_=>False)
 | .real=>(match xs with|[x]=>lG x λa _=>K (.float .f64 a)|_=>False)
 | .imag=>(match xs with|[x]=>lG x λ_ a=>K (.float .f64 a)|_=>False)
 | .complex=>(match xs with|[x,y]=>xj x λa=>xj y λb=>K (.complex .f64 a b)|_=>False)
 | .max=>(match xs with|[.int k a,.int _ b]=>K (.int k (max2 a b))|_=>False)
 | .min=>(match xs with|[.int k a,.int _ b]=>K (.int k (min2 a b))|_=>False)
 | .cap=>(match xs with|[x]=>ξ gy[0]? λt=>ξ (eU c.tb t) λi=>(match i.desc with| .slice _=>df x λ_ _ n=>K (.int .i64 (n:Int))|_=>False)|_=>False)
 |_=>False
theorem apZ{c:c3}(π:ht c){H:Array Obj}{gy:Array TypeId}{t:TypeId}(aO:gy[0]?=some t){ty:TypeId}{x:Value}{K:Value->Prop}(h:Va c t x K):
  ∃v,gu c.P (Builtin.len_ gy ty #[x]) H v/\K v:=by
 obtain⟨i,o,h⟩:=du h;have o:=π.fs o;split at h
 ·rename_i ae;obtain⟨s,rfl,η⟩:=xk h;refine⟨_,λw hw=>?_,η⟩;have h1:=o.kd w hw;rw[ae]at h1;simp[Builtin.len_,aO,h1,goInt]
 ·rename_i n e ae;refine⟨_,λw hw=>?_,h⟩;have h1:=o.kd w hw;rw[ae]at h1;simp[Builtin.len_,aO,h1,goInt]
 ·rename_i e ae;obtain⟨a,n,dw,rfl,η⟩:=nu h;refine⟨_,λw hw=>?_,η⟩;have h1:=o.kd w hw;rw[ae]at h1;simp[Builtin.len_,aO,h1,goInt]
 ·exact h.elim
theorem akx{c:c3}(π:ht c){H:Array Obj}{b:Builtin}{gy:Array TypeId}{ty:TypeId}{cs:Array Bool}{xs:aU}{K:Value->Prop}(h:JG c b gy xs K):
  ∃v,gu c.P (builtin b gy ty cs xs.toArray) H (Next.value v)/\K v:=by
 have lift:∀{m:Sem Value}{v:Value},gu c.P m H v->gu c.P (do pure (Next.value (<-m))) H (Next.value v):=by intro m v hm w hw;rw[Sem.run_bind,hm w hw];rfl
 unfold JG at h;split at h
 ·split at h
  ·obtain⟨t,aO,h⟩:=du h;obtain⟨v,aL,h⟩:=apZ π (H:=H) aO (ty:=ty) h;exact⟨v,lift aL,h⟩
  ·exact h.elim
 ·split at h
  ·obtain⟨a,b,rfl,η⟩:=Ad h;exact⟨_,lift (gu.pure _),η⟩
  ·exact h.elim
 ·split at h
  ·obtain⟨a,b,rfl,η⟩:=Ad h;exact⟨_,lift (gu.pure _),η⟩
  ·exact h.elim
 ·split at h
  ·obtain⟨a,rfl,η⟩:=DV h;obtain⟨b,rfl,au⟩:=DV η;exact⟨_,lift (m:=Builtin.complex_ gy ty #[.float .f64 a,.float .f64 b]) λw _=>rfl,au⟩
  ·exact h.elim
 ·split at h
  ·rename_i k a k' b;refine⟨_,lift (m:=Builtin.max_ gy ty #[.int k a,.int k' b]) λw _=>?_,h⟩;simp[Builtin.max_,Builtin.max2,max2]
  ·exact h.elim
 ·split at h
  ·rename_i k a k' b;refine⟨_,lift (m:=Builtin.min_ gy ty #[.int k a,.int k' b]) λw _=>?_,h⟩;simp[Builtin.min_,Builtin.min2,min2]
  ·exact h.elim
 ·split at h
  ·obtain⟨t,aO,h⟩:=du h;obtain⟨i,o,h⟩:=du h;have o:=π.fs o;split at h
   ·rename_i x e ae;obtain⟨a,n,dw,rfl,η⟩:=nu h;refine⟨_,lift (m:=Builtin.cap_ gy ty #[.slice a n dw]) λw hw=>?_,η⟩;have h1:=o.kd w hw;rw[ae]at h1;simp[Builtin.cap_,aO,h1,goInt]
   ·exact h.elim
  ·exact h.elim
 ·exact h.elim
def QJ(op:UnOp)(x:Value)(K:Value->Prop):Prop:=
 match op,x with
 | .not,.bool b=>K (.bool (!b))
 | .neg,.int k n=>K (.int k (k.wrap (0-n)))
 | .xor,.int k n=>K (.int k (k.wrap (BitVec.ofInt k.bits (if k.signed then-1 else k.max)^^^BitVec.ofInt k.bits n).toNat))
 |_,_=>False
theorem awe{P:Program}{H:Array Obj}{op:UnOp}{x:Value}{K:Value->Prop}(h:QJ op x K):∃v,gu P (Op.unary op x) H v/\K v:=by
 unfold QJ at h;split at h
 ·exact⟨_,gu.pure _,h⟩
 ·exact⟨_,λw _=>by simp[Op.unary,Op.intArith],h⟩
 ·exact⟨_,λw _=>by simp[Op.unary,Op.intBits],h⟩
 ·exact h.elim
def Vn(x:Value)(K:Value->Prop):Prop:=
 match x with
 | .pointer p=>ξ p λa=>K (.pointer (some a))
 | .func (.func f) jM gF=>K (.func (.func f) jM gF)
 |_=>False
def VT(x y:Value):Bool:=
 match x,y with
 | .nilIface,_=>false
 | .agg _,_=>false
 |_,_=>true
def alU(P:Program)(op:BinOp)(t:TypeId)(MO MQ:Operand)(x y:Value)(b:Bool):Prop:=∀w:World,(do eqGuard op t MO MQ x y;binOp op t x y:Sem Value).run P w=.ok (.bool b) w
def ZS(P:Program)(op:BinOp)(t:TypeId)(MO MQ:Operand)(x y:Value)(K:Value->Prop):Prop:=∃b:Bool,alU P op t MO MQ x y b/\K (.bool b)
def uy(c:c3)(γ:Oper)(ν:c4)(w:World)(K:Value->Prop):Prop:=
 match γ.op with
 | .move x=>eJ ν x K
 | .assign x=>eJ ν x K
 | .pick p a b=>eJ ν p λp=>dD p λt=>cond t (eJ ν a K) (eJ ν b K)
 | .load t a=>eJ ν a λa=>U9 c t a w K
 | .nilCheck x=>eJ ν x λx=>Vn x K
 | .binOp op t x y _=>eJ ν x λa=>eJ ν y λb=>cond (VT a b) (ξ (eU c.tb t) λi=>JF i.desc op a b K) (ZS c.P op t x y a b K)
 | .unOp op _ x=>eJ ν x λx=>QJ op x K
 | .convert s d x=>eJ ν x λx=>JL c s d x w K
 | .makeInterface t x=>eJ ν x λx=>ξ (eU c.tb t) λi=>(match i.desc with| .interface _=>False|_=>K (.iface t x))
 | .makeFunc fn jM gF=>o6 ν jM.toList λjM=>o6 ν gF.toList λgF=>K (.func fn jM.toArray gF.toArray)
 | .slice t x e6 o none=>eJ ν x λx=>AO ν e6 λe6=>AO ν o λo=>Ww c t x e6 o K
 | .slice t x e6 (some o) (some tf)=>eJ ν x λx=>AO ν e6 λe6=>eJ ν o λo=>eJ ν tf λtf=>Wv c t x e6 o tf K
 | .fieldAddr s x f=>eJ ν x λx=>SU c s x f K
 | .field t x f=>eJ ν x λx=>SV c t x f K
 | .indexAddr t x ll=>eJ ν x λx=>eJ ν ll λll=>OQ c t x ll K
 | .index t x ll=>eJ ν x λx=>eJ ν ll λll=>OS c t x ll K
 | .extract t ll=>eJ ν t λt=>b6 t λvs=>ξ vs[ll]? λv=>ξ (eU c.tb γ.type) λi=>yH i.desc v K
 | .build t parts=>Lg ν parts.toList λps=>ξ (eU c.tb t) λi=>(match i.desc with
  | .struct jw=>ξ (jw.toList.mapM λf=>(eU c.tb f.type).map λj=>(f.offset,j.size)) λpl=>ξ (Instr.fill (λi=>pl.toArray[i]?) i.zero.toArray ps) λcs=>K (.agg cs)
  | .array _ e=>ξ (eU c.tb e) λj=>ξ (Instr.fill (λi=>some (i*j.size,j.size)) i.zero.toArray ps) λcs=>K (.agg cs)
  |_=>False)
 | .sliceToArrayPointer t x=>eJ ν x λx=>ξ (eU c.tb t) λi=>(match i.desc with
  | .array n _=>df x λa len _=>ο (decide (n<=len)) (K (.pointer a))
  |_=>False)
 | .typeAssert x _ t ok=>eJ ν x λx=>ξ (eU c.tb t) λi=>(match i.desc with
  | .interface _=>False
  |_=>(match x with
   | .iface u v=>ο (decide (u=t)) (yH i.desc v λv=>K (if ok then .tuple #[v,.bool true]else v))
   |_=>False))
 | .call cl=>(match cl.callee with
  | .builtin b=>o6 ν cl.args.toList λxs=>JG c b cl.argTypes xs K
  |_=>False)
 |_=>False
def Yields(c:c3)(γ:Oper)(a:Act)(H:Array Obj)(v:Value):Prop:=gu c.P (execOp a.eval γ) H (Next.value v)
theorem od{P:Program}{H:Array Obj}{m:Sem Value}{v:Value}(hm:gu P m H v):gu P (do pure (Next.value (<-m))) H (Next.value v):=by intro w hw;rw[Sem.run_bind,hm w hw];rfl
theorem acu{c:c3}(π:ht c){H:Array Obj}:∀{jw:List Field}{pl:List (Nat×Nat)},(jw.mapM λf=>(eU c.tb f.type).map λj=>(f.offset,j.size))=some pl->
  gu c.P (jw.mapM λf=>do pure (f.offset,<-sizeOf f.type)) H pl
 |[],pl,h=>by
  simp only[List.mapM_nil]at h;obtain rfl:([]:List (Nat×Nat))=pl:=by simpa using h
  exact gu.pure _
 |f::jw,pl,h=>by
  simp only[List.mapM_cons]at h;cases χ:eU c.tb f.type with
  |none=>simp[χ]at h
  |some j=>
   have ψ:=(π.fs χ).rJ (H:=H);cases σ:(jw.mapM λf=>(eU c.tb f.type).map λj=>(f.offset,j.size))with
   |none=>simp[χ,σ]at h
   |some r=>
    have OE:=acu π (H:=H) σ;simp[χ,σ]at h;subst h;intro w hw;have h1:=ψ w hw;have η:=OE w hw;simp only[bind_pure_comp]at η;simp only[List.mapM_cons,bind_pure_comp];simp[h1,η]
theorem amz{c:c3}(π:ht c){H:Array Obj}{jw:Array Field}{pl:List (Nat×Nat)}(h:(jw.toList.mapM λf=>(eU c.tb f.type).map λj=>(f.offset,j.size))=some pl):
  gu c.P (jw.mapM λf=>do pure (f.offset,<-sizeOf f.type)) H pl.toArray:=by
 intro w hw;rw[Array.mapM_eq_mapM_toList,Sem.run_map];rw[acu π h w hw];rfl
theorem cT.Tc{P:Program}{H:Array Obj}{t:TypeId}{i:cR}(h:cT P t i):∃z,gu P (zeroValue t) H z/\z.cells=i.zero.toArray:=by
 obtain⟨_,_,au⟩:=h;cases ay:P.info? t with
 |none=>simp[ay]at au
 |some x=>
  cases aI:x.zero with
  |none=>simp[ay,aI]at au
  |some z=>
   simp[ay,aI]at au;refine⟨z,λw _=>by simp[zeroValue,typeInfo,ay,aI],?_⟩;rw[<-au,LD]
theorem JT{c:c3}(π:ht c){n:Nat}{γ:Oper}{a:Act}{ν:c4}(σ:Rel n a ν){w:World}{K:Value->Prop}(h:uy c γ ν w K):
  ∃v,Yields c γ a w.heap v/\K v:=by
 unfold uy at h;unfold Yields execOp;split at h<;>first|exact h.elim|(rename_i aE;rw[aE])
 ·exact⟨_,gu.pure _,gL σ h⟩
 ·exact⟨_,gu.pure _,gL σ h⟩
 ·obtain⟨t,aO,h⟩:=BL (gL σ h);dsimp only;rw[aO];cases t with
  |true=>exact⟨_,gu.pure _,gL σ h⟩
  |false=>exact⟨_,gu.pure _,gL σ h⟩
 ·obtain⟨v,aL,h⟩:=ace π (gL σ h);exact⟨v,od aL,h⟩
 ·have h:=gL σ h;unfold Vn at h;dsimp only;split at h
  ·rename_i p e;obtain⟨b,rfl,η⟩:=du h;rw[e];exact⟨_,gu.pure _,η⟩
  ·rename_i f jM gF e;rw[e];exact⟨_,gu.pure _,h⟩
  ·exact h.elim
 ·rename_i op t x y ayw;have h:=gL σ (gL σ h);cases he:VT (a.eval x) (a.eval y)with
  |false=>
   rw[he]at h;obtain⟨b,ω,h⟩:=h;exact⟨.bool b,od λw' _=>ω w',h⟩
  |true=>
  rw[he]at h;obtain⟨i,o,h⟩:=du h;obtain⟨v,aL,h⟩:=aks (H:=w.heap) (π.fs o) h;refine⟨v,od λw' fW=>?_,h⟩;have bL:(eqGuard op t x y (a.eval x) (a.eval y)).run c.P w'=.ok () w':=by
   unfold eqGuard;cases HK:a.eval x<;>rw[HK]at he<;>first
    |(simp[VT]at he;done)
    |(cases op<;>simp<;>rfl)
    |(cases op<;>rfl)
  rw[Sem.run_bind,bL,Result.andThen_ok,aL w' fW]
 ·obtain⟨v,aL,h⟩:=awe (P:=c.P) (H:=w.heap) (gL σ h);exact⟨v,od aL,h⟩
 ·obtain⟨v,aL,h⟩:=akZ π (gL σ h);exact⟨v,od aL,h⟩
 ·rename_i t x;obtain⟨i,o,h⟩:=du (gL σ h);have o:=π.fs o;split at h
  ·exact h.elim
  ·rename_i cc;refine⟨_,od λw' fW=>?_,h⟩;have hu:=o.kd w' fW;unfold Instr.makeInterface;rw[Sem.run_bind,hu,Result.andThen_ok];cases ae:i.desc<;>first|rfl|exact(cc _ ae).elim
 ·rename_i fn jM gF;have h:=xW σ h;have h:=xW σ h;refine⟨_,od (gu.pure _),?_⟩;have aM:(jM.toList.map a.eval).toArray=jM.map a.eval:=by rw[<-FL,LD]
  have bz:(gF.toList.map a.eval).toArray=gF.map a.eval:=by rw[<-FL,LD]
  rw[aM,bz]at h;exact h
 ·rename_i t x e6 o;have h:=gL σ h;have h:=VC σ h;have h:=VC σ h;obtain⟨v,aL,h⟩:=atu π (H:=w.heap) h;exact⟨v,od aL,h⟩
 ·rename_i t x e6 o tf;have h:=gL σ h;have h:=VC σ h;have h:=gL σ h;have h:=gL σ h;obtain⟨v,aL,h⟩:=ats π (H:=w.heap) h;exact⟨v,od aL,h⟩
 ·obtain⟨v,aL,h⟩:=amc π (H:=w.heap) (gL σ h);exact⟨v,od aL,h⟩
 ·obtain⟨v,aL,h⟩:=amf π (H:=w.heap) (gL σ h);exact⟨v,od aL,h⟩
 ·obtain⟨v,aL,h⟩:=apG π (H:=w.heap) (gL σ (gL σ h));exact⟨v,od aL,h⟩
 ·obtain⟨v,aL,h⟩:=apI π (H:=w.heap) (gL σ (gL σ h));exact⟨v,od aL,h⟩
 ·rename_i t ll;obtain⟨vs,l7,h⟩:=Zx (gL σ h);obtain⟨v,aL,h⟩:=du h;obtain⟨i,o,h⟩:=du h;refine⟨v,od λw' _=>?_,DW h⟩;rw[l7];simp[Instr.extract,aL]
 ·rename_i t parts;have h:=VB σ h;obtain⟨i,o,h⟩:=du h;have o:=π.fs o;obtain⟨z,aI,qW⟩:=o.Tc (H:=w.heap);have y0:(parts.map λ(i,x)=>(i,a.eval x)).toList=parts.toList.map λ(i,x)=>(i,a.eval x):=by simp
  split at h
  ·rename_i jw ae;obtain⟨pl,uH,h⟩:=du h;obtain⟨cs,iy,h⟩:=du h;refine⟨_,od λw' fW=>?_,h⟩;have hu:=o.kd w' fW;rw[ae]at hu;have hm:=amz π (H:=w.heap) uH w' fW;simp only[bind_pure_comp]at hm;unfold Instr.build;rw[Sem.run_bind,aI w' fW,Result.andThen_ok,Sem.run_bind,hu,Result.andThen_ok];simp only[bind_pure_comp];rw[Sem.run_bind,hm,Result.andThen_ok];rw[qW,y0,iy];rfl
  ·rename_i e ae;obtain⟨j,χ,h⟩:=du h;obtain⟨cs,iy,h⟩:=du h;refine⟨_,od λw' fW=>?_,h⟩;have hu:=o.kd w' fW;rw[ae]at hu;have χ:=(π.fs χ).rJ w' fW;unfold Instr.build;rw[Sem.run_bind,aI w' fW,Result.andThen_ok,Sem.run_bind,hu,Result.andThen_ok];dsimp only;rw[Sem.run_bind,χ,Result.andThen_ok];rw[qW,y0,iy];rfl
  ·exact h.elim
 ·rename_i t x;obtain⟨i,o,h⟩:=du (gL σ h);have o:=π.fs o;split at h
  ·rename_i m e ae;obtain⟨p,len,dw,I,h⟩:=nu h;obtain⟨aF,h⟩:=h5 h;have aF:¬len<m:=by have:=cd aF;omega
   refine⟨_,od λw' fW=>?_,h⟩;have hu:=o.kd w' fW;rw[ae]at hu;rw[I];unfold Instr.arrayAt;rw[Sem.run_bind,hu,Result.andThen_ok];simp[aF]
  ·exact h.elim
 ·rename_i x ayv t ok;obtain⟨i,o,h⟩:=du (gL σ h);have o:=π.fs o;split at h
  ·exact h.elim
  ·rename_i cc;split at h
   ·rename_i u v I;obtain⟨aF,h⟩:=h5 h;have aF:=cd aF;have η:=DW h;clear h;subst aF;refine⟨_,od λw' fW=>?_,η⟩;have hu:=o.kd w' fW;rw[I];unfold Instr.typeAssert;simp only[];rw[Sem.run_bind,hu,Result.andThen_ok];cases ae:i.desc<;>first|exact(cc _ ae).elim|simp
   ·exact h.elim
 ·rename_i cl;split at h
  ·rename_i b ω;have h:=xW σ h;obtain⟨v,aL,h⟩:=akx π (H:=w.heap) (ty:=γ.type) (cs:=cl.args.map λ| .const _=>true|_=>false) h;refine⟨v,λw' fW=>?_,h⟩;have aL:=aL w' fW;dsimp only;unfold resolve;rw[ω];simp only[pure_bind,invoke];have aM:(cl.args.toList.map a.eval).toArray=cl.args.map a.eval:=by rw[<-FL,LD]
   rw[aM]at aL;exact aL
  ·exact h.elim
def hG(w:World)(a:Addr)(vs:aU):Prop:=
 a.spot=none/\(∀j,j<vs.length->(w.cell? ⟨a.block,a.off+j,none⟩).isSome=true/\w.frozen? ⟨a.block,a.off+j,none⟩=false)/\∀v∈vs,v.oneCell'=true
abbrev bM(w:World)(a:Addr)(cs:List Value)(K:World->Prop):Prop:=hG w a cs/\∀w',w'=w.setCells a.block a.off cs->K w'
abbrev ef(w:World)(a:Addr)(v:Value)(K:World->Prop):Prop:=(w.cell? a).isSome=true/\w.frozen? a=false/\∀w',w'=w.setCell a v->K w'
theorem LW{P:Program}{w:World}{a:Addr}{vs:aU}(h:hG w a vs):(storeCells a vs).run P w=.ok () (w.setCells a.block a.off vs):=by obtain⟨b,γ,s⟩:=a;obtain⟨rfl,h,h1⟩:=h;exact run_storeCells_cells b γ vs 0 w (λj χ=>by simpa using(h j χ).1) (λj χ=>by simpa using(h j χ).2) h1
theorem yv(a:Addr)(n:Nat):(a.add n).block=a.block:=by unfold Addr.add;split<;>rfl
theorem Ju(a:Addr)(n:Nat):(a.add n).off=a.off+n:=by
 unfold Addr.add;split
 ·rename_i h;simp[h]
 ·rfl
def M5(w:World)(a:J)(off:Nat)(vs:aU):Prop:=match a with|none=>True|some a=>hG w (a.add off) vs
def k1(w:World)(a:J)(off:Nat)(vs:aU):World:=match a with|none=>w|some a=>w.setCells a.block (a.off+off) vs
def aeR(c:c3)(t:TypeId)(a:Addr)(v:Value)(w:World)(N:ai):Prop:=
 ξ (eU c.tb t) λi=>cond (Ae i.desc)
  (dZ v λcs=>ο (decide (cs.size=i.size)) (hG w a cs.toList/\∀w',w'=w.setCells a.block a.off cs.toList->N w'))
  (ο (decide (i.size=1)) (ο v.oneCell' ((w.cell? a).isSome=true/\w.frozen? a=false/\∀w',w'=w.setCell a v->N w')))
theorem atG{c:c3}(π:ht c){t:TypeId}{a:Addr}{v:Value}{w:World}{N:ai}(h:aeR c t a v w N):
  ∃w',(Instr.storeAt t (.pointer (some a)) v).run c.P w=.ok () w'/\N w':=by
 obtain⟨i,o,h⟩:=du h;have o:=π.fs o;have fj:=o.rJ (H:=w.heap) w rfl;cases ae:Ae i.desc with
 |true=>
  rw[ae]at h;obtain⟨cs,rfl,η⟩:=yF h;obtain⟨ψ,hw,au⟩:=h5 η;have ψ:=cd ψ;refine⟨_,?_,au _ rfl⟩;unfold Instr.storeAt;simp only[Instr.sureAddr,pure_bind];unfold storeVar;simp[fj,Value.cells,ψ,LW hw]
 |false=>
  rw[ae]at h;obtain⟨ψ,η⟩:=h5 h;obtain⟨h1,j0,bf,au⟩:=h5 η;have ψ:=cd ψ;obtain⟨u,hu⟩:=Ip.1 j0;refine⟨_,?_,au _ rfl⟩;have KK:v.cells=#[v]:=by cases v<;>first|rfl|(simp[Value.oneCell']at h1)
  have b0:(store a v).run c.P w=.ok () (w.setCell a v):=by rw[run_store c.P w a v _ h1];simp[hu,bf]
  unfold Instr.storeAt;simp only[Instr.sureAddr,pure_bind];unfold storeVar;simp[fj,KK,ψ,storeCells,Addr.add_zero',b0]
def aR(w:World)(cells:ah)(e:TypeId)(K:Nat->ai):Prop:=∀b w',b=w.heap.size->w'=w.alloc (.cells cells e)->K b w'
def acA(c:c3)(t:TypeId)(l m:Value)(w:World)(N:Value->ai):Prop:=
 ξ (eU c.tb t) λi=>match i.desc with
  | .slice e=>ξ (eU c.tb e) λei=>(match l,m with
   | .int _ l,.int _ m=>ο (decide (0<=l)) (ο (decide (l<=m)) (ο (decide ((ei.bytes:Int)*m<=281474976710656/\m<=9223372036854775807))
    (aR w (madeCells ei.zero.toArray (m.toNat*ei.size)) e λb w'=>N (.slice (some ⟨b,0,none⟩) l.toNat m.toNat) w')))
   |_,_=>False)
  |_=>False
theorem cT.info{P:Program}{t:TypeId}{i:cR}(h:cT P t i):∃x z,P.info? t=some x/\x.zero=some z/\z.cells=i.zero.toArray/\x.size=i.size/\x.bytes=i.bytes:=by
 obtain⟨_,η,au⟩:=h;cases ay:P.info? t with
 |none=>simp[ay]at au
 |some x=>
  cases aI:x.zero with
  |none=>simp[ay,aI]at au
  |some z=>
   simp[ay,aI]at au;simp[ay]at η;exact⟨x,z,rfl,aI,by rw[<-au,LD],η.1,η.2⟩
theorem aqw{c:c3}(π:ht c){t:TypeId}{l m:Value}{w:World}{N:Value->ai}(h:acA c t l m w N):
  ∃v w',(Instr.makeSlice t l m).run c.P w=.ok v w'/\N v w':=by
 obtain⟨i,o,h⟩:=du h;have o:=π.fs o;split at h
 ·rename_i e ae;obtain⟨ei,gq,h⟩:=du h;have gq:=π.fs gq;split at h
  ·rename_i apS l U4 m aot axN;obtain⟨aF,h⟩:=h5 h;obtain⟨h1,h⟩:=h5 h;obtain⟨η,h⟩:=h5 h;have aF:=cd aF;have h1:=cd h1;have η:=cd η;obtain⟨x,z,I,aI,qW,ψ,ω⟩:=gq.info
   have:=run_make w t e x z (P:=c.P) (by rw[o.1,ae]) I aI apS U4 l m aF h1 (by rw[ω];exact η.1) η.2
   rw[qW,ψ]at this;exact⟨_,_,this,h _ _ rfl rfl⟩
  ·exact h.elim
 ·exact h.elim
def gD(w:World)(base:J)(n cap:Nat)(m:Nat)(Src:aU->Prop)(e:TypeId)(size bytes:Nat)(zero:ah)(N:J->Nat->ai):Prop:=
 ∃xs:aU,xs.length=m*size/\Src xs/\
  (n+m<=cap->M5 w base (n*size) xs/\∀w',w'=k1 w base (n*size) xs->N base cap w')/\
  (cap<n+m->(n+m)*bytes<=140737488355328/\n+m<=9223372036854775807/\∃Fi:aU,Fi.length=n*size/\a8 w base Fi/\
   ∀b BK w',b=w.heap.size->n+m<=BK->w'=w.drew.alloc (.cells (Fi.toArray++xs.toArray++Builtin.zeroCells zero (BK-(n+m))) e)->N (some ⟨b,0,none⟩) BK w')
theorem P4{P:Program}{w w':World}(hw:w'.heap=w.heap){a:J}{xs:aU}(h:a8 w a xs){size n len cap:Nat}(an:xs.length=n*size):
  (Builtin.firstCells size n (.slice a len cap)).run P w'=.ok xs.toArray w':=by
 cases a with
 |none=>
  have:xs=[]:=h
  subst this;simp[Builtin.firstCells]
 |some a=>
  have:=Tb (P:=P) (w:=w) (a:=a) (vs:=xs) h w' hw
  rw[an]at this;exact this
theorem YG{c:c3}(π:ht c){w:World}{base:J}{n cap m:Nat}{Src:aU->Prop}{e:TypeId}{ei:cR}(gq:cT c.P e ei){N:J->Nat->ai}
  (h:gD w base n cap m Src e ei.size ei.bytes ei.zero.toArray N){gy:Array TypeId}{t ty:TypeId}{x:Value}(aO:gy[0]?=some t)(KH:c.P.underlying t=some (.slice e))
  (I:∀xs,Src xs->xs.length=m*ei.size->
   ((∃t1 d1,gy[1]?=some t1/\c.P.underlying t1=some d1/\(d1=.string\/∃c6,d1=.slice c6))/\(∀w':World,(Builtin.lenOf x).run c.P w'=.ok m w')/\∀w':World,w'.heap=w.heap->(Builtin.firstCells ei.size m x).run c.P w'=.ok xs.toArray w')):
  ∃a aT w',(Builtin.append_ gy ty #[.slice base n cap,x]).run c.P w=.ok (.slice a (n+m) aT) w'/\N a aT w':=by
 obtain⟨xs,an,OH,dg,Ky⟩:=h;obtain⟨⟨t1,d1,rT,KI,l0⟩,hlen,aa7⟩:=I xs OH an;obtain⟨inf,z,An,aI,qW,ψ,ω⟩:=gq.info;have uK:∀w':World,(underlying t).run c.P w'=.ok (.slice e) w':=λw'=>run_underlying KH w';have fj:∀w':World,(sizeOf e).run c.P w'=.ok ei.size w':=λw'=>by simp[sizeOf,typeInfo,An,ψ]
 have y2:∀w':World,(underlying t1).run c.P w'=.ok d1 w':=λw'=>run_underlying KI w';by_cases mE:n+m<=cap
 ·obtain⟨y4,eB⟩:=dg mE;refine⟨_,_,_,?_,eB _ rfl⟩;have bf:=aa7 w rfl;cases base with
  |none=>
   rcases l0 with rfl|⟨c6,rfl⟩<;>simp[Builtin.append_,aO,uK,fj,rT,y2,hlen,mE,bf,k1]
  |some a=>
   have b0:=LW (P:=c.P) y4;rw[yv,Ju]at b0;rcases l0 with rfl|⟨c6,rfl⟩<;>simp[Builtin.append_,aO,uK,fj,rT,y2,hlen,mE,bf,k1,b0]
 ·have bL:cap<n+m:=by omega
  obtain⟨Kc,Ak,Fi,pz,kW,eB⟩:=Ky bL;have jZ:n+m<=grownCap w (n+m) cap e:=grownCap_ge w _ _ e;refine⟨_,_,_,?_,eB _ (grownCap w (n+m) cap e) _ rfl jZ rfl⟩;have N8:¬(9223372036854775807<((n:Int)+(m:Int))):=by omega
  have an2:=growslice_fits (need:=n+m) (old:=cap) (bytes:=inf.bytes) bL (by rw[ω];exact Kc);have N7:¬(281474976710656<Builtin.nextslicecap (n+m) cap*inf.bytes):=by omega
  have bf:=aa7 w.drew rfl;have yU:=P4 (P:=c.P) (w:=w) (w':=w.drew) rfl kW (size:=ei.size) (n:=n) (len:=n) (cap:=cap) pz;have pB:∀w':World,(typeInfo e).run c.P w'=.ok inf w':=λw'=>by simp[typeInfo,An]
  have Ce:∀w':World,(zeroValue e).run c.P w'=.ok z w':=λw'=>by simp[zeroValue,typeInfo,An,aI]
  rcases l0 with rfl|⟨c6,rfl⟩<;>simp[Builtin.append_,aO,uK,fj,rT,y2,hlen,mE,pB,Ce,N8,N7,Question.forced,bf,yU,newRow,grownCap,qW]
  all_goals
   congr 2;apply qq;simp[mc]
def Nd(w:World)(base:J)(n cap m:Nat)(e:TypeId)(size bytes:Nat)(zero:ah)(N:J->Nat->ai):Prop:=
 (m:Int)*(bytes:Int)<=281474976710656/\(m:Int)<=9223372036854775807/\gD w base n cap m (λxs=>xs.toArray=Builtin.zeroCells zero m) e size bytes zero N
theorem akj{c:c3}(π:ht c){w:World}{base:J}{n cap m:Nat}{e:TypeId}{ei:cR}(gq:cT c.P e ei){N:J->Nat->ai}
  (h:Nd w base n cap m e ei.size ei.bytes ei.zero.toArray N){gy:Array TypeId}{t t1 ty:TypeId}{aZ:IntKind}(aO:gy[0]?=some t)(KH:c.P.underlying t=some (.slice e))(rT:gy[1]?=some t1)(KI:c.P.underlying t1=some (.int aZ)):
  ∃a aT w',(∀k:IntKind,(Builtin.append_ gy ty #[.slice base n cap,.int k (m:Int)]).run c.P w=.ok (.slice a (n+m) aT) w')/\N a aT w':=by
 obtain⟨aor,axM,xs,an,OH,dg,Ky⟩:=h;obtain⟨inf,z,An,aI,qW,ψ,ω⟩:=gq.info;have uK:∀w':World,(underlying t).run c.P w'=.ok (.slice e) w':=λw'=>run_underlying KH w';have y2:∀w':World,(underlying t1).run c.P w'=.ok (.int aZ) w':=λw'=>run_underlying KI w';have fj:∀w':World,(sizeOf e).run c.P w'=.ok ei.size w':=λw'=>by simp[sizeOf,typeInfo,An,ψ]
 have pB:∀w':World,(typeInfo e).run c.P w'=.ok inf w':=λw'=>by simp[typeInfo,An]
 have Ce:∀w':World,(zeroValue e).run c.P w'=.ok z w':=λw'=>by simp[zeroValue,typeInfo,An,aI]
 have y4:IntKind.i64.wrap (m:Int)=m:=by rw[IntKind.wrap_i64];omega
 have EB:¬((m:Int)<0):=by omega
 have HB:¬(281474976710656<(m:Int)*(inf.bytes:Int)):=by rw[ω];omega
 have abZ:m*ei.size=0->xs=[]:=λaF=>q9 (by rw[an,aF]);by_cases mE:n+m<=cap
 ·obtain⟨apy,eB⟩:=dg mE;refine⟨_,_,_,λk=>?_,eB _ rfl⟩;cases base with
  |none=>
   by_cases aF:m*ei.size=0
   ·simp[Builtin.append_,aO,uK,fj,rT,y2,asInt,asIntOf,y4,EB,pB,HB,mE,k1,aF]
   ·simp[Builtin.append_,aO,uK,fj,rT,y2,asInt,asIntOf,y4,EB,pB,HB,mE,k1,aF,Ce]
  |some a=>
   have b0:=LW (P:=c.P) apy;rw[yv,Ju]at b0;by_cases aF:m*ei.size=0
   ·have:=abZ aF
    subst this;simp[Builtin.append_,aO,uK,fj,rT,y2,asInt,asIntOf,y4,EB,pB,HB,mE,k1,aF,b0]
   ·have η:(storeCells (a.add (n*ei.size)) (Builtin.zeroCells ei.zero.toArray m).toList).run c.P w=.ok () (w.setCells a.block (a.off+n*ei.size) xs):=by rw[<-OH];exact b0
    simp[Builtin.append_,aO,uK,fj,rT,y2,asInt,asIntOf,y4,EB,pB,HB,mE,k1,aF,Ce,qW,η]
 ·have bL:cap<n+m:=by omega
  obtain⟨Kc,Ak,Fi,pz,kW,eB⟩:=Ky bL;have jZ:n+m<=grownCap w (n+m) cap e:=grownCap_ge w _ _ e;refine⟨_,_,_,λk=>?_,eB _ (grownCap w (n+m) cap e) _ rfl jZ rfl⟩;have N8:¬(9223372036854775807<((n:Int)+(m:Int))):=by omega
  have an2:=growslice_fits (need:=n+m) (old:=cap) (bytes:=inf.bytes) bL (by rw[ω];exact Kc);have N7:¬(281474976710656<Builtin.nextslicecap (n+m) cap*inf.bytes):=by omega
  have yU:=P4 (P:=c.P) (w:=w) (w':=w.drew) rfl kW (size:=ei.size) (n:=n) (len:=n) (cap:=cap) pz;by_cases aF:m*ei.size=0
  ·have:=abZ aF
   subst this;simp[Builtin.append_,aO,uK,fj,rT,y2,asInt,asIntOf,y4,EB,pB,HB,mE,Ce,N8,N7,Question.forced,yU,newRow,grownCap,qW,aF]
  ·simp[Builtin.append_,aO,uK,fj,rT,y2,asInt,asIntOf,y4,EB,pB,HB,mE,Ce,N8,N7,Question.forced,yU,newRow,grownCap,qW,aF,OH]
def vL(w:World)(d:J)(ch:Nat)(s:J)(nI:Nat)(size:Nat)(N:ai):Prop:=
 ∃xs:aU,xs.length=Nat.min nI ch*size/\a8 w s xs/\M5 w d 0 xs/\∀w',w'=k1 w d 0 xs->N w'
theorem ak2{c:c3}(π:ht c){w:World}{d s:J}{ch dc nI sc:Nat}{e:TypeId}{ei:cR}(gq:cT c.P e ei){N:ai}
  (h:vL w d ch s nI ei.size N){gy:Array TypeId}{t ty:TypeId}(aO:gy[0]?=some t)(KH:c.P.underlying t=some (.slice e)):
  ∃w',(Builtin.copy_ gy ty #[.slice d ch dc,.slice s nI sc]).run c.P w=.ok (.int .i64 ((Nat.min nI ch:Nat):Int)) w'/\N w':=by
 obtain⟨xs,an,iy,y4,eB⟩:=h;have uK:∀w':World,(underlying t).run c.P w'=.ok (.slice e) w':=λw'=>run_underlying KH w';have fj:∀w':World,(sizeOf e).run c.P w'=.ok ei.size w':=λw'=>gq.rJ (H:=w'.heap) w' rfl;have bf:=P4 (P:=c.P) (w:=w) (w':=w) rfl iy (size:=ei.size) (n:=Nat.min nI ch) (len:=nI) (cap:=sc) an;refine⟨_,?_,eB _ rfl⟩;cases d with
 |none=>simp[Builtin.copy_,aO,uK,fj,Builtin.lenOf,bf,k1,goInt]
 |some a=>
  have b0:=LW (P:=c.P) y4;rw[yv,Ju]at b0;have hI:a.add 0=a:=Addr.add_zero' a;rw[hI]at b0;simp[Builtin.copy_,aO,uK,fj,Builtin.lenOf,bf,k1,goInt,b0]
def Y9(c:c3)(t:TypeId)(len:Nat)(ps:List (Nat×Value))(w:World)(N:Value->ai):Prop:=
 ξ (eU c.tb t) λi=>match i.desc with
  | .slice e=>ξ (eU c.tb e) λei=>ο (decide (len*ei.size<=16777216)) (ξ (Instr.fill (λi=>some (i*ei.size,ei.size)) (madeCells ei.zero.toArray (len*ei.size)) ps) λcs=>
   aR w cs e λb w'=>N (.slice (some ⟨b,0,none⟩) len len) w')
  |_=>False
theorem aky{c:c3}(π:ht c){t:TypeId}{len:Nat}{ps:Array (Nat×Value)}{w:World}{N:Value->ai}(h:Y9 c t len ps.toList w N):
  ∃v w',(Instr.buildSlice t len ps).run c.P w=.ok v w'/\N v w':=by
 obtain⟨i,o,h⟩:=du h;have o:=π.fs o;split at h
 ·rename_i e ae;obtain⟨ei,gq,h⟩:=du h;have gq:=π.fs gq;obtain⟨aF,h⟩:=h5 h;have aF:¬16777216<len*ei.size:=by have:=cd aF;omega
  obtain⟨cs,iy,h⟩:=du h;refine⟨_,_,?_,h _ _ rfl rfl⟩;obtain⟨z,aI,qW⟩:=gq.Tc (H:=w.heap);have aI:=aI w rfl;have hu:=o.kd (H:=w.heap) w rfl;rw[ae]at hu;have fj:=gq.rJ (H:=w.heap) w rfl;unfold Instr.buildSlice;rw[Sem.run_bind,hu,Result.andThen_ok];dsimp only;rw[Sem.run_bind,fj,Result.andThen_ok];simp only[show(2:Nat)^24=16777216 from rfl,gt_iff_lt,aF,q5,pure_bind];by_cases ar:len*ei.size=0
  ·have aM:madeCells ei.zero.toArray (len*ei.size)=(Array.range (len*ei.size)).map λi=>(#[]:ah)[i%(#[]:ah).size]!:=by
    simp[madeCells,ar]
   rw[aM]at iy;simp only[ar,o9,pure_bind];rw[ar]at iy;rw[iy];simp[newRow]
  ·have aM:madeCells ei.zero.toArray (len*ei.size)=(Array.range (len*ei.size)).map λi=>z.cells[i%z.cells.size]!:=by
    simp[madeCells,qW]
   rw[aM]at iy;simp only[ar,q5];rw[Sem.run_bind,aI,Result.andThen_ok,iy];simp[newRow]
 ·exact h.elim
def BI(s:ByteArray):aU:=s.data.toList.map λb=>Value.int .u8 (b.toNat:Int)
def aen(w:World)(e:TypeId)(s:ByteArray)(N:Nat->Nat->ai):Prop:=
 ∀b cap w',b=w.heap.size->s.size<=cap->w'=w.drew.alloc (.cells (BI s++List.replicate (cap-s.size) (Value.int .u8 0)).toArray e (cap,cap+1))->N b cap w'
theorem ata{c:c3}(π:ht c){s d:TypeId}{e:TypeId}{ei:cR}(ae:c.P.underlying d=some (.slice e))(he:c.P.underlying e=some (.int .u8))(ψ:c.P.underlying s=some .string)
  {x:ByteArray}{w:World}{N:Nat->Nat->ai}(h:aen w e x N):∃b cap w',(convert s d (.string x)).run c.P w=.ok (.slice (some ⟨b,0,none⟩) x.size cap) w'/\N b cap w':=by
 have jZ:x.size<=grownCap w x.size 0 e:=grownCap_ge w _ _ e;refine⟨_,_,_,?_,h _ (grownCap w x.size 0 e) _ rfl jZ rfl⟩;have aM:(convert s d (.string x)).run c.P w=(Conv.stringToBytes e x).run c.P w:=by simp[convert,run_underlying ψ,run_underlying ae,run_underlying he]
 rw[aM];have bz:(Array.map (λb:UInt8=>Value.int .u8 (b.toNat:Int)) x.data++Array.replicate (grownCap w x.size 0 e-x.size) (Value.int .u8 0))=(BI x++List.replicate (grownCap w x.size 0 e-x.size) (Value.int .u8 0)).toArray:=by apply qq;simp[BI]
 have iS:(BI x++List.replicate (grownCap w x.size 0 e-x.size) (Value.int .u8 0)).toArray.size=grownCap w x.size 0 e:=by
  have:x.data.size=x.size:=rfl
  simp[BI,this];omega
 unfold Conv.stringToBytes;simp only[Sem.run_bind,choose,Sem.run,Question.forced,wC,q5,Sem.run_pure',Result.andThen_ok];show((newRow e (Array.map (λb:UInt8=>Value.int .u8 (b.toNat:Int)) x.data++Array.replicate (grownCap w x.size 0 e-x.size) (Value.int .u8 0))).run c.P w.drew).andThen _=_;rw[bz];simp only[newRow,newObj,Sem.run_bind,Sem.run,Sem.run_pure,Result.andThen_ok];unfold markStringish;simp only[Sem.run_bind,shape,Sem.run,Sem.run_pure',Result.andThen_ok];have ig:World.shape? {w.drew with heap:=w.drew.heap.push (.cells (BI x++List.replicate (grownCap w x.size 0 e-x.size) (Value.int .u8 0)).toArray e (0,0))} w.drew.heap.size=some (e,grownCap w x.size 0 e):=by simp only[World.shape?,Array.getElem?_push_size];rw[iS]
 rw[ig];simp only[freeze,Sem.run,Sem.run_pure',Result.andThen_ok,Sem.run_pure];congr 1;unfold World.freeze;rw[aN (by decide)];simp only[World.alloc];congr 1;apply Array.ext_getElem?;intro i;rw[Array.getElem?_modify];have ax4:w.drew.heap.size=w.heap.size:=rfl;rcases Nat.lt_trichotomy i w.drew.heap.size with o|o|o
 ·rw[aN (by show¬w.drew.heap.size=i;omega),Array.getElem?_push,aN (by omega),Array.getElem?_push,aN (by omega)]
 ·subst o;rw[aY rfl,Array.getElem?_push_size];show _=(w.heap.push _)[w.heap.size]?;rw[Array.getElem?_push_size];simp
 ·rw[aN (by show¬w.drew.heap.size=i;omega),Array.getElem?_push,aN (by omega),Array.getElem?_push,aN (by omega)]
def xP(w:World)(a:Addr)(N:ai):Prop:=
 ∃(cur:ah)(e:TypeId)(fr:Nat×Nat),w.heap[a.block]?=some (.cells cur e fr)/\∀w',w'=w.freeze ⟨a.block,cur.size,none⟩ 1->N w'
theorem aqn{c:c3}{d:TypeId}{e:TypeId}(ae:c.P.underlying d=some (.slice e))(he:c.P.underlying e=some (.int .u8)){a:Addr}{n m:Nat}{w:World}{N:ai}(h:xP w a N):
  ∃w',(convert d d (.slice (some a) n m)).run c.P w=.ok (.slice (some a) n m) w'/\N w':=by
 obtain⟨cur,c6,fr,ω,h⟩:=h;refine⟨_,?_,h _ rfl⟩;have aoZ:w.shape? a.block=some (c6,cur.size):=by unfold World.shape?;rw[ω]
 simp[convert,run_underlying ae,run_underlying he,markStringish,aoZ]
def κ(P:Program)(g:Nat)(args:ah)(w:World)(N:Value->ai)(X:List PanicEntry->ai):Prop:=
 Calls P g args w λe w'=>match e with| .returned v=>N v w'| .panicked cX=>X cX w'| .outgrown=>False
def SS(P:Program)(g:Nat)(args:ah)(w:World)(N:Value->ai):Prop:=∃v w',(callFunc g args).run P w=.ok (.value v) w'/\N v w'
def D4(c:c3)(γ:Oper)(ν:c4)(w:World)(N:Value->ai)(X:List PanicEntry->ai):Prop:=
 match γ.op with
 | .alloc e=>ξ (eU c.tb e) λi=>aR w i.zero.toArray e λb w'=>N (.pointer (some ⟨b,0,none⟩)) w'
 | .box e x=>eJ ν x λv=>aR w v.cells e λb w'=>N (.pointer (some ⟨b,0,none⟩)) w'
 | .store t a x=>eJ ν a λa=>eJ ν x λv=>hD a λp=>ξ p λa=>aeR c t a v w λw'=>N undef w'
 | .buildSlice t len parts=>Lg ν parts.toList λps=>Y9 c t len ps w N
 | .makeSlice t l m=>eJ ν l λl=>eJ ν m λm=>acA c t l m w N
 | .convert s d x=>ξ (eU c.tb d) λj=>(match j.desc with
  | .slice e=>ξ (eU c.tb s) λi=>ξ (eU c.tb e) λei=>(match i.desc,ei.desc with
   | .string,.int .u8=>eJ ν x λx=>lH x λx=>aen w e x λb cap w'=>N (.slice (some ⟨b,0,none⟩) x.size cap) w'
   | .slice _,.int .u8=>ο (Nat.beq s d) (eJ ν x λx=>df x λa n m=>ξ a λa=>xP w a λw'=>N (.slice (some a) n m) w')
   |_,_=>False)
  |_=>uy c γ ν w λv=>N v w)
 | .call cl=>(match cl.callee with
  | .value f=>eJ ν f λf=>o6 ν cl.args.toList λxs=>(match f with
   | .func (.func g) jM gF=>cond (c.fns.contains g) (κ c.P g (jM.toList++xs++gF.toList).toArray w (λv w'=>ξ (eU c.tb γ.type) λi=>yH i.desc v λv=>N v w') X) (SS c.P g (jM.toList++xs++gF.toList).toArray w λv w'=>ξ (eU c.tb γ.type) λi=>yH i.desc v λv=>N v w')
   |_=>False)
  | .builtin .append=>o6 ν cl.args.toList λxs=>(match xs with
   |[x,y]=>ξ cl.argTypes[0]? λt=>ξ cl.argTypes[1]? λt1=>ξ (eU c.tb t) λi=>ξ (eU c.tb t1) λi1=>(match i.desc with
    | .slice e=>ξ (eU c.tb e) λei=>df x λa n cap=>(match i1.desc with
     | .slice _=>df y λb m _=>gD w a n cap m (a8 w b) e ei.size ei.bytes ei.zero.toArray λfz aT w'=>N (.slice fz (n+m) aT) w'
     | .string=>lH y λs=>ο (decide (ei.size=1)) (gD w a n cap s.size (λxs=>xs=BI s) e ei.size ei.bytes ei.zero.toArray λfz aT w'=>N (.slice fz (n+s.size) aT) w')
     | .int _=>(match y with
      | .int _ m=>ο (decide (0<=m)) (Nd w a n cap m.toNat e ei.size ei.bytes ei.zero.toArray λfz aT w'=>N (.slice fz (n+m.toNat) aT) w')
      |_=>False)
     |_=>False)
    |_=>False)
   |_=>False)
  | .builtin .copy=>o6 ν cl.args.toList λxs=>(match xs with
   |[x,y]=>ξ cl.argTypes[0]? λt=>ξ (eU c.tb t) λi=>(match i.desc with
    | .slice e=>ξ (eU c.tb e) λei=>df x λa n _=>df y λb m _=>vL w a n b m ei.size λw'=>N (.int .i64 ((Nat.min m n:Nat):Int)) w'
    |_=>False)
   |_=>False)
  | .builtin .panic=>o6 ν cl.args.toList λxs=>(match xs with
   |[.iface t v]=>X [{v:=.iface t v,recovered:=false}] w
   |_=>False)
  |_=>uy c γ ν w λv=>N v w)
 | .panic x=>eJ ν x λx=>(match x with
  | .iface t v=>X [{v:=.iface t v,recovered:=false}] w
  |_=>False)
 |_=>uy c γ ν w λv=>N v w
theorem Yields.wp{c:c3}{γ:Oper}{a:Act}{w:World}{v:Value}{K:Act->ai}{Q:Exit->Act->ai}(h:Yields c γ a w.heap v)(jW:K (a.put γ.dst v) w):γ.wp c.P a w K Q:=by unfold Oper.wp;rw[h w rfl];exact jW
theorem sx{c:c3}{γ:Oper}{a:Act}{w w':World}{m:Sem Value}{v:Value}{K:Act->ai}{Q:Exit->Act->ai}
  (he:execOp a.eval γ=(do pure (Next.value (<-m))))(h:m.run c.P w=.ok v w')(jW:K (a.put γ.dst v) w'):γ.wp c.P a w K Q:=by
 unfold Oper.wp;rw[he,Sem.run_bind,h];exact jW
theorem ael{P:Program}{g:Nat}{fn:Func}{args:ah}{w:World}(h:P.funcs[g]?=some fn)(ar:(fn.name== "runtime.NumGoroutine")=false)(ω:fn.body.isNone=false):
  (callFunc g args).run P w=.ok (.enter g args) w:=by
 unfold callFunc;simp only[Sem.run_bind,program,Sem.run,Sem.run_pure',Result.andThen_ok,h,ar,ω];simp
set_option maxHeartbeats 2000000 in
theorem JS{c:c3}(π:ht c){n:Nat}{γ:Oper}{a:Act}{ν:c4}(σ:Rel n a ν){w:World}{N:Value->ai}{X:List PanicEntry->ai}
  {K:Act->ai}{Q:Exit->Act->ai}(eB:∀v w',N v w'->K (a.put γ.dst v) w')(eE:∀cX w',X cX w'->Q (.panic cX) a w')
  (h:D4 c γ ν w N X):γ.wp c.P a w K Q:=by
 have Ut:uy c γ ν w (λv=>N v w)->γ.wp c.P a w K Q:=λh=>by obtain⟨v,aL,h⟩:=JT π σ h;exact aL.wp (eB _ _ h)
 unfold D4 at h;split at h<;>first|exact Ut h|(rename_i aE)
 ·rename_i e;obtain⟨i,o,h⟩:=du h;obtain⟨z,aI,qW⟩:=(π.fs o).Tc (H:=w.heap);refine sx (m:=Instr.alloc e true (.tuple #[])) (v:=.pointer (some ⟨w.heap.size,0,none⟩)) (w':=w.alloc (.cells z.cells e)) (by simp[execOp,aE]) ?_ (eB _ _ ?_)
  ·have:=aI w rfl
   simp[Instr.alloc,this,newVar,newRow]
  ·rw[qW];exact h _ _ rfl rfl
 ·rename_i e x;have h:=gL σ h;refine sx (m:=Instr.box e (a.eval x)) (v:=.pointer (some ⟨w.heap.size,0,none⟩)) (w':=w.alloc (.cells (a.eval x).cells e)) (by simp[execOp,aE]) ?_ (eB _ _ (h _ _ rfl rfl));simp[Instr.box,newVar,newRow]
 ·rename_i t p x;obtain⟨q,ay,h⟩:=uu (gL σ (gL σ h));obtain⟨b,rfl,η⟩:=du h;obtain⟨w',il,au⟩:=atG π η;unfold Oper.wp execOp;simp only[aE,ay,Sem.run_bind,il,Result.andThen_ok];exact eB _ _ au
 ·rename_i t len parts;have h:=VB σ h;have y0:(parts.map λ(i,x)=>(i,a.eval x)).toList=parts.toList.map λ(i,x)=>(i,a.eval x):=by simp
  rw[<-y0]at h;obtain⟨v,w',il,η⟩:=aky π h;exact sx (m:=Instr.buildSlice t len (parts.map λ(i,x)=>(i,a.eval x))) (by simp[execOp,aE]) il (eB _ _ η)
 ·rename_i t l m;obtain⟨v,w',il,η⟩:=aqw π (gL σ (gL σ h));exact sx (m:=Instr.makeSlice t (a.eval l) (a.eval m)) (by simp[execOp,aE]) il (eB _ _ η)
 ·rename_i s d x;obtain⟨j,χ,h⟩:=du h;split at h
  ·rename_i e ae;obtain⟨i,o,h⟩:=du h;obtain⟨ei,gq,h⟩:=du h;split at h
   ·rename_i abL Ki;obtain⟨st,b0,h⟩:=xk (gL σ h);have mQ:c.P.underlying d=some (.slice e):=by rw[(π.fs χ).1,ae]
    have qE:c.P.underlying e=some (.int .u8):=by rw[(π.fs gq).1,Ki]
    have av7:c.P.underlying s=some .string:=by rw[(π.fs o).1,abL]
    obtain⟨b,dw,w',il,η⟩:=ata (ei:=ei) π mQ qE av7 h;refine sx (m:=convert s d (a.eval x)) (by simp[execOp,aE]) ?_ (eB _ _ η);rw[b0];exact il
   ·rename_i bz abL Ki;obtain⟨ψ,au⟩:=h5 h;have bV:=gL σ au;clear au h;obtain rfl:=x3 ψ;obtain⟨p,k,m,I,h⟩:=nu bV;obtain⟨p,rfl,h⟩:=du h;have mQ:c.P.underlying s=some (.slice e):=by rw[(π.fs χ).1,ae]
    have qE:c.P.underlying e=some (.int .u8):=by rw[(π.fs gq).1,Ki]
    obtain⟨w',il,η⟩:=aqn (n:=k) (m:=m) mQ qE h;refine sx (m:=convert s s (a.eval x)) (by simp[execOp,aE]) ?_ (eB _ _ η);rw[I];exact il
   ·exact h.elim
  ·exact Ut h
 ·rename_i cl;split at h
  ·rename_i f yO;have h:=xW σ (gL σ h);split at h
   ·rename_i g jM gF bf;have SE:(jM.toList++cl.args.toList.map a.eval++gF.toList).toArray=jM++cl.args.map a.eval++gF:=by
     apply qq;simp
    rw[SE]at h;cases bL:c.fns.contains g with
    |false=>
     rw[bL]at h;obtain⟨v,w',il,h⟩:=h;obtain⟨i,o,he⟩:=du h;unfold Oper.wp execOp;simp only[aE];unfold resolve;simp only[yO,bf,Deferred.ofValue,pure_bind,invoke,Sem.run_bind,Sem.run_pure,Result.andThen_ok];rw[il];exact eB _ _ (DW he)
    |true=>
    rw[bL]at h;obtain⟨fn,TR,Ku,Ty⟩:=π.fn g (by simpa using bL);unfold Oper.wp execOp;simp only[aE];unfold resolve;simp only[yO,bf,Deferred.ofValue,pure_bind,invoke,Sem.run_bind,Sem.run_pure,Result.andThen_ok];rw[ael TR Ku Ty];refine Calls.mono h λe w' he=>?_;cases e with
    |returned v=>
     obtain⟨i,o,he⟩:=du he;exact eB _ _ (DW he)
    |panicked cX=>exact eE _ _ he
    |outgrown=>exact he.elim
   ·exact h.elim
  ·rename_i yO;have h:=xW σ h;split at h
   ·rename_i x y h8;have Kb:cl.args.map a.eval=#[x,y]:=by
     apply qq;simpa using h8
    obtain⟨t,aO,h⟩:=du h;obtain⟨t1,rT,h⟩:=du h;obtain⟨i,o,h⟩:=du h;obtain⟨i1,TX,h⟩:=du h;have key:∀{v:Value}{w':World},(Builtin.append_ cl.argTypes γ.type #[x,y]).run c.P w=.ok v w'->N v w'->γ.wp c.P a w K Q:=λ{v w'}il ar=>by unfold Oper.wp execOp;simp only[aE];unfold resolve;simp only[yO,pure_bind,invoke,builtin,Kb,Sem.run_bind,il,Result.andThen_ok];exact eB _ _ ar
    split at h
    ·rename_i e ae;obtain⟨ei,gq,h⟩:=du h;have u:c.P.underlying t=some (.slice e):=by rw[(π.fs o).1,ae]
     obtain⟨b,m,cap,I,h⟩:=nu h;rw[I]at key;split at h
     ·rename_i c6 l0;have mQ:c.P.underlying t1=some (.slice c6):=by rw[(π.fs TX).1,l0]
      obtain⟨gW,m',BK,ag,h⟩:=nu h;rw[ag]at key;obtain⟨ι,c2,w',il,η⟩:=YG (ty:=γ.type) π (π.fs gq) h aO u (x:=.slice gW m' BK) (λxs h8 an=>
       ⟨⟨t1,_,rT,mQ,.inr ⟨c6,rfl⟩⟩,λw'=>by simp[Builtin.lenOf],λw' hw=>P4 (w:=w) hw h8 an⟩)
      exact key il η
     ·rename_i l0;have mQ:c.P.underlying t1=some .string:=by rw[(π.fs TX).1,l0]
      obtain⟨s,ag,h⟩:=xk h;rw[ag]at key;obtain⟨h1,h⟩:=h5 h;have h1:=cd h1;obtain⟨ι,c2,w',il,η⟩:=YG (ty:=γ.type) π (π.fs gq) h aO u (x:=.string s) (λxs h8 an=>
       ⟨⟨t1,_,rT,mQ,.inl rfl⟩,λw'=>by simp[Builtin.lenOf],λw' hw=>by
        subst h8;have ψ:s.data.size=s.size:=rfl;have aM:(s.extract 0 s.size).data=s.data:=by rw[ByteArray.data_extract,<-ψ,Array.extract_size]
        simp only[Builtin.firstCells,Sem.run_pure,aM];congr 1;apply qq;simp[BI]⟩)
      exact key il η
     ·rename_i aZ l0;have mQ:c.P.underlying t1=some (.int aZ):=by rw[(π.fs TX).1,l0]
      split at h
      ·obtain⟨aF,h⟩:=h5 h;have aF:=cd aF;obtain⟨ι,c2,w',il,η⟩:=akj (ty:=γ.type) π (π.fs gq) h aO u rT mQ;rw[LF aF]at il;exact key (il _) η
      ·exact h.elim
     ·exact h.elim
    ·exact h.elim
   ·exact h.elim
  ·rename_i yO;have h:=xW σ h;split at h
   ·rename_i x y h8;have Kb:cl.args.map a.eval=#[x,y]:=by
     apply qq;simpa using h8
    obtain⟨t,aO,h⟩:=du h;obtain⟨i,o,h⟩:=du h;split at h
    ·rename_i e ae;obtain⟨ei,gq,h⟩:=du h;have u:c.P.underlying t=some (.slice e):=by rw[(π.fs o).1,ae]
     obtain⟨b,m,cap,I,h⟩:=nu h;obtain⟨gW,m',BK,ag,h⟩:=nu h;obtain⟨w',il,η⟩:=ak2 (dc:=cap) (sc:=BK) (ty:=γ.type) π (π.fs gq) h aO u;unfold Oper.wp execOp;simp only[aE];unfold resolve;simp only[yO,pure_bind,invoke,builtin,Kb,I,ag,Sem.run_bind,il,Result.andThen_ok];exact eB _ _ η
    ·exact h.elim
   ·exact h.elim
  ·rename_i yO;have h:=xW σ h;split at h
   ·rename_i t v h8;have Kb:cl.args.map a.eval=#[.iface t v]:=by
     apply qq;simpa using h8
    unfold Oper.wp execOp;simp only[aE];unfold resolve;simp only[yO,pure_bind,invoke,builtin,Kb];simp[Instr.panic,goPanic,Oper.upon];exact eE _ _ h
   ·exact h.elim
  ·exact Ut h
 ·rename_i x;have h:=gL σ h;split at h
  ·rename_i t v I;unfold Oper.wp execOp;simp[aE,I,Instr.panic,goPanic,Oper.upon];exact eE _ _ h
  ·exact h.elim
def acH(w:World)(K:Nat->ai):Prop:=∀b w',b=w.heap.size->w'=w.alloc (.map #[] 0)->K b w'
def Vi(w:World)(r:Option Nat)(K:Int->Prop):Prop:=match r with
 |none=>K 0
 |some b=>∃es n,w.heap[b]?=some (.map es n)/\K (es.size:Int)
def Ve(c:c3)(cl:Call):Bool:=match cl.argTypes[0]?with
 |some t=>(match eU c.tb t with
  |some i=>(match i.desc with| .map _ _=>true|_=>false)
  |none=>false)
 |none=>false
def He(r m:Nat)(e:MapEntry):Prop:=∃AZ m',e.key=.complex .f64 AZ m'/\(ey .eql r AZ&&ey .eql m m')=false
def Jc(P:Program)(t:TypeId)(z:Value):Prop:=(P.info? t).bind (·.zero)=some z
def O0(P:Program)(w:World)(b r m:Nat)(t:TypeId)(z:Value)(K:Value->Int->ai):Prop:=
 Jc P t z/\∃es clock,w.heap[b]?=some (.map es clock)/\
  (((∀e∈es.toList,He r m e)/\∀w',w'=w.putObj b (.map (es.push ⟨.complex .f64 r m,z,clock⟩) (clock+1))->K z (clock:Int) w')\/
  (∃i e,es.toList[i]?=some e/\e.key=.complex .f64 r m/\(ey .eql r r&&ey .eql m m)=true/\(∀c6∈es.toList.take i,He r m c6)/\K e.val (e.born:Int) w))
def O1(w:World)(b:Nat)(st:Int)(v:Value)(K:ai):Prop:=
 ∃es clock i,w.heap[b]?=some (.map es clock)/\es.findIdx? (λe=>(e.born:Int)==st)=some i/\∀w',w'=w.putObj b (.map (es.modify i λe=>{e with val:=v}) clock)->K w'
def Sc(w:World)(p:J)(n:Nat)(zero:ah)(K:ai):Prop:=
 ((p=none\/n=0)/\K w)\/∃a,p=some a/\n≠0/\hG w a (Builtin.zeroCells zero n).toList/\∀w',w'=w.setCells a.block a.off (Builtin.zeroCells zero n).toList->K w'
def HT(P:Program)(w:World)(Vk:Option Nat)(r m:Nat)(t:TypeId)(z:Value)(K:Value->Prop):Prop:=
 Jc P t z/\∃b es clock,Vk=some b/\w.heap[b]?=some (.map es clock)/\
  (((∀e∈es.toList,He r m e)/\K z)\/
  (∃i e,es.toList[i]?=some e/\e.key=.complex .f64 r m/\(ey .eql r r&&ey .eql m m)=true/\(∀c6∈es.toList.take i,He r m c6)/\K e.val))
def ad6(w:World)(Vk:Option Nat)(K:Nat->ai):Prop:=
 ∃m es clock,Vk=some m/\w.heap[m]?=some (.map es clock)/\∀b w',b=w.heap.size->w'=w.alloc (.mapIter (some m) clock #[] clock)->K b w'
def Vl(w:World)(d:Addr)(MX:Prop)(K:MapEntry->ai):Prop:=
 ∃(b m since fI:Nat)(seen:Array Nat)(es:Array MapEntry)(clock:Nat),d=⟨b,0,none⟩/\w.heap[b]?=some (.mapIter (some m) since seen fI)/\w.heap[m]?=some (.map es clock)/\(∀x∈es.toList,x.born<since)/\since<=fI/\
  ((leftOf es seen).size=0->MX)/\
  ∀e∈(leftOf es seen).toList,∀δ w',(δ=w\/δ=w.drew)->w'=δ.putObj b (.mapIter (some m) since (seen.push e.born) clock)->K e w'
def SK(w:World)(d:Addr)(K:Value->Value->Prop):Prop:=
 ∃(b m since:Nat)(seen:Array Nat)(es:Array MapEntry)(clock:Nat)(e:MapEntry),d=⟨b,0,none⟩/\w.heap[b]?=some (.mapIter (some m) since (seen.push e.born) clock)/\w.heap[m]?=some (.map es clock)/\e∈es.toList/\(es.toList.map (·.born)).Nodup/\K e.key e.val
theorem Wm{P:Program}{w:World}{kY:TypeId}{k:FloatKind}{r m:Nat}(hk:P.underlying kY=some (.complex k)):∀(es:List MapEntry)(i:Nat),(∀e∈es,He r m e)->
  (Instr.findAsking kY (.complex .f64 r m) es i).run P w=.ok none w
 |[],i,_=>by simp[Instr.findAsking]
 |e::es,i,h=>by
  obtain⟨AZ,m',he,bf⟩:=h e (om ..);have cq:=Wm (w:=w) hk es (i+1) λe he=>h e (h9 _ he);have Ew:(Op.floatEq .f64 r AZ&&Op.floatEq .f64 m m')=false:=bf;have ay:(Op.equal kY (.complex .f64 r m) e.key).run P w=.ok false w:=by rw[he];unfold Op.equal Op.maxDepth Op.equalIn;simp only[Sem.run_bind,run_underlying hk,Result.andThen_ok,o9,Sem.run_pure,Ew]
  rw[Instr.findAsking,Sem.run_bind,ay];exact cq
theorem Wn{P:Program}{w:World}{kY:TypeId}{k:FloatKind}{r m:Nat}(hk:P.underlying kY=some (.complex k))(ψ:(ey .eql r r&&ey .eql m m)=true):∀(es:List MapEntry)(n i:Nat)(e:MapEntry),es[i]?=some e->
  e.key=.complex .f64 r m->(∀c6∈es.take i,He r m c6)->(Instr.findAsking kY (.complex .f64 r m) es n).run P w=.ok (some (n+i,e.val)) w
 |[],n,i,e,h,_,_=>by simp at h
 |a::es,n,0,e,h,he,_=>by
  obtain rfl:a=e:=by simpa using h
  have Ew:(Op.floatEq .f64 r r&&Op.floatEq .f64 m m)=true:=ψ;have ay:(Op.equal kY (.complex .f64 r m) a.key).run P w=.ok true w:=by rw[he];unfold Op.equal Op.maxDepth Op.equalIn;simp only[Sem.run_bind,run_underlying hk,Result.andThen_ok,o9,Sem.run_pure,Ew]
  rw[Instr.findAsking,Sem.run_bind,ay];rfl
 |a::es,n,i+1,e,h,he,aP=>by
  obtain⟨AZ,m',am7,bf⟩:=aP a (by simp);have cq:=Wn (w:=w) hk ψ es (n+1) i e (by simpa using h) he λc6 dO=>aP c6 (by simp[dO]);have Ew:(Op.floatEq .f64 r AZ&&Op.floatEq .f64 m m')=false:=bf;have ay:(Op.equal kY (.complex .f64 r m) a.key).run P w=.ok false w:=by rw[am7];unfold Op.equal Op.maxDepth Op.equalIn;simp only[Sem.run_bind,run_underlying hk,Result.andThen_ok,o9,Sem.run_pure,Ew]
  rw[Instr.findAsking,Sem.run_bind,ay];simp only[Result.andThen];have aM:n+(i+1)=n+1+i:=by omega
  rw[aM];simpa using cq
theorem amj{k:FloatKind}{r m:Nat}:∀(es:List MapEntry),Instr.findNow (.complex k) (.complex .f64 r m) es 0=if es=[]then some none else none
 |[]=>rfl
 |e::es=>by simp[Instr.findNow,Instr.sameNow]
theorem P3{P:Program}{w:World}{kY:TypeId}{k:FloatKind}{r m:Nat}(hk:P.underlying kY=some (.complex k))(es:List MapEntry):
  (Instr.findKey kY (.complex .f64 r m) es).run P w=(Instr.findAsking kY (.complex .f64 r m) es).run P w:=by
 unfold Instr.findKey;rw[Sem.run_bind,run_underlying hk,Result.andThen_ok,amj];cases es with
 |nil=>simp[Instr.findAsking]
 |cons e es=>simp
theorem P2{P:Program}{w:World}{kY:TypeId}{k:FloatKind}{r m:Nat}(hk:P.underlying kY=some (.complex k))(b:Bool)(n:Nat):(Instr.checkKey b (n+1) kY (.complex .f64 r m)).run P w=.ok () w:=by unfold Instr.checkKey;simp[Sem.run_bind,run_underlying hk,Result.andThen]
theorem acC{α:Type}(f:α->α):∀(l:List α)(i:Nat)(a:α),l[i]?=some a->f a=a->l.modify i f=l
 |[],_,_,h,_=>by simp at h
 |b::l,0,a,h,bf=>by
  obtain rfl:b=a:=by simpa using h
  simp[bf]
 |b::l,i+1,a,h,bf=>by rw[List.modify_succ_cons,acC f l i a (by simpa using h) bf]
theorem ar6{w:World}{b:Nat}{γ:Obj}(h:w.heap[b]?=some γ):w.putObj b γ=w:=by
 have:w.heap.setIfInBounds b γ=w.heap:=by
  apply qq;rw[Array.toList_setIfInBounds];apply qp;intro j;rw[List.getElem?_set];split
  ·rename_i e;subst e;have an:b<w.heap.toList.length:=by
    rw[k0];exact(Array.getElem?_eq_some_iff.mp h).1
   rw[aY an,Array.getElem?_toList,h]
  ·rfl
 unfold World.putObj;rw[this]
def SO(c:c3)(γ:Oper)(ν:c4)(w:World)(N:Value->ai)(X:List PanicEntry->ai):Prop:=
 match γ.op with
 | .makeMap _ none=>acH w λb w'=>N (.map (some b)) w'
 | .mapEntry t m k=>ξ (eU c.tb t) λi=>(match i.desc with
  | .map kY e=>ξ (eU c.tb kY) λKV=>ξ (eU c.tb e) λei=>(match KV.desc,ei.desc with
   | .complex _,.slice _=>eJ ν m λm=>p6 m λb=>ξ b λb=>eJ ν k λk=>lG k λx y=>O0 c.P w b x y e (.slice none 0 0) λv st w'=>df v λp n q=>N (.tuple #[.slice p n q,.int .i64 st]) w'
   |_,_=>False)
  |_=>False)
 | .entryStore _ m st v=>eJ ν m λm=>p6 m λb=>ξ b λb=>eJ ν st λst=>bq .i64 st λst=>eJ ν v λv=>O1 w b st v λw'=>N undef w'
 | .lookup t m k false=>ξ (eU c.tb t) λi=>(match i.desc with
  | .map kY e=>ξ (eU c.tb kY) λKV=>ξ (eU c.tb e) λei=>(match KV.desc,ei.desc with
   | .complex _,.slice _=>eJ ν m λm=>p6 m λb=>eJ ν k λk=>lG k λx y=>HT c.P w b x y e (.slice none 0 0) λv=>df v λp n q=>N (.slice p n q) w
   |_,_=>False)
  |_=>False)
 | .range t m=>ξ (eU c.tb t) λi=>(match i.desc with
  | .map _ _=>eJ ν m λm=>p6 m λr=>ad6 w r λb w'=>N (.pointer (some ⟨b,0,none⟩)) w'
  |_=>False)
 | .next it false=>eJ ν it λv=>hD v λp=>ξ p λd=>Vl w d (N (.tuple #[.bool false]) w) λe w'=>N (.tuple #[.bool true,e.key,e.val]) w'
 | .entry it=>eJ ν it λv=>hD v λp=>ξ p λd=>SK w d λx y=>N (.tuple #[x,y]) w
 | .call cl=>(match cl.callee with
  | .builtin .len=>cond (Ve c cl) (o6 ν cl.args.toList λxs=>(match xs with
   |[x]=>p6 x λr=>Vi w r λn=>N (.int .i64 n) w
   |_=>False)) (D4 c γ ν w N X)
  | .builtin .clear=>(match cl.argTypes[0]?with
   |some t=>ξ (eU c.tb t) λi=>(match i.desc with
    | .slice e=>ξ (eU c.tb e) λei=>o6 ν cl.args.toList λxs=>(match xs with
     |[x]=>df x λp n q=>Sc w p n ei.zero.toArray λw'=>N (.tuple #[]) w'
     |_=>False)
    |_=>False)
   |none=>False)
  |_=>D4 c γ ν w N X)
 |_=>D4 c γ ν w N X
set_option maxHeartbeats 1000000 in
theorem alZ{c:c3}(π:ht c){n:Nat}{γ:Oper}{a:Act}{ν:c4}(σ:Rel n a ν){w:World}{N:Value->ai}{X:List PanicEntry->ai}
  {K:Act->ai}{Q:Exit->Act->ai}(eB:∀v w',N v w'->K (a.put γ.dst v) w')(eE:∀cX w',X cX w'->Q (.panic cX) a w')
  (h:SO c γ ν w N X):γ.wp c.P a w K Q:=by
 unfold SO at h;split at h
 ·rename_i t aE;refine sx (m:=Instr.makeMap t none) (v:=.map (some w.heap.size)) (w':=w.alloc (.map #[] 0)) (by simp[execOp,aE]) ?_ (eB _ _ (h _ _ rfl rfl));simp[Instr.makeMap]
 ·rename_i t m k aE;obtain⟨i,o,h⟩:=du h;split at h
  ·rename_i kY e ae;obtain⟨KV,T7,h⟩:=du h;obtain⟨ei,gq,h⟩:=du h;split at h
   ·rename_i uN SF T6 Ki;obtain⟨b,hm,h⟩:=yG (gL σ h);obtain⟨b,rfl,h⟩:=du h;obtain⟨x,y,hk,aI,es,clock,ω,h⟩:=Ad (gL σ h);have mQ:c.P.underlying t=some (.map kY e):=by rw[(π.fs o).1,ae]
    have qE:c.P.underlying kY=some (.complex uN):=by rw[(π.fs T7).1,T6]
    have bL:(getObj b).run c.P w=.ok (.map es clock) w:=by simp[getObj,Sem.run,ω]
    have lM:∀γ:Obj,(setObj b γ).run c.P w=.ok () (w.putObj b γ):=λγ=>by simp[setObj,Sem.run,ω,World.putObj]
    have hzero:(zeroValue e).run c.P w=.ok (.slice none 0 0) w:=by
     unfold Jc at aI;cases ay:c.P.info? e with
     |none=>simp[ay]at aI
     |some x=>
      have:x.zero=some (.slice none 0 0):=by simpa[ay]using aI
      simp[zeroValue,typeInfo,ay,this]
    rcases h with⟨aP,h⟩|⟨i,iT,qU,xE,Uw,El,h⟩
    ·have h:=h _ rfl;refine sx (m:=Instr.mapEntry t (a.eval m) (a.eval k)) (v:=.tuple #[.slice none 0 0,.int .i64 clock]) (by simp[execOp,aE]) ?_ (eB _ _ h);rw[hm,hk];unfold Instr.mapEntry;simp only[Sem.run_bind,run_underlying mQ,Result.andThen_ok,bL,P2 qE,P3 qE,Wm qE _ _ aP,hzero,lM];rfl
    ·obtain⟨p,q,DG,aL,h⟩:=nu h;refine sx (m:=Instr.mapEntry t (a.eval m) (a.eval k)) (v:=.tuple #[.slice p q DG,.int .i64 iT.born]) (w':=w) (by simp[execOp,aE]) ?_ (eB _ _ h);rw[hm,hk];unfold Instr.mapEntry;have ang:es[i]?=some iT:=by rw[<-Array.getElem?_toList];exact qU
     have l2:es.modify i (λe=>{e with key:=Value.complex .f64 x y})=es:=by apply qq;rw[AW];exact acC _ _ _ iT qU (by rw[<-xE])
     have ao6:(Instr.keyThatStays (.complex .f64 x y) (.complex .f64 x y)).run c.P w=.ok (.complex .f64 x y) w:=by simp[Instr.keyThatStays,Instr.sameBits]
     simp only[Sem.run_bind,run_underlying mQ,Result.andThen_ok,bL,P2 qE,P3 qE,Wn qE Uw _ _ i iT qU xE El,mN,ang,jd,PC,xE,ao6,lM,l2,ar6 ω,aL];rfl
   ·exact h.elim
  ·exact h.elim
 ·rename_i t m st v aE;obtain⟨b,hm,h⟩:=yG (gL σ h);obtain⟨b,rfl,h⟩:=du h;obtain⟨wI,b0,h⟩:=G8 (gL σ h);obtain⟨es,clock,i,ω,bf,h⟩:=gL σ h;have h:=h _ rfl;have bL:(getObj b).run c.P w=.ok (.map es clock) w:=by simp[getObj,Sem.run,ω]
  have lM:∀γ:Obj,(setObj b γ).run c.P w=.ok () (w.putObj b γ):=λγ=>by simp[setObj,Sem.run,ω,World.putObj]
  unfold Oper.wp execOp;have il:(Instr.entryStore t (a.eval m) (a.eval st) (a.eval v)).run c.P w=.ok () (w.putObj b (.map (es.modify i λe=>{e with val:=a.eval v}) clock)):=by rw[hm,b0];unfold Instr.entryStore;simp only[Sem.run_bind,Result.andThen_ok,bL,asInt,asIntOf,Sem.run_pure,bf,lM]
  simp only[aE,Sem.run_bind,il,Result.andThen_ok];exact eB _ _ h
 ·rename_i t m k aE;obtain⟨i,o,h⟩:=du h;split at h
  ·rename_i kY e ae;obtain⟨KV,T7,h⟩:=du h;obtain⟨ei,gq,h⟩:=du h;split at h
   ·rename_i uN SF T6 Ki;obtain⟨b,hm,h⟩:=yG (gL σ h);obtain⟨x,y,hk,aI,b,es,clock,rfl,ω,h⟩:=Ad (gL σ h);have mQ:c.P.underlying t=some (.map kY e):=by rw[(π.fs o).1,ae]
    have qE:c.P.underlying kY=some (.complex uN):=by rw[(π.fs T7).1,T6]
    have bL:(getObj b).run c.P w=.ok (.map es clock) w:=by simp[getObj,Sem.run,ω]
    have hzero:(zeroValue e).run c.P w=.ok (.slice none 0 0) w:=by
     unfold Jc at aI;cases ay:c.P.info? e with
     |none=>simp[ay]at aI
     |some x=>
      have:x.zero=some (.slice none 0 0):=by simpa[ay]using aI
      simp[zeroValue,typeInfo,ay,this]
    rcases h with⟨aP,h⟩|⟨i,iT,qU,xE,Uw,El,h⟩
    ·obtain⟨p,q,DG,aL,h⟩:=nu h;refine sx (m:=Instr.lookup t (a.eval m) (a.eval k) false) (v:=.slice p q DG) (w':=w) (by simp[execOp,aE]) ?_ (eB _ _ h);rw[<-aL];rw[hm,hk];unfold Instr.lookup;simp only[Sem.run_bind,run_underlying mQ,Result.andThen_ok,bL,Sem.run_pure,P2 qE,P3 qE,Wm qE _ _ aP,hzero];rfl
    ·obtain⟨p,q,DG,aL,h⟩:=nu h;refine sx (m:=Instr.lookup t (a.eval m) (a.eval k) false) (v:=.slice p q DG) (w':=w) (by simp[execOp,aE]) ?_ (eB _ _ h);rw[<-aL];rw[hm,hk];unfold Instr.lookup;simp only[Sem.run_bind,run_underlying mQ,Result.andThen_ok,bL,Sem.run_pure,P2 qE,P3 qE,Wn qE Uw _ _ i iT qU xE El];rfl
   ·exact h.elim
  ·exact h.elim
 ·rename_i t m aE;obtain⟨i,o,h⟩:=du h;split at h
  ·rename_i kY e ae;obtain⟨b,hm,m',es,clock,rfl,ω,h⟩:=yG (gL σ h);have mQ:c.P.underlying t=some (.map kY e):=by rw[(π.fs o).1,ae]
   have bL:(getObj m').run c.P w=.ok (.map es clock) w:=by simp[getObj,Sem.run,ω]
   refine sx (m:=Instr.range t (a.eval m)) (v:=.pointer (some ⟨w.heap.size,0,none⟩)) (w':=w.alloc (.mapIter (some m') clock #[] clock)) (by simp[execOp,aE]) ?_ (eB _ _ (h _ _ rfl rfl));rw[hm];unfold Instr.range;simp only[Sem.run_bind,run_underlying mQ,Result.andThen_ok,bL];rfl
  ·exact h.elim
 ·rename_i it aE;obtain⟨p,hp,h⟩:=uu (gL σ h);obtain⟨d,rfl,b,m,since,fI,seen,es,clock,rfl,ω,hm,hold,EL,aF,h1⟩:=du h;rcases run_next_at (P:=c.P) w γ.type b m since fI seen es clock ω hm hold EL with⟨an,il⟩|⟨e,he,δ,EO,il⟩
  ·refine sx (m:=Instr.next (a.eval it) false γ.type) (by simp[execOp,aE]) (by rw[hp];exact il) (eB _ _ (aF an))
  ·refine sx (m:=Instr.next (a.eval it) false γ.type) (by simp[execOp,aE]) (by rw[hp];exact il) (eB _ _ (h1 e he δ _ EO rfl))
 ·rename_i it aE;obtain⟨p,hp,h⟩:=uu (gL σ h);obtain⟨d,rfl,b,m,since,seen,es,clock,e,rfl,ω,hm,he,ar,h⟩:=du h;exact sx (m:=Instr.entry (a.eval it)) (by simp[execOp,aE]) (by rw[hp];exact run_entry_at w b m since seen es clock e ω hm he ar) (eB _ _ h)
 ·rename_i cl aE;split at h
  ·rename_i ω;cases hm:Ve c cl with
   |false=>
    rw[hm]at h;exact JS π σ eB eE h
   |true=>
    rw[hm]at h;have h:=xW σ h;split at h
    ·rename_i x I;obtain⟨r,rfl,h⟩:=yG h;unfold Ve at hm;split at hm
     ·rename_i t aO;split at hm
      ·rename_i i o;split at hm
       ·rename_i k e ae;have hu:=(π.fs o).kd w rfl;rw[ae]at hu;have aM:cl.args.map a.eval=#[.map r]:=by
         have:(cl.args.map a.eval).toList=[.map r]:=by rw[FL];exact I
         exact qq this
        have fin:∀n:Int,(Builtin.len_ cl.argTypes γ.type #[.map r]).run c.P w=.ok (.int .i64 n) w->N (.int .i64 n) w->γ.wp c.P a w K Q:=λn il ar=>by
         unfold Oper.wp
         have:(execOp a.eval γ).run c.P w=.ok (.value (.int .i64 n)) w:=by unfold execOp;simp only[aE];unfold resolve;rw[ω];simp only[pure_bind,invoke];rw[aM];show(do pure (Next.value (<-Builtin.len_ cl.argTypes γ.type #[.map r]))).run c.P w=_;rw[Sem.run_bind,il];rfl
         rw[this];exact eB _ _ ar
        cases r with
        |none=>exact fin 0 (by simp[Builtin.len_,aO,hu,goInt]) h
        |some b=>
         obtain⟨es,m,he,h⟩:=h;have bL:(getObj b).run c.P w=.ok (.map es m) w:=by simp[getObj,Sem.run,he]
         exact fin _ (by simp[Builtin.len_,aO,hu,goInt,bL,Result.andThen]) h
       ·cases hm
      ·cases hm
     ·cases hm
    ·exact h.elim
  ·rename_i ω;split at h
   ·rename_i t aO;obtain⟨i,o,h⟩:=du h;split at h
    ·rename_i e ae;obtain⟨ei,gq,h⟩:=du h;have h:=xW σ h;split at h
     ·rename_i x I;obtain⟨p,n,q,hp,h⟩:=nu h;have mQ:c.P.underlying t=some (.slice e):=by rw[(π.fs o).1,ae]
      have aM:cl.args.map a.eval=#[.slice p n q]:=by
       have:(cl.args.map a.eval).toList=[.slice p n q]:=by rw[FL,I,hp]
       exact qq this
      have fin:∀w',(Builtin.clear_ cl.argTypes γ.type #[.slice p n q]).run c.P w=.ok (.tuple #[]) w'->N (.tuple #[]) w'->γ.wp c.P a w K Q:=λw' il ar=>by unfold Oper.wp execOp;simp only[aE];unfold resolve;simp only[ω,pure_bind,invoke,builtin,aM,Sem.run_bind,il,Result.andThen_ok];exact eB _ _ ar
      rcases h with⟨aI,h⟩|⟨xg,rfl,ar,hw,h⟩
      ·refine fin w ?_ h;rcases aI with rfl|rfl
       ·simp[Builtin.clear_,aO,run_underlying mQ,Result.andThen]
       ·cases p<;>simp[Builtin.clear_,aO,run_underlying mQ,Result.andThen]
      ·refine fin _ ?_ (h _ rfl);obtain⟨ew,z,An,aI,qW,-,-⟩:=(π.fs gq).info;have Ce:(zeroValue e).run c.P w=.ok z w:=by simp[zeroValue,typeInfo,An,aI]
       rw[<-qW]at hw⊢;obtain⟨n,rfl⟩:=Nat.exists_eq_succ_of_ne_zero ar;simp[Builtin.clear_,aO,run_underlying mQ,Ce,LW hw,Result.andThen]
     ·exact h.elim
    ·exact h.elim
   ·exact h.elim
  ·exact JS π σ eB eE h
 ·exact JS π σ eB eE h
def tm(n:Nat)(d:Option Nat)(v:Value)(ν:c4)(K:c4->Prop):Prop:=
 match d with
 |some d=>ο (Nat.blt d n) (K ((d,v)::ν))
 |none=>K ν
theorem Hh(j:Nat)(v:Value)(ν:c4)(d:Nat):c4.get ((j,v)::ν) d=if j=d then some v else ν.get d:=by
 by_cases h:j=d
 ·subst h;simp[c4.get]
 ·have:Nat.beq j d=false:=by
   cases ω:Nat.beq j d with
   |false=>rfl
   |true=>exact(h (x3 ω)).elim
  simp[c4.get,this,h]
theorem wB{n:Nat}{a:Act}{ν:c4}(σ:Rel n a ν){d:Option Nat}{v:Value}{K:c4->Prop}(h:tm n d v ν K):∃fJ,Rel n (a.put d v) fJ/\K fJ:=by
 cases d with
 |none=>exact⟨ν,σ,h⟩
 |some d=>
  obtain⟨ae,h⟩:=h5 h;have ae:d+1<=n:=by simpa[Nat.blt,Nat.ble_eq]using ae
  have ae:d<n:=ae;refine⟨_,⟨σ.1,by simpa[Act.put]using σ.2.1,λj u χ=>?_⟩,h⟩;rw[Hh]at χ;simp only[Act.put];rw[Array.getElem?_setIfInBounds];by_cases e:d=j
  ·subst e
   have:v=u:=by simpa using χ
   subst this
   have:d<a.tmps.size:=by rw[σ.2.1];exact ae
   simp[this]
  ·rw[aN e]at χ⊢;exact σ.2.2 j u χ
theorem Rel.set{n:Nat}{a:Act}{ν:c4}(σ:Rel n a ν){d:Nat}{v:Value}(aL:a.tmps[d]?=some v):Rel n a ((d,v)::ν):=by
 refine⟨σ.1,σ.2.1,λj u χ=>?_⟩;rw[Hh]at χ;by_cases e:d=j
 ·subst e;rw[aY rfl]at χ;rw[aL,χ]
 ·rw[aN e]at χ;exact σ.2.2 j u χ
def BS(ops:List Oper)(g:Option (Nat×Bool))(ν:c4)(yes no:c4->Prop):Prop:=
 match g with
 |none=>yes ν
 |some (j,want)=>ξ ops[j]? λhq=>ξ hq.dst λd=>ξ (ν.get d) λv=>match v with
  | .bool b=>(match want with
   |true=>cond b (yes ((d,.bool true)::ν)) (no ((d,.bool false)::ν))
   |false=>cond b (no ((d,.bool true)::ν)) (yes ((d,.bool false)::ν)))
  | .tuple _=>no ν
  |_=>False
theorem D8{n:Nat}{a:Act}{ν:c4}(σ:Rel n a ν){ops:List Oper}{γ:Oper}{yes no:c4->Prop}(h:BS ops γ.guard ν yes no):
  (Region.wanted γ (yielded ops.toArray a.tmps)=true/\∃fJ,Rel n a fJ/\yes fJ)\/(Region.wanted γ (yielded ops.toArray a.tmps)=false/\∃fJ,Rel n a fJ/\no fJ):=by
 unfold BS at h;split at h
 ·rename_i bL;exact .inl ⟨by simp[Region.wanted,bL],ν,σ,h⟩
 ·rename_i j want bL;obtain⟨hq,χ,h⟩:=du h;obtain⟨d,ae,h⟩:=du h;obtain⟨v,aL,h⟩:=du h;have n9:=σ.2.2 d v aL;have e3:ops.toArray[j]?=some hq:=by simpa using χ
  split at h
  ·rename_i b;have ag:yielded ops.toArray a.tmps j=some b:=by simp[yielded,e3,ae,n9]
   cases want<;>cases b<;>first
    |exact .inl ⟨by simp[Region.wanted,bL,ag],_,σ.set n9,h⟩
    |exact .inr ⟨by simp[Region.wanted,bL,ag],_,σ.set n9,h⟩
  ·rename_i cs;have ag:yielded ops.toArray a.tmps j=none:=by simp[yielded,e3,ae,n9]
   exact .inr ⟨by simp[Region.wanted,bL,ag],_,σ,h⟩
  ·exact h.elim
def NQ(c:c3)(n:Nat)(ops:List Oper)(Q:c4->ai)(X:c4->List PanicEntry->ai):List Oper->c4->ai
 |[],ν,w=>Q ν w
 |γ::r,ν,w=>BS ops γ.guard ν
  (λν=>SO c γ ν w (λv w=>tm n γ.dst v ν λν=>NQ c n ops Q X r ν w) (X ν))
  (λν=>tm n γ.dst undef ν λν=>NQ c n ops Q X r ν w)
theorem SP{c:c3}(π:ht c){n:Nat}{ops:List Oper}{Q:c4->ai}{X:c4->List PanicEntry->ai}{Q':Exit->Act->ai}
  (dV:∀a ν w,Rel n a ν->Q ν w->Q' .normal a w)(eE:∀a ν cX w,Rel n a ν->X ν cX w->Q' (.panic cX) a w):
  ∀(l:List Oper)(a:Act)(ν:c4)(w:World),Rel n a ν->NQ c n ops Q X l ν w->wpList c.P ops.toArray Q' l a w
 |[],a,ν,w,σ,h=>dV a ν w σ h
 |γ::r,a,ν,w,σ,h=>by
  unfold wpList;rcases D8 σ h with⟨hw,fJ,eP,h⟩|⟨hw,fJ,eP,h⟩
  ·rw[aY hw];refine .inl (alZ π eP (K:=wpList c.P ops.toArray Q' r) (λv w' hp=>?_) (λcX w' I=>eE a fJ cX w' eP I) h);obtain⟨im,iU,η⟩:=wB eP hp;exact SP π dV eE r _ _ _ iU η
  ·rw[aN (by simp[hw])];obtain⟨im,iU,η⟩:=wB eP h;exact SP π dV eE r _ _ _ iU η
def Hd(c:c3)(n:Nat)(ops:List Oper)(Q:c4->Prop)(w:World):List Oper->c4->Prop
 |[],ν=>Q ν
 |γ::r,ν=>BS ops γ.guard ν
  (λν=>uy c γ ν w λv=>tm n γ.dst v ν λν=>Hd c n ops Q w r ν)
  (λν=>tm n γ.dst undef ν λν=>Hd c n ops Q w r ν)
theorem SQ{c:c3}(π:ht c){n:Nat}{ops:List Oper}{Q:c4->Prop}{w:World}{Q':Act->Prop}
  (dV:∀a ν,Rel n a ν->Q ν->Q' a):
  ∀(l:List Oper)(a:Act)(ν:c4),Rel n a ν->Hd c n ops Q w l ν->wpQuiet c.P ops.toArray (λw'=>∃n,w'=w.drewN n) Q' l a
 |[],a,ν,σ,h=>dV a ν σ h
 |γ::r,a,ν,σ,h=>by
  unfold wpQuiet;rcases D8 σ h with⟨hw,fJ,eP,h⟩|⟨hw,fJ,eP,h⟩
  ·rw[aY hw];obtain⟨v,aL,h⟩:=JT π eP h;obtain⟨im,iU,η⟩:=wB eP h;refine⟨v,?_,SQ π dV r _ _ iU η⟩;rintro w' ⟨k,rfl⟩;unfold Oper.quietAt;rw[aL (w.drewN k) rfl];exact⟨rfl,rfl⟩
  ·rw[aN (by simp[hw])];obtain⟨im,iU,η⟩:=wB eP h;exact SQ π dV r _ _ iU η
inductive cQ where
 |int (k:IntKind)|bool|str|slice|ptr|addr|c5|agg|val|vQ|p5|map|uA (g:Nat)|uz (g:Nat)|zO
def hb(β:Type):List (Nat×cQ)->Type
 |[]=>World->β
 |(_,.int _)::r=>Int->hb β r
 |(_,.bool)::r=>Bool->hb β r
 |(_,.str)::r=>ByteArray->hb β r
 |(_,.slice)::r=>J->Nat->Nat->hb β r
 |(_,.ptr)::r=>J->hb β r
 |(_,.addr)::r=>Addr->hb β r
 |(_,.c5)::r=>Nat->hb β r
 |(_,.agg)::r=>ah->hb β r
 |(_,.val)::r=>Value->hb β r
 |(_,.vQ)::r=>Nat->hb β r
 |(_,.p5)::r=>Nat->Nat->hb β r
 |(_,.map)::r=>Option Nat->hb β r
 |(_,.uA _)::r=>Nat->hb β r
 |(_,.uz _)::r=>hb β r
 |(_,.zO)::r=>Nat->hb β r
def St(v:Value)(K:Addr->Prop):Prop:=match v with| .pointer (some a)=>K a|_=>False
def Su(v:Value)(K:a1):Prop:=match v with| .pointer (some ⟨b,0,none⟩)=>K b|_=>False
def Sw(g:Nat)(v:Value)(K:a1):Prop:=match v with| .func (.func xq) ⟨[]⟩ ⟨[.pointer (some ⟨b,0,none⟩)]⟩=>ο (Nat.beq xq g) (K b)|_=>False
def Sv(g:Nat)(v:Value)(N:Prop):Prop:=match v with| .func (.func xq) ⟨[]⟩ ⟨[]⟩=>ο (Nat.beq xq g) N|_=>False
def Sx(v:Value)(K:a1):Prop:=match v with| .func (.yield l) ⟨[]⟩ ⟨[]⟩=>K l|_=>False
theorem NH{v:Value}{K:a1}(h:Sx v K):∃l,v=.func (.yield l) #[] #[]/\K l:=by
 unfold Sx at h;split at h
 ·exact⟨_,rfl,h⟩
 ·exact h.elim
theorem NC{g:Nat}{v:Value}{N:Prop}(h:Sv g v N):v=.func (.func g) #[] #[]/\N:=by
 unfold Sv at h;split at h
 ·obtain⟨e,η⟩:=h5 h;have e:=x3 e;exact⟨by rw[e],η⟩
 ·exact h.elim
theorem NA{v:Value}{K:Addr->Prop}(h:St v K):∃a,v=.pointer (some a)/\K a:=by
 unfold St at h;split at h
 ·exact⟨_,rfl,h⟩
 ·exact h.elim
theorem NB{v:Value}{K:a1}(h:Su v K):∃b,v=.pointer (some ⟨b,0,none⟩)/\K b:=by
 unfold Su at h;split at h
 ·exact⟨_,rfl,h⟩
 ·exact h.elim
theorem ND{g:Nat}{v:Value}{K:a1}(h:Sw g v K):∃b,v=.func (.func g) #[] #[.pointer (some ⟨b,0,none⟩)]/\K b:=by
 unfold Sw at h;split at h
 ·obtain⟨e,η⟩:=h5 h;have e:=x3 e;exact⟨_,by rw[e],η⟩
 ·exact h.elim
def gC:(b8:List (Nat×cQ))->hb Prop b8->c4->ai
 |[],K,_,w=>K w
 |(d,.int k)::r,K,ν,w=>ξ (ν.get d) λv=>bq k v λx=>gC r (K x) ν w
 |(d,.bool)::r,K,ν,w=>ξ (ν.get d) λv=>dD v λx=>gC r (K x) ν w
 |(d,.str)::r,K,ν,w=>ξ (ν.get d) λv=>lH v λx=>gC r (K x) ν w
 |(d,.slice)::r,K,ν,w=>ξ (ν.get d) λv=>df v λx y z=>gC r (K x y z) ν w
 |(d,.ptr)::r,K,ν,w=>ξ (ν.get d) λv=>hD v λx=>gC r (K x) ν w
 |(d,.addr)::r,K,ν,w=>ξ (ν.get d) λv=>St v λx=>gC r (K x) ν w
 |(d,.c5)::r,K,ν,w=>ξ (ν.get d) λv=>Su v λx=>gC r (K x) ν w
 |(d,.agg)::r,K,ν,w=>ξ (ν.get d) λv=>dZ v λx=>gC r (K x) ν w
 |(d,.val)::r,K,ν,w=>ξ (ν.get d) λv=>gC r (K v) ν w
 |(d,.vQ)::r,K,ν,w=>ξ (ν.get d) λv=>xj v λx=>gC r (K x) ν w
 |(d,.p5)::r,K,ν,w=>ξ (ν.get d) λv=>lG v λx y=>gC r (K x y) ν w
 |(d,.map)::r,K,ν,w=>ξ (ν.get d) λv=>p6 v λx=>gC r (K x) ν w
 |(d,.uA g)::r,K,ν,w=>ξ (ν.get d) λv=>Sw g v λx=>gC r (K x) ν w
 |(d,.uz g)::r,K,ν,w=>ξ (ν.get d) λv=>Sv g v (gC r K ν w)
 |(d,.zO)::r,K,ν,w=>ξ (ν.get d) λv=>Sx v λx=>gC r (K x) ν w
def ml:(b8:List (Nat×cQ))->hb Nat b8->c4->World->Nat
 |[],K,_,w=>K w
 |(d,.int _)::r,K,ν,w=>match ν.get d with|some (.int _ x)=>ml r (K x) ν w|_=>0
 |(d,.bool)::r,K,ν,w=>match ν.get d with|some (.bool x)=>ml r (K x) ν w|_=>0
 |(d,.str)::r,K,ν,w=>match ν.get d with|some (.string x)=>ml r (K x) ν w|_=>0
 |(d,.slice)::r,K,ν,w=>match ν.get d with|some (.slice x y z)=>ml r (K x y z) ν w|_=>0
 |(d,.ptr)::r,K,ν,w=>match ν.get d with|some (.pointer x)=>ml r (K x) ν w|_=>0
 |(d,.addr)::r,K,ν,w=>match ν.get d with|some (.pointer (some x))=>ml r (K x) ν w|_=>0
 |(d,.c5)::r,K,ν,w=>match ν.get d with|some (.pointer (some ⟨b,0,none⟩))=>ml r (K b) ν w|_=>0
 |(d,.agg)::r,K,ν,w=>match ν.get d with|some (.agg x)=>ml r (K x) ν w|_=>0
 |(d,.val)::r,K,ν,w=>match ν.get d with|some x=>ml r (K x) ν w|_=>0
 |(d,.vQ)::r,K,ν,w=>match ν.get d with|some (.float .f64 x)=>ml r (K x) ν w|_=>0
 |(d,.p5)::r,K,ν,w=>match ν.get d with|some (.complex .f64 x y)=>ml r (K x y) ν w|_=>0
 |(d,.map)::r,K,ν,w=>match ν.get d with|some (.map x)=>ml r (K x) ν w|_=>0
 |(d,.uA _)::r,K,ν,w=>match ν.get d with|some (.func _ _ ⟨[.pointer (some ⟨b,0,none⟩)]⟩)=>ml r (K b) ν w|_=>0
 |(_,.uz _)::r,K,ν,w=>ml r K ν w
 |(d,.zO)::r,K,ν,w=>match ν.get d with|some (.func (.yield l) _ _)=>ml r (K l) ν w|_=>0
def lz:(b8:List (Nat×cQ))->hb Prop b8->(c4->ai)->c4->Prop
 |[],K,G,ν=>∀w,K w->G ν w
 |(d,.int k)::r,K,G,ν=>∀x,lz r (K x) G ((d,.int k x)::ν)
 |(d,.bool)::r,K,G,ν=>∀x,lz r (K x) G ((d,.bool x)::ν)
 |(d,.str)::r,K,G,ν=>∀x,lz r (K x) G ((d,.string x)::ν)
 |(d,.slice)::r,K,G,ν=>∀x y z,lz r (K x y z) G ((d,.slice x y z)::ν)
 |(d,.ptr)::r,K,G,ν=>∀x,lz r (K x) G ((d,.pointer x)::ν)
 |(d,.addr)::r,K,G,ν=>∀x,lz r (K x) G ((d,.pointer (some x))::ν)
 |(d,.c5)::r,K,G,ν=>∀b,lz r (K b) G ((d,.pointer (some ⟨b,0,none⟩))::ν)
 |(d,.agg)::r,K,G,ν=>∀x,lz r (K x) G ((d,.agg x)::ν)
 |(d,.val)::r,K,G,ν=>∀x,lz r (K x) G ((d,x)::ν)
 |(d,.vQ)::r,K,G,ν=>∀x,lz r (K x) G ((d,.float .f64 x)::ν)
 |(d,.p5)::r,K,G,ν=>∀x y,lz r (K x y) G ((d,.complex .f64 x y)::ν)
 |(d,.map)::r,K,G,ν=>∀x,lz r (K x) G ((d,.map x)::ν)
 |(d,.uA g)::r,K,G,ν=>∀b,lz r (K b) G ((d,.func (.func g) #[] #[.pointer (some ⟨b,0,none⟩)])::ν)
 |(d,.uz g)::r,K,G,ν=>lz r K G ((d,.func (.func g) #[] #[])::ν)
 |(d,.zO)::r,K,G,ν=>∀x,lz r (K x) G ((d,.func (.yield x) #[] #[])::ν)
theorem ov{n:Nat}{a:Act}{ν:c4}(σ:Rel n a ν){G:c4->ai}{w:World}:∀{b8:List (Nat×cQ)}{K:hb Prop b8}{acc:c4},Rel n a acc->lz b8 K G acc->gC b8 K ν w->∃fJ,Rel n a fJ/\G fJ w
 |[],K,acc,ik,dM,h=>⟨acc,ik,dM w h⟩
 |(d,k)::r,K,acc,ik,dM,h=>by
  cases k<;>simp only[gC]at h<;>obtain⟨v,aL,h⟩:=du h<;>have ψ:=σ.2.2 d v aL
  ·obtain⟨x,rfl,η⟩:=G8 h;exact ov σ (ik.set ψ) (dM x) η
  ·obtain⟨x,rfl,h⟩:=BL h;exact ov σ (ik.set ψ) (dM x) h
  ·obtain⟨x,rfl,h⟩:=xk h;exact ov σ (ik.set ψ) (dM x) h
  ·obtain⟨x,y,z,rfl,h⟩:=nu h;exact ov σ (ik.set ψ) (dM x y z) h
  ·obtain⟨x,rfl,h⟩:=uu h;exact ov σ (ik.set ψ) (dM x) h
  ·obtain⟨x,rfl,h⟩:=NA h;exact ov σ (ik.set ψ) (dM x) h
  ·obtain⟨x,rfl,h⟩:=NB h;exact ov σ (ik.set ψ) (dM x) h
  ·obtain⟨x,rfl,h⟩:=yF h;exact ov σ (ik.set ψ) (dM x) h
  ·exact ov σ (ik.set ψ) (dM v) h
  ·obtain⟨x,rfl,h⟩:=DV h;exact ov σ (ik.set ψ) (dM x) h
  ·obtain⟨x,y,rfl,h⟩:=Ad h;exact ov σ (ik.set ψ) (dM x y) h
  ·obtain⟨x,rfl,h⟩:=yG h;exact ov σ (ik.set ψ) (dM x) h
  ·obtain⟨x,rfl,η⟩:=ND h;exact ov σ (ik.set ψ) (dM x) η
  ·obtain⟨rfl,η⟩:=NC h;exact ov σ (ik.set ψ) dM η
  ·obtain⟨x,rfl,η⟩:=NH h;exact ov σ (ik.set ψ) (dM x) η
def ou:(b8:List (Nat×cQ))->hb Prop b8->hb Nat b8->(Nat->c4->ai)->c4->Prop
 |[],K,m,G,ν=>∀w,K w->G (m w) ν w
 |(d,.int k)::r,K,m,G,ν=>∀x,ou r (K x) (m x) G ((d,.int k x)::ν)
 |(d,.bool)::r,K,m,G,ν=>∀x,ou r (K x) (m x) G ((d,.bool x)::ν)
 |(d,.str)::r,K,m,G,ν=>∀x,ou r (K x) (m x) G ((d,.string x)::ν)
 |(d,.slice)::r,K,m,G,ν=>∀x y z,ou r (K x y z) (m x y z) G ((d,.slice x y z)::ν)
 |(d,.ptr)::r,K,m,G,ν=>∀x,ou r (K x) (m x) G ((d,.pointer x)::ν)
 |(d,.addr)::r,K,m,G,ν=>∀x,ou r (K x) (m x) G ((d,.pointer (some x))::ν)
 |(d,.c5)::r,K,m,G,ν=>∀x,ou r (K x) (m x) G ((d,.pointer (some ⟨x,0,none⟩))::ν)
 |(d,.agg)::r,K,m,G,ν=>∀x,ou r (K x) (m x) G ((d,.agg x)::ν)
 |(d,.val)::r,K,m,G,ν=>∀x,ou r (K x) (m x) G ((d,x)::ν)
 |(d,.vQ)::r,K,m,G,ν=>∀x,ou r (K x) (m x) G ((d,.float .f64 x)::ν)
 |(d,.p5)::r,K,m,G,ν=>∀x y,ou r (K x y) (m x y) G ((d,.complex .f64 x y)::ν)
 |(d,.map)::r,K,m,G,ν=>∀x,ou r (K x) (m x) G ((d,.map x)::ν)
 |(d,.uA g)::r,K,m,G,ν=>∀x,ou r (K x) (m x) G ((d,.func (.func g) #[] #[.pointer (some ⟨x,0,none⟩)])::ν)
 |(d,.uz g)::r,K,m,G,ν=>ou r K m G ((d,.func (.func g) #[] #[])::ν)
 |(d,.zO)::r,K,m,G,ν=>∀x,ou r (K x) (m x) G ((d,.func (.yield x) #[] #[])::ν)
theorem qC{n:Nat}{a:Act}{ν:c4}(σ:Rel n a ν){G:Nat->c4->ai}{w:World}:∀{b8:List (Nat×cQ)}{K:hb Prop b8}{m:hb Nat b8}{acc:c4},Rel n a acc->ou b8 K m G acc->gC b8 K ν w->∃fJ,Rel n a fJ/\G (ml b8 m ν w) fJ w
 |[],K,m,acc,ik,dM,h=>⟨acc,ik,dM w h⟩
 |(d,k)::r,K,m,acc,ik,dM,h=>by
  cases k<;>simp only[gC]at h<;>obtain⟨v,aL,h⟩:=du h<;>have ψ:=σ.2.2 d v aL<;>simp only[ml,aL]
  ·obtain⟨x,rfl,η⟩:=G8 h;exact qC σ (ik.set ψ) (dM x) η
  ·obtain⟨x,rfl,η⟩:=BL h;exact qC σ (ik.set ψ) (dM x) η
  ·obtain⟨x,rfl,η⟩:=xk h;exact qC σ (ik.set ψ) (dM x) η
  ·obtain⟨x,y,z,rfl,η⟩:=nu h;exact qC σ (ik.set ψ) (dM x y z) η
  ·obtain⟨x,rfl,η⟩:=uu h;exact qC σ (ik.set ψ) (dM x) η
  ·obtain⟨x,rfl,η⟩:=NA h;exact qC σ (ik.set ψ) (dM x) η
  ·obtain⟨x,rfl,η⟩:=NB h;exact qC σ (ik.set ψ) (dM x) η
  ·obtain⟨x,rfl,η⟩:=yF h;exact qC σ (ik.set ψ) (dM x) η
  ·exact qC σ (ik.set ψ) (dM v) h
  ·obtain⟨x,rfl,η⟩:=DV h;exact qC σ (ik.set ψ) (dM x) η
  ·obtain⟨x,y,rfl,η⟩:=Ad h;exact qC σ (ik.set ψ) (dM x y) η
  ·obtain⟨x,rfl,η⟩:=yG h;exact qC σ (ik.set ψ) (dM x) η
  ·obtain⟨x,rfl,η⟩:=ND h;exact qC σ (ik.set ψ) (dM x) η
  ·obtain⟨rfl,η⟩:=NC h;exact qC σ (ik.set ψ) dM η
  ·obtain⟨x,rfl,η⟩:=NH h;exact qC σ (ik.set ψ) (dM x) η
theorem pk{ν im:c4}(aE:∀d v,ν.get d=some v->im.get d=some v){w:World}:∀{b8:List (Nat×cQ)}{K:hb Prop b8},gC b8 K ν w->gC b8 K im w/\∀m,ml b8 m ν w=ml b8 m im w
 |[],K,h=>⟨h,λ_=>rfl⟩
 |(d,k)::r,K,h=>by
  cases k<;>simp only[gC]at h<;>obtain⟨v,aL,h⟩:=du h<;>have ψ:=aE d v aL<;>simp only[ml,gC,aL,ψ]
  ·obtain⟨x,rfl,η⟩:=G8 h;obtain⟨h1,au⟩:=pk aE η;exact⟨aW rfl h1,λm=>au (m x)⟩
  ·obtain⟨x,rfl,η⟩:=BL h;obtain⟨h1,au⟩:=pk aE η;exact⟨h1,λm=>au (m x)⟩
  ·obtain⟨x,rfl,η⟩:=xk h;obtain⟨h1,au⟩:=pk aE η;exact⟨h1,λm=>au (m x)⟩
  ·obtain⟨x,y,z,rfl,η⟩:=nu h;obtain⟨h1,au⟩:=pk aE η;exact⟨h1,λm=>au (m x y z)⟩
  ·obtain⟨x,rfl,η⟩:=uu h;obtain⟨h1,au⟩:=pk aE η;exact⟨h1,λm=>au (m x)⟩
  ·obtain⟨x,rfl,η⟩:=NA h;obtain⟨h1,au⟩:=pk aE η;exact⟨h1,λm=>au (m x)⟩
  ·obtain⟨x,rfl,η⟩:=NB h;obtain⟨h1,au⟩:=pk aE η;exact⟨h1,λm=>au (m x)⟩
  ·obtain⟨x,rfl,η⟩:=yF h;obtain⟨h1,au⟩:=pk aE η;exact⟨h1,λm=>au (m x)⟩
  ·obtain⟨h1,η⟩:=pk aE h;exact⟨h1,λm=>η (m v)⟩
  ·obtain⟨x,rfl,η⟩:=DV h;obtain⟨h1,au⟩:=pk aE η;exact⟨h1,λm=>au (m x)⟩
  ·obtain⟨x,y,rfl,η⟩:=Ad h;obtain⟨h1,au⟩:=pk aE η;exact⟨h1,λm=>au (m x y)⟩
  ·obtain⟨x,rfl,η⟩:=yG h;obtain⟨h1,au⟩:=pk aE η;exact⟨h1,λm=>au (m x)⟩
  ·obtain⟨x,rfl,η⟩:=ND h;obtain⟨h1,au⟩:=pk aE η;exact⟨bO (by simp[Cx]) h1,λm=>au (m x)⟩
  ·obtain⟨rfl,η⟩:=NC h;obtain⟨h1,au⟩:=pk aE η;exact⟨bO (by simp[Cx]) h1,λm=>au m⟩
  ·obtain⟨x,rfl,η⟩:=NH h;obtain⟨h1,au⟩:=pk aE η;exact⟨h1,λm=>au (m x)⟩
def mj:(b8:List (Nat×cQ))->hb Prop b8->hb Nat b8->Nat->hb Prop b8
 |[],bw,m,k=>λw=>bw w/\m w<k
 |(_,.int _)::r,bw,m,k=>λx=>mj r (bw x) (m x) k
 |(_,.bool)::r,bw,m,k=>λx=>mj r (bw x) (m x) k
 |(_,.str)::r,bw,m,k=>λx=>mj r (bw x) (m x) k
 |(_,.slice)::r,bw,m,k=>λx y z=>mj r (bw x y z) (m x y z) k
 |(_,.ptr)::r,bw,m,k=>λx=>mj r (bw x) (m x) k
 |(_,.addr)::r,bw,m,k=>λx=>mj r (bw x) (m x) k
 |(_,.c5)::r,bw,m,k=>λx=>mj r (bw x) (m x) k
 |(_,.agg)::r,bw,m,k=>λx=>mj r (bw x) (m x) k
 |(_,.val)::r,bw,m,k=>λx=>mj r (bw x) (m x) k
 |(_,.vQ)::r,bw,m,k=>λx=>mj r (bw x) (m x) k
 |(_,.p5)::r,bw,m,k=>λx y=>mj r (bw x y) (m x y) k
 |(_,.map)::r,bw,m,k=>λx=>mj r (bw x) (m x) k
 |(_,.uA _)::r,bw,m,k=>λx=>mj r (bw x) (m x) k
 |(_,.uz _)::r,bw,m,k=>mj r bw m k
 |(_,.zO)::r,bw,m,k=>λx=>mj r (bw x) (m x) k
theorem qD{k:Nat}{ν:c4}{w:World}:∀{b8:List (Nat×cQ)}{bw:hb Prop b8}{m:hb Nat b8},gC b8 (mj b8 bw m k) ν w->gC b8 bw ν w/\ml b8 m ν w<k
 |[],bw,m,h=>h
 |(d,apO)::r,bw,m,h=>by
  cases apO<;>simp only[gC]at h<;>obtain⟨v,aL,h⟩:=du h<;>simp only[ml,gC,aL]
  ·obtain⟨x,rfl,η⟩:=G8 h;obtain⟨h1,au⟩:=qD η;exact⟨aW rfl h1,au⟩
  ·obtain⟨x,rfl,η⟩:=BL h;obtain⟨h1,au⟩:=qD η;exact⟨h1,au⟩
  ·obtain⟨x,rfl,η⟩:=xk h;obtain⟨h1,au⟩:=qD η;exact⟨h1,au⟩
  ·obtain⟨x,y,z,rfl,η⟩:=nu h;obtain⟨h1,au⟩:=qD η;exact⟨h1,au⟩
  ·obtain⟨x,rfl,η⟩:=uu h;obtain⟨h1,au⟩:=qD η;exact⟨h1,au⟩
  ·obtain⟨x,rfl,η⟩:=NA h;obtain⟨h1,au⟩:=qD η;exact⟨h1,au⟩
  ·obtain⟨x,rfl,η⟩:=NB h;obtain⟨h1,au⟩:=qD η;exact⟨h1,au⟩
  ·obtain⟨x,rfl,η⟩:=yF h;obtain⟨h1,au⟩:=qD η;exact⟨h1,au⟩
  ·exact qD h
  ·obtain⟨x,rfl,η⟩:=DV h;obtain⟨h1,au⟩:=qD η;exact⟨h1,au⟩
  ·obtain⟨x,y,rfl,η⟩:=Ad h;obtain⟨h1,au⟩:=qD η;exact⟨h1,au⟩
  ·obtain⟨x,rfl,η⟩:=yG h;obtain⟨h1,au⟩:=qD η;exact⟨h1,au⟩
  ·obtain⟨x,rfl,η⟩:=ND h;obtain⟨h1,au⟩:=qD η;exact⟨bO (by simp[Cx]) h1,au⟩
  ·obtain⟨rfl,η⟩:=NC h;obtain⟨h1,au⟩:=qD η;exact⟨bO (by simp[Cx]) h1,au⟩
  ·obtain⟨x,rfl,η⟩:=NH h;obtain⟨h1,au⟩:=qD η;exact⟨h1,au⟩
end Go.bI

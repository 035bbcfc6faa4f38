/- The walk of the functions, and the plain laws of the model: part of the proof. Conditions: none. -/
import Derived.WalkKit
import Derived.Orders
import Derived.Laws.Rows
import Derived.Deep.Draws
import Derived.Laws.IdiomCopy
import Derived.RangeFuncRecord
import Derived.Maps.RangeRun
import Derived.Deep.Quiet
import Derived.Scope
set_option linter.unusedVariables false
set_option linter.unusedSimpArgs false
namespace Go.bJ
abbrev au:=Ending->World->Prop
abbrev al:=World->Prop
abbrev γ:=Option Addr
abbrev bl:=Nat->Prop
abbrev aq:=List Int
abbrev aY:=List Value
abbrev aj:=Array Value
abbrev aL:=@if_neg
abbrev aN:=@if_pos
abbrev bI:=@decide_eq_true
abbrev b6:=@of_decide_eq_true
abbrev ch:=@Int.toNat_natCast
abbrev dn:=@of_decide_eq_false
abbrev dO:=@Nat.le_refl
abbrev eF:=@Int.eq_ofNat_of_zero_le
abbrev eR:=@Nat.zero_le
abbrev eS:=@Nat.mul_one
abbrev fa:=@List.mem_of_getElem?
abbrev fw:=@List.length_append
abbrev fB:=@List.mem_cons
abbrev fP:=@List.size_toArray
abbrev gx:=@List.mem_map
abbrev gE:=@Nat.le_trans
abbrev hr:=@congrArg
abbrev hs:=@List.length_take
abbrev hP:=@List.getElem_mem
abbrev hQ:=@List.length_set
abbrev hR:=@List.take_of_length_le
abbrev ie:=@List.mem_cons_of_mem
abbrev iC:=@List.mem_append
abbrev iX:=@decide_eq_false
abbrev jB:=@Option.map_some
abbrev jM:=@List.length_map
abbrev kU:=@List.length_cons
abbrev lf:=@Bool.and_eq_true
abbrev lg:=@List.length_drop
abbrev lh:=@List.mem_range
abbrev lL:=@Array.length_toList
abbrev ma:=@List.mem_singleton
abbrev mb:=@List.take_succ_eq_append_getElem
abbrev mc:=@Nat.add_mul
abbrev me:=@List.length_replicate
abbrev nb:=@List.eq_of_mem_replicate
abbrev nc:=@List.append_assoc
abbrev nN:=@List.mem_filter
abbrev og:=@Iff.rfl
abbrev oh:=@Nat.zero_add
abbrev oi:=@List.not_mem_nil
abbrev oj:=@List.mem_cons_self
abbrev py:=@or_false
abbrev qg:=@if_true
abbrev qh:=@List.mem_or_eq_of_mem_set
abbrev qi:=@List.append_nil
abbrev qj:=@List.take_append_of_le_length
abbrev qk:=@List.mem_flatMap
abbrev qI:=@decide_eq_true_eq
abbrev qJ:=@Int.mul_le_mul
abbrev rK:=@List.map_set
abbrev rL:=@List.ext_getElem?
abbrev rM:=@Array.ext'
abbrev so:=@if_false
abbrev sq:=@List.drop_eq_nil_of_le
abbrev sr:=@Nat.min_eq_left
abbrev ss:=@List.map_append
abbrev ts:=@cond_true
abbrev tt:=@Option.some.injEq
abbrev tu:=@List.eq_nil_of_length_eq_zero
abbrev tv:=@Nat.sub_self
abbrev uJ:=@List.nil_append
abbrev uK:=@Nat.mul_le_mul_right
abbrev v7:=@Bool.not_true
abbrev v8:=@List.range_succ
abbrev wa:=@List.mem_filterMap
abbrev xx:=@Bool.false_eq_true
abbrev xy:=@List.mem_of_mem_take
abbrev xz:=@cond_false
abbrev xA:=@List.map_take
abbrev xB:=@List.flatMap_append
abbrev xC:=@List.length_range
abbrev xD:=@Int.tmod_eq_emod_of_nonneg
abbrev yW:=@List.map_cons
abbrev yX:=@List.map_drop
abbrev yY:=@Nat.eq_of_beq_eq_true
abbrev yZ:=@Int.mul_nonneg
abbrev Ar:=@Bool.not_false
abbrev As:=@List.flatMap_cons
abbrev Au:=@List.take_append_drop
abbrev Ca:=@List.length_singleton
abbrev Cb:=@List.take_length
abbrev Cc:=@Array.toList_modify
abbrev Cd:=@Option.some.inj
abbrev Ce:=@List.take_take
abbrev Cf:=@List.set_append_right
abbrev Cg:=@Prod.ext
abbrev DO:=@List.replicate_succ
abbrev DP:=@List.flatten_cons
abbrev DQ:=@List.filter_append
abbrev DR:=@Nat.beq_refl
abbrev DS:=@List.all_eq_true
abbrev DT:=@List.drop_append_of_le_length
abbrev DU:=@List.nodup_range
abbrev DV:=@List.map_map
abbrev DW:=@List.map_congr_left
abbrev DX:=@List.pairwise_iff_getElem
abbrev G8:=@List.length_nil
abbrev G9:=@Nat.one_mul
abbrev Ha:=@Array.getD_eq_getD_getElem?
abbrev G0:=@Prod.mk.injEq
abbrev G1:=@Array.toList_map
abbrev G2:=@List.drop_take
abbrev G3:=@List.take_zero
abbrev G4:=@List.set_cons_zero
abbrev G5:=@Int.emod_eq_of_lt
abbrev G6:=@List.length_tail
abbrev G7:=@List.Pairwise.map
abbrev JJ:=@List.map_replicate
abbrev JK:=@Nat.le_of_eq
abbrev JL:=@List.drop_eq_getElem_cons
abbrev JM:=@List.any_eq_false
abbrev JN:=@Int.fdiv_eq_ediv_of_nonneg
abbrev JO:=@List.mem_of_mem_drop
abbrev JP:=@Int.mul_le_mul_of_nonneg_right
abbrev JQ:=@Option.isSome_iff_exists
abbrev JR:=@Bool.and_eq_true_iff
abbrev JS:=@Nat.le_of_not_lt
abbrev JT:=@Array.getElem_toList
abbrev JU:=@Nat.lt_or_ge
abbrev JV:=@Nat.lt_succ_self
abbrev JW:=@Nat.add_sub_cancel_left
abbrev JX:=@List.cons_append
abbrev Ni:=@decide_eq_false_iff_not
abbrev Nj:=@Int.emod_lt_of_pos
abbrev Nk:=@Int.ediv_eq_zero_of_lt
abbrev Nl:=@Nat.mod_eq_of_lt
abbrev Nn:=@List.all_append
abbrev No:=@Array.toArray_toList
abbrev Np:=@Int.toNat_of_nonneg
abbrev Nq:=@Array.size_append
abbrev Nr:=@List.drop_left
abbrev Ns:=@List.nodup_cons
abbrev Nt:=@Int.emod_nonneg
abbrev Nu:=@Option.filter_some
abbrev Nv:=@List.mem_zipIdx_iff_getElem?
abbrev Rk:=@List.any_eq_true
abbrev Rl:=@Bool.or_eq_false_iff
abbrev Rm:=@List.drop_drop
abbrev Rn:=@Option.getD_some
abbrev Ro:=@List.mem_append_left
abbrev Rp:=@Array.eq_empty_of_size_eq_zero
abbrev Rq:=@Nat.le_of_ble_eq_true
abbrev Rr:=@List.filter_eq_self
abbrev Rs:=@List.take_left
abbrev Rt:=@List.nodup_nil
abbrev Ru:=@Array.size_modify
abbrev Rv:=@Array.toList_push
abbrev Rw:=@Bool.true_and
abbrev Rx:=@Int.tdiv_eq_ediv_of_nonneg
abbrev Ry:=@List.take_add_one
abbrev Rz:=@List.mem_mapIdx
abbrev RA:=@List.drop_zero
abbrev RB:=@List.filter_eq_nil_iff
abbrev RC:=@List.sum_append
abbrev RD:=@List.mem_iff_getElem
abbrev RE:=@List.replicate_succ'
abbrev RF:=@List.take_replicate
abbrev RG:=@ByteArray.size_append
abbrev X0:=@List.length_filter_le
abbrev X1:=@List.eq_nil_iff_forall_not_mem
abbrev X2:=@List.mem_of_mem_tail
abbrev X3:=@Int.add_mul_ediv_right
abbrev X4:=@List.length_pos_iff
abbrev X5:=@List.Pairwise.imp_of_mem
abbrev dj:=List (Nat×Value)
def dj.get:dj->Nat->Option Value
 |[],_=>none
 |(j,v)::r,d=>cond (Nat.beq j d) (some v) (dj.get r d)
structure c0 where
 desc:TypeDesc
 size:Nat
 bytes:Nat
 zero:aY
def c5(P:Program)(t:TypeId)(i:c0):Prop:=
 P.underlying t=some i.desc/\(P.info? t).map (λx=>(x.size,x.bytes))=some (i.size,i.bytes)/\
  ((P.info? t).bind (·.zero)).map (λz=>z.cells.toList)=some i.zero
def e6:List (Option c0)->Nat->Option c0
 |[],_=>none
 |x::_,0=>x
 |_::r,n+1=>e6 r n
def KO(P:Program):Nat->List (Option c0)->Prop
 |_,[]=>True
 |k,none::r=>KO P (k+1) r
 |k,some i::r=>c5 P k i/\KO P (k+1) r
theorem YG{P:Program}:∀{tb:List (Option c0)}{k:Nat},KO P k tb->∀{t i},e6 tb t=some i->c5 P (k+t) i
 |[],_,_,t,i,h=>by simp[e6]at h
 |none::r,k,hk,0,i,h=>by simp[e6]at h
 |some j::r,k,hk,0,i,h=>by simp only[e6,tt]at h;subst h;exact hk.1
 |none::r,k,hk,t+1,i,h=>by
  have:=YG (tb:=r) (k:=k+1) hk (t:=t) (i:=i) (by simpa[e6]using h)
  rwa[Nat.add_right_comm,Nat.add_assoc]at this
 |some j::r,k,hk,t+1,i,h=>by
  have:=YG (tb:=r) (k:=k+1) hk.2 (t:=t) (i:=i) (by simpa[e6]using h)
  rwa[Nat.add_right_comm,Nat.add_assoc]at this
structure di where
 P:Program
 tb:List (Option c0)
 fns:List Nat
structure hT(c:di):Prop where
 Ki:KO c.P 0 c.tb
 fn:∀f,f∈c.fns->∃fn,c.P.funcs[f]?=some fn/\(fn.name== "runtime.NumGoroutine")=false/\fn.body.isNone=false
 mixed:c.P.follows .mixedOrders=true
theorem hT.fR{c:di}(h:hT c){t:TypeId}{i:c0}(aS:e6 c.tb t=some i):c5 c.P t i:=by
 have:=YG h.Ki aS
 rwa[oh]at this
def Rel(n:Nat)(a:Act)(ο:dj):Prop:=a.defers=[]/\a.tmps.size=n/\∀d v,ο.get d=some v->a.tmps[d]?=some v
def ν(b:Bool)(N:Prop):Prop:=cond b N False
def br(k:IntKind)(v:Value)(K:Int->Prop):Prop:=match v with| .int k' n=>ν (decide (k'=k)) (K n)|_=>False
def dF(v:Value)(K:Bool->Prop):Prop:=match v with| .bool b=>K b|_=>False
def cX(v:Value)(K:γ->Nat->bl):Prop:=match v with| .slice a n c=>K a n c|_=>False
def gI(v:Value)(K:γ->Prop):Prop:=match v with| .pointer a=>K a|_=>False
def cv(v:Value)(K:aj->Prop):Prop:=match v with| .agg cs=>K cs|_=>False
def b7(v:Value)(K:aj->Prop):Prop:=match v with| .tuple cs=>K cs|_=>False
def iI(v:Value)(K:ByteArray->Prop):Prop:=match v with| .string s=>K s|_=>False
def x5(v:Value)(K:bl):Prop:=match v with| .float .f64 b=>K b|_=>False
def mA(v:Value)(K:Nat->bl):Prop:=match v with| .complex .f64 a b=>K a b|_=>False
def rf(v:Value)(K:Option Nat->Prop):Prop:=match v with| .map r=>K r|_=>False
def ξ{α:Type}(x:Option α)(K:α->Prop):Prop:=match x with|some v=>K v|none=>False
def zF(d:TypeDesc)(v:Value)(K:Value->Prop):Prop:=
 match d with
 | .int k=>br k v λn=>K (.int k n)
 | .bool=>dF v λb=>K (.bool b)
 | .string=>iI v λs=>K (.string s)
 | .float _=>x5 v λb=>K (.float .f64 b)
 | .complex _=>mA v λa b=>K (.complex .f64 a b)
 | .slice _=>cX v λa n c=>K (.slice a n c)
 | .pointer _=>gI v λa=>K (.pointer a)
 | .map _ _=>rf v λr=>K (.map r)
 | .struct _=>cv v λcs=>K (.agg cs)
 | .array _ _=>cv v λcs=>K (.agg cs)
 | .tuple _=>b7 v λcs=>K (.tuple cs)
 |_=>K v
section inv
variable{N:Prop}{v:Value}
theorem iy{b:Bool}(h:ν b N):b=true/\N:=by cases b<;>simp_all[ν]
theorem bU{b:Bool}(τ:b=true)(h:N):ν b N:=by subst τ;exact h
theorem aT{p:Prop}[Decidable p](τ:p)(h:N):ν (decide p) N:=bU (bI τ) h
theorem IE{k:IntKind}{K:Int->Prop}(h:br k v K):∃n,v=.int k n/\K n:=by
 unfold br at h;split at h
 ·have e:=b6 (iy h).1;subst e;exact⟨_,rfl,(iy h).2⟩
 ·exact h.elim
theorem CZ{K:Bool->Prop}(h:dF v K):∃n,v=.bool n/\K n:=by
 unfold dF at h;split at h
 ·exact⟨_,rfl,h⟩
 ·exact h.elim
theorem oz{K:γ->Nat->bl}(h:cX v K):∃a n c,v=.slice a n c/\K a n c:=by
 unfold cX at h;split at h
 ·exact⟨_,_,_,rfl,h⟩
 ·exact h.elim
theorem vw{K:γ->Prop}(h:gI v K):∃a,v=.pointer a/\K a:=by
 unfold gI at h;split at h
 ·exact⟨_,rfl,h⟩
 ·exact h.elim
theorem zD{K:aj->Prop}(h:cv v K):∃a,v=.agg a/\K a:=by
 unfold cv at h;split at h
 ·exact⟨_,rfl,h⟩
 ·exact h.elim
theorem abq{K:aj->Prop}(h:b7 v K):∃a,v=.tuple a/\K a:=by
 unfold b7 at h;split at h
 ·exact⟨_,rfl,h⟩
 ·exact h.elim
theorem x6{K:ByteArray->Prop}(h:iI v K):∃a,v=.string a/\K a:=by
 unfold iI at h;split at h
 ·exact⟨_,rfl,h⟩
 ·exact h.elim
theorem Fk{K:bl}(h:x5 v K):∃a,v=.float .f64 a/\K a:=by
 unfold x5 at h;split at h
 ·exact⟨_,rfl,h⟩
 ·exact h.elim
theorem Bh{K:Nat->bl}(h:mA v K):∃a b,v=.complex .f64 a b/\K a b:=by
 unfold mA at h;split at h
 ·exact⟨_,_,rfl,h⟩
 ·exact h.elim
theorem zE{K:Option Nat->Prop}(h:rf v K):∃a,v=.map a/\K a:=by
 unfold rf at h;split at h
 ·exact⟨_,rfl,h⟩
 ·exact h.elim
theorem dC{α:Type}{x:Option α}{K:α->Prop}(h:ξ x K):∃v,x=some v/\K v:=by
 unfold ξ at h;split at h
 ·exact⟨_,rfl,h⟩
 ·exact h.elim
theorem hh{α:Type}{x:Option α}{K:α->Prop}{v:α}(e:x=some v)(h:K v):ξ x K:=by subst e;exact h
theorem Fl{d:TypeDesc}{K:Value->Prop}(h:zF d v K):K v:=by
 unfold zF at h;split at h
 ·obtain⟨n,e,h⟩:=IE h;rw[e];exact h
 ·obtain⟨n,rfl,h⟩:=CZ h;exact h
 ·obtain⟨n,rfl,h⟩:=x6 h;exact h
 ·obtain⟨n,rfl,h⟩:=Fk h;exact h
 ·obtain⟨n,m,rfl,h⟩:=Bh h;exact h
 ·obtain⟨n,m,l,rfl,h⟩:=oz h;exact h
 ·obtain⟨n,rfl,h⟩:=vw h;exact h
 ·obtain⟨n,rfl,h⟩:=zE h;exact h
 ·obtain⟨n,rfl,h⟩:=zD h;exact h
 ·obtain⟨n,rfl,h⟩:=zD h;exact h
 ·obtain⟨n,rfl,h⟩:=abq h;exact h
 ·exact h
end inv
def e0(ο:dj)(x:Operand)(K:Value->Prop):Prop:=
 match x with
 | .tmp t=>ξ (ο.get t) K
 | .const v=>K v
 | .global g=>K (.pointer (some ⟨g,0,none⟩))
 | .func f=>K (.func (.func f) #[] #[])
theorem hc{n:Nat}{a:Act}{ο:dj}(φ:Rel n a ο){x:Operand}{K:Value->Prop}(h:e0 ο x K):K (a.eval x):=by
 cases x with
 |tmp t=>
  obtain⟨v,e,h⟩:=dC h
  have:=φ.2.2 _ _ e
  show K (a.tmps.getD t undef);rw[Ha,this];exact h
 |const v=>exact h
 |global g=>exact h
 |func f=>exact h
def qc(ο:dj):List Operand->(aY->Prop)->Prop
 |[],K=>K []
 |x::r,K=>e0 ο x λv=>qc ο r λvs=>K (v::vs)
theorem yR{n:Nat}{a:Act}{ο:dj}(φ:Rel n a ο):∀{xs:List Operand}{K:aY->Prop},qc ο xs K->K (xs.map a.eval)
 |[],_,h=>h
 |x::r,K,h=>yR φ (xs:=r) (hc φ h)
def B2(ο:dj):Option Operand->(Option Value->Prop)->Prop
 |none,K=>K none
 |some x,K=>e0 ο x λv=>K (some v)
theorem Xu{n:Nat}{a:Act}{ο:dj}(φ:Rel n a ο):∀{x:Option Operand}{K:Option Value->Prop},B2 ο x K->K (x.map a.eval)
 |none,_,h=>h
 |some x,K,h=>hc (K:=λv=>K (some v)) φ h
def MW(ο:dj):List (Nat×Operand)->(List (Nat×Value)->Prop)->Prop
 |[],K=>K []
 |(i,x)::r,K=>e0 ο x λv=>MW ο r λvs=>K ((i,v)::vs)
theorem Xt{n:Nat}{a:Act}{ο:dj}(φ:Rel n a ο):∀{xs:List (Nat×Operand)}{K:List (Nat×Value)->Prop},MW ο xs K->K (xs.map λ(i,x)=>(i,a.eval x))
 |[],_,h=>h
 |(i,x)::r,K,h=>Xt φ (xs:=r) (hc (K:=λv=>MW ο r λvs=>K ((i,v)::vs)) φ h)
def gP{α:Type}(P:Program)(m:Sem α)(H:Array Obj)(v:α):Prop:=∀w:World,w.heap=H->m.run P w=.ok v w
theorem gP.pure{α:Type}{P:Program}{H:Array Obj}(v:α):gP P (pure v) H v:=λ_ _=>rfl
theorem gP.underlying{P:Program}{H:Array Obj}{t:TypeId}{d:TypeDesc}(h:P.underlying t=some d):gP P (underlying t) H d:=λw _=>run_underlying h w
theorem c5.kC{P:Program}{H:Array Obj}{t:TypeId}{i:c0}(h:c5 P t i):gP P (Go.underlying t) H i.desc:=gP.underlying h.1
theorem c5.sY{P:Program}{H:Array Obj}{t:TypeId}{i:c0}(h:c5 P t i):gP P (sizeOf t) H i.size:=λw _=>by
 obtain⟨_,ι,_⟩:=h;cases aH:P.info? t with
 |none=>simp[aH]at ι
 |some x=>
  simp only[aH,jB,tt,G0]at ι;simp[sizeOf,typeInfo,aH,ι.1]
def Bi:TypeDesc->Bool
 | .struct _=>true
 | .array _ _=>true
 |_=>false
theorem c5.PQ{P:Program}{H:Array Obj}{t:TypeId}{i:c0}(h:c5 P t i):gP P (isAgg t) H (Bi i.desc):=λw hw=>by unfold isAgg;rw[Sem.run_bind,h.kC w hw,Result.andThen_ok];cases i.desc<;>rfl
def vq(x y:Nat):Option Nat:=FloatKind.f64.format.add x y
def eQ(op:BinOp)(x y:Nat):Bool:=
 let c:=FloatKind.f64.format.order x y
 match op with
 | .eql=>c==some .eq
 | .neq=>c !=some .eq
 | .lss=>c==some .lt
 | .leq=>c==some .lt||c==some .eq
 | .gtr=>c==some .gt
 | .geq=>c==some .gt||c==some .eq
 |_=>false
def ad2:BinOp->Bool
 | .eql=>true| .neq=>true| .lss=>true| .leq=>true| .gtr=>true| .geq=>true
 |_=>false
def Pe(op:BinOp)(k:IntKind)(a b:Int)(K:Value->Prop):Prop:=
 match op with
 | .add=>K (.int k (k.wrap (a+b)))
 | .sub=>K (.int k (k.wrap (a-b)))
 | .mul=>K (.int k (k.wrap (a*b)))
 | .quo=>ν (decide (b≠0)) (K (.int k (k.wrap (a.tdiv b))))
 | .rem=>ν (decide (b≠0)) (K (.int k (a.tmod b)))
 | .and=>K (.int k (k.wrap (BitVec.ofInt k.bits a&&&BitVec.ofInt k.bits b).toNat))
 | .or=>K (.int k (k.wrap (BitVec.ofInt k.bits a|||BitVec.ofInt k.bits b).toNat))
 | .xor=>K (.int k (k.wrap (BitVec.ofInt k.bits a^^^BitVec.ofInt k.bits b).toNat))
 | .eql=>K (.bool (a==b))
 | .neq=>K (.bool (a !=b))
 | .lss=>K (.bool (decide (a<b)))
 | .leq=>K (.bool (decide (a<=b)))
 | .gtr=>K (.bool (decide (a>b)))
 | .geq=>K (.bool (decide (a>=b)))
 |_=>False
theorem ama{P:Program}{H:Array Obj}{op:BinOp}{k:IntKind}{a b:Int}{K:Value->Prop}{t:TypeId}(h:Pe op k a b K):
  ∃v,gP P (binOp op t (.int k a) (.int k b)) H v/\K v:=by
 cases op<;>simp only[Pe]at h<;>first
  |exact h.elim
  |(obtain⟨τ,h⟩:=iy h
    have τ:=b6 τ;exact⟨_,λw _=>by simp[binOp,Op.intDiv,τ],h⟩)
  |exact⟨_,λw _=>by simp[binOp,Op.intArith,Op.intBits,Op.intCmp],h⟩
def Pf(op:BinOp)(k:IntKind)(a b:Int)(K:Value->Prop):Prop:=
 match op with
 | .shl=>ν (decide (0<=b)) (K (.int k (k.wrap (a*2^(min b.toNat k.bits)))))
 | .shr=>ν (decide (0<=b)) (K (.int k (a.fdiv (2^(min b.toNat k.bits)))))
 |_=>False
theorem ame{P:Program}{H:Array Obj}{op:BinOp}{k k':IntKind}{a b:Int}{K:Value->Prop}{t:TypeId}(h:Pf op k a b K):
  ∃v,gP P (binOp op t (.int k a) (.int k' b)) H v/\K v:=by
 cases op<;>simp only[Pf]at h<;>first
  |exact h.elim
  |(obtain⟨τ,h⟩:=iy h
    have τ:¬b<0:=by have:=b6 τ;omega
    exact⟨_,λw _=>by simp[binOp,Op.shift,τ],h⟩)
def ad3:BinOp->Bool
 | .shl=>true| .shr=>true
 |_=>false
theorem auS{P:Program}{t:TypeId}{x y:Value}{w:World}{b:Bool}(h:(Op.equalIn (9999+1) t x y).run P w=.ok b w):(Op.equal t x y).run P w=.ok b w:=h
theorem UE{P:Program}{H:Array Obj}{t:TypeId}{op:BinOp}{x y:Value}{b:Bool}{v:Value}(J:binOp op t x y=match op with| .eql=>(do pure (.bool (<-Op.equal t x y)))|_=>(do pure (.bool (!(<-Op.equal t x y)))))
  (h:∀w:World,(Op.equalIn (9999+1) t x y).run P w=.ok b w)(az:v=match op with| .eql=>.bool b|_=>.bool (!b)):gP P (binOp op t x y) H v:=λw _=>by
 rw[J,az];cases op<;>simp[auS (h w)]
def Bf(op:BinOp)(r:Bool)(K:Value->Prop):Prop:=
 match op with
 | .eql=>K (.bool r)
 | .neq=>K (.bool (!r))
 |_=>False
def Yv(op:BinOp)(a b:ByteArray)(K:Value->Prop):Prop:=
 match op with
 | .eql=>K (.bool (a.toList==b.toList))
 | .neq=>K (.bool (!(a.toList==b.toList)))
 | .lss=>K (.bool (Op.bytesLess a.toList b.toList))
 | .add=>ν (decide (((a.size+b.size:Nat):Int)<=IntKind.i64.max)) (K (.string (a++b)))
 |_=>False
def KY(d:TypeDesc)(op:BinOp)(x y:Value)(K:Value->Prop):Prop:=
 match x,y with
 | .int k a,.int k' b=>cond (ad3 op) (Pf op k a b K) (ν (decide (k'=k)) (Pe op k a b K))
 | .float .f64 a,.float .f64 b=>ν (ad2 op) (K (.bool (eQ op a b)))
 | .complex .f64 a b,.complex .f64 c e=>
  match op with
  | .add=>ξ (vq a c) λr=>ξ (vq b e) λi=>K (.complex .f64 r i)
  |op=>Bf op (eQ .eql a c&&eQ .eql b e) K
 | .string a,.string b=>Yv op a b K
 | .bool a,.bool b=>match d with| .bool=>Bf op (a==b) K|_=>False
 | .slice a _ _,.slice none _ _=>match d with| .slice _=>Bf op a.isNone K|_=>False
 | .pointer a,.pointer none=>match d with| .pointer _=>Bf op a.isNone K|_=>False
 |_,_=>False
theorem amc{P:Program}{H:Array Obj}{i:c0}{t:TypeId}(I:c5 P t i){op:BinOp}{x y:Value}{K:Value->Prop}(h:KY i.desc op x y K):
  ∃v,gP P (binOp op t x y) H v/\K v:=by
 unfold KY at h;split at h
 ·rename_i k a k' b;by_cases ab:ad3 op=true
  ·rw[ab]at h;exact ame h
  ·rw[Bool.eq_false_iff.2 ab]at h;obtain⟨e,h⟩:=iy h;have e:=b6 e;subst e;exact ama h
 ·rename_i a b;obtain⟨e,h⟩:=iy h;refine⟨_,λw _=>?_,h⟩;cases op<;>first|(simp[ad2]at e;done)|simp[binOp,Op.floatCmp,eQ]
 ·rename_i a b c e;split at h
  ·obtain⟨r,φ,h⟩:=dC h;obtain⟨s,ab,h⟩:=dC h;refine⟨_,λw _=>?_,h⟩;unfold vq at φ ab;simp[binOp,Op.complexOp,Op.Complex.arith,Op.floatArith,φ,ab]
  ·cases op<;>simp only[Bf]at h<;>first
    |exact h.elim
    |exact⟨_,λw _=>by simp[binOp,Op.complexOp,Op.Complex.cmp,Op.floatCmp,eQ,asBool],h⟩
 ·rename_i a b;cases op<;>simp only[Yv]at h<;>first
   |exact h.elim
   |exact⟨_,λw _=>by simp[binOp,Op.stringOp],h⟩
   |(obtain⟨e,h⟩:=iy h
     have e:=b6 e;exact⟨_,λw _=>by simp[binOp,Op.stringOp];exact e,h⟩)
 ·rename_i a b;split at h
  ·rename_i ah;have hu:P.underlying t=some .bool:=by rw[I.1,ah]
   have e:∀w:World,(Op.equalIn (9999+1) t (.bool a) (.bool b)).run P w=.ok (a==b) w:=λw=>by unfold Op.equalIn;simp[run_underlying hu]
   cases op<;>simp only[Bf]at h<;>first
    |exact h.elim
    |exact⟨_,UE rfl e rfl,h⟩
  ·exact h.elim
 ·rename_i a n c fG aW;split at h
  ·rename_i e ah;have hu:P.underlying t=some (.slice e):=by rw[I.1,ah]
   have e:∀w:World,(Op.equalIn (9999+1) t (.slice a n c) (.slice none fG aW)).run P w=.ok a.isNone w:=λw=>by unfold Op.equalIn;cases a<;>simp[run_underlying hu]
   cases op<;>simp only[Bf]at h<;>first
    |exact h.elim
    |exact⟨_,UE rfl e rfl,h⟩
  ·exact h.elim
 ·rename_i a;split at h
  ·rename_i e ah;have hu:P.underlying t=some (.pointer e):=by rw[I.1,ah]
   have e:∀w:World,(Op.equalIn (9999+1) t (.pointer a) (.pointer none)).run P w=.ok a.isNone w:=λw=>by unfold Op.equalIn;cases a<;>simp[run_underlying hu]
   cases op<;>simp only[Bf]at h<;>first
    |exact h.elim
    |exact⟨_,UE (by first|rfl|(cases a<;>rfl)) e rfl,h⟩
  ·exact h.elim
 ·exact h.elim
def aB(w:World)(a:Addr)(vs:aY):Prop:=∀j v,vs[j]?=some v->w.cell? (a.add j)=some v
def bd(w:World)(a:γ)(vs:aY):Prop:=match a with|none=>vs=[]|some a=>aB w a vs
def strOf(sk:aq):ByteArray:=sk.foldl (λr n=>r.push (UInt8.ofNat n.toNat)) ByteArray.empty
theorem abh{w w':World}(h:w'.heap=w.heap)(a:Addr):w'.cell? a=w.cell? a:=by simp only[World.cell?,h]
section
variable{P:Program}{H:Array Obj}
theorem aoq{w:World}{a:Addr}{v:Value}(h:w.cell? a=some v):gP P (load a) w.heap v:=λw' gw=>by rw[run_load,abh gw,h]
theorem U4{w:World}{a:Addr}{vs:aY}(h:aB w a vs):gP P (loadCells a vs.length) w.heap vs.toArray:=λw' gw=>
 run_loadCells_list w' a vs λj v az=>by rw[abh gw];exact h j v az
def Q9(c:di)(t:TypeId)(cs:aj)(off:Nat)(K:Value->Prop):Prop:=
 ξ (e6 c.tb t) λi=>cond (Bi i.desc) (K (.agg (cs.extract off (off+i.size)))) (ξ cs[off]? λv=>zF i.desc v K)
theorem afu{c:di}(π:hT c){t:TypeId}{cs:aj}{off:Nat}{K:Value->Prop}(h:Q9 c t cs off K):
  ∃v,gP c.P (part t cs off) H v/\K v:=by
 obtain⟨i,I,h⟩:=dC h;have I:=π.fR I;cases ah:Bi i.desc with
 |true=>
  rw[ah]at h;refine⟨_,λw hw=>?_,h⟩;unfold part;rw[Sem.run_bind,I.PQ w hw,Result.andThen_ok,ah,aN rfl,Sem.run_bind,I.sY w hw];rfl
 |false=>
  rw[ah]at h;obtain⟨v,az,h⟩:=dC h;refine⟨v,λw hw=>?_,Fl h⟩;unfold part;rw[Sem.run_bind,I.PQ w hw,Result.andThen_ok,ah];simp[az]
def UM(c:di)(t:TypeId)(x:Value)(f:Nat)(K:Value->Prop):Prop:=
 cv x λcs=>ξ (e6 c.tb t) λi=>match i.desc with
  | .struct jV=>ξ jV[f]? λdz=>Q9 c dz.type cs dz.offset K
  |_=>False
theorem an5{c:di}(π:hT c){t:TypeId}{x:Value}{f:Nat}{K:Value->Prop}(h:UM c t x f K):
  ∃v,gP c.P (Instr.field t x f) H v/\K v:=by
 obtain⟨cs,rfl,h⟩:=zD h;obtain⟨i,I,h⟩:=dC h;have I:=π.fR I;split at h
 ·rename_i jV ah;obtain⟨dz,bm,h⟩:=dC h;obtain⟨v,az,h⟩:=afu π (H:=H) h;refine⟨v,λw hw=>?_,h⟩;unfold Instr.field;rw[Sem.run_bind,I.kC w hw,Result.andThen_ok,ah];simp[bm,asAgg,az w hw]
 ·exact h.elim
def QE(c:di)(t:TypeId)(x l6:Value)(K:Value->Prop):Prop:=
 match l6 with
 | .int _ n=>ν (decide (0<=n)) (ξ (e6 c.tb t) λi=>match i.desc with
  | .array len e=>cv x λcs=>ν (decide (n<(len:Int))) (ξ (e6 c.tb e) λei=>Q9 c e cs (n.toNat*ei.size) K)
  | .string=>iI x λs=>ξ s[n.toNat]? λb=>K (.int .u8 (b.toNat:Int))
  |_=>False)
 |_=>False
theorem arB{c:di}(π:hT c){t:TypeId}{x l6:Value}{K:Value->Prop}(h:QE c t x l6 K):
  ∃v,gP c.P (Instr.index t x l6) H v/\K v:=by
 unfold QE at h;split at h
 ·rename_i k n;obtain⟨aF,h⟩:=iy h;have aF:=b6 aF;obtain⟨i,I,h⟩:=dC h;have I:=π.fR I;split at h
  ·rename_i len e ah;obtain⟨cs,rfl,h⟩:=zD h;obtain⟨h1,h⟩:=iy h;have h1:=b6 h1;obtain⟨ei,gJ,h⟩:=dC h;have gJ:=π.fR gJ;obtain⟨v,az,h⟩:=afu π (H:=H) h;refine⟨v,λw hw=>?_,h⟩;unfold Instr.index;simp only[asIntOf,pure_bind];rw[Sem.run_bind,I.kC w hw,Result.andThen_ok,ah];simp only[aF,h1,and_self,qg];rw[Sem.run_bind,gJ.sY w hw,Result.andThen_ok,az w hw]
  ·rename_i ah;obtain⟨s,rfl,h⟩:=x6 h;obtain⟨b,τ,h⟩:=dC h;refine⟨_,λw hw=>?_,h⟩;unfold Instr.index;simp only[asIntOf,pure_bind];rw[Sem.run_bind,I.kC w hw,Result.andThen_ok,ah];simp[aF,τ]
  ·exact h.elim
 ·exact h.elim
def UL(c:di)(t:TypeId)(x:Value)(f:Nat)(K:Value->Prop):Prop:=
 gI x λp=>ξ p λa=>ξ (e6 c.tb t) λi=>match i.desc with
  | .struct jV=>ξ jV[f]? λdz=>ξ (e6 c.tb dz.type) λj=>ν (decide (j.size≠0)) (K (.pointer (some (a.add dz.offset))))
  |_=>False
theorem an2{c:di}(π:hT c){t:TypeId}{x:Value}{f:Nat}{K:Value->Prop}(h:UL c t x f K):
  ∃v,gP c.P (Instr.fieldAt t x f) H v/\K v:=by
 obtain⟨p,rfl,h⟩:=vw h;obtain⟨a,rfl,h⟩:=dC h;obtain⟨i,I,h⟩:=dC h;have I:=π.fR I;split at h
 ·rename_i jV ah;obtain⟨dz,bm,h⟩:=dC h;obtain⟨j,ψ,h⟩:=dC h;have ψ:=π.fR ψ;obtain⟨aF,h⟩:=iy h;have aF:=b6 aF;refine⟨_,λw hw=>?_,h⟩;unfold Instr.fieldAt;rw[Sem.run_bind,I.kC w hw,Result.andThen_ok,ah];simp only[bm,Instr.sureAddr,pure_bind,fieldPlace];rw[Sem.run_bind,Sem.run_bind,ψ.sY w hw];simp[aF]
 ·exact h.elim
def QC(c:di)(t:TypeId)(x l6:Value)(K:Value->Prop):Prop:=
 match l6 with
 | .int _ n=>ν (decide (0<=n)) (ξ (e6 c.tb t) λi=>match i.desc with
  | .array len e=>gI x λp=>ξ p λa=>ν (decide (n<(len:Int))) (ξ (e6 c.tb e) λei=>K (.pointer (some (a.add (n.toNat*ei.size)))))
  | .slice e=>cX x λp len _=>ν (decide (n<(len:Int))) (ξ p λa=>ξ (e6 c.tb e) λei=>K (.pointer (some (a.add (n.toNat*ei.size)))))
  |_=>False)
 |_=>False
theorem arz{c:di}(π:hT c){t:TypeId}{x l6:Value}{K:Value->Prop}(h:QC c t x l6 K):
  ∃v,gP c.P (Instr.indexAt t x l6) H v/\K v:=by
 unfold QC at h;split at h
 ·rename_i k n;obtain⟨aF,h⟩:=iy h;have aF:=b6 aF;obtain⟨i,I,h⟩:=dC h;have I:=π.fR I;split at h
  ·rename_i len e ah;obtain⟨p,rfl,h⟩:=vw h;obtain⟨a,rfl,h⟩:=dC h;obtain⟨h1,h⟩:=iy h;have h1:=b6 h1;obtain⟨ei,gJ,h⟩:=dC h;have gJ:=π.fR gJ;refine⟨_,λw hw=>?_,h⟩;unfold Instr.indexAt;simp only[asIntOf,pure_bind];have ab:=gJ.sY w hw;simp[I.kC w hw,ah,Instr.sureAddr,aF,h1,ab]
  ·rename_i e ah;obtain⟨p,len,dE,rfl,h⟩:=oz h;obtain⟨h1,h⟩:=iy h;have h1:=b6 h1;obtain⟨a,rfl,ι⟩:=dC h;obtain⟨ei,gJ,aJ⟩:=dC ι;have gJ:=π.fR gJ;refine⟨_,λw hw=>?_,aJ⟩;unfold Instr.indexAt;simp only[asIntOf,pure_bind];have ab:=gJ.sY w hw;simp[I.kC w hw,ah,Instr.sureAddr,aF,h1,ab]
  ·exact h.elim
 ·exact h.elim
def WW(c:di)(t:TypeId)(x:Value)(w:World)(K:Value->Prop):Prop:=
 gI x λp=>ξ p λa=>ξ (e6 c.tb t) λi=>match i.desc with
  | .int k=>∃n:Int,w.cell? a=some (.int k n)/\K (.int k n)
  | .bool=>∃b:Bool,w.cell? a=some (.bool b)/\K (.bool b)
  | .string=>∃s:ByteArray,w.cell? a=some (.string s)/\K (.string s)
  | .float _=>∃b:Nat,w.cell? a=some (.float .f64 b)/\K (.float .f64 b)
  | .complex _=>∃r m:Nat,w.cell? a=some (.complex .f64 r m)/\K (.complex .f64 r m)
  | .slice _=>∃(p:γ)(n m:Nat),w.cell? a=some (.slice p n m)/\K (.slice p n m)
  | .pointer _=>∃p:γ,w.cell? a=some (.pointer p)/\K (.pointer p)
  | .map _ _=>∃r:Option Nat,w.cell? a=some (.map r)/\K (.map r)
  | .struct _=>∃cs:aj,cs.size=i.size/\aB w a cs.toList/\K (.agg cs)
  | .array _ _=>∃cs:aj,cs.size=i.size/\aB w a cs.toList/\K (.agg cs)
  | .interface _=>∃v:Value,w.cell? a=some v/\K v
  | .func _ _ _=>∃v:Value,w.cell? a=some v/\K v
  |_=>False
theorem PR{c:di}(π:hT c){t:TypeId}{i:c0}(I:c5 c.P t i)(ah:Bi i.desc=false){w:World}{a:Addr}{v:Value}(h:w.cell? a=some v):
  gP c.P (Instr.loadAt t (.pointer (some a))) w.heap v:=λw' gw=>by
 have ι:=I.PQ (H:=w.heap) w' gw;rw[ah]at ι;have aJ:=aoq (P:=c.P) h w' gw;unfold Instr.loadAt;simp only[Instr.sureAddr,pure_bind];unfold loadVar;rw[Sem.run_bind,ι,Result.andThen_ok];exact aJ
theorem acp{c:di}(π:hT c){t:TypeId}{i:c0}(I:c5 c.P t i)(ah:Bi i.desc=true){w:World}{a:Addr}{cs:aj}(ab:cs.size=i.size)(h:aB w a cs.toList):
  gP c.P (Instr.loadAt t (.pointer (some a))) w.heap (.agg cs):=λw' gw=>by
 have ι:=I.PQ (H:=w.heap) w' gw;rw[ah]at ι;have aJ:=U4 (P:=c.P) h w' gw;have cK:=I.sY (H:=w.heap) w' gw;rw[lL,ab]at aJ;unfold Instr.loadAt;simp only[Instr.sureAddr,pure_bind];unfold loadVar;rw[Sem.run_bind,ι,Result.andThen_ok,aN rfl,Sem.run_bind,cK,Result.andThen_ok,Sem.run_bind,aJ];simp
theorem aeb{c:di}(π:hT c){t:TypeId}{x:Value}{w:World}{K:Value->Prop}(h:WW c t x w K):
  ∃v,gP c.P (Instr.loadAt t x) w.heap v/\K v:=by
 obtain⟨p,rfl,h⟩:=vw h;obtain⟨a,rfl,h⟩:=dC h;obtain⟨i,I,h⟩:=dC h;have I:=π.fR I;split at h<;>rename_i ah<;>first
  |(obtain⟨n,e,h⟩:=h;exact⟨_,PR π I (by rw[ah];rfl) e,h⟩)
  |(obtain⟨n,m,e,h⟩:=h;exact⟨_,PR π I (by rw[ah];rfl) e,h⟩)
  |(obtain⟨n,m,l,e,h⟩:=h;exact⟨_,PR π I (by rw[ah];rfl) e,h⟩)
  |(obtain⟨cs,ab,e,h⟩:=h;exact⟨_,acp π I (by rw[ah];rfl) ab e,h⟩)
  |exact h.elim
def F1(I:Option Value)(len cap:Nat)(K:bl):Prop:=
 match I with
 |none=>K len
 |some (.int _ n)=>ν (decide (0<=n)) (ν (decide (n<=(cap:Int))) (K n.toNat))
 |_=>False
def ux(fk:Option Value)(h:Nat)(K:bl):Prop:=
 match fk with
 |none=>K 0
 |some (.int _ n)=>ν (decide (0<=n)) (ν (decide (n<=(h:Int))) (K n.toNat))
 |_=>False
theorem TL{isS:Bool}{fk I:Option Value}{len cap:Nat}{K:Nat->bl}(h:F1 I len cap λh=>ux fk h λl=>K l h):
  ∃l m,gP P (Instr.sliceBounds isS len cap fk I none) H (l,m,cap)/\K l m:=by
 have τ:∀(k:IntKind)(n:Int)(y:Nat)(code:BoundsCode),0<=n->n<=(y:Int)->gP P (Instr.sliceBound (.int k n) y code) H n.toNat:=by intro k n y code aF h1 w _;simp[Instr.sliceBound,asIntOf,aF,h1]
 have key:∀{m:Nat},ux fk m (λl=>K l m)->∃l,gP P (match fk with|some v=>Instr.sliceBound v m .sliceB|none=>pure 0) H l/\K l m:=by
  intro m h;unfold ux at h;split at h
  ·exact⟨0,gP.pure _,h⟩
  ·obtain⟨aF,h⟩:=iy h;obtain⟨h1,h⟩:=iy h;exact⟨_,τ _ _ _ _ (b6 aF) (b6 h1),h⟩
  ·exact h.elim
 have arK:∃m,gP P (match I with|some v=>Instr.sliceBound v cap (if isS then .sliceAcap else .sliceAlen)|none=>pure len) H m/\ux fk m (λl=>K l m):=by
  unfold F1 at h;split at h
  ·exact⟨len,gP.pure _,h⟩
  ·obtain⟨aF,h⟩:=iy h;obtain⟨h1,h⟩:=iy h;exact⟨_,τ _ _ _ _ (b6 aF) (b6 h1),h⟩
  ·exact h.elim
 obtain⟨m,hm,h⟩:=arK;obtain⟨l,ak,h⟩:=key h;refine⟨l,m,λw hw=>?_,h⟩;have h1:=hm w hw;have ι:=ak w hw;unfold Instr.sliceBounds;cases I<;>cases fk<;>simp_all[Sem.run_bind]
def dL(a:γ)(m l s:Nat):γ:=if m=l then a else a.map (·.add (l*s))
def Yq(c:di)(t:TypeId)(x:Value)(fk I:Option Value)(K:Value->Prop):Prop:=
 ξ (e6 c.tb t) λi=>match i.desc with
  | .string=>iI x λs=>F1 I s.size s.size λh=>ux fk h λl=>K (.string (s.extract l h))
  | .slice e=>cX x λa len cap=>ξ (e6 c.tb e) λei=>F1 I len cap λh=>ux fk h λl=>K (.slice (dL a cap l ei.size) (h-l) (cap-l))
  | .array n e=>gI x λp=>ξ p λa=>ξ (e6 c.tb e) λei=>F1 I n n λh=>ux fk h λl=>K (.slice (dL (some a) n l ei.size) (h-l) (n-l))
  |_=>False
theorem avl{c:di}(π:hT c){t:TypeId}{x:Value}{fk I:Option Value}{K:Value->Prop}(h:Yq c t x fk I K):
  ∃v,gP c.P (Instr.sliceAt t x fk I none) H v/\K v:=by
 obtain⟨i,I,h⟩:=dC h;have I:=π.fR I;split at h
 ·rename_i ah;obtain⟨s,rfl,ι⟩:=x6 h;obtain⟨l,m,τ,aJ⟩:=TL (P:=c.P) (H:=H) (isS:=false) ι;refine⟨_,λw hw=>?_,aJ⟩;have h1:=I.kC w hw;rw[ah]at h1;have ι:=τ w hw;unfold Instr.sliceAt;rw[Sem.run_bind,h1,Result.andThen_ok];dsimp only;unfold Instr.slice;rw[Sem.run_bind,h1,Result.andThen_ok];simp[ι]
 ·rename_i e ah;obtain⟨a,len,cap,rfl,h⟩:=oz h;obtain⟨ei,gJ,h⟩:=dC h;have gJ:=π.fR gJ;obtain⟨l,m,τ,h⟩:=TL (P:=c.P) (H:=H) (isS:=true) h;refine⟨_,λw hw=>?_,h⟩;have h1:=I.kC w hw;rw[ah]at h1;have ι:=τ w hw;have aJ:=gJ.sY w hw;unfold Instr.sliceAt;rw[Sem.run_bind,h1,Result.andThen_ok];dsimp only;unfold Instr.slice;rw[Sem.run_bind,h1,Result.andThen_ok];simp[ι,aJ,dL]
 ·rename_i n e ah;obtain⟨p,rfl,h⟩:=vw h;obtain⟨a,rfl,h⟩:=dC h;obtain⟨ei,gJ,h⟩:=dC h;have gJ:=π.fR gJ;obtain⟨l,m,τ,h⟩:=TL (P:=c.P) (H:=H) (isS:=false) h;refine⟨_,λw hw=>?_,h⟩;have h1:=I.kC w hw;rw[ah]at h1;have ι:=τ w hw;have aJ:=gJ.sY w hw;unfold Instr.sliceAt;rw[Sem.run_bind,h1,Result.andThen_ok];simp only[Instr.sureAddr,pure_bind,Sem.run_bind,ι,aJ,Result.andThen_ok,dL];by_cases aqi:n=l<;>simp[aqi]
 ·exact h.elim
def Yp(c:di)(t:TypeId)(x:Value)(fk:Option Value)(I uy:Value)(K:Value->Prop):Prop:=
 ξ (e6 c.tb t) λi=>match i.desc with
  | .slice e=>cX x λa len cap=>ξ (e6 c.tb e) λei=>ux (some uy) cap λm=>ux (some I) m λh=>ux fk h λl=>K (.slice (dL a m l ei.size) (h-l) (m-l))
  |_=>False
theorem WZ{v:Value}{n:Nat}{K:bl}(h:ux (some v) n K):∃m,(∀code,gP P (Instr.sliceBound v n code) H m)/\K m:=by
 unfold ux at h;split at h
 ·rename_i e;cases e
 ·rename_i k j e;cases e;obtain⟨aF,h⟩:=iy h;obtain⟨h1,h⟩:=iy h;have aF:=b6 aF;have h1:=b6 h1;exact⟨_,λcode w _=>by simp[Instr.sliceBound,asIntOf,aF,h1],h⟩
 ·exact h.elim
theorem avj{c:di}(π:hT c){t:TypeId}{x:Value}{fk:Option Value}{I uy:Value}{K:Value->Prop}(h:Yp c t x fk I uy K):
  ∃v,gP c.P (Instr.sliceAt t x fk (some I) (some uy)) H v/\K v:=by
 obtain⟨i,lZ,h⟩:=dC h;have lZ:=π.fR lZ;split at h
 ·rename_i e ah;obtain⟨a,len,cap,rfl,h⟩:=oz h;obtain⟨ei,gJ,h⟩:=dC h;have gJ:=π.fR gJ;obtain⟨m,hm,h⟩:=WZ (P:=c.P) (H:=H) h;obtain⟨ea,apX,h⟩:=WZ (P:=c.P) (H:=H) h;have qD:∃l,(∀w:World,w.heap=H->(match fk with|some v=>Instr.sliceBound v ea .slice3C|none=>pure 0).run c.P w=.ok l w)/\K (.slice (dL a m l ei.size) (ea-l) (m-l)):=by
   cases fk with
   |none=>exact⟨0,λw _=>by simp,h⟩
   |some v=>
    obtain⟨l,ak,h⟩:=WZ (P:=c.P) (H:=H) h;exact⟨l,λw hw=>ak _ w hw,h⟩
  obtain⟨l,ak,h⟩:=qD;refine⟨_,λw hw=>?_,h⟩;have h1:=lZ.kC w hw;rw[ah]at h1;have ι:=hm .slice3Acap w hw;have aJ:=gJ.sY w hw;have cK:=apX .slice3B w hw;have dx:=ak w hw;unfold Instr.sliceAt;rw[Sem.run_bind,h1,Result.andThen_ok];dsimp only;unfold Instr.slice;rw[Sem.run_bind,h1,Result.andThen_ok];unfold Instr.sliceBounds;cases fk<;>simp_all[dL,Sem.run_bind]
 ·exact h.elim
def abQ(k:IntKind)(b:Nat)(K:Value->Prop):Prop:=
 ξ ((FloatKind.f64.decode b).toInt .zero) λn=>ν (decide (k.min<=n)) (ν (decide (n<=k.max)) (K (.int k n)))
def avH(w:World)(a:γ)(n:Nat)(K:Value->Prop):Prop:=
 ∃sk:aq,sk.length=n/\bd w a (sk.map (Value.int .u8))/\K (.string (strOf sk))
def K4(c:di)(s d:TypeId)(x:Value)(w:World)(K:Value->Prop):Prop:=
 ξ (e6 c.tb s) λi=>ξ (e6 c.tb d) λj=>match j.desc with
  | .int k=>(match x with
   | .int _ n=>K (.int k (k.wrap n))
   | .float .f64 b=>abQ k b K
   |_=>False)
  | .float .f64=>(match x with
   | .int _ n=>K (.float .f64 (FloatKind.f64.nearest n))
   |_=>False)
  | .string=>(match i.desc with
   | .slice e=>ξ (e6 c.tb e) λei=>(match ei.desc with
    | .int .u8=>cX x λa n _=>avH w a n K
    |_=>False)
   | .string=>iI x λs=>K (.string s)
   |_=>False)
  |_=>False
theorem amK{c:di}(π:hT c){s d:TypeId}{x:Value}{w:World}{K:Value->Prop}(h:K4 c s d x w K):
  ∃v,gP c.P (convert s d x) w.heap v/\K v:=by
 obtain⟨i,I,h⟩:=dC h;have I:=π.fR I;obtain⟨j,ψ,h⟩:=dC h;have ψ:=π.fR ψ;split at h
 ·rename_i k ah;split at h
  ·rename_i k' n;refine⟨_,λw' hw=>?_,h⟩;unfold convert;rw[Sem.run_bind,I.kC w' hw,Result.andThen_ok,Sem.run_bind,ψ.kC w' hw,Result.andThen_ok,ah];cases i.desc<;>rfl
  ·rename_i mP cc eh;obtain⟨n,ar,h⟩:=dC h;obtain⟨aF,h⟩:=iy h;obtain⟨h1,h⟩:=iy h;refine⟨_,λw' hw=>?_,h⟩;unfold convert;rw[Sem.run_bind,I.kC w' hw,Result.andThen_ok,Sem.run_bind,ψ.kC w' hw,Result.andThen_ok,ah];have aF:=b6 aF;have h1:=b6 h1;have e:(Conv.floatToInt .f64 mP k).run c.P w'=.ok (.int k n) w':=by
    simp[Conv.floatToInt,ar,aF,h1]
   cases i.desc<;>exact e
  ·exact h.elim
 ·rename_i ah;split at h
  ·rename_i k' n;refine⟨_,λw' hw=>?_,h⟩;unfold convert;rw[Sem.run_bind,I.kC w' hw,Result.andThen_ok,Sem.run_bind,ψ.kC w' hw,Result.andThen_ok,ah];cases i.desc<;>rfl
  ·exact h.elim
 ·rename_i ah;split at h
  ·rename_i e ab;obtain⟨ei,gJ,h⟩:=dC h;have gJ:=π.fR gJ;split at h
   ·rename_i he;obtain⟨a,n,dE,rfl,sk,ak,jY,h⟩:=oz h;refine⟨_,λw' hw=>?_,h⟩;have Mn:c.P.underlying s=some (.slice e):=by rw[I.1,ab]
    have BG:c.P.underlying e=some (.int .u8):=by rw[gJ.1,he]
    have aq9:c.P.underlying d=some .string:=by rw[ψ.1,ah]
    rw[run_convert_bytes_string w' s d e a n dE Mn BG aq9];cases a with
    |none=>
     have:sk=[]:=by simpa[bd]using jY
     subst this;rfl
    |some a=>
     refine run_bytesToString w' a n dE sk ?_
     have:=U4 (P:=c.P) (w:=w) (a:=a) (vs:=sk.map (Value.int .u8)) jY w' hw
     rwa[jM,ak]at this
   ·exact h.elim
  ·rename_i ab;obtain⟨aAs,rfl,h⟩:=x6 h;refine⟨_,λw' hw=>?_,h⟩;unfold convert;rw[Sem.run_bind,I.kC w' hw,Result.andThen_ok,Sem.run_bind,ψ.kC w' hw,Result.andThen_ok,ah,ab];rfl
  ·exact h.elim
 ·exact h.elim
end
def WX(c:di)(t:TypeId)(x:Value)(K:Value->Prop):Prop:=
 ξ (e6 c.tb t) λi=>match i.desc with
  | .string=>iI x λs=>K (.int .i64 (s.size:Int))
  | .array n _=>K (.int .i64 (n:Int))
  | .slice _=>cX x λ_ n _=>K (.int .i64 (n:Int))
  |_=>False
def max2(a b:Int):Int:=if b>a then b else a
def min2(a b:Int):Int:=if b<a then b else a
def KZ(c:di)(b:Builtin)(gR:Array TypeId)(xs:aY)(K:Value->Prop):Prop:=
 match b with
 | .len=>(match xs with|[x]=>ξ gR[0]? λt=>WX c t x K|_=>False)
 | .real=>(match xs with|[x]=>mA x λa _=>K (.float .f64 a)|_=>False)
 | .imag=>(match xs with|[x]=>mA x λ_ a=>K (.float .f64 a)|_=>False)
 | .complex=>(match xs with|[x,y]=>x5 x λa=>x5 y λb=>K (.complex .f64 a b)|_=>False)
 | .max=>(match xs with|[.int k a,.int _ b]=>K (.int k (max2 a b))|_=>False)
 | .min=>(match xs with|[.int k a,.int _ b]=>K (.int k (min2 a b))|_=>False)
 | .cap=>(match xs with|[x]=>ξ gR[0]? λt=>ξ (e6 c.tb t) λi=>(match i.desc with| .slice _=>cX x λ_ _ n=>K (.int .i64 (n:Int))|_=>False)|_=>False)
 |_=>False
theorem arV{c:di}(π:hT c){H:Array Obj}{gR:Array TypeId}{t:TypeId}(aS:gR[0]?=some t){ty:TypeId}{x:Value}{K:Value->Prop}(h:WX c t x K):
  ∃v,gP c.P (Builtin.len_ gR ty #[x]) H v/\K v:=by
 obtain⟨i,I,h⟩:=dC h;have I:=π.fR I;split at h
 ·rename_i ah;obtain⟨s,rfl,ι⟩:=x6 h;refine⟨_,λw hw=>?_,ι⟩;have h1:=I.kC w hw;rw[ah]at h1;simp[Builtin.len_,aS,h1,goInt]
 ·rename_i n e ah;refine⟨_,λw hw=>?_,h⟩;have h1:=I.kC w hw;rw[ah]at h1;simp[Builtin.len_,aS,h1,goInt]
 ·rename_i e ah;obtain⟨a,n,dE,rfl,ι⟩:=oz h;refine⟨_,λw hw=>?_,ι⟩;have h1:=I.kC w hw;rw[ah]at h1;simp[Builtin.len_,aS,h1,goInt]
 ·exact h.elim
theorem amh{c:di}(π:hT c){H:Array Obj}{b:Builtin}{gR:Array TypeId}{ty:TypeId}{cs:Array Bool}{xs:aY}{K:Value->Prop}(h:KZ c b gR xs K):
  ∃v,gP c.P (builtin b gR ty cs xs.toArray) H (Next.value v)/\K v:=by
 have lift:∀{m:Sem Value}{v:Value},gP c.P m H v->gP c.P (do pure (Next.value (<-m))) H (Next.value v):=by intro m v hm w hw;rw[Sem.run_bind,hm w hw];rfl
 unfold KZ at h;split at h
 ·split at h
  ·obtain⟨t,aS,h⟩:=dC h;obtain⟨v,az,h⟩:=arV π (H:=H) aS (ty:=ty) h;exact⟨v,lift az,h⟩
  ·exact h.elim
 ·split at h
  ·obtain⟨a,b,rfl,ι⟩:=Bh h;exact⟨_,lift (gP.pure _),ι⟩
  ·exact h.elim
 ·split at h
  ·obtain⟨a,b,rfl,ι⟩:=Bh h;exact⟨_,lift (gP.pure _),ι⟩
  ·exact h.elim
 ·split at h
  ·obtain⟨a,rfl,ι⟩:=Fk h;obtain⟨b,rfl,aJ⟩:=Fk ι;exact⟨_,lift (m:=Builtin.complex_ gR ty #[.float .f64 a,.float .f64 b]) (λw _=>rfl),aJ⟩
  ·exact h.elim
 ·split at h
  ·rename_i k a k' b;refine⟨_,lift (m:=Builtin.max_ gR ty #[.int k a,.int k' b]) (λw _=>?_),h⟩;simp[Builtin.max_,Builtin.max2,max2]
  ·exact h.elim
 ·split at h
  ·rename_i k a k' b;refine⟨_,lift (m:=Builtin.min_ gR ty #[.int k a,.int k' b]) (λw _=>?_),h⟩;simp[Builtin.min_,Builtin.min2,min2]
  ·exact h.elim
 ·split at h
  ·obtain⟨t,aS,h⟩:=dC h;obtain⟨i,I,h⟩:=dC h;have I:=π.fR I;split at h
   ·rename_i x e ah;obtain⟨a,n,dE,rfl,ι⟩:=oz h;refine⟨_,lift (m:=Builtin.cap_ gR ty #[.slice a n dE]) (λw hw=>?_),ι⟩;have h1:=I.kC w hw;rw[ah]at h1;simp[Builtin.cap_,aS,h1,goInt]
   ·exact h.elim
  ·exact h.elim
 ·exact h.elim
def SD(op:UnOp)(x:Value)(K:Value->Prop):Prop:=
 match op,x with
 | .not,.bool b=>K (.bool (!b))
 | .neg,.int k n=>K (.int k (k.wrap (0-n)))
 | .xor,.int k n=>K (.int k (k.wrap (BitVec.ofInt k.bits (if k.signed then-1 else k.max)^^^BitVec.ofInt k.bits n).toNat))
 |_,_=>False
theorem ax9{P:Program}{H:Array Obj}{op:UnOp}{x:Value}{K:Value->Prop}(h:SD op x K):∃v,gP P (Op.unary op x) H v/\K v:=by
 unfold SD at h;split at h
 ·exact⟨_,gP.pure _,h⟩
 ·exact⟨_,λw _=>by simp[Op.unary,Op.intArith],h⟩
 ·exact⟨_,λw _=>by simp[Op.unary,Op.intBits],h⟩
 ·exact h.elim
def Xd(x:Value)(K:Value->Prop):Prop:=
 match x with
 | .pointer p=>ξ p λa=>K (.pointer (some a))
 | .func (.func f) kd gX=>K (.func (.func f) kd gX)
 |_=>False
def XO(x y:Value):Bool:=
 match x,y with
 | .nilIface,_=>false
 | .agg _,_=>false
 |_,_=>true
def anJ(P:Program)(op:BinOp)(t:TypeId)(OI OK:Operand)(x y:Value)(b:Bool):Prop:=∀w:World,(do eqGuard op t OI OK x y;binOp op t x y:Sem Value).run P w=.ok (.bool b) w
def abL(P:Program)(op:BinOp)(t:TypeId)(OI OK:Operand)(x y:Value)(K:Value->Prop):Prop:=∃b:Bool,anJ P op t OI OK x y b/\K (.bool b)
def vA(c:di)(o:Oper)(ο:dj)(w:World)(K:Value->Prop):Prop:=
 match o.op with
 | .move x=>e0 ο x K
 | .assign x=>e0 ο x K
 | .pick p a b=>e0 ο p λp=>dF p λt=>cond t (e0 ο a K) (e0 ο b K)
 | .load t a=>e0 ο a λa=>WW c t a w K
 | .nilCheck x=>e0 ο x λx=>Xd x K
 | .binOp op t x y _=>e0 ο x λa=>e0 ο y λb=>cond (XO a b) (ξ (e6 c.tb t) λi=>KY i.desc op a b K) (abL c.P op t x y a b K)
 | .unOp op _ x=>e0 ο x λx=>SD op x K
 | .convert s d x=>e0 ο x λx=>K4 c s d x w K
 | .makeInterface t x=>e0 ο x λx=>ξ (e6 c.tb t) λi=>(match i.desc with| .interface _=>False|_=>K (.iface t x))
 | .makeFunc fn kd gX=>qc ο kd.toList λkd=>qc ο gX.toList λgX=>K (.func fn kd.toArray gX.toArray)
 | .slice t x fk I none=>e0 ο x λx=>B2 ο fk λfk=>B2 ο I λI=>Yq c t x fk I K
 | .slice t x fk (some I) (some uy)=>e0 ο x λx=>B2 ο fk λfk=>e0 ο I λI=>e0 ο uy λuy=>Yp c t x fk I uy K
 | .fieldAddr s x f=>e0 ο x λx=>UL c s x f K
 | .field t x f=>e0 ο x λx=>UM c t x f K
 | .indexAddr t x l6=>e0 ο x λx=>e0 ο l6 λl6=>QC c t x l6 K
 | .index t x l6=>e0 ο x λx=>e0 ο l6 λl6=>QE c t x l6 K
 | .extract t l6=>e0 ο t λt=>b7 t λvs=>ξ vs[l6]? λv=>ξ (e6 c.tb o.type) λi=>zF i.desc v K
 | .build t parts=>MW ο parts.toList λps=>ξ (e6 c.tb t) λi=>(match i.desc with
  | .struct jV=>ξ (jV.toList.mapM λf=>(e6 c.tb f.type).map λj=>(f.offset,j.size)) λpl=>ξ (Instr.fill (λi=>pl.toArray[i]?) i.zero.toArray ps) λcs=>K (.agg cs)
  | .array _ e=>ξ (e6 c.tb e) λj=>ξ (Instr.fill (λi=>some (i*j.size,j.size)) i.zero.toArray ps) λcs=>K (.agg cs)
  |_=>False)
 | .sliceToArrayPointer t x=>e0 ο x λx=>ξ (e6 c.tb t) λi=>(match i.desc with
  | .array n _=>cX x λa len _=>ν (decide (n<=len)) (K (.pointer a))
  |_=>False)
 | .typeAssert x _ t ok=>e0 ο x λx=>ξ (e6 c.tb t) λi=>(match i.desc with
  | .interface _=>False
  |_=>(match x with
   | .iface u v=>ν (decide (u=t)) (zF i.desc v λv=>K (if ok then .tuple #[v,.bool true]else v))
   |_=>False))
 | .call cl=>(match cl.callee with
  | .builtin b=>qc ο cl.args.toList λxs=>KZ c b cl.argTypes xs K
  |_=>False)
 |_=>False
def Yields(c:di)(o:Oper)(a:Act)(H:Array Obj)(v:Value):Prop:=gP c.P (execOp a.eval o) H (Next.value v)
theorem pq{P:Program}{H:Array Obj}{m:Sem Value}{v:Value}(hm:gP P m H v):gP P (do pure (Next.value (<-m))) H (Next.value v):=by intro w hw;rw[Sem.run_bind,hm w hw];rfl
theorem aep{c:di}(π:hT c){H:Array Obj}:∀{jV:List Field}{pl:List (Nat×Nat)},(jV.mapM λf=>(e6 c.tb f.type).map λj=>(f.offset,j.size))=some pl->
  gP c.P (jV.mapM λf=>do pure (f.offset,<-sizeOf f.type)) H pl
 |[],pl,h=>by
  simp only[List.mapM_nil]at h;obtain rfl:([]:List (Nat×Nat))=pl:=by simpa using h
  exact gP.pure _
 |f::jV,pl,h=>by
  simp only[List.mapM_cons]at h;cases ψ:e6 c.tb f.type with
  |none=>simp[ψ]at h
  |some j=>
   have ab:=(π.fR ψ).sY (H:=H);cases φ:(jV.mapM λf=>(e6 c.tb f.type).map λj=>(f.offset,j.size))with
   |none=>simp[ψ,φ]at h
   |some r=>
    have Qo:=aep π (H:=H) φ;simp[ψ,φ]at h;subst h;intro w hw;have h1:=ab w hw;have ι:=Qo w hw;simp only[bind_pure_comp]at ι;simp only[List.mapM_cons,bind_pure_comp];simp[h1,ι]
theorem aop{c:di}(π:hT c){H:Array Obj}{jV:Array Field}{pl:List (Nat×Nat)}(h:(jV.toList.mapM λf=>(e6 c.tb f.type).map λj=>(f.offset,j.size))=some pl):
  gP c.P (jV.mapM λf=>do pure (f.offset,<-sizeOf f.type)) H pl.toArray:=by
 intro w hw;rw[Array.mapM_eq_mapM_toList,Sem.run_map];rw[aep π h w hw];rfl
theorem c5.U5{P:Program}{H:Array Obj}{t:TypeId}{i:c0}(h:c5 P t i):∃z,gP P (zeroValue t) H z/\z.cells=i.zero.toArray:=by
 obtain⟨_,_,aJ⟩:=h;cases aH:P.info? t with
 |none=>simp[aH]at aJ
 |some x=>
  cases aI:x.zero with
  |none=>simp[aH,aI]at aJ
  |some z=>
   simp[aH,aI]at aJ;refine⟨z,λw _=>by simp[zeroValue,typeInfo,aH,aI],?_⟩;rw[<-aJ,No]
theorem Lm{c:di}(π:hT c){n:Nat}{o:Oper}{a:Act}{ο:dj}(φ:Rel n a ο){w:World}{K:Value->Prop}(h:vA c o ο w K):
  ∃v,Yields c o a w.heap v/\K v:=by
 unfold vA at h;unfold Yields execOp;split at h<;>first|exact h.elim|(rename_i aG;rw[aG])
 ·exact⟨_,gP.pure _,hc φ h⟩
 ·exact⟨_,gP.pure _,hc φ h⟩
 ·obtain⟨t,aS,h⟩:=CZ (hc φ h);dsimp only;rw[aS];cases t with
  |true=>exact⟨_,gP.pure _,hc φ h⟩
  |false=>exact⟨_,gP.pure _,hc φ h⟩
 ·obtain⟨v,az,h⟩:=aeb π (hc φ h);exact⟨v,pq az,h⟩
 ·have h:=hc φ h;unfold Xd at h;dsimp only;split at h
  ·rename_i p e;obtain⟨b,rfl,ι⟩:=dC h;rw[e];exact⟨_,gP.pure _,ι⟩
  ·rename_i f kd gX e;rw[e];exact⟨_,gP.pure _,h⟩
  ·exact h.elim
 ·rename_i op t x y aAz;have h:=hc φ (hc φ h);cases he:XO (a.eval x) (a.eval y)with
  |false=>
   rw[he]at h;obtain⟨b,τ,h⟩:=h;exact⟨.bool b,pq λw' _=>τ w',h⟩
  |true=>
  rw[he]at h;obtain⟨i,I,h⟩:=dC h;obtain⟨v,az,h⟩:=amc (H:=w.heap) (π.fR I) h;refine⟨v,pq λw' gw=>?_,h⟩;have bH:(eqGuard op t x y (a.eval x) (a.eval y)).run c.P w'=.ok () w':=by
   unfold eqGuard;cases Qw:a.eval x<;>rw[Qw]at he<;>first
    |(simp[XO]at he;done)
    |(cases op<;>simp<;>rfl)
    |(cases op<;>rfl)
  rw[Sem.run_bind,bH,Result.andThen_ok,az w' gw]
 ·obtain⟨v,az,h⟩:=ax9 (P:=c.P) (H:=w.heap) (hc φ h);exact⟨v,pq az,h⟩
 ·obtain⟨v,az,h⟩:=amK π (hc φ h);exact⟨v,pq az,h⟩
 ·rename_i t x;obtain⟨i,I,h⟩:=dC (hc φ h);have I:=π.fR I;split at h
  ·exact h.elim
  ·rename_i b1;refine⟨_,pq λw' gw=>?_,h⟩;have hu:=I.kC w' gw;unfold Instr.makeInterface;rw[Sem.run_bind,hu,Result.andThen_ok];cases ah:i.desc<;>first|rfl|exact(b1 _ ah).elim
 ·rename_i fn kd gX;have h:=yR φ h;have h:=yR φ h;refine⟨_,pq (gP.pure _),?_⟩;have aP:(kd.toList.map a.eval).toArray=kd.map a.eval:=by rw[<-G1,No]
  have bM:(gX.toList.map a.eval).toArray=gX.map a.eval:=by rw[<-G1,No]
  rw[aP,bM]at h;exact h
 ·rename_i t x fk I;have h:=hc φ h;have h:=Xu φ h;have h:=Xu φ h;obtain⟨v,az,h⟩:=avl π (H:=w.heap) h;exact⟨v,pq az,h⟩
 ·rename_i t x fk I uy;have h:=hc φ h;have h:=Xu φ h;have h:=hc φ h;have h:=hc φ h;obtain⟨v,az,h⟩:=avj π (H:=w.heap) h;exact⟨v,pq az,h⟩
 ·obtain⟨v,az,h⟩:=an2 π (H:=w.heap) (hc φ h);exact⟨v,pq az,h⟩
 ·obtain⟨v,az,h⟩:=an5 π (H:=w.heap) (hc φ h);exact⟨v,pq az,h⟩
 ·obtain⟨v,az,h⟩:=arz π (H:=w.heap) (hc φ (hc φ h));exact⟨v,pq az,h⟩
 ·obtain⟨v,az,h⟩:=arB π (H:=w.heap) (hc φ (hc φ h));exact⟨v,pq az,h⟩
 ·rename_i t l6;obtain⟨vs,mW,h⟩:=abq (hc φ h);obtain⟨v,az,h⟩:=dC h;obtain⟨i,I,h⟩:=dC h;refine⟨v,pq λw' _=>?_,Fl h⟩;rw[mW];simp[Instr.extract,az]
 ·rename_i t parts;have h:=Xt φ h;obtain⟨i,I,h⟩:=dC h;have I:=π.fR I;obtain⟨z,aI,sf⟩:=I.U5 (H:=w.heap);have z6:(parts.map λ(i,x)=>(i,a.eval x)).toList=parts.toList.map λ(i,x)=>(i,a.eval x):=by simp
  split at h
  ·rename_i jV ah;obtain⟨pl,vJ,h⟩:=dC h;obtain⟨cs,jY,h⟩:=dC h;refine⟨_,pq λw' gw=>?_,h⟩;have hu:=I.kC w' gw;rw[ah]at hu;have hm:=aop π (H:=w.heap) vJ w' gw;simp only[bind_pure_comp]at hm;unfold Instr.build;rw[Sem.run_bind,aI w' gw,Result.andThen_ok,Sem.run_bind,hu,Result.andThen_ok];simp only[bind_pure_comp];rw[Sem.run_bind,hm,Result.andThen_ok];rw[sf,z6,jY];rfl
  ·rename_i e ah;obtain⟨j,ψ,h⟩:=dC h;obtain⟨cs,jY,h⟩:=dC h;refine⟨_,pq λw' gw=>?_,h⟩;have hu:=I.kC w' gw;rw[ah]at hu;have ψ:=(π.fR ψ).sY w' gw;unfold Instr.build;rw[Sem.run_bind,aI w' gw,Result.andThen_ok,Sem.run_bind,hu,Result.andThen_ok];dsimp only;rw[Sem.run_bind,ψ,Result.andThen_ok];rw[sf,z6,jY];rfl
  ·exact h.elim
 ·rename_i t x;obtain⟨i,I,h⟩:=dC (hc φ h);have I:=π.fR I;split at h
  ·rename_i m e ah;obtain⟨p,len,dE,J,h⟩:=oz h;obtain⟨aF,h⟩:=iy h;have aF:¬len<m:=by have:=b6 aF;omega
   refine⟨_,pq λw' gw=>?_,h⟩;have hu:=I.kC w' gw;rw[ah]at hu;rw[J];unfold Instr.arrayAt;rw[Sem.run_bind,hu,Result.andThen_ok];simp[aF]
  ·exact h.elim
 ·rename_i x aAy t ok;obtain⟨i,I,h⟩:=dC (hc φ h);have I:=π.fR I;split at h
  ·exact h.elim
  ·rename_i b1;split at h
   ·rename_i u v J;obtain⟨aF,h⟩:=iy h;have aF:=b6 aF;have ι:=Fl h;clear h;subst aF;refine⟨_,pq λw' gw=>?_,ι⟩;have hu:=I.kC w' gw;rw[J];unfold Instr.typeAssert;simp only[];rw[Sem.run_bind,hu,Result.andThen_ok];cases ah:i.desc<;>first|exact(b1 _ ah).elim|simp
   ·exact h.elim
 ·rename_i cl;split at h
  ·rename_i b τ;have h:=yR φ h;obtain⟨v,az,h⟩:=amh π (H:=w.heap) (ty:=o.type) (cs:=cl.args.map λ| .const _=>true|_=>false) h;refine⟨v,λw' gw=>?_,h⟩;have az:=az w' gw;dsimp only;unfold resolve;rw[τ];simp only[pure_bind,invoke];have aP:(cl.args.toList.map a.eval).toArray=cl.args.map a.eval:=by rw[<-G1,No]
   rw[aP]at az;exact az
  ·exact h.elim
def a6(w:World)(a:Addr)(vs:aY):Prop:=
 a.spot=none/\(∀j,j<vs.length->(w.cell? ⟨a.block,a.off+j,none⟩).isSome=true/\w.frozen? ⟨a.block,a.off+j,none⟩=false)/\∀v∈vs,v.oneCell'=true
theorem NF{P:Program}{w:World}{a:Addr}{vs:aY}(h:a6 w a vs):(storeCells a vs).run P w=.ok () (w.setCells a.block a.off vs):=by obtain⟨b,o,s⟩:=a;obtain⟨rfl,h,h1⟩:=h;exact run_storeCells_cells b o vs 0 w (λj ψ=>by simpa using(h j ψ).1) (λj ψ=>by simpa using(h j ψ).2) h1
theorem zv(a:Addr)(n:Nat):(a.add n).block=a.block:=by unfold Addr.add;split<;>rfl
theorem KT(a:Addr)(n:Nat):(a.add n).off=a.off+n:=by
 unfold Addr.add;split
 ·rename_i h;simp[h]
 ·rfl
def O1(w:World)(a:γ)(off:Nat)(vs:aY):Prop:=match a with|none=>True|some a=>a6 w (a.add off) vs
def lM(w:World)(a:γ)(off:Nat)(vs:aY):World:=match a with|none=>w|some a=>w.setCells a.block (a.off+off) vs
def agJ(c:di)(t:TypeId)(a:Addr)(v:Value)(w:World)(N:al):Prop:=
 ξ (e6 c.tb t) λi=>cond (Bi i.desc)
  (cv v λcs=>ν (decide (cs.size=i.size)) (a6 w a cs.toList/\∀w',w'=w.setCells a.block a.off cs.toList->N w'))
  (ν (decide (i.size=1)) (ν v.oneCell' ((w.cell? a).isSome=true/\w.frozen? a=false/\∀w',w'=w.setCell a v->N w')))
theorem avA{c:di}(π:hT c){t:TypeId}{a:Addr}{v:Value}{w:World}{N:al}(h:agJ c t a v w N):
  ∃w',(Instr.storeAt t (.pointer (some a)) v).run c.P w=.ok () w'/\N w':=by
 obtain⟨i,I,h⟩:=dC h;have I:=π.fR I;have eV:=I.sY (H:=w.heap) w rfl;cases ah:Bi i.desc with
 |true=>
  rw[ah]at h;obtain⟨cs,rfl,ι⟩:=zD h;obtain⟨ab,hw,aJ⟩:=iy ι;have ab:=b6 ab;refine⟨_,?_,aJ _ rfl⟩;unfold Instr.storeAt;simp only[Instr.sureAddr,pure_bind];unfold storeVar;simp[eV,Value.cells,ab,NF hw]
 |false=>
  rw[ah]at h;obtain⟨ab,ι⟩:=iy h;obtain⟨h1,kq,bm,aJ⟩:=iy ι;have ab:=b6 ab;obtain⟨u,hu⟩:=JQ.1 kq;refine⟨_,?_,aJ _ rfl⟩;have Mp:v.cells=#[v]:=by cases v<;>first|rfl|(simp[Value.oneCell']at h1)
  have cb:(store a v).run c.P w=.ok () (w.setCell a v):=by rw[run_store c.P w a v _ h1];simp[hu,bm]
  unfold Instr.storeAt;simp only[Instr.sureAddr,pure_bind];unfold storeVar;simp[eV,Mp,ab,storeCells,Addr.add_zero',cb]
def aK(w:World)(cells:aj)(e:TypeId)(K:Nat->al):Prop:=∀b w',b=w.heap.size->w'=w.alloc (.cells cells e)->K b w'
def aev(c:di)(t:TypeId)(l m:Value)(w:World)(N:Value->al):Prop:=
 ξ (e6 c.tb t) λi=>match i.desc with
  | .slice e=>ξ (e6 c.tb e) λei=>(match l,m with
   | .int _ l,.int _ m=>ν (decide (0<=l)) (ν (decide (l<=m)) (ν (decide ((ei.bytes:Int)*m<=281474976710656/\m<=9223372036854775807))
    (aK w (madeCells ei.zero.toArray (m.toNat*ei.size)) e λb w'=>N (.slice (some ⟨b,0,none⟩) l.toNat m.toNat) w')))
   |_,_=>False)
  |_=>False
theorem c5.info{P:Program}{t:TypeId}{i:c0}(h:c5 P t i):∃x z,P.info? t=some x/\x.zero=some z/\z.cells=i.zero.toArray/\x.size=i.size/\x.bytes=i.bytes:=by
 obtain⟨_,ι,aJ⟩:=h;cases aH:P.info? t with
 |none=>simp[aH]at aJ
 |some x=>
  cases aI:x.zero with
  |none=>simp[aH,aI]at aJ
  |some z=>
   simp[aH,aI]at aJ;simp[aH]at ι;exact⟨x,z,rfl,aI,by rw[<-aJ,No],ι.1,ι.2⟩
theorem ast{c:di}(π:hT c){t:TypeId}{l m:Value}{w:World}{N:Value->al}(h:aev c t l m w N):
  ∃v w',(Instr.makeSlice t l m).run c.P w=.ok v w'/\N v w':=by
 obtain⟨i,I,h⟩:=dC h;have I:=π.fR I;split at h
 ·rename_i e ah;obtain⟨ei,gJ,h⟩:=dC h;have gJ:=π.fR gJ;split at h
  ·rename_i arN l WQ m aqh azI;obtain⟨aF,h⟩:=iy h;obtain⟨h1,h⟩:=iy h;obtain⟨ι,h⟩:=iy h;have aF:=b6 aF;have h1:=b6 h1;have ι:=b6 ι;obtain⟨x,z,J,aI,sf,ab,τ⟩:=gJ.info
   have:=run_make w t e x z (P:=c.P) (by rw[I.1,ah]) J aI arN WQ l m aF h1 (by rw[τ];exact ι.1) ι.2
   rw[sf,ab]at this;exact⟨_,_,this,h _ _ rfl rfl⟩
  ·exact h.elim
 ·exact h.elim
def ho(w:World)(base:γ)(n cap:Nat)(m:Nat)(Src:aY->Prop)(e:TypeId)(size bytes:Nat)(zero:aj)(N:γ->Nat->al):Prop:=
 ∃xs:aY,xs.length=m*size/\Src xs/\
  (n+m<=cap->O1 w base (n*size) xs/\∀w',w'=lM w base (n*size) xs->N base cap w')/\
  (cap<n+m->(n+m)*bytes<=140737488355328/\n+m<=9223372036854775807/\∃GH:aY,GH.length=n*size/\bd w base GH/\
   ∀b CY w',b=w.heap.size->n+m<=CY->w'=w.drew.alloc (.cells (GH.toArray++xs.toArray++Builtin.zeroCells zero (CY-(n+m))) e)->N (some ⟨b,0,none⟩) CY w')
theorem RP{P:Program}{w w':World}(hw:w'.heap=w.heap){a:γ}{xs:aY}(h:bd w a xs){size n len cap:Nat}(ak:xs.length=n*size):
  (Builtin.firstCells size n (.slice a len cap)).run P w'=.ok xs.toArray w':=by
 cases a with
 |none=>
  have:xs=[]:=h
  subst this;simp[Builtin.firstCells]
 |some a=>
  have:=U4 (P:=P) (w:=w) (a:=a) (vs:=xs) h w' hw
  rw[ak]at this;exact this
theorem aaw{c:di}(π:hT c){w:World}{base:γ}{n cap m:Nat}{Src:aY->Prop}{e:TypeId}{ei:c0}(gJ:c5 c.P e ei){N:γ->Nat->al}
  (h:ho w base n cap m Src e ei.size ei.bytes ei.zero.toArray N){gR:Array TypeId}{t ty:TypeId}{x:Value}(aS:gR[0]?=some t)(Mm:c.P.underlying t=some (.slice e))
  (J:∀xs,Src xs->xs.length=m*ei.size->
   ((∃t1 d1,gR[1]?=some t1/\c.P.underlying t1=some d1/\(d1=.string\/∃db,d1=.slice db))/\(∀w':World,(Builtin.lenOf x).run c.P w'=.ok m w')/\∀w':World,w'.heap=w.heap->(Builtin.firstCells ei.size m x).run c.P w'=.ok xs.toArray w')):
  ∃a aW w',(Builtin.append_ gR ty #[.slice base n cap,x]).run c.P w=.ok (.slice a (n+m) aW) w'/\N a aW w':=by
 obtain⟨xs,ak,Qr,c8,Me⟩:=h;obtain⟨⟨t1,d1,tc,Mn,mQ⟩,hlen,ac4⟩:=J xs Qr ak;obtain⟨inf,z,Bx,aI,sf,ab,τ⟩:=gJ.info;have vM:∀w':World,(underlying t).run c.P w'=.ok (.slice e) w':=λw'=>run_underlying Mm w';have eV:∀w':World,(sizeOf e).run c.P w'=.ok ei.size w':=λw'=>by simp[sizeOf,typeInfo,Bx,ab]
 have Aa:∀w':World,(underlying t1).run c.P w'=.ok d1 w':=λw'=>run_underlying Mn w';by_cases nF:n+m<=cap
 ·obtain⟨xe,ek⟩:=c8 nF;refine⟨_,_,_,?_,ek _ rfl⟩;have bm:=ac4 w rfl;cases base with
  |none=>
   rcases mQ with rfl|⟨db,rfl⟩<;>simp[Builtin.append_,aS,vM,eV,tc,Aa,hlen,nF,bm,lM]
  |some a=>
   have cb:=NF (P:=c.P) xe;rw[zv,KT]at cb;rcases mQ with rfl|⟨db,rfl⟩<;>simp[Builtin.append_,aS,vM,eV,tc,Aa,hlen,nF,bm,lM,cb]
 ·have bH:cap<n+m:=by omega
  obtain⟨LN,Br,GH,qD,lG,ek⟩:=Me bH;have jG:n+m<=grownCap w (n+m) cap e:=grownCap_ge w _ _ e;refine⟨_,_,_,?_,ek _ (grownCap w (n+m) cap e) _ rfl jG rfl⟩;have PW:¬(9223372036854775807<((n:Int)+(m:Int))):=by omega
  have apO:=growslice_fits (need:=n+m) (old:=cap) (bytes:=inf.bytes) bH (by rw[τ];exact LN);have PV:¬(281474976710656<Builtin.nextslicecap (n+m) cap*inf.bytes):=by omega
  have bm:=ac4 w.drew rfl;have zU:=RP (P:=c.P) (w:=w) (w':=w.drew) rfl lG (size:=ei.size) (n:=n) (len:=n) (cap:=cap) qD;have oF:∀w':World,(typeInfo e).run c.P w'=.ok inf w':=λw'=>by simp[typeInfo,Bx]
  have Dw:∀w':World,(zeroValue e).run c.P w'=.ok z w':=λw'=>by simp[zeroValue,typeInfo,Bx,aI]
  rcases mQ with rfl|⟨db,rfl⟩<;>simp[Builtin.append_,aS,vM,eV,tc,Aa,hlen,nF,oF,Dw,PW,PV,Question.forced,bm,zU,newRow,grownCap,sf]
  all_goals
   congr 2;apply rM;simp[nc]
def Pa(w:World)(base:γ)(n cap m:Nat)(e:TypeId)(size bytes:Nat)(zero:aj)(N:γ->Nat->al):Prop:=
 (m:Int)*(bytes:Int)<=281474976710656/\(m:Int)<=9223372036854775807/\ho w base n cap m (λxs=>xs.toArray=Builtin.zeroCells zero m) e size bytes zero N
theorem al4{c:di}(π:hT c){w:World}{base:γ}{n cap m:Nat}{e:TypeId}{ei:c0}(gJ:c5 c.P e ei){N:γ->Nat->al}
  (h:Pa w base n cap m e ei.size ei.bytes ei.zero.toArray N){gR:Array TypeId}{t t1 ty:TypeId}{aV:IntKind}(aS:gR[0]?=some t)(Mm:c.P.underlying t=some (.slice e))(tc:gR[1]?=some t1)(Mn:c.P.underlying t1=some (.int aV)):
  ∃a aW w',(∀k:IntKind,(Builtin.append_ gR ty #[.slice base n cap,.int k (m:Int)]).run c.P w=.ok (.slice a (n+m) aW) w')/\N a aW w':=by
 obtain⟨aqf,azH,xs,ak,Qr,c8,Me⟩:=h;obtain⟨inf,z,Bx,aI,sf,ab,τ⟩:=gJ.info;have vM:∀w':World,(underlying t).run c.P w'=.ok (.slice e) w':=λw'=>run_underlying Mm w';have Aa:∀w':World,(underlying t1).run c.P w'=.ok (.int aV) w':=λw'=>run_underlying Mn w';have eV:∀w':World,(sizeOf e).run c.P w'=.ok ei.size w':=λw'=>by simp[sizeOf,typeInfo,Bx,ab]
 have oF:∀w':World,(typeInfo e).run c.P w'=.ok inf w':=λw'=>by simp[typeInfo,Bx]
 have Dw:∀w':World,(zeroValue e).run c.P w'=.ok z w':=λw'=>by simp[zeroValue,typeInfo,Bx,aI]
 have xe:IntKind.i64.wrap (m:Int)=m:=by rw[IntKind.wrap_i64];omega
 have BB:¬((m:Int)<0):=by omega
 have I8:¬(281474976710656<(m:Int)*(inf.bytes:Int)):=by rw[τ];omega
 have adW:m*ei.size=0->xs=[]:=λaF=>tu (by rw[ak,aF]);by_cases nF:n+m<=cap
 ·obtain⟨arq,ek⟩:=c8 nF;refine⟨_,_,_,λk=>?_,ek _ rfl⟩;cases base with
  |none=>
   by_cases aF:m*ei.size=0
   ·simp[Builtin.append_,aS,vM,eV,tc,Aa,asInt,asIntOf,xe,BB,oF,I8,nF,lM,aF]
   ·simp[Builtin.append_,aS,vM,eV,tc,Aa,asInt,asIntOf,xe,BB,oF,I8,nF,lM,aF,Dw]
  |some a=>
   have cb:=NF (P:=c.P) arq;rw[zv,KT]at cb;by_cases aF:m*ei.size=0
   ·have:=adW aF
    subst this;simp[Builtin.append_,aS,vM,eV,tc,Aa,asInt,asIntOf,xe,BB,oF,I8,nF,lM,aF,cb]
   ·have ι:(storeCells (a.add (n*ei.size)) (Builtin.zeroCells ei.zero.toArray m).toList).run c.P w=.ok () (w.setCells a.block (a.off+n*ei.size) xs):=by rw[<-Qr];exact cb
    simp[Builtin.append_,aS,vM,eV,tc,Aa,asInt,asIntOf,xe,BB,oF,I8,nF,lM,aF,Dw,sf,ι]
 ·have bH:cap<n+m:=by omega
  obtain⟨LN,Br,GH,qD,lG,ek⟩:=Me bH;have jG:n+m<=grownCap w (n+m) cap e:=grownCap_ge w _ _ e;refine⟨_,_,_,λk=>?_,ek _ (grownCap w (n+m) cap e) _ rfl jG rfl⟩;have PW:¬(9223372036854775807<((n:Int)+(m:Int))):=by omega
  have apO:=growslice_fits (need:=n+m) (old:=cap) (bytes:=inf.bytes) bH (by rw[τ];exact LN);have PV:¬(281474976710656<Builtin.nextslicecap (n+m) cap*inf.bytes):=by omega
  have zU:=RP (P:=c.P) (w:=w) (w':=w.drew) rfl lG (size:=ei.size) (n:=n) (len:=n) (cap:=cap) qD;by_cases aF:m*ei.size=0
  ·have:=adW aF
   subst this;simp[Builtin.append_,aS,vM,eV,tc,Aa,asInt,asIntOf,xe,BB,oF,I8,nF,Dw,PW,PV,Question.forced,zU,newRow,grownCap,sf,aF]
  ·simp[Builtin.append_,aS,vM,eV,tc,Aa,asInt,asIntOf,xe,BB,oF,I8,nF,Dw,PW,PV,Question.forced,zU,newRow,grownCap,sf,aF,Qr]
def wS(w:World)(d:γ)(b8:Nat)(s:γ)(oN:Nat)(size:Nat)(N:al):Prop:=
 ∃xs:aY,xs.length=Nat.min oN b8*size/\bd w s xs/\O1 w d 0 xs/\∀w',w'=lM w d 0 xs->N w'
theorem amN{c:di}(π:hT c){w:World}{d s:γ}{b8 dc oN sc:Nat}{e:TypeId}{ei:c0}(gJ:c5 c.P e ei){N:al}
  (h:wS w d b8 s oN ei.size N){gR:Array TypeId}{t ty:TypeId}(aS:gR[0]?=some t)(Mm:c.P.underlying t=some (.slice e)):
  ∃w',(Builtin.copy_ gR ty #[.slice d b8 dc,.slice s oN sc]).run c.P w=.ok (.int .i64 ((Nat.min oN b8:Nat):Int)) w'/\N w':=by
 obtain⟨xs,ak,jY,xe,ek⟩:=h;have vM:∀w':World,(underlying t).run c.P w'=.ok (.slice e) w':=λw'=>run_underlying Mm w';have eV:∀w':World,(sizeOf e).run c.P w'=.ok ei.size w':=λw'=>gJ.sY (H:=w'.heap) w' rfl;have bm:=RP (P:=c.P) (w:=w) (w':=w) rfl jY (size:=ei.size) (n:=Nat.min oN b8) (len:=oN) (cap:=sc) ak;refine⟨_,?_,ek _ rfl⟩;cases d with
 |none=>simp[Builtin.copy_,aS,vM,eV,Builtin.lenOf,bm,lM,goInt]
 |some a=>
  have cb:=NF (P:=c.P) xe;rw[zv,KT]at cb;have hB:a.add 0=a:=Addr.add_zero' a;rw[hB]at cb;simp[Builtin.copy_,aS,vM,eV,Builtin.lenOf,bm,lM,goInt,cb]
def aa2(c:di)(t:TypeId)(len:Nat)(ps:List (Nat×Value))(w:World)(N:Value->al):Prop:=
 ξ (e6 c.tb t) λi=>match i.desc with
  | .slice e=>ξ (e6 c.tb e) λei=>ν (decide (len*ei.size<=16777216)) (ξ (Instr.fill (λi=>some (i*ei.size,ei.size)) (madeCells ei.zero.toArray (len*ei.size)) ps) λcs=>
   aK w cs e λb w'=>N (.slice (some ⟨b,0,none⟩) len len) w')
  |_=>False
theorem ami{c:di}(π:hT c){t:TypeId}{len:Nat}{ps:Array (Nat×Value)}{w:World}{N:Value->al}(h:aa2 c t len ps.toList w N):
  ∃v w',(Instr.buildSlice t len ps).run c.P w=.ok v w'/\N v w':=by
 obtain⟨i,I,h⟩:=dC h;have I:=π.fR I;split at h
 ·rename_i e ah;obtain⟨ei,gJ,h⟩:=dC h;have gJ:=π.fR gJ;obtain⟨aF,h⟩:=iy h;have aF:¬16777216<len*ei.size:=by have:=b6 aF;omega
  obtain⟨cs,jY,h⟩:=dC h;refine⟨_,_,?_,h _ _ rfl rfl⟩;obtain⟨z,aI,sf⟩:=gJ.U5 (H:=w.heap);have aI:=aI w rfl;have hu:=I.kC (H:=w.heap) w rfl;rw[ah]at hu;have eV:=gJ.sY (H:=w.heap) w rfl;unfold Instr.buildSlice;rw[Sem.run_bind,hu,Result.andThen_ok];dsimp only;rw[Sem.run_bind,eV,Result.andThen_ok];simp only[show(2:Nat)^24=16777216 from rfl,gt_iff_lt,aF,so,pure_bind];by_cases ar:len*ei.size=0
  ·have aP:madeCells ei.zero.toArray (len*ei.size)=(Array.range (len*ei.size)).map λi=>(#[]:aj)[i%(#[]:aj).size]!:=by
    simp[madeCells,ar]
   rw[aP]at jY;simp only[ar,qg,pure_bind];rw[ar]at jY;rw[jY];simp[newRow]
  ·have aP:madeCells ei.zero.toArray (len*ei.size)=(Array.range (len*ei.size)).map λi=>z.cells[i%z.cells.size]!:=by
    simp[madeCells,sf]
   rw[aP]at jY;simp only[ar,so];rw[Sem.run_bind,aI,Result.andThen_ok,jY];simp[newRow]
 ·exact h.elim
def CW(s:ByteArray):aY:=s.data.toList.map λb=>Value.int .u8 (b.toNat:Int)
def agd(w:World)(e:TypeId)(s:ByteArray)(N:Nat->Nat->al):Prop:=
 ∀b cap w',b=w.heap.size->s.size<=cap->w'=w.drew.alloc (.cells (CW s++List.replicate (cap-s.size) (Value.int .u8 0)).toArray e (cap,cap+1))->N b cap w'
theorem auY{c:di}(π:hT c){s d:TypeId}{e:TypeId}{ei:c0}(ah:c.P.underlying d=some (.slice e))(he:c.P.underlying e=some (.int .u8))(ab:c.P.underlying s=some .string)
  {x:ByteArray}{w:World}{N:Nat->Nat->al}(h:agd w e x N):∃b cap w',(convert s d (.string x)).run c.P w=.ok (.slice (some ⟨b,0,none⟩) x.size cap) w'/\N b cap w':=by
 have jG:x.size<=grownCap w x.size 0 e:=grownCap_ge w _ _ e;refine⟨_,_,_,?_,h _ (grownCap w x.size 0 e) _ rfl jG rfl⟩;have aP:(convert s d (.string x)).run c.P w=(Conv.stringToBytes e x).run c.P w:=by simp[convert,run_underlying ab,run_underlying ah,run_underlying he]
 rw[aP];have bM:(Array.map (λb:UInt8=>Value.int .u8 (b.toNat:Int)) x.data++Array.replicate (grownCap w x.size 0 e-x.size) (Value.int .u8 0))=(CW x++List.replicate (grownCap w x.size 0 e-x.size) (Value.int .u8 0)).toArray:=by apply rM;simp[CW]
 have jE:(CW x++List.replicate (grownCap w x.size 0 e-x.size) (Value.int .u8 0)).toArray.size=grownCap w x.size 0 e:=by
  have:x.data.size=x.size:=rfl
  simp[CW,this];omega
 unfold Conv.stringToBytes;simp only[Sem.run_bind,choose,Sem.run,Question.forced,xx,so,Sem.run_pure',Result.andThen_ok];show((newRow e (Array.map (λb:UInt8=>Value.int .u8 (b.toNat:Int)) x.data++Array.replicate (grownCap w x.size 0 e-x.size) (Value.int .u8 0))).run c.P w.drew).andThen _=_;rw[bM];simp only[newRow,newObj,Sem.run_bind,Sem.run,Sem.run_pure,Result.andThen_ok];unfold markStringish;simp only[Sem.run_bind,shape,Sem.run,Sem.run_pure',Result.andThen_ok];have iJ:World.shape? {w.drew with heap:=w.drew.heap.push (.cells (CW x++List.replicate (grownCap w x.size 0 e-x.size) (Value.int .u8 0)).toArray e (0,0))} w.drew.heap.size=some (e,grownCap w x.size 0 e):=by simp only[World.shape?,Array.getElem?_push_size];rw[jE]
 rw[iJ];simp only[freeze,Sem.run,Sem.run_pure',Result.andThen_ok,Sem.run_pure];congr 1;unfold World.freeze;rw[aL (by decide)];simp only[World.alloc];congr 1;apply Array.ext_getElem?;intro i;rw[Array.getElem?_modify];have az0:w.drew.heap.size=w.heap.size:=rfl;rcases Nat.lt_trichotomy i w.drew.heap.size with I|I|I
 ·rw[aL (by show¬w.drew.heap.size=i;omega),Array.getElem?_push,aL (by omega),Array.getElem?_push,aL (by omega)]
 ·subst I;rw[aN rfl,Array.getElem?_push_size];show _=(w.heap.push _)[w.heap.size]?;rw[Array.getElem?_push_size];simp
 ·rw[aL (by show¬w.drew.heap.size=i;omega),Array.getElem?_push,aL (by omega),Array.getElem?_push,aL (by omega)]
def yK(w:World)(a:Addr)(N:al):Prop:=
 ∃(cur:aj)(e:TypeId)(fr:Nat×Nat),w.heap[a.block]?=some (.cells cur e fr)/\∀w',w'=w.freeze ⟨a.block,cur.size,none⟩ 1->N w'
theorem asj{c:di}{d:TypeId}{e:TypeId}(ah:c.P.underlying d=some (.slice e))(he:c.P.underlying e=some (.int .u8)){a:Addr}{n m:Nat}{w:World}{N:al}(h:yK w a N):
  ∃w',(convert d d (.slice (some a) n m)).run c.P w=.ok (.slice (some a) n m) w'/\N w':=by
 obtain⟨cur,db,fr,τ,h⟩:=h;refine⟨_,?_,h _ rfl⟩;have aqR:w.shape? a.block=some (db,cur.size):=by unfold World.shape?;rw[τ]
 simp[convert,run_underlying ah,run_underlying he,markStringish,aqR]
def κ(P:Program)(g:Nat)(args:aj)(w:World)(N:Value->al)(X:List PanicEntry->al):Prop:=
 Calls P g args w λe w'=>match e with| .returned v=>N v w'| .panicked dg=>X dg w'| .outgrown=>False
def UK(P:Program)(g:Nat)(args:aj)(w:World)(N:Value->al):Prop:=∃v w',(callFunc g args).run P w=.ok (.value v) w'/\N v w'
def Fv(c:di)(o:Oper)(ο:dj)(w:World)(N:Value->al)(X:List PanicEntry->al):Prop:=
 match o.op with
 | .alloc e=>ξ (e6 c.tb e) λi=>aK w i.zero.toArray e λb w'=>N (.pointer (some ⟨b,0,none⟩)) w'
 | .box e x=>e0 ο x λv=>aK w v.cells e λb w'=>N (.pointer (some ⟨b,0,none⟩)) w'
 | .store t a x=>e0 ο a λa=>e0 ο x λv=>gI a λp=>ξ p λa=>agJ c t a v w λw'=>N undef w'
 | .buildSlice t len parts=>MW ο parts.toList λps=>aa2 c t len ps w N
 | .makeSlice t l m=>e0 ο l λl=>e0 ο m λm=>aev c t l m w N
 | .convert s d x=>ξ (e6 c.tb d) λj=>(match j.desc with
  | .slice e=>ξ (e6 c.tb s) λi=>ξ (e6 c.tb e) λei=>(match i.desc,ei.desc with
   | .string,.int .u8=>e0 ο x λx=>iI x λx=>agd w e x λb cap w'=>N (.slice (some ⟨b,0,none⟩) x.size cap) w'
   | .slice _,.int .u8=>ν (Nat.beq s d) (e0 ο x λx=>cX x λa n m=>ξ a λa=>yK w a λw'=>N (.slice (some a) n m) w')
   |_,_=>False)
  |_=>vA c o ο w λv=>N v w)
 | .call cl=>(match cl.callee with
  | .value f=>e0 ο f λf=>qc ο cl.args.toList λxs=>(match f with
   | .func (.func g) kd gX=>cond (c.fns.contains g) (κ c.P g (kd.toList++xs++gX.toList).toArray w (λv w'=>ξ (e6 c.tb o.type) λi=>zF i.desc v λv=>N v w') X) (UK c.P g (kd.toList++xs++gX.toList).toArray w λv w'=>ξ (e6 c.tb o.type) λi=>zF i.desc v λv=>N v w')
   |_=>False)
  | .builtin .append=>qc ο cl.args.toList λxs=>(match xs with
   |[x,y]=>ξ cl.argTypes[0]? λt=>ξ cl.argTypes[1]? λt1=>ξ (e6 c.tb t) λi=>ξ (e6 c.tb t1) λi1=>(match i.desc with
    | .slice e=>ξ (e6 c.tb e) λei=>cX x λa n cap=>(match i1.desc with
     | .slice _=>cX y λb m _=>ho w a n cap m (bd w b) e ei.size ei.bytes ei.zero.toArray λfL aW w'=>N (.slice fL (n+m) aW) w'
     | .string=>iI y λs=>ν (decide (ei.size=1)) (ho w a n cap s.size (λxs=>xs=CW s) e ei.size ei.bytes ei.zero.toArray λfL aW w'=>N (.slice fL (n+s.size) aW) w')
     | .int _=>(match y with
      | .int _ m=>ν (decide (0<=m)) (Pa w a n cap m.toNat e ei.size ei.bytes ei.zero.toArray λfL aW w'=>N (.slice fL (n+m.toNat) aW) w')
      |_=>False)
     |_=>False)
    |_=>False)
   |_=>False)
  | .builtin .copy=>qc ο cl.args.toList λxs=>(match xs with
   |[x,y]=>ξ cl.argTypes[0]? λt=>ξ (e6 c.tb t) λi=>(match i.desc with
    | .slice e=>ξ (e6 c.tb e) λei=>cX x λa n _=>cX y λb m _=>wS w a n b m ei.size λw'=>N (.int .i64 ((Nat.min m n:Nat):Int)) w'
    |_=>False)
   |_=>False)
  | .builtin .panic=>qc ο cl.args.toList λxs=>(match xs with
   |[.iface t v]=>X [{v:=.iface t v,recovered:=false}] w
   |_=>False)
  |_=>vA c o ο w λv=>N v w)
 | .panic x=>e0 ο x λx=>(match x with
  | .iface t v=>X [{v:=.iface t v,recovered:=false}] w
  |_=>False)
 |_=>vA c o ο w λv=>N v w
theorem Yields.wp{c:di}{o:Oper}{a:Act}{w:World}{v:Value}{K:Act->al}{Q:Exit->Act->al}(h:Yields c o a w.heap v)(jA:K (a.put o.dst v) w):o.wp c.P a w K Q:=by unfold Oper.wp;rw[h w rfl];exact jA
theorem tI{c:di}{o:Oper}{a:Act}{w w':World}{m:Sem Value}{v:Value}{K:Act->al}{Q:Exit->Act->al}
  (he:execOp a.eval o=(do pure (Next.value (<-m))))(h:m.run c.P w=.ok v w')(jA:K (a.put o.dst v) w'):o.wp c.P a w K Q:=by
 unfold Oper.wp;rw[he,Sem.run_bind,h];exact jA
theorem agb{P:Program}{g:Nat}{fn:Func}{args:aj}{w:World}(h:P.funcs[g]?=some fn)(ar:(fn.name== "runtime.NumGoroutine")=false)(τ:fn.body.isNone=false):
  (callFunc g args).run P w=.ok (.enter g args) w:=by
 unfold callFunc;simp only[Sem.run_bind,program,Sem.run,Sem.run_pure',Result.andThen_ok,h,ar,τ];simp
set_option maxHeartbeats 2000000 in
theorem Ll{c:di}(π:hT c){n:Nat}{o:Oper}{a:Act}{ο:dj}(φ:Rel n a ο){w:World}{N:Value->al}{X:List PanicEntry->al}
  {K:Act->al}{Q:Exit->Act->al}(ek:∀v w',N v w'->K (a.put o.dst v) w')(fF:∀dg w',X dg w'->Q (.panic dg) a w')
  (h:Fv c o ο w N X):o.wp c.P a w K Q:=by
 have ta:vA c o ο w (λv=>N v w)->o.wp c.P a w K Q:=λh=>by obtain⟨v,az,h⟩:=Lm π φ h;exact az.wp (ek _ _ h)
 unfold Fv at h;split at h<;>first|exact ta h|(rename_i aG)
 ·rename_i e;obtain⟨i,I,h⟩:=dC h;obtain⟨z,aI,sf⟩:=(π.fR I).U5 (H:=w.heap);refine tI (m:=Instr.alloc e true (.tuple #[])) (v:=.pointer (some ⟨w.heap.size,0,none⟩)) (w':=w.alloc (.cells z.cells e)) (by simp[execOp,aG]) ?_ (ek _ _ ?_)
  ·have:=aI w rfl
   simp[Instr.alloc,this,newVar,newRow]
  ·rw[sf];exact h _ _ rfl rfl
 ·rename_i e x;have h:=hc φ h;refine tI (m:=Instr.box e (a.eval x)) (v:=.pointer (some ⟨w.heap.size,0,none⟩)) (w':=w.alloc (.cells (a.eval x).cells e)) (by simp[execOp,aG]) ?_ (ek _ _ (h _ _ rfl rfl));simp[Instr.box,newVar,newRow]
 ·rename_i t p x;obtain⟨q,aH,h⟩:=vw (hc φ (hc φ h));obtain⟨b,rfl,ι⟩:=dC h;obtain⟨w',iN,aJ⟩:=avA π ι;unfold Oper.wp execOp;simp only[aG,aH,Sem.run_bind,iN,Result.andThen_ok];exact ek _ _ aJ
 ·rename_i t len parts;have h:=Xt φ h;have z6:(parts.map λ(i,x)=>(i,a.eval x)).toList=parts.toList.map λ(i,x)=>(i,a.eval x):=by simp
  rw[<-z6]at h;obtain⟨v,w',iN,ι⟩:=ami π h;exact tI (m:=Instr.buildSlice t len (parts.map λ(i,x)=>(i,a.eval x))) (by simp[execOp,aG]) iN (ek _ _ ι)
 ·rename_i t l m;obtain⟨v,w',iN,ι⟩:=ast π (hc φ (hc φ h));exact tI (m:=Instr.makeSlice t (a.eval l) (a.eval m)) (by simp[execOp,aG]) iN (ek _ _ ι)
 ·rename_i s d x;obtain⟨j,ψ,h⟩:=dC h;split at h
  ·rename_i e ah;obtain⟨i,I,h⟩:=dC h;obtain⟨ei,gJ,h⟩:=dC h;split at h
   ·rename_i adI LV;obtain⟨st,cb,h⟩:=x6 (hc φ h);have nQ:c.P.underlying d=some (.slice e):=by rw[(π.fR ψ).1,ah]
    have qu:c.P.underlying e=some (.int .u8):=by rw[(π.fR gJ).1,LV]
    have ax2:c.P.underlying s=some .string:=by rw[(π.fR I).1,adI]
    obtain⟨b,dE,w',iN,ι⟩:=auY (ei:=ei) π nQ qu ax2 h;refine tI (m:=convert s d (a.eval x)) (by simp[execOp,aG]) ?_ (ek _ _ ι);rw[cb];exact iN
   ·rename_i bM adI LV;obtain⟨ab,aJ⟩:=iy h;have cK:=hc φ aJ;clear aJ h;obtain rfl:=yY ab;obtain⟨p,k,m,J,h⟩:=oz cK;obtain⟨p,rfl,h⟩:=dC h;have nQ:c.P.underlying s=some (.slice e):=by rw[(π.fR ψ).1,ah]
    have qu:c.P.underlying e=some (.int .u8):=by rw[(π.fR gJ).1,LV]
    obtain⟨w',iN,ι⟩:=asj (n:=k) (m:=m) nQ qu h;refine tI (m:=convert s s (a.eval x)) (by simp[execOp,aG]) ?_ (ek _ _ ι);rw[J];exact iN
   ·exact h.elim
  ·exact ta h
 ·rename_i cl;split at h
  ·rename_i f zO;have h:=yR φ (hc φ h);split at h
   ·rename_i g kd gX bm;have Uv:(kd.toList++cl.args.toList.map a.eval++gX.toList).toArray=kd++cl.args.map a.eval++gX:=by
     apply rM;simp
    rw[Uv]at h;cases bH:c.fns.contains g with
    |false=>
     rw[bH]at h;obtain⟨v,w',iN,h⟩:=h;obtain⟨i,I,he⟩:=dC h;unfold Oper.wp execOp;simp only[aG];unfold resolve;simp only[zO,bm,Deferred.ofValue,pure_bind,invoke,Sem.run_bind,Sem.run_pure,Result.andThen_ok];rw[iN];exact ek _ _ (Fl he)
    |true=>
    rw[bH]at h;obtain⟨fn,VM,Mb,Vt⟩:=π.fn g (by simpa using bH);unfold Oper.wp execOp;simp only[aG];unfold resolve;simp only[zO,bm,Deferred.ofValue,pure_bind,invoke,Sem.run_bind,Sem.run_pure,Result.andThen_ok];rw[agb VM Mb Vt];refine Calls.mono h λe w' he=>?_;cases e with
    |returned v=>
     obtain⟨i,I,he⟩:=dC he;exact ek _ _ (Fl he)
    |panicked dg=>exact fF _ _ he
    |outgrown=>exact he.elim
   ·exact h.elim
  ·rename_i zO;have h:=yR φ h;split at h
   ·rename_i x y iB;have LM:cl.args.map a.eval=#[x,y]:=by
     apply rM;simpa using iB
    obtain⟨t,aS,h⟩:=dC h;obtain⟨t1,tc,h⟩:=dC h;obtain⟨i,I,h⟩:=dC h;obtain⟨i1,VR,h⟩:=dC h;have key:∀{v:Value}{w':World},(Builtin.append_ cl.argTypes o.type #[x,y]).run c.P w=.ok v w'->N v w'->o.wp c.P a w K Q:=λ{v w'}iN ar=>by unfold Oper.wp execOp;simp only[aG];unfold resolve;simp only[zO,pure_bind,invoke,builtin,LM,Sem.run_bind,iN,Result.andThen_ok];exact ek _ _ ar
    split at h
    ·rename_i e ah;obtain⟨ei,gJ,h⟩:=dC h;have u:c.P.underlying t=some (.slice e):=by rw[(π.fR I).1,ah]
     obtain⟨b,m,cap,J,h⟩:=oz h;rw[J]at key;split at h
     ·rename_i db mQ;have nQ:c.P.underlying t1=some (.slice db):=by rw[(π.fR VR).1,mQ]
      obtain⟨gg,m',CY,ag,h⟩:=oz h;rw[ag]at key;obtain⟨ζ,c2,w',iN,ι⟩:=aaw (ty:=o.type) π (π.fR gJ) h aS u (x:=.slice gg m' CY) (λxs iB ak=>
       ⟨⟨t1,_,tc,nQ,.inr ⟨db,rfl⟩⟩,λw'=>by simp[Builtin.lenOf],λw' hw=>RP (w:=w) hw iB ak⟩)
      exact key iN ι
     ·rename_i mQ;have nQ:c.P.underlying t1=some .string:=by rw[(π.fR VR).1,mQ]
      obtain⟨s,ag,h⟩:=x6 h;rw[ag]at key;obtain⟨h1,h⟩:=iy h;have h1:=b6 h1;obtain⟨ζ,c2,w',iN,ι⟩:=aaw (ty:=o.type) π (π.fR gJ) h aS u (x:=.string s) (λxs iB ak=>
       ⟨⟨t1,_,tc,nQ,.inl rfl⟩,λw'=>by simp[Builtin.lenOf],λw' hw=>by
        subst iB;have ab:s.data.size=s.size:=rfl;have aP:(s.extract 0 s.size).data=s.data:=by rw[ByteArray.data_extract,<-ab,Array.extract_size]
        simp only[Builtin.firstCells,Sem.run_pure,aP];congr 1;apply rM;simp[CW]⟩)
      exact key iN ι
     ·rename_i aV mQ;have nQ:c.P.underlying t1=some (.int aV):=by rw[(π.fR VR).1,mQ]
      split at h
      ·obtain⟨aF,h⟩:=iy h;have aF:=b6 aF;obtain⟨ζ,c2,w',iN,ι⟩:=al4 (ty:=o.type) π (π.fR gJ) h aS u tc nQ;rw[Np aF]at iN;exact key (iN _) ι
      ·exact h.elim
     ·exact h.elim
    ·exact h.elim
   ·exact h.elim
  ·rename_i zO;have h:=yR φ h;split at h
   ·rename_i x y iB;have LM:cl.args.map a.eval=#[x,y]:=by
     apply rM;simpa using iB
    obtain⟨t,aS,h⟩:=dC h;obtain⟨i,I,h⟩:=dC h;split at h
    ·rename_i e ah;obtain⟨ei,gJ,h⟩:=dC h;have u:c.P.underlying t=some (.slice e):=by rw[(π.fR I).1,ah]
     obtain⟨b,m,cap,J,h⟩:=oz h;obtain⟨gg,m',CY,ag,h⟩:=oz h;obtain⟨w',iN,ι⟩:=amN (dc:=cap) (sc:=CY) (ty:=o.type) π (π.fR gJ) h aS u;unfold Oper.wp execOp;simp only[aG];unfold resolve;simp only[zO,pure_bind,invoke,builtin,LM,J,ag,Sem.run_bind,iN,Result.andThen_ok];exact ek _ _ ι
    ·exact h.elim
   ·exact h.elim
  ·rename_i zO;have h:=yR φ h;split at h
   ·rename_i t v iB;have LM:cl.args.map a.eval=#[.iface t v]:=by
     apply rM;simpa using iB
    unfold Oper.wp execOp;simp only[aG];unfold resolve;simp only[zO,pure_bind,invoke,builtin,LM];simp[Instr.panic,goPanic,Oper.upon];exact fF _ _ h
   ·exact h.elim
  ·exact ta h
 ·rename_i x;have h:=hc φ h;split at h
  ·rename_i t v J;unfold Oper.wp execOp;simp[aG,J,Instr.panic,goPanic,Oper.upon];exact fF _ _ h
  ·exact h.elim
def aeB(w:World)(K:Nat->al):Prop:=∀b w',b=w.heap.size->w'=w.alloc (.map #[] 0)->K b w'
def W6(w:World)(r:Option Nat)(K:Int->Prop):Prop:=match r with
 |none=>K 0
 |some b=>∃es n,w.heap[b]?=some (.map es n)/\K (es.size:Int)
def W2(c:di)(cl:Call):Bool:=match cl.argTypes[0]?with
 |some t=>(match e6 c.tb t with
  |some i=>(match i.desc with| .map _ _=>true|_=>false)
  |none=>false)
 |none=>false
def IK(r m:Nat)(e:MapEntry):Prop:=∃qK m',e.key=.complex .f64 qK m'/\(eQ .eql r qK&&eQ .eql m m')=false
def Kz(P:Program)(t:TypeId)(z:Value):Prop:=(P.info? t).bind (·.zero)=some z
def QO(P:Program)(w:World)(b r m:Nat)(t:TypeId)(z:Value)(K:Value->Int->al):Prop:=
 Kz P t z/\∃es clock,w.heap[b]?=some (.map es clock)/\
  (((∀e∈es.toList,IK r m e)/\∀w',w'=w.putObj b (.map (es.push ⟨.complex .f64 r m,z,clock⟩) (clock+1))->K z (clock:Int) w')\/
  (∃i e,es.toList[i]?=some e/\e.key=.complex .f64 r m/\(eQ .eql r r&&eQ .eql m m)=true/\(∀db∈es.toList.take i,IK r m db)/\K e.val (e.born:Int) w))
def QP(w:World)(b:Nat)(st:Int)(v:Value)(K:al):Prop:=
 ∃es clock i,w.heap[b]?=some (.map es clock)/\es.findIdx? (λe=>(e.born:Int)==st)=some i/\∀w',w'=w.putObj b (.map (es.modify i λe=>{e with val:=v}) clock)->K w'
def TY(w:World)(p:γ)(n:Nat)(zero:aj)(K:al):Prop:=
 ((p=none\/n=0)/\K w)\/∃a,p=some a/\n≠0/\a6 w a (Builtin.zeroCells zero n).toList/\∀w',w'=w.setCells a.block a.off (Builtin.zeroCells zero n).toList->K w'
def Jo(P:Program)(w:World)(W8:Option Nat)(r m:Nat)(t:TypeId)(z:Value)(K:Value->Prop):Prop:=
 Kz P t z/\∃b es clock,W8=some b/\w.heap[b]?=some (.map es clock)/\
  (((∀e∈es.toList,IK r m e)/\K z)\/
  (∃i e,es.toList[i]?=some e/\e.key=.complex .f64 r m/\(eQ .eql r r&&eQ .eql m m)=true/\(∀db∈es.toList.take i,IK r m db)/\K e.val))
def afV(w:World)(W8:Option Nat)(K:Nat->al):Prop:=
 ∃m es clock,W8=some m/\w.heap[m]?=some (.map es clock)/\∀b w',b=w.heap.size->w'=w.alloc (.mapIter (some m) clock #[] clock)->K b w'
def Xb(w:World)(d:Addr)(OV:Prop)(K:MapEntry->al):Prop:=
 ∃(b m since fN:Nat)(seen:Array Nat)(es:Array MapEntry)(clock:Nat),d=⟨b,0,none⟩/\w.heap[b]?=some (.mapIter (some m) since seen fN)/\w.heap[m]?=some (.map es clock)/\(∀x∈es.toList,x.born<since)/\since<=fN/\
  ((leftOf es seen).size=0->OV)/\
  ∀e∈(leftOf es seen).toList,∀ε w',(ε=w\/ε=w.drew)->w'=ε.putObj b (.mapIter (some m) since (seen.push e.born) clock)->K e w'
def UC(w:World)(d:Addr)(K:Value->Value->Prop):Prop:=
 ∃(b m since:Nat)(seen:Array Nat)(es:Array MapEntry)(clock:Nat)(e:MapEntry),d=⟨b,0,none⟩/\w.heap[b]?=some (.mapIter (some m) since (seen.push e.born) clock)/\w.heap[m]?=some (.map es clock)/\e∈es.toList/\(es.toList.map (·.born)).Nodup/\K e.key e.val
theorem Yg{P:Program}{w:World}{lI:TypeId}{k:FloatKind}{r m:Nat}(hk:P.underlying lI=some (.complex k)):∀(es:List MapEntry)(i:Nat),(∀e∈es,IK r m e)->
  (Instr.findAsking lI (.complex .f64 r m) es i).run P w=.ok none w
 |[],i,_=>by simp[Instr.findAsking]
 |e::es,i,h=>by
  obtain⟨qK,m',he,bm⟩:=h e (oj ..);have cw:=Yg (w:=w) hk es (i+1) λe he=>h e (ie _ he);have FZ:(Op.floatEq .f64 r qK&&Op.floatEq .f64 m m')=false:=bm;have aH:(Op.equal lI (.complex .f64 r m) e.key).run P w=.ok false w:=by rw[he];unfold Op.equal Op.maxDepth Op.equalIn;simp only[Sem.run_bind,run_underlying hk,Result.andThen_ok,qg,Sem.run_pure,FZ]
  rw[Instr.findAsking,Sem.run_bind,aH];exact cw
theorem Yh{P:Program}{w:World}{lI:TypeId}{k:FloatKind}{r m:Nat}(hk:P.underlying lI=some (.complex k))(ab:(eQ .eql r r&&eQ .eql m m)=true):∀(es:List MapEntry)(n i:Nat)(e:MapEntry),es[i]?=some e->
  e.key=.complex .f64 r m->(∀db∈es.take i,IK r m db)->(Instr.findAsking lI (.complex .f64 r m) es n).run P w=.ok (some (n+i,e.val)) w
 |[],n,i,e,h,_,_=>by simp at h
 |a::es,n,0,e,h,he,_=>by
  obtain rfl:a=e:=by simpa using h
  have FZ:(Op.floatEq .f64 r r&&Op.floatEq .f64 m m)=true:=ab;have aH:(Op.equal lI (.complex .f64 r m) a.key).run P w=.ok true w:=by rw[he];unfold Op.equal Op.maxDepth Op.equalIn;simp only[Sem.run_bind,run_underlying hk,Result.andThen_ok,qg,Sem.run_pure,FZ]
  rw[Instr.findAsking,Sem.run_bind,aH];rfl
 |a::es,n,i+1,e,h,he,aR=>by
  obtain⟨qK,m',aoV,bm⟩:=aR a (by simp);have cw:=Yh (w:=w) hk ab es (n+1) i e (by simpa using h) he λdb ej=>aR db (by simp[ej]);have FZ:(Op.floatEq .f64 r qK&&Op.floatEq .f64 m m')=false:=bm;have aH:(Op.equal lI (.complex .f64 r m) a.key).run P w=.ok false w:=by rw[aoV];unfold Op.equal Op.maxDepth Op.equalIn;simp only[Sem.run_bind,run_underlying hk,Result.andThen_ok,qg,Sem.run_pure,FZ]
  rw[Instr.findAsking,Sem.run_bind,aH];simp only[Result.andThen];have aP:n+(i+1)=n+1+i:=by omega
  rw[aP];simpa using cw
theorem an9{k:FloatKind}{r m:Nat}:∀(es:List MapEntry),Instr.findNow (.complex k) (.complex .f64 r m) es 0=if es=[]then some none else none
 |[]=>rfl
 |e::es=>by simp[Instr.findNow,Instr.sameNow]
theorem RO{P:Program}{w:World}{lI:TypeId}{k:FloatKind}{r m:Nat}(hk:P.underlying lI=some (.complex k))(es:List MapEntry):
  (Instr.findKey lI (.complex .f64 r m) es).run P w=(Instr.findAsking lI (.complex .f64 r m) es).run P w:=by
 unfold Instr.findKey;rw[Sem.run_bind,run_underlying hk,Result.andThen_ok,an9];cases es with
 |nil=>simp[Instr.findAsking]
 |cons e es=>simp
theorem RN{P:Program}{w:World}{lI:TypeId}{k:FloatKind}{r m:Nat}(hk:P.underlying lI=some (.complex k))(b:Bool)(n:Nat):(Instr.checkKey b (n+1) lI (.complex .f64 r m)).run P w=.ok () w:=by unfold Instr.checkKey;simp[Sem.run_bind,run_underlying hk,Result.andThen]
theorem aex{α:Type}(f:α->α):∀(l:List α)(i:Nat)(a:α),l[i]?=some a->f a=a->l.modify i f=l
 |[],_,_,h,_=>by simp at h
 |b::l,0,a,h,bm=>by
  obtain rfl:b=a:=by simpa using h
  simp[bm]
 |b::l,i+1,a,h,bm=>by rw[List.modify_succ_cons,aex f l i a (by simpa using h) bm]
theorem at5{w:World}{b:Nat}{o:Obj}(h:w.heap[b]?=some o):w.putObj b o=w:=by
 have:w.heap.setIfInBounds b o=w.heap:=by
  apply rM;rw[Array.toList_setIfInBounds];apply rL;intro j;rw[List.getElem?_set];split
  ·rename_i e;subst e;have ak:b<w.heap.toList.length:=by
    rw[lL];exact(Array.getElem?_eq_some_iff.mp h).1
   rw[aN ak,Array.getElem?_toList,h]
  ·rfl
 unfold World.putObj;rw[this]
def UG(c:di)(o:Oper)(ο:dj)(w:World)(N:Value->al)(X:List PanicEntry->al):Prop:=
 match o.op with
 | .makeMap _ none=>aeB w λb w'=>N (.map (some b)) w'
 | .mapEntry t m k=>ξ (e6 c.tb t) λi=>(match i.desc with
  | .map lI e=>ξ (e6 c.tb lI) λMC=>ξ (e6 c.tb e) λei=>(match MC.desc,ei.desc with
   | .complex _,.slice _=>e0 ο m λm=>rf m λb=>ξ b λb=>e0 ο k λk=>mA k λx y=>QO c.P w b x y e (.slice none 0 0) λv st w'=>cX v λp n q=>N (.tuple #[.slice p n q,.int .i64 st]) w'
   |_,_=>False)
  |_=>False)
 | .entryStore _ m st v=>e0 ο m λm=>rf m λb=>ξ b λb=>e0 ο st λst=>br .i64 st λst=>e0 ο v λv=>QP w b st v λw'=>N undef w'
 | .lookup t m k false=>ξ (e6 c.tb t) λi=>(match i.desc with
  | .map lI e=>ξ (e6 c.tb lI) λMC=>ξ (e6 c.tb e) λei=>(match MC.desc,ei.desc with
   | .complex _,.slice _=>e0 ο m λm=>rf m λb=>e0 ο k λk=>mA k λx y=>Jo c.P w b x y e (.slice none 0 0) λv=>cX v λp n q=>N (.slice p n q) w
   |_,_=>False)
  |_=>False)
 | .range t m=>ξ (e6 c.tb t) λi=>(match i.desc with
  | .map _ _=>e0 ο m λm=>rf m λr=>afV w r λb w'=>N (.pointer (some ⟨b,0,none⟩)) w'
  |_=>False)
 | .next it false=>e0 ο it λv=>gI v λp=>ξ p λd=>Xb w d (N (.tuple #[.bool false]) w) λe w'=>N (.tuple #[.bool true,e.key,e.val]) w'
 | .entry it=>e0 ο it λv=>gI v λp=>ξ p λd=>UC w d λx y=>N (.tuple #[x,y]) w
 | .call cl=>(match cl.callee with
  | .builtin .len=>cond (W2 c cl) (qc ο cl.args.toList λxs=>(match xs with
   |[x]=>rf x λr=>W6 w r λn=>N (.int .i64 n) w
   |_=>False)) (Fv c o ο w N X)
  | .builtin .clear=>(match cl.argTypes[0]?with
   |some t=>ξ (e6 c.tb t) λi=>(match i.desc with
    | .slice e=>ξ (e6 c.tb e) λei=>qc ο cl.args.toList λxs=>(match xs with
     |[x]=>cX x λp n q=>TY w p n ei.zero.toArray λw'=>N (.tuple #[]) w'
     |_=>False)
    |_=>False)
   |none=>False)
  |_=>Fv c o ο w N X)
 |_=>Fv c o ο w N X
set_option maxHeartbeats 1000000 in
theorem anP{c:di}(π:hT c){n:Nat}{o:Oper}{a:Act}{ο:dj}(φ:Rel n a ο){w:World}{N:Value->al}{X:List PanicEntry->al}
  {K:Act->al}{Q:Exit->Act->al}(ek:∀v w',N v w'->K (a.put o.dst v) w')(fF:∀dg w',X dg w'->Q (.panic dg) a w')
  (h:UG c o ο w N X):o.wp c.P a w K Q:=by
 unfold UG at h;split at h
 ·rename_i t aG;refine tI (m:=Instr.makeMap t none) (v:=.map (some w.heap.size)) (w':=w.alloc (.map #[] 0)) (by simp[execOp,aG]) ?_ (ek _ _ (h _ _ rfl rfl));simp[Instr.makeMap]
 ·rename_i t m k aG;obtain⟨i,I,h⟩:=dC h;split at h
  ·rename_i lI e ah;obtain⟨MC,V1,h⟩:=dC h;obtain⟨ei,gJ,h⟩:=dC h;split at h
   ·rename_i Af Uw V0 LV;obtain⟨b,hm,h⟩:=zE (hc φ h);obtain⟨b,rfl,h⟩:=dC h;obtain⟨x,y,hk,aI,es,clock,τ,h⟩:=Bh (hc φ h);have nQ:c.P.underlying t=some (.map lI e):=by rw[(π.fR I).1,ah]
    have qu:c.P.underlying lI=some (.complex Af):=by rw[(π.fR V1).1,V0]
    have bH:(getObj b).run c.P w=.ok (.map es clock) w:=by simp[getObj,Sem.run,τ]
    have kF:∀o:Obj,(setObj b o).run c.P w=.ok () (w.putObj b o):=λo=>by simp[setObj,Sem.run,τ,World.putObj]
    have hzero:(zeroValue e).run c.P w=.ok (.slice none 0 0) w:=by
     unfold Kz at aI;cases aH:c.P.info? e with
     |none=>simp[aH]at aI
     |some x=>
      have:x.zero=some (.slice none 0 0):=by simpa[aH]using aI
      simp[zeroValue,typeInfo,aH,this]
    rcases h with⟨aR,h⟩|⟨i,iK,lF,yq,Wh,LJ,h⟩
    ·have h:=h _ rfl;refine tI (m:=Instr.mapEntry t (a.eval m) (a.eval k)) (v:=.tuple #[.slice none 0 0,.int .i64 clock]) (by simp[execOp,aG]) ?_ (ek _ _ h);rw[hm,hk];unfold Instr.mapEntry;simp only[Sem.run_bind,run_underlying nQ,Result.andThen_ok,bH,RN qu,RO qu,Yg qu _ _ aR,hzero,kF];rfl
    ·obtain⟨p,q,E0,az,h⟩:=oz h;refine tI (m:=Instr.mapEntry t (a.eval m) (a.eval k)) (v:=.tuple #[.slice p q E0,.int .i64 iK.born]) (w':=w) (by simp[execOp,aG]) ?_ (ek _ _ h);rw[hm,hk];unfold Instr.mapEntry;have ao3:es[i]?=some iK:=by rw[<-Array.getElem?_toList];exact lF
     have mS:es.modify i (λe=>{e with key:=Value.complex .f64 x y})=es:=by apply rM;rw[Cc];exact aex _ _ _ iK lF (by rw[<-yq])
     have aqY:(Instr.keyThatStays (.complex .f64 x y) (.complex .f64 x y)).run c.P w=.ok (.complex .f64 x y) w:=by simp[Instr.keyThatStays,Instr.sameBits]
     simp only[Sem.run_bind,run_underlying nQ,Result.andThen_ok,bH,RN qu,RO qu,Yh qu Wh _ _ i iK lF yq LJ,oh,ao3,jB,Rn,yq,aqY,kF,mS,at5 τ,az];rfl
   ·exact h.elim
  ·exact h.elim
 ·rename_i t m st v aG;obtain⟨b,hm,h⟩:=zE (hc φ h);obtain⟨b,rfl,h⟩:=dC h;obtain⟨xG,cb,h⟩:=IE (hc φ h);obtain⟨es,clock,i,τ,bm,h⟩:=hc φ h;have h:=h _ rfl;have bH:(getObj b).run c.P w=.ok (.map es clock) w:=by simp[getObj,Sem.run,τ]
  have kF:∀o:Obj,(setObj b o).run c.P w=.ok () (w.putObj b o):=λo=>by simp[setObj,Sem.run,τ,World.putObj]
  unfold Oper.wp execOp;have iN:(Instr.entryStore t (a.eval m) (a.eval st) (a.eval v)).run c.P w=.ok () (w.putObj b (.map (es.modify i λe=>{e with val:=a.eval v}) clock)):=by rw[hm,cb];unfold Instr.entryStore;simp only[Sem.run_bind,Result.andThen_ok,bH,asInt,asIntOf,Sem.run_pure,bm,kF]
  simp only[aG,Sem.run_bind,iN,Result.andThen_ok];exact ek _ _ h
 ·rename_i t m k aG;obtain⟨i,I,h⟩:=dC h;split at h
  ·rename_i lI e ah;obtain⟨MC,V1,h⟩:=dC h;obtain⟨ei,gJ,h⟩:=dC h;split at h
   ·rename_i Af Uw V0 LV;obtain⟨b,hm,h⟩:=zE (hc φ h);obtain⟨x,y,hk,aI,b,es,clock,rfl,τ,h⟩:=Bh (hc φ h);have nQ:c.P.underlying t=some (.map lI e):=by rw[(π.fR I).1,ah]
    have qu:c.P.underlying lI=some (.complex Af):=by rw[(π.fR V1).1,V0]
    have bH:(getObj b).run c.P w=.ok (.map es clock) w:=by simp[getObj,Sem.run,τ]
    have hzero:(zeroValue e).run c.P w=.ok (.slice none 0 0) w:=by
     unfold Kz at aI;cases aH:c.P.info? e with
     |none=>simp[aH]at aI
     |some x=>
      have:x.zero=some (.slice none 0 0):=by simpa[aH]using aI
      simp[zeroValue,typeInfo,aH,this]
    rcases h with⟨aR,h⟩|⟨i,iK,lF,yq,Wh,LJ,h⟩
    ·obtain⟨p,q,E0,az,h⟩:=oz h;refine tI (m:=Instr.lookup t (a.eval m) (a.eval k) false) (v:=.slice p q E0) (w':=w) (by simp[execOp,aG]) ?_ (ek _ _ h);rw[<-az];rw[hm,hk];unfold Instr.lookup;simp only[Sem.run_bind,run_underlying nQ,Result.andThen_ok,bH,Sem.run_pure,RN qu,RO qu,Yg qu _ _ aR,hzero];rfl
    ·obtain⟨p,q,E0,az,h⟩:=oz h;refine tI (m:=Instr.lookup t (a.eval m) (a.eval k) false) (v:=.slice p q E0) (w':=w) (by simp[execOp,aG]) ?_ (ek _ _ h);rw[<-az];rw[hm,hk];unfold Instr.lookup;simp only[Sem.run_bind,run_underlying nQ,Result.andThen_ok,bH,Sem.run_pure,RN qu,RO qu,Yh qu Wh _ _ i iK lF yq LJ];rfl
   ·exact h.elim
  ·exact h.elim
 ·rename_i t m aG;obtain⟨i,I,h⟩:=dC h;split at h
  ·rename_i lI e ah;obtain⟨b,hm,m',es,clock,rfl,τ,h⟩:=zE (hc φ h);have nQ:c.P.underlying t=some (.map lI e):=by rw[(π.fR I).1,ah]
   have bH:(getObj m').run c.P w=.ok (.map es clock) w:=by simp[getObj,Sem.run,τ]
   refine tI (m:=Instr.range t (a.eval m)) (v:=.pointer (some ⟨w.heap.size,0,none⟩)) (w':=w.alloc (.mapIter (some m') clock #[] clock)) (by simp[execOp,aG]) ?_ (ek _ _ (h _ _ rfl rfl));rw[hm];unfold Instr.range;simp only[Sem.run_bind,run_underlying nQ,Result.andThen_ok,bH];rfl
  ·exact h.elim
 ·rename_i it aG;obtain⟨p,hp,h⟩:=vw (hc φ h);obtain⟨d,rfl,b,m,since,fN,seen,es,clock,rfl,τ,hm,hold,Gc,aF,h1⟩:=dC h;rcases run_next_at (P:=c.P) w o.type b m since fN seen es clock τ hm hold Gc with⟨ak,iN⟩|⟨e,he,ε,Gf,iN⟩
  ·refine tI (m:=Instr.next (a.eval it) false o.type) (by simp[execOp,aG]) (by rw[hp];exact iN) (ek _ _ (aF ak))
  ·refine tI (m:=Instr.next (a.eval it) false o.type) (by simp[execOp,aG]) (by rw[hp];exact iN) (ek _ _ (h1 e he ε _ Gf rfl))
 ·rename_i it aG;obtain⟨p,hp,h⟩:=vw (hc φ h);obtain⟨d,rfl,b,m,since,seen,es,clock,e,rfl,τ,hm,he,ar,h⟩:=dC h;exact tI (m:=Instr.entry (a.eval it)) (by simp[execOp,aG]) (by rw[hp];exact run_entry_at w b m since seen es clock e τ hm he ar) (ek _ _ h)
 ·rename_i cl aG;split at h
  ·rename_i τ;cases hm:W2 c cl with
   |false=>
    rw[hm]at h;exact Ll π φ ek fF h
   |true=>
    rw[hm]at h;have h:=yR φ h;split at h
    ·rename_i x J;obtain⟨r,rfl,h⟩:=zE h;unfold W2 at hm;split at hm
     ·rename_i t aS;split at hm
      ·rename_i i I;split at hm
       ·rename_i k e ah;have hu:=(π.fR I).kC w rfl;rw[ah]at hu;have aP:cl.args.map a.eval=#[.map r]:=by
         have:(cl.args.map a.eval).toList=[.map r]:=by rw[G1];exact J
         exact rM this
        have fin:∀n:Int,(Builtin.len_ cl.argTypes o.type #[.map r]).run c.P w=.ok (.int .i64 n) w->N (.int .i64 n) w->o.wp c.P a w K Q:=λn iN ar=>by
         unfold Oper.wp
         have:(execOp a.eval o).run c.P w=.ok (.value (.int .i64 n)) w:=by unfold execOp;simp only[aG];unfold resolve;rw[τ];simp only[pure_bind,invoke];rw[aP];show(do pure (Next.value (<-Builtin.len_ cl.argTypes o.type #[.map r]))).run c.P w=_;rw[Sem.run_bind,iN];rfl
         rw[this];exact ek _ _ ar
        cases r with
        |none=>exact fin 0 (by simp[Builtin.len_,aS,hu,goInt]) h
        |some b=>
         obtain⟨es,m,he,h⟩:=h;have bH:(getObj b).run c.P w=.ok (.map es m) w:=by simp[getObj,Sem.run,he]
         exact fin _ (by simp[Builtin.len_,aS,hu,goInt,bH,Result.andThen]) h
       ·cases hm
      ·cases hm
     ·cases hm
    ·exact h.elim
  ·rename_i τ;split at h
   ·rename_i t aS;obtain⟨i,I,h⟩:=dC h;split at h
    ·rename_i e ah;obtain⟨ei,gJ,h⟩:=dC h;have h:=yR φ h;split at h
     ·rename_i x J;obtain⟨p,n,q,hp,h⟩:=oz h;have nQ:c.P.underlying t=some (.slice e):=by rw[(π.fR I).1,ah]
      have aP:cl.args.map a.eval=#[.slice p n q]:=by
       have:(cl.args.map a.eval).toList=[.slice p n q]:=by rw[G1,J,hp]
       exact rM this
      have fin:∀w',(Builtin.clear_ cl.argTypes o.type #[.slice p n q]).run c.P w=.ok (.tuple #[]) w'->N (.tuple #[]) w'->o.wp c.P a w K Q:=λw' iN ar=>by unfold Oper.wp execOp;simp only[aG];unfold resolve;simp only[τ,pure_bind,invoke,builtin,aP,Sem.run_bind,iN,Result.andThen_ok];exact ek _ _ ar
      rcases h with⟨aI,h⟩|⟨x1,rfl,ar,hw,h⟩
      ·refine fin w ?_ h;rcases aI with rfl|rfl
       ·simp[Builtin.clear_,aS,run_underlying nQ,Result.andThen]
       ·cases p<;>simp[Builtin.clear_,aS,run_underlying nQ,Result.andThen]
      ·refine fin _ ?_ (h _ rfl);obtain⟨tK,z,Bx,aI,sf,-,-⟩:=(π.fR gJ).info;have Dw:(zeroValue e).run c.P w=.ok z w:=by simp[zeroValue,typeInfo,Bx,aI]
       rw[<-sf]at hw⊢;obtain⟨n,rfl⟩:=Nat.exists_eq_succ_of_ne_zero ar;simp[Builtin.clear_,aS,run_underlying nQ,Dw,NF hw,Result.andThen]
     ·exact h.elim
    ·exact h.elim
   ·exact h.elim
  ·exact Ll π φ ek fF h
 ·exact Ll π φ ek fF h
def uH(n:Nat)(d:Option Nat)(v:Value)(ο:dj)(K:dj->Prop):Prop:=
 match d with
 |some d=>ν (Nat.blt d n) (K ((d,v)::ο))
 |none=>K ο
theorem IM(j:Nat)(v:Value)(ο:dj)(d:Nat):dj.get ((j,v)::ο) d=if j=d then some v else ο.get d:=by
 by_cases h:j=d
 ·subst h;simp[dj.get]
 ·have:Nat.beq j d=false:=by
   cases τ:Nat.beq j d with
   |false=>rfl
   |true=>exact(h (yY τ)).elim
  simp[dj.get,this,h]
theorem xw{n:Nat}{a:Act}{ο:dj}(φ:Rel n a ο){d:Option Nat}{v:Value}{K:dj->Prop}(h:uH n d v ο K):∃gk,Rel n (a.put d v) gk/\K gk:=by
 cases d with
 |none=>exact⟨ο,φ,h⟩
 |some d=>
  obtain⟨ah,h⟩:=iy h;have ah:d+1<=n:=by simpa[Nat.blt,Nat.ble_eq]using ah
  have ah:d<n:=ah;refine⟨_,⟨φ.1,by simpa[Act.put]using φ.2.1,λj u ψ=>?_⟩,h⟩;rw[IM]at ψ;simp only[Act.put];rw[Array.getElem?_setIfInBounds];by_cases e:d=j
  ·subst e
   have:v=u:=by simpa using ψ
   subst this
   have:d<a.tmps.size:=by rw[φ.2.1];exact ah
   simp[this]
  ·rw[aL e]at ψ⊢;exact φ.2.2 j u ψ
theorem Rel.set{n:Nat}{a:Act}{ο:dj}(φ:Rel n a ο){d:Nat}{v:Value}(az:a.tmps[d]?=some v):Rel n a ((d,v)::ο):=by
 refine⟨φ.1,φ.2.1,λj u ψ=>?_⟩;rw[IM]at ψ;by_cases e:d=j
 ·subst e;rw[aN rfl]at ψ;rw[az,ψ]
 ·rw[aL e]at ψ;exact φ.2.2 j u ψ
def C8(ops:List Oper)(g:Option (Nat×Bool))(ο:dj)(yes no:dj->Prop):Prop:=
 match g with
 |none=>yes ο
 |some (j,want)=>ξ ops[j]? λhN=>ξ hN.dst λd=>ξ (ο.get d) λv=>match v with
  | .bool b=>(match want with
   |true=>cond b (yes ((d,.bool true)::ο)) (no ((d,.bool false)::ο))
   |false=>cond b (no ((d,.bool true)::ο)) (yes ((d,.bool false)::ο)))
  | .tuple _=>no ο
  |_=>False
theorem Fz{n:Nat}{a:Act}{ο:dj}(φ:Rel n a ο){ops:List Oper}{o:Oper}{yes no:dj->Prop}(h:C8 ops o.guard ο yes no):
  (Region.wanted o (yielded ops.toArray a.tmps)=true/\∃gk,Rel n a gk/\yes gk)\/(Region.wanted o (yielded ops.toArray a.tmps)=false/\∃gk,Rel n a gk/\no gk):=by
 unfold C8 at h;split at h
 ·rename_i bH;exact .inl ⟨by simp[Region.wanted,bH],ο,φ,h⟩
 ·rename_i j want bH;obtain⟨hN,ψ,h⟩:=dC h;obtain⟨d,ah,h⟩:=dC h;obtain⟨v,az,h⟩:=dC h;have n5:=φ.2.2 d v az;have ff:ops.toArray[j]?=some hN:=by simpa using ψ
  split at h
  ·rename_i b;have ag:yielded ops.toArray a.tmps j=some b:=by simp[yielded,ff,ah,n5]
   cases want<;>cases b<;>first
    |exact .inl ⟨by simp[Region.wanted,bH,ag],_,φ.set n5,h⟩
    |exact .inr ⟨by simp[Region.wanted,bH,ag],_,φ.set n5,h⟩
  ·rename_i cs;have ag:yielded ops.toArray a.tmps j=none:=by simp[yielded,ff,ah,n5]
   exact .inr ⟨by simp[Region.wanted,bH,ag],_,φ,h⟩
  ·exact h.elim
def PG(c:di)(n:Nat)(ops:List Oper)(Q:dj->al)(X:dj->List PanicEntry->al):List Oper->dj->al
 |[],ο,w=>Q ο w
 |o::r,ο,w=>C8 ops o.guard ο
  (λο=>UG c o ο w (λv w=>uH n o.dst v ο λο=>PG c n ops Q X r ο w) (X ο))
  (λο=>uH n o.dst undef ο λο=>PG c n ops Q X r ο w)
theorem UH{c:di}(π:hT c){n:Nat}{ops:List Oper}{Q:dj->al}{X:dj->List PanicEntry->al}{Q':Exit->Act->al}
  (dY:∀a ο w,Rel n a ο->Q ο w->Q' .normal a w)(fF:∀a ο dg w,Rel n a ο->X ο dg w->Q' (.panic dg) a w):
  ∀(l:List Oper)(a:Act)(ο:dj)(w:World),Rel n a ο->PG c n ops Q X l ο w->wpList c.P ops.toArray Q' l a w
 |[],a,ο,w,φ,h=>dY a ο w φ h
 |o::r,a,ο,w,φ,h=>by
  unfold wpList;rcases Fz φ h with⟨hw,gk,e3,h⟩|⟨hw,gk,e3,h⟩
  ·rw[aN hw];refine .inl (anP π e3 (K:=wpList c.P ops.toArray Q' r) (λv w' hp=>?_) (λdg w' J=>fF a gk dg w' e3 J) h);obtain⟨iO,ju,ι⟩:=xw e3 hp;exact UH π dY fF r _ _ _ ju ι
  ·rw[aL (by simp[hw])];obtain⟨iO,ju,ι⟩:=xw e3 h;exact UH π dY fF r _ _ _ ju ι
def IJ(c:di)(n:Nat)(ops:List Oper)(Q:dj->Prop)(w:World):List Oper->dj->Prop
 |[],ο=>Q ο
 |o::r,ο=>C8 ops o.guard ο
  (λο=>vA c o ο w λv=>uH n o.dst v ο λο=>IJ c n ops Q w r ο)
  (λο=>uH n o.dst undef ο λο=>IJ c n ops Q w r ο)
theorem UI{c:di}(π:hT c){n:Nat}{ops:List Oper}{Q:dj->Prop}{w:World}{Q':Act->Prop}
  (dY:∀a ο,Rel n a ο->Q ο->Q' a):
  ∀(l:List Oper)(a:Act)(ο:dj),Rel n a ο->IJ c n ops Q w l ο->wpQuiet c.P ops.toArray (λw'=>∃n,w'=w.drewN n) Q' l a
 |[],a,ο,φ,h=>dY a ο φ h
 |o::r,a,ο,φ,h=>by
  unfold wpQuiet;rcases Fz φ h with⟨hw,gk,e3,h⟩|⟨hw,gk,e3,h⟩
  ·rw[aN hw];obtain⟨v,az,h⟩:=Lm π e3 h;obtain⟨iO,ju,ι⟩:=xw e3 h;refine⟨v,?_,UI π dY r _ _ ju ι⟩;rintro w' ⟨k,rfl⟩;unfold Oper.quietAt;rw[az (w.drewN k) rfl];exact⟨rfl,rfl⟩
  ·rw[aL (by simp[hw])];obtain⟨iO,ju,ι⟩:=xw e3 h;exact UI π dY r _ _ ju ι
inductive cS where
 |int (k:IntKind)|bool|str|slice|ptr|addr|cA|agg|val|wX|re|map|vC (g:Nat)|vB (g:Nat)|AY
def hy(β:Type):List (Nat×cS)->Type
 |[]=>World->β
 |(_,.int _)::r=>Int->hy β r
 |(_,.bool)::r=>Bool->hy β r
 |(_,.str)::r=>ByteArray->hy β r
 |(_,.slice)::r=>γ->Nat->Nat->hy β r
 |(_,.ptr)::r=>γ->hy β r
 |(_,.addr)::r=>Addr->hy β r
 |(_,.cA)::r=>Nat->hy β r
 |(_,.agg)::r=>aj->hy β r
 |(_,.val)::r=>Value->hy β r
 |(_,.wX)::r=>Nat->hy β r
 |(_,.re)::r=>Nat->Nat->hy β r
 |(_,.map)::r=>Option Nat->hy β r
 |(_,.vC _)::r=>Nat->hy β r
 |(_,.vB _)::r=>hy β r
 |(_,.AY)::r=>Nat->hy β r
def Ue(v:Value)(K:Addr->Prop):Prop:=match v with| .pointer (some a)=>K a|_=>False
def Uf(v:Value)(K:bl):Prop:=match v with| .pointer (some ⟨b,0,none⟩)=>K b|_=>False
def Uh(g:Nat)(v:Value)(K:bl):Prop:=match v with| .func (.func ye) ⟨[]⟩ ⟨[.pointer (some ⟨b,0,none⟩)]⟩=>ν (Nat.beq ye g) (K b)|_=>False
def Ug(g:Nat)(v:Value)(N:Prop):Prop:=match v with| .func (.func ye) ⟨[]⟩ ⟨[]⟩=>ν (Nat.beq ye g) N|_=>False
def Ui(v:Value)(K:bl):Prop:=match v with| .func (.yield l) ⟨[]⟩ ⟨[]⟩=>K l|_=>False
theorem Py{v:Value}{K:bl}(h:Ui v K):∃l,v=.func (.yield l) #[] #[]/\K l:=by
 unfold Ui at h;split at h
 ·exact⟨_,rfl,h⟩
 ·exact h.elim
theorem Pu{g:Nat}{v:Value}{N:Prop}(h:Ug g v N):v=.func (.func g) #[] #[]/\N:=by
 unfold Ug at h;split at h
 ·obtain⟨e,ι⟩:=iy h;have e:=yY e;exact⟨by rw[e],ι⟩
 ·exact h.elim
theorem Ps{v:Value}{K:Addr->Prop}(h:Ue v K):∃a,v=.pointer (some a)/\K a:=by
 unfold Ue at h;split at h
 ·exact⟨_,rfl,h⟩
 ·exact h.elim
theorem Pt{v:Value}{K:bl}(h:Uf v K):∃b,v=.pointer (some ⟨b,0,none⟩)/\K b:=by
 unfold Uf at h;split at h
 ·exact⟨_,rfl,h⟩
 ·exact h.elim
theorem Pv{g:Nat}{v:Value}{K:bl}(h:Uh g v K):∃b,v=.func (.func g) #[] #[.pointer (some ⟨b,0,none⟩)]/\K b:=by
 unfold Uh at h;split at h
 ·obtain⟨e,ι⟩:=iy h;have e:=yY e;exact⟨_,by rw[e],ι⟩
 ·exact h.elim
def gV:(cg:List (Nat×cS))->hy Prop cg->dj->al
 |[],K,_,w=>K w
 |(d,.int k)::r,K,ο,w=>ξ (ο.get d) λv=>br k v λx=>gV r (K x) ο w
 |(d,.bool)::r,K,ο,w=>ξ (ο.get d) λv=>dF v λx=>gV r (K x) ο w
 |(d,.str)::r,K,ο,w=>ξ (ο.get d) λv=>iI v λx=>gV r (K x) ο w
 |(d,.slice)::r,K,ο,w=>ξ (ο.get d) λv=>cX v λx y z=>gV r (K x y z) ο w
 |(d,.ptr)::r,K,ο,w=>ξ (ο.get d) λv=>gI v λx=>gV r (K x) ο w
 |(d,.addr)::r,K,ο,w=>ξ (ο.get d) λv=>Ue v λx=>gV r (K x) ο w
 |(d,.cA)::r,K,ο,w=>ξ (ο.get d) λv=>Uf v λx=>gV r (K x) ο w
 |(d,.agg)::r,K,ο,w=>ξ (ο.get d) λv=>cv v λx=>gV r (K x) ο w
 |(d,.val)::r,K,ο,w=>ξ (ο.get d) λv=>gV r (K v) ο w
 |(d,.wX)::r,K,ο,w=>ξ (ο.get d) λv=>x5 v λx=>gV r (K x) ο w
 |(d,.re)::r,K,ο,w=>ξ (ο.get d) λv=>mA v λx y=>gV r (K x y) ο w
 |(d,.map)::r,K,ο,w=>ξ (ο.get d) λv=>rf v λx=>gV r (K x) ο w
 |(d,.vC g)::r,K,ο,w=>ξ (ο.get d) λv=>Uh g v λx=>gV r (K x) ο w
 |(d,.vB g)::r,K,ο,w=>ξ (ο.get d) λv=>Ug g v (gV r K ο w)
 |(d,.AY)::r,K,ο,w=>ξ (ο.get d) λv=>Ui v λx=>gV r (K x) ο w
def nm:(cg:List (Nat×cS))->hy Nat cg->dj->World->Nat
 |[],K,_,w=>K w
 |(d,.int _)::r,K,ο,w=>match ο.get d with|some (.int _ x)=>nm r (K x) ο w|_=>0
 |(d,.bool)::r,K,ο,w=>match ο.get d with|some (.bool x)=>nm r (K x) ο w|_=>0
 |(d,.str)::r,K,ο,w=>match ο.get d with|some (.string x)=>nm r (K x) ο w|_=>0
 |(d,.slice)::r,K,ο,w=>match ο.get d with|some (.slice x y z)=>nm r (K x y z) ο w|_=>0
 |(d,.ptr)::r,K,ο,w=>match ο.get d with|some (.pointer x)=>nm r (K x) ο w|_=>0
 |(d,.addr)::r,K,ο,w=>match ο.get d with|some (.pointer (some x))=>nm r (K x) ο w|_=>0
 |(d,.cA)::r,K,ο,w=>match ο.get d with|some (.pointer (some ⟨b,0,none⟩))=>nm r (K b) ο w|_=>0
 |(d,.agg)::r,K,ο,w=>match ο.get d with|some (.agg x)=>nm r (K x) ο w|_=>0
 |(d,.val)::r,K,ο,w=>match ο.get d with|some x=>nm r (K x) ο w|_=>0
 |(d,.wX)::r,K,ο,w=>match ο.get d with|some (.float .f64 x)=>nm r (K x) ο w|_=>0
 |(d,.re)::r,K,ο,w=>match ο.get d with|some (.complex .f64 x y)=>nm r (K x y) ο w|_=>0
 |(d,.map)::r,K,ο,w=>match ο.get d with|some (.map x)=>nm r (K x) ο w|_=>0
 |(d,.vC _)::r,K,ο,w=>match ο.get d with|some (.func _ _ ⟨[.pointer (some ⟨b,0,none⟩)]⟩)=>nm r (K b) ο w|_=>0
 |(_,.vB _)::r,K,ο,w=>nm r K ο w
 |(d,.AY)::r,K,ο,w=>match ο.get d with|some (.func (.yield l) _ _)=>nm r (K l) ο w|_=>0
def mj:(cg:List (Nat×cS))->hy Prop cg->(dj->al)->dj->Prop
 |[],K,G,ο=>∀w,K w->G ο w
 |(d,.int k)::r,K,G,ο=>∀x,mj r (K x) G ((d,.int k x)::ο)
 |(d,.bool)::r,K,G,ο=>∀x,mj r (K x) G ((d,.bool x)::ο)
 |(d,.str)::r,K,G,ο=>∀x,mj r (K x) G ((d,.string x)::ο)
 |(d,.slice)::r,K,G,ο=>∀x y z,mj r (K x y z) G ((d,.slice x y z)::ο)
 |(d,.ptr)::r,K,G,ο=>∀x,mj r (K x) G ((d,.pointer x)::ο)
 |(d,.addr)::r,K,G,ο=>∀x,mj r (K x) G ((d,.pointer (some x))::ο)
 |(d,.cA)::r,K,G,ο=>∀b,mj r (K b) G ((d,.pointer (some ⟨b,0,none⟩))::ο)
 |(d,.agg)::r,K,G,ο=>∀x,mj r (K x) G ((d,.agg x)::ο)
 |(d,.val)::r,K,G,ο=>∀x,mj r (K x) G ((d,x)::ο)
 |(d,.wX)::r,K,G,ο=>∀x,mj r (K x) G ((d,.float .f64 x)::ο)
 |(d,.re)::r,K,G,ο=>∀x y,mj r (K x y) G ((d,.complex .f64 x y)::ο)
 |(d,.map)::r,K,G,ο=>∀x,mj r (K x) G ((d,.map x)::ο)
 |(d,.vC g)::r,K,G,ο=>∀b,mj r (K b) G ((d,.func (.func g) #[] #[.pointer (some ⟨b,0,none⟩)])::ο)
 |(d,.vB g)::r,K,G,ο=>mj r K G ((d,.func (.func g) #[] #[])::ο)
 |(d,.AY)::r,K,G,ο=>∀x,mj r (K x) G ((d,.func (.yield x) #[] #[])::ο)
theorem pC{n:Nat}{a:Act}{ο:dj}(φ:Rel n a ο){G:dj->al}{w:World}:∀{cg:List (Nat×cS)}{K:hy Prop cg}{acc:dj},Rel n a acc->mj cg K G acc->gV cg K ο w->∃gk,Rel n a gk/\G gk w
 |[],K,acc,iM,ew,h=>⟨acc,iM,ew w h⟩
 |(d,k)::r,K,acc,iM,ew,h=>by
  cases k<;>simp only[gV]at h<;>obtain⟨v,az,h⟩:=dC h<;>have ab:=φ.2.2 d v az
  ·obtain⟨x,rfl,ι⟩:=IE h;exact pC φ (iM.set ab) (ew x) ι
  ·obtain⟨x,rfl,h⟩:=CZ h;exact pC φ (iM.set ab) (ew x) h
  ·obtain⟨x,rfl,h⟩:=x6 h;exact pC φ (iM.set ab) (ew x) h
  ·obtain⟨x,y,z,rfl,h⟩:=oz h;exact pC φ (iM.set ab) (ew x y z) h
  ·obtain⟨x,rfl,h⟩:=vw h;exact pC φ (iM.set ab) (ew x) h
  ·obtain⟨x,rfl,h⟩:=Ps h;exact pC φ (iM.set ab) (ew x) h
  ·obtain⟨x,rfl,h⟩:=Pt h;exact pC φ (iM.set ab) (ew x) h
  ·obtain⟨x,rfl,h⟩:=zD h;exact pC φ (iM.set ab) (ew x) h
  ·exact pC φ (iM.set ab) (ew v) h
  ·obtain⟨x,rfl,h⟩:=Fk h;exact pC φ (iM.set ab) (ew x) h
  ·obtain⟨x,y,rfl,h⟩:=Bh h;exact pC φ (iM.set ab) (ew x y) h
  ·obtain⟨x,rfl,h⟩:=zE h;exact pC φ (iM.set ab) (ew x) h
  ·obtain⟨x,rfl,ι⟩:=Pv h;exact pC φ (iM.set ab) (ew x) ι
  ·obtain⟨rfl,ι⟩:=Pu h;exact pC φ (iM.set ab) ew ι
  ·obtain⟨x,rfl,ι⟩:=Py h;exact pC φ (iM.set ab) (ew x) ι
def pB:(cg:List (Nat×cS))->hy Prop cg->hy Nat cg->(Nat->dj->al)->dj->Prop
 |[],K,m,G,ο=>∀w,K w->G (m w) ο w
 |(d,.int k)::r,K,m,G,ο=>∀x,pB r (K x) (m x) G ((d,.int k x)::ο)
 |(d,.bool)::r,K,m,G,ο=>∀x,pB r (K x) (m x) G ((d,.bool x)::ο)
 |(d,.str)::r,K,m,G,ο=>∀x,pB r (K x) (m x) G ((d,.string x)::ο)
 |(d,.slice)::r,K,m,G,ο=>∀x y z,pB r (K x y z) (m x y z) G ((d,.slice x y z)::ο)
 |(d,.ptr)::r,K,m,G,ο=>∀x,pB r (K x) (m x) G ((d,.pointer x)::ο)
 |(d,.addr)::r,K,m,G,ο=>∀x,pB r (K x) (m x) G ((d,.pointer (some x))::ο)
 |(d,.cA)::r,K,m,G,ο=>∀x,pB r (K x) (m x) G ((d,.pointer (some ⟨x,0,none⟩))::ο)
 |(d,.agg)::r,K,m,G,ο=>∀x,pB r (K x) (m x) G ((d,.agg x)::ο)
 |(d,.val)::r,K,m,G,ο=>∀x,pB r (K x) (m x) G ((d,x)::ο)
 |(d,.wX)::r,K,m,G,ο=>∀x,pB r (K x) (m x) G ((d,.float .f64 x)::ο)
 |(d,.re)::r,K,m,G,ο=>∀x y,pB r (K x y) (m x y) G ((d,.complex .f64 x y)::ο)
 |(d,.map)::r,K,m,G,ο=>∀x,pB r (K x) (m x) G ((d,.map x)::ο)
 |(d,.vC g)::r,K,m,G,ο=>∀x,pB r (K x) (m x) G ((d,.func (.func g) #[] #[.pointer (some ⟨x,0,none⟩)])::ο)
 |(d,.vB g)::r,K,m,G,ο=>pB r K m G ((d,.func (.func g) #[] #[])::ο)
 |(d,.AY)::r,K,m,G,ο=>∀x,pB r (K x) (m x) G ((d,.func (.yield x) #[] #[])::ο)
theorem rU{n:Nat}{a:Act}{ο:dj}(φ:Rel n a ο){G:Nat->dj->al}{w:World}:∀{cg:List (Nat×cS)}{K:hy Prop cg}{m:hy Nat cg}{acc:dj},Rel n a acc->pB cg K m G acc->gV cg K ο w->∃gk,Rel n a gk/\G (nm cg m ο w) gk w
 |[],K,m,acc,iM,ew,h=>⟨acc,iM,ew w h⟩
 |(d,k)::r,K,m,acc,iM,ew,h=>by
  cases k<;>simp only[gV]at h<;>obtain⟨v,az,h⟩:=dC h<;>have ab:=φ.2.2 d v az<;>simp only[nm,az]
  ·obtain⟨x,rfl,ι⟩:=IE h;exact rU φ (iM.set ab) (ew x) ι
  ·obtain⟨x,rfl,ι⟩:=CZ h;exact rU φ (iM.set ab) (ew x) ι
  ·obtain⟨x,rfl,ι⟩:=x6 h;exact rU φ (iM.set ab) (ew x) ι
  ·obtain⟨x,y,z,rfl,ι⟩:=oz h;exact rU φ (iM.set ab) (ew x y z) ι
  ·obtain⟨x,rfl,ι⟩:=vw h;exact rU φ (iM.set ab) (ew x) ι
  ·obtain⟨x,rfl,ι⟩:=Ps h;exact rU φ (iM.set ab) (ew x) ι
  ·obtain⟨x,rfl,ι⟩:=Pt h;exact rU φ (iM.set ab) (ew x) ι
  ·obtain⟨x,rfl,ι⟩:=zD h;exact rU φ (iM.set ab) (ew x) ι
  ·exact rU φ (iM.set ab) (ew v) h
  ·obtain⟨x,rfl,ι⟩:=Fk h;exact rU φ (iM.set ab) (ew x) ι
  ·obtain⟨x,y,rfl,ι⟩:=Bh h;exact rU φ (iM.set ab) (ew x y) ι
  ·obtain⟨x,rfl,ι⟩:=zE h;exact rU φ (iM.set ab) (ew x) ι
  ·obtain⟨x,rfl,ι⟩:=Pv h;exact rU φ (iM.set ab) (ew x) ι
  ·obtain⟨rfl,ι⟩:=Pu h;exact rU φ (iM.set ab) ew ι
  ·obtain⟨x,rfl,ι⟩:=Py h;exact rU φ (iM.set ab) (ew x) ι
theorem qp{ο iO:dj}(aG:∀d v,ο.get d=some v->iO.get d=some v){w:World}:∀{cg:List (Nat×cS)}{K:hy Prop cg},gV cg K ο w->gV cg K iO w/\∀m,nm cg m ο w=nm cg m iO w
 |[],K,h=>⟨h,λ_=>rfl⟩
 |(d,k)::r,K,h=>by
  cases k<;>simp only[gV]at h<;>obtain⟨v,az,h⟩:=dC h<;>have ab:=aG d v az<;>simp only[nm,gV,az,ab]
  ·obtain⟨x,rfl,ι⟩:=IE h;obtain⟨h1,aJ⟩:=qp aG ι;exact⟨aT rfl h1,λm=>aJ (m x)⟩
  ·obtain⟨x,rfl,ι⟩:=CZ h;obtain⟨h1,aJ⟩:=qp aG ι;exact⟨h1,λm=>aJ (m x)⟩
  ·obtain⟨x,rfl,ι⟩:=x6 h;obtain⟨h1,aJ⟩:=qp aG ι;exact⟨h1,λm=>aJ (m x)⟩
  ·obtain⟨x,y,z,rfl,ι⟩:=oz h;obtain⟨h1,aJ⟩:=qp aG ι;exact⟨h1,λm=>aJ (m x y z)⟩
  ·obtain⟨x,rfl,ι⟩:=vw h;obtain⟨h1,aJ⟩:=qp aG ι;exact⟨h1,λm=>aJ (m x)⟩
  ·obtain⟨x,rfl,ι⟩:=Ps h;obtain⟨h1,aJ⟩:=qp aG ι;exact⟨h1,λm=>aJ (m x)⟩
  ·obtain⟨x,rfl,ι⟩:=Pt h;obtain⟨h1,aJ⟩:=qp aG ι;exact⟨h1,λm=>aJ (m x)⟩
  ·obtain⟨x,rfl,ι⟩:=zD h;obtain⟨h1,aJ⟩:=qp aG ι;exact⟨h1,λm=>aJ (m x)⟩
  ·obtain⟨h1,ι⟩:=qp aG h;exact⟨h1,λm=>ι (m v)⟩
  ·obtain⟨x,rfl,ι⟩:=Fk h;obtain⟨h1,aJ⟩:=qp aG ι;exact⟨h1,λm=>aJ (m x)⟩
  ·obtain⟨x,y,rfl,ι⟩:=Bh h;obtain⟨h1,aJ⟩:=qp aG ι;exact⟨h1,λm=>aJ (m x y)⟩
  ·obtain⟨x,rfl,ι⟩:=zE h;obtain⟨h1,aJ⟩:=qp aG ι;exact⟨h1,λm=>aJ (m x)⟩
  ·obtain⟨x,rfl,ι⟩:=Pv h;obtain⟨h1,aJ⟩:=qp aG ι;exact⟨bU (by simp[DR]) h1,λm=>aJ (m x)⟩
  ·obtain⟨rfl,ι⟩:=Pu h;obtain⟨h1,aJ⟩:=qp aG ι;exact⟨bU (by simp[DR]) h1,λm=>aJ m⟩
  ·obtain⟨x,rfl,ι⟩:=Py h;obtain⟨h1,aJ⟩:=qp aG ι;exact⟨h1,λm=>aJ (m x)⟩
def nk:(cg:List (Nat×cS))->hy Prop cg->hy Nat cg->Nat->hy Prop cg
 |[],bE,m,k=>λw=>bE w/\m w<k
 |(_,.int _)::r,bE,m,k=>λx=>nk r (bE x) (m x) k
 |(_,.bool)::r,bE,m,k=>λx=>nk r (bE x) (m x) k
 |(_,.str)::r,bE,m,k=>λx=>nk r (bE x) (m x) k
 |(_,.slice)::r,bE,m,k=>λx y z=>nk r (bE x y z) (m x y z) k
 |(_,.ptr)::r,bE,m,k=>λx=>nk r (bE x) (m x) k
 |(_,.addr)::r,bE,m,k=>λx=>nk r (bE x) (m x) k
 |(_,.cA)::r,bE,m,k=>λx=>nk r (bE x) (m x) k
 |(_,.agg)::r,bE,m,k=>λx=>nk r (bE x) (m x) k
 |(_,.val)::r,bE,m,k=>λx=>nk r (bE x) (m x) k
 |(_,.wX)::r,bE,m,k=>λx=>nk r (bE x) (m x) k
 |(_,.re)::r,bE,m,k=>λx y=>nk r (bE x y) (m x y) k
 |(_,.map)::r,bE,m,k=>λx=>nk r (bE x) (m x) k
 |(_,.vC _)::r,bE,m,k=>λx=>nk r (bE x) (m x) k
 |(_,.vB _)::r,bE,m,k=>nk r bE m k
 |(_,.AY)::r,bE,m,k=>λx=>nk r (bE x) (m x) k
theorem rV{k:Nat}{ο:dj}{w:World}:∀{cg:List (Nat×cS)}{bE:hy Prop cg}{m:hy Nat cg},gV cg (nk cg bE m k) ο w->gV cg bE ο w/\nm cg m ο w<k
 |[],bE,m,h=>h
 |(d,arI)::r,bE,m,h=>by
  cases arI<;>simp only[gV]at h<;>obtain⟨v,az,h⟩:=dC h<;>simp only[nm,gV,az]
  ·obtain⟨x,rfl,ι⟩:=IE h;obtain⟨h1,aJ⟩:=rV ι;exact⟨aT rfl h1,aJ⟩
  ·obtain⟨x,rfl,ι⟩:=CZ h;obtain⟨h1,aJ⟩:=rV ι;exact⟨h1,aJ⟩
  ·obtain⟨x,rfl,ι⟩:=x6 h;obtain⟨h1,aJ⟩:=rV ι;exact⟨h1,aJ⟩
  ·obtain⟨x,y,z,rfl,ι⟩:=oz h;obtain⟨h1,aJ⟩:=rV ι;exact⟨h1,aJ⟩
  ·obtain⟨x,rfl,ι⟩:=vw h;obtain⟨h1,aJ⟩:=rV ι;exact⟨h1,aJ⟩
  ·obtain⟨x,rfl,ι⟩:=Ps h;obtain⟨h1,aJ⟩:=rV ι;exact⟨h1,aJ⟩
  ·obtain⟨x,rfl,ι⟩:=Pt h;obtain⟨h1,aJ⟩:=rV ι;exact⟨h1,aJ⟩
  ·obtain⟨x,rfl,ι⟩:=zD h;obtain⟨h1,aJ⟩:=rV ι;exact⟨h1,aJ⟩
  ·exact rV h
  ·obtain⟨x,rfl,ι⟩:=Fk h;obtain⟨h1,aJ⟩:=rV ι;exact⟨h1,aJ⟩
  ·obtain⟨x,y,rfl,ι⟩:=Bh h;obtain⟨h1,aJ⟩:=rV ι;exact⟨h1,aJ⟩
  ·obtain⟨x,rfl,ι⟩:=zE h;obtain⟨h1,aJ⟩:=rV ι;exact⟨h1,aJ⟩
  ·obtain⟨x,rfl,ι⟩:=Pv h;obtain⟨h1,aJ⟩:=rV ι;exact⟨bU (by simp[DR]) h1,aJ⟩
  ·obtain⟨rfl,ι⟩:=Pu h;obtain⟨h1,aJ⟩:=rV ι;exact⟨bU (by simp[DR]) h1,aJ⟩
  ·obtain⟨x,rfl,ι⟩:=Py h;obtain⟨h1,aJ⟩:=rV ι;exact⟨h1,aJ⟩
end Go.bJ

/- The walk of the functions, and the plain laws of the model: part of the proof. Conditions: none. -/
import Derived.Shelf.SlSortCmp.Whole1
import Derived.Shelf.Lay
import Derived.Ground.SlsfProg
import Derived.Shelf.SlSortCmp.NoneTotal
import Derived.Test.YtcpdfhkhaekekaaGreatA8
set_option linter.unusedVariables false
set_option linter.unusedSimpArgs false
namespace Go.Proofs.YtcpdfhkhaekekaaGreat.G.cL
open Go.bO Go.RowKit
def p9(k n:Int):Bool:=decide (n=0)||(decide (1<=k)&&decide (k<=16)&&decide (n-1<24*k))
def ke(k n:Int):ea:=if n=0 then none else if 1<=k/\k<=16/\n-1<24*k then some (((n-1)/k).toNat,((n-1)%k).toNat)else some (0,0)
theorem ara{k n:Int}(ax:0<=n):kc (ke k n):=by
 unfold ke;split
 ·exact trivial
 ·split
  ·rename_i aD h;have hk:=h.1;have h1:=O6 (n-1) (show k≠0 by omega);have ι:=OW (n-1) (show 0<k by omega);have aG:0<=(n-1)/k:=Int.ediv_nonneg (by omega) (by omega);have cq:(n-1)/k<24:=Int.ediv_lt_of_lt_mul (by omega) h.2.2;exact⟨by show((n-1)/k).toNat<24;omega,by show((n-1)%k).toNat<16;omega⟩
  ·exact⟨by decide,by decide⟩
theorem Vk{k:Int}(hk:2<=k/\k<=16){q:ea}(aC:kc q)(I:∀x,q=some x->(x.2:Int)<k):p9 k (Ak k q)=true/\ke k (Ak k q)=q/\0<=Ak k q/\Ak k q<65536:=by
 cases q with
 |none=>exact⟨rfl,rfl,Int.le_refl 0,(by decide:(0:Int)<65536)⟩
 |some x=>
  have h1:=I x rfl;have ι:=aC.1;have bg:=Jv (k:=k) ι (by omega);have e:Ak k (some x)=(x.1:Int)*k+x.2+1:=rfl;have aO:(x.1:Int)*k+x.2+1-1=x.2+k*x.1:=by rw[Int.mul_comm];omega
  have af:((x.2:Int)+k*x.1)/k=x.1:=by rw[Int.add_mul_ediv_left _ _ (by omega),K1 (by omega) h1];omega
  have hm:((x.2:Int)+k*x.1)%k=x.2:=by rw[Int.add_mul_emod_self_left];exact K7 (by omega) h1
  have bM:(x.2:Int)+k*x.1<24*k:=by have aG:k*(x.1:Int)<=k*23:=Int.mul_le_mul_of_nonneg_left (by omega) (by omega);omega
  rw[e];refine⟨?_,?_,by omega,by omega⟩
  ·unfold p9;rw[aO,bB (show 1<=k by omega),bB hk.2,bB bM];simp
  ·unfold ke;rw[aM (by omega),aO,aS ⟨by omega,hk.2,bM⟩,af,hm];simp
theorem aqc{n:Int}(h:0<=n/\n<65536):bt.num (bt.be 2 n)=n:=by simp[bt.be,bt.num];omega
def xA(k:Int):an->fF×an
 |a::b::r=>((a,b,(bt.jx 2 (min b.toNat (r.length/2)) r).map (ke k)),r.drop (2*min b.toNat (r.length/2)))
 |t=>((0,0,[]),t)
def Aq(k:Int):an->Bool
 |_::b::r=>decide (2*b<=(r.length:Int))&&(bt.jx 2 b.toNat r).all (p9 k)
 |_=>false
def ht(k:Int)(t:an):Nat->bR×an
 |0=>([],t)
 |n+1=>((ht k t n).1++[(xA k (ht k t n).2).1],(xA k (ht k t n).2).2)
def ji(k:Int)(t:an):Nat->Bool
 |0=>true
 |n+1=>ji k t n&&Aq k (ht k t n).2
def xp(k:Int)(t:an):Bool:=ji k t 8&&decide ((ht k t 8).2.length=0)
theorem adK(k:Int)(t:an):∀n,(ht k t n).1.length=n
 |0=>rfl
 |n+1=>by show((ht k t n).1++[_]).length=n+1;rw[fe,adK k t n];rfl
theorem num_nonneg{xs:an}(ψ:Bytes xs):0<=bt.num xs:=(bt.Ow xs ψ).1
theorem avz{m:Nat}{r:an}(ψ:Bytes r):∀n∈bt.jx 2 m r,0<=n:=λn ax=>by obtain⟨i,_,rfl⟩:=gO.1 ax;exact num_nonneg ((ψ.drop _).take _)
theorem arW{k:Int}{t:an}(ψ:Bytes t):Bytes (xA k t).2:=by
 match t,ψ with
 |[],ψ=>exact ψ
 |[a],ψ=>exact ψ
 |a::b::r,ψ=>exact Bytes.drop (λx I=>ψ x (hW _ (hW _ I))) _
theorem adJ{k:Int}{t:an}(ψ:Bytes t):∀n,Bytes (ht k t n).2
 |0=>ψ
 |n+1=>arW (adJ ψ n)
theorem ark{k:Int}{m:Nat}{r:an}(ψ:Bytes r):∀q∈(bt.jx 2 m r).map (ke k),kc q:=λq aC=>by obtain⟨n,ax,rfl⟩:=gO.1 aC;exact ara (avz ψ n ax)
theorem avA{k:Int}(hk:2<=k/\k<=16)(r:an):∀l:List ea,(∀q∈l,kc q)->(∀x,some x∈l->(x.2:Int)<k)->bt.jx 2 l.length (ju k l++r)=l.map (Ak k):=by
 intro l aC I;apply qb;intro i;unfold bt.jx;rw[List.getElem?_map,List.getElem?_map];by_cases o:i<l.length
 ·rw[List.getElem?_range o,List.getElem?_eq_getElem o];simp only[iT];congr 1;unfold bt.mH;have aoo:ju k l++r=ju k (l.take i)++(BZ k l[i]++(ju k (l.drop (i+1))++r)):=by
   conv=>lhs;rw[<-yT i l,HV o]
   unfold ju;rw[vZ,yS];simp only[lT]
  have h1:(ju k (l.take i)).length=i*2:=by rw[HM,gQ];omega
  rw[aoo,<-h1,K8];have ι:(BZ k l[i]).length=2:=by unfold BZ;rw[bt.sE]
  rw[<-ι,O2];have ψ:=Vk hk (aC _ (hF o)) λx e=>I x (e▸hF o);exact aqc ⟨ψ.2.2.1,ψ.2.2.2⟩
 ·rw[List.getElem?_eq_none (by rw[Cc];omega),List.getElem?_eq_none (by omega)];rfl
theorem arY{s k:Int}{R:bR}(j9:lG s k R)(aB:∀e∈R,lz e){e:fF}(he:e∈R)(r:an):Aq k (xu k e++r)=true/\xA k (xu k e++r)=(e,r):=by
 have dS:=uE.1 j9.1.1;have ep:=j9.1.2.1 e he;obtain⟨a,b,l⟩:=e;have aj:(l.length:Int)=b:=ep.1;have aC:=(aB _ he).1;have I:∀x,some x∈l->(x.2:Int)<k:=λx I=>(abE j9 he I).1;have hu:=avA (k:=k) (by omega) r l aC I;have aP:b.toNat=l.length:=by omega
 have hlen:(ju k l++r).length=2*l.length+r.length:=by rw[fe,HM]
 have aO:xu k (a,b,l)++r=a::b::(ju k l++r):=rfl;rw[aO];constructor
 ·show(decide (2*b<=((ju k l++r).length:Int))&&(bt.jx 2 b.toNat (ju k l++r)).all (p9 k))=true;rw[aP,hu,hlen,bB (by omega),O7,Cb];intro n ax;obtain⟨q,Kb,rfl⟩:=gO.1 ax;exact(Vk (by omega) (aC q Kb) λx e=>I x (e▸Kb)).1
 ·have J1:min b.toNat ((ju k l++r).length/2)=l.length:=by rw[hlen];omega
  show((a,b,(bt.jx 2 (min b.toNat ((ju k l++r).length/2)) (ju k l++r)).map (ke k)),(ju k l++r).drop (2*min b.toNat ((ju k l++r).length/2)))=((a,b,l),r);rw[J1,hu,<-HM k l,K8,Cf]
  have:l.map (ke k∘Ak k)=l:=by
   conv=>rhs;rw[<-List.map_id l]
   refine Cg λq Kb=>?_;exact(Vk (by omega) (aC q Kb) λx e=>I x (e▸Kb)).2.1
  rw[this]
theorem adL{s k:Int}{R:bR}(j9:lG s k R)(aB:∀e∈R,lz e):∀n,n<=R.length->ji k (eQ k R) n=true/\ht k (eQ k R) n=(R.take n,eQ k (R.drop n))
 |0,_=>⟨rfl,rfl⟩
 |n+1,h=>by
  obtain⟨h1,ι⟩:=adL j9 aB n (by omega);have ax:n<R.length:=by omega
  have aO:eQ k (R.drop n)=xu k R[n]++eQ k (R.drop (n+1)):=by rw[HV ax];rfl
  obtain⟨g1,g2⟩:=arY j9 aB (hF ax) (eQ k (R.drop (n+1)));constructor
  ·show(ji k (eQ k R) n&&Aq k (ht k (eQ k R) n).2)=true;rw[h1,ι];show(true&&Aq k (eQ k (R.drop n)))=true;rw[aO,g1];rfl
  ·show((ht k (eQ k R) n).1++[(xA k (ht k (eQ k R) n).2).1],(xA k (ht k (eQ k R) n).2).2)=_;rw[ι];show(R.take n++[(xA k (eQ k (R.drop n))).1],(xA k (eQ k (R.drop n))).2)=_;rw[aO,g2,k6 ax]
theorem arX{s k:Int}{R:bR}(j9:lG s k R)(aB:∀e∈R,lz e)(dr:R.length=8):xp k (eQ k R)=true/\(ht k (eQ k R) 8).1=R:=by obtain⟨h1,ι⟩:=adL j9 aB 8 (by omega);rw[hc (by omega),List.drop_of_length_le (by omega)]at ι;unfold xp;rw[h1,ι];exact⟨rfl,rfl⟩
end Go.Proofs.YtcpdfhkhaekekaaGreat.G.cL
namespace Go.Proofs.YtcpdfhkhaekekaaGreat.G.cL
open Go.bO Go.RowKit
theorem aqy{k:Int}{t:an}:∀{n m:Nat},n<=m->ji k t m=true->ji k t n=true:=by
 intro n m h
 induction m with
 |zero=>
  intro h1;have aD:n=0:=by omega
  rw[aD];rfl
 |succ m ch=>
  intro h1;by_cases ax:n=m+1
  ·subst ax;exact h1
  ·have h1:(ji k t m&&Aq k (ht k t m).2)=true:=h1;rw[kx]at h1;exact ch (by omega) h1.1
theorem UZ{k:Int}{t:an}{i:Nat}(o:i<8)(bg:Aq k (ht k t i).2=false):xp k t=false:=by
 cases h:xp k t with
 |false=>rfl
 |true=>
  unfold xp at h;rw[kx]at h;have h1:=aqy (show i+1<=8 by omega) h.1;have h1:(ji k t i&&Aq k (ht k t i).2)=true:=h1;rw[bg,Bool.and_false]at h1;cases h1
theorem QR{n k:Int}(ax:1<=n/\n<65536)(hk:0<=k/\k<256)(w:World):x5.C (n-1) k w (χ λv w'=>∃e,v=.tuple #[.complex .f64 (ev (ke k n)) (eE (ke k n)),.int .i64 e]/\(e=0↔p9 k n=true)/\η w w'):=by
 apply x5.ok;unfold x5.main;refine κ.use (L9 k w) ?_;rintro _ γ ⟨rfl,aO⟩;obtain rfl:=aO.symm
 try dsimp only[dE]
 have G4:¬(1<=k/\k<=16/\n-1<24*k)->ev (ke k n)=0/\eE (ke k n)=0/\p9 k n=false:=λh=>by
  unfold ke p9;rw[aM (by omega),aM h,iy (show¬n=0 by omega)];refine⟨acs,acs,?_⟩;by_cases h1:1<=k
  ·by_cases ι:k<=16
   ·rw[iy (show¬n-1<24*k fromλaG=>h ⟨h1,ι,aG⟩)];simp
   ·rw[iy ι];simp
  ·rw[iy h1];simp
 have fail:∀{e:Int}{w':World},¬(1<=k/\k<=16/\n-1<24*k)->e≠0->η w w'->χ (λv w'=>∃e,v=.tuple #[.complex .f64 (ev (ke k n)) (eE (ke k n)),.int .i64 e]/\(e=0↔p9 k n=true)/\η w w') (.returned (.tuple #[.complex .f64 0 0,.int .i64 e])) w':=λh he x=>by
  obtain⟨h1,ι,aG⟩:=G4 h;refine χ.mk ⟨_,?_,⟨λh=>absurd h he,λh=>?_⟩,x⟩
  ·rw[h1,ι]
  ·rw[aG]at h;cases h
 refine bz (λπ=>?_) λπ=>?_
 ·exact fail (e:=1) (λh=>by rw[bB h.1,bB h.2.1]at π;cases π) (by decide) (η.refl _)
 have π:1<=k/\k<=16:=by simpa using π
 rw[iD (by omega),bY (x:=24*k) (by omega) (by omega)];refine bz (λι=>?_) λι=>?_
 ·have ι:=b7 ι;exact fail (e:=5) (λh=>by omega) (by decide) (η.refl _)
 have ι:=dd ι;refine bL (bB (by omega)) (bL (bB (by omega)) λa1=>?_);have c4:1<=k/\k<=16/\n-1<24*k:=⟨π.1,π.2,by omega⟩;have aO:Int.tdiv (n-1) k=(((n-1)/k).toNat:Int):=by
  rw[Int.tdiv_eq_ediv_of_nonneg (by omega)]
  have:=Int.ediv_nonneg (a:=n-1) (b:=k) (by omega) (by omega)
  omega
 have bE:Int.tmod (n-1) k=(((n-1)%k).toNat:Int):=by
  rw[H9 (by omega)]
  have:=O6 (n-1) (show k≠0 by omega)
  omega
 have bM:(n-1)/k<24:=Int.ediv_lt_of_lt_mul (by omega) c4.2.2;rw[aO,bE,bY (by omega) (by omega)];have R6:ke k n=some (((n-1)/k).toNat,((n-1)%k).toNat):=by unfold ke;rw[aM (by omega),aS c4]
 refine χ.mk ⟨0,?_,⟨λ_=>?_,λ_=>rfl⟩,η.drewN _ _⟩
 ·rw[R6];rfl
 ·unfold p9;rw[bB c4.1,bB c4.2.1,bB c4.2.2];simp
abbrev Gn:fF:=(0,0,[])
def cp(R:bR):bR:=R++List.replicate (8-R.length) Gn
theorem alE{R:bR}(h:R.length=8):cp R=R:=by unfold cp;rw[h];simp
theorem ZF{R:bR}{i:Nat}(h:R.length=i)(o:i<8)(e:fF):(cp R).set i e=cp (R++[e]):=by
 unfold cp;have h1:8-R.length=(8-(R++[e]).length)+1:=by rw[fe,AA];omega
 rw[h1,E9,Ce _ _ (by omega),h,v7,H7,lT];rfl
theorem abK:∀(R:bR)(k:Nat)(a b:Int)(l:List ea),k<R.length->(kinds R).take (k*2)++two a b++(kinds R).drop (k*2+2)=kinds (R.set k (a,b,l))
 |[],k,a,b,l,h=>by simp at h
 |e::R,0,a,b,l,h=>by simp[kinds,two]
 |e::R,k+1,a,b,l,h=>by
  have:=abK R k a b l (by simpa using h)
  have aO:kinds (e::R)=.int .i64 e.1:: .int .i64 e.2.1::kinds R:=rfl;have bE:(k+1)*2=k*2+2:=by omega
  rw[aO,bE];show .int .i64 e.1:: .int .i64 e.2.1::((kinds R).take (k*2)++two a b++(kinds R).drop (k*2+2))=_;rw[this];rfl
theorem V5{R:bR}{qs:aU}(dr:R.length=8){i:Nat}(o:i<8)(a b:Int)(l:List ea):(kinds R++qs).take (i*2)++two a b++(kinds R++qs).drop (i*2+(two a b).length)=kinds (R.set i (a,b,l))++qs:=by
 have hk:(kinds R).length=16:=by rw[Ag,dr]
 have ι:(two a b).length=2:=rfl;rw[ι,oT (by omega),Cd (by omega),<-abK R i a b l (by omega)];simp
structure fp(w:World)(R:bR)(ps:aU):Prop where
 len:R.length=8
 dx:ps.length=8
 row:∀(k:Nat)(e:fF),R[k]?=some e->∃(p:J)(c:Nat),ps[k]?=some (Value.slice p e.2.2.length c)/\μ w 0 eo 1 p e.2.2.length c (e.2.2.map dO)
 ok:∀e∈R,lz e
theorem fp.at{w:World}{R:bR}{ps:aU}(h:fp w R ps):h2 w R ps:=
 ⟨h.len,h.dx,λk e he=>by obtain⟨p,c,h1,ι⟩:=h.row k e he;exact⟨p,c,h1,ι.cells⟩,h.ok⟩
theorem fp.aH{w w':World}{R:bR}{ps:aU}(h:fp w R ps){S:bf}(k:Kp w w' S)(ω:∀i,Typed w eo i->i<w.heap.size->¬S i):fp w' R ps:=
 ⟨h.len,h.dx,λj e he=>by obtain⟨p,c,h1,ι⟩:=h.row j e he;exact⟨p,c,h1,ι.aH k λx I=>ω _ (ι.typed I).1 (ι.typed I).2.2⟩,h.ok⟩
theorem fp.ex{w w':World}{R:bR}{ps:aU}(h:fp w R ps)(x:η w w'):fp w' R ps:=h.aH x λ_ _ _ h=>h
theorem fp.cB{w w':World}{R:bR}{ps:aU}(h:fp w R ps){S:bf}(k:Kp w w' S)(f:TypeId)(ω:∀i,S i->Typed w f i)(ca:eo≠f):fp w' R ps:=
 h.aH k λi aP _ o=>aP.ne (ω i o) ca rfl
theorem fp.set{w:World}{R:bR}{ps:aU}(h:fp w R ps){i:Nat}(o:i<8){e:fF}(he:lz e){p:J}{n c:Nat}(ax:e.2.2.length=n)(ε:μ w 0 eo 1 p n c (e.2.2.map dO)):fp w (R.set i e) (ps.set i (.slice p n c)):=by
 subst ax;refine⟨by rw[im];exact h.len,by rw[im];exact h.dx,λk cO hk=>?_,λcO dG=>?_⟩
 ·rw[List.getElem?_set]at hk⊢;by_cases pZ:i=k
  ·rw[aS pZ]at hk⊢;subst pZ;rw[aS (by rw[h.len];exact o)]at hk;rw[aS (by rw[h.dx];exact o)];cases hk;exact⟨p,c,rfl,ε⟩
  ·rw[aM pZ]at hk⊢;exact h.row k cO hk
 ·rcases pk dG with h1|h1
  ·exact h.ok cO h1
  ·rw[h1];exact he
def vb(l:aU):Prop:=∀z∈l,z.oneCell'=true
theorem vb.set{l:aU}(h:vb l)(i:Nat){v:Value}(aJ:v.oneCell'=true):vb (l.set i v):=λz aL=>by
 rcases pk aL with h1|h1
 ·exact h z h1
 ·rw[h1];exact aJ
theorem vb.app{l m:aU}(h:vb l)(k:vb m):vb (l++m):=λz aL=>(iG.1 aL).elim (h z) (k z)
theorem Of(R:bR):vb (kinds R):=λz aL=>by obtain⟨e,_,he⟩:=oU.1 aL;exact IB _ _ z he
theorem fp.aqE{w:World}{R:bR}{ps:aU}(h:fp w R ps):vb ps:=λz aL=>h.at.one z (iG.2 (.inr aL))
theorem awi:hn=bK (cp []) (List.replicate 8 (.slice none 0 0)):=rfl
theorem fp.zero(w:World):fp w (cp []) (List.replicate 8 (.slice none 0 0)):=by
 refine⟨rfl,rfl,λk e he=>?_,λe he=>?_⟩
 ·have aL:e=Gn:=by
   have:=eZ he
   exact uN (n:=8) this
  subst aL;refine⟨none,0,?_,μ.nil _ _ _ _⟩
  have:k<8:=(List.getElem?_eq_some_iff.1 he).1
  rw[List.getElem?_replicate,aS this];rfl
 ·have aL:e=Gn:=uN (n:=8) he;subst aL;exact⟨λq aC=>(by cases aC),(by decide),⟨by decide,by decide⟩,⟨by decide,by decide⟩⟩
theorem ars{w:World}{b B i j:Nat}{K qs:aU}{p:J}{c:Nat}{l:aU}{q:ea}(o:i<8)(iS:K.length=16)(aof:qs.length=8)(own:μ w 0 bU 24 (some ⟨b,0,none⟩) 1 1 (K++qs))(aC:qs[i]?=some (.slice p j c))(row:μ w B eo 1 p j c l)(φ:j<=1000)(dW:B<=w.heap.size)
  {N:J->Nat->Nat->ao}
  (aih:∀bT aT dX,Kp w dX (λx=>x=b\/B<=x)->μ dX 0 bU 24 (some ⟨b,0,none⟩) 1 1 (K++qs.set i (.slice bT (j+1) aT))->μ dX B eo 1 bT (j+1) aT (l++[dO q])->N bT j aT dX):
  ο (decide (0<=(i:Int))) (ο (decide ((i:Int)<(8:Int))) (
   ∃(aX:J)(bu:Nat)(c2:Nat),w.cell? ((⟨b,16,none⟩:Addr).add ((i:Int).toNat*1))=some (Value.slice aX bu c2)/\
   (aN w #[(Value.complex .f64 (ev q) (eE q))] eo λae cn=>
    gK cn aX bu c2 1 (a7 cn (some ⟨ae,0,none⟩)) eo 1 16 #[(Value.complex .f64 0 0)] λbh bI dn=>
    ο (decide (0<=(i:Int))) (ο (decide ((i:Int)<(8:Int))) (
     (dn.cell? ((⟨b,16,none⟩:Addr).add ((i:Int).toNat*1))).isSome=true/\dn.frozen? ((⟨b,16,none⟩:Addr).add ((i:Int).toNat*1))=false/\∀dX,dX=dn.setCell ((⟨b,16,none⟩:Addr).add ((i:Int).toNat*1)) (Value.slice bh (bu+1) bI)->N bh bu bI dX))))):=by
 refine bL (bB (by omega)) (bL (bB (by omega)) ?_);rw[cy,zw];have qM:(K++qs)[16+i]?=some (.slice p j c):=by rw[List.getElem?_append_right (by omega),iS,Ia];exact aC
 refine⟨p,j,c,own.at qM,?_⟩;rintro ae cn rfl rfl;have cx:=μ.new (w:=w) [dO q] eo;have aA:=η.alloc w (.cells [dO q].toArray eo);have iZ:w.alloc (.cells #[.complex .f64 (ev q) (eE q)] eo)=w.alloc (.cells [dO q].toArray eo):=rfl;rw[iZ];generalize w.alloc (.cells [dO q].toArray eo)=cn at cx aA⊢;have VM:=row.ex aA;refine lp (B:=B) VM (fY dW aA.size) [dO q] cx.cells rfl (by intro z aL;rw[lB]at aL;subst aL;rfl) rfl (by omega) (by omega) ?_;intro bh bI dn xm rS;refine bL (bB (by omega)) (bL (bB (by omega)) ?_);have jW:∀i,(∃y,p=some y/\y.block=i)->Typed cn eo i:=λi⟨y,e,o⟩=>o▸(VM.typed e).1;have ac1:=(own.ex aA).cB rS eo jW (by decide);refine ac1.da (j:=16+i) (by omega) (by rfl) λdX oG r1=>?_;have ka:(K++qs).set (16+i) (.slice bh (j+1) bI)=K++qs.set i (.slice bh (j+1) bI):=by rw[Ce _ _ (by omega),iS,Ia]
 rw[ka]at r1;have tb:∀i,i=b->Typed dn bU i:=λi o=>by rw[o];exact(ac1.typed rfl).1
 refine aih bh bI dX ?_ r1 (xm.cB oG bU tb (by decide));refine Kp.trans (aA.aH λx=>x=b\/B<=x) (Kp.trans rS oG (U:=λx=>x=b\/B<=x) (λi _⟨y,e,o⟩=>?_) λi _ o=>.inl o) (λ_ _ h=>h) λ_ _ h=>h
 have:=(VM.ge e).1
 exact .inr (by omega)
end Go.Proofs.YtcpdfhkhaekekaaGreat.G.cL
namespace Go.Proofs.YtcpdfhkhaekekaaGreat.G.cL
open Go.bO Go.RowKit
theorem avC(m:Nat)(r:an):bt.jx 2 m (r.take (2*m))=bt.jx 2 m r:=by unfold bt.jx;refine Cg λi o=>?_;have o:=ns.1 o;unfold bt.mH;rw[E6,AF];congr 2;omega
theorem agI{m j:Nat}{r:an}(φ:j<m):(bt.jx 2 m r)[j]?=some (bt.mH 2 r j):=by unfold bt.jx;rw[List.getElem?_map,List.getElem?_range φ];rfl
theorem akm{r:an}(ψ:Bytes r)(j:Nat):0<=bt.mH 2 r j/\bt.mH 2 r j<65536:=by
 unfold bt.mH;have h:=bt.Ow ((r.drop (j*2)).take 2) ((ψ.drop _).take _);have aj:((r.drop (j*2)).take 2).length<=2:=List.length_take_le _ _
 have:=bt.Vo aj
 omega
def QV(k:Int)(t:an)(w:World)(v:Value)(w':World):Prop:=
 η w w'/\((xp k t=true/\∃ps,v=.tuple #[.agg (bK (ht k t 8).1 ps).toArray,.bool true]/\fp w' (ht k t 8).1 ps)\/
  (xp k t=false/\∃cs:ag,cs.size=24/\vb cs.toList/\v=.tuple #[.agg cs,.bool false]))
theorem as5(p:J)(n c:Nat)(t:an)(s k:Int)(w:World)(π:a7 w p (bj t))(ax:t.length=n)(jS:n<=c)(aj:n<=100000)(ψ:Bytes t)(hk:0<=k/\k<256):
  jf.C p n c s k w (χ (QV k t w)):=by
 subst ax;apply jf.ok;unfold jf.main;rintro δ γ rfl rfl θ τ rfl rfl;have ρ:=μ.new (w:=w) (two s k) b2;have ζ:=η.alloc w (.cells (two s k).toArray b2);have aO:w.alloc (.cells #[.int .i64 s,.int .i64 k] b2)=w.alloc (.cells (two s k).toArray b2):=rfl;rw[aO];generalize w.heap.size=δ at ρ⊢;generalize w.alloc (.cells (two s k).toArray b2)=γ at ρ ζ⊢;have ai:=(μ.new (w:=γ) hn bU).lower (en _);have σ:=η.alloc γ (.cells hn.toArray bU);have eu:w.heap.size<=γ.heap.size:=ζ.size;have aan:δ<γ.heap.size:=(ρ.ge rfl).2;generalize γ.heap.size=θ at ai eu aan⊢;have alp:γ.alloc (.cells #[.int .i64 0,.int .i64 0,.int .i64 0,.int .i64 0,.int .i64 0,.int .i64 0,.int .i64 0,.int .i64 0,.int .i64 0,.int .i64 0,.int .i64 0,.int .i64 0,.int .i64 0,.int .i64 0,.int .i64 0,.int .i64 0,.slice none 0 0,.slice none 0 0,.slice none 0 0,.slice none 0 0,.slice none 0 0,.slice none 0 0,.slice none 0 0,.slice none 0 0] bU)=γ.alloc (.cells hn.toArray bU):=rfl;rw[alp];have ρ:=ρ.ex σ;generalize γ.alloc (.cells hn.toArray bU)=τ at ρ ai σ⊢;have jU:=ζ.trans σ;rw[awi]at ai
 have bad:∀{w':World}{xs:aU},η w w'->xs.length=24->vb xs->μ w' 0 bU 24 (some ⟨θ,0,none⟩) 1 1 xs->xp k t=false->
   ∃(aK:ag),aK.size=24/\aw w' (⟨θ,0,none⟩:Addr) aK.toList/\
   (ο (decide (aK.size=24)) (hr w' (⟨θ,0,none⟩:Addr) aK.toList/\∀aa,aa=w'.setCells (⟨θ,0,none⟩:Addr).block (⟨θ,0,none⟩:Addr).off aK.toList->
     (∃(bF:ag),bF.size=24/\aw aa (⟨θ,0,none⟩:Addr) bF.toList/\χ (QV k t w) (.returned (Value.tuple #[(Value.agg bF),(Value.bool false)])) aa))):=by
  intro w' xs I oD vE own bg;refine⟨xs.toArray,oD,own.cells,bL (bB oD) ?_⟩;refine own.put oD vE λaa cd bo=>?_;exact⟨xs.toArray,oD,bo.cells,χ.mk ⟨I.then cd λi o=>by omega,.inr ⟨bg,xs.toArray,oD,vE,rfl⟩⟩⟩
 unfold jf.bd
 refine⟨λcb b8 ck t3 t4 t14 w'=>δ=t3/\θ=t4/\0<=t14/\t14<=8/\ji k t t14.toNat=true/\(ht k t t14.toNat).2.length=b8/\b8<=ck/\b8<=100000/\a7 w cb (bj (ht k t t14.toNat).2)/\η w w'/\μ w' 0 b2 2 (some ⟨δ,0,none⟩) 1 1 (two s k)/\
   ∃ps,μ w' 0 bU 24 (some ⟨θ,0,none⟩) 1 1 (bK (cp (ht k t t14.toNat).1) ps)/\fp w' (cp (ht k t t14.toNat).1) ps/\∀j,t14.toNat<=j->j<8->ps[j]?=some (.slice none 0 0),
  λcb b8 ck t3 t4 t14 w'=>(8-t14).toNat,⟨rfl,rfl,by omega,by omega,rfl,rfl,jS,aj,π,jU,ρ.lower (en _),_,ai,fp.zero _,λj _ φ=>by rw[List.getElem?_replicate,aS φ]⟩,?_⟩
 rintro cb b8 ck _ _ t14 w' ⟨rfl,rfl,aD,dr,TD,ax,amU,pa,NI,I,aqO,ps,own,bV,BH⟩;unfold jf.δ;obtain⟨i,rfl⟩:=eH aD;rw[cy]at TD ax NI own bV BH;have NH:=adJ (k:=k) ψ i;have SN:=adK k t i;generalize pe:(ht k t i).2=fj at ax NI NH;subst ax;refine bz (λbM=>?_) λbM=>?_
 ·have bM:=b7 bM;have o:i<8:=by omega
  have abc:=bV.dx;have vE:vb (bK (cp (ht k t i).1) ps):=bV.at.one;refine bz (λjR=>?_) λjR=>?_
  ·have jR:=b7 jR;refine bad I bV.at.dU vE own (UZ o ?_);rw[pe]
   match fj,jR with
   |[],_=>rfl
   |[a],_=>rfl
   |a::b::r,h=>simp only[k5]at h;omega
  have jR:=dd jR;obtain⟨a,b,r,rfl⟩:∃a b r,fj=a::b::r:=by
   match fj,jR with
   |[],h=>simp at h
   |[a],h=>simp at h
   |a::b::r,_=>exact⟨a,b,r,rfl⟩
  have aQ:=NH a (by simp);have wV:=NH b (by simp);have SY:Bytes r:=λx I=>NH x (hW _ (hW _ I));have axd:(a::b::r).length=r.length+2:=rfl;have d:=η.drew w';have Ho:=I.trans d;have yn:a7 w'.drew cb (bj (a::b::r)):=NI.ex Ho;obtain⟨wE,rfl,n3⟩:=yn.one (v:=.int .u8 a) rfl;refine bL (bB (by omega)) ?_
  try dsimp only[bk]
  refine⟨a,n3,bL (bB (by omega)) ?_⟩;refine⟨b,yn 1 _ rfl,?_⟩;rintro aF az rfl rfl;have bo:=μ.new (w:=w'.drew) [.int .i64 0,.int .i64 0] jl;have aA:=η.alloc w'.drew (.cells [Value.int .i64 0,.int .i64 0].toArray jl);have jd:w'.heap.size<=w'.drew.heap.size:=d.size;have awS:θ<w'.heap.size:=(own.ge rfl).2;generalize w'.drew.heap.size=aF at bo jd⊢;generalize w'.drew.alloc (.cells #[.int .i64 0,.int .i64 0] jl)=az at bo aA⊢;have aay:a7 az (some wE) (bj (a::b::r)):=a7.ex aA yn;have GB:az.cell? wE=some (.int .u8 a):=by
   have:=aay 0 _ rfl
   rwa[show wE.add 0=wE from Addr.add_zero' wE]at this
  refine⟨rfl,aay 1 _ rfl,GB,?_⟩;rw[bY (x:=a) (by omega) (by omega),bY (x:=b) (by omega) (by omega)];refine bo.put (cs:=two a b) (by rfl) (IB _ _) λaE dN cu=>?_;have ak:η w' aE:=(d.trans aA).then dN λi o=>by omega
  refine bL (bB (by omega)) ?_;refine⟨b,cu.at (by rfl),?_⟩;rw[bY (x:=2*b) (by omega) (by omega)];refine bz (λω=>?_) λω=>?_
  ·have ω:=b7 ω;refine bad (I.trans ak) bV.at.dU vE (own.ex ak) (UZ o ?_);rw[pe];show(decide (2*b<=(r.length:Int))&&_)=false;rw[iy (by omega)];rfl
  have ω:=dd ω;have Kd:2*b<=(r.length:Int):=by omega
  refine⟨b,cu.at (by rfl),?_⟩;rw[bY (x:=2*b) (by omega) (by omega)];refine bL (bB (by omega)) (bL (bB (by omega)) ?_);have Zm:(2*b).toNat=2*b.toNat:=by omega
  rw[Zm,Io];have aaA:a7 w (du (some wE) ck 2 1) (bj r):=by
   have:=from_ NI amU 2
   exact this
  have S3:a7 aE (du (some wE) ck 2 1) (bj (r.take (2*b.toNat))):=by
   have:=a7.take (a7.ex (I.trans ak) aaA) (2*b.toNat)
   unfold bj at this⊢
   rwa[<-vY]at this
  have Eg:(r.take (2*b.toNat)).length=2*b.toNat:=by rw[gQ];omega
  refine κ.use (bt.aja _ _ (ck-2) (r.take (2*b.toNat)) 2 aE S3 Eg (by omega) (by omega) (SY.take _)) ?_;rintro _ bm ⟨ab,ay,c1,rfl,qN,er,aV⟩
  try dsimp only[bX,cC,cD,bk,bH,dY]
  have ml:bt.ID 2 (r.take (2*b.toNat))=bt.jx 2 b.toNat r:=by
   have:=(bt.agJ (k:=2) (by omega) (by omega) 0 (r.take (2*b.toNat))).2
   have bE:((2:Nat):Int)=2:=rfl;rw[bE]at this;rw[this,Eg,aS (by omega)]
   have:2*b.toNat/2=b.toNat:=by omega
   rw[this,avC]
  rw[ml]at er;have J4:ay=b.toNat:=by
   have:=er.1
   unfold bt.v64 at this;rw[jV,bt.Wt]at this;omega
  subst J4;have ir:=ak.trans aV;have OJ:=own.ex ir;have aor:=bV.ex ir;have U7:=aqO.ex ir;have acI:=cu.ex aV;have z6:=I.trans ir;have Nx:θ<bm.heap.size:=(OJ.ge rfl).2;have SU:aF<bm.heap.size:=(acI.ge rfl).2;have aao:δ<bm.heap.size:=(U7.ge rfl).2;have an6:∀x,ab=some x->x.block<bm.heap.size:=λx I=>(er.ge I).2;have aae:(kinds (cp (ht k t i).1)).length=16:=bV.at.En;have aaq:δ≠θ:=by omega
  unfold jf.fG
  refine⟨λcb Cl Is t3 t4 t6 t7 t14 y5 y4 AP t49 t50 hN=>cb=du (some wE) ck 2 1/\Cl=r.length/\Is=ck-2/\δ=t3/\θ=t4/\(i:Int)=t6/\aF=t7/\(i:Int)=t14/\ab=y5/\b.toNat=y4/\((b.toNat:Nat):Int)=t49/\0<=t50/\t50<=b.toNat/\(∀j,j<t50.toNat->p9 k (bt.mH 2 r j)=true)/\Kp bm hN (λx=>x=θ\/bm.heap.size<=x)/\
    ∃p c,μ hN 0 bU 24 (some ⟨θ,0,none⟩) 1 1 (kinds (cp (ht k t i).1)++ps.set i (.slice p t50.toNat c))/\μ hN bm.heap.size eo 1 p t50.toNat c ((((List.range t50.toNat).map (bt.mH 2 r)).map (ke k)).map dO),
   λcb Cl Is t3 t4 t6 t7 t14 y5 y4 AP t49 t50 hN=>(b.toNat-t50).toNat,⟨rfl,rfl,rfl,rfl,rfl,rfl,rfl,rfl,rfl,rfl,rfl,by omega,by omega,λj φ=>by simp at φ,Kp.refl _ _,none,0,?_,μ.nil _ _ _ _⟩,?_⟩
  ·have:ps.set i (.slice none (0:Int).toNat 0)=ps:=by
    apply qb;intro j;rw[List.getElem?_set];split
    ·rename_i h;subst h;rw[aS (by omega),BH i (ew _) o];rfl
    ·rfl
   rw[this];exact OJ
  rintro _ _ _ _ _ _ _ _ _ _ AP _ t50 hN ⟨rfl,rfl,rfl,rfl,rfl,rfl,rfl,rfl,rfl,rfl,rfl,i0,i1,TK,nP,p,c,KL,row⟩;unfold jf.θ;obtain⟨j,rfl⟩:=eH i0;rw[cy]at TK KL row;have w8:η w hN:=z6.then nP λx I=>by have:=z6.size;omega
  have Kt:∀x,x<bm.heap.size->x≠θ->¬(x=θ\/bm.heap.size<=x):=λx h1 ι h=>by omega
  refine bz (λuv=>?_) λuv=>?_
  ·have uv:=b7 uv;have φ:j<b.toNat:=by omega
   have aoi:a7 hN ab (bt.v64 (bt.jx 2 b.toNat r)):=er.cells.aH nP λx I=>Kt _ (an6 x I) (λh=>by have t1:=(er.typed I).1;have t2:=(OJ.typed rfl).1;exact t1.ne t2 (by decide) h)
   obtain⟨ap,rfl,asc⟩:=aoi.many (j:=j) (v:=.int .i64 (bt.mH 2 r j)) (by unfold bt.v64;rw[List.getElem?_map,agI φ];rfl);refine bL (bB i0) (bL (bB uv) ?_)
   try dsimp only[bk]
   rw[cy,ey];refine⟨_,asc,?_⟩;have amX:=akm SY j;have kY:IntKind.i64.wrap ((j:Int)+1)=((j+1:Nat):Int):=by rw[bY (by omega) (by omega)];rfl
   have kk:((j+1:Nat):Int).toNat=j+1:=rfl;have an5:bm.heap.size<=hN.heap.size:=nP.size
   have ace:∀{aa:World},η hN aa->p9 k (bt.mH 2 r j)=true->∀{q:ea},q=ke k (bt.mH 2 r j)->
     jf.a1 (du (some wE) ck 2 1) r.length (ck-2) δ θ (i:Int) aF (ev q) (eE q) (i:Int) (some ap) b.toNat AP ((b.toNat:Nat):Int) (j:Int) aa (χ (QV k t w)) (λath Cl Is ato xH wb w'=>(δ=ato/\θ=xH/\0<=wb/\wb<=8/\ji k t wb.toNat=true/\(ht k t wb.toNat).2.length=Cl/\Cl<=Is/\Cl<=100000/\a7 w ath (bj (ht k t wb.toNat).2)/\η w w'/\μ w' 0 b2 2 (some ⟨δ,0,none⟩) 1 1 (two s k)/\
   ∃ps,μ w' 0 bU 24 (some ⟨θ,0,none⟩) 1 1 (bK (cp (ht k t wb.toNat).1) ps)/\fp w' (cp (ht k t wb.toNat).1) ps/\∀j,wb.toNat<=j->j<8->ps[j]?=some (.slice none 0 0))/\(8-wb).toNat<(8-(i:Int)).toNat) (λcb Cl Is t3 t4 t6 t7 t14 y5 y4 AP t49 t50 hN=>(cb=du (some wE) ck 2 1/\Cl=r.length/\Is=ck-2/\δ=t3/\θ=t4/\(i:Int)=t6/\aF=t7/\(i:Int)=t14/\some ap=y5/\b.toNat=y4/\((b.toNat:Nat):Int)=t49/\0<=t50/\t50<=b.toNat/\(∀j,j<t50.toNat->p9 k (bt.mH 2 r j)=true)/\Kp bm hN (λx=>x=θ\/bm.heap.size<=x)/\
    ∃p c,μ hN 0 bU 24 (some ⟨θ,0,none⟩) 1 1 (kinds (cp (ht k t i).1)++ps.set i (.slice p t50.toNat c))/\μ hN bm.heap.size eo 1 p t50.toNat c ((((List.range t50.toNat).map (bt.mH 2 r)).map (ke k)).map dO))/\(b.toNat-t50).toNat<(b.toNat-(j:Int)).toNat):=by
    intro aa ad anZ q aC;unfold jf.a1;refine ars (q:=q) o aae (by rw[im];exact abc) (KL.ex ad) (by rw[List.getElem?_set,aS rfl,aS (by omega)]) (row.ex ad) (by omega) (fY an5 ad.size) λbT aT dX oG r1 arT=>?_;rw[List.set_set]at r1;rw[kY];refine⟨⟨rfl,rfl,rfl,rfl,rfl,rfl,rfl,rfl,rfl,rfl,rfl,by omega,by omega,?_,(nP.fZ (ad.aH _)).fZ oG,bT,aT,by rw[kk];exact r1,?_⟩,by((try dsimp only);omega)⟩
    ·intro Kq eP;rw[kk]at eP;by_cases he:Kq=j
     ·rw[he];exact anZ
     ·exact TK Kq (by omega)
    ·rw[kk,uP];simp only[q0,xw,List.map_nil];rw[<-aC];exact arT
   refine bz (λvG=>?_) λvG=>?_
   ·have vG:=b7 vG;have vC:hN.cell? (⟨δ,1,none⟩:Addr)=some (.int .i64 k):=(U7.aH nP λx I=>by cases I;exact Kt _ aao aaq).at (by rfl);refine⟨k,vC,?_⟩;rw[bY (x:=bt.mH 2 r j-1) (by omega) (by omega)];refine κ.use (QR (n:=bt.mH 2 r j) ⟨by omega,amX.2⟩ hk hN) ?_;rintro _ cf ⟨e,rfl,he,cm⟩
    try dsimp only[bX,cC,cD,bk,bH,rE]
    refine bz (λvy=>?_) λvy=>?_
    ·have vy:¬e=0:=by simpa using vy
     have nQ:p9 k (bt.mH 2 r j)=false:=by
      cases hp:p9 k (bt.mH 2 r j)with
      |false=>rfl
      |true=>exact absurd (he.2 hp) vy
     refine bad (w8.trans cm) ?_ ((Of _).app (bV.aqE.set _ rfl)) (KL.ex cm) (UZ o ?_)
     ·rw[fe,aae,im,abc]
     ·rw[pe];show(_&&(bt.jx 2 b.toNat r).all (p9 k))=false
      have:(bt.jx 2 b.toNat r).all (p9 k)=false:=by rw[List.all_eq_false];exact⟨_,eZ (agI φ),by rw[nQ];simp⟩
      rw[this,Bool.and_false]
    ·have vy:e=0:=by simpa using vy
     exact ace cm (he.1 vy) rfl
   ·have vG:=dd vG;have aL:bt.mH 2 r j=0:=by omega
    have aC:(none:ea)=ke k (bt.mH 2 r j):=by rw[aL];rfl
    exact ace (η.refl _) (by rw[aL];rfl) aC
  ·have uv:=dd uv;have φ:j=b.toNat:=by omega
   subst φ;unfold jf.bP;have Dt:=η.drew hN;have UU:μ hN.drew aF jl 2 (some ⟨aF,0,none⟩) 1 1 (two a b):=(acI.aH nP λx I=>by cases I;exact Kt _ SU (show aF≠θ by omega)).ex Dt;refine⟨(two a b).toArray,rfl,UU.cells,b,UU.at (by rfl),?_⟩;rw[bY (x:=2*b) (by omega) (by omega)];refine bL (bB (by omega)) (bL (bB (by omega)) (bL (bB aD) (bL (bB bM) (bL (by rfl) ?_))));rw[cy,Zm];refine putAt (KL.ex Dt) (i*2) (ys:=two a b) (by show i*2+2<=_;omega) (IB _ _) λeA rT s5=>?_;have ca:aF≠θ:=by omega
   have aqm:=UU.aH rT (λy ah=>by cases ah;exact ca);refine⟨aqm.at (by rfl),?_⟩;rw[V5 bV.len o a b ((bt.jx 2 b.toNat r).map (ke k))]at s5;rw[Gm o];have kk:((i+1:Nat):Int).toNat=i+1:=rfl;have J1:min b.toNat (r.length/2)=b.toNat:=by omega
   have yy:xA k (a::b::r)=((a,b,(bt.jx 2 b.toNat r).map (ke k)),r.drop (2*b.toNat)):=by show((a,b,(bt.jx 2 (min b.toNat (r.length/2)) r).map (ke k)),r.drop (2*min b.toNat (r.length/2)))=_;rw[J1]
   have aox:ht k t (i+1)=((ht k t i).1++[(a,b,(bt.jx 2 b.toNat r).map (ke k))],r.drop (2*b.toNat)):=by show((ht k t i).1++[(xA k (ht k t i).2).1],(xA k (ht k t i).2).2)=_;rw[pe,yy]
   have an1:Aq k (a::b::r)=true:=by show(decide (2*b<=(r.length:Int))&&(bt.jx 2 b.toNat r).all (p9 k))=true;rw[bB Kd,O7,Cb];intro n ax;obtain⟨Ud,anA,rfl⟩:=gO.1 ax;exact TK Ud (ns.1 anA)
   have an3:ji k t (i+1)=true:=by show(ji k t i&&Aq k (ht k t i).2)=true;rw[TD,pe,an1];rfl
   have JT:lz (a,b,(bt.jx 2 b.toNat r).map (ke k)):=⟨ark SY,by show((bt.jx 2 b.toNat r).map (ke k)).length<=1000;rw[jV,bt.Wt];omega,aQ,wV⟩;rw[kk,aox];dsimp only;have tb:∀x,x=θ->Typed hN.drew bU x:=λx I=>by rw[I];exact((KL.ex Dt).typed rfl).1
   refine⟨⟨rfl,rfl,by omega,by omega,an3,?_,?_,by omega,?_,(w8.trans Dt).then rT λx I=>by omega,?_,ps.set i (.slice p b.toNat c),?_,?_,?_⟩,by((try dsimp only);omega)⟩
   ·rw[ky]
   ·omega
   ·exact from_ aaA (by omega) (2*b.toNat)
   ·exact(((U7.aH nP λx I=>by cases I;exact Kt _ aao aaq).ex Dt).cB rT bU tb (by decide))
   ·unfold bK;rw[<-ZF SN o];exact s5
   ·rw[<-ZF SN o];have aoq:fp eA (cp (ht k t i).1) ps:=((aor.aH nP λx aP I=>Kt _ I λh=>aP.ne (OJ.typed rfl).1 (by decide) h).ex Dt).cB rT bU tb (by decide);refine aoq.set o JT (by show((bt.jx 2 b.toNat r).map (ke k)).length=_;rw[jV,bt.Wt]) ?_;exact((row.lower (en _)).ex Dt).cB rT bU tb (by decide)
   ·intro Ud h1 ι;rw[List.getElem?_set,aM (by omega)];exact BH Ud (by omega) ι
 ·have bM:=dd bM;obtain rfl:i=8:=by omega
  unfold jf.cd;have vB:cp (ht k t 8).1=(ht k t 8).1:=alE SN;rw[vB]at own bV;have fV:=bV.at.dU;refine⟨(bK (ht k t 8).1 ps).toArray,by rw[fh];exact fV,own.cells,bL (bB (by rw[fh];exact fV)) ?_⟩;have tb:∀x,x=θ->Typed w' bU x:=λx I=>by rw[I];exact(own.typed rfl).1
  refine own.put fV bV.at.one λeR xa uG=>?_;refine⟨(bK (ht k t 8).1 ps).toArray,by rw[fh];exact fV,uG.cells,χ.mk ⟨I.then xa λi o=>by omega,?_⟩⟩;have dR:xp k t=decide (fj.length=0):=by unfold xp;rw[TD,pe,O7]
  by_cases aD:fj.length=0
  ·left;rw[dR,bB aD];refine⟨rfl,ps,?_,bV.cB xa bU tb (by decide)⟩;rw[aD];rfl
  ·right;rw[dR,iy aD];refine⟨rfl,(bK (ht k t 8).1 ps).toArray,by rw[fh];exact fV,bV.at.one,?_⟩
   have:(((fj.length:Nat):Int)==0)=false:=by simpa using aD
   rw[this]
end Go.Proofs.YtcpdfhkhaekekaaGreat.G.cL
namespace Go.Proofs.YtcpdfhkhaekekaaGreat.G.cL
open Go.bO Go.RowKit
structure qx(w:World)(P:J)(n c:Nat)(pgs:List an):Prop where
 len:pgs.length=n
 room:n<=c
 at_:∃ps:aU,a7 w P ps/\ps.length=n/\∀(i:Nat)(bl:an),pgs[i]?=some bl->∃(q:J)(m d:Nat),ps[i]?=some (.slice q m d)/\bl.length=m/\m<=d/\a7 w q (bj bl)
theorem qx.ex{w w':World}{P:J}{n c:Nat}{pgs:List an}(h:qx w P n c pgs)(x:η w w'):qx w' P n c pgs:=by obtain⟨h1,ι,ps,aG,cq,db⟩:=h;refine⟨h1,ι,ps,aG.ex x,cq,λi bl o=>?_⟩;obtain⟨q,m,d,g1,g2,g3,g4⟩:=db i bl o;exact⟨q,m,d,g1,g2,g3,g4.ex x⟩
theorem qx.get{w:World}{P:J}{n c:Nat}{pgs:List an}(h:qx w P n c pgs){i:Nat}(o:i<n):∃a bl q d,P=some a/\pgs[i]?=some bl/\w.cell? (a.add i)=some (.slice q bl.length d)/\bl.length<=d/\a7 w q (bj bl):=by obtain⟨h1,ι,ps,aG,cq,db⟩:=h;have bJ:=List.getElem?_eq_getElem (l:=pgs) (i:=i) (by omega);obtain⟨q,m,d,g1,rfl,g3,g4⟩:=db i _ bJ;obtain⟨a,aQ,υ⟩:=aG.many g1;exact⟨a,_,q,d,aQ,bJ,υ,g3,g4⟩
theorem qx.rest{w:World}{a:Addr}{n c:Nat}{pgs:List an}(h:qx w (some a) n c pgs)(h1:1<=n):qx w (du (some a) c 1 1) (n-1) (c-1) pgs.tail:=by
 obtain⟨uq,ι,ps,aG,cq,db⟩:=h;refine⟨by rw[E8];omega,by omega,ps.tail,?_,by rw[E8];omega,λi bl o=>?_⟩
 ·have:=aG.slice c 1 ps.length (by omega)
  rw[hc (by rw[ky];omega),List.drop_one]at this;exact this
 ·rw[List.getElem?_tail]at o⊢;exact db (i+1) bl o
theorem jy.OL{w:World}{B B':Nat}{p:J}{n c:Nat}{ps:aU}{pgs:List an}(ε:μ w B gI 1 p n c ps)(h:jy w B' ps pgs):qx w p n c pgs:=by have aj:=ε.1;refine⟨by have:=h.len;omega,ε.2.1,ps,ε.cells,by omega,λi bl o=>?_⟩;obtain⟨q,d,g1,g2⟩:=h.row i bl o;exact⟨q,64,d,g1,yM g2,g2.2.1,g2.cells⟩
theorem take_eq_all{α:Type}{xs ys:List α}{n:Nat}(h1:xs.length=n)(ι:ys.length=n)(h:xs.take n=ys.take n):xs=ys:=by
 rwa[hc (by omega),hc (by omega)]at h
theorem ah0(p q:J)(n m c d:Nat)(xs ys:an)(w:World)(π:a7 w p (bj xs))(af:a7 w q (bj ys))(ax:xs.length=n)(hm:ys.length=m)(aj:n<=1000000):tr.C p n c q m d w (χ λv w'=>v=.bool (decide (xs=ys))/\η w w'):=by
 apply tr.ok;unfold tr.main;refine bz (λh=>?_) λh=>?_
 ·have h:¬(n:Int)=m:=by simpa using h
  have h:¬n=m:=by omega
  exact χ.mk ⟨by rw[iy λe=>h (by rw[<-ax,<-hm,e])],η.refl w⟩
 have h:(n:Int)=m:=by simpa using h
 obtain rfl:n=m:=by omega
 unfold tr.bd;refine⟨λcb b8 ck lW lV py t12 t13 w'=>p=cb/\n=b8/\c=ck/\q=lW/\n=lV/\d=py/\(n:Int)=t12/\0<=t13/\t13<=n/\xs.take t13.toNat=ys.take t13.toNat/\η w w',λcb b8 ck lW lV py t12 t13 w'=>(n-t13).toNat,⟨rfl,rfl,rfl,rfl,rfl,rfl,rfl,by omega,by omega,rfl,η.refl w⟩,?_⟩;rintro _ _ _ _ _ _ _ t13 w' ⟨rfl,rfl,rfl,rfl,rfl,rfl,rfl,aD,h1,he,I⟩;unfold tr.δ;obtain⟨j,rfl⟩:=eH aD;rw[cy]at he;refine bz (λh=>?_) λh=>?_
 ·have h:=b7 h;have Ha:j<xs.length:=by omega
  have sW:j<ys.length:=by omega
  obtain⟨a,rfl,j3⟩:=Hz (π.ex I) Ha;obtain⟨b,rfl,kg⟩:=Hz (af.ex I) sW;refine bL (bB aD) (bL (bB h) ?_)
  try dsimp only[bk]
  rw[cy,ey];refine⟨xs[j],j3,bL (bB aD) (bL (bB h) ?_)⟩
  skip
  refine⟨ys[j],kg,λk=>?_⟩;refine bz (λca=>?_) λca=>?_
  ·have ca:¬xs[j]=ys[j]:=by simpa using ca
   exact χ.mk ⟨by rw[iy λe=>ca (by subst e;rfl)],I.trans (η.drewN _ _)⟩
  ·have ca:xs[j]=ys[j]:=by simpa using ca
   rw[bY (by omega) (by omega)];refine⟨⟨rfl,rfl,rfl,rfl,rfl,rfl,rfl,by omega,by omega,?_,I.trans (η.drewN _ _)⟩,by((try dsimp only);omega)⟩
   have:((j:Int)+1).toNat=j+1:=by omega
   rw[this,k6 Ha,k6 sW,he,ca]
 ·have h:=dd h
  have:j=n:=by omega
  subst this;exact χ.mk ⟨by rw[bB (take_eq_all ax hm he)],I⟩
theorem ah1{w:World}{p q:J}{n m c d:Nat}{MB bs:List an}(aQ:qx w p n c MB)(ψ:qx w q m d bs)(ax:n<=1000000)(aB:∀bl∈MB,bl.length<=1000000):
  tq.C p n c q m d w (χ λv w'=>v=.bool (decide (MB=bs))/\η w w'):=by
 apply tq.ok;unfold tq.main;have NP:=aQ.len;have NQ:=ψ.len;refine bz (λh=>?_) λh=>?_
 ·have h:¬(n:Int)=m:=by simpa using h
  have h:¬n=m:=by omega
  exact χ.mk ⟨by rw[iy λe=>h (by rw[<-NP,<-NQ,e])],η.refl w⟩
 have h:(n:Int)=m:=by simpa using h
 obtain rfl:n=m:=by omega
 unfold tq.bd;refine⟨λlW lV py sj si uX t16 t17 w'=>q=lW/\n=lV/\d=py/\p=sj/\n=si/\c=uX/\(n:Int)=t16/\0<=t17/\t17<=n/\MB.take t17.toNat=bs.take t17.toNat/\η w w',λlW lV py sj si uX t16 t17 w'=>(n-t17).toNat,⟨rfl,rfl,rfl,rfl,rfl,rfl,rfl,by omega,by omega,rfl,η.refl w⟩,?_⟩;rintro _ _ _ _ _ _ _ t17 w' ⟨rfl,rfl,rfl,rfl,rfl,rfl,rfl,aD,h1,he,I⟩;unfold tq.δ;obtain⟨j,rfl⟩:=eH aD;rw[cy]at he;refine bz (λh=>?_) λh=>?_
 ·have bM:=b7 h;have φ:j<n:=by omega
  obtain⟨a,Ve,adD,Y4,rfl,Sq,j3,Uq,gA⟩:=(aQ.ex I).get φ;obtain⟨b,KR,adE,Y5,rfl,Ss,kg,lb,iR⟩:=(ψ.ex I).get φ;refine bL (bB aD) (bL (bB bM) ?_)
  try dsimp only[bk]
  rw[cy,ey];refine⟨adD,_,Y4,j3,bL (bB aD) (bL (bB bM) ?_)⟩
  skip
  refine⟨adE,_,Y5,kg,?_⟩;refine κ.use (ah0 adD adE _ _ Y4 Y5 Ve KR w' gA iR rfl rfl (aB _ (eZ Sq))) ?_;rintro _ τ ⟨rfl,σ⟩
  try dsimp only[dE]
  refine bz (λca=>?_) λca=>?_
  ·have ca:¬Ve=KR:=by simpa using ca
   refine χ.mk ⟨?_,I.trans σ⟩;rw[iy];intro e;subst e;rw[Sq]at Ss;exact ca (AE Ss)
  ·have ca:Ve=KR:=by simpa using ca
   rw[bY (by omega) (by omega)];refine⟨⟨rfl,rfl,rfl,rfl,rfl,rfl,rfl,by omega,by omega,?_,I.trans σ⟩,by((try dsimp only);omega)⟩
   have:((j:Int)+1).toNat=j+1:=by omega
   rw[this,O8,O8,he,Sq,Ss,ca]
 ·have h:=dd h
  have:j=n:=by omega
  subst this;exact χ.mk ⟨by rw[bB (take_eq_all NP NQ he)],I⟩
def yo(pgs:List an):an:=pgs.headD []
def nt(pgs:List an):Int:=c9 (yo pgs) 8 1
def kM(pgs:List an):Int:=c9 (yo pgs) 9 1
def td(pgs:List an):Int:=c9 (yo pgs) 4 4
def said(bl:an):Int:=((bl.take 60)[5]?).getD 0
def partOf(bl:an):an:=((bl.take 60).drop 6).take (said bl).toNat
def BW(bl:an):Bool:=decide (nq bl=0)&&decide (said bl<=52)
def Cq(pgs:List an):an:=pgs.tail.flatMap partOf
def n4(pgs:List an):bR:=(ht (kM pgs) (Cq pgs) 8).1
structure Good(pgs:List an):Prop where
 ay:1<=pgs.length
 n12:pgs.length<=12
 wY:mh (yo pgs)=true
 fs:c9 (yo pgs) 10 1=(pgs.length:Int)-1
 leaves:∀bl∈pgs.tail,BW bl=true
 all:xp (kM pgs) (Cq pgs)=true
 fit:lG (nt pgs) (kM pgs) (n4 pgs)
 same:ix (nt pgs) (kM pgs) (td pgs) (eQ (kM pgs) (n4 pgs))=pgs
theorem aaE{bl:an}(h:mh bl=true):uI (c9 bl 4 4)/\By bl:=by unfold mh at h;simp only[kx,po]at h;exact⟨⟨h.1.1.2,h.1.2⟩,h.1.1.1⟩
theorem asr{bl:an}(ψ:Bytes bl):0<=said bl/\said bl<256:=by
 unfold said;cases h:(bl.take 60)[5]?with
 |none=>exact⟨by decide,by decide⟩
 |some x=>exact ψ x (vW (eZ h))
theorem ZI{bl:an}(ψ:Bytes bl)(a:Int):0<=c9 bl a 1/\c9 bl a 1<256:=by
 unfold c9 bt.yi;split
 ·split
  ·have h:=bt.Ow (((bl.take 60).drop a.toNat).take (1:Int).toNat) (((ψ.take _).drop _).take _);have aj:(((bl.take 60).drop a.toNat).take (1:Int).toNat).length<=1:=List.length_take_le _ _
   have:=bt.Vo aj
   omega
  ·omega
 ·omega
def ap5:Value:=.tuple #[.agg hn.toArray,.agg (two 0 0).toArray,.int .i64 0,.int .i64 11]
def W9(pgs:List an)(w:World)(v:Value)(w':World):Prop:=
 η w w'/\((Good pgs/\∃ps,v=.tuple #[.agg (bK (n4 pgs) ps).toArray,.agg (two (nt pgs) (kM pgs)).toArray,.int .i64 (td pgs),.int .i64 0]/\fp w' (n4 pgs) ps)\/(¬Good pgs/\v=ap5))
theorem ajB{pgs:List an}{w W:World}{δ θ:Nat}(I:η w W)(h1:w.heap.size<=δ)(ι:w.heap.size<=θ)(ρ:μ W 0 bU 24 (some ⟨δ,0,none⟩) 1 1 hn)(ai:μ W 0 b2 2 (some ⟨θ,0,none⟩) 1 1 (two 0 0))(ax:¬Good pgs):
  ∃(aK:ag),aK.size=24/\aw W (⟨δ,0,none⟩:Addr) aK.toList/\
  (∃(bF:ag),bF.size=2/\aw W (⟨θ,0,none⟩:Addr) bF.toList/\
   (ο (decide (aK.size=24)) (
    hr W (⟨δ,0,none⟩:Addr) aK.toList/\∀aa,aa=W.setCells (⟨δ,0,none⟩:Addr).block (⟨δ,0,none⟩:Addr).off aK.toList->
    (ο (decide (bF.size=2)) (
     aw aa (⟨θ,0,none⟩:Addr) bF.toList/\
     (ο (decide (bF.size=2)) (
      hr aa (⟨θ,0,none⟩:Addr) bF.toList/\∀az,az=aa.setCells (⟨θ,0,none⟩:Addr).block (⟨θ,0,none⟩:Addr).off bF.toList->
      (∃(bZ:ag),bZ.size=24/\aw az (⟨δ,0,none⟩:Addr) bZ.toList/\
       (∃(bW:ag),bW.size=2/\aw az (⟨θ,0,none⟩:Addr) bW.toList/\
        (χ (W9 pgs w) (.returned (Value.tuple #[(Value.agg bZ),(Value.agg bW),(Value.int .i64 0),(Value.int .i64 11)])) az)))))))))):=by
 refine⟨hn.toArray,rfl,ρ.cells,(two 0 0).toArray,rfl,ai.cells,bL (by rfl) ?_⟩;have t1:∀i,i=δ->Typed W bU i:=λi o=>by rw[o];exact(ρ.typed rfl).1
 refine ρ.put (cs:=hn) (by rfl) awj λaa cd bo=>?_;have qS:=ai.cB cd bU t1 (by decide);refine bL (by rfl) ⟨qS.cells,bL (by rfl) ?_⟩;have t2:∀i,i=θ->Typed aa b2 i:=λi o=>by rw[o];exact(qS.typed rfl).1
 refine qS.put (cs:=two 0 0) (by rfl) mW λaz cz cx=>?_;refine⟨hn.toArray,rfl,(bo.cB cz b2 t2 (by decide)).cells,(two 0 0).toArray,rfl,cx.cells,χ.mk ⟨(I.then cd λi o=>by omega).then cz λi o=>by omega,.inr ⟨ax,rfl⟩⟩⟩
theorem JQ(s k q:Int)(t:an):(ix s k q t).length=1+fs t.length:=by unfold ix;rw[k5,apG,Cc];omega
theorem Ur{s k q:Int}{t:an}:∀bl∈ix s k q t,bl.length=64:=λbl h=>by
 unfold ix at h;rcases fA.1 h with rfl|h
 ·exact xE (by rw[G7];omega)
 ·unfold rX at h;obtain⟨i,o,rfl⟩:=O9.1 h;refine xE ?_;rw[Og,MN];unfold dU;omega
end Go.Proofs.YtcpdfhkhaekekaaGreat.G.cL
namespace Go.Proofs.YtcpdfhkhaekekaaGreat.G.cL
open Go.bO Go.RowKit
theorem Gp(γ:World):γ.alloc (.cells #[.int .i64 0,.int .i64 0,.int .i64 0,.int .i64 0,.int .i64 0,.int .i64 0,.int .i64 0,.int .i64 0,.int .i64 0,.int .i64 0,.int .i64 0,.int .i64 0,.int .i64 0,.int .i64 0,.int .i64 0,.int .i64 0,.slice none 0 0,.slice none 0 0,.slice none 0 0,.slice none 0 0,.slice none 0 0,.slice none 0 0,.slice none 0 0,.slice none 0 0] bU)=γ.alloc (.cells hn.toArray bU):=rfl
theorem Gg(γ:World)(a b:Int):γ.alloc (.cells #[.int .i64 a,.int .i64 b] b2)=γ.alloc (.cells (two a b).toArray b2):=rfl
theorem aqX{w:World}{B:Nat}{p:J}{c:Nat}{bl:an}(ε:μ w B dk 1 p 60 c (bj (bl.take 60))):a7 w (du p c 6 1) (bj (partOf bl)):=by
 have aj:=yM ε
 have:=ε.cells.slice c 6 (said bl).toNat (by rw[sn,aj];exact ε.2.1)
 unfold partOf bj;rw[vY,xx];exact this
theorem aqY{bl:an}(h:(bl.take 60).length=60)(ω:0<=said bl/\said bl<=52):(partOf bl).length=(said bl).toNat:=by unfold partOf;rw[gQ,ky,h];omega
theorem asq{bl:an}(h:(bl.take 60).length=60):(bj (bl.take 60))[5]?=some (.int .u8 (said bl)):=by unfold said bj;rw[List.getElem?_map,List.getElem?_eq_getElem (show 5<(bl.take 60).length by omega)];rfl
theorem aeN{pgs:List an}{j:Nat}{bl:an}(h:pgs.tail[j]?=some bl):(pgs.tail.take (j+1)).flatMap partOf=(pgs.tail.take j).flatMap partOf++partOf bl:=by obtain⟨φ,rfl⟩:=List.getElem?_eq_some_iff.1 h;rw[k6 φ,vZ];simp
theorem Xa{w:World}{P:J}{n c:Nat}{pgs:List an}(hp:qx w P n c pgs)(ψ:∀bl∈pgs,Bytes bl)(ax:n<=9223372036854775807):oJ.C P n c w (χ (W9 pgs w)):=by
 have hlen:=hp.len;apply oJ.ok;unfold oJ.main;rintro δ γ rfl rfl θ τ rfl rfl;rw[Gp,Gg];have ρ:=(μ.new (w:=w) hn bU).lower (en _);have ζ:=η.alloc w (.cells hn.toArray bU);have ej:w.heap.size<=w.heap.size:=ew _;generalize SR:w.heap.size=δ at ρ ej⊢;generalize w.alloc (.cells hn.toArray bU)=γ at ρ ζ⊢;have ai:=(μ.new (w:=γ) (two 0 0) b2).lower (en _);have σ:=η.alloc γ (.cells (two 0 0).toArray b2);have eu:w.heap.size<=γ.heap.size:=ζ.size;have DM:δ<γ.heap.size:=(ρ.ge rfl).2;generalize γ.heap.size=θ at ai eu DM⊢;generalize γ.alloc (.cells (two 0 0).toArray b2)=τ at ai σ⊢;have ρ:=ρ.ex σ;have jU:=ζ.trans σ;clear ζ σ;have aaj:w.heap.size<=δ:=by omega
 have bad:∀{W:World},η τ W->¬Good pgs->_:=λ{W}I ax=>ajB (pgs:=pgs) (jU.trans I) aaj eu (ρ.ex I) (ai.ex I) ax;refine bz (λπ=>?_) λπ=>?_
 ·have π:(n:Int)=0:=by simpa using π
  exact bad (η.drew _) (λg=>by have:=g.ay;omega)
 have π:¬(n:Int)=0:=by simpa using π
 refine bz (λjR=>?_) λjR=>?_
 ·have jR:=b7 jR;exact bad (η.drew _) (λg=>by have:=g.n12;omega)
 have jR:=dd jR;refine bL (bB (by omega)) ?_;have oB:=hp.ex jU;obtain⟨a,nr,dP,d0,rfl,NL,n3,amY,amW⟩:=oB.get (i:=0) (by omega);have hH:yo pgs=nr:=by unfold yo;rw[List.headD_eq_head?_getD,List.head?_eq_getElem?,NL];rfl
 have aav:=ψ nr (eZ NL)
 try dsimp only[bk]
 rw[show a.add 0=a from Addr.add_zero' a]at n3;refine⟨dP,nr.length,d0,n3,?_⟩;refine κ.use (Ib dP nr.length d0 nr τ amW rfl amY aav) ?_;rintro _ bm ⟨rfl,aV⟩
 try dsimp only[bX,cC,cD,bk,dE,hx,ie]
 rintro ae cf rfl rfl;have cx:=μ.new (w:=bm) (bt.v64 [0,0,0,0,0]) nx;have cm:=η.alloc bm (.cells (bt.v64 [0,0,0,0,0]).toArray nx);have iZ:bm.alloc (.cells #[.int .i64 0,.int .i64 0,.int .i64 0,.int .i64 0,.int .i64 0] nx)=bm.alloc (.cells (bt.v64 [0,0,0,0,0]).toArray nx):=rfl;rw[iZ];have mg:τ.heap.size<=bm.heap.size:=aV.size;generalize bm.heap.size=ae at cx mg⊢;generalize bm.alloc (.cells (bt.v64 [0,0,0,0,0]).toArray nx)=cf at cx cm⊢;have aaV:(bt.v64 (pX nr)).length=5:=by unfold bt.v64;rw[jV];exact Tb nr
 refine bL (bB (by rw[fh];exact aaV)) ?_;refine cx.put (cs:=bt.v64 (pX nr)) aaV (LV _) λc6 BQ p4=>?_;have eK:η τ c6:=(aV.trans cm).then BQ λi o=>by omega
 cases dt:mh nr with
 |false=>
  rw[cond_pos (by rfl)];exact bad (eK.trans (η.drew _)) (λg=>by have:=g.wY;rw[hH,dt]at this;cases this)
 |true=>
 obtain⟨NZ,o7⟩:=aaE dt;have Jp:pX nr=[c9 nr 4 4,c9 nr 8 1,c9 nr 9 1,c9 nr 10 1,c9 nr 11 2]:=by unfold pX;rw[aS o7]
 rw[Jp]at p4;rw[cond_neg (by rfl)];refine⟨c9 nr 10 1,p4.at (by rfl),?_⟩;rw[bY (x:=(n:Int)-1) (by omega) (by omega)];refine bz (λnN=>?_) λnN=>?_
 ·have nN:¬c9 nr 10 1=(n:Int)-1:=by simpa using nN
  exact bad (eK.trans (η.drew _)) (λg=>by have:=g.fs;rw[hH,hlen]at this;exact nN this)
 have nN:c9 nr 10 1=(n:Int)-1:=by simpa using nN
 refine bL (bB (by omega)) ?_;have aa9:=oB.ex eK;have aoh:=aa9.rest (by omega);have abx:=jU.trans eK;have pW:∀bl∈pgs.tail,Bytes bl:=λbl h=>ψ bl (VB h);have Eg:pgs.tail.length=n-1:=by rw[E8,hlen]
 have axe:w.heap.size<=c6.heap.size:=abx.size;unfold oJ.bd;refine⟨λcb b8 ck t2 t3 t6 jk hX iV LL LK PO t47 t48 w'=>cb=some a/\n=b8/\c=ck/\δ=t2/\θ=t3/\ae=t6/\du (some a) c 1 1=LL/\n-1=LK/\((n-1:Nat):Int)=t47/\0<=t48/\t48<=((n-1:Nat):Int)/\η c6 w'/\(∀j bl,j<t48.toNat->pgs.tail[j]?=some bl->BW bl=true)/\((pgs.tail.take t48.toNat).flatMap partOf).length=hX/\hX<=t48.toNat*52/\μ w' c6.heap.size dk 1 jk hX iV (bj ((pgs.tail.take t48.toNat).flatMap partOf)),
  λcb b8 ck t2 t3 t6 jk hX iV LL LK PO t47 t48 w'=>((n-1:Nat)-t48).toNat,⟨rfl,rfl,rfl,rfl,rfl,rfl,rfl,rfl,rfl,by omega,by omega,η.refl _,λj bl φ=>by simp at φ,rfl,en _,μ.nil _ _ _ _⟩,?_⟩
 rintro _ _ _ _ _ _ jk hX iV _ _ PO _ t48 w' ⟨rfl,rfl,rfl,rfl,rfl,rfl,rfl,rfl,rfl,i0,i1,I,Hf,kk,aoA,e6⟩;unfold oJ.δ;obtain⟨j,rfl⟩:=eH i0;rw[cy]at Hf kk aoA e6;have Jd:∀{W:World},η w' W->¬Good pgs->_:=λ{W}lR ax=>bad (eK.trans (I.trans lR)) ax;refine bz (λuv=>?_) λuv=>?_
 ·have uv:=b7 uv;have φ:j<n-1:=by omega
  refine bL (bB i0) (bL (bB uv) ?_);obtain⟨a2,bl,q,d,ak4,bJ,fM,af,DW⟩:=(aoh.ex I).get φ;rw[ak4]
  try dsimp only[bk]
  rw[cy,ey];refine⟨q,bl.length,d,fM,?_⟩;have js:=eZ bJ;have aaw:=pW bl js;refine κ.use (I0 q bl.length d bl w' DW rfl af aaw) ?_;rintro _ eA ⟨oQ,m,d',rfl,hm,s7,l3⟩
  try dsimp only[bX,cC,cD,bk,bH,dY]
  have acn:BW bl=false->¬Good pgs:=λh g=>by have:=g.leaves bl js;rw[h]at this;cases this
  refine bz (λaB=>?_) λaB=>?_
  ·have aB:¬nq bl=0:=by simpa using aB
   exact Jd (l3.trans (η.drew _)) (acn (by unfold BW;rw[iy aB];rfl))
  have aB:nq bl=0:=by simpa using aB
  obtain⟨pU,dW⟩:=OG aB;rw[dW]at s7;have abr:(bl.take 60).length=60:=by rw[gQ,pU];rfl
  have anK:m=60:=by have:=yM s7;omega
  subst anK;have TQ:=asr aaw;obtain⟨a3,rfl,iU⟩:=s7.cells.many (asq abr);refine bL (by decide) ?_
  try dsimp only[bk]
  refine⟨said bl,iU,?_⟩;refine bz (λJB=>?_) λJB=>?_
  ·have JB:=b7 JB;exact Jd (l3.trans (η.drew _)) (acn (by unfold BW;rw[iy (show¬said bl<=52 by omega),Bool.and_false]))
  have JB:=dd JB;refine bL (by decide) ⟨said bl,iU,?_⟩;have zM:IntKind.u8.wrap (6+said bl)=6+said bl:=by rw[wi];omega
  rw[zM];have jS:=s7.2.1;refine bL (bB (by omega)) (bL (bB (by omega)) (bL (bB (by omega)) ?_));have pR:(6+said bl).toNat-6=(said bl).toNat:=by omega
  rw[pR];have uy:=aqY abr ⟨TQ.1,by omega⟩;refine lp (B:=c6.heap.size) (e6.ex l3) (I.trans l3).size (bj (partOf bl)) (aqX s7) (by rw[sn,uy,ey]) (Ct _) rfl (by omega) (by omega) ?_;intro eg hs fv kn BR;rw[IE,<-aeN bJ]at kn;have kY:IntKind.i64.wrap ((j:Int)+1)=((j+1:Nat):Int):=by rw[bY (by omega) (by omega)];rfl
  have N2:((j+1:Nat):Int).toNat=j+1:=rfl;rw[kY];refine⟨⟨rfl,rfl,rfl,rfl,rfl,rfl,rfl,rfl,rfl,by omega,by omega,(I.trans l3).then BR λi⟨y,e,o⟩=>by have:=(e6.ge e).1;omega,?_,?_,?_,by rw[N2];exact kn⟩,by((try dsimp only);omega)⟩
  ·intro Kq ET eP oy;rw[N2]at eP;by_cases he:Kq=j
   ·subst he;rw[bJ]at oy;cases oy;unfold BW;rw[bB aB,bB (show said bl<=52 by omega)];rfl
   ·exact Hf Kq ET (by omega) oy
  ·rw[N2,aeN bJ,fe,kk,uy]
  ·rw[N2];omega
 ·have uv:=dd uv;obtain rfl:j=n-1:=by omega
  have ale:(pgs.tail.take (n-1)).flatMap partOf=Cq pgs:=by unfold Cq;rw[hc (by omega)]
  rw[ale]at kk e6;have Hf:∀bl∈pgs.tail,BW bl=true:=λbl h=>by obtain⟨j,φ⟩:=List.getElem?_of_mem h;exact Hf j bl (by have:=(List.getElem?_eq_some_iff.1 φ).1;omega) φ
  unfold oJ.a1;have KD:=p4.ex I;have ρ:=ρ.ex (eK.trans I);have ai:=ai.ex (eK.trans I);have Bq:kM pgs=c9 nr 9 1:=by unfold kM;rw[hH]
  have es:nt pgs=c9 nr 8 1:=by unfold nt;rw[hH]
  have eq:td pgs=c9 nr 4 4:=by unfold td;rw[hH]
  have aaU:=ZI aav 9;rw[<-Bq,<-es,<-eq]at KD;rw[<-Bq]at aaU;refine⟨nt pgs,KD.at (by rfl),kM pgs,KD.at (by rfl),?_⟩;rintro c8 eJ rfl rfl;have cu:=μ.new (w:=w') (two 0 0) b2;have nA:=η.alloc w' (.cells (two 0 0).toArray b2);rw[Gg];have lv:c6.heap.size<=w'.heap.size:=I.size;have alZ:θ<w'.heap.size:=(ai.ge rfl).2;have alX:δ<w'.heap.size:=(ρ.ge rfl).2;generalize awY:w'.heap.size=c8 at cu lv alZ alX⊢;generalize w'.alloc (.cells (two 0 0).toArray b2)=eJ at cu nA⊢;refine cu.put (cs:=two (nt pgs) (kM pgs)) (by rfl) mW λhZ Ad vL=>?_;have Cw:η w' hZ:=nA.then Ad λi o=>by omega
  refine⟨(two (nt pgs) (kM pgs)).toArray,rfl,vL.cells,?_⟩;have amS:Bytes (Cq pgs):=λx I=>by obtain⟨bl,ly,I⟩:=oU.1 I;exact(((pW bl ly).take _).drop _).take _ x I
  refine κ.use (as5 jk hX iV (Cq pgs) (nt pgs) (kM pgs) hZ (e6.ex Cw).cells kk e6.2.1 (by omega) amS aaU) ?_;rintro _ fw ⟨nB,Ec⟩;have axG:∀{fw:World},η hZ fw->hZ.heap.size<=fw.heap.size:=λx=>x.size;have awJ:c8<hZ.heap.size:=(vL.ge rfl).2;rcases Ec with⟨dR,ps,rfl,bV⟩|⟨dR,cs,jq,vE,rfl⟩
  ·try dsimp only[bX,cC,cD,bk,dE,hx,ie]
   rintro iv gi rfl rfl;rw[Gp];have er:=μ.new (w:=fw) hn bU;have qu:=η.alloc fw (.cells hn.toArray bU);have Bz:=nB.size;generalize amN:fw.heap.size=iv at er Bz⊢;generalize fw.alloc (.cells hn.toArray bU)=gi at er qu⊢;have bV:fp fw (n4 pgs) ps:=bV;have fV:=bV.at.dU;refine bL (bB (by rw[fh];exact fV)) ?_;refine er.put (cs:=bK (n4 pgs) ps) fV bV.at.one λh0 Ue r2=>?_;have rf:η fw h0:=qu.then Ue λi o=>by omega
   rw[cond_neg (by rfl)];have WS:=Cw.trans (nB.trans rf);have r2:μ h0 iv bU 24 (some ⟨iv,0,none⟩) 1 1 (bK (n4 pgs) ps):=r2;refine⟨(bK (n4 pgs) ps).toArray,by rw[fh];exact fV,r2.cells,(two (nt pgs) (kM pgs)).toArray,rfl,(vL.ex (nB.trans rf)).cells,td pgs,(KD.ex WS).at (by rfl),?_⟩;have abq:fp h0 (n4 pgs) ps:=bV.ex rf;refine κ.use (Xb abq.at (nt pgs) (kM pgs) (td pgs)) ?_;rintro _ j6 ⟨xT,Ec⟩;rcases Ec with⟨aof,j9,fH,rY,iC,axX,rfl,B2,ly⟩|⟨nQ,e,he,rfl⟩
   ·try dsimp only[bX,cC,cD,bk,bH,dY]
    rw[cond_neg (by rfl)];have WT:=WS.trans xT;have abb:=ly.OL B2;have axk:rY<=1000:=by have h1:=abb.len;rw[JQ]at h1;have ι:(eQ (kM pgs) (n4 pgs)).length<=528:=HL bV.len j9.1.2.1 _;unfold fs at h1;omega
    refine κ.use (ah1 abb (aa9.ex (I.trans WT)) (by omega) λbl h=>by rw[Ur bl h];omega) ?_;rintro _ iz ⟨rfl,AY⟩
    try dsimp only[dE]
    refine bz (λca=>?_) λca=>?_
    ·have ca:¬ix (nt pgs) (kM pgs) (td pgs) (eQ (kM pgs) (n4 pgs))=pgs:=by simpa using ca
     exact Jd (WT.trans (AY.trans (η.drew _))) λg=>ca g.same
    have Ke:ix (nt pgs) (kM pgs) (td pgs) (eQ (kM pgs) (n4 pgs))=pgs:=by simpa using ca
    have Tj:Good pgs:=⟨by omega,by omega,by rw[hH];exact dt,by rw[hH,hlen];exact nN,Hf,dR,j9,Ke⟩;have dT:=AY.trans (η.drew iz);have Qq:=WT.trans dT;have aqi:=r2.ex (xT.trans dT);have acC:=vL.ex ((nB.trans rf).trans (xT.trans dT));have rZ:=ρ.ex Qq;have qS:=ai.ex Qq;have EG:=KD.ex Qq;refine⟨(bK (n4 pgs) ps).toArray,by rw[fh];exact fV,aqi.cells,(two (nt pgs) (kM pgs)).toArray,rfl,acC.cells,td pgs,EG.at (by rfl),bL (bB (by rw[fh];exact fV)) ?_⟩;have t1:∀i,i=δ->Typed iz.drew bU i:=λi o=>by rw[o];exact(rZ.typed rfl).1
    refine rZ.put (cs:=bK (n4 pgs) ps) fV bV.at.one λqp Ks HK=>?_;have acE:=EG.cB Ks bU t1 (by decide);have aqh:=acC.cB Ks bU t1 (by decide);have acA:=qS.cB Ks bU t1 (by decide);refine⟨acE.at (by rfl),bL (by rfl) ⟨aqh.cells,bL (by rfl) ?_⟩⟩;have t2:∀i,i=θ->Typed qp b2 i:=λi o=>by rw[o];exact(acA.typed rfl).1
    refine acA.put (cs:=two (nt pgs) (kM pgs)) (by rfl) mW λqq Hr KG=>?_;refine⟨(acE.cB Hr b2 t2 (by decide)).at (by rfl),(bK (n4 pgs) ps).toArray,by rw[fh];exact fV,(HK.cB Hr b2 t2 (by decide)).cells,(two (nt pgs) (kM pgs)).toArray,rfl,KG.cells,χ.mk ⟨?_,.inl ⟨Tj,ps,rfl,?_⟩⟩⟩
    ·exact((abx.trans (I.trans Qq)).then Ks λi o=>by omega).then Hr λi o=>by omega
    ·exact(((abq.ex xT).ex dT).cB Ks bU t1 (by decide)).cB Hr b2 t2 (by decide)
   ·try dsimp only[bX,cC,cD,bk,bH,dY]
    have:(e !=0)=true:=by simpa using he
    rw[cond_pos this];exact Jd (WS.trans (xT.trans (η.drew _))) λg=>nQ ⟨by rw[eq];exact NZ,g.fit⟩
  ·try dsimp only[bX,cC,cD,bk,dE,hx]
   rintro iv gi rfl rfl;rw[Gp];have er:=μ.new (w:=fw) hn bU;have qu:=η.alloc fw (.cells hn.toArray bU);have Bz:=nB.size;generalize amN:fw.heap.size=iv at er Bz⊢;generalize fw.alloc (.cells hn.toArray bU)=gi at er qu⊢;refine bL (bB jq) ?_;refine er.put (cs:=cs.toList) jq vE λh0 Ue r2=>?_;have rf:η fw h0:=qu.then Ue λi o=>by omega
   rw[cond_pos (by rfl)];exact Jd ((Cw.trans (nB.trans rf)).trans (η.drew _)) (λg=>by have:=g.all;rw[dR]at this;cases this)
end Go.Proofs.YtcpdfhkhaekekaaGreat.G.cL
namespace Go.Proofs.YtcpdfhkhaekekaaGreat.G.cL
open Tryz
open Go.bO Go.RowKit
structure lk(w:World)(B b n:Nat)(cr:List (Nat×Nat))(f:Nat×Nat->aU):Prop where
 low:B<=b
 at_:∃es:Array MapEntry,w.heap[b]?=some (.map es es.size)/\es.toList.map (·.key)=cr.map (λx=>dO (some x))/\
  (∀(i:Nat)(e:MapEntry),es.toList[i]?=some e->e.born=i/\∃p m c y,cr[i]?=some y/\e.val=.slice p m c/\μ w B hG 2 p m c (f y)/\m<=n)/\
  (∀(i j:Nat)(e cO:MapEntry),es.toList[i]?=some e->es.toList[j]?=some cO->i≠j->∀a m c fy m' aT,e.val=.slice (some a) m c->cO.val=.slice (some fy) m' aT->a.block≠fy.block)
theorem lk.aH{w w':World}{B b n:Nat}{cr:List (Nat×Nat)}{f:Nat×Nat->aU}(h:lk w B b n cr f){S:bf}(k:Kp w w' S)(ep:∀i,B<=i->i<w.heap.size->¬S i):lk w' B b n cr f:=by obtain⟨h1,es,ι,aG,cq,db⟩:=h;have ψ:b<w.heap.size:=(Array.getElem?_eq_some_iff.1 ι).1;refine⟨h1,es,by rw[k.block b ψ (ep b h1 ψ)];exact ι,aG,λi e he=>?_,db⟩;obtain⟨g1,p,m,c,y,wP,g2,g3,g4⟩:=cq i e he;exact⟨g1,p,m,c,y,wP,g2,g3.aH k λa aQ=>ep _ (g3.ge aQ).1 (g3.ge aQ).2,g4⟩
set_option maxRecDepth 8000 in
theorem lk.step{w:World}{B b n:Nat}{cr:List (Nat×Nat)}{f:Nat×Nat->aU}(h:lk w B b n cr f)(nk:cr.Nodup)(ax:n<=100000)(dW:B<=w.heap.size){x:Nat×Nat}(I:gF x)(oA:∀y∈cr,gF y)(vA:x∉cr->f x=[])(t4 t17:Int){N:ao}
  (K:∀ba,Kp w ba (λi=>B<=i)->lk ba B b (n+1) (if x∈cr then cr else cr++[x]) (λy=>if y=x then f x++[.int .i64 t4,.int .i64 t17]else f y)->N ba):
  aN w #[(Value.int .i64 t4),(Value.int .i64 t17)] hG λaF aa=>
      ξ (some b) λae=>
      Om prog aa ae (ev (some x)) (eE (some x)) zb (.slice none 0 0) λv2 st1 az=>
      cN v2 λaX bu c2=>
      gK az aX bu c2 1 (a7 az (some ⟨aF,0,none⟩)) hG 2 16 #[(Value.int .i64 0),(Value.int .i64 0)] λbh bI aE=>
      ξ (some b) λc8=>
      On aE c8 st1 (Value.slice bh (bu+1) bI) λba=>N ba:=by
 rintro aF aa rfl rfl;have bo:=μ.new (w:=w) [.int .i64 t4,.int .i64 t17] hG;have ad:=η.alloc w (.cells [Value.int .i64 t4,.int .i64 t17].toArray hG);have jd:w.heap.size<=w.heap.size:=ew _;have gw:w.alloc (.cells #[.int .i64 t4,.int .i64 t17] hG)=w.alloc (.cells [Value.int .i64 t4,.int .i64 t17].toArray hG):=rfl;rw[gw];generalize amJ:w.heap.size=aF at bo jd⊢;generalize w.alloc (.cells [Value.int .i64 t4,.int .i64 t17].toArray hG)=aa at bo ad⊢;have aG:=h.aH ad λ_ _ _ h=>h;obtain⟨nj,es,o9,w4,iw,zP⟩:=aG;have JN:b<aa.heap.size:=(Array.getElem?_eq_some_iff.1 o9).1;have hlen:es.size=cr.length:=by
  have:=gP List.length w4
  simpa using this
 try dsimp only[bk]
 refine⟨Va,es,es.size,o9,?_⟩;have w3:∀(i:Nat)(y:Nat×Nat),cr[i]?=some y->∃e,es.toList[i]?=some e/\e.key=dO (some y):=by
  intro i y ah;have h1:i<cr.length:=(List.getElem?_eq_some_iff.1 ah).1;have ι:i<es.toList.length:=by rw[kP];omega
  refine⟨es.toList[i],List.getElem?_eq_getElem ι,?_⟩
  have:=gP (λl=>l[i]?) w4
  rw[List.getElem?_map,List.getElem?_map,ah,List.getElem?_eq_getElem ι]at this;simpa using this
 have JU:∀(i:Nat)(e:MapEntry),es.toList[i]?=some e->∃y,cr[i]?=some y/\e.key=dO (some y):=by
  intro i e he;have ι:i<es.toList.length:=(List.getElem?_eq_some_iff.1 he).1;have h1:i<cr.length:=by rw[kP]at ι;omega
  refine⟨cr[i],List.getElem?_eq_getElem h1,?_⟩
  have:=gP (λl=>l[i]?) w4
  rw[List.getElem?_map,List.getElem?_map,he,List.getElem?_eq_getElem h1]at this;simpa using this
 have s6:μ aa B hG 2 (some ⟨aF,0,none⟩) 1 1 [.int .i64 t4,.int .i64 t17]:=bo.lower (by omega);have SU:aF<aa.heap.size:=(bo.ge rfl).2;by_cases js:x∈cr
 ·
  right;obtain⟨i,o⟩:=List.getElem?_of_mem js;have Tf:∃i,cr[i]?=some x/\∀y∈cr.take i,y≠x:=by
   clear o
   have:∀l:List (Nat×Nat),x∈l->∃i,l[i]?=some x/\∀y∈l.take i,y≠x:=by
    intro l
    induction l with
    |nil=>intro h;cases h
    |cons a l ch=>
     intro h;by_cases DR:a=x
     ·exact⟨0,by simp[DR],λy ah=>by simp at ah⟩
     ·obtain⟨i,h1,ι⟩:=ch (by rcases fA.1 h with h|h;exact absurd h.symm DR;exact h);refine⟨i+1,by simpa using h1,λy ah=>?_⟩;rw[List.take_succ_cons]at ah;rcases fA.1 ah with h|h
      ·rw[h];exact DR
      ·exact ι y h
   exact this cr js
  obtain⟨i,o,SV⟩:=Tf;obtain⟨e,he,Td⟩:=w3 i x o;refine⟨i,e,he,Td,Ul I,λcO dG=>?_,?_⟩
  ·obtain⟨j,φ⟩:=List.getElem?_of_mem dG;have hz:j<i:=by
    have:=(List.getElem?_eq_some_iff.1 φ).1
    rw[gQ]at this;omega
   rw[List.getElem?_take_of_lt hz]at φ;obtain⟨y,ah,Ek⟩:=JU j cO φ;have T5:y∈cr.take i:=by refine eZ (i:=j) ?_;rw[List.getElem?_take_of_lt hz];exact ah
   exact⟨ev (some y),eE (some y),Ek,BV I (oA y (eZ ah)) λh=>SV y T5 h.symm⟩
  ·obtain⟨pV,p,m,c,fR,aoW,aJ,aB,hm⟩:=iw i e he;obtain rfl:fR=x:=AE (aoW.symm.trans o);rw[aJ]
   try dsimp only[dY]
   refine Bb (B:=B) aB (by have:=ad.size;omega) [.int .i64 t4,.int .i64 t17] bo.cells rfl mW rfl (by omega) (by omega) ?_;intro bh bI aE cu dN nR;have lv:aE.heap[b]?=some (.map es es.size):=by
    rw[dN.block b JN λ⟨a,aQ,sU⟩=>?_]
    ·exact o9
    ·obtain⟨cur,fr,aP⟩:=(aB.typed aQ).1;rw[sU,o9]at aP;cases aP
   have Tq:i<es.size:=by have:=(List.getElem?_eq_some_iff.1 he).1;rwa[kP]at this
   refine⟨es,es.size,i,lv,by rw[pV];exact Nh (λi e he=>(iw i e he).1) Tq,λba z1=>?_⟩;subst z1;have nV:=Kp.putObj aE b (.map (es.modify i λe=>{e with val:=Value.slice bh (m+1) bI}) es.size);have DT:b<aE.heap.size:=(Array.getElem?_eq_some_iff.1 lv).1;have nP:Kp w (aE.putObj b (.map (es.modify i λe=>{e with val:=Value.slice bh (m+1) bI}) es.size)) (λi=>B<=i):=by
    refine Kp.trans (ad.aH λi=>B<=i) (Kp.trans dN nV (U:=λi=>B<=i) (λi _⟨a,aQ,o⟩=>?_) λi _ o=>?_) (λ_ _ h=>h) λ_ _ h=>h
    ·have:=(aB.ge aQ).1;omega
    ·rw[o];exact nj
   refine K _ nP ?_;rw[aS js];have ne:∀{q:J}{m' aT:Nat}{ys:aU},μ aE B hG 2 q m' aT ys->μ (aE.putObj b (.map (es.modify i λe=>{e with val:=Value.slice bh (m+1) bI}) es.size)) B hG 2 q m' aT ys:=λε=>ε.aH nV λa aQ o=>by obtain⟨cur,fr,aP⟩:=(ε.typed aQ).1;rw[o,lv]at aP;cases aP
   have TG:∀(j:Nat)(cO:MapEntry),es.toList[j]?=some cO->j≠i->∀{q:J}{m' aT:Nat}{ys:aU},cO.val=.slice q m' aT->μ aa B hG 2 q m' aT ys->μ aE B hG 2 q m' aT ys:=λj cO dG hz q m' aT ys nT ε=>ε.aH dN λa aQ⟨fy,G0,jc⟩=>by subst aQ;subst G0;exact zP j i cO e dG he hz a m' aT fy m c nT aJ jc.symm
   have lM:∀(j:Nat)(gY:MapEntry),(es.modify i λe=>{e with val:=Value.slice bh (m+1) bI}).toList[j]?=some gY->(j=i/\gY={e with val:=Value.slice bh (m+1) bI})\/(j≠i/\es.toList[j]?=some gY):=λj gY gl=>by
    rw[AD,List.getElem?_modify]at gl;by_cases hz:i=j
    ·subst hz;rw[he]at gl;left;simp at gl;exact⟨rfl,gl.symm⟩
    ·right;refine⟨λh=>hz h.symm,?_⟩;simpa[hz]using gl
   refine⟨nj,es.modify i λe=>{e with val:=Value.slice bh (m+1) bI},?_,?_,?_,?_⟩
   ·rw[World.putObj_heap_same DT,O3]
   ·rw[<-w4];apply qb;intro j;rw[List.getElem?_map,List.getElem?_map,AD,List.getElem?_modify];cases es.toList[j]?with
    |none=>rfl
    |some cO=>simp only[iT];split<;>rfl
   ·intro j gY gl;rcases lM j gY gl with⟨rfl,rfl⟩|⟨hz,dG⟩
    ·exact⟨pV,bh,m+1,bI,fR,o,rfl,by rw[aS rfl];exact ne cu,by omega⟩
    ·obtain⟨g1,q,m',aT,ys,wP,g2,g3,g4⟩:=iw j gY dG;have T8:ys≠fR:=λe=>by
      subst e;obtain⟨bd,dQ⟩:=List.getElem?_eq_some_iff.1 wP;obtain⟨fG,fQ⟩:=List.getElem?_eq_some_iff.1 o;rcases Nat.lt_or_gt_of_ne hz with h|h
      ·exact(Ch.1 nk) j i bd fG h (dQ.trans fQ.symm)
      ·exact(Ch.1 nk) i j fG bd h (fQ.trans dQ.symm)
     exact⟨g1,q,m',aT,ys,wP,g2,by rw[aM T8];exact ne (TG j gY dG hz g2 g3),by omega⟩
   ·intro rR oF aO bE yr lx ca ar m1 c1 a2 m2 c2 mm mn;have sR:∀(j:Nat)(cO:MapEntry),es.toList[j]?=some cO->j≠i->∀fy m' aT a3,cO.val=.slice (some fy) m' aT->bh=some a3->a3.block≠fy.block:=λj cO dG hz fy m' aT a3 nT hp=>by
     rcases nR with rfl|rL
     ·exact zP i j e cO he dG (λh=>hz h.symm) a3 m c fy m' aT (by rw[aJ,hp]) nT
     ·have h1:=rL a3 hp;obtain⟨_,q,Uy,Rj,ys,_,g2,g3,_⟩:=iw j cO dG;rw[nT]at g2;cases g2
      have:=(g3.ge rfl).2
      omega
    rcases lM rR aO yr with⟨rfl,rfl⟩|⟨h1,g1⟩
    ·rcases lM oF bE lx with⟨rfl,rfl⟩|⟨ι,g2⟩
     ·exact absurd rfl ca
     ·have mm:Value.slice bh (m+1) bI=Value.slice (some ar) m1 c1:=mm;cases mm;exact sR oF bE g2 ι a2 m2 c2 ar mn rfl
    ·rcases lM oF bE lx with⟨rfl,rfl⟩|⟨ι,g2⟩
     ·have mn:Value.slice bh (m+1) bI=Value.slice (some a2) m2 c2:=mn;cases mn
      exactλh=>sR rR aO g1 h1 ar m1 c1 a2 mm rfl h.symm
     ·exact zP rR oF aO bE g1 g2 ca ar m1 c1 a2 m2 c2 mm mn
 ·
  left;refine⟨λe he=>?_,λaz sX=>?_⟩
  ·obtain⟨j,φ⟩:=List.getElem?_of_mem he;obtain⟨y,ah,Ek⟩:=JU j e φ;exact⟨ev (some y),eE (some y),Ek,BV I (oA y (eZ ah)) λh=>js (h▸eZ ah)⟩
  have nV:=Kp.putObj aa b (.map (es.push ⟨.complex .f64 (ev (some x)) (eE (some x)),.slice none 0 0,es.size⟩) (es.size+1));have mg:az.heap[b]?=some (.map (es.push ⟨.complex .f64 (ev (some x)) (eE (some x)),.slice none 0 0,es.size⟩) (es.size+1)):=by rw[sX];exact World.putObj_heap_same JN
  rw[<-sX]at nV;have t3:∀{q:J}{m' aT:Nat}{ys:aU},μ aa B hG 2 q m' aT ys->μ az B hG 2 q m' aT ys:=λε=>ε.aH nV λa aQ o=>by obtain⟨cur,fr,aP⟩:=(ε.typed aQ).1;rw[o,o9]at aP;cases aP
  try dsimp only[dY]
  refine Bb (B:=B) (μ.nil az B hG 2) (by have:=ad.size;have:=nV.size;omega) [.int .i64 t4,.int .i64 t17] (t3 s6).cells rfl mW rfl (by omega) (by omega) ?_;intro bh bI aE cu dN nR;have ak:η az aE:=dN.mono λi _⟨y,e,_⟩=>by cases e
  have rL:∀a,bh=some a->az.heap.size<=a.block:=λa aQ=>by
   rcases nR with rfl|h
   ·cases aQ
   ·exact h a aQ
  have lv:aE.heap[b]?=some (.map (es.push ⟨.complex .f64 (ev (some x)) (eE (some x)),.slice none 0 0,es.size⟩) (es.size+1)):=by rw[ak.block b (Array.getElem?_eq_some_iff.1 mg).1 id];exact mg
  generalize D8:es.push ⟨.complex .f64 (ev (some x)) (eE (some x)),.slice none 0 0,es.size⟩=lr at mg lv⊢;have ft:lr.size=es.size+1:=by rw[<-D8,Array.size_push]
  have mL:∀(j:Nat)(gY:MapEntry),lr.toList[j]?=some gY->(j=es.size/\gY=⟨.complex .f64 (ev (some x)) (eE (some x)),.slice none 0 0,es.size⟩)\/(j<es.size/\es.toList[j]?=some gY):=λj gY gl=>by
   rw[<-D8,O4]at gl;by_cases φ:j<es.size
   ·right;rw[List.getElem?_append_left (by rw[kP];exact φ)]at gl;exact⟨φ,gl⟩
   ·left;rw[List.getElem?_append_right (by rw[kP];omega),kP]at gl;have D4:j-es.size=0:=by
     cases aC:j-es.size with
     |zero=>rfl
     |succ n=>rw[aC]at gl;simp at gl
    rw[D4]at gl;exact⟨by omega,by simpa using gl.symm⟩
  have pV:∀(i:Nat)(e:MapEntry),lr.toList[i]?=some e->e.born=i:=λi e he=>by
   rcases mL i e he with⟨rfl,rfl⟩|⟨_,h⟩
   ·rfl
   ·exact(iw i e h).1
  refine⟨lr,es.size+1,es.size,lv,Nh pV (by omega),λba z1=>?_⟩;have Af:=Kp.putObj aE b (.map (lr.modify es.size λe=>{e with val:=Value.slice bh (0+1) bI}) (es.size+1));rw[<-z1]at Af;have DT:b<aE.heap.size:=(Array.getElem?_eq_some_iff.1 lv).1;have t5:∀{q:J}{m' aT:Nat}{ys:aU},μ aE B hG 2 q m' aT ys->μ ba B hG 2 q m' aT ys:=λε=>ε.aH Af λa aQ o=>by obtain⟨cur,fr,aP⟩:=(ε.typed aQ).1;rw[o,lv]at aP;cases aP
  have nP:Kp w ba (λi=>B<=i):=by
   refine Kp.trans (ad.aH λi=>B<=i) (Kp.trans nV (Kp.trans ak Af (U:=λi=>B<=i) (λ_ _ h=>h.elim) λi _ o=>?_) (U:=λi=>B<=i) (λi _ o=>?_) λ_ _ h=>h) (λ_ _ h=>h) λ_ _ h=>h
   ·rw[o];exact nj
   ·rw[o];exact nj
  refine K _ nP ?_;rw[aM js];have lM:∀(j:Nat)(gY:MapEntry),(lr.modify es.size λe=>{e with val:=Value.slice bh (0+1) bI}).toList[j]?=some gY->(j=es.size/\gY=⟨.complex .f64 (ev (some x)) (eE (some x)),Value.slice bh (0+1) bI,es.size⟩)\/(j<es.size/\es.toList[j]?=some gY):=λj gY gl=>by
   rw[AD,List.getElem?_modify]at gl;by_cases hz:es.size=j
   ·subst hz;left;cases aC:lr.toList[es.size]?with
    |none=>rw[aC]at gl;simp at gl
    |some hl=>
     rcases mL _ hl aC with⟨_,rfl⟩|⟨h,_⟩
     ·rw[aC]at gl;simp at gl;exact⟨rfl,gl.symm⟩
     ·omega
   ·have Tc:lr.toList[j]?=some gY:=by simpa[hz]using gl
    rcases mL _ gY Tc with⟨h,_⟩|h
    ·omega
    ·exact .inr h
  refine⟨nj,lr.modify es.size λe=>{e with val:=Value.slice bh (0+1) bI},?_,?_,?_,?_⟩
  ·rw[z1,World.putObj_heap_same DT,O3,ft]
  ·rw[q0,<-w4];have aO:(lr.modify es.size λe=>{e with val:=Value.slice bh (0+1) bI}).toList.map (·.key)=lr.toList.map (·.key):=by
    apply qb;intro j;rw[List.getElem?_map,List.getElem?_map,AD,List.getElem?_modify];cases lr.toList[j]?with
    |none=>rfl
    |some cO=>simp only[iT];split<;>rfl
   rw[aO,<-D8,O4,q0];rfl
  ·intro j gY gl;rcases lM j gY gl with⟨rfl,rfl⟩|⟨φ,dG⟩
   ·exact⟨rfl,bh,0+1,bI,x,by rw[hlen,List.getElem?_append_right (ew _),v7];rfl,rfl,by rw[aS rfl,vA js];exact t5 cu,by omega⟩
   ·obtain⟨g1,q,m',aT,ys,wP,g2,g3,g4⟩:=iw j gY dG;have T8:ys≠x:=λe=>js (e▸eZ wP);exact⟨g1,q,m',aT,ys,by rw[List.getElem?_append_left (by omega)];exact wP,g2,by rw[aM T8];exact t5 ((t3 g3).ex ak),by omega⟩
  ·intro rR oF aO bE yr lx ca ar m1 c1 a2 m2 c2 mm mn;have sR:∀(j:Nat)(cO:MapEntry),es.toList[j]?=some cO->∀fy m' aT a3,cO.val=.slice (some fy) m' aT->bh=some a3->a3.block≠fy.block:=λj cO dG fy m' aT a3 nT hp=>by
    have h1:=rL a3 hp;obtain⟨_,q,Uy,Rj,ys,_,g2,g3,_⟩:=iw j cO dG;rw[nT]at g2;cases g2
    have:=(g3.ge rfl).2
    have:=nV.size
    omega
   rcases lM rR aO yr with⟨rfl,rfl⟩|⟨h1,g1⟩
   ·rcases lM oF bE lx with⟨rfl,rfl⟩|⟨ι,g2⟩
    ·exact absurd rfl ca
    ·have mm:Value.slice bh (0+1) bI=Value.slice (some ar) m1 c1:=mm;cases mm;exact sR oF bE g2 a2 m2 c2 ar mn rfl
   ·rcases lM oF bE lx with⟨rfl,rfl⟩|⟨ι,g2⟩
    ·have mn:Value.slice bh (0+1) bI=Value.slice (some a2) m2 c2:=mn;cases mn
     exactλh=>sR rR aO g1 ar m1 c1 a2 mm rfl h.symm
    ·exact zP rR oF aO bE g1 g2 ca ar m1 c1 a2 m2 c2 mm mn
theorem lk.mono{w:World}{B b n eX:Nat}{cr:List (Nat×Nat)}{f:Nat×Nat->aU}(h:lk w B b n cr f)(ax:n<=eX):lk w B b eX cr f:=by obtain⟨h1,es,ι,aG,cq,db⟩:=h;refine⟨h1,es,ι,aG,λi e he=>?_,db⟩;obtain⟨g1,p,m,c,y,wP,g2,g3,g4⟩:=cq i e he;exact⟨g1,p,m,c,y,wP,g2,g3,by omega⟩
def nY(v:Int)(l:List ea)(y:Nat×Nat):aU:=l.zipIdx.flatMap λq=>if q.1=some y then[.int .i64 v,.int .i64 (q.2:Int)]else[]
def lA(R:bR)(y:Nat×Nat):aU:=R.zipIdx.flatMap λe=>nY (e.2:Int) e.1.2.2 y
theorem ac2(v:Int){l:List ea}{j:Nat}(φ:j<l.length)(y:Nat×Nat):nY v (l.take (j+1)) y=nY v (l.take j) y++if l[j]=some y then[.int .i64 v,.int .i64 (j:Int)]else[]:=by unfold nY;rw[k6 φ,List.zipIdx_append,vZ];congr 1;simp[gQ,qZ (Nat.le_of_lt φ)]
theorem aqQ{R:bR}{k:Nat}{e:fF}(he:R[k]?=some e)(y:Nat×Nat):lA (R.take (k+1)) y=lA (R.take k) y++nY (k:Int) e.2.2 y:=by obtain⟨hk,rfl⟩:=List.getElem?_eq_some_iff.1 he;unfold lA;rw[k6 hk,List.zipIdx_append,vZ];congr 1;simp[gQ,qZ (Nat.le_of_lt hk)]
theorem ac3{v:Int}{l:List ea}{y:Nat×Nat}(h:y∉l.filterMap id):nY v l y=[]:=by unfold nY;rw[List.flatMap_eq_nil_iff];intro q aC;obtain⟨q,b⟩:=q;have hm:q∈l:=(List.mem_zipIdx aC).2.2▸hF _;rw[aM];rintro rfl;exact h (uQ.2 ⟨some y,hm,rfl⟩)
theorem U9{R:bR}{y:Nat×Nat}(h:y∉used R):lA R y=[]:=by unfold lA;rw[List.flatMap_eq_nil_iff];intro q aC;obtain⟨e,v⟩:=q;have hm:e∈R:=(List.mem_zipIdx aC).2.2▸hF _;exact ac3 λah=>h (oU.2 ⟨e,hm,ah⟩)
theorem all_map{w:World}{R:bR}{ps:aU}(h:h2 w R ps):
  kv.C (bK R ps).toArray w (χ λv w'=>∃B b,v=.map (some b)/\w.heap.size<=B/\lk w' B b 8000 (gm (used R)) (lA R)/\η w w'):=by
 apply kv.ok;unfold kv.main;have mj:=h.row;rintro δ γ rfl rfl θ τ rfl rfl;have ρ:=μ.new (w:=w) (bK R ps) bU;have ζ:=η.alloc w (.cells (bK R ps).toArray bU);generalize SR:w.heap.size=δ at ρ⊢;generalize w.alloc (.cells (bK R ps).toArray bU)=γ at ρ ζ⊢;have σ:=η.alloc γ (.map #[] 0);have hm:=DY γ (.map #[] 0);have dW:γ.heap.size<=(γ.alloc (.map #[] 0)).heap.size:=σ.size;have T0:=ζ.size;generalize al8:γ.heap.size=B at hm dW T0⊢;have m0:lk (γ.alloc (.map #[] 0)) B B 0 [] (λ_=>[]):=⟨ew _,#[],hm,rfl,λi e he=>by simp at he,λi j e cO he=>by simp at he⟩;generalize γ.alloc (.map #[] 0)=τ at σ dW m0⊢;have h:=h.ex (ζ.trans σ);have ρ:=ρ.ex σ;have af:aw τ (⟨δ,16,none⟩:Addr) ps:=by
  have:=aw.drop ρ.cells 16
  rwa[Addr.add_lit,mS,h.drop]at this
 refine⟨ps.toArray,by rw[fh];exact h.dx,af,?_⟩;unfold kv.bd;refine⟨λt3 t10 t11 w'=>t3=some B/\ps.toArray=t10/\0<=t11/\t11<=8/\lk w' B B (t11.toNat*1000) (gm ((R.take t11.toNat).flatMap pB)) (lA (R.take t11.toNat))/\Kp τ w' λi=>B<=i,λt3 t10 t11 w'=>(8-t11).toNat,⟨rfl,rfl,by omega,by omega,m0,Kp.refl _ _⟩,?_⟩;rintro _ _ t11 w' ⟨rfl,rfl,aD,dr,lL,I⟩;unfold kv.δ;obtain⟨k,rfl⟩:=eH aD;rw[cy]at lL;have fin:∀{w':World},Kp τ w' (λi=>B<=i)->η w w':=λI=>(ζ.trans σ).then I λi ψ=>by omega
 refine bz (λbM=>?_) λbM=>?_
 ·have bM:=b7 bM;have hk:k<8:=by omega
  obtain⟨e,he⟩:=h.get hk;obtain⟨p,c,hp,DV⟩:=mj k e he;have kL:=(DV.ex ζ).ex σ;obtain⟨dt,aj,_,_⟩:=h.ok e (eZ he);refine bL (bB aD) (bL (bB bM) ?_);rw[cy,ey];have gw:ps.toArray[k]?=some (.slice p e.2.2.length c):=by rw[List.getElem?_toArray];exact hp
  rw[gw]
  try dsimp only[bk,dY]
  unfold kv.fG;refine⟨λt3 t4 t10 t11 sj si uX t16 t17 w'=>t3=some B/\ps.toArray=t10/\(k:Int)=t4/\(k:Int)=t11/\p=sj/\e.2.2.length=si/\c=uX/\(e.2.2.length:Int)=t16/\0<=t17/\t17<=e.2.2.length/\lk w' B B (k*1000+t17.toNat) (gm ((R.take k).flatMap pB++(e.2.2.take t17.toNat).filterMap id)) (λy=>lA (R.take k) y++nY (k:Int) (e.2.2.take t17.toNat) y)/\Kp τ w' λi=>B<=i,
   λt3 t4 t10 t11 sj si uX t16 t17 w'=>(e.2.2.length-t17).toNat,⟨rfl,rfl,rfl,rfl,rfl,rfl,rfl,rfl,by omega,by omega,?_,I⟩,?_⟩
  ·have:(R.take k).flatMap pB++(e.2.2.take (0:Int).toNat).filterMap id=(R.take k).flatMap pB:=by simp
   rw[this];have bg:(λy=>lA (R.take k) y++nY (k:Int) (e.2.2.take (0:Int).toNat) y)=lA (R.take k):=funext λy=>by simp[nY]
   rw[bg];exact lL.mono (Nat.le_add_right _ _)
  clear lL I;rintro _ _ _ _ _ _ _ _ t17 w' ⟨rfl,rfl,rfl,rfl,rfl,rfl,rfl,rfl,i0,i1,lL,I⟩;unfold kv.θ;obtain⟨j,rfl⟩:=eH i0;rw[cy]at lL;have DO:B<=w'.heap.size:=by have:=I.size;omega
  refine bz (λπ=>?_) λπ=>?_
  ·have π:=b7 π;have φ:j<e.2.2.length:=by omega
   have yn:a7 w' p (e.2.2.map dO):=by
    have:=kL.aH I (λa aQ ψ=>by subst aQ;have h1:=MK (DV.cell (j:=j) (by rw[jV];exact φ));rw[x1]at h1;omega)
    exact this
   obtain⟨a,rfl,r⟩:=EU yn φ;have aC:=dt _ (hF φ);refine bL (bB i0) (bL (bB π) ?_)
   try dsimp only[bk]
   rw[cy,ey];refine⟨_,_,r,?_⟩;rw[empty_eq aC];have kY:IntKind.i64.wrap ((j:Int)+1)=((j+1:Nat):Int):=by rw[bY (by omega) (by omega)];rfl
   have kk:((j+1:Nat):Int).toNat=j+1:=rfl;cases rO:e.2.2[j]with
   |none=>
    rw[cond_neg (by rfl),kY];refine⟨⟨rfl,rfl,rfl,rfl,rfl,rfl,rfl,rfl,by omega,by omega,?_,I⟩,by((try dsimp only);omega)⟩;rw[kk,PX φ,rO]
    have:[(none:ea)].filterMap id=[]:=rfl
    rw[this,pn];have bg:(λy=>lA (R.take k) y++nY (k:Int) (e.2.2.take (j+1)) y)=λy=>lA (R.take k) y++nY (k:Int) (e.2.2.take j) y:=funext λy=>by rw[ac2 _ φ,rO];simp
    rw[bg];exact lL.mono (by omega)
   |some x=>
    rw[rO]at aC;rw[cond_pos (by rfl)];refine lL.step (xl _) (by omega) DO aC (λy ah=>adh h.ok he j y ((kl _ _).1 ah)) (λax=>?_) k j λba ec m6=>?_
    ·have ax:=λdS=>ax ((kl _ _).2 dS);rw[iG]at ax;have ar:lA (R.take k) x=[]:=U9 λdS=>ax (.inl dS);have a2:nY (k:Int) (e.2.2.take j) x=[]:=ac3 λdS=>ax (.inr dS);show lA (R.take k) x++nY (k:Int) (e.2.2.take (j:Int).toNat) x=[];rw[cy,ar,a2];rfl
    rw[kY];refine⟨⟨rfl,rfl,rfl,rfl,rfl,rfl,rfl,rfl,by omega,by omega,?_,I.fZ ec⟩,by((try dsimp only);omega)⟩;rw[kk,PX φ,rO]
    have:[(some x:ea)].filterMap id=[x]:=rfl
    rw[this,<-lT,Ov];have bg:(λy=>lA (R.take k) y++nY (k:Int) (e.2.2.take (j+1)) y)=λy=>if y=x then(lA (R.take k) x++nY (k:Int) (e.2.2.take j) x)++[.int .i64 (k:Int),.int .i64 (j:Int)]else lA (R.take k) y++nY (k:Int) (e.2.2.take j) y:=funext λy=>by
     rw[ac2 _ φ,rO];by_cases ah:y=x
     ·subst ah;simp
     ·rw[aM ah,aM λe=>ah (AE e).symm,pn]
    rw[bg];exact m6.mono (by omega)
  ·have π:=dd π;have φ:j=e.2.2.length:=by omega
   rw[Gm hk];refine⟨⟨rfl,rfl,by omega,by omega,?_,I⟩,by((try dsimp only);omega)⟩;have kk:((k+1:Nat):Int).toNat=k+1:=rfl;rw[kk,aeO he];rw[φ,AB]at lL;have bg:lA (R.take (k+1))=λy=>lA (R.take k) y++nY (k:Int) e.2.2 y:=funext λy=>aqQ he y;rw[bg];exact lL.mono (by omega)
 ·have bM:=dd bM;obtain rfl:k=8:=by omega
  have zJ:R.take 8=R:=hc (by rw[h.len];omega);have kk:((8:Nat):Int).toNat=8:=rfl;rw[zJ]at lL;exact χ.mk ⟨B,B,rfl,by omega,lL,fin I⟩
open Go.Shelf Go.Sort
def as1:Go.Shelf.Ren:=⟨λ|6=>166|15=>186|14=>185|28=>204|29=>205|20=>196|21=>197|22=>198|23=>199|24=>200|25=>201|26=>202|27=>203|46=>207|47=>208|48=>209|49=>210|50=>211|57=>212|n=>n,λ|22=>86|24=>113|25=>261|3=>3|39=>42|0=>0|53=>227|55=>285|4=>4|46=>290|45=>289|50=>182|5=>5|9=>9|66=>298|70=>302|76=>304|77=>305|n=>n,λ|n=>n⟩
theorem aeo:Go.Proofs.SlLaysF.n6 prog as1:={
 mixed:=by kernel_rfl
 f6:=⟨ "slices.SortFunc[[]complex128,complex128]",by decide,func166.trans (gP some (by kernel_rfl))⟩
 f14:=⟨ "slices.pdqsortCmpFunc[complex128]",by decide,func185.trans (gP some (by kernel_rfl))⟩
 f15:=func186.trans (gP some (by kernel_rfl))
 f20:=⟨ "slices.insertionSortCmpFunc[complex128]",by decide,func196.trans (gP some (by kernel_rfl))⟩
 f21:=⟨ "slices.heapSortCmpFunc[complex128]",by decide,func197.trans (gP some (by kernel_rfl))⟩
 f22:=⟨ "slices.breakPatternsCmpFunc[complex128]",by decide,func198.trans (gP some (by kernel_rfl))⟩
 f23:=⟨ "slices.choosePivotCmpFunc[complex128]",by decide,func199.trans (gP some (by kernel_rfl))⟩
 f24:=⟨ "slices.reverseRangeCmpFunc[complex128]",by decide,func200.trans (gP some (by kernel_rfl))⟩
 f25:=⟨ "slices.partialInsertionSortCmpFunc[complex128]",by decide,func201.trans (gP some (by kernel_rfl))⟩
 f26:=⟨ "slices.partitionEqualCmpFunc[complex128]",by decide,func202.trans (gP some (by kernel_rfl))⟩
 f27:=⟨ "slices.partitionCmpFunc[complex128]",by decide,func203.trans (gP some (by kernel_rfl))⟩
 f28:=func204.trans (gP some (by kernel_rfl))
 f29:=func205.trans (gP some (by kernel_rfl))
 f46:=⟨ "slices.siftDownCmpFunc[complex128]",by decide,func207.trans (gP some (by kernel_rfl))⟩
 f47:=func208.trans (gP some (by kernel_rfl))
 f48:=func209.trans (gP some (by kernel_rfl))
 f49:=⟨ "slices.medianAdjacentCmpFunc[complex128]",by decide,func210.trans (gP some (by kernel_rfl))⟩
 f50:=⟨ "slices.medianCmpFunc[complex128]",by decide,func211.trans (gP some (by kernel_rfl))⟩
 f57:=⟨ "slices.order2CmpFunc[complex128]",by decide,func212.trans (gP some (by kernel_rfl))⟩
 t0:=underlying0
 a0:=isAgg0
 z0:=sizeOf0
 v0:=zeroValue0
 t3:=underlying3
 a3:=isAgg3
 z3:=sizeOf3
 v3:=zeroValue3
 t4:=underlying4
 a4:=isAgg4
 z4:=sizeOf4
 v4:=zeroValue4
 t5:=underlying5
 a5:=isAgg5
 z5:=sizeOf5
 v5:=zeroValue5
 t9:=underlying9
 a9:=isAgg9
 z9:=sizeOf9
 v9:=zeroValue9
 t22:=underlying86
 a22:=isAgg86
 z22:=sizeOf86
 v22:=zeroValue86
 a24:=isAgg113
 z24:=sizeOf113
 t25:=underlying261
 a25:=isAgg261
 z25:=sizeOf261
 v25:=zeroValue261
 t39:=underlying42
 a39:=isAgg42
 z39:=sizeOf42
 v39:=zeroValue42
 t45:=underlying289
 a45:=isAgg289
 z45:=sizeOf289
 v45:=zeroValue289
 t46:=underlying290
 a46:=isAgg290
 z46:=sizeOf290
 v46:=zeroValue290
 t50:=underlying182
 a50:=isAgg182
 z50:=sizeOf182
 v50:=zeroValue182
 t53:=underlying227
 a53:=isAgg227
 z53:=sizeOf227
 v53:=zeroValue227
 t55:=underlying285
 a55:=isAgg285
 z55:=sizeOf285
 v55:=zeroValue285
 t66:=underlying298
 a66:=isAgg298
 z66:=sizeOf298
 v66:=zeroValue298
 t70:=underlying302
 a70:=isAgg302
 z70:=sizeOf302
 v70:=zeroValue302
 t76:=underlying304
 a76:=isAgg304
 z76:=sizeOf304
 v76:=zeroValue304
 t77:=underlying305
 a77:=isAgg305
 z77:=sizeOf305
 v77:=zeroValue305}
def GF(a b:Nat):Int:=if a<b then-1 else if b<a then 1 else 0
theorem acr:∀a b:_root_.Fin 24,ek .lss (j1 a.val) (j1 b.val)=decide (a.val<b.val)/\ek .gtr (j1 a.val) (j1 b.val)=decide (b.val<a.val)/\ek .neq (j1 a.val) (j1 a.val)=false:=by decide+kernel
theorem Xt{a:Nat}(aQ:a<24)(w:World):Dk.C (j1 a) w (χ λv w'=>v=.bool false/\w'=w):=by apply Dk.ok;unfold Dk.main;exact χ.mk ⟨by rw[(acr ⟨a,aQ⟩ ⟨a,aQ⟩).2.2],rfl⟩
theorem W4{a b:Nat}(aQ:a<24)(ψ:b<24)(w:World):Di.C (j1 a) (j1 b) w (χ λv w'=>v=.int .i64 (GF a b)/\w'=w):=by
 apply Di.ok;unfold Di.main;obtain⟨h1,ι,-⟩:=acr ⟨a,aQ⟩ ⟨b,ψ⟩;refine κ.use (Xt aQ w) ?_;rintro _ γ ⟨rfl,aO⟩;obtain rfl:=aO.symm
 try dsimp only[dE,iY]
 refine κ.use (Xt ψ _) ?_;rintro _ τ ⟨rfl,bE⟩;obtain rfl:=bE.symm
 try dsimp only[dE,iY]
 dsimp only at h1 ι;rw[h1,ι];unfold GF;refine bz (λh=>?_) λh=>bz (λfU=>?_) λfU=>?_
 ·exact χ.mk ⟨by rw[aS (b7 h)],rfl⟩
 ·exact χ.mk ⟨by rw[aM (dd h),aS (b7 fU)],rfl⟩
 ·exact χ.mk ⟨by rw[aM (dd h),aM (dd fU)],rfl⟩
theorem aiu{w:World}{b:Nat}{x y:Int}(π:a7 w (some ⟨b,0,none⟩) [.int .i64 x,.int .i64 y]):sK.C (some ⟨b,0,none⟩) 2 2 w (χ λv w'=>v=.int .i64 (if x≠0 then x else y)/\w'=w):=by
 apply sK.ok;unfold sK.main sK.bd;have fz:w.cell? (⟨b,0,none⟩:Addr)=some (.int .i64 x):=π.cell (j:=0) (by simp);have c1:w.cell? (⟨b,1,none⟩:Addr)=some (.int .i64 y):=π.cell (j:=1) (by simp);refine⟨λt3 kC j4 lE t7 t8 w'=>0=t3/\some ⟨b,0,none⟩=kC/\2=j4/\(2:Int)=t7/\w=w'/\(t8=0\/(t8=1/\x=0)\/(t8=2/\x=0/\y=0)),λ_ _ _ _ _ t8 _=>(2-t8).toNat,⟨rfl,rfl,rfl,rfl,rfl,.inl rfl⟩,?_⟩;rintro _ _ _ lE _ t8 w' ⟨rfl,rfl,rfl,rfl,rfl,h⟩;unfold sK.δ;rcases h with rfl|⟨rfl,I⟩|⟨rfl,I,ah⟩
 ·rw[cond_pos (by decide)];refine bL (by decide) (bL (by decide) ?_)
  try dsimp only[bk]
  refine⟨x,fz,?_⟩;by_cases I:x=0
  ·rw[cond_neg (by simp[I])];exact⟨⟨rfl,rfl,rfl,rfl,rfl,.inr (.inl ⟨by decide,I⟩)⟩,by decide⟩
  ·rw[cond_pos (by simpa using I)];exact χ.mk ⟨by rw[aS I],rfl⟩
 ·rw[cond_pos (by decide)];refine bL (by decide) (bL (by decide) ?_)
  try dsimp only[bk]
  refine⟨y,c1,?_⟩;by_cases ah:y=0
  ·rw[cond_neg (by simp[ah])];exact⟨⟨rfl,rfl,rfl,rfl,rfl,.inr (.inr ⟨by decide,I,ah⟩)⟩,by decide⟩
  ·rw[cond_pos (by simpa using ah)];exact χ.mk ⟨by rw[aM (by simpa using I)],rfl⟩
 ·rw[cond_neg (by decide)];exact χ.mk ⟨by rw[aM (by simpa using I),ah],rfl⟩
abbrev wu:=_root_.Fin 24×_root_.Fin 16
def ov(x:wu):Value:=dO (some (x.1.val,x.2.val))
def EO(x y:wu):Int:=if GF x.1.val y.1.val≠0 then GF x.1.val y.1.val else GF x.2.val y.2.val
theorem aiv(x y:wu)(w:World):CU.C (j1 x.1.val) (j1 x.2.val) (j1 y.1.val) (j1 y.2.val) w (χ λv w'=>v=.int .i64 (EO x y)/\∃ε,w'=w.alloc ε):=by
 apply CU.ok;unfold CU.main;have ar:=x.1.isLt;have a2:=x.2.isLt;have δ:=y.1.isLt;have θ:=y.2.isLt;refine κ.use (W4 (a:=x.1.val) (b:=y.1.val) ar δ w) ?_;rintro _ γ ⟨rfl,aO⟩;obtain rfl:=aO.symm
 try dsimp only[bH]
 refine κ.use (W4 (a:=x.2.val) (b:=y.2.val) (by omega) (by omega) _) ?_;rintro _ τ ⟨rfl,bE⟩;obtain rfl:=bE.symm
 try dsimp only[bH]
 rintro b aE rfl rfl;refine κ.use (aiu (a7.alloc _ cj)) ?_;rintro _ ba ⟨rfl,pR⟩;obtain rfl:=pR.symm
 try dsimp only[bH]
 exact χ.mk ⟨rfl,_,rfl⟩
theorem OI(x y:wu):ltOf EO x y=decide (x.1.val<y.1.val\/x.1.val=y.1.val/\x.2.val<y.2.val):=by unfold ltOf EO GF;split<;>split<;>(try split)<;>(apply decide_eq_decide.2)<;>omega
theorem aqJ:SWO (ltOf EO)where
 irrefl x:=by rw[OI];simp
 trans x y z h1 ι:=by rw[OI]at*;simp only[po]at*;omega
 ntrans x y z h1 ι:=by rw[OI]at*;simp only[K0]at*;omega
theorem alV(w:World)(ε:Obj):grow w #[ε]=w.alloc ε:=by unfold grow World.alloc;congr 1
theorem aqK(cY off n:Nat)(w:World):CmpLays1 prog 167 #[] ov EO cY off n w:=λm os awB ω x y=>
 (aiv x y _).mono λe w'⟨v,he,aJ,ε,aB⟩=>⟨by rw[he,aJ],0,#[ε],by rw[aB,alV];rfl⟩
theorem ak9:∀args w,(callFunc 167 args).run prog w=.ok (.enter 167 args) w:=enters_of func167 (by kernel_rfl) rfl
theorem asX{w:World}{b:Nat}{cur:ag}{e:TypeId}{fr:Nat×Nat}{d':Array wu}{n:Nat}{os:Array Obj}(h:w.heap[b]?=some (.cells cur e fr)):
  (sortWorld ov w b 0 n d' os).heap[b]?=some (.cells (putCells ov 0 d' cur) e fr)/\Kp w (sortWorld ov w b 0 n d' os) λi=>i=b:=by
 have ψ:b<w.heap.size:=(Array.getElem?_eq_some_iff.1 h).1;have ω:(putRow ov (Sort.ahead w n) b 0 d').heap.size=w.heap.size:=by simp[putRow,mapBlock,Sort.ahead]
 refine⟨?_,rfl,rfl,rfl,?_,λi o ca=>?_⟩
 ·show((putRow ov (Sort.ahead w n) b 0 d').heap++os)[b]?=_;rw[Array.getElem?_append_left (by omega)];show(w.heap.modify b _)[b]?=_;rw[Array.getElem?_modify,aS rfl,h];rfl
 ·show w.heap.size<=((putRow ov (Sort.ahead w n) b 0 d').heap++os).size;rw[K6];omega
 ·show((putRow ov (Sort.ahead w n) b 0 d').heap++os)[i]?=_;rw[Array.getElem?_append_left (by omega)];show(w.heap.modify b _)[i]?=_;rw[Array.getElem?_modify,aM λh=>ca h.symm]
theorem ary(d':Array wu)(cur:ag)(h:d'.size<=cur.size):(putCells ov 0 d' cur).toList.take d'.size=d'.toList.map ov:=by
 apply qb;intro i;rw[List.getElem?_take,List.getElem?_map,Array.getElem?_toList,Array.getElem?_toList];unfold putCells;rw[Array.getElem?_mapIdx];by_cases o:i<d'.size
 ·rw[aS o,Array.getElem?_eq_getElem (by omega),iT,aS ⟨en _,by omega⟩,Array.getElem?_eq_getElem o,Nat.sub_zero,getElem!_pos d' i o];rfl
 ·rw[aM o,Array.getElem?_eq_none (by omega)];rfl
abbrev XE(p:J)(n c:Nat)(w:World)(R:aq):Prop:=Calls prog 166 #[.slice p n c,.func (.func 167) #[] #[]] w R
theorem aiP{w:World}{B b n c:Nat}{l:List wu}(ε:μ w B eo 1 (some ⟨b,0,none⟩) n c (l.map ov))(ax:n<=1000000):XE (some ⟨b,0,none⟩) n c w (χ λv w'=>v=.tuple #[]/\∃mO:List wu,mO.Perm l/\mO.Pairwise (λx y=>ltOf EO y x=false)/\μ w' B eo 1 (some ⟨b,0,none⟩) n c (mO.map ov)/\Kp w w' λi=>i=b):=by
 have aj:l.length=n:=by have:=ε.1;simpa using this
 have bM:=(ε.typed rfl).2.2;obtain⟨_,pc,⟨h,_⟩|⟨gL,cur,fr,jc,dW,ψ,jr,π,I⟩⟩:=ε
 ·cases h
 cases jc;have ft:l.toArray.size=n:=by simpa using aj
 have uw:n<=cur.size:=by omega
 have hH:Holds ov w b 0 l.toArray:=λj φ=>by
  have eP:j<l.length:=by simpa using φ
  refine⟨?_,?_⟩
  ·rw[mS,cell_of_block ψ,<-Array.getElem?_toList,getElem!_pos l.toArray j φ];have ι:(cur.toList.take (n*1))[j]?=some (ov l[j]):=by rw[I,List.getElem?_map,List.getElem?_eq_getElem eP];rfl
   rw[List.getElem?_take,aS (by omega)]at ι;rw[ι];simp
  ·rw[Jx ψ];rcases jr with h|h
   ·simp;omega
   ·simp;omega
 have aaz:=Any.slices_SortFunc aeo ov (λ_=>rfl) EO aqJ 167 #[] b 0 c l.toArray w ak9 (aqK b 0 _ w) hH bM (by omega);rw[ft]at aaz;refine Calls.mono aaz λe w'⟨he,d',k,os,hp,ω,hw⟩=>?_;obtain⟨eu,hk⟩:=asX (d':=d') (n:=k) (os:=os) ψ;subst hw;have af:d'.size=n:=by rw[hp.1,ft]
 have an9:d'.toList.Perm l:=by
  have:=hp.2.2
  rwa[Array.extract_eq_self_of_le (by omega),Array.extract_eq_self_of_le (by omega)]at this
 refine⟨_,he,rfl,d'.toList,an9,?_,⟨by simp[af],pc,.inr ⟨b,_,fr,rfl,dW,eu,?_,?_,?_⟩⟩,hk⟩
 ·rw[Ch];intro i j o φ D2
  have:=ω i j (en _) D2 (by simpa[af]using φ)
  rw[getElem!_pos d' i (by simpa using o),getElem!_pos d' j (by simpa using φ)]at this;simpa using this
 ·have:(putCells ov 0 d' cur).size=cur.size:=by simp[putCells]
  rw[this];exact jr
 ·have:(putCells ov 0 d' cur).size=cur.size:=by simp[putCells]
  rw[this];exact π
 ·rw[ey,<-af];exact ary d' cur (by omega)
theorem ahJ{w:World}{p:J}{n c:Nat}{U:List (Nat×Nat)}(π:a7 w p (dx U))(ax:U.length=n)(aj:n<=1000000)(aB:∀x∈U,gF x)(af:U.Nodup):mU.C p n c w (χ λv w'=>v=.slice p n c/\η w w'):=by
 apply mU.ok;unfold mU.main;refine bz (λh=>χ.mk ⟨rfl,η.refl w⟩) λh=>?_;have ι:=dd h;unfold mU.bd;refine⟨λcb b8 ck t3 w'=>p=cb/\n=b8/\c=ck/\1<=t3/\t3<=n/\η w w',λ_ _ _ t3 _=>(n-t3).toNat,⟨rfl,rfl,rfl,by omega,by omega,η.refl w⟩,?_⟩;rintro _ _ _ t3 w' ⟨rfl,rfl,rfl,h1,aG,I⟩;unfold mU.δ;obtain⟨k,rfl⟩:=eH (show 0<=t3 by omega);refine bz (λhk=>?_) λhk=>χ.mk ⟨rfl,I⟩;have hk:=b7 hk;have yn:=π.ex I;obtain⟨j,rfl⟩:=Nat.exists_eq_succ_of_ne_zero (show k≠0 by omega);have w2:j+1<U.length:=by omega
 have D4:j<U.length:=by omega
 have aO:(dx U)[j+1]?=some (dO (some U[j+1])):=by unfold dx;rw[List.getElem?_map,List.getElem?_eq_getElem w2];rfl
 have hl:(dx U)[j]?=some (dO (some U[j])):=by unfold dx;rw[List.getElem?_map,List.getElem?_eq_getElem D4];rfl
 obtain⟨a,aQ,cG⟩:=yn.many aO;obtain⟨fy,G0,n3⟩:=yn.many hl;rw[aQ]at G0;cases G0;refine bL (bB (by omega)) (bL (bB (by omega)) ?_);have i1:(((j+1:Nat):Int).toNat*1)=j+1:=by omega
 have i0:((j:Int).toNat*1)=j:=by omega
 refine gG aQ ⟨ev (some U[j+1]),eE (some U[j+1]),?_,?_⟩
 ·show w'.cell? (a.add (((j+1:Nat):Int).toNat*1))=_;rw[i1];exact cG
 have bE:IntKind.i64.wrap (((Nat.succ j:Nat):Int)-1)=(j:Int):=by rw[bY (by omega) (by omega)];omega
 rw[bE];refine bL (bB (by omega)) (bL (bB (by omega)) ?_);refine gG aQ ⟨ev (some U[j]),eE (some U[j]),by rw[i0];exact n3,λa1=>?_⟩;have ca:U[j+1]≠U[j]:=λe=>by
  have:=(Ch.1 af) j (j+1) D4 w2 (by omega)
  exact this e.symm
 rw[BV (aB _ (hF w2)) (aB _ (hF D4)) ca];rw[cond_neg rfl,bY (x:=((Nat.succ j:Nat):Int)+1) (by omega) (by omega)];exact⟨⟨rfl,rfl,rfl,by omega,by omega,I.trans (η.drewN w' a1)⟩,by((try dsimp only);omega)⟩
theorem ahH{w:World}{p:J}{n c:Nat}(ax:n<=c):Fz.C p n c w (χ λv w'=>v=.slice p n n/\w'=w):=by apply Fz.ok;unfold Fz.main;refine bL (bB (by omega)) (bL (bB (by omega)) (bL (bB (by omega)) (bL (bB (by omega)) ?_)));rw[Io];exact χ.mk ⟨rfl,rfl⟩
def Ba:List (Nat×Nat):=(List.range 24).flatMap λa=>(List.range 16).map λb=>(a,b)
def lays(U:List (Nat×Nat)):List (Nat×Nat):=Ba.filter λx=>decide (x∈U)
def Ah(x y:Nat×Nat):Prop:=x.1<y.1\/x.1=y.1/\x.2<y.2
instance(x y:Nat×Nat):Decidable (Ah x y):=by unfold Ah;infer_instance
theorem ajn:Ba.Pairwise Ah:=by decide+kernel
theorem apM{x:Nat×Nat}:x∈Ba↔gF x:=by obtain⟨a,b⟩:=x;unfold Ba gF;simp[oU,gO,ns]
theorem abP(U:List (Nat×Nat)):(lays U).Pairwise Ah:=ajn.filter _
theorem HB{U:List (Nat×Nat)}(aB:∀x∈U,gF x){x:Nat×Nat}:x∈lays U↔x∈U:=by unfold lays;rw[mv,apM];exact⟨λh=>b7 h.2,λh=>⟨aB x h,bB h⟩⟩
theorem Kw(U:List (Nat×Nat)):(lays U).Nodup:=(abP U).imp λh e=>by subst e;unfold Ah at h;omega
theorem abO{U:List (Nat×Nat)}(aB:∀x∈U,gF x)(af:U.Nodup):(lays U).Perm U:=(List.perm_ext_iff_of_nodup (Kw U) af).2 λx=>HB aB
theorem apl{U V:List (Nat×Nat)}(aB:∀x∈U,gF x)(af:U.Nodup)(hp:V.Perm U)(ω:V.Pairwise λx y=>¬Ah y x):V=lays U:=
 List.Perm.eq_of_pairwise (le:=λx y=>¬Ah y x) (λa b _ _ h1 ι=>by
  obtain⟨ar,a2⟩:=a;obtain⟨δ,θ⟩:=b;unfold Ah at h1 ι;have aO:ar=δ:=by dsimp only at h1 ι;omega
  have bE:a2=θ:=by dsimp only at h1 ι;omega
  rw[aO,bE]) ω ((abP U).imp λ{x y}h fU=>by unfold Ah at h fU;omega) (hp.trans (abO aB af).symm)
theorem Ht{U:List (Nat×Nat)}(aB:∀x∈U,gF x)(af:U.Nodup):(lays U).length=U.length:=(abO aB af).length_eq
def agC(x:Nat×Nat):wu:=(⟨x.1%24,Nat.mod_lt _ (by decide)⟩,⟨x.2%16,Nat.mod_lt _ (by decide)⟩)
def OD(f:wu):Nat×Nat:=(f.1.val,f.2.val)
theorem acR{x:Nat×Nat}(h:gF x):OD (agC x)=x:=by show(x.1%24,x.2%16)=x;rw[K2 h.1,K2 h.2]
theorem ado(l:List wu):dx (l.map OD)=l.map ov:=by unfold dx;rw[Cf];rfl
theorem arn{U:List (Nat×Nat)}(aB:∀x∈U,gF x):(U.map agC).map ov=dx U:=by rw[<-ado,Cf];congr 1;exact(Cg λx I=>acR (aB x I)).trans (List.map_id U)
theorem X1:∀a:_root_.Fin 24,tZ (j1 a.val) 0=some (j1 a.val):=by decide+kernel
theorem W0(p:J)(n c:Nat)(xs:aU)(w:World)(π:a7 w p xs)(aj:xs.length=n)(ax:n<=1000000000000)(h1:∀y∈xs,y.oneCell'=true):
  FA.C p n c w (χ λv w'=>∃bT aT,v=.slice bT n aT/\η w w'/\μ w' w.heap.size eo 1 bT n aT xs):=by
 apply FA.ok;unfold FA.main;cases p with
 |none=>
  have:xs=[]:=π
  subst this
  have:n=0:=by simpa using aj.symm
  subst this
  try dsimp only[Jo,Bp]
  exact χ.mk ⟨none,0,rfl,η.refl w,μ.nil _ _ _ _⟩
 |some a=>
  try dsimp only[mI,iY]
  rintro δ γ rfl rfl;have aB:=μ.alloc (w:=w) [] eo 1 0 rfl;have I:=η.alloc w (.cells #[] eo);refine lp aB (by have:=I.size;exact this) xs (a7.ex I π) (by omega) h1 rfl (by omega) (by omega) λbT aT w' jF hk=>?_;rw[mS]at jF⊢;rw[te]at jF;exact χ.mk ⟨bT,aT,rfl,I.then hk (λi⟨x,e,o⟩=>by cases e;exact HU o),jF⟩
theorem aiQ{w0 w:World}{p:J}{n c:Nat}{U:List (Nat×Nat)}(I:η w0 w)(ε:μ w w0.heap.size eo 1 p n c (dx U))(aj:n<=4096)(aB:∀x∈U,gF x)(af:U.Nodup):
  oo.a1 p n c w (χ λv w'=>∃q d,v=.tuple #[.slice q n d,.int .i64 0]/\η w0 w'/\μ w' w0.heap.size eo 1 q n d (dx (lays U))):=by
 unfold oo.a1;have aag:U.length=n:=by have:=ε.1;rw[yP,ey]at this;exact this
 have pc:n<=c:=ε.2.1
 have key:∀w',η w0 w'->μ w' w0.heap.size eo 1 p n c (dx (lays U))->κ prog 169 #[.slice p n c] w' (λv4 b5=>cN v4 λaX bu c2=>
   κ prog 168 #[.slice aX bu c2] b5 (λv5 c6=>cN v5 λbh dB bI=>χ (λv w'=>∃q d,v=.tuple #[.slice q n d,.int .i64 0]/\η w0 w'/\μ w' w0.heap.size eo 1 q n d (dx (lays U))) (.returned (.tuple #[.slice bh dB bI,.int .i64 0])) c6)
    λcQ cA=>χ (λv w'=>∃q d,v=.tuple #[.slice q n d,.int .i64 0]/\η w0 w'/\μ w' w0.heap.size eo 1 q n d (dx (lays U))) (.panicked cQ) cA)
   λcQ cf=>χ (λv w'=>∃q d,v=.tuple #[.slice q n d,.int .i64 0]/\η w0 w'/\μ w' w0.heap.size eo 1 q n d (dx (lays U))) (.panicked cQ) cf:=λw' lR hD=>by
  refine κ.use (ahJ hD.cells ((Ht aB af).trans aag) (by omega) (λx h=>aB x ((HB aB).1 h)) (Kw U)) ?_;rintro _ γ ⟨rfl,ζ⟩
  try dsimp only[dY]
  refine κ.use (ahH pc) ?_;rintro _ τ ⟨rfl,bE⟩;obtain rfl:=bE.symm
  try dsimp only[dY]
  refine χ.mk ⟨p,n,rfl,lR.trans ζ,?_⟩;obtain⟨a1,bP,cd⟩:=hD.ex ζ;refine⟨a1,ew _,?_⟩;rcases cd with⟨h,aD⟩|⟨b,cur,fr,h,dW,ψ,jr,π,hV⟩
  ·exact .inl ⟨h,by omega⟩
  ·exact .inr ⟨b,cur,fr,h,dW,ψ,jr,by omega,hV⟩
 cases p with
 |none=>
  have Tz:n=0:=by
   obtain⟨_,_,⟨_,h⟩|⟨_,_,_,h,_⟩⟩:=ε
   ·omega
   ·cases h
  subst Tz;have jb:U=[]:=sb aag;subst jb;have ω:XE none 0 c w (χ λv w'=>v=.tuple #[]/\w'=w):=Calls.mono (AnyF.slices_SortFunc_none {aeo with} none c (.func (.func 167) #[] #[]) w) λe w' h=>⟨_,h.1,rfl,h.2⟩;refine κ.use ω ?_;rintro _ w' ⟨rfl,aO⟩;obtain rfl:=aO.symm
  try dsimp only[bX]
  have hl:lays []=[]:=Pb.2 λx _=>by simp
  exact key _ I (by rw[hl];exact ε)
 |some a=>
  obtain⟨b,rfl⟩:∃b,a=⟨b,0,none⟩:=by
   obtain⟨_,_,⟨h,_⟩|⟨b,_,_,h,_⟩⟩:=ε
   ·cases h
   ·cases h;exact⟨b,rfl⟩
  rw[<-arn aB]at ε;refine κ.use (aiP ε (by omega)) ?_;rintro _ w' ⟨rfl,mO,hp,ω,hD,k'⟩
  try dsimp only[bX]
  have nM:mO.map OD=lays U:=by
   refine apl aB af ?_ ?_
   ·have:=hp.map OD
    rw[Cf]at this;refine this.trans (List.Perm.of_eq ?_);exact(Cg λx I=>acR (aB x I)).trans (List.map_id U)
   ·rw[List.pairwise_map];refine ω.imp λ{x y}h=>?_;rw[OI]at h;exact dd h
  rw[<-ado,nM]at hD;exact key _ (I.then k' λi o=>by rw[o];exact(hD.ge rfl).1) hD
theorem aiR{w:World}{p:J}{n c:Nat}{U:List (Nat×Nat)}(π:a7 w p (dx U))(ax:U.length=n)(aj:n<=4096)(aB:∀x∈U,gF x)(af:U.Nodup):
  oo.C p n c w (χ λv w'=>∃q d,v=.tuple #[.slice q n d,.int .i64 0]/\η w w'/\μ w' w.heap.size eo 1 q n d (dx (lays U))):=by
 apply oo.ok;unfold oo.main;rw[cond_neg (iy (by omega))];refine κ.use (W0 p n c (dx U) w π ((yP U).trans ax) (by omega) (arl U)) ?_;rintro _ γ ⟨ab,c1,rfl,ζ,ρ⟩
 try dsimp only[dY]
 unfold oo.bd;refine⟨λqk pz uZ hM fu h8 t13 t14 w'=>ab=qk/\n=pz/\c1=uZ/\ab=hM/\n=fu/\(n:Int)=t13/\0<=t14/\t14<=n/\η w w'/\μ w' w.heap.size eo 1 ab n c1 (dx U),λ_ _ _ _ _ _ _ t14 _=>(n-t14).toNat,⟨rfl,rfl,rfl,rfl,rfl,rfl,by omega,by omega,ζ,ρ⟩,?_⟩;clear ρ ζ;rintro _ _ _ _ _ h8 _ t14 w' ⟨rfl,rfl,rfl,rfl,rfl,rfl,aD,h1,I,ε⟩;unfold oo.δ;obtain⟨k,rfl⟩:=eH aD;refine bz (λhk=>?_) λhk=>aiQ I ε aj aB af;have hk:=b7 hk;have nO:k<U.length:=by omega
 have aO:(dx U)[k]?=some (dO (some U[k])):=by unfold dx;rw[List.getElem?_map,List.getElem?_eq_getElem nO];rfl
 have dt:=aB _ (hF nO);refine bL (bB aD) (bL (bB hk) ?_);obtain⟨b,rfl⟩:∃b,ab=some ⟨b,0,none⟩:=by
  obtain⟨_,_,⟨_,h⟩|⟨b,_,_,h,_⟩⟩:=ε
  ·omega
  ·exact⟨b,h⟩
 try dsimp only[bk]
 have aQ:(⟨b,0,none⟩:Addr).add ((k:Int).toNat*1)=⟨b,k,none⟩:=by rw[Addr.add_lit,cy];simp
 rw[aQ];refine⟨ev (some U[k]),eE (some U[k]),ε.at aO,?_⟩;refine κ.use (zu (some U[k]) dt w') ?_;rintro _ aa ⟨rfl,gw⟩;obtain rfl:=gw.symm
 try dsimp only[dE]
 rw[show(!(some U[k]:ea).isSome)=false from rfl,vX];refine gG (X1 ⟨U[k].1,dt.1⟩) (gG (X1 ⟨U[k].2,by have:=dt.2;omega⟩) ?_);refine bL (bB aD) (bL (bB hk) ?_);refine ε.da (j:=k) (by omega) rfl λaE dN cu=>?_;have ka:(dx U).set k (dO (some U[k]))=dx U:=by
  apply qb;intro i;rw[List.getElem?_set];split
  ·rename_i h;subst h;rw[aS (by rw[yP];omega),aO]
  ·rfl
 have OB:μ aE w.heap.size eo 1 (some ⟨b,0,none⟩) n c1 (dx U):=ka▸cu;rw[bY (x:=(k:Int)+1) (by omega) (by omega)];exact⟨⟨rfl,rfl,rfl,rfl,rfl,rfl,by omega,by omega,I.then dN λi o=>by rw[o];exact(OB.ge rfl).1,OB⟩,by((try dsimp only);omega)⟩
theorem lk.size{w:World}{B b n:Nat}{cr:List (Nat×Nat)}{f:Nat×Nat->aU}(h:lk w B b n cr f):∃es:Array MapEntry,w.heap[b]?=some (.map es es.size)/\es.size=cr.length:=by
 obtain⟨_,es,ι,aG,_,_⟩:=h;refine⟨es,ι,?_⟩
 have:=gP List.length aG
 simpa using this
theorem Xq{w:World}{R:bR}{ps:aU}(h:h2 w R ps)(ω:lo R):ER.C (bK R ps).toArray w (χ λv w'=>v=.tuple #[.int .i64 ((gm (used R)).length:Nat),.int .i64 0]/\η w w'):=by
 apply ER.ok;unfold ER.main;rintro δ γ rfl rfl;have ρ:=μ.new (w:=w) (bK R ps) bU;have ζ:=η.alloc w (.cells (bK R ps).toArray bU);generalize SR:w.heap.size=δ at ρ⊢;generalize w.alloc (.cells (bK R ps).toArray bU)=γ at ρ ζ⊢;have h1:=h.ex ζ;have hlen:=ρ.1;refine⟨(bK R ps).toArray,by simp[bK,Ag,h.len,h.dx],ρ.cells,?_⟩;refine κ.use (Gw h1) ?_;rintro _ τ ⟨rfl,σ⟩
 try dsimp only[dE]
 rw[bB ω]
 skip
 refine⟨(bK R ps).toArray,by simp[bK,Ag,h.len,h.dx],(ρ.ex σ).cells,?_⟩;refine κ.use (all_map (h1.ex σ)) ?_;rintro _ az ⟨B,b,rfl,_,hm,aA⟩
 try dsimp only[M3]
 obtain⟨es,aO,bE⟩:=hm.size;refine⟨es,_,aO,χ.mk ⟨by rw[bE],(ζ.trans σ).trans aA⟩⟩
theorem lk.xb{w w':World}{B b n:Nat}{cr:List (Nat×Nat)}{f:Nat×Nat->aU}(h:lk w B b n cr f){S:bf}(k:Kp w w' S)(ψ:¬S b)(ep:∀i,S i->¬Typed w hG i):lk w' B b n cr f:=by obtain⟨h1,es,ι,aG,cq,db⟩:=h;have o8:b<w.heap.size:=(Array.getElem?_eq_some_iff.1 ι).1;refine⟨h1,es,by rw[k.block b o8 ψ];exact ι,aG,λi e he=>?_,db⟩;obtain⟨g1,p,m,c,y,wP,g2,g3,g4⟩:=cq i e he;exact⟨g1,p,m,c,y,wP,g2,g3.aH k λa aQ ω=>ep _ ω (g3.typed aQ).1,g4⟩
theorem lk.look{w:World}{B b n:Nat}{cr:List (Nat×Nat)}{f:Nat×Nat->aU}(h:lk w B b n cr f)(oA:∀y∈cr,gF y)(vA:∀y,y∉cr->f y=[]){x:Nat×Nat}(I:gF x){K:Value->Prop}
  (iS:∀p m c,μ w B hG 2 p m c (f x)->K (.slice p m c)):Hw prog w (some b) (ev (some x)) (eE (some x)) zb (.slice none 0 0) K:=by
 obtain⟨h1,es,ι,aG,cq,db⟩:=h;refine⟨Va,b,es,es.size,rfl,ι,?_⟩;have JT:∀(i:Nat)(e:MapEntry),es.toList[i]?=some e->∃y,cr[i]?=some y/\e.key=dO (some y):=by
  intro i e he
  have:=gP (λl=>l[i]?) aG
  rw[List.getElem?_map,List.getElem?_map,he]at this;cases aC:cr[i]?with
  |none=>rw[aC]at this;cases this
  |some y=>rw[aC]at this;exact⟨y,rfl,by simpa using this⟩
 by_cases hm:x∈cr
 ·right;obtain⟨i,o,J1⟩:∃i:Nat,cr[i]?=some x/\∀j:Nat,j<i->cr[j]?≠some x:=by
   obtain⟨i0,Tl⟩:=List.getElem?_of_mem hm
   have:∀m i:Nat,i<=m->cr[i]?=some x->∃i:Nat,cr[i]?=some x/\∀j:Nat,j<i->cr[j]?≠some x:=by
    intro m
    induction m with
    |zero=>intro i o I;exact⟨i,I,λj φ=>by omega⟩
    |succ m ch=>
     intro i o I;by_cases φ:∃j,j<i/\cr[j]?=some x
     ·obtain⟨j,φ,Ha⟩:=φ;exact ch j (by omega) Ha
     ·exact⟨i,I,λj hz Ha=>φ ⟨j,hz,Ha⟩⟩
   exact this i0 i0 (ew _) Tl
  have aj:es.toList.length=cr.length:=by
   have:=gP List.length aG
   simpa using this
  have D3:i<cr.length:=(List.getElem?_eq_some_iff.1 o).1;obtain⟨y,ah,hk⟩:=JT i _ (List.getElem?_eq_getElem (by omega));obtain rfl:y=x:=AE (ah.symm.trans o);obtain⟨_,p,m,c,wo,Km,g2,g3,_⟩:=cq i _ (List.getElem?_eq_getElem (by omega:i<es.toList.length));obtain rfl:wo=y:=AE (Km.symm.trans o);refine⟨i,_,List.getElem?_eq_getElem (by omega:i<es.toList.length),hk,Ul I,λcO dG=>?_,by rw[g2];exact iS p m c g3⟩;obtain⟨j,φ⟩:=List.getElem?_of_mem dG;have hz:j<i:=by
   have:=(List.getElem?_eq_some_iff.1 φ).1
   rw[gQ]at this;omega
  rw[List.getElem?_take_of_lt hz]at φ;obtain⟨z,aL,T9⟩:=JT j cO φ;exact⟨ev (some z),eE (some z),T9,BV I (oA z (eZ aL)) λe=>J1 j hz (e▸aL)⟩
 ·left;refine⟨λe he=>?_,iS none 0 0 (by rw[vA x hm];exact μ.nil _ _ _ _)⟩;obtain⟨j,φ⟩:=List.getElem?_of_mem he;obtain⟨z,aL,T9⟩:=JT j e φ;exact⟨ev (some z),eE (some z),T9,BV I (oA z (eZ aL)) λe=>hm (e▸eZ aL)⟩
theorem Kv{U V:List (Nat×Nat)}(h:∀x,x∈U↔x∈V):lays U=lays V:=by
 unfold lays;congr 1
 funext x
 exact decide_eq_decide.2 (h x)
def pick(cr:List (Nat×Nat))(l:List Nat):List (Nat×Nat):=l.map λi=>cr.getD i (0,0)
theorem adk{cr:List (Nat×Nat)}{l:List Nat}(h:∀i∈l,i<cr.length){x:Nat×Nat}(I:x∈pick cr l):x∈cr:=by obtain⟨i,o,rfl⟩:=gO.1 I;rw[List.getD_eq_getElem?_getD,List.getElem?_eq_getElem (h i o)];exact hF _
theorem aq6{cr:List (Nat×Nat)}(hk:cr.Nodup){l:List Nat}(h:∀i∈l,i<cr.length)(af:l.Nodup):(pick cr l).Nodup:=by
 unfold pick;refine Pc _ ?_ (VE (R:=λa b=>a≠b) (S:=λa b=>cr.getD a (0,0)≠cr.getD b (0,0)) (λ{a b}aQ ψ sU e=>sU ?_) af)
 ·exactλ_ _ h=>h
 ·rw[List.getD_eq_getElem?_getD,List.getD_eq_getElem?_getD,List.getElem?_eq_getElem (h a aQ),List.getElem?_eq_getElem (h b ψ)]at e;rcases Nat.lt_trichotomy a b with aj|he|aj
  ·exact absurd e ((Ch.1 hk) a b (h a aQ) (h b ψ) aj)
  ·exact he
  ·exact absurd e.symm ((Ch.1 hk) b a (h b ψ) (h a aQ) aj)
structure Gt(w:World)(B b it:Nat)(cr:List (Nat×Nat))(f:Nat×Nat->aU)(l:List Nat):Prop where
 it:w.heap[it]?=some (.mapIter (some b) cr.length l.toArray cr.length)
 k4:l.Nodup
 lt:∀i∈l,i<cr.length
 map:lk w B b 8000 cr f
theorem Gt.ne{w:World}{B b it:Nat}{cr:List (Nat×Nat)}{f:Nat×Nat->aU}{l:List Nat}(h:Gt w B b it cr f l):it≠b:=by rintro rfl;obtain⟨es,he,_⟩:=h.map.size;rw[h.it]at he;cases he
theorem Gt.next{w:World}{B b it:Nat}{cr:List (Nat×Nat)}{f:Nat×Nat->aU}{l:List Nat}(h:Gt w B b it cr f l){Mo:Prop}{K:Value->ao}
  (aD:(∀i,i<cr.length->i∈l)->Mo)(h1:∀i w',i<cr.length->i∉l->Kp w w' (λj=>j=it)->Gt w' B b it cr f (l++[i])->K (dO (some (cr.getD i (0,0)))) w'):
  UI w ⟨it,0,none⟩ Mo λe bm=>R5 bm ⟨it,0,none⟩ λv3 v4=>K v3 bm:=by
 have ca:=h.ne;obtain⟨low,es,ι,aG,cq,db⟩:=h.map;have aj:es.size=cr.length:=by
  have:=gP List.length aG
  simpa using this
 have pV:∀(i:Nat)(o:i<es.size),es[i].born=i:=λi o=>(cq i _ (by rw[Array.getElem?_toList];exact Array.getElem?_eq_getElem o)).1;have nk:(es.toList.map (·.born)).Nodup:=by unfold List.Nodup;rw[Ch];intro i j o φ D2;simp only[jV,kP]at o φ;simp only[List.getElem_map,H4];rw[pV i o,pV j φ];omega
 refine⟨it,b,cr.length,cr.length,l.toArray,es,es.size,rfl,h.it,ι,λx I=>?_,ew _,λaL=>aD λi o=>?_,λe he γ w' Eh fK=>?_⟩
 ·obtain⟨i,o,rfl⟩:=Pe.1 I;rw[kP]at o;rw[H4,pV i o];omega
 ·have kX:i<es.size:=by omega
  have hle:leftOf es l.toArray=#[]:=OZ aL;unfold leftOf at hle;rw[Array.filter_eq_empty_iff]at hle
  have:=hle es[i] (Array.getElem_mem kX)
  rw[pV i kX]at this;simpa using this
 ·unfold leftOf at he;rw[Array.toList_filter,mv]at he;obtain⟨hm,ω⟩:=he;obtain⟨i,o,rfl⟩:=Pe.1 hm;rw[kP]at o;rw[H4,pV i o]at ω;have TA:i∉l:=by simpa using ω
  rw[H4,pV i o]at fK;have BM:η w γ:=by
   rcases Eh with rfl|rfl
   ·exact η.refl _
   ·exact η.drew _
  have dS:γ.heap=w.heap:=by rcases Eh with rfl|rfl<;>rfl
  have bM:it<γ.heap.size:=by rw[dS];exact(Array.getElem?_eq_some_iff.1 h.it).1
  have aH:=Kp.putObj γ it (.mapIter (some b) cr.length (l.toArray.push i) es.size);rw[<-fK]at aH;have QL:Kp w w' λj=>j=it:=(BM.aH _).fZ aH;have zS:w'.heap[it]?=some (.mapIter (some b) cr.length (l.toArray.push i) es.size):=by rw[fK];exact World.putObj_heap_same bM
  have lL:lk w' B b 8000 cr f:=h.map.xb QL (λe=>ca e.symm) (λj φ aP=>by obtain⟨c,fr,aP⟩:=aP;rw[φ,h.it]at aP;cases aP)
  have jc:w'.heap[b]?=some (.map es es.size):=by rw[QL.block b (Array.getElem?_eq_some_iff.1 ι).1 λe=>ca e.symm];exact ι
  have w3:es.toList[i].key=dO (some (cr.getD i (0,0))):=by
   have:=gP (λl=>l[i]?) aG
   rw[List.getElem?_map,List.getElem?_map,List.getElem?_eq_getElem (by rw[kP];exact o),List.getElem?_eq_getElem (by omega:i<cr.length)]at this;rw[List.getD_eq_getElem?_getD,List.getElem?_eq_getElem (by omega:i<cr.length)];simpa using this
  refine⟨it,b,cr.length,l.toArray,es,es.size,es.toList[i],rfl,?_,jc,hF _,nk,?_⟩
  ·rw[H4,pV i o];exact zS
  ·rw[w3];refine h1 i w' (by omega) TA QL ⟨?_,?_,?_,lL⟩
   ·rw[zS,aj];simp
   ·rw[List.nodup_append];exact⟨h.k4,by simp,λa aQ b ψ e=>by simp only[lB]at ψ;subst ψ;subst e;exact TA aQ⟩
   ·intro j φ;rcases iG.1 φ with φ|φ
    ·exact h.lt j φ
    ·simp only[lB]at φ;omega
theorem aiw{w0 w:World}{B b:Nat}{cr:List (Nat×Nat)}{f:Nat×Nat->aU}(I:η w0 w)(hm:lk w B b 8000 cr f)(oA:∀y∈cr,gF y)(vA:∀y,y∉cr->f y=[])(ψ:w0.heap.size<=b)
  {p:J}{n c:Nat}{V:List (Nat×Nat)}(ε:μ w w0.heap.size eo 1 p n c (dx V))(nM:∀x∈V,gF x)(ax:n<=4096){R:aq}
  (K:∀fQ bu c2 w',η w0 w'->μ w' w0.heap.size eo 1 p n c (dx V)->R (.returned (.tuple #[.slice p n c,.slice fQ bu c2,.int .i64 0])) w'):
  kd.fG (some b) p n c none 0 0 p n c (n:Int) 0 w R:=by
 have awP:V.length=n:=by have:=ε.1;rw[yP,ey]at this;exact this
 unfold kd.fG;refine⟨λt5 kC j4 lE jk hX iV LC LB PH t32 t33 w'=>some b=t5/\p=kC/\n=j4/\c=lE/\p=LC/\n=LB/\c=PH/\(n:Int)=t32/\0<=t33/\t33<=n/\t33=hX/\η w0 w'/\lk w' B b 8000 cr f/\μ w' w0.heap.size eo 1 p n c (dx V)/\∃ys,μ w' w0.heap.size zb 1 jk hX iV ys,
  λt5 kC j4 lE jk hX iV LC LB PH t32 t33 w'=>(n-t33).toNat,⟨rfl,rfl,rfl,rfl,rfl,rfl,rfl,rfl,by omega,by omega,rfl,I,hm,ε,[],μ.nil _ _ _ _⟩,?_⟩
 clear I hm ε;rintro _ _ _ _ jk hX iV _ _ _ _ t33 w' ⟨rfl,rfl,rfl,rfl,rfl,rfl,rfl,rfl,aD,h1,dr,I,hm,ε,ys,ac5⟩;unfold kd.θ;obtain⟨k,rfl⟩:=eH aD;refine bz (λhk=>?_) λhk=>?_
 ·have hk:=b7 hk;have nO:k<V.length:=by omega
  have aO:(dx V)[k]?=some (dO (some V[k])):=by unfold dx;rw[List.getElem?_map,List.getElem?_eq_getElem nO];rfl
  obtain⟨a,aQ,r⟩:=ε.cells.many aO;refine bL (bB aD) (bL (bB hk) ?_);refine gG aQ ⟨ev (some V[k]),eE (some V[k]),by rw[cy,ey];exact r,?_⟩;refine hm.look oA vA (nM _ (hF nO)) λbh m3 bI bo=>?_
  try dsimp only[dY]
  rintro c8 cn rfl rfl;have ak:=η.alloc w' (.cells #[.slice bh m3 bI] zb);have iC:a7 (w'.alloc (.cells #[.slice bh m3 bI] zb)) (some ⟨w'.heap.size,0,none⟩) [.slice bh m3 bI]:=a7.alloc _ zb;generalize w'.alloc (.cells #[.slice bh m3 bI] zb)=cn at ak iC⊢;have e5:=I.trans ak;refine lp (ac5.ex ak) e5.size [.slice bh m3 bI] iC rfl (λy ah=>by simp only[lB]at ah;subst ah;rfl) rfl (by omega) (by omega) λeg hs dn cx cz=>?_;have t4:∀i,(∃x,jk=some x/\x.block=i)->Typed cn zb i/\w0.heap.size<=i:=λi⟨x,I,o⟩=>by
   have:=(ac5.ex ak).typed I
   exact⟨o▸this.1,o▸this.2.1⟩
  rw[bY (x:=(k:Int)+1) (by omega) (by omega)];refine⟨⟨rfl,rfl,rfl,rfl,rfl,rfl,rfl,rfl,by omega,by omega,by omega,e5.then cz λi o=>(t4 i o).2,?_,?_,_,cx⟩,by((try dsimp only);omega)⟩
  ·obtain⟨es,he,_⟩:=(hm.xb (ak.aH λ_=>False) id λ_ h=>h.elim).size;exact(hm.xb (ak.aH λ_=>False) id λ_ h=>h.elim).xb cz (λψ=>by obtain⟨c,fr,aP⟩:=(t4 b ψ).1;rw[he]at aP;cases aP) λi o aP=>aP.ne (t4 i o).1 (by decide) rfl
  ·exact(ε.ex ak).aH cz λx I o=>((ε.ex ak).typed I).1.ne (t4 _ o).1 (by decide) rfl
 ·unfold kd.bP;exact K _ _ _ _ I ε
theorem adj(cr:List (Nat×Nat))(l:List Nat):(pick cr l).length=l.length:=by simp[pick]
theorem Xv{w:World}{R:bR}{ps:aU}(h:h2 w R ps)(ω:lo R)(π:(gm (used R)).length<=4096):kd.C (bK R ps).toArray w (χ λv w'=>∃q d fQ bu c2,v=.tuple #[.slice q (lays (used R)).length d,.slice fQ bu c2,.int .i64 0]/\η w w'/\μ w' w.heap.size eo 1 q (lays (used R)).length d (dx (lays (used R)))):=by
 apply kd.ok;unfold kd.main;have nj:w.heap.size<=w.heap.size:=ew _;rintro δ γ rfl rfl;have ρ:=μ.new (w:=w) (bK R ps) bU;have ζ:=η.alloc w (.cells (bK R ps).toArray bU);have ρ:=ρ;generalize w.alloc (.cells (bK R ps).toArray bU)=γ at ρ ζ⊢;have h1:=h.ex ζ;have rH:(bK R ps).toArray.size=24:=by simp[bK,Ag,h.len,h.dx]
 refine⟨(bK R ps).toArray,rH,ρ.cells,?_⟩;refine κ.use (Gw h1) ?_;rintro _ τ ⟨rfl,σ⟩
 try dsimp only[dE]
 rw[bB ω]
 skip
 refine⟨(bK R ps).toArray,rH,(ρ.ex σ).cells,?_⟩;have c7:=ζ.trans σ;refine κ.use (all_map (h1.ex σ)) ?_;rintro _ az ⟨B,b,rfl,dW,hm,aA⟩
 try dsimp only[M3]
 have iQ:η w az:=c7.trans aA;have DO:w.heap.size<=B:=fY c7.size dW;have aw0:B<=b:=hm.low;obtain⟨es,he,o9⟩:=hm.size;refine⟨b,es,es.size,rfl,he,?_⟩;rintro aF ba rfl rfl;have aI:=η.alloc az (.mapIter (some b) es.size #[] es.size);have zS:=DY az (.mapIter (some b) es.size #[] es.size);have BF:lk (az.alloc (.mapIter (some b) es.size #[] es.size)) B b 8000 (gm (used R)) (lA R):=hm.xb (aI.aH λ_=>False) id λ_ h=>h.elim;have anz:w.heap.size<=az.heap.size:=iQ.size;generalize az.alloc (.mapIter (some b) es.size #[] es.size)=ba at aI zS BF⊢;generalize az.heap.size=it at zS anz⊢;have ks:=iQ.trans aI;rw[o9]at zS;have oA:∀y∈gm (used R),gF y:=λy ah=>q8 h.ok y ((kl _ _).1 ah);have vA:∀y,y∉gm (used R)->lA R y=[]:=λy ah=>U9 λhu=>ah ((kl _ _).2 hu);have nk:=xl (used R);have js:∀x,x∈gm (used R)↔x∈used R:=kl _;generalize axc:gm (used R)=cr at π hm o9 zS BF oA vA nk js;unfold kd.bd;refine⟨λt5 kC j4 lE t17 w'=>some b=t5/\it=t17/\∃l,Gt w' B b it cr (lA R) l/\l.length=j4/\η w w'/\μ w' w.heap.size eo 1 kC j4 lE (dx (pick cr l)),
  λt5 kC j4 lE t17 w'=>cr.length-j4,⟨rfl,rfl,[],⟨zS,List.nodup_nil,λi o=>by simp at o,BF⟩,rfl,ks,μ.nil _ _ _ _⟩,?_⟩
 clear zS BF ks aI ba;rintro _ kC j4 lE _ w' ⟨rfl,rfl,l,iJ,aj,I,ε⟩;unfold kd.δ;have hle:l.length<=cr.length:=by
  have:=rW l (List.range cr.length) iJ.k4 λx I=>ns.2 (iJ.lt x I)
  simpa using this
 refine iJ.next (λdR=>?_) λi bm o TA hA DQ=>?_
 ·
  unfold kd.a1;have jb:∀x,x∈pick cr l↔x∈used R:=λx=>by rw[<-js];refine⟨λI=>adk iJ.lt I,λI=>?_⟩;obtain⟨i,o,rfl⟩:=Pe.1 I;refine gO.2 ⟨i,dR i o,?_⟩;rw[List.getD_eq_getElem?_getD,List.getElem?_eq_getElem o];rfl
  have dt:∀x∈pick cr l,gF x:=λx I=>oA x (adk iJ.lt I);have J8:=aq6 nk iJ.lt iJ.k4;have hlen:=Ht dt J8;refine κ.use (aiR ε.cells ((adj cr l).trans aj) (by omega) dt J8) ?_;rintro _ c6 ⟨q,d,rfl,eK,p4⟩;rw[Kv jb]at p4 hlen;rw[adj,aj]at hlen
  try dsimp only[bX,cC,cD,bk,bH,dY]
  rw[<-hlen]at p4⊢;refine aiw (I.trans eK) (iJ.map.xb (eK.aH λ_=>False) id λ_ h=>h.elim) oA vA (by omega) (p4.lower I.size) (λx I=>q8 h.ok x ((HB (q8 h.ok)).1 I)) (by omega) λfQ bu c2 cA fl r0=>?_;exact χ.mk ⟨q,d,fQ,bu,c2,rfl,fl,r0⟩
 ·rintro ae b5 rfl rfl;have z6:η w bm:=I.then hA λj φ=>by omega
  have er:=ε.aH hA λx I φ=>by obtain⟨c,fr,aP⟩:=(ε.typed I).1;rw[φ,iJ.it]at aP;cases aP
  have cg:=η.alloc bm (.cells #[dO (some (cr.getD i (0,0)))] eo);have l9:a7 (bm.alloc (.cells #[dO (some (cr.getD i (0,0)))] eo)) (some ⟨bm.heap.size,0,none⟩) [dO (some (cr.getD i (0,0)))]:=a7.alloc _ eo;unfold dO at cg l9;generalize bm.alloc (.cells #[.complex .f64 (ev (some (cr.getD i (0,0)))) (eE (some (cr.getD i (0,0))))] eo)=b5 at cg l9⊢;have e5:=z6.trans cg;refine lp (er.ex cg) e5.size [dO (some (cr.getD i (0,0)))] l9 rfl (λy ah=>by simp only[lB]at ah;subst ah;rfl) rfl (by omega) (by omega) λeg hs cf jh iL=>?_;have t4:∀j,(∃x,kC=some x/\x.block=j)->Typed b5 eo j/\w.heap.size<=j:=λj⟨x,I,φ⟩=>by
   have:=(er.ex cg).typed I
   exact⟨φ▸this.1,φ▸this.2.1⟩
  have m8:=DQ.map.xb (cg.aH λ_=>False) id λ_ h=>h.elim;obtain⟨awE,anc,_⟩:=m8.size;have Uc:b5.heap[it]?=some (.mapIter (some b) cr.length (l++[i]).toArray cr.length):=by rw[cg.block it (Array.getElem?_eq_some_iff.1 DQ.it).1 id];exact DQ.it
  refine⟨⟨rfl,rfl,l++[i],⟨?_,DQ.k4,DQ.lt,?_⟩,by rw[fe,aj];rfl,e5.then iL λj φ=>(t4 j φ).2,?_⟩,?_⟩
  ·rw[iL.block it (Array.getElem?_eq_some_iff.1 Uc).1 λφ=>?_]
   ·exact Uc
   ·obtain⟨c,fr,aP⟩:=(t4 it φ).1;rw[Uc]at aP;cases aP
  ·exact m8.xb iL (λψ=>by obtain⟨c,fr,aP⟩:=(t4 b ψ).1;rw[anc]at aP;cases aP) λj φ aP=>aP.ne (t4 j φ).1 (by decide) rfl
  ·have:dx (pick cr (l++[i]))=dx (pick cr l)++[dO (some (cr.getD i (0,0)))]:=by simp[dx,pick]
   rw[this];exact jh
  ·have:l.length<cr.length:=by
    have ι:=rW (l++[i]) (List.range cr.length) DQ.k4 λx I=>ns.2 (DQ.lt x I);simp at ι;omega
   dsimp only;omega
end Go.Proofs.YtcpdfhkhaekekaaGreat.G.cL

/- The walk of the functions, and the plain laws of the model: part of the proof. Conditions: none. -/
import Derived.Shelf.SlSortCmp.Whole1
import Derived.Shelf.Lay
import Derived.Ground.SlsfProg
import Derived.Shelf.SlSortCmp.NoneTotal
import Derived.Test.YtcpdfhkhaekekaaGreatA8
set_option linter.unusedVariables false
set_option linter.unusedSimpArgs false
namespace Go.Proofs.YtcpdfhkhaekekaaGreat.G.cr
open Go.bI Go.RowKit
def qn(k n:Int):Bool:=decide (n=0)||(decide (1<=k)&&decide (k<=16)&&decide (n-1<24*k))
def kk(k n:Int):eg:=if n=0 then none else if 1<=k/\k<=16/\n-1<24*k then some (((n-1)/k).toNat,((n-1)%k).toNat)else some (0,0)
theorem arQ{k n:Int}(ar:0<=n):ki (kk k n):=by
 unfold kk;split
 ·exact trivial
 ·split
  ·rename_i aF h;have hk:=h.1;have h1:=PK (n-1) (show k≠0 by omega);have η:=PA (n-1) (show 0<k by omega);have au:0<=(n-1)/k:=Int.ediv_nonneg (by omega) (by omega);have bV:(n-1)/k<24:=Int.ediv_lt_of_lt_mul (by omega) h.2.2;exact⟨by show((n-1)/k).toNat<24;omega,by show((n-1)%k).toNat<16;omega⟩
  ·exact⟨by decide,by decide⟩
theorem VR{k:Int}(hk:2<=k/\k<=16){q:eg}(ay:ki q)(I:∀x,q=some x->(x.2:Int)<k):qn k (AJ k q)=true/\kk k (AJ k q)=q/\0<=AJ k q/\AJ k q<65536:=by
 cases q with
 |none=>exact⟨rfl,rfl,Int.le_refl 0,(by decide:(0:Int)<65536)⟩
 |some x=>
  have h1:=I x rfl;have η:=ay.1;have bf:=JV (k:=k) η (by omega);have e:AJ k (some x)=(x.1:Int)*k+x.2+1:=rfl;have aM:(x.1:Int)*k+x.2+1-1=x.2+k*x.1:=by rw[Int.mul_comm];omega
  have ae:((x.2:Int)+k*x.1)/k=x.1:=by rw[Int.add_mul_ediv_left _ _ (by omega),LA (by omega) h1];omega
  have hm:((x.2:Int)+k*x.1)%k=x.2:=by rw[Int.add_mul_emod_self_left];exact LI (by omega) h1
  have bQ:(x.2:Int)+k*x.1<24*k:=by have au:k*(x.1:Int)<=k*23:=Int.mul_le_mul_of_nonneg_left (by omega) (by omega);omega
  rw[e];refine⟨?_,?_,by omega,by omega⟩
  ·unfold qn;rw[aM,bC (show 1<=k by omega),bC hk.2,bC bQ];simp
  ·unfold kk;rw[aN (by omega),aM,aY ⟨by omega,hk.2,bQ⟩,ae,hm];simp
theorem aqO{n:Int}(h:0<=n/\n<65536):bt.num (bt.be 2 n)=n:=by simp[bt.be,bt.num];omega
def x5(k:Int):ao->fL×ao
 |a::b::r=>((a,b,(bt.jE 2 (min b.toNat (r.length/2)) r).map (kk k)),r.drop (2*min b.toNat (r.length/2)))
 |t=>((0,0,[]),t)
def AN(k:Int):ao->Bool
 |_::b::r=>decide (2*b<=(r.length:Int))&&(bt.jE 2 b.toNat r).all (qn k)
 |_=>false
def hE(k:Int)(t:ao):Nat->bW×ao
 |0=>([],t)
 |n+1=>((hE k t n).1++[(x5 k (hE k t n).2).1],(x5 k (hE k t n).2).2)
def jn(k:Int)(t:ao):Nat->Bool
 |0=>true
 |n+1=>jn k t n&&AN k (hE k t n).2
def xU(k:Int)(t:ao):Bool:=jn k t 8&&decide ((hE k t 8).2.length=0)
theorem ad8(k:Int)(t:ao):∀n,(hE k t n).1.length=n
 |0=>rfl
 |n+1=>by show((hE k t n).1++[_]).length=n+1;rw[e9,ad8 k t n];rfl
theorem num_nonneg{xs:ao}(ω:Bytes xs):0<=bt.num xs:=(bt.O8 xs ω).1
theorem av9{m:Nat}{r:ao}(ω:Bytes r):∀n∈bt.jE 2 m r,0<=n:=λn ar=>by obtain⟨i,_,rfl⟩:=gM.1 ar;exact num_nonneg ((ω.drop _).take _)
theorem asB{k:Int}{t:ao}(ω:Bytes t):Bytes (x5 k t).2:=by
 match t,ω with
 |[],ω=>exact ω
 |[a],ω=>exact ω
 |a::b::r,ω=>exact Bytes.drop (λx I=>ω x (h9 _ (h9 _ I))) _
theorem ad7{k:Int}{t:ao}(ω:Bytes t):∀n,Bytes (hE k t n).2
 |0=>ω
 |n+1=>asB (ad7 ω n)
theorem arY{k:Int}{m:Nat}{r:ao}(ω:Bytes r):∀q∈(bt.jE 2 m r).map (kk k),ki q:=λq ay=>by obtain⟨n,ar,rfl⟩:=gM.1 ay;exact arQ (av9 ω n ar)
theorem awa{k:Int}(hk:2<=k/\k<=16)(r:ao):∀l:List eg,(∀q∈l,ki q)->(∀x,some x∈l->(x.2:Int)<k)->bt.jE 2 l.length (jA k l++r)=l.map (AJ k):=by
 intro l ay I;apply qp;intro i;unfold bt.jE;rw[List.getElem?_map,List.getElem?_map];by_cases o:i<l.length
 ·rw[List.getElem?_range o,List.getElem?_eq_getElem o];simp only[jd];congr 1;unfold bt.mW;have ao1:jA k l++r=jA k (l.take i)++(Cm k l[i]++(jA k (l.drop (i+1))++r)):=by
   conv=>lhs;rw[<-zm i l,Ij o]
   unfold jA;rw[wG,zl];simp only[mc]
  have h1:(jA k (l.take i)).length=i*2:=by rw[H9,gY];omega
  rw[ao1,<-h1,LJ];have η:(Cm k l[i]).length=2:=by unfold Cm;rw[bt.sI]
  rw[<-η,PG];have ω:=VR hk (ay _ (hN o)) λx e=>I x (e▸hN o);exact aqO ⟨ω.2.2.1,ω.2.2.2⟩
 ·rw[List.getElem?_eq_none (by rw[CA];omega),List.getElem?_eq_none (by omega)];rfl
theorem asD{s k:Int}{R:bW}(ke:lV s k R)(aE:∀e∈R,lN e){e:fL}(he:e∈R)(r:ao):AN k (xY k e++r)=true/\x5 k (xY k e++r)=(e,r):=by
 have eo:=uQ.1 ke.1.1;have ed:=ke.1.2.1 e he;obtain⟨a,b,l⟩:=e;have an:(l.length:Int)=b:=ed.1;have ay:=(aE _ he).1;have I:∀x,some x∈l->(x.2:Int)<k:=λx I=>(ab3 ke he I).1;have hu:=awa (k:=k) (by omega) r l ay I;have aO:b.toNat=l.length:=by omega
 have hlen:(jA k l++r).length=2*l.length+r.length:=by rw[e9,H9]
 have aM:xY k (a,b,l)++r=a::b::(jA k l++r):=rfl;rw[aM];constructor
 ·show(decide (2*b<=((jA k l++r).length:Int))&&(bt.jE 2 b.toNat (jA k l++r)).all (qn k))=true;rw[aO,hu,hlen,bC (by omega),PL,Cy];intro n ar;obtain⟨q,KC,rfl⟩:=gM.1 ar;exact(VR (by omega) (ay q KC) λx e=>I x (e▸KC)).1
 ·have Kr:min b.toNat ((jA k l++r).length/2)=l.length:=by rw[hlen];omega
  show((a,b,(bt.jE 2 (min b.toNat ((jA k l++r).length/2)) (jA k l++r)).map (kk k)),(jA k l++r).drop (2*min b.toNat ((jA k l++r).length/2)))=((a,b,l),r);rw[Kr,hu,<-H9 k l,LJ,CD]
  have:l.map (kk k∘AJ k)=l:=by
   conv=>rhs;rw[<-List.map_id l]
   refine CE λq KC=>?_;exact(VR (by omega) (ay q KC) λx e=>I x (e▸KC)).2.1
  rw[this]
theorem ad9{s k:Int}{R:bW}(ke:lV s k R)(aE:∀e∈R,lN e):∀n,n<=R.length->jn k (e4 k R) n=true/\hE k (e4 k R) n=(R.take n,e4 k (R.drop n))
 |0,_=>⟨rfl,rfl⟩
 |n+1,h=>by
  obtain⟨h1,η⟩:=ad9 ke aE n (by omega);have ar:n<R.length:=by omega
  have aM:e4 k (R.drop n)=xY k R[n]++e4 k (R.drop (n+1)):=by rw[Ij ar];rfl
  obtain⟨g1,g2⟩:=asD ke aE (hN ar) (e4 k (R.drop (n+1)));constructor
  ·show(jn k (e4 k R) n&&AN k (hE k (e4 k R) n).2)=true;rw[h1,η];show(true&&AN k (e4 k (R.drop n)))=true;rw[aM,g1];rfl
  ·show((hE k (e4 k R) n).1++[(x5 k (hE k (e4 k R) n).2).1],(x5 k (hE k (e4 k R) n).2).2)=_;rw[η];show(R.take n++[(x5 k (e4 k (R.drop n))).1],(x5 k (e4 k (R.drop n))).2)=_;rw[aM,g2,lq ar]
theorem asC{s k:Int}{R:bW}(ke:lV s k R)(aE:∀e∈R,lN e)(dr:R.length=8):xU k (e4 k R)=true/\(hE k (e4 k R) 8).1=R:=by obtain⟨h1,η⟩:=ad9 ke aE 8 (by omega);rw[hr (by omega),List.drop_of_length_le (by omega)]at η;unfold xU;rw[h1,η];exact⟨rfl,rfl⟩
end Go.Proofs.YtcpdfhkhaekekaaGreat.G.cr
namespace Go.Proofs.YtcpdfhkhaekekaaGreat.G.cr
open Go.bI Go.RowKit
theorem arb{k:Int}{t:ao}:∀{n m:Nat},n<=m->jn k t m=true->jn k t n=true:=by
 intro n m h
 induction m with
 |zero=>
  intro h1;have aF:n=0:=by omega
  rw[aF];rfl
 |succ m cq=>
  intro h1;by_cases ar:n=m+1
  ·subst ar;exact h1
  ·have h1:(jn k t m&&AN k (hE k t m).2)=true:=h1;rw[kH]at h1;exact cq (by omega) h1.1
theorem Vy{k:Int}{t:ao}{i:Nat}(o:i<8)(bf:AN k (hE k t i).2=false):xU k t=false:=by
 cases h:xU k t with
 |false=>rfl
 |true=>
  unfold xU at h;rw[kH]at h;have h1:=arb (show i+1<=8 by omega) h.1;have h1:(jn k t i&&AN k (hE k t i).2)=true:=h1;rw[bf,Bool.and_false]at h1;cases h1
theorem Rv{n k:Int}(ar:1<=n/\n<65536)(hk:0<=k/\k<256)(w:World):yy.C (n-1) k w (φ λv w'=>∃e,v=.tuple #[.complex .f64 (eI (kk k n)) (eQ (kk k n)),.int .i64 e]/\(e=0↔qn k n=true)/\θ w w'):=by
 apply yy.ok;unfold yy.main;refine κ.use (MJ k w) ?_;rintro _ δ ⟨rfl,aM⟩;obtain rfl:=aM.symm
 try dsimp only[dH]
 have Ho:¬(1<=k/\k<=16/\n-1<24*k)->eI (kk k n)=0/\eQ (kk k n)=0/\qn k n=false:=λh=>by
  unfold kk qn;rw[aN (by omega),aN h,iJ (show¬n=0 by omega)];refine⟨acQ,acQ,?_⟩;by_cases h1:1<=k
  ·by_cases η:k<=16
   ·rw[iJ (show¬n-1<24*k fromλau=>h ⟨h1,η,au⟩)];simp
   ·rw[iJ η];simp
  ·rw[iJ h1];simp
 have fail:∀{e:Int}{w':World},¬(1<=k/\k<=16/\n-1<24*k)->e≠0->θ w w'->φ (λv w'=>∃e,v=.tuple #[.complex .f64 (eI (kk k n)) (eQ (kk k n)),.int .i64 e]/\(e=0↔qn k n=true)/\θ w w') (.returned (.tuple #[.complex .f64 0 0,.int .i64 e])) w':=λh he x=>by
  obtain⟨h1,η,au⟩:=Ho h;refine φ.mk ⟨_,?_,⟨λh=>absurd h he,λh=>?_⟩,x⟩
  ·rw[h1,η]
  ·rw[au]at h;cases h
 refine bA (λπ=>?_) λπ=>?_
 ·exact fail (e:=1) (λh=>by rw[bC h.1,bC h.2.1]at π;cases π) (by decide) (θ.refl _)
 have π:1<=k/\k<=16:=by simpa using π
 rw[iM (by omega),b3 (x:=24*k) (by omega) (by omega)];refine bA (λη=>?_) λη=>?_
 ·have η:=cd η;exact fail (e:=5) (λh=>by omega) (by decide) (θ.refl _)
 have η:=dh η;refine bO (bC (by omega)) (bO (bC (by omega)) λaZ=>?_);have dg:1<=k/\k<=16/\n-1<24*k:=⟨π.1,π.2,by omega⟩;have aM:Int.tdiv (n-1) k=(((n-1)/k).toNat:Int):=by
  rw[Int.tdiv_eq_ediv_of_nonneg (by omega)]
  have:=Int.ediv_nonneg (a:=n-1) (b:=k) (by omega) (by omega)
  omega
 have bz:Int.tmod (n-1) k=(((n-1)%k).toNat:Int):=by
  rw[Iv (by omega)]
  have:=PK (n-1) (show k≠0 by omega)
  omega
 have bQ:(n-1)/k<24:=Int.ediv_lt_of_lt_mul (by omega) dg.2.2;rw[aM,bz,b3 (by omega) (by omega)];have SL:kk k n=some (((n-1)/k).toNat,((n-1)%k).toNat):=by unfold kk;rw[aN (by omega),aY dg]
 refine φ.mk ⟨0,?_,⟨λ_=>?_,λ_=>rfl⟩,θ.drewN _ _⟩
 ·rw[SL];rfl
 ·unfold qn;rw[bC dg.1,bC dg.2.1,bC dg.2.2];simp
abbrev GM:fL:=(0,0,[])
def cw(R:bW):bW:=R++List.replicate (8-R.length) GM
theorem aml{R:bW}(h:R.length=8):cw R=R:=by unfold cw;rw[h];simp
theorem Z7{R:bW}{i:Nat}(h:R.length=i)(o:i<8)(e:fL):(cw R).set i e=cw (R++[e]):=by
 unfold cw;have h1:8-R.length=(8-(R++[e]).length)+1:=by rw[e9,AU];omega
 rw[h1,FH,CC _ _ (by omega),h,u4,It,mc];rfl
theorem ab7:∀(R:bW)(k:Nat)(a b:Int)(l:List eg),k<R.length->(kinds R).take (k*2)++two a b++(kinds R).drop (k*2+2)=kinds (R.set k (a,b,l))
 |[],k,a,b,l,h=>by simp at h
 |e::R,0,a,b,l,h=>by simp[kinds,two]
 |e::R,k+1,a,b,l,h=>by
  have:=ab7 R k a b l (by simpa using h)
  have aM:kinds (e::R)=.int .i64 e.1:: .int .i64 e.2.1::kinds R:=rfl;have bz:(k+1)*2=k*2+2:=by omega
  rw[aM,bz];show .int .i64 e.1:: .int .i64 e.2.1::((kinds R).take (k*2)++two a b++(kinds R).drop (k*2+2))=_;rw[this];rfl
theorem Wy{R:bW}{qs:aU}(dr:R.length=8){i:Nat}(o:i<8)(a b:Int)(l:List eg):(kinds R++qs).take (i*2)++two a b++(kinds R++qs).drop (i*2+(two a b).length)=kinds (R.set i (a,b,l))++qs:=by
 have hk:(kinds R).length=16:=by rw[AF,dr]
 have η:(two a b).length=2:=rfl;rw[η,pb (by omega),CB (by omega),<-ab7 R i a b l (by omega)];simp
structure fy(w:World)(R:bW)(ps:aU):Prop where
 len:R.length=8
 dE:ps.length=8
 row:∀(k:Nat)(e:fL),R[k]?=some e->∃(p:J)(c:Nat),ps[k]?=some (Value.slice p e.2.2.length c)/\μ w 0 eA 1 p e.2.2.length c (e.2.2.map dT)
 ok:∀e∈R,lN e
theorem fy.at{w:World}{R:bW}{ps:aU}(h:fy w R ps):ie w R ps:=
 ⟨h.len,h.dE,λk e he=>by obtain⟨p,c,h1,η⟩:=h.row k e he;exact⟨p,c,h1,η.cells⟩,h.ok⟩
theorem fy.aC{w w':World}{R:bW}{ps:aU}(h:fy w R ps){S:a1}(k:Kp w w' S)(ψ:∀i,Typed w eA i->i<w.heap.size->¬S i):fy w' R ps:=
 ⟨h.len,h.dE,λj e he=>by obtain⟨p,c,h1,η⟩:=h.row j e he;exact⟨p,c,h1,η.aC k λx I=>ψ _ (η.typed I).1 (η.typed I).2.2⟩,h.ok⟩
theorem fy.ex{w w':World}{R:bW}{ps:aU}(h:fy w R ps)(x:θ w w'):fy w' R ps:=h.aC x λ_ _ _ h=>h
theorem fy.cI{w w':World}{R:bW}{ps:aU}(h:fy w R ps){S:a1}(k:Kp w w' S)(f:TypeId)(ψ:∀i,S i->Typed w f i)(cc:eA≠f):fy w' R ps:=
 h.aC k λi aO _ o=>aO.ne (ψ i o) cc rfl
theorem fy.set{w:World}{R:bW}{ps:aU}(h:fy w R ps){i:Nat}(o:i<8){e:fL}(he:lN e){p:J}{n c:Nat}(ar:e.2.2.length=n)(γ:μ w 0 eA 1 p n c (e.2.2.map dT)):fy w (R.set i e) (ps.set i (.slice p n c)):=by
 subst ar;refine⟨by rw[jB];exact h.len,by rw[jB];exact h.dE,λk c6 hk=>?_,λc6 dO=>?_⟩
 ·rw[List.getElem?_set]at hk⊢;by_cases qd:i=k
  ·rw[aY qd]at hk⊢;subst qd;rw[aY (by rw[h.len];exact o)]at hk;rw[aY (by rw[h.dE];exact o)];cases hk;exact⟨p,c,rfl,γ⟩
  ·rw[aN qd]at hk⊢;exact h.row k c6 hk
 ·rcases pH dO with h1|h1
  ·exact h.ok c6 h1
  ·rw[h1];exact he
def vr(l:aU):Prop:=∀z∈l,z.oneCell'=true
theorem vr.set{l:aU}(h:vr l)(i:Nat){v:Value}(aL:v.oneCell'=true):vr (l.set i v):=λz aI=>by
 rcases pH aI with h1|h1
 ·exact h z h1
 ·rw[h1];exact aL
theorem vr.app{l m:aU}(h:vr l)(k:vr m):vr (l++m):=λz aI=>(iI.1 aI).elim (h z) (k z)
theorem OU(R:bW):vr (kinds R):=λz aI=>by obtain⟨e,_,he⟩:=pc.1 aI;exact I0 _ _ z he
theorem fy.ari{w:World}{R:bW}{ps:aU}(h:fy w R ps):vr ps:=λz aI=>h.at.one z (iI.2 (.inr aI))
theorem awN:hA=bN (cw []) (List.replicate 8 (.slice none 0 0)):=rfl
theorem fy.zero(w:World):fy w (cw []) (List.replicate 8 (.slice none 0 0)):=by
 refine⟨rfl,rfl,λk e he=>?_,λe he=>?_⟩
 ·have aI:e=GM:=by
   have:=eS he
   exact u0 (n:=8) this
  subst aI;refine⟨none,0,?_,μ.nil _ _ _ _⟩
  have:k<8:=(List.getElem?_eq_some_iff.1 he).1
  rw[List.getElem?_replicate,aY this];rfl
 ·have aI:e=GM:=u0 (n:=8) he;subst aI;exact⟨λq ay=>(by cases ay),(by decide),⟨by decide,by decide⟩,⟨by decide,by decide⟩⟩
theorem ar4{w:World}{b B i j:Nat}{K qs:aU}{p:J}{c:Nat}{l:aU}{q:eg}(o:i<8)(jW:K.length=16)(aoR:qs.length=8)(own:μ w 0 bX 24 (some ⟨b,0,none⟩) 1 1 (K++qs))(ay:qs[i]?=some (.slice p j c))(row:μ w B eA 1 p j c l)(χ:j<=1000)(dR:B<=w.heap.size)
  {N:J->Nat->Nat->ai}
  (ai6:∀bU aT dJ,Kp w dJ (λx=>x=b\/B<=x)->μ dJ 0 bX 24 (some ⟨b,0,none⟩) 1 1 (K++qs.set i (.slice bU (j+1) aT))->μ dJ B eA 1 bU (j+1) aT (l++[dT q])->N bU j aT dJ):
  ο (decide (0<=(i:Int))) (ο (decide ((i:Int)<(8:Int))) (
   ∃(aX:J)(br:Nat)(c2:Nat),w.cell? ((⟨b,16,none⟩:Addr).add ((i:Int).toNat*1))=some (Value.slice aX br c2)/\
   (aR w #[(Value.complex .f64 (eI q) (eQ q))] eA λaf cn=>
    gD cn aX br c2 1 (a8 cn (some ⟨af,0,none⟩)) eA 1 16 #[(Value.complex .f64 0 0)] λbl bJ de=>
    ο (decide (0<=(i:Int))) (ο (decide ((i:Int)<(8:Int))) (
     (de.cell? ((⟨b,16,none⟩:Addr).add ((i:Int).toNat*1))).isSome=true/\de.frozen? ((⟨b,16,none⟩:Addr).add ((i:Int).toNat*1))=false/\∀dJ,dJ=de.setCell ((⟨b,16,none⟩:Addr).add ((i:Int).toNat*1)) (Value.slice bl (br+1) bJ)->N bl br bJ dJ))))):=by
 refine bO (bC (by omega)) (bO (bC (by omega)) ?_);rw[cP,zZ];have qU:(K++qs)[16+i]?=some (.slice p j c):=by rw[List.getElem?_append_right (by omega),jW,Iw];exact ay
 refine⟨p,j,c,own.at qU,?_⟩;rintro af cn rfl rfl;have cm:=μ.new (w:=w) [dT q] eA;have aA:=θ.alloc w (.cells [dT q].toArray eA);have iS:w.alloc (.cells #[.complex .f64 (eI q) (eQ q)] eA)=w.alloc (.cells [dT q].toArray eA):=rfl;rw[iS];generalize w.alloc (.cells [dT q].toArray eA)=cn at cm aA⊢;have Wh:=row.ex aA;refine kT (B:=B) Wh (fo dR aA.size) [dT q] cm.cells rfl (by intro z aI;rw[lp]at aI;subst aI;rfl) rfl (by omega) (by omega) ?_;intro bl bJ de o3 qX;refine bO (bC (by omega)) (bO (bC (by omega)) ?_);have j1:∀i,(∃y,p=some y/\y.block=i)->Typed cn eA i:=λi⟨y,e,o⟩=>o▸(Wh.typed e).1;have adq:=(own.ex aA).cI qX eA j1 (by decide);refine adq.dj (j:=16+i) (by omega) (by rfl) λdJ oY r3=>?_;have lM:(K++qs).set (16+i) (.slice bl (j+1) bJ)=K++qs.set i (.slice bl (j+1) bJ):=by rw[CC _ _ (by omega),jW,Iw]
 rw[lM]at r3;have tb:∀i,i=b->Typed de bX i:=λi o=>by rw[o];exact(adq.typed rfl).1
 refine ai6 bl bJ dJ ?_ r3 (o3.cI oY bX tb (by decide));refine Kp.trans (aA.aC λx=>x=b\/B<=x) (Kp.trans qX oY (U:=λx=>x=b\/B<=x) (λi _⟨y,e,o⟩=>?_) λi _ o=>.inl o) (λ_ _ h=>h) λ_ _ h=>h
 have:=(Wh.ge e).1
 exact .inr (by omega)
end Go.Proofs.YtcpdfhkhaekekaaGreat.G.cr
namespace Go.Proofs.YtcpdfhkhaekekaaGreat.G.cr
open Go.bI Go.RowKit
theorem awc(m:Nat)(r:ao):bt.jE 2 m (r.take (2*m))=bt.jE 2 m r:=by unfold bt.jE;refine CE λi o=>?_;have o:=nF.1 o;unfold bt.mW;rw[FE,AX];congr 2;omega
theorem ahA{m j:Nat}{r:ao}(χ:j<m):(bt.jE 2 m r)[j]?=some (bt.mW 2 r j):=by unfold bt.jE;rw[List.getElem?_map,List.getElem?_range χ];rfl
theorem ak6{r:ao}(ω:Bytes r)(j:Nat):0<=bt.mW 2 r j/\bt.mW 2 r j<65536:=by
 unfold bt.mW;have h:=bt.O8 ((r.drop (j*2)).take 2) ((ω.drop _).take _);have an:((r.drop (j*2)).take 2).length<=2:=List.length_take_le _ _
 have:=bt.VU an
 omega
def Rz(k:Int)(t:ao)(w:World)(v:Value)(w':World):Prop:=
 θ w w'/\((xU k t=true/\∃ps,v=.tuple #[.agg (bN (hE k t 8).1 ps).toArray,.bool true]/\fy w' (hE k t 8).1 ps)\/
  (xU k t=false/\∃cs:ah,cs.size=24/\vr cs.toList/\v=.tuple #[.agg cs,.bool false]))
theorem atH(p:J)(n c:Nat)(t:ao)(s k:Int)(w:World)(π:a8 w p (bg t))(ar:t.length=n)(jZ:n<=c)(an:n<=100000)(ω:Bytes t)(hk:0<=k/\k<256):
  jl.C p n c s k w (φ (Rz k t w)):=by
 subst ar;apply jl.ok;unfold jl.main;rintro ε δ rfl rfl ι υ rfl rfl;have ρ:=μ.new (w:=w) (two s k) b5;have ζ:=θ.alloc w (.cells (two s k).toArray b5);have aM:w.alloc (.cells #[.int .i64 s,.int .i64 k] b5)=w.alloc (.cells (two s k).toArray b5):=rfl;rw[aM];generalize w.heap.size=ε at ρ⊢;generalize w.alloc (.cells (two s k).toArray b5)=δ at ρ ζ⊢;have az:=(μ.new (w:=δ) hA bX).lower (da _);have τ:=θ.alloc δ (.cells hA.toArray bX);have ee:w.heap.size<=δ.heap.size:=ζ.size;have aaN:ε<δ.heap.size:=(ρ.ge rfl).2;generalize δ.heap.size=ι at az ee aaN⊢;have al7:δ.alloc (.cells #[.int .i64 0,.int .i64 0,.int .i64 0,.int .i64 0,.int .i64 0,.int .i64 0,.int .i64 0,.int .i64 0,.int .i64 0,.int .i64 0,.int .i64 0,.int .i64 0,.int .i64 0,.int .i64 0,.int .i64 0,.int .i64 0,.slice none 0 0,.slice none 0 0,.slice none 0 0,.slice none 0 0,.slice none 0 0,.slice none 0 0,.slice none 0 0,.slice none 0 0] bX)=δ.alloc (.cells hA.toArray bX):=rfl;rw[al7];have ρ:=ρ.ex τ;generalize δ.alloc (.cells hA.toArray bX)=υ at ρ az τ⊢;have iz:=ζ.trans τ;rw[awN]at az
 have bad:∀{w':World}{xs:aU},θ w w'->xs.length=24->vr xs->μ w' 0 bX 24 (some ⟨ι,0,none⟩) 1 1 xs->xU k t=false->
   ∃(aQ:ah),aQ.size=24/\aw w' (⟨ι,0,none⟩:Addr) aQ.toList/\
   (ο (decide (aQ.size=24)) (hG w' (⟨ι,0,none⟩:Addr) aQ.toList/\∀aa,aa=w'.setCells (⟨ι,0,none⟩:Addr).block (⟨ι,0,none⟩:Addr).off aQ.toList->
     (∃(bK:ah),bK.size=24/\aw aa (⟨ι,0,none⟩:Addr) bK.toList/\φ (Rz k t w) (.returned (Value.tuple #[(Value.agg bK),(Value.bool false)])) aa))):=by
  intro w' xs I oV wa own bf;refine⟨xs.toArray,oV,own.cells,bO (bC oV) ?_⟩;refine own.put oV wa λaa b7 bu=>?_;exact⟨xs.toArray,oV,bu.cells,φ.mk ⟨I.then b7 λi o=>by omega,.inr ⟨bf,xs.toArray,oV,wa,rfl⟩⟩⟩
 unfold jl.bd
 refine⟨λcj cb cu t3 t4 t14 w'=>ε=t3/\ι=t4/\0<=t14/\t14<=8/\jn k t t14.toNat=true/\(hE k t t14.toNat).2.length=cb/\cb<=cu/\cb<=100000/\a8 w cj (bg (hE k t t14.toNat).2)/\θ w w'/\μ w' 0 b5 2 (some ⟨ε,0,none⟩) 1 1 (two s k)/\
   ∃ps,μ w' 0 bX 24 (some ⟨ι,0,none⟩) 1 1 (bN (cw (hE k t t14.toNat).1) ps)/\fy w' (cw (hE k t t14.toNat).1) ps/\∀j,t14.toNat<=j->j<8->ps[j]?=some (.slice none 0 0),
  λcj cb cu t3 t4 t14 w'=>(8-t14).toNat,⟨rfl,rfl,by omega,by omega,rfl,rfl,jZ,an,π,iz,ρ.lower (da _),_,az,fy.zero _,λj _ χ=>by rw[List.getElem?_replicate,aY χ]⟩,?_⟩
 rintro cj cb cu _ _ t14 w' ⟨rfl,rfl,aF,dr,Uh,ar,anC,qV,Oj,I,aru,ps,own,b0,B7⟩;unfold jl.ε;obtain⟨i,rfl⟩:=eR aF;rw[cP]at Uh ar Oj own b0 B7;have Oi:=ad7 (k:=k) ω i;have Tp:=ad8 k t i;generalize pB:(hE k t i).2=fs at ar Oj Oi;subst ar;refine bA (λbQ=>?_) λbQ=>?_
 ·have bQ:=cd bQ;have o:i<8:=by omega
  have abE:=b0.dE;have wa:vr (bN (cw (hE k t i).1) ps):=b0.at.one;refine bA (λjY=>?_) λjY=>?_
  ·have jY:=cd jY;refine bad I b0.at.dX wa own (Vy o ?_);rw[pB]
   match fs,jY with
   |[],_=>rfl
   |[a],_=>rfl
   |a::b::r,h=>simp only[List.length_cons]at h;omega
  have jY:=dh jY;obtain⟨a,b,r,rfl⟩:∃a b r,fs=a::b::r:=by
   match fs,jY with
   |[],h=>simp at h
   |[a],h=>simp at h
   |a::b::r,_=>exact⟨a,b,r,rfl⟩
  have aP:=Oi a (by simp);have BZ:=Oi b (by simp);have Tz:Bytes r:=λx I=>Oi x (h9 _ (h9 _ I));have axI:(a::b::r).length=r.length+2:=rfl;have d:=θ.drew w';have HJ:=I.trans d;have yP:a8 w'.drew cj (bg (a::b::r)):=Oj.ex HJ;obtain⟨xg,rfl,oo⟩:=yP.one (v:=.int .u8 a) rfl;refine bO (bC (by omega)) ?_
  try dsimp only[bj]
  refine⟨a,oo,bO (bC (by omega)) ?_⟩;refine⟨b,yP 1 _ rfl,?_⟩;rintro aH ax rfl rfl;have bu:=μ.new (w:=w'.drew) [.int .i64 0,.int .i64 0] jq;have aA:=θ.alloc w'.drew (.cells [Value.int .i64 0,.int .i64 0].toArray jq);have jc:w'.heap.size<=w'.drew.heap.size:=d.size;have axn:ι<w'.heap.size:=(own.ge rfl).2;generalize w'.drew.heap.size=aH at bu jc⊢;generalize w'.drew.alloc (.cells #[.int .i64 0,.int .i64 0] jq)=ax at bu aA⊢;have aaY:a8 ax (some xg) (bg (a::b::r)):=a8.ex aA yP;have Jy:ax.cell? xg=some (.int .u8 a):=by
   have:=aaY 0 _ rfl
   rwa[show xg.add 0=xg from Addr.add_zero' xg]at this
  refine⟨rfl,aaY 1 _ rfl,Jy,?_⟩;rw[b3 (x:=a) (by omega) (by omega),b3 (x:=b) (by omega) (by omega)];refine bu.put (cs:=two a b) (by rfl) (I0 _ _) λaG ea cz=>?_;have al:θ w' aG:=(d.trans aA).then ea λi o=>by omega
  refine bO (bC (by omega)) ?_;refine⟨b,cz.at (by rfl),?_⟩;rw[b3 (x:=2*b) (by omega) (by omega)];refine bA (λψ=>?_) λψ=>?_
  ·have ψ:=cd ψ;refine bad (I.trans al) b0.at.dX wa (own.ex al) (Vy o ?_);rw[pB];show(decide (2*b<=(r.length:Int))&&_)=false;rw[iJ (by omega)];rfl
  have ψ:=dh ψ;have KE:2*b<=(r.length:Int):=by omega
  refine⟨b,cz.at (by rfl),?_⟩;rw[b3 (x:=2*b) (by omega) (by omega)];refine bO (bC (by omega)) (bO (bC (by omega)) ?_);have ZP:(2*b).toNat=2*b.toNat:=by omega
  rw[ZP,IL];have aa0:a8 w (dA (some xg) cu 2 1) (bg r):=by
   have:=from_ Oj anC 2
   exact this
  have TE:a8 aG (dA (some xg) cu 2 1) (bg (r.take (2*b.toNat))):=by
   have:=a8.take (a8.ex (I.trans al) aa0) (2*b.toNat)
   unfold bg at this⊢
   rwa[<-wF]at this
  have EN:(r.take (2*b.toNat)).length=2*b.toNat:=by rw[gY];omega
  refine κ.use (bt.ajY _ _ (cu-2) (r.take (2*b.toNat)) 2 aG TE EN (by omega) (by omega) (Tz.take _)) ?_;rintro _ bk ⟨ad,aD,c1,rfl,qf,eM,aV⟩
  try dsimp only[bZ,cC,cD,bj,bH,er]
  have mG:bt.I2 2 (r.take (2*b.toNat))=bt.jE 2 b.toNat r:=by
   have:=(bt.ahB (k:=2) (by omega) (by omega) 0 (r.take (2*b.toNat))).2
   have bz:((2:Nat):Int)=2:=rfl;rw[bz]at this;rw[this,EN,aY (by omega)]
   have:2*b.toNat/2=b.toNat:=by omega
   rw[this,awc]
  rw[mG]at eM;have Kt:aD=b.toNat:=by
   have:=eM.1
   unfold bt.v64 at this;rw[jP,bt.W1]at this;omega
  subst Kt;have iE:=al.trans aV;have Pm:=own.ex iE;have ao4:=b0.ex iE;have VG:=aru.ex iE;have ac5:=cz.ex aV;have Aw:=I.trans iE;have N9:ι<bk.heap.size:=(Pm.ge rfl).2;have Tw:aH<bk.heap.size:=(ac5.ge rfl).2;have aaO:ε<bk.heap.size:=(VG.ge rfl).2;have aoJ:∀x,ad=some x->x.block<bk.heap.size:=λx I=>(eM.ge I).2;have aaF:(kinds (cw (hE k t i).1)).length=16:=b0.at.EW;have aaQ:ε≠ι:=by omega
  unfold jl.fm
  refine⟨λcj CK IQ t3 t4 t6 t7 t14 zA zz A8 t49 t50 hY=>cj=dA (some xg) cu 2 1/\CK=r.length/\IQ=cu-2/\ε=t3/\ι=t4/\(i:Int)=t6/\aH=t7/\(i:Int)=t14/\ad=zA/\b.toNat=zz/\((b.toNat:Nat):Int)=t49/\0<=t50/\t50<=b.toNat/\(∀j,j<t50.toNat->qn k (bt.mW 2 r j)=true)/\Kp bk hY (λx=>x=ι\/bk.heap.size<=x)/\
    ∃p c,μ hY 0 bX 24 (some ⟨ι,0,none⟩) 1 1 (kinds (cw (hE k t i).1)++ps.set i (.slice p t50.toNat c))/\μ hY bk.heap.size eA 1 p t50.toNat c ((((List.range t50.toNat).map (bt.mW 2 r)).map (kk k)).map dT),
   λcj CK IQ t3 t4 t6 t7 t14 zA zz A8 t49 t50 hY=>(b.toNat-t50).toNat,⟨rfl,rfl,rfl,rfl,rfl,rfl,rfl,rfl,rfl,rfl,rfl,by omega,by omega,λj χ=>by simp at χ,Kp.refl _ _,none,0,?_,μ.nil _ _ _ _⟩,?_⟩
  ·have:ps.set i (.slice none (0:Int).toNat 0)=ps:=by
    apply qp;intro j;rw[List.getElem?_set];split
    ·rename_i h;subst h;rw[aY (by omega),B7 i (eF _) o];rfl
    ·rfl
   rw[this];exact Pm
  rintro _ _ _ _ _ _ _ _ _ _ A8 _ t50 hY ⟨rfl,rfl,rfl,rfl,rfl,rfl,rfl,rfl,rfl,rfl,rfl,i0,i1,Up,n3,p,c,Lh,row⟩;unfold jl.ι;obtain⟨j,rfl⟩:=eR i0;rw[cP]at Up Lh row;have xJ:θ w hY:=Aw.then n3 λx I=>by have:=Aw.size;omega
  have KU:∀x,x<bk.heap.size->x≠ι->¬(x=ι\/bk.heap.size<=x):=λx h1 η h=>by omega
  refine bA (λuE=>?_) λuE=>?_
  ·have uE:=cd uE;have χ:j<b.toNat:=by omega
   have aoU:a8 hY ad (bt.v64 (bt.jE 2 b.toNat r)):=eM.cells.aC n3 λx I=>KU _ (aoJ x I) (λh=>by have t1:=(eM.typed I).1;have t2:=(Pm.typed rfl).1;exact t1.ne t2 (by decide) h)
   obtain⟨ap,rfl,asQ⟩:=aoU.many (j:=j) (v:=.int .i64 (bt.mW 2 r j)) (by unfold bt.v64;rw[List.getElem?_map,ahA χ];rfl);refine bO (bC i0) (bO (bC uE) ?_)
   try dsimp only[bj]
   rw[cP,eG];refine⟨_,asQ,?_⟩;have anE:=ak6 Tz j;have lh:IntKind.i64.wrap ((j:Int)+1)=((j+1:Nat):Int):=by rw[b3 (by omega) (by omega)];rfl
   have ks:((j+1:Nat):Int).toNat=j+1:=rfl;have aoI:bk.heap.size<=hY.heap.size:=n3.size
   have acD:∀{aa:World},θ hY aa->qn k (bt.mW 2 r j)=true->∀{q:eg},q=kk k (bt.mW 2 r j)->
     jl.aZ (dA (some xg) cu 2 1) r.length (cu-2) ε ι (i:Int) aH (eI q) (eQ q) (i:Int) (some ap) b.toNat A8 ((b.toNat:Nat):Int) (j:Int) aa (φ (Rz k t w)) (λatT CK IQ atZ ya sk w'=>(ε=atZ/\ι=ya/\0<=sk/\sk<=8/\jn k t sk.toNat=true/\(hE k t sk.toNat).2.length=CK/\CK<=IQ/\CK<=100000/\a8 w atT (bg (hE k t sk.toNat).2)/\θ w w'/\μ w' 0 b5 2 (some ⟨ε,0,none⟩) 1 1 (two s k)/\
   ∃ps,μ w' 0 bX 24 (some ⟨ι,0,none⟩) 1 1 (bN (cw (hE k t sk.toNat).1) ps)/\fy w' (cw (hE k t sk.toNat).1) ps/\∀j,sk.toNat<=j->j<8->ps[j]?=some (.slice none 0 0))/\(8-sk).toNat<(8-(i:Int)).toNat) (λcj CK IQ t3 t4 t6 t7 t14 zA zz A8 t49 t50 hY=>(cj=dA (some xg) cu 2 1/\CK=r.length/\IQ=cu-2/\ε=t3/\ι=t4/\(i:Int)=t6/\aH=t7/\(i:Int)=t14/\some ap=zA/\b.toNat=zz/\((b.toNat:Nat):Int)=t49/\0<=t50/\t50<=b.toNat/\(∀j,j<t50.toNat->qn k (bt.mW 2 r j)=true)/\Kp bk hY (λx=>x=ι\/bk.heap.size<=x)/\
    ∃p c,μ hY 0 bX 24 (some ⟨ι,0,none⟩) 1 1 (kinds (cw (hE k t i).1)++ps.set i (.slice p t50.toNat c))/\μ hY bk.heap.size eA 1 p t50.toNat c ((((List.range t50.toNat).map (bt.mW 2 r)).map (kk k)).map dT))/\(b.toNat-t50).toNat<(b.toNat-(j:Int)).toNat):=by
    intro aa ab aoC q ay;unfold jl.aZ;refine ar4 (q:=q) o aaF (by rw[jB];exact abE) (Lh.ex ab) (by rw[List.getElem?_set,aY rfl,aY (by omega)]) (row.ex ab) (by omega) (fo aoI ab.size) λbU aT dJ oY r3 asz=>?_;rw[List.set_set]at r3;rw[lh];refine⟨⟨rfl,rfl,rfl,rfl,rfl,rfl,rfl,rfl,rfl,rfl,rfl,by omega,by omega,?_,(n3.gr (ab.aC _)).gr oY,bU,aT,by rw[ks];exact r3,?_⟩,by((try dsimp only);omega)⟩
    ·intro KR e3;rw[ks]at e3;by_cases he:KR=j
     ·rw[he];exact aoC
     ·exact Up KR (by omega)
    ·rw[ks,u2];simp only[qt,x1,List.map_nil];rw[<-ay];exact asz
   refine bA (λwc=>?_) λwc=>?_
   ·have wc:=cd wc;have v7:hY.cell? (⟨ε,1,none⟩:Addr)=some (.int .i64 k):=(VG.aC n3 λx I=>by cases I;exact KU _ aaO aaQ).at (by rfl);refine⟨k,v7,?_⟩;rw[b3 (x:=bt.mW 2 r j-1) (by omega) (by omega)];refine κ.use (Rv (n:=bt.mW 2 r j) ⟨by omega,anE.2⟩ hk hY) ?_;rintro _ ca ⟨e,rfl,he,cv⟩
    try dsimp only[bZ,cC,cD,bj,bH,rH]
    refine bA (λvW=>?_) λvW=>?_
    ·have vW:¬e=0:=by simpa using vW
     have n4:qn k (bt.mW 2 r j)=false:=by
      cases hp:qn k (bt.mW 2 r j)with
      |false=>rfl
      |true=>exact absurd (he.2 hp) vW
     refine bad (xJ.trans cv) ?_ ((OU _).app (b0.ari.set _ rfl)) (Lh.ex cv) (Vy o ?_)
     ·rw[e9,aaF,jB,abE]
     ·rw[pB];show(_&&(bt.jE 2 b.toNat r).all (qn k))=false
      have:(bt.jE 2 b.toNat r).all (qn k)=false:=by rw[List.all_eq_false];exact⟨_,eS (ahA χ),by rw[n4];simp⟩
      rw[this,Bool.and_false]
    ·have vW:e=0:=by simpa using vW
     exact acD cv (he.1 vW) rfl
   ·have wc:=dh wc;have aI:bt.mW 2 r j=0:=by omega
    have ay:(none:eg)=kk k (bt.mW 2 r j):=by rw[aI];rfl
    exact acD (θ.refl _) (by rw[aI];rfl) ay
  ·have uE:=dh uE;have χ:j=b.toNat:=by omega
   subst χ;unfold jl.bP;have DX:=θ.drew hY;have Vu:μ hY.drew aH jq 2 (some ⟨aH,0,none⟩) 1 1 (two a b):=(ac5.aC n3 λx I=>by cases I;exact KU _ Tw (show aH≠ι by omega)).ex DX;refine⟨(two a b).toArray,rfl,Vu.cells,b,Vu.at (by rfl),?_⟩;rw[b3 (x:=2*b) (by omega) (by omega)];refine bO (bC (by omega)) (bO (bC (by omega)) (bO (bC aF) (bO (bC bQ) (bO (by rfl) ?_))));rw[cP,ZP];refine putAt (Lh.ex DX) (i*2) (ys:=two a b) (by show i*2+2<=_;omega) (I0 _ _) λep rW tg=>?_;have cc:aH≠ι:=by omega
   have aqZ:=Vu.aC rW (λy ag=>by cases ag;exact cc);refine⟨aqZ.at (by rfl),?_⟩;rw[Wy b0.len o a b ((bt.jE 2 b.toNat r).map (kk k))]at tg;rw[GL o];have ks:((i+1:Nat):Int).toNat=i+1:=rfl;have Kr:min b.toNat (r.length/2)=b.toNat:=by omega
   have HE:x5 k (a::b::r)=((a,b,(bt.jE 2 b.toNat r).map (kk k)),r.drop (2*b.toNat)):=by show((a,b,(bt.jE 2 (min b.toNat (r.length/2)) r).map (kk k)),r.drop (2*min b.toNat (r.length/2)))=_;rw[Kr]
   have ao9:hE k t (i+1)=((hE k t i).1++[(a,b,(bt.jE 2 b.toNat r).map (kk k))],r.drop (2*b.toNat)):=by show((hE k t i).1++[(x5 k (hE k t i).2).1],(x5 k (hE k t i).2).2)=_;rw[pB,HE]
   have aoE:AN k (a::b::r)=true:=by show(decide (2*b<=(r.length:Int))&&(bt.jE 2 b.toNat r).all (qn k))=true;rw[bC KE,PL,Cy];intro n ar;obtain⟨UT,aof,rfl⟩:=gM.1 ar;exact Up UT (nF.1 aof)
   have aoG:jn k t (i+1)=true:=by show(jn k t i&&AN k (hE k t i).2)=true;rw[Uh,pB,aoE];rfl
   have Kj:lN (a,b,(bt.jE 2 b.toNat r).map (kk k)):=⟨arY Tz,by show((bt.jE 2 b.toNat r).map (kk k)).length<=1000;rw[jP,bt.W1];omega,aP,BZ⟩;rw[ks,ao9];dsimp only;have tb:∀x,x=ι->Typed hY.drew bX x:=λx I=>by rw[I];exact((Lh.ex DX).typed rfl).1
   refine⟨⟨rfl,rfl,by omega,by omega,aoG,?_,?_,by omega,?_,(xJ.trans DX).then rW λx I=>by omega,?_,ps.set i (.slice p b.toNat c),?_,?_,?_⟩,by((try dsimp only);omega)⟩
   ·rw[kI]
   ·omega
   ·exact from_ aa0 (by omega) (2*b.toNat)
   ·exact(((VG.aC n3 λx I=>by cases I;exact KU _ aaO aaQ).ex DX).cI rW bX tb (by decide))
   ·unfold bN;rw[<-Z7 Tp o];exact tg
   ·rw[<-Z7 Tp o];have ao3:fy ep (cw (hE k t i).1) ps:=((ao4.aC n3 λx aO I=>KU _ I λh=>aO.ne (Pm.typed rfl).1 (by decide) h).ex DX).cI rW bX tb (by decide);refine ao3.set o Kj (by show((bt.jE 2 b.toNat r).map (kk k)).length=_;rw[jP,bt.W1]) ?_;exact((row.lower (da _)).ex DX).cI rW bX tb (by decide)
   ·intro UT h1 η;rw[List.getElem?_set,aN (by omega)];exact B7 UT (by omega) η
 ·have bQ:=dh bQ;obtain rfl:i=8:=by omega
  unfold jl.b7;have vZ:cw (hE k t 8).1=(hE k t 8).1:=aml Tp;rw[vZ]at own b0;have gg:=b0.at.dX;refine⟨(bN (hE k t 8).1 ps).toArray,by rw[fp];exact gg,own.cells,bO (bC (by rw[fp];exact gg)) ?_⟩;have tb:∀x,x=ι->Typed w' bX x:=λx I=>by rw[I];exact(own.typed rfl).1
  refine own.put gg b0.at.one λeO ta r4=>?_;refine⟨(bN (hE k t 8).1 ps).toArray,by rw[fp];exact gg,r4.cells,φ.mk ⟨I.then ta λi o=>by omega,?_⟩⟩;have dM:xU k t=decide (fs.length=0):=by unfold xU;rw[Uh,pB,PL]
  by_cases aF:fs.length=0
  ·left;rw[dM,bC aF];refine⟨rfl,ps,?_,b0.cI ta bX tb (by decide)⟩;rw[aF];rfl
  ·right;rw[dM,iJ aF];refine⟨rfl,(bN (hE k t 8).1 ps).toArray,by rw[fp];exact gg,b0.at.one,?_⟩
   have:(((fs.length:Nat):Int)==0)=false:=by simpa using aF
   rw[this]
end Go.Proofs.YtcpdfhkhaekekaaGreat.G.cr
namespace Go.Proofs.YtcpdfhkhaekekaaGreat.G.cr
open Go.bI Go.RowKit
structure qL(w:World)(P:J)(n c:Nat)(pgs:List ao):Prop where
 len:pgs.length=n
 room:n<=c
 at_:∃ps:aU,a8 w P ps/\ps.length=n/\∀(i:Nat)(bm:ao),pgs[i]?=some bm->∃(q:J)(m d:Nat),ps[i]?=some (.slice q m d)/\bm.length=m/\m<=d/\a8 w q (bg bm)
theorem qL.ex{w w':World}{P:J}{n c:Nat}{pgs:List ao}(h:qL w P n c pgs)(x:θ w w'):qL w' P n c pgs:=by obtain⟨h1,η,ps,au,bV,c9⟩:=h;refine⟨h1,η,ps,au.ex x,bV,λi bm o=>?_⟩;obtain⟨q,m,d,g1,g2,g3,g4⟩:=c9 i bm o;exact⟨q,m,d,g1,g2,g3,g4.ex x⟩
theorem qL.get{w:World}{P:J}{n c:Nat}{pgs:List ao}(h:qL w P n c pgs){i:Nat}(o:i<n):∃a bm q d,P=some a/\pgs[i]?=some bm/\w.cell? (a.add i)=some (.slice q bm.length d)/\bm.length<=d/\a8 w q (bg bm):=by obtain⟨h1,η,ps,au,bV,c9⟩:=h;have bL:=List.getElem?_eq_getElem (l:=pgs) (i:=i) (by omega);obtain⟨q,m,d,g1,rfl,g3,g4⟩:=c9 i _ bL;obtain⟨a,aP,σ⟩:=au.many g1;exact⟨a,_,q,d,aP,bL,σ,g3,g4⟩
theorem qL.rest{w:World}{a:Addr}{n c:Nat}{pgs:List ao}(h:qL w (some a) n c pgs)(h1:1<=n):qL w (dA (some a) c 1 1) (n-1) (c-1) pgs.tail:=by
 obtain⟨uB,η,ps,au,bV,c9⟩:=h;refine⟨by rw[FG];omega,by omega,ps.tail,?_,by rw[FG];omega,λi bm o=>?_⟩
 ·have:=au.slice c 1 ps.length (by omega)
  rw[hr (by rw[kI];omega),List.drop_one]at this;exact this
 ·rw[List.getElem?_tail]at o⊢;exact c9 (i+1) bm o
theorem jG.Po{w:World}{B B':Nat}{p:J}{n c:Nat}{ps:aU}{pgs:List ao}(γ:μ w B gU 1 p n c ps)(h:jG w B' ps pgs):qL w p n c pgs:=by have an:=γ.1;refine⟨by have:=h.len;omega,γ.2.1,ps,γ.cells,by omega,λi bm o=>?_⟩;obtain⟨q,d,g1,g2⟩:=h.row i bm o;exact⟨q,64,d,g1,zd g2,g2.2.1,g2.cells⟩
theorem take_eq_all{α:Type}{xs ys:List α}{n:Nat}(h1:xs.length=n)(η:ys.length=n)(h:xs.take n=ys.take n):xs=ys:=by
 rwa[hr (by omega),hr (by omega)]at h
theorem aiP(p q:J)(n m c d:Nat)(xs ys:ao)(w:World)(π:a8 w p (bg xs))(ae:a8 w q (bg ys))(ar:xs.length=n)(hm:ys.length=m)(an:n<=1000000):tA.C p n c q m d w (φ λv w'=>v=.bool (decide (xs=ys))/\θ w w'):=by
 apply tA.ok;unfold tA.main;refine bA (λh=>?_) λh=>?_
 ·have h:¬(n:Int)=m:=by simpa using h
  have h:¬n=m:=by omega
  exact φ.mk ⟨by rw[iJ λe=>h (by rw[<-ar,<-hm,e])],θ.refl w⟩
 have h:(n:Int)=m:=by simpa using h
 obtain rfl:n=m:=by omega
 unfold tA.bd;refine⟨λcj cb cu mg mf pR t12 t13 w'=>p=cj/\n=cb/\c=cu/\q=mg/\n=mf/\d=pR/\(n:Int)=t12/\0<=t13/\t13<=n/\xs.take t13.toNat=ys.take t13.toNat/\θ w w',λcj cb cu mg mf pR t12 t13 w'=>(n-t13).toNat,⟨rfl,rfl,rfl,rfl,rfl,rfl,rfl,by omega,by omega,rfl,θ.refl w⟩,?_⟩;rintro _ _ _ _ _ _ _ t13 w' ⟨rfl,rfl,rfl,rfl,rfl,rfl,rfl,aF,h1,he,I⟩;unfold tA.ε;obtain⟨j,rfl⟩:=eR aF;rw[cP]at he;refine bA (λh=>?_) λh=>?_
 ·have h:=cd h;have Hv:j<xs.length:=by omega
  have s6:j<ys.length:=by omega
  obtain⟨a,rfl,jQ⟩:=HV (π.ex I) Hv;obtain⟨b,rfl,ku⟩:=HV (ae.ex I) s6;refine bO (bC aF) (bO (bC h) ?_)
  try dsimp only[bj]
  rw[cP,eG];refine⟨xs[j],jQ,bO (bC aF) (bO (bC h) ?_)⟩
  skip
  refine⟨ys[j],ku,λk=>?_⟩;refine bA (λcc=>?_) λcc=>?_
  ·have cc:¬xs[j]=ys[j]:=by simpa using cc
   exact φ.mk ⟨by rw[iJ λe=>cc (by subst e;rfl)],I.trans (θ.drewN _ _)⟩
  ·have cc:xs[j]=ys[j]:=by simpa using cc
   rw[b3 (by omega) (by omega)];refine⟨⟨rfl,rfl,rfl,rfl,rfl,rfl,rfl,by omega,by omega,?_,I.trans (θ.drewN _ _)⟩,by((try dsimp only);omega)⟩
   have:((j:Int)+1).toNat=j+1:=by omega
   rw[this,lq Hv,lq s6,he,cc]
 ·have h:=dh h
  have:j=n:=by omega
  subst this;exact φ.mk ⟨by rw[bC (take_eq_all ar hm he)],I⟩
theorem aiQ{w:World}{p q:J}{n m c d:Nat}{Nb bF:List ao}(aP:qL w p n c Nb)(ω:qL w q m d bF)(ar:n<=1000000)(aE:∀bm∈Nb,bm.length<=1000000):
  tz.C p n c q m d w (φ λv w'=>v=.bool (decide (Nb=bF))/\θ w w'):=by
 apply tz.ok;unfold tz.main;have Ov:=aP.len;have Ow:=ω.len;refine bA (λh=>?_) λh=>?_
 ·have h:¬(n:Int)=m:=by simpa using h
  have h:¬n=m:=by omega
  exact φ.mk ⟨by rw[iJ λe=>h (by rw[<-Ov,<-Ow,e])],θ.refl w⟩
 have h:(n:Int)=m:=by simpa using h
 obtain rfl:n=m:=by omega
 unfold tz.bd;refine⟨λmg mf pR sm sl vc t16 t17 w'=>q=mg/\n=mf/\d=pR/\p=sm/\n=sl/\c=vc/\(n:Int)=t16/\0<=t17/\t17<=n/\Nb.take t17.toNat=bF.take t17.toNat/\θ w w',λmg mf pR sm sl vc t16 t17 w'=>(n-t17).toNat,⟨rfl,rfl,rfl,rfl,rfl,rfl,rfl,by omega,by omega,rfl,θ.refl w⟩,?_⟩;rintro _ _ _ _ _ _ _ t17 w' ⟨rfl,rfl,rfl,rfl,rfl,rfl,rfl,aF,h1,he,I⟩;unfold tz.ε;obtain⟨j,rfl⟩:=eR aF;rw[cP]at he;refine bA (λh=>?_) λh=>?_
 ·have bQ:=cd h;have χ:j<n:=by omega
  obtain⟨a,VM,ad2,Zz,rfl,S4,jQ,U6,gF⟩:=(aP.ex I).get χ;obtain⟨b,Ln,ad3,ZA,rfl,S6,ku,lb,ja⟩:=(ω.ex I).get χ;refine bO (bC aF) (bO (bC bQ) ?_)
  try dsimp only[bj]
  rw[cP,eG];refine⟨ad2,_,Zz,jQ,bO (bC aF) (bO (bC bQ) ?_)⟩
  skip
  refine⟨ad3,_,ZA,ku,?_⟩;refine κ.use (aiP ad2 ad3 _ _ Zz ZA VM Ln w' gF ja rfl rfl (aE _ (eS S4))) ?_;rintro _ υ ⟨rfl,τ⟩
  try dsimp only[dH]
  refine bA (λcc=>?_) λcc=>?_
  ·have cc:¬VM=Ln:=by simpa using cc
   refine φ.mk ⟨?_,I.trans τ⟩;rw[iJ];intro e;subst e;rw[S4]at S6;exact cc (Cz S6)
  ·have cc:VM=Ln:=by simpa using cc
   rw[b3 (by omega) (by omega)];refine⟨⟨rfl,rfl,rfl,rfl,rfl,rfl,rfl,by omega,by omega,?_,I.trans τ⟩,by((try dsimp only);omega)⟩
   have:((j:Int)+1).toNat=j+1:=by omega
   rw[this,PM,PM,he,S4,S6,cc]
 ·have h:=dh h
  have:j=n:=by omega
  subst this;exact φ.mk ⟨by rw[bC (take_eq_all Ov Ow he)],I⟩
def yQ(pgs:List ao):ao:=pgs.headD []
def nH(pgs:List ao):Int:=dn (yQ pgs) 8 1
def kX(pgs:List ao):Int:=dn (yQ pgs) 9 1
def tn(pgs:List ao):Int:=dn (yQ pgs) 4 4
def said(bm:ao):Int:=((bm.take 60)[5]?).getD 0
def partOf(bm:ao):ao:=((bm.take 60).drop 6).take (said bm).toNat
def Ci(bm:ao):Bool:=decide (nC bm=0)&&decide (said bm<=52)
def CP(pgs:List ao):ao:=pgs.tail.flatMap partOf
def oq(pgs:List ao):bW:=(hE (kX pgs) (CP pgs) 8).1
structure Good(pgs:List ao):Prop where
 aD:1<=pgs.length
 n12:pgs.length<=12
 xA:mD (yQ pgs)=true
 fA:dn (yQ pgs) 10 1=(pgs.length:Int)-1
 leaves:∀bm∈pgs.tail,Ci bm=true
 all:xU (kX pgs) (CP pgs)=true
 fit:lV (nH pgs) (kX pgs) (oq pgs)
 same:iH (nH pgs) (kX pgs) (tn pgs) (e4 (kX pgs) (oq pgs))=pgs
theorem aa4{bm:ao}(h:mD bm=true):uU (dn bm 4 4)/\BX bm:=by unfold mD at h;simp only[kH,pJ]at h;exact⟨⟨h.1.1.2,h.1.2⟩,h.1.1.1⟩
theorem as7{bm:ao}(ω:Bytes bm):0<=said bm/\said bm<256:=by
 unfold said;cases h:(bm.take 60)[5]?with
 |none=>exact⟨by decide,by decide⟩
 |some x=>exact ω x (wD (eS h))
theorem aaa{bm:ao}(ω:Bytes bm)(a:Int):0<=dn bm a 1/\dn bm a 1<256:=by
 unfold dn bt.yL;split
 ·split
  ·have h:=bt.O8 (((bm.take 60).drop a.toNat).take (1:Int).toNat) (((ω.take _).drop _).take _);have an:(((bm.take 60).drop a.toNat).take (1:Int).toNat).length<=1:=List.length_take_le _ _
   have:=bt.VU an
   omega
  ·omega
 ·omega
def aqH:Value:=.tuple #[.agg hA.toArray,.agg (two 0 0).toArray,.int .i64 0,.int .i64 11]
def XJ(pgs:List ao)(w:World)(v:Value)(w':World):Prop:=
 θ w w'/\((Good pgs/\∃ps,v=.tuple #[.agg (bN (oq pgs) ps).toArray,.agg (two (nH pgs) (kX pgs)).toArray,.int .i64 (tn pgs),.int .i64 0]/\fy w' (oq pgs) ps)\/(¬Good pgs/\v=aqH))
theorem ako{pgs:List ao}{w W:World}{ε ι:Nat}(I:θ w W)(h1:w.heap.size<=ε)(η:w.heap.size<=ι)(ρ:μ W 0 bX 24 (some ⟨ε,0,none⟩) 1 1 hA)(az:μ W 0 b5 2 (some ⟨ι,0,none⟩) 1 1 (two 0 0))(ar:¬Good pgs):
  ∃(aQ:ah),aQ.size=24/\aw W (⟨ε,0,none⟩:Addr) aQ.toList/\
  (∃(bK:ah),bK.size=2/\aw W (⟨ι,0,none⟩:Addr) bK.toList/\
   (ο (decide (aQ.size=24)) (
    hG W (⟨ε,0,none⟩:Addr) aQ.toList/\∀aa,aa=W.setCells (⟨ε,0,none⟩:Addr).block (⟨ε,0,none⟩:Addr).off aQ.toList->
    (ο (decide (bK.size=2)) (
     aw aa (⟨ι,0,none⟩:Addr) bK.toList/\
     (ο (decide (bK.size=2)) (
      hG aa (⟨ι,0,none⟩:Addr) bK.toList/\∀ax,ax=aa.setCells (⟨ι,0,none⟩:Addr).block (⟨ι,0,none⟩:Addr).off bK.toList->
      (∃(b2:ah),b2.size=24/\aw ax (⟨ε,0,none⟩:Addr) b2.toList/\
       (∃(bY:ah),bY.size=2/\aw ax (⟨ι,0,none⟩:Addr) bY.toList/\
        (φ (XJ pgs w) (.returned (Value.tuple #[(Value.agg b2),(Value.agg bY),(Value.int .i64 0),(Value.int .i64 11)])) ax)))))))))):=by
 refine⟨hA.toArray,rfl,ρ.cells,(two 0 0).toArray,rfl,az.cells,bO (by rfl) ?_⟩;have t1:∀i,i=ε->Typed W bX i:=λi o=>by rw[o];exact(ρ.typed rfl).1
 refine ρ.put (cs:=hA) (by rfl) awO λaa b7 bu=>?_;have q0:=az.cI b7 bX t1 (by decide);refine bO (by rfl) ⟨q0.cells,bO (by rfl) ?_⟩;have t2:∀i,i=ι->Typed aa b5 i:=λi o=>by rw[o];exact(q0.typed rfl).1
 refine q0.put (cs:=two 0 0) (by rfl) nm λax cp cm=>?_;refine⟨hA.toArray,rfl,(bu.cI cp b5 t2 (by decide)).cells,(two 0 0).toArray,rfl,cm.cells,φ.mk ⟨(I.then b7 λi o=>by omega).then cp λi o=>by omega,.inr ⟨ar,rfl⟩⟩⟩
theorem Kg(s k q:Int)(t:ao):(iH s k q t).length=1+fA t.length:=by unfold iH;rw[List.length_cons,aqi,CA];omega
theorem U7{s k q:Int}{t:ao}:∀bm∈iH s k q t,bm.length=64:=λbm h=>by
 unfold iH at h;rcases fE.1 h with rfl|h
 ·exact x8 (by rw[Hr];omega)
 ·unfold r0 at h;obtain⟨i,o,rfl⟩:=PN.1 h;refine x8 ?_;rw[OV,Nq];unfold dX;omega
end Go.Proofs.YtcpdfhkhaekekaaGreat.G.cr
namespace Go.Proofs.YtcpdfhkhaekekaaGreat.G.cr
open Go.bI Go.RowKit
theorem GN(δ:World):δ.alloc (.cells #[.int .i64 0,.int .i64 0,.int .i64 0,.int .i64 0,.int .i64 0,.int .i64 0,.int .i64 0,.int .i64 0,.int .i64 0,.int .i64 0,.int .i64 0,.int .i64 0,.int .i64 0,.int .i64 0,.int .i64 0,.int .i64 0,.slice none 0 0,.slice none 0 0,.slice none 0 0,.slice none 0 0,.slice none 0 0,.slice none 0 0,.slice none 0 0,.slice none 0 0] bX)=δ.alloc (.cells hA.toArray bX):=rfl
theorem GI(δ:World)(a b:Int):δ.alloc (.cells #[.int .i64 a,.int .i64 b] b5)=δ.alloc (.cells (two a b).toArray b5):=rfl
theorem arD{w:World}{B:Nat}{p:J}{c:Nat}{bm:ao}(γ:μ w B cG 1 p 60 c (bg (bm.take 60))):a8 w (dA p c 6 1) (bg (partOf bm)):=by
 have an:=zd γ
 have:=γ.cells.slice c 6 (said bm).toNat (by rw[rl,an];exact γ.2.1)
 unfold partOf bg;rw[wF,x2];exact this
theorem arE{bm:ao}(h:(bm.take 60).length=60)(ψ:0<=said bm/\said bm<=52):(partOf bm).length=(said bm).toNat:=by unfold partOf;rw[gY,kI,h];omega
theorem as6{bm:ao}(h:(bm.take 60).length=60):(bg (bm.take 60))[5]?=some (.int .u8 (said bm)):=by unfold said bg;rw[List.getElem?_map,List.getElem?_eq_getElem (show 5<(bm.take 60).length by omega)];rfl
theorem afF{pgs:List ao}{j:Nat}{bm:ao}(h:pgs.tail[j]?=some bm):(pgs.tail.take (j+1)).flatMap partOf=(pgs.tail.take j).flatMap partOf++partOf bm:=by obtain⟨χ,rfl⟩:=List.getElem?_eq_some_iff.1 h;rw[lq χ,wG];simp
theorem XK{w:World}{P:J}{n c:Nat}{pgs:List ao}(hp:qL w P n c pgs)(ω:∀bm∈pgs,Bytes bm)(ar:n<=9223372036854775807):o1.C P n c w (φ (XJ pgs w)):=by
 have hlen:=hp.len;apply o1.ok;unfold o1.main;rintro ε δ rfl rfl ι υ rfl rfl;rw[GN,GI];have ρ:=(μ.new (w:=w) hA bX).lower (da _);have ζ:=θ.alloc w (.cells hA.toArray bX);have eb:w.heap.size<=w.heap.size:=eF _;generalize Tu:w.heap.size=ε at ρ eb⊢;generalize w.alloc (.cells hA.toArray bX)=δ at ρ ζ⊢;have az:=(μ.new (w:=δ) (two 0 0) b5).lower (da _);have τ:=θ.alloc δ (.cells (two 0 0).toArray b5);have ee:w.heap.size<=δ.heap.size:=ζ.size;have Eg:ε<δ.heap.size:=(ρ.ge rfl).2;generalize δ.heap.size=ι at az ee Eg⊢;generalize δ.alloc (.cells (two 0 0).toArray b5)=υ at az τ⊢;have ρ:=ρ.ex τ;have iz:=ζ.trans τ;clear ζ τ;have aaJ:w.heap.size<=ε:=by omega
 have bad:∀{W:World},θ υ W->¬Good pgs->_:=λ{W}I ar=>ako (pgs:=pgs) (iz.trans I) aaJ ee (ρ.ex I) (az.ex I) ar;refine bA (λπ=>?_) λπ=>?_
 ·have π:(n:Int)=0:=by simpa using π
  exact bad (θ.drew _) (λg=>by have:=g.aD;omega)
 have π:¬(n:Int)=0:=by simpa using π
 refine bA (λjY=>?_) λjY=>?_
 ·have jY:=cd jY;exact bad (θ.drew _) (λg=>by have:=g.n12;omega)
 have jY:=dh jY;refine bO (bC (by omega)) ?_;have l4:=hp.ex iz;obtain⟨a,nE,dN,d0,rfl,On,oo,anF,anD⟩:=l4.get (i:=0) (by omega);have hH:yQ pgs=nE:=by unfold yQ;rw[List.headD_eq_head?_getD,List.head?_eq_getElem?,On];rfl
 have aaV:=ω nE (eS On)
 try dsimp only[bj]
 rw[show a.add 0=a from Addr.add_zero' a]at oo;refine⟨dN,nE.length,d0,oo,?_⟩;refine κ.use (Iy dN nE.length d0 nE υ anD rfl anF aaV) ?_;rintro _ bk ⟨rfl,aV⟩
 try dsimp only[bZ,cC,cD,bj,dH,hz,iG]
 rintro af ca rfl rfl;have cm:=μ.new (w:=bk) (bt.v64 [0,0,0,0,0]) nL;have cv:=θ.alloc bk (.cells (bt.v64 [0,0,0,0,0]).toArray nL);have iS:bk.alloc (.cells #[.int .i64 0,.int .i64 0,.int .i64 0,.int .i64 0,.int .i64 0] nL)=bk.alloc (.cells (bt.v64 [0,0,0,0,0]).toArray nL):=rfl;rw[iS];have mC:υ.heap.size<=bk.heap.size:=aV.size;generalize bk.heap.size=af at cm mC⊢;generalize bk.alloc (.cells (bt.v64 [0,0,0,0,0]).toArray nL)=ca at cm cv⊢;have abl:(bt.v64 (qb nE)).length=5:=by unfold bt.v64;rw[jP];exact TM nE
 refine bO (bC (by rw[fp];exact abl)) ?_;refine cm.put (cs:=bt.v64 (qb nE)) abl (Mv _) λdk uM qk=>?_;have e7:θ υ dk:=(aV.trans cv).then uM λi o=>by omega
 cases dq:mD nE with
 |false=>
  rw[cond_pos (by rfl)];exact bad (e7.trans (θ.drew _)) (λg=>by have:=g.xA;rw[hH,dq]at this;cases this)
 |true=>
 obtain⟨OF,pw⟩:=aa4 dq;have JQ:qb nE=[dn nE 4 4,dn nE 8 1,dn nE 9 1,dn nE 10 1,dn nE 11 2]:=by unfold qb;rw[aY pw]
 rw[JQ]at qk;rw[cond_neg (by rfl)];refine⟨dn nE 10 1,qk.at (by rfl),?_⟩;rw[b3 (x:=(n:Int)-1) (by omega) (by omega)];refine bA (λn1=>?_) λn1=>?_
 ·have n1:¬dn nE 10 1=(n:Int)-1:=by simpa using n1
  exact bad (e7.trans (θ.drew _)) (λg=>by have:=g.fA;rw[hH,hlen]at this;exact n1 this)
 have n1:dn nE 10 1=(n:Int)-1:=by simpa using n1
 refine bO (bC (by omega)) ?_;have abA:=l4.ex e7;have aoT:=abA.rest (by omega);have abX:=iz.trans e7;have qa:∀bm∈pgs.tail,Bytes bm:=λbm h=>ω bm (V6 h);have EN:pgs.tail.length=n-1:=by rw[FG,hlen]
 have axJ:w.heap.size<=dk.heap.size:=abX.size;unfold o1.bd;refine⟨λcj cb cu t2 t3 t6 jo ia je Mk Mj Qq t47 t48 w'=>cj=some a/\n=cb/\c=cu/\ε=t2/\ι=t3/\af=t6/\dA (some a) c 1 1=Mk/\n-1=Mj/\((n-1:Nat):Int)=t47/\0<=t48/\t48<=((n-1:Nat):Int)/\θ dk w'/\(∀j bm,j<t48.toNat->pgs.tail[j]?=some bm->Ci bm=true)/\((pgs.tail.take t48.toNat).flatMap partOf).length=ia/\ia<=t48.toNat*52/\μ w' dk.heap.size cG 1 jo ia je (bg ((pgs.tail.take t48.toNat).flatMap partOf)),
  λcj cb cu t2 t3 t6 jo ia je Mk Mj Qq t47 t48 w'=>((n-1:Nat)-t48).toNat,⟨rfl,rfl,rfl,rfl,rfl,rfl,rfl,rfl,rfl,by omega,by omega,θ.refl _,λj bm χ=>by simp at χ,rfl,da _,μ.nil _ _ _ _⟩,?_⟩
 rintro _ _ _ _ _ _ jo ia je _ _ Qq _ t48 w' ⟨rfl,rfl,rfl,rfl,rfl,rfl,rfl,rfl,rfl,i0,i1,I,HA,ks,ape,ff⟩;unfold o1.ε;obtain⟨j,rfl⟩:=eR i0;rw[cP]at HA ks ape ff;have JC:∀{W:World},θ w' W->¬Good pgs->_:=λ{W}l8 ar=>bad (e7.trans (I.trans l8)) ar;refine bA (λuE=>?_) λuE=>?_
 ·have uE:=cd uE;have χ:j<n-1:=by omega
  refine bO (bC i0) (bO (bC uE) ?_);obtain⟨a2,bm,q,d,alN,bL,fX,ae,Et⟩:=(aoT.ex I).get χ;rw[alN]
  try dsimp only[bj]
  rw[cP,eG];refine⟨q,bm.length,d,fX,?_⟩;have jy:=eS bL;have aaW:=qa bm jy;refine κ.use (Jn q bm.length d bm w' Et rfl ae aaW) ?_;rintro _ ep ⟨ng,m,d',rfl,hm,ti,mn⟩
  try dsimp only[bZ,cC,cD,bj,bH,er]
  have acL:Ci bm=false->¬Good pgs:=λh g=>by have:=g.leaves bm jy;rw[h]at this;cases this
  refine bA (λaE=>?_) λaE=>?_
  ·have aE:¬nC bm=0:=by simpa using aE
   exact JC (mn.trans (θ.drew _)) (acL (by unfold Ci;rw[iJ aE];rfl))
  have aE:nC bm=0:=by simpa using aE
  obtain⟨uD,dR⟩:=Pj aE;rw[dR]at ti;have abS:(bm.take 60).length=60:=by rw[gY,uD];rfl
  have aop:m=60:=by have:=zd ti;omega
  subst aop;have Uy:=as7 aaW;obtain⟨a3,rfl,jC⟩:=ti.cells.many (as6 abS);refine bO (by decide) ?_
  try dsimp only[bj]
  refine⟨said bm,jC,?_⟩;refine bA (λJ1=>?_) λJ1=>?_
  ·have J1:=cd J1;exact JC (mn.trans (θ.drew _)) (acL (by unfold Ci;rw[iJ (show¬said bm<=52 by omega),Bool.and_false]))
  have J1:=dh J1;refine bO (by decide) ⟨said bm,jC,?_⟩;have Ai:IntKind.u8.wrap (6+said bm)=6+said bm:=by rw[sy];omega
  rw[Ai];have jZ:=ti.2.1;refine bO (bC (by omega)) (bO (bC (by omega)) (bO (bC (by omega)) ?_));have nY:(6+said bm).toNat-6=(said bm).toNat:=by omega
  rw[nY];have uH:=arE abS ⟨Uy.1,by omega⟩;refine kT (B:=dk.heap.size) (ff.ex mn) (I.trans mn).size (bg (partOf bm)) (arD ti) (by rw[rl,uH,eG]) (CS _) rfl (by omega) (by omega) ?_;intro ej fU fY l9 Cf;rw[I3,<-afF bL]at l9;have lh:IntKind.i64.wrap ((j:Int)+1)=((j+1:Nat):Int):=by rw[b3 (by omega) (by omega)];rfl
  have OI:((j+1:Nat):Int).toNat=j+1:=rfl;rw[lh];refine⟨⟨rfl,rfl,rfl,rfl,rfl,rfl,rfl,rfl,rfl,by omega,by omega,(I.trans mn).then Cf λi⟨y,e,o⟩=>by have:=(ff.ge e).1;omega,?_,?_,?_,by rw[OI];exact l9⟩,by((try dsimp only);omega)⟩
  ·intro KR Fq e3 oR;rw[OI]at e3;by_cases he:KR=j
   ·subst he;rw[bL]at oR;cases oR;unfold Ci;rw[bC aE,bC (show said bm<=52 by omega)];rfl
   ·exact HA KR Fq (by omega) oR
  ·rw[OI,afF bL,e9,ks,uH]
  ·rw[OI];omega
 ·have uE:=dh uE;obtain rfl:j=n-1:=by omega
  have alX:(pgs.tail.take (n-1)).flatMap partOf=CP pgs:=by unfold CP;rw[hr (by omega)]
  rw[alX]at ks ff;have HA:∀bm∈pgs.tail,Ci bm=true:=λbm h=>by obtain⟨j,χ⟩:=List.getElem?_of_mem h;exact HA j bm (by have:=(List.getElem?_eq_some_iff.1 χ).1;omega) χ
  unfold o1.aZ;have K8:=qk.ex I;have ρ:=ρ.ex (e7.trans I);have az:=az.ex (e7.trans I);have vP:kX pgs=dn nE 9 1:=by unfold kX;rw[hH]
  have es:nH pgs=dn nE 8 1:=by unfold nH;rw[hH]
  have eq:tn pgs=dn nE 4 4:=by unfold tn;rw[hH]
  have abk:=aaa aaV 9;rw[<-vP,<-es,<-eq]at K8;rw[<-vP]at abk;refine⟨nH pgs,K8.at (by rfl),kX pgs,K8.at (by rfl),?_⟩;rintro dC fb rfl rfl;have cz:=μ.new (w:=w') (two 0 0) b5;have nN:=θ.alloc w' (.cells (two 0 0).toArray b5);rw[GI];have lf:dk.heap.size<=w'.heap.size:=I.size;have amF:ι<w'.heap.size:=(az.ge rfl).2;have amE:ε<w'.heap.size:=(ρ.ge rfl).2;generalize axt:w'.heap.size=dC at cz lf amF amE⊢;generalize w'.alloc (.cells (two 0 0).toArray b5)=fb at cz nN⊢;refine cz.put (cs:=two (nH pgs) (kX pgs)) (by rfl) nm λiW EU za=>?_;have CY:θ w' iW:=nN.then EU λi o=>by omega
  refine⟨(two (nH pgs) (kX pgs)).toArray,rfl,za.cells,?_⟩;have anA:Bytes (CP pgs):=λx I=>by obtain⟨bm,lK,I⟩:=pc.1 I;exact(((qa bm lK).take _).drop _).take _ x I
  refine κ.use (atH jo ia je (CP pgs) (nH pgs) (kX pgs) iW (ff.ex CY).cells ks ff.2.1 (by omega) anA abk) ?_;rintro _ fT ⟨nO,EJ⟩;have ayb:∀{fT:World},θ iW fT->iW.heap.size<=fT.heap.size:=λx=>x.size;have axc:dC<iW.heap.size:=(za.ge rfl).2;rcases EJ with⟨dM,ps,rfl,b0⟩|⟨dM,cs,iy,wa,rfl⟩
  ·try dsimp only[bZ,cC,cD,bj,dH,hz,iG]
   rintro iZ hg rfl rfl;rw[GN];have eM:=μ.new (w:=fT) hA bX;have tU:=θ.alloc fT (.cells hA.toArray bX);have Ep:=nO.size;generalize ant:fT.heap.size=iZ at eM Ep⊢;generalize fT.alloc (.cells hA.toArray bX)=hg at eM tU⊢;have b0:fy fT (oq pgs) ps:=b0;have gg:=b0.at.dX;refine bO (bC (by rw[fp];exact gg)) ?_;refine eM.put (cs:=bN (oq pgs) ps) gg b0.at.one λiX UU wm=>?_;have w5:θ fT iX:=tU.then UU λi o=>by omega
   rw[cond_neg (by rfl)];have Xs:=CY.trans (nO.trans w5);have wm:μ iX iZ bX 24 (some ⟨iZ,0,none⟩) 1 1 (bN (oq pgs) ps):=wm;refine⟨(bN (oq pgs) ps).toArray,by rw[fp];exact gg,wm.cells,(two (nH pgs) (kX pgs)).toArray,rfl,(za.ex (nO.trans w5)).cells,tn pgs,(K8.ex Xs).at (by rfl),?_⟩;have abR:fy iX (oq pgs) ps:=b0.ex w5;refine κ.use (XL abR.at (nH pgs) (kX pgs) (tn pgs)) ?_;rintro _ k3 ⟨ym,EJ⟩;rcases EJ with⟨aoR,ke,fD,pF,h2,aym,rfl,H5,lK⟩|⟨n4,e,he,rfl⟩
   ·try dsimp only[bZ,cC,cD,bj,bH,er]
    rw[cond_neg (by rfl)];have Xt:=Xs.trans ym;have abD:=lK.Po H5;have Ub:pF<=1000:=by have h1:=abD.len;rw[Kg]at h1;have η:(e4 (kX pgs) (oq pgs)).length<=528:=H8 b0.len ke.1.2.1 _;unfold fA at h1;omega
    refine κ.use (aiQ abD (abA.ex (I.trans Xt)) (by omega) λbm h=>by rw[U7 bm h];omega) ?_;rintro _ jr ⟨rfl,MM⟩
    try dsimp only[dH]
    refine bA (λcc=>?_) λcc=>?_
    ·have cc:¬iH (nH pgs) (kX pgs) (tn pgs) (e4 (kX pgs) (oq pgs))=pgs:=by simpa using cc
     exact JC (Xt.trans (MM.trans (θ.drew _))) λg=>cc g.same
    have KF:iH (nH pgs) (kX pgs) (tn pgs) (e4 (kX pgs) (oq pgs))=pgs:=by simpa using cc
    have TU:Good pgs:=⟨by omega,by omega,by rw[hH];exact dq,by rw[hH,hlen];exact n1,HA,dM,ke,KF⟩;have eH:=MM.trans (θ.drew jr);have Q1:=Xt.trans eH;have aqV:=wm.ex (ym.trans eH);have acZ:=za.ex ((nO.trans w5).trans (ym.trans eH));have r1:=ρ.ex Q1;have q0:=az.ex Q1;have Fb:=K8.ex Q1;refine⟨(bN (oq pgs) ps).toArray,by rw[fp];exact gg,aqV.cells,(two (nH pgs) (kX pgs)).toArray,rfl,acZ.cells,tn pgs,Fb.at (by rfl),bO (bC (by rw[fp];exact gg)) ?_⟩;have t1:∀i,i=ε->Typed jr.drew bX i:=λi o=>by rw[o];exact(r1.typed rfl).1
    refine r1.put (cs:=bN (oq pgs) ps) gg b0.at.one λox KT H6=>?_;have ac1:=Fb.cI KT bX t1 (by decide);have aqU:=acZ.cI KT bX t1 (by decide);have acX:=q0.cI KT bX t1 (by decide);refine⟨ac1.at (by rfl),bO (by rfl) ⟨aqU.cells,bO (by rfl) ?_⟩⟩;have t2:∀i,i=ι->Typed ox b5 i:=λi o=>by rw[o];exact(acX.typed rfl).1
    refine acX.put (cs:=two (nH pgs) (kX pgs)) (by rfl) nm λvm OT Ld=>?_;refine⟨(ac1.cI OT b5 t2 (by decide)).at (by rfl),(bN (oq pgs) ps).toArray,by rw[fp];exact gg,(H6.cI OT b5 t2 (by decide)).cells,(two (nH pgs) (kX pgs)).toArray,rfl,Ld.cells,φ.mk ⟨?_,.inl ⟨TU,ps,rfl,?_⟩⟩⟩
    ·exact((abX.trans (I.trans Q1)).then KT λi o=>by omega).then OT λi o=>by omega
    ·exact(((abR.ex ym).ex eH).cI KT bX t1 (by decide)).cI OT b5 t2 (by decide)
   ·try dsimp only[bZ,cC,cD,bj,bH,er]
    have:(e !=0)=true:=by simpa using he
    rw[cond_pos this];exact JC (Xs.trans (ym.trans (θ.drew _))) λg=>n4 ⟨by rw[eq];exact OF,g.fit⟩
  ·try dsimp only[bZ,cC,cD,bj,dH,hz]
   rintro iZ hg rfl rfl;rw[GN];have eM:=μ.new (w:=fT) hA bX;have tU:=θ.alloc fT (.cells hA.toArray bX);have Ep:=nO.size;generalize ant:fT.heap.size=iZ at eM Ep⊢;generalize fT.alloc (.cells hA.toArray bX)=hg at eM tU⊢;refine bO (bC iy) ?_;refine eM.put (cs:=cs.toList) iy wa λiX UU wm=>?_;have w5:θ fT iX:=tU.then UU λi o=>by omega
   rw[cond_pos (by rfl)];exact JC ((CY.trans (nO.trans w5)).trans (θ.drew _)) (λg=>by have:=g.all;rw[dM]at this;cases this)
end Go.Proofs.YtcpdfhkhaekekaaGreat.G.cr
namespace Go.Proofs.YtcpdfhkhaekekaaGreat.G.cr
open Tryz
open Go.bI Go.RowKit
structure lC(w:World)(B b n:Nat)(cx:List (Nat×Nat))(f:Nat×Nat->aU):Prop where
 low:B<=b
 at_:∃es:Array MapEntry,w.heap[b]?=some (.map es es.size)/\es.toList.map (·.key)=cx.map (λx=>dT (some x))/\
  (∀(i:Nat)(e:MapEntry),es.toList[i]?=some e->e.born=i/\∃p m c y,cx[i]?=some y/\e.val=.slice p m c/\μ w B hP 2 p m c (f y)/\m<=n)/\
  (∀(i j:Nat)(e c6:MapEntry),es.toList[i]?=some e->es.toList[j]?=some c6->i≠j->∀a m c fz m' aT,e.val=.slice (some a) m c->c6.val=.slice (some fz) m' aT->a.block≠fz.block)
theorem lC.aC{w w':World}{B b n:Nat}{cx:List (Nat×Nat)}{f:Nat×Nat->aU}(h:lC w B b n cx f){S:a1}(k:Kp w w' S)(ed:∀i,B<=i->i<w.heap.size->¬S i):lC w' B b n cx f:=by obtain⟨h1,es,η,au,bV,c9⟩:=h;have ω:b<w.heap.size:=(Array.getElem?_eq_some_iff.1 η).1;refine⟨h1,es,by rw[k.block b ω (ed b h1 ω)];exact η,au,λi e he=>?_,c9⟩;obtain⟨g1,p,m,c,y,xt,g2,g3,g4⟩:=bV i e he;exact⟨g1,p,m,c,y,xt,g2,g3.aC k λa aP=>ed _ (g3.ge aP).1 (g3.ge aP).2,g4⟩
set_option maxRecDepth 8000 in
theorem lC.step{w:World}{B b n:Nat}{cx:List (Nat×Nat)}{f:Nat×Nat->aU}(h:lC w B b n cx f)(oT:cx.Nodup)(ar:n<=100000)(dR:B<=w.heap.size){x:Nat×Nat}(I:gS x)(oS:∀y∈cx,gS y)(vY:x∉cx->f x=[])(t4 t17:Int){N:ai}
  (K:∀ba,Kp w ba (λi=>B<=i)->lC ba B b (n+1) (if x∈cx then cx else cx++[x]) (λy=>if y=x then f x++[.int .i64 t4,.int .i64 t17]else f y)->N ba):
  aR w #[(Value.int .i64 t4),(Value.int .i64 t17)] hP λaH aa=>
      ξ (some b) λaf=>
      O0 prog aa af (eI (some x)) (eQ (some x)) zG (.slice none 0 0) λv2 st1 ax=>
      df v2 λaX br c2=>
      gD ax aX br c2 1 (a8 ax (some ⟨aH,0,none⟩)) hP 2 16 #[(Value.int .i64 0),(Value.int .i64 0)] λbl bJ aG=>
      ξ (some b) λdC=>
      O1 aG dC st1 (Value.slice bl (br+1) bJ) λba=>N ba:=by
 rintro aH aa rfl rfl;have bu:=μ.new (w:=w) [.int .i64 t4,.int .i64 t17] hP;have ab:=θ.alloc w (.cells [Value.int .i64 t4,.int .i64 t17].toArray hP);have jc:w.heap.size<=w.heap.size:=eF _;have gw:w.alloc (.cells #[.int .i64 t4,.int .i64 t17] hP)=w.alloc (.cells [Value.int .i64 t4,.int .i64 t17].toArray hP):=rfl;rw[gw];generalize anr:w.heap.size=aH at bu jc⊢;generalize w.alloc (.cells [Value.int .i64 t4,.int .i64 t17].toArray hP)=aa at bu ab⊢;have au:=h.aC ab λ_ _ _ h=>h;obtain⟨ny,es,py,xF,iO,Al⟩:=au;have Kd:b<aa.heap.size:=(Array.getElem?_eq_some_iff.1 py).1;have hlen:es.size=cx.length:=by
  have:=gN List.length xF
  simpa using this
 try dsimp only[bj]
 refine⟨VJ,es,es.size,py,?_⟩;have xE:∀(i:Nat)(y:Nat×Nat),cx[i]?=some y->∃e,es.toList[i]?=some e/\e.key=dT (some y):=by
  intro i y ag;have h1:i<cx.length:=(List.getElem?_eq_some_iff.1 ag).1;have η:i<es.toList.length:=by rw[k0];omega
  refine⟨es.toList[i],List.getElem?_eq_getElem η,?_⟩
  have:=gN (λl=>l[i]?) xF
  rw[List.getElem?_map,List.getElem?_map,ag,List.getElem?_eq_getElem η]at this;simpa using this
 have Kk:∀(i:Nat)(e:MapEntry),es.toList[i]?=some e->∃y,cx[i]?=some y/\e.key=dT (some y):=by
  intro i e he;have η:i<es.toList.length:=(List.getElem?_eq_some_iff.1 he).1;have h1:i<cx.length:=by rw[k0]at η;omega
  refine⟨cx[i],List.getElem?_eq_getElem h1,?_⟩
  have:=gN (λl=>l[i]?) xF
  rw[List.getElem?_map,List.getElem?_map,he,List.getElem?_eq_getElem h1]at this;simpa using this
 have th:μ aa B hP 2 (some ⟨aH,0,none⟩) 1 1 [.int .i64 t4,.int .i64 t17]:=bu.lower (by omega);have Tw:aH<aa.heap.size:=(bu.ge rfl).2;by_cases jy:x∈cx
 ·
  right;obtain⟨i,o⟩:=List.getElem?_of_mem jy;have TQ:∃i,cx[i]?=some x/\∀y∈cx.take i,y≠x:=by
   clear o
   have:∀l:List (Nat×Nat),x∈l->∃i,l[i]?=some x/\∀y∈l.take i,y≠x:=by
    intro l
    induction l with
    |nil=>intro h;cases h
    |cons a l cq=>
     intro h;by_cases Em:a=x
     ·exact⟨0,by simp[Em],λy ag=>by simp at ag⟩
     ·obtain⟨i,h1,η⟩:=cq (by rcases fE.1 h with h|h;exact absurd h.symm Em;exact h);refine⟨i+1,by simpa using h1,λy ag=>?_⟩;rw[List.take_succ_cons]at ag;rcases fE.1 ag with h|h
      ·rw[h];exact Em
      ·exact η y h
   exact this cx jy
  obtain⟨i,o,Tx⟩:=TQ;obtain⟨e,he,TO⟩:=xE i x o;refine⟨i,e,he,TO,U2 I,λc6 dO=>?_,?_⟩
  ·obtain⟨j,χ⟩:=List.getElem?_of_mem dO;have hJ:j<i:=by
    have:=(List.getElem?_eq_some_iff.1 χ).1
    rw[gY]at this;omega
   rw[List.getElem?_take_of_lt hJ]at χ;obtain⟨y,ag,ES⟩:=Kk j c6 χ;have UL:y∈cx.take i:=by refine eS (i:=j) ?_;rw[List.getElem?_take_of_lt hJ];exact ag
   exact⟨eI (some y),eQ (some y),ES,Ch I (oS y (eS ag)) λh=>Tx y UL h.symm⟩
  ·obtain⟨p9,p,m,c,fK,apC,aL,aE,hm⟩:=iO i e he;obtain rfl:fK=x:=Cz (apC.symm.trans o);rw[aL]
   try dsimp only[er]
   refine By (B:=B) aE (by have:=ab.size;omega) [.int .i64 t4,.int .i64 t17] bu.cells rfl nm rfl (by omega) (by omega) ?_;intro bl bJ aG cz ea na;have lf:aG.heap[b]?=some (.map es es.size):=by
    rw[ea.block b Kd λ⟨a,aP,s0⟩=>?_]
    ·exact py
    ·obtain⟨cur,fr,aO⟩:=(aE.typed aP).1;rw[s0,py]at aO;cases aO
   have T1:i<es.size:=by have:=(List.getElem?_eq_some_iff.1 he).1;rwa[k0]at this
   refine⟨es,es.size,i,lf,by rw[p9];exact NT (λi e he=>(iO i e he).1) T1,λba Av=>?_⟩;subst Av;have ob:=Kp.putObj aG b (.map (es.modify i λe=>{e with val:=Value.slice bl (m+1) bJ}) es.size);have Eo:b<aG.heap.size:=(Array.getElem?_eq_some_iff.1 lf).1;have n3:Kp w (aG.putObj b (.map (es.modify i λe=>{e with val:=Value.slice bl (m+1) bJ}) es.size)) (λi=>B<=i):=by
    refine Kp.trans (ab.aC λi=>B<=i) (Kp.trans ea ob (U:=λi=>B<=i) (λi _⟨a,aP,o⟩=>?_) λi _ o=>?_) (λ_ _ h=>h) λ_ _ h=>h
    ·have:=(aE.ge aP).1;omega
    ·rw[o];exact ny
   refine K _ n3 ?_;rw[aY jy];have ne:∀{q:J}{m' aT:Nat}{ys:aU},μ aG B hP 2 q m' aT ys->μ (aG.putObj b (.map (es.modify i λe=>{e with val:=Value.slice bl (m+1) bJ}) es.size)) B hP 2 q m' aT ys:=λγ=>γ.aC ob λa aP o=>by obtain⟨cur,fr,aO⟩:=(γ.typed aP).1;rw[o,lf]at aO;cases aO
   have Uk:∀(j:Nat)(c6:MapEntry),es.toList[j]?=some c6->j≠i->∀{q:J}{m' aT:Nat}{ys:aU},c6.val=.slice q m' aT->μ aa B hP 2 q m' aT ys->μ aG B hP 2 q m' aT ys:=λj c6 dO hJ q m' aT ys n9 γ=>γ.aC ea λa aP⟨fz,Hk,jj⟩=>by subst aP;subst Hk;exact Al j i c6 e dO he hJ a m' aT fz m c n9 aL jj.symm
   have l2:∀(j:Nat)(hl:MapEntry),(es.modify i λe=>{e with val:=Value.slice bl (m+1) bJ}).toList[j]?=some hl->(j=i/\hl={e with val:=Value.slice bl (m+1) bJ})\/(j≠i/\es.toList[j]?=some hl):=λj hl gA=>by
    rw[AW,List.getElem?_modify]at gA;by_cases hJ:i=j
    ·subst hJ;rw[he]at gA;left;simp at gA;exact⟨rfl,gA.symm⟩
    ·right;refine⟨λh=>hJ h.symm,?_⟩;simpa[hJ]using gA
   refine⟨ny,es.modify i λe=>{e with val:=Value.slice bl (m+1) bJ},?_,?_,?_,?_⟩
   ·rw[World.putObj_heap_same Eo,PH]
   ·rw[<-xF];apply qp;intro j;rw[List.getElem?_map,List.getElem?_map,AW,List.getElem?_modify];cases es.toList[j]?with
    |none=>rfl
    |some c6=>simp only[jd];split<;>rfl
   ·intro j hl gA;rcases l2 j hl gA with⟨rfl,rfl⟩|⟨hJ,dO⟩
    ·exact⟨p9,bl,m+1,bJ,fK,o,rfl,by rw[aY rfl];exact ne cz,by omega⟩
    ·obtain⟨g1,q,m',aT,ys,xt,g2,g3,g4⟩:=iO j hl dO;have UO:ys≠fK:=λe=>by
      subst e;obtain⟨bd,cW⟩:=List.getElem?_eq_some_iff.1 xt;obtain⟨fm,fO⟩:=List.getElem?_eq_some_iff.1 o;rcases Nat.lt_or_gt_of_ne hJ with h|h
      ·exact(CG.1 oT) j i bd fm h (cW.trans fO.symm)
      ·exact(CG.1 oT) i j fm bd h (fO.trans cW.symm)
     exact⟨g1,q,m',aT,ys,xt,g2,by rw[aN UO];exact ne (Uk j hl dO hJ g2 g3),by omega⟩
   ·intro rV oX aM bz yT qc cc aq m1 c1 a2 m2 c2 mH mI;have sX:∀(j:Nat)(c6:MapEntry),es.toList[j]?=some c6->j≠i->∀fz m' aT a3,c6.val=.slice (some fz) m' aT->bl=some a3->a3.block≠fz.block:=λj c6 dO hJ fz m' aT a3 n9 hp=>by
     rcases na with rfl|rO
     ·exact Al i j e c6 he dO (λh=>hJ h.symm) a3 m c fz m' aT (by rw[aL,hp]) n9
     ·have h1:=rO a3 hp;obtain⟨_,q,Vd,R2,ys,_,g2,g3,_⟩:=iO j c6 dO;rw[n9]at g2;cases g2
      have:=(g3.ge rfl).2
      omega
    rcases l2 rV aM yT with⟨rfl,rfl⟩|⟨h1,g1⟩
    ·rcases l2 oX bz qc with⟨rfl,rfl⟩|⟨η,g2⟩
     ·exact absurd rfl cc
     ·have mH:Value.slice bl (m+1) bJ=Value.slice (some aq) m1 c1:=mH;cases mH;exact sX oX bz g2 η a2 m2 c2 aq mI rfl
    ·rcases l2 oX bz qc with⟨rfl,rfl⟩|⟨η,g2⟩
     ·have mI:Value.slice bl (m+1) bJ=Value.slice (some a2) m2 c2:=mI;cases mI
      exactλh=>sX rV aM g1 h1 aq m1 c1 a2 mH rfl h.symm
     ·exact Al rV oX aM bz g1 g2 cc aq m1 c1 a2 m2 c2 mH mI
 ·
  left;refine⟨λe he=>?_,λax s7=>?_⟩
  ·obtain⟨j,χ⟩:=List.getElem?_of_mem he;obtain⟨y,ag,ES⟩:=Kk j e χ;exact⟨eI (some y),eQ (some y),ES,Ch I (oS y (eS ag)) λh=>jy (h▸eS ag)⟩
  have ob:=Kp.putObj aa b (.map (es.push ⟨.complex .f64 (eI (some x)) (eQ (some x)),.slice none 0 0,es.size⟩) (es.size+1));have mC:ax.heap[b]?=some (.map (es.push ⟨.complex .f64 (eI (some x)) (eQ (some x)),.slice none 0 0,es.size⟩) (es.size+1)):=by rw[s7];exact World.putObj_heap_same Kd
  rw[<-s7]at ob;have t3:∀{q:J}{m' aT:Nat}{ys:aU},μ aa B hP 2 q m' aT ys->μ ax B hP 2 q m' aT ys:=λγ=>γ.aC ob λa aP o=>by obtain⟨cur,fr,aO⟩:=(γ.typed aP).1;rw[o,py]at aO;cases aO
  try dsimp only[er]
  refine By (B:=B) (μ.nil ax B hP 2) (by have:=ab.size;have:=ob.size;omega) [.int .i64 t4,.int .i64 t17] (t3 th).cells rfl nm rfl (by omega) (by omega) ?_;intro bl bJ aG cz ea na;have al:θ ax aG:=ea.mono λi _⟨y,e,_⟩=>by cases e
  have rO:∀a,bl=some a->ax.heap.size<=a.block:=λa aP=>by
   rcases na with rfl|h
   ·cases aP
   ·exact h a aP
  have lf:aG.heap[b]?=some (.map (es.push ⟨.complex .f64 (eI (some x)) (eQ (some x)),.slice none 0 0,es.size⟩) (es.size+1)):=by rw[al.block b (Array.getElem?_eq_some_iff.1 mC).1 id];exact mC
  generalize EF:es.push ⟨.complex .f64 (eI (some x)) (eQ (some x)),.slice none 0 0,es.size⟩=lI at mC lf⊢;have fj:lI.size=es.size+1:=by rw[<-EF,Array.size_push]
  have mZ:∀(j:Nat)(hl:MapEntry),lI.toList[j]?=some hl->(j=es.size/\hl=⟨.complex .f64 (eI (some x)) (eQ (some x)),.slice none 0 0,es.size⟩)\/(j<es.size/\es.toList[j]?=some hl):=λj hl gA=>by
   rw[<-EF,PI]at gA;by_cases χ:j<es.size
   ·right;rw[List.getElem?_append_left (by rw[k0];exact χ)]at gA;exact⟨χ,gA⟩
   ·left;rw[List.getElem?_append_right (by rw[k0];omega),k0]at gA;have EA:j-es.size=0:=by
     cases ay:j-es.size with
     |zero=>rfl
     |succ n=>rw[ay]at gA;simp at gA
    rw[EA]at gA;exact⟨by omega,by simpa using gA.symm⟩
  have p9:∀(i:Nat)(e:MapEntry),lI.toList[i]?=some e->e.born=i:=λi e he=>by
   rcases mZ i e he with⟨rfl,rfl⟩|⟨_,h⟩
   ·rfl
   ·exact(iO i e h).1
  refine⟨lI,es.size+1,es.size,lf,NT p9 (by omega),λba Av=>?_⟩;have AE:=Kp.putObj aG b (.map (lI.modify es.size λe=>{e with val:=Value.slice bl (0+1) bJ}) (es.size+1));rw[<-Av]at AE;have Eo:b<aG.heap.size:=(Array.getElem?_eq_some_iff.1 lf).1;have t5:∀{q:J}{m' aT:Nat}{ys:aU},μ aG B hP 2 q m' aT ys->μ ba B hP 2 q m' aT ys:=λγ=>γ.aC AE λa aP o=>by obtain⟨cur,fr,aO⟩:=(γ.typed aP).1;rw[o,lf]at aO;cases aO
  have n3:Kp w ba (λi=>B<=i):=by
   refine Kp.trans (ab.aC λi=>B<=i) (Kp.trans ob (Kp.trans al AE (U:=λi=>B<=i) (λ_ _ h=>h.elim) λi _ o=>?_) (U:=λi=>B<=i) (λi _ o=>?_) λ_ _ h=>h) (λ_ _ h=>h) λ_ _ h=>h
   ·rw[o];exact ny
   ·rw[o];exact ny
  refine K _ n3 ?_;rw[aN jy];have l2:∀(j:Nat)(hl:MapEntry),(lI.modify es.size λe=>{e with val:=Value.slice bl (0+1) bJ}).toList[j]?=some hl->(j=es.size/\hl=⟨.complex .f64 (eI (some x)) (eQ (some x)),Value.slice bl (0+1) bJ,es.size⟩)\/(j<es.size/\es.toList[j]?=some hl):=λj hl gA=>by
   rw[AW,List.getElem?_modify]at gA;by_cases hJ:es.size=j
   ·subst hJ;left;cases ay:lI.toList[es.size]?with
    |none=>rw[ay]at gA;simp at gA
    |some hI=>
     rcases mZ _ hI ay with⟨_,rfl⟩|⟨h,_⟩
     ·rw[ay]at gA;simp at gA;exact⟨rfl,gA.symm⟩
     ·omega
   ·have TN:lI.toList[j]?=some hl:=by simpa[hJ]using gA
    rcases mZ _ hl TN with⟨h,_⟩|h
    ·omega
    ·exact .inr h
  refine⟨ny,lI.modify es.size λe=>{e with val:=Value.slice bl (0+1) bJ},?_,?_,?_,?_⟩
  ·rw[Av,World.putObj_heap_same Eo,PH,fj]
  ·rw[qt,<-xF];have aM:(lI.modify es.size λe=>{e with val:=Value.slice bl (0+1) bJ}).toList.map (·.key)=lI.toList.map (·.key):=by
    apply qp;intro j;rw[List.getElem?_map,List.getElem?_map,AW,List.getElem?_modify];cases lI.toList[j]?with
    |none=>rfl
    |some c6=>simp only[jd];split<;>rfl
   rw[aM,<-EF,PI,qt];rfl
  ·intro j hl gA;rcases l2 j hl gA with⟨rfl,rfl⟩|⟨χ,dO⟩
   ·exact⟨rfl,bl,0+1,bJ,x,by rw[hlen,List.getElem?_append_right (eF _),u4];rfl,rfl,by rw[aY rfl,vY jy];exact t5 cz,by omega⟩
   ·obtain⟨g1,q,m',aT,ys,xt,g2,g3,g4⟩:=iO j hl dO;have UO:ys≠x:=λe=>jy (e▸eS xt);exact⟨g1,q,m',aT,ys,by rw[List.getElem?_append_left (by omega)];exact xt,g2,by rw[aN UO];exact t5 ((t3 g3).ex al),by omega⟩
  ·intro rV oX aM bz yT qc cc aq m1 c1 a2 m2 c2 mH mI;have sX:∀(j:Nat)(c6:MapEntry),es.toList[j]?=some c6->∀fz m' aT a3,c6.val=.slice (some fz) m' aT->bl=some a3->a3.block≠fz.block:=λj c6 dO fz m' aT a3 n9 hp=>by
    have h1:=rO a3 hp;obtain⟨_,q,Vd,R2,ys,_,g2,g3,_⟩:=iO j c6 dO;rw[n9]at g2;cases g2
    have:=(g3.ge rfl).2
    have:=ob.size
    omega
   rcases l2 rV aM yT with⟨rfl,rfl⟩|⟨h1,g1⟩
   ·rcases l2 oX bz qc with⟨rfl,rfl⟩|⟨η,g2⟩
    ·exact absurd rfl cc
    ·have mH:Value.slice bl (0+1) bJ=Value.slice (some aq) m1 c1:=mH;cases mH;exact sX oX bz g2 a2 m2 c2 aq mI rfl
   ·rcases l2 oX bz qc with⟨rfl,rfl⟩|⟨η,g2⟩
    ·have mI:Value.slice bl (0+1) bJ=Value.slice (some a2) m2 c2:=mI;cases mI
     exactλh=>sX rV aM g1 aq m1 c1 a2 mH rfl h.symm
    ·exact Al rV oX aM bz g1 g2 cc aq m1 c1 a2 m2 c2 mH mI
theorem lC.mono{w:World}{B b n fk:Nat}{cx:List (Nat×Nat)}{f:Nat×Nat->aU}(h:lC w B b n cx f)(ar:n<=fk):lC w B b fk cx f:=by obtain⟨h1,es,η,au,bV,c9⟩:=h;refine⟨h1,es,η,au,λi e he=>?_,c9⟩;obtain⟨g1,p,m,c,y,xt,g2,g3,g4⟩:=bV i e he;exact⟨g1,p,m,c,y,xt,g2,g3,by omega⟩
def oh(v:Int)(l:List eg)(y:Nat×Nat):aU:=l.zipIdx.flatMap λq=>if q.1=some y then[.int .i64 v,.int .i64 (q.2:Int)]else[]
def lO(R:bW)(y:Nat×Nat):aU:=R.zipIdx.flatMap λe=>oh (e.2:Int) e.1.2.2 y
theorem adr(v:Int){l:List eg}{j:Nat}(χ:j<l.length)(y:Nat×Nat):oh v (l.take (j+1)) y=oh v (l.take j) y++if l[j]=some y then[.int .i64 v,.int .i64 (j:Int)]else[]:=by unfold oh;rw[lq χ,List.zipIdx_append,wG];congr 1;simp[gY,q8 (Nat.le_of_lt χ)]
theorem arw{R:bW}{k:Nat}{e:fL}(he:R[k]?=some e)(y:Nat×Nat):lO (R.take (k+1)) y=lO (R.take k) y++oh (k:Int) e.2.2 y:=by obtain⟨hk,rfl⟩:=List.getElem?_eq_some_iff.1 he;unfold lO;rw[lq hk,List.zipIdx_append,wG];congr 1;simp[gY,q8 (Nat.le_of_lt hk)]
theorem ads{v:Int}{l:List eg}{y:Nat×Nat}(h:y∉l.filterMap id):oh v l y=[]:=by unfold oh;rw[List.flatMap_eq_nil_iff];intro q ay;obtain⟨q,b⟩:=q;have hm:q∈l:=(List.mem_zipIdx ay).2.2▸hN _;rw[aN];rintro rfl;exact h (u3.2 ⟨some y,hm,rfl⟩)
theorem VI{R:bW}{y:Nat×Nat}(h:y∉used R):lO R y=[]:=by unfold lO;rw[List.flatMap_eq_nil_iff];intro q ay;obtain⟨e,v⟩:=q;have hm:e∈R:=(List.mem_zipIdx ay).2.2▸hN _;exact ads λag=>h (pc.2 ⟨e,hm,ag⟩)
theorem all_map{w:World}{R:bW}{ps:aU}(h:ie w R ps):
  kG.C (bN R ps).toArray w (φ λv w'=>∃B b,v=.map (some b)/\w.heap.size<=B/\lC w' B b 8000 (gB (used R)) (lO R)/\θ w w'):=by
 apply kG.ok;unfold kG.main;have lL:=h.row;rintro ε δ rfl rfl ι υ rfl rfl;have ρ:=μ.new (w:=w) (bN R ps) bX;have ζ:=θ.alloc w (.cells (bN R ps).toArray bX);generalize Tu:w.heap.size=ε at ρ⊢;generalize w.alloc (.cells (bN R ps).toArray bX)=δ at ρ ζ⊢;have τ:=θ.alloc δ (.map #[] 0);have hm:=Ev δ (.map #[] 0);have dR:δ.heap.size<=(δ.alloc (.map #[] 0)).heap.size:=τ.size;have UG:=ζ.size;generalize amN:δ.heap.size=B at hm dR UG⊢;have m0:lC (δ.alloc (.map #[] 0)) B B 0 [] (λ_=>[]):=⟨eF _,#[],hm,rfl,λi e he=>by simp at he,λi j e c6 he=>by simp at he⟩;generalize δ.alloc (.map #[] 0)=υ at τ dR m0⊢;have h:=h.ex (ζ.trans τ);have ρ:=ρ.ex τ;have ae:aw υ (⟨ε,16,none⟩:Addr) ps:=by
  have:=aw.drop ρ.cells 16
  rwa[Addr.add_lit,mN,h.drop]at this
 refine⟨ps.toArray,by rw[fp];exact h.dE,ae,?_⟩;unfold kG.bd;refine⟨λt3 t10 t11 w'=>t3=some B/\ps.toArray=t10/\0<=t11/\t11<=8/\lC w' B B (t11.toNat*1000) (gB ((R.take t11.toNat).flatMap pU)) (lO (R.take t11.toNat))/\Kp υ w' λi=>B<=i,λt3 t10 t11 w'=>(8-t11).toNat,⟨rfl,rfl,by omega,by omega,m0,Kp.refl _ _⟩,?_⟩;rintro _ _ t11 w' ⟨rfl,rfl,aF,dr,l1,I⟩;unfold kG.ε;obtain⟨k,rfl⟩:=eR aF;rw[cP]at l1;have fin:∀{w':World},Kp υ w' (λi=>B<=i)->θ w w':=λI=>(ζ.trans τ).then I λi ω=>by omega
 refine bA (λbQ=>?_) λbQ=>?_
 ·have bQ:=cd bQ;have hk:k<8:=by omega
  obtain⟨e,he⟩:=h.get hk;obtain⟨p,c,hp,Es⟩:=lL k e he;have kW:=(Es.ex ζ).ex τ;obtain⟨dq,an,_,_⟩:=h.ok e (eS he);refine bO (bC aF) (bO (bC bQ) ?_);rw[cP,eG];have gw:ps.toArray[k]?=some (.slice p e.2.2.length c):=by rw[List.getElem?_toArray];exact hp
  rw[gw]
  try dsimp only[bj,er]
  unfold kG.fm;refine⟨λt3 t4 t10 t11 sm sl vc t16 t17 w'=>t3=some B/\ps.toArray=t10/\(k:Int)=t4/\(k:Int)=t11/\p=sm/\e.2.2.length=sl/\c=vc/\(e.2.2.length:Int)=t16/\0<=t17/\t17<=e.2.2.length/\lC w' B B (k*1000+t17.toNat) (gB ((R.take k).flatMap pU++(e.2.2.take t17.toNat).filterMap id)) (λy=>lO (R.take k) y++oh (k:Int) (e.2.2.take t17.toNat) y)/\Kp υ w' λi=>B<=i,
   λt3 t4 t10 t11 sm sl vc t16 t17 w'=>(e.2.2.length-t17).toNat,⟨rfl,rfl,rfl,rfl,rfl,rfl,rfl,rfl,by omega,by omega,?_,I⟩,?_⟩
  ·have:(R.take k).flatMap pU++(e.2.2.take (0:Int).toNat).filterMap id=(R.take k).flatMap pU:=by simp
   rw[this];have bf:(λy=>lO (R.take k) y++oh (k:Int) (e.2.2.take (0:Int).toNat) y)=lO (R.take k):=funext λy=>by simp[oh]
   rw[bf];exact l1.mono (Nat.le_add_right _ _)
  clear l1 I;rintro _ _ _ _ _ _ _ _ t17 w' ⟨rfl,rfl,rfl,rfl,rfl,rfl,rfl,rfl,i0,i1,l1,I⟩;unfold kG.ι;obtain⟨j,rfl⟩:=eR i0;rw[cP]at l1;have Ej:B<=w'.heap.size:=by have:=I.size;omega
  refine bA (λπ=>?_) λπ=>?_
  ·have π:=cd π;have χ:j<e.2.2.length:=by omega
   have yP:a8 w' p (e.2.2.map dT):=by
    have:=kW.aC I (λa aP ω=>by subst aP;have h1:=Nl (Es.cell (j:=j) (by rw[jP];exact χ));rw[yv]at h1;omega)
    exact this
   obtain⟨a,rfl,r⟩:=Fs yP χ;have ay:=dq _ (hN χ);refine bO (bC i0) (bO (bC π) ?_)
   try dsimp only[bj]
   rw[cP,eG];refine⟨_,_,r,?_⟩;rw[empty_eq ay];have lh:IntKind.i64.wrap ((j:Int)+1)=((j+1:Nat):Int):=by rw[b3 (by omega) (by omega)];rfl
   have ks:((j+1:Nat):Int).toNat=j+1:=rfl;cases rS:e.2.2[j]with
   |none=>
    rw[cond_neg (by rfl),lh];refine⟨⟨rfl,rfl,rfl,rfl,rfl,rfl,rfl,rfl,by omega,by omega,?_,I⟩,by((try dsimp only);omega)⟩;rw[ks,Qy χ,rS]
    have:[(none:eg)].filterMap id=[]:=rfl
    rw[this,pI];have bf:(λy=>lO (R.take k) y++oh (k:Int) (e.2.2.take (j+1)) y)=λy=>lO (R.take k) y++oh (k:Int) (e.2.2.take j) y:=funext λy=>by rw[adr _ χ,rS];simp
    rw[bf];exact l1.mono (by omega)
   |some x=>
    rw[rS]at ay;rw[cond_pos (by rfl)];refine l1.step (xR _) (by omega) Ej ay (λy ag=>adF h.ok he j y ((kt _ _).1 ag)) (λar=>?_) k j λba dP m6=>?_
    ·have ar:=λeo=>ar ((kt _ _).2 eo);rw[iI]at ar;have aq:lO (R.take k) x=[]:=VI λeo=>ar (.inl eo);have a2:oh (k:Int) (e.2.2.take j) x=[]:=ads λeo=>ar (.inr eo);show lO (R.take k) x++oh (k:Int) (e.2.2.take (j:Int).toNat) x=[];rw[cP,aq,a2];rfl
    rw[lh];refine⟨⟨rfl,rfl,rfl,rfl,rfl,rfl,rfl,rfl,by omega,by omega,?_,I.gr dP⟩,by((try dsimp only);omega)⟩;rw[ks,Qy χ,rS]
    have:[(some x:eg)].filterMap id=[x]:=rfl
    rw[this,<-mc,O7];have bf:(λy=>lO (R.take k) y++oh (k:Int) (e.2.2.take (j+1)) y)=λy=>if y=x then(lO (R.take k) x++oh (k:Int) (e.2.2.take j) x)++[.int .i64 (k:Int),.int .i64 (j:Int)]else lO (R.take k) y++oh (k:Int) (e.2.2.take j) y:=funext λy=>by
     rw[adr _ χ,rS];by_cases ag:y=x
     ·subst ag;simp
     ·rw[aN ag,aN λe=>ag (Cz e).symm,pI]
    rw[bf];exact m6.mono (by omega)
  ·have π:=dh π;have χ:j=e.2.2.length:=by omega
   rw[GL hk];refine⟨⟨rfl,rfl,by omega,by omega,?_,I⟩,by((try dsimp only);omega)⟩;have ks:((k+1:Nat):Int).toNat=k+1:=rfl;rw[ks,afG he];rw[χ,AV]at l1;have bf:lO (R.take (k+1))=λy=>lO (R.take k) y++oh (k:Int) e.2.2 y:=funext λy=>arw he y;rw[bf];exact l1.mono (by omega)
 ·have bQ:=dh bQ;obtain rfl:k=8:=by omega
  have ux:R.take 8=R:=hr (by rw[h.len];omega);have ks:((8:Nat):Int).toNat=8:=rfl;rw[ux]at l1;exact φ.mk ⟨B,B,rfl,by omega,l1,fin I⟩
open Go.Shelf Go.Sort
def atE:Go.Shelf.Ren:=⟨λ|6=>166|15=>186|14=>185|28=>204|29=>205|20=>196|21=>197|22=>198|23=>199|24=>200|25=>201|26=>202|27=>203|46=>207|47=>208|48=>209|49=>210|50=>211|57=>212|n=>n,λ|22=>86|24=>113|25=>261|3=>3|39=>42|0=>0|53=>227|55=>285|4=>4|46=>290|45=>289|50=>182|5=>5|9=>9|66=>298|70=>302|76=>304|77=>305|n=>n,λ|n=>n⟩
theorem aeM:Go.Proofs.SlLaysF.n6 prog atE:={
 mixed:=by kernel_rfl
 f6:=⟨ "slices.SortFunc[[]complex128,complex128]",by decide,func166.trans (gN some (by kernel_rfl))⟩
 f14:=⟨ "slices.pdqsortCmpFunc[complex128]",by decide,func185.trans (gN some (by kernel_rfl))⟩
 f15:=func186.trans (gN some (by kernel_rfl))
 f20:=⟨ "slices.insertionSortCmpFunc[complex128]",by decide,func196.trans (gN some (by kernel_rfl))⟩
 f21:=⟨ "slices.heapSortCmpFunc[complex128]",by decide,func197.trans (gN some (by kernel_rfl))⟩
 f22:=⟨ "slices.breakPatternsCmpFunc[complex128]",by decide,func198.trans (gN some (by kernel_rfl))⟩
 f23:=⟨ "slices.choosePivotCmpFunc[complex128]",by decide,func199.trans (gN some (by kernel_rfl))⟩
 f24:=⟨ "slices.reverseRangeCmpFunc[complex128]",by decide,func200.trans (gN some (by kernel_rfl))⟩
 f25:=⟨ "slices.partialInsertionSortCmpFunc[complex128]",by decide,func201.trans (gN some (by kernel_rfl))⟩
 f26:=⟨ "slices.partitionEqualCmpFunc[complex128]",by decide,func202.trans (gN some (by kernel_rfl))⟩
 f27:=⟨ "slices.partitionCmpFunc[complex128]",by decide,func203.trans (gN some (by kernel_rfl))⟩
 f28:=func204.trans (gN some (by kernel_rfl))
 f29:=func205.trans (gN some (by kernel_rfl))
 f46:=⟨ "slices.siftDownCmpFunc[complex128]",by decide,func207.trans (gN some (by kernel_rfl))⟩
 f47:=func208.trans (gN some (by kernel_rfl))
 f48:=func209.trans (gN some (by kernel_rfl))
 f49:=⟨ "slices.medianAdjacentCmpFunc[complex128]",by decide,func210.trans (gN some (by kernel_rfl))⟩
 f50:=⟨ "slices.medianCmpFunc[complex128]",by decide,func211.trans (gN some (by kernel_rfl))⟩
 f57:=⟨ "slices.order2CmpFunc[complex128]",by decide,func212.trans (gN some (by kernel_rfl))⟩
 t0:=underlying0
 a0:=isAgg0
 z0:=sizeOf0
 v0:=zeroValue0
 t3:=underlying3
 a3:=isAgg3
 z3:=sizeOf3
 v3:=zeroValue3
 t4:=underlying4
 a4:=isAgg4
 z4:=sizeOf4
 v4:=zeroValue4
 t5:=underlying5
 a5:=isAgg5
 z5:=sizeOf5
 v5:=zeroValue5
 t9:=underlying9
 a9:=isAgg9
 z9:=sizeOf9
 v9:=zeroValue9
 t22:=underlying86
 a22:=isAgg86
 z22:=sizeOf86
 v22:=zeroValue86
 a24:=isAgg113
 z24:=sizeOf113
 t25:=underlying261
 a25:=isAgg261
 z25:=sizeOf261
 v25:=zeroValue261
 t39:=underlying42
 a39:=isAgg42
 z39:=sizeOf42
 v39:=zeroValue42
 t45:=underlying289
 a45:=isAgg289
 z45:=sizeOf289
 v45:=zeroValue289
 t46:=underlying290
 a46:=isAgg290
 z46:=sizeOf290
 v46:=zeroValue290
 t50:=underlying182
 a50:=isAgg182
 z50:=sizeOf182
 v50:=zeroValue182
 t53:=underlying227
 a53:=isAgg227
 z53:=sizeOf227
 v53:=zeroValue227
 t55:=underlying285
 a55:=isAgg285
 z55:=sizeOf285
 v55:=zeroValue285
 t66:=underlying298
 a66:=isAgg298
 z66:=sizeOf298
 v66:=zeroValue298
 t70:=underlying302
 a70:=isAgg302
 z70:=sizeOf302
 v70:=zeroValue302
 t76:=underlying304
 a76:=isAgg304
 z76:=sizeOf304
 v76:=zeroValue304
 t77:=underlying305
 a77:=isAgg305
 z77:=sizeOf305
 v77:=zeroValue305}
def G2(a b:Nat):Int:=if a<b then-1 else if b<a then 1 else 0
theorem acP:∀a b:_root_.Fin 24,ey .lss (j7 a.val) (j7 b.val)=decide (a.val<b.val)/\ey .gtr (j7 a.val) (j7 b.val)=decide (b.val<a.val)/\ey .neq (j7 a.val) (j7 a.val)=false:=by decide+kernel
theorem X1{a:Nat}(aP:a<24)(w:World):DP.C (j7 a) w (φ λv w'=>v=.bool false/\w'=w):=by apply DP.ok;unfold DP.main;exact φ.mk ⟨by rw[(acP ⟨a,aP⟩ ⟨a,aP⟩).2.2],rfl⟩
theorem XE{a b:Nat}(aP:a<24)(ω:b<24)(w:World):DN.C (j7 a) (j7 b) w (φ λv w'=>v=.int .i64 (G2 a b)/\w'=w):=by
 apply DN.ok;unfold DN.main;obtain⟨h1,η,-⟩:=acP ⟨a,aP⟩ ⟨b,ω⟩;refine κ.use (X1 aP w) ?_;rintro _ δ ⟨rfl,aM⟩;obtain rfl:=aM.symm
 try dsimp only[dH,jb]
 refine κ.use (X1 ω _) ?_;rintro _ υ ⟨rfl,bz⟩;obtain rfl:=bz.symm
 try dsimp only[dH,jb]
 dsimp only at h1 η;rw[h1,η];unfold G2;refine bA (λh=>?_) λh=>bA (λeX=>?_) λeX=>?_
 ·exact φ.mk ⟨by rw[aY (cd h)],rfl⟩
 ·exact φ.mk ⟨by rw[aN (dh h),aY (cd eX)],rfl⟩
 ·exact φ.mk ⟨by rw[aN (dh h),aN (dh eX)],rfl⟩
theorem aji{w:World}{b:Nat}{x y:Int}(π:a8 w (some ⟨b,0,none⟩) [.int .i64 x,.int .i64 y]):sO.C (some ⟨b,0,none⟩) 2 2 w (φ λv w'=>v=.int .i64 (if x≠0 then x else y)/\w'=w):=by
 apply sO.ok;unfold sO.main sO.bd;have fI:w.cell? (⟨b,0,none⟩:Addr)=some (.int .i64 x):=π.cell (j:=0) (by simp);have c1:w.cell? (⟨b,1,none⟩:Addr)=some (.int .i64 y):=π.cell (j:=1) (by simp);refine⟨λt3 kM ka lS t7 t8 w'=>0=t3/\some ⟨b,0,none⟩=kM/\2=ka/\(2:Int)=t7/\w=w'/\(t8=0\/(t8=1/\x=0)\/(t8=2/\x=0/\y=0)),λ_ _ _ _ _ t8 _=>(2-t8).toNat,⟨rfl,rfl,rfl,rfl,rfl,.inl rfl⟩,?_⟩;rintro _ _ _ lS _ t8 w' ⟨rfl,rfl,rfl,rfl,rfl,h⟩;unfold sO.ε;rcases h with rfl|⟨rfl,I⟩|⟨rfl,I,ag⟩
 ·rw[cond_pos (by decide)];refine bO (by decide) (bO (by decide) ?_)
  try dsimp only[bj]
  refine⟨x,fI,?_⟩;by_cases I:x=0
  ·rw[cond_neg (by simp[I])];exact⟨⟨rfl,rfl,rfl,rfl,rfl,.inr (.inl ⟨by decide,I⟩)⟩,by decide⟩
  ·rw[cond_pos (by simpa using I)];exact φ.mk ⟨by rw[aY I],rfl⟩
 ·rw[cond_pos (by decide)];refine bO (by decide) (bO (by decide) ?_)
  try dsimp only[bj]
  refine⟨y,c1,?_⟩;by_cases ag:y=0
  ·rw[cond_neg (by simp[ag])];exact⟨⟨rfl,rfl,rfl,rfl,rfl,.inr (.inr ⟨by decide,I,ag⟩)⟩,by decide⟩
  ·rw[cond_pos (by simpa using ag)];exact φ.mk ⟨by rw[aN (by simpa using I)],rfl⟩
 ·rw[cond_neg (by decide)];exact φ.mk ⟨by rw[aN (by simpa using I),ag],rfl⟩
abbrev w8:=_root_.Fin 24×_root_.Fin 16
def oN(x:w8):Value:=dT (some (x.1.val,x.2.val))
def Fl(x y:w8):Int:=if G2 x.1.val y.1.val≠0 then G2 x.1.val y.1.val else G2 x.2.val y.2.val
theorem ajk(x y:w8)(w:World):Dp.C (j7 x.1.val) (j7 x.2.val) (j7 y.1.val) (j7 y.2.val) w (φ λv w'=>v=.int .i64 (Fl x y)/\∃γ,w'=w.alloc γ):=by
 apply Dp.ok;unfold Dp.main;have aq:=x.1.isLt;have a2:=x.2.isLt;have ε:=y.1.isLt;have ι:=y.2.isLt;refine κ.use (XE (a:=x.1.val) (b:=y.1.val) aq ε w) ?_;rintro _ δ ⟨rfl,aM⟩;obtain rfl:=aM.symm
 try dsimp only[bH]
 refine κ.use (XE (a:=x.2.val) (b:=y.2.val) (by omega) (by omega) _) ?_;rintro _ υ ⟨rfl,bz⟩;obtain rfl:=bz.symm
 try dsimp only[bH]
 rintro b aG rfl rfl;refine κ.use (aji (a8.alloc _ ck)) ?_;rintro _ ba ⟨rfl,nY⟩;obtain rfl:=nY.symm
 try dsimp only[bH]
 exact φ.mk ⟨rfl,_,rfl⟩
theorem Pl(x y:w8):ltOf Fl x y=decide (x.1.val<y.1.val\/x.1.val=y.1.val/\x.2.val<y.2.val):=by unfold ltOf Fl G2;split<;>split<;>(try split)<;>(apply decide_eq_decide.2)<;>omega
theorem aro:SWO (ltOf Fl)where
 irrefl x:=by rw[Pl];simp
 trans x y z h1 η:=by rw[Pl]at*;simp only[pJ]at*;omega
 ntrans x y z h1 η:=by rw[Pl]at*;simp only[Lz]at*;omega
theorem amC(w:World)(γ:Obj):grow w #[γ]=w.alloc γ:=by unfold grow World.alloc;congr 1
theorem arp(c5 off n:Nat)(w:World):CmpLays1 prog 167 #[] oN Fl c5 off n w:=λm os aw5 ψ x y=>
 (ajk x y _).mono λe w'⟨v,he,aL,γ,aE⟩=>⟨by rw[he,aL],0,#[γ],by rw[aE,amC];rfl⟩
theorem alS:∀args w,(callFunc 167 args).run prog w=.ok (.enter 167 args) w:=enters_of func167 (by kernel_rfl) rfl
theorem atC{w:World}{b:Nat}{cur:ah}{e:TypeId}{fr:Nat×Nat}{d':Array w8}{n:Nat}{os:Array Obj}(h:w.heap[b]?=some (.cells cur e fr)):
  (sortWorld oN w b 0 n d' os).heap[b]?=some (.cells (putCells oN 0 d' cur) e fr)/\Kp w (sortWorld oN w b 0 n d' os) λi=>i=b:=by
 have ω:b<w.heap.size:=(Array.getElem?_eq_some_iff.1 h).1;have ψ:(putRow oN (Sort.ahead w n) b 0 d').heap.size=w.heap.size:=by simp[putRow,mapBlock,Sort.ahead]
 refine⟨?_,rfl,rfl,rfl,?_,λi o cc=>?_⟩
 ·show((putRow oN (Sort.ahead w n) b 0 d').heap++os)[b]?=_;rw[Array.getElem?_append_left (by omega)];show(w.heap.modify b _)[b]?=_;rw[Array.getElem?_modify,aY rfl,h];rfl
 ·show w.heap.size<=((putRow oN (Sort.ahead w n) b 0 d').heap++os).size;rw[LH];omega
 ·show((putRow oN (Sort.ahead w n) b 0 d').heap++os)[i]?=_;rw[Array.getElem?_append_left (by omega)];show(w.heap.modify b _)[i]?=_;rw[Array.getElem?_modify,aN λh=>cc h.symm]
theorem asa(d':Array w8)(cur:ah)(h:d'.size<=cur.size):(putCells oN 0 d' cur).toList.take d'.size=d'.toList.map oN:=by
 apply qp;intro i;rw[List.getElem?_take,List.getElem?_map,Array.getElem?_toList,Array.getElem?_toList];unfold putCells;rw[Array.getElem?_mapIdx];by_cases o:i<d'.size
 ·rw[aY o,Array.getElem?_eq_getElem (by omega),jd,aY ⟨da _,by omega⟩,Array.getElem?_eq_getElem o,Nat.sub_zero,getElem!_pos d' i o];rfl
 ·rw[aN o,Array.getElem?_eq_none (by omega)];rfl
abbrev Yc(p:J)(n c:Nat)(w:World)(R:ak):Prop:=Calls prog 166 #[.slice p n c,.func (.func 167) #[] #[]] w R
theorem ajD{w:World}{B b n c:Nat}{l:List w8}(γ:μ w B eA 1 (some ⟨b,0,none⟩) n c (l.map oN))(ar:n<=1000000):Yc (some ⟨b,0,none⟩) n c w (φ λv w'=>v=.tuple #[]/\∃oc:List w8,oc.Perm l/\oc.Pairwise (λx y=>ltOf Fl y x=false)/\μ w' B eA 1 (some ⟨b,0,none⟩) n c (oc.map oN)/\Kp w w' λi=>i=b):=by
 have an:l.length=n:=by have:=γ.1;simpa using this
 have bQ:=(γ.typed rfl).2.2;obtain⟨_,pA,⟨h,_⟩|⟨gW,cur,fr,jj,dR,ω,jx,π,I⟩⟩:=γ
 ·cases h
 cases jj;have fj:l.toArray.size=n:=by simpa using an
 have uF:n<=cur.size:=by omega
 have hH:Holds oN w b 0 l.toArray:=λj χ=>by
  have e3:j<l.length:=by simpa using χ
  refine⟨?_,?_⟩
  ·rw[mN,cell_of_block ω,<-Array.getElem?_toList,getElem!_pos l.toArray j χ];have η:(cur.toList.take (n*1))[j]?=some (oN l[j]):=by rw[I,List.getElem?_map,List.getElem?_eq_getElem e3];rfl
   rw[List.getElem?_take,aY (by omega)]at η;rw[η];simp
  ·rw[JX ω];rcases jx with h|h
   ·simp;omega
   ·simp;omega
 have aaZ:=Any.slices_SortFunc aeM oN (λ_=>rfl) Fl aro 167 #[] b 0 c l.toArray w alS (arp b 0 _ w) hH bQ (by omega);rw[fj]at aaZ;refine Calls.mono aaZ λe w'⟨he,d',k,os,hp,ψ,hw⟩=>?_;obtain⟨ee,hk⟩:=atC (d':=d') (n:=k) (os:=os) ω;subst hw;have ae:d'.size=n:=by rw[hp.1,fj]
 have aoM:d'.toList.Perm l:=by
  have:=hp.2.2
  rwa[Array.extract_eq_self_of_le (by omega),Array.extract_eq_self_of_le (by omega)]at this
 refine⟨_,he,rfl,d'.toList,aoM,?_,⟨by simp[ae],pA,.inr ⟨b,_,fr,rfl,dR,ee,?_,?_,?_⟩⟩,hk⟩
 ·rw[CG];intro i j o χ Ez
  have:=ψ i j (da _) Ez (by simpa[ae]using χ)
  rw[getElem!_pos d' i (by simpa using o),getElem!_pos d' j (by simpa using χ)]at this;simpa using this
 ·have:(putCells oN 0 d' cur).size=cur.size:=by simp[putCells]
  rw[this];exact jx
 ·have:(putCells oN 0 d' cur).size=cur.size:=by simp[putCells]
  rw[this];exact π
 ·rw[eG,<-ae];exact asa d' cur (by omega)
theorem aiy{w:World}{p:J}{n c:Nat}{U:List (Nat×Nat)}(π:a8 w p (dE U))(ar:U.length=n)(an:n<=1000000)(aE:∀x∈U,gS x)(ae:U.Nodup):nj.C p n c w (φ λv w'=>v=.slice p n c/\θ w w'):=by
 apply nj.ok;unfold nj.main;refine bA (λh=>φ.mk ⟨rfl,θ.refl w⟩) λh=>?_;have η:=dh h;unfold nj.bd;refine⟨λcj cb cu t3 w'=>p=cj/\n=cb/\c=cu/\1<=t3/\t3<=n/\θ w w',λ_ _ _ t3 _=>(n-t3).toNat,⟨rfl,rfl,rfl,by omega,by omega,θ.refl w⟩,?_⟩;rintro _ _ _ t3 w' ⟨rfl,rfl,rfl,h1,au,I⟩;unfold nj.ε;obtain⟨k,rfl⟩:=eR (show 0<=t3 by omega);refine bA (λhk=>?_) λhk=>φ.mk ⟨rfl,I⟩;have hk:=cd hk;have yP:=π.ex I;obtain⟨j,rfl⟩:=Nat.exists_eq_succ_of_ne_zero (show k≠0 by omega);have xD:j+1<U.length:=by omega
 have EA:j<U.length:=by omega
 have aM:(dE U)[j+1]?=some (dT (some U[j+1])):=by unfold dE;rw[List.getElem?_map,List.getElem?_eq_getElem xD];rfl
 have hI:(dE U)[j]?=some (dT (some U[j])):=by unfold dE;rw[List.getElem?_map,List.getElem?_eq_getElem EA];rfl
 obtain⟨a,aP,cS⟩:=yP.many aM;obtain⟨fz,Hk,oo⟩:=yP.many hI;rw[aP]at Hk;cases Hk;refine bO (bC (by omega)) (bO (bC (by omega)) ?_);have i1:(((j+1:Nat):Int).toNat*1)=j+1:=by omega
 have i0:((j:Int).toNat*1)=j:=by omega
 refine gK aP ⟨eI (some U[j+1]),eQ (some U[j+1]),?_,?_⟩
 ·show w'.cell? (a.add (((j+1:Nat):Int).toNat*1))=_;rw[i1];exact cS
 have bz:IntKind.i64.wrap (((Nat.succ j:Nat):Int)-1)=(j:Int):=by rw[b3 (by omega) (by omega)];omega
 rw[bz];refine bO (bC (by omega)) (bO (bC (by omega)) ?_);refine gK aP ⟨eI (some U[j]),eQ (some U[j]),by rw[i0];exact oo,λaZ=>?_⟩;have cc:U[j+1]≠U[j]:=λe=>by
  have:=(CG.1 ae) j (j+1) EA xD (by omega)
  exact this e.symm
 rw[Ch (aE _ (hN xD)) (aE _ (hN EA)) cc];rw[cond_neg rfl,b3 (x:=((Nat.succ j:Nat):Int)+1) (by omega) (by omega)];exact⟨⟨rfl,rfl,rfl,by omega,by omega,I.trans (θ.drewN w' aZ)⟩,by((try dsimp only);omega)⟩
theorem aiw{w:World}{p:J}{n c:Nat}(ar:n<=c):F5.C p n c w (φ λv w'=>v=.slice p n n/\w'=w):=by apply F5.ok;unfold F5.main;refine bO (bC (by omega)) (bO (bC (by omega)) (bO (bC (by omega)) (bO (bC (by omega)) ?_)));rw[IL];exact φ.mk ⟨rfl,rfl⟩
def Bx:List (Nat×Nat):=(List.range 24).flatMap λa=>(List.range 16).map λb=>(a,b)
def lays(U:List (Nat×Nat)):List (Nat×Nat):=Bx.filter λx=>decide (x∈U)
def AG(x y:Nat×Nat):Prop:=x.1<y.1\/x.1=y.1/\x.2<y.2
instance(x y:Nat×Nat):Decidable (AG x y):=by unfold AG;infer_instance
theorem aka:Bx.Pairwise AG:=by decide+kernel
theorem aqo{x:Nat×Nat}:x∈Bx↔gS x:=by obtain⟨a,b⟩:=x;unfold Bx gS;simp[pc,gM,nF]
theorem acd(U:List (Nat×Nat)):(lays U).Pairwise AG:=aka.filter _
theorem HX{U:List (Nat×Nat)}(aE:∀x∈U,gS x){x:Nat×Nat}:x∈lays U↔x∈U:=by unfold lays;rw[mO,aqo];exact⟨λh=>cd h.2,λh=>⟨aE x h,bC h⟩⟩
theorem KX(U:List (Nat×Nat)):(lays U).Nodup:=(acd U).imp λh e=>by subst e;unfold AG at h;omega
theorem acb{U:List (Nat×Nat)}(aE:∀x∈U,gS x)(ae:U.Nodup):(lays U).Perm U:=(List.perm_ext_iff_of_nodup (KX U) ae).2 λx=>HX aE
theorem apX{U V:List (Nat×Nat)}(aE:∀x∈U,gS x)(ae:U.Nodup)(hp:V.Perm U)(ψ:V.Pairwise λx y=>¬AG y x):V=lays U:=
 List.Perm.eq_of_pairwise (le:=λx y=>¬AG y x) (λa b _ _ h1 η=>by
  obtain⟨aq,a2⟩:=a;obtain⟨ε,ι⟩:=b;unfold AG at h1 η;have aM:aq=ε:=by dsimp only at h1 η;omega
  have bz:a2=ι:=by dsimp only at h1 η;omega
  rw[aM,bz]) ψ ((acd U).imp λ{x y}h eX=>by unfold AG at h eX;omega) (hp.trans (acb aE ae).symm)
theorem HQ{U:List (Nat×Nat)}(aE:∀x∈U,gS x)(ae:U.Nodup):(lays U).length=U.length:=(acb aE ae).length_eq
def ahu(x:Nat×Nat):w8:=(⟨x.1%24,Nat.mod_lt _ (by decide)⟩,⟨x.2%16,Nat.mod_lt _ (by decide)⟩)
def Pf(f:w8):Nat×Nat:=(f.1.val,f.2.val)
theorem adg{x:Nat×Nat}(h:gS x):Pf (ahu x)=x:=by show(x.1%24,x.2%16)=x;rw[LB h.1,LB h.2]
theorem adM(l:List w8):dE (l.map Pf)=l.map oN:=by unfold dE;rw[CD];rfl
theorem ar0{U:List (Nat×Nat)}(aE:∀x∈U,gS x):(U.map ahu).map oN=dE U:=by rw[<-adM,CD];congr 1;exact(CE λx I=>adg (aE x I)).trans (List.map_id U)
theorem YA:∀a:_root_.Fin 24,uh (j7 a.val) 0=some (j7 a.val):=by decide+kernel
theorem XA(p:J)(n c:Nat)(xs:aU)(w:World)(π:a8 w p xs)(an:xs.length=n)(ar:n<=1000000000000)(h1:∀y∈xs,y.oneCell'=true):
  F6.C p n c w (φ λv w'=>∃bU aT,v=.slice bU n aT/\θ w w'/\μ w' w.heap.size eA 1 bU n aT xs):=by
 apply F6.ok;unfold F6.main;cases p with
 |none=>
  have:xs=[]:=π
  subst this
  have:n=0:=by simpa using an.symm
  subst this
  try dsimp only[JP,BM]
  exact φ.mk ⟨none,0,rfl,θ.refl w,μ.nil _ _ _ _⟩
 |some a=>
  try dsimp only[mB,jb]
  rintro ε δ rfl rfl;have aE:=μ.alloc (w:=w) [] eA 1 0 rfl;have I:=θ.alloc w (.cells #[] eA);refine kT aE (by have:=I.size;exact this) xs (a8.ex I π) (by omega) h1 rfl (by omega) (by omega) λbU aT w' jO hk=>?_;rw[mN]at jO⊢;rw[r9]at jO;exact φ.mk ⟨bU,aT,rfl,I.then hk (λi⟨x,e,o⟩=>by cases e;exact Ii o),jO⟩
theorem ajE{w0 w:World}{p:J}{n c:Nat}{U:List (Nat×Nat)}(I:θ w0 w)(γ:μ w w0.heap.size eA 1 p n c (dE U))(an:n<=4096)(aE:∀x∈U,gS x)(ae:U.Nodup):
  oH.aZ p n c w (φ λv w'=>∃q d,v=.tuple #[.slice q n d,.int .i64 0]/\θ w0 w'/\μ w' w0.heap.size eA 1 q n d (dE (lays U))):=by
 unfold oH.aZ;have aaH:U.length=n:=by have:=γ.1;rw[zg,eG]at this;exact this
 have pA:n<=c:=γ.2.1
 have key:∀w',θ w0 w'->μ w' w0.heap.size eA 1 p n c (dE (lays U))->κ prog 169 #[.slice p n c] w' (λv4 b9=>df v4 λaX br c2=>
   κ prog 168 #[.slice aX br c2] b9 (λv5 dk=>df v5 λbl dz bJ=>φ (λv w'=>∃q d,v=.tuple #[.slice q n d,.int .i64 0]/\θ w0 w'/\μ w' w0.heap.size eA 1 q n d (dE (lays U))) (.returned (.tuple #[.slice bl dz bJ,.int .i64 0])) dk)
    λcX cH=>φ (λv w'=>∃q d,v=.tuple #[.slice q n d,.int .i64 0]/\θ w0 w'/\μ w' w0.heap.size eA 1 q n d (dE (lays U))) (.panicked cX) cH)
   λcX ca=>φ (λv w'=>∃q d,v=.tuple #[.slice q n d,.int .i64 0]/\θ w0 w'/\μ w' w0.heap.size eA 1 q n d (dE (lays U))) (.panicked cX) ca:=λw' l8 hd=>by
  refine κ.use (aiy hd.cells ((HQ aE ae).trans aaH) (by omega) (λx h=>aE x ((HX aE).1 h)) (KX U)) ?_;rintro _ δ ⟨rfl,ζ⟩
  try dsimp only[er]
  refine κ.use (aiw pA) ?_;rintro _ υ ⟨rfl,bz⟩;obtain rfl:=bz.symm
  try dsimp only[er]
  refine φ.mk ⟨p,n,rfl,l8.trans ζ,?_⟩;obtain⟨aZ,bP,b7⟩:=hd.ex ζ;refine⟨aZ,eF _,?_⟩;rcases b7 with⟨h,aF⟩|⟨b,cur,fr,h,dR,ω,jx,π,h8⟩
  ·exact .inl ⟨h,by omega⟩
  ·exact .inr ⟨b,cur,fr,h,dR,ω,jx,by omega,h8⟩
 cases p with
 |none=>
  have Ua:n=0:=by
   obtain⟨_,_,⟨_,h⟩|⟨_,_,_,h,_⟩⟩:=γ
   ·omega
   ·cases h
  subst Ua;have ji:U=[]:=q9 aaH;subst ji;have ψ:Yc none 0 c w (φ λv w'=>v=.tuple #[]/\w'=w):=Calls.mono (AnyF.slices_SortFunc_none {aeM with} none c (.func (.func 167) #[] #[]) w) λe w' h=>⟨_,h.1,rfl,h.2⟩;refine κ.use ψ ?_;rintro _ w' ⟨rfl,aM⟩;obtain rfl:=aM.symm
  try dsimp only[bZ]
  have hI:lays []=[]:=PQ.2 λx _=>by simp
  exact key _ I (by rw[hI];exact γ)
 |some a=>
  obtain⟨b,rfl⟩:∃b,a=⟨b,0,none⟩:=by
   obtain⟨_,_,⟨h,_⟩|⟨b,_,_,h,_⟩⟩:=γ
   ·cases h
   ·cases h;exact⟨b,rfl⟩
  rw[<-ar0 aE]at γ;refine κ.use (ajD γ (by omega)) ?_;rintro _ w' ⟨rfl,oc,hp,ψ,hd,k'⟩
  try dsimp only[bZ]
  have n0:oc.map Pf=lays U:=by
   refine apX aE ae ?_ ?_
   ·have:=hp.map Pf
    rw[CD]at this;refine this.trans (List.Perm.of_eq ?_);exact(CE λx I=>adg (aE x I)).trans (List.map_id U)
   ·rw[List.pairwise_map];refine ψ.imp λ{x y}h=>?_;rw[Pl]at h;exact dh h
  rw[<-adM,n0]at hd;exact key _ (I.then k' λi o=>by rw[o];exact(hd.ge rfl).1) hd
theorem ajF{w:World}{p:J}{n c:Nat}{U:List (Nat×Nat)}(π:a8 w p (dE U))(ar:U.length=n)(an:n<=4096)(aE:∀x∈U,gS x)(ae:U.Nodup):
  oH.C p n c w (φ λv w'=>∃q d,v=.tuple #[.slice q n d,.int .i64 0]/\θ w w'/\μ w' w.heap.size eA 1 q n d (dE (lays U))):=by
 apply oH.ok;unfold oH.main;rw[cond_neg (iJ (by omega))];refine κ.use (XA p n c (dE U) w π ((zg U).trans ar) (by omega) (arZ U)) ?_;rintro _ δ ⟨ad,c1,rfl,ζ,ρ⟩
 try dsimp only[er]
 unfold oH.bd;refine⟨λqB pS ve hX fB ir t13 t14 w'=>ad=qB/\n=pS/\c1=ve/\ad=hX/\n=fB/\(n:Int)=t13/\0<=t14/\t14<=n/\θ w w'/\μ w' w.heap.size eA 1 ad n c1 (dE U),λ_ _ _ _ _ _ _ t14 _=>(n-t14).toNat,⟨rfl,rfl,rfl,rfl,rfl,rfl,by omega,by omega,ζ,ρ⟩,?_⟩;clear ρ ζ;rintro _ _ _ _ _ ir _ t14 w' ⟨rfl,rfl,rfl,rfl,rfl,rfl,aF,h1,I,γ⟩;unfold oH.ε;obtain⟨k,rfl⟩:=eR aF;refine bA (λhk=>?_) λhk=>ajE I γ an aE ae;have hk:=cd hk;have n2:k<U.length:=by omega
 have aM:(dE U)[k]?=some (dT (some U[k])):=by unfold dE;rw[List.getElem?_map,List.getElem?_eq_getElem n2];rfl
 have dq:=aE _ (hN n2);refine bO (bC aF) (bO (bC hk) ?_);obtain⟨b,rfl⟩:∃b,ad=some ⟨b,0,none⟩:=by
  obtain⟨_,_,⟨_,h⟩|⟨b,_,_,h,_⟩⟩:=γ
  ·omega
  ·exact⟨b,h⟩
 try dsimp only[bj]
 have aP:(⟨b,0,none⟩:Addr).add ((k:Int).toNat*1)=⟨b,k,none⟩:=by rw[Addr.add_lit,cP];simp
 rw[aP];refine⟨eI (some U[k]),eQ (some U[k]),γ.at aM,?_⟩;refine κ.use (zX (some U[k]) dq w') ?_;rintro _ aa ⟨rfl,gw⟩;obtain rfl:=gw.symm
 try dsimp only[dH]
 rw[show(!(some U[k]:eg).isSome)=false from rfl,wE];refine gK (YA ⟨U[k].1,dq.1⟩) (gK (YA ⟨U[k].2,by have:=dq.2;omega⟩) ?_);refine bO (bC aF) (bO (bC hk) ?_);refine γ.dj (j:=k) (by omega) rfl λaG ea cz=>?_;have lM:(dE U).set k (dT (some U[k]))=dE U:=by
  apply qp;intro i;rw[List.getElem?_set];split
  ·rename_i h;subst h;rw[aY (by rw[zg];omega),aM]
  ·rfl
 have Pd:μ aG w.heap.size eA 1 (some ⟨b,0,none⟩) n c1 (dE U):=lM▸cz;rw[b3 (x:=(k:Int)+1) (by omega) (by omega)];exact⟨⟨rfl,rfl,rfl,rfl,rfl,rfl,by omega,by omega,I.then ea λi o=>by rw[o];exact(Pd.ge rfl).1,Pd⟩,by((try dsimp only);omega)⟩
theorem lC.size{w:World}{B b n:Nat}{cx:List (Nat×Nat)}{f:Nat×Nat->aU}(h:lC w B b n cx f):∃es:Array MapEntry,w.heap[b]?=some (.map es es.size)/\es.size=cx.length:=by
 obtain⟨_,es,η,au,_,_⟩:=h;refine⟨es,η,?_⟩
 have:=gN List.length au
 simpa using this
theorem XZ{w:World}{R:bW}{ps:aU}(h:ie w R ps)(ψ:lE R):Fo.C (bN R ps).toArray w (φ λv w'=>v=.tuple #[.int .i64 ((gB (used R)).length:Nat),.int .i64 0]/\θ w w'):=by
 apply Fo.ok;unfold Fo.main;rintro ε δ rfl rfl;have ρ:=μ.new (w:=w) (bN R ps) bX;have ζ:=θ.alloc w (.cells (bN R ps).toArray bX);generalize Tu:w.heap.size=ε at ρ⊢;generalize w.alloc (.cells (bN R ps).toArray bX)=δ at ρ ζ⊢;have h1:=h.ex ζ;have hlen:=ρ.1;refine⟨(bN R ps).toArray,by simp[bN,AF,h.len,h.dE],ρ.cells,?_⟩;refine κ.use (GW h1) ?_;rintro _ υ ⟨rfl,τ⟩
 try dsimp only[dH]
 rw[bC ψ]
 skip
 refine⟨(bN R ps).toArray,by simp[bN,AF,h.len,h.dE],(ρ.ex τ).cells,?_⟩;refine κ.use (all_map (h1.ex τ)) ?_;rintro _ ax ⟨B,b,rfl,_,hm,aA⟩
 try dsimp only[NG]
 obtain⟨es,aM,bz⟩:=hm.size;refine⟨es,_,aM,φ.mk ⟨by rw[bz],(ζ.trans τ).trans aA⟩⟩
theorem lC.xL{w w':World}{B b n:Nat}{cx:List (Nat×Nat)}{f:Nat×Nat->aU}(h:lC w B b n cx f){S:a1}(k:Kp w w' S)(ω:¬S b)(ed:∀i,S i->¬Typed w hP i):lC w' B b n cx f:=by obtain⟨h1,es,η,au,bV,c9⟩:=h;have px:b<w.heap.size:=(Array.getElem?_eq_some_iff.1 η).1;refine⟨h1,es,by rw[k.block b px ω];exact η,au,λi e he=>?_,c9⟩;obtain⟨g1,p,m,c,y,xt,g2,g3,g4⟩:=bV i e he;exact⟨g1,p,m,c,y,xt,g2,g3.aC k λa aP ψ=>ed _ ψ (g3.typed aP).1,g4⟩
theorem lC.look{w:World}{B b n:Nat}{cx:List (Nat×Nat)}{f:Nat×Nat->aU}(h:lC w B b n cx f)(oS:∀y∈cx,gS y)(vY:∀y,y∉cx->f y=[]){x:Nat×Nat}(I:gS x){K:Value->Prop}
  (jW:∀p m c,μ w B hP 2 p m c (f x)->K (.slice p m c)):HT prog w (some b) (eI (some x)) (eQ (some x)) zG (.slice none 0 0) K:=by
 obtain⟨h1,es,η,au,bV,c9⟩:=h;refine⟨VJ,b,es,es.size,rfl,η,?_⟩;have Kj:∀(i:Nat)(e:MapEntry),es.toList[i]?=some e->∃y,cx[i]?=some y/\e.key=dT (some y):=by
  intro i e he
  have:=gN (λl=>l[i]?) au
  rw[List.getElem?_map,List.getElem?_map,he]at this;cases ay:cx[i]?with
  |none=>rw[ay]at this;cases this
  |some y=>rw[ay]at this;exact⟨y,rfl,by simpa using this⟩
 by_cases hm:x∈cx
 ·right;obtain⟨i,o,Kr⟩:∃i:Nat,cx[i]?=some x/\∀j:Nat,j<i->cx[j]?≠some x:=by
   obtain⟨i0,TW⟩:=List.getElem?_of_mem hm
   have:∀m i:Nat,i<=m->cx[i]?=some x->∃i:Nat,cx[i]?=some x/\∀j:Nat,j<i->cx[j]?≠some x:=by
    intro m
    induction m with
    |zero=>intro i o I;exact⟨i,I,λj χ=>by omega⟩
    |succ m cq=>
     intro i o I;by_cases χ:∃j,j<i/\cx[j]?=some x
     ·obtain⟨j,χ,Hv⟩:=χ;exact cq j (by omega) Hv
     ·exact⟨i,I,λj hJ Hv=>χ ⟨j,hJ,Hv⟩⟩
   exact this i0 i0 (eF _) TW
  have an:es.toList.length=cx.length:=by
   have:=gN List.length au
   simpa using this
  have yW:i<cx.length:=(List.getElem?_eq_some_iff.1 o).1;obtain⟨y,ag,hk⟩:=Kj i _ (List.getElem?_eq_getElem (by omega));obtain rfl:y=x:=Cz (ag.symm.trans o);obtain⟨_,p,m,c,jt,KO,g2,g3,_⟩:=bV i _ (List.getElem?_eq_getElem (by omega:i<es.toList.length));obtain rfl:jt=y:=Cz (KO.symm.trans o);refine⟨i,_,List.getElem?_eq_getElem (by omega:i<es.toList.length),hk,U2 I,λc6 dO=>?_,by rw[g2];exact jW p m c g3⟩;obtain⟨j,χ⟩:=List.getElem?_of_mem dO;have hJ:j<i:=by
   have:=(List.getElem?_eq_some_iff.1 χ).1
   rw[gY]at this;omega
  rw[List.getElem?_take_of_lt hJ]at χ;obtain⟨z,aI,UP⟩:=Kj j c6 χ;exact⟨eI (some z),eQ (some z),UP,Ch I (oS z (eS aI)) λe=>Kr j hJ (e▸aI)⟩
 ·left;refine⟨λe he=>?_,jW none 0 0 (by rw[vY x hm];exact μ.nil _ _ _ _)⟩;obtain⟨j,χ⟩:=List.getElem?_of_mem he;obtain⟨z,aI,UP⟩:=Kj j e χ;exact⟨eI (some z),eQ (some z),UP,Ch I (oS z (eS aI)) λe=>hm (e▸eS aI)⟩
theorem KW{U V:List (Nat×Nat)}(h:∀x,x∈U↔x∈V):lays U=lays V:=by
 unfold lays;congr 1
 funext x
 exact decide_eq_decide.2 (h x)
def pick(cx:List (Nat×Nat))(l:List Nat):List (Nat×Nat):=l.map λi=>cx.getD i (0,0)
theorem adI{cx:List (Nat×Nat)}{l:List Nat}(h:∀i∈l,i<cx.length){x:Nat×Nat}(I:x∈pick cx l):x∈cx:=by obtain⟨i,o,rfl⟩:=gM.1 I;rw[List.getD_eq_getElem?_getD,List.getElem?_eq_getElem (h i o)];exact hN _
theorem arM{cx:List (Nat×Nat)}(hk:cx.Nodup){l:List Nat}(h:∀i∈l,i<cx.length)(ae:l.Nodup):(pick cx l).Nodup:=by
 unfold pick;refine PR _ ?_ (V9 (R:=λa b=>a≠b) (S:=λa b=>cx.getD a (0,0)≠cx.getD b (0,0)) (λ{a b}aP ω s0 e=>s0 ?_) ae)
 ·exactλ_ _ h=>h
 ·rw[List.getD_eq_getElem?_getD,List.getD_eq_getElem?_getD,List.getElem?_eq_getElem (h a aP),List.getElem?_eq_getElem (h b ω)]at e;rcases Nat.lt_trichotomy a b with an|he|an
  ·exact absurd e ((CG.1 hk) a b (h a aP) (h b ω) an)
  ·exact he
  ·exact absurd e.symm ((CG.1 hk) b a (h b ω) (h a aP) an)
structure GR(w:World)(B b it:Nat)(cx:List (Nat×Nat))(f:Nat×Nat->aU)(l:List Nat):Prop where
 it:w.heap[it]?=some (.mapIter (some b) cx.length l.toArray cx.length)
 lo:l.Nodup
 lt:∀i∈l,i<cx.length
 map:lC w B b 8000 cx f
theorem GR.ne{w:World}{B b it:Nat}{cx:List (Nat×Nat)}{f:Nat×Nat->aU}{l:List Nat}(h:GR w B b it cx f l):it≠b:=by rintro rfl;obtain⟨es,he,_⟩:=h.map.size;rw[h.it]at he;cases he
theorem GR.next{w:World}{B b it:Nat}{cx:List (Nat×Nat)}{f:Nat×Nat->aU}{l:List Nat}(h:GR w B b it cx f l){MX:Prop}{K:Value->ai}
  (aF:(∀i,i<cx.length->i∈l)->MX)(h1:∀i w',i<cx.length->i∉l->Kp w w' (λj=>j=it)->GR w' B b it cx f (l++[i])->K (dT (some (cx.getD i (0,0)))) w'):
  Vl w ⟨it,0,none⟩ MX λe bk=>SK bk ⟨it,0,none⟩ λv3 v4=>K v3 bk:=by
 have cc:=h.ne;obtain⟨low,es,η,au,bV,c9⟩:=h.map;have an:es.size=cx.length:=by
  have:=gN List.length au
  simpa using this
 have p9:∀(i:Nat)(o:i<es.size),es[i].born=i:=λi o=>(bV i _ (by rw[Array.getElem?_toList];exact Array.getElem?_eq_getElem o)).1;have oT:(es.toList.map (·.born)).Nodup:=by unfold List.Nodup;rw[CG];intro i j o χ Ez;simp only[jP,k0]at o χ;simp only[List.getElem_map,Ir];rw[p9 i o,p9 j χ];omega
 refine⟨it,b,cx.length,cx.length,l.toArray,es,es.size,rfl,h.it,η,λx I=>?_,eF _,λaI=>aF λi o=>?_,λe he δ w' EO fW=>?_⟩
 ·obtain⟨i,o,rfl⟩:=PT.1 I;rw[k0]at o;rw[Ir,p9 i o];omega
 ·have lg:i<es.size:=by omega
  have hle:leftOf es l.toArray=#[]:=PD aI;unfold leftOf at hle;rw[Array.filter_eq_empty_iff]at hle
  have:=hle es[i] (Array.getElem_mem lg)
  rw[p9 i lg]at this;simpa using this
 ·unfold leftOf at he;rw[Array.toList_filter,mO]at he;obtain⟨hm,ψ⟩:=he;obtain⟨i,o,rfl⟩:=PT.1 hm;rw[k0]at o;rw[Ir,p9 i o]at ψ;have Ue:i∉l:=by simpa using ψ
  rw[Ir,p9 i o]at fW;have Cc:θ w δ:=by
   rcases EO with rfl|rfl
   ·exact θ.refl _
   ·exact θ.drew _
  have eo:δ.heap=w.heap:=by rcases EO with rfl|rfl<;>rfl
  have bQ:it<δ.heap.size:=by rw[eo];exact(Array.getElem?_eq_some_iff.1 h.it).1
  have aC:=Kp.putObj δ it (.mapIter (some b) cx.length (l.toArray.push i) es.size);rw[<-fW]at aC;have Rp:Kp w w' λj=>j=it:=(Cc.aC _).gr aC;have Ao:w'.heap[it]?=some (.mapIter (some b) cx.length (l.toArray.push i) es.size):=by rw[fW];exact World.putObj_heap_same bQ
  have l1:lC w' B b 8000 cx f:=h.map.xL Rp (λe=>cc e.symm) (λj χ aO=>by obtain⟨c,fr,aO⟩:=aO;rw[χ,h.it]at aO;cases aO)
  have jj:w'.heap[b]?=some (.map es es.size):=by rw[Rp.block b (Array.getElem?_eq_some_iff.1 η).1 λe=>cc e.symm];exact η
  have xE:es.toList[i].key=dT (some (cx.getD i (0,0))):=by
   have:=gN (λl=>l[i]?) au
   rw[List.getElem?_map,List.getElem?_map,List.getElem?_eq_getElem (by rw[k0];exact o),List.getElem?_eq_getElem (by omega:i<cx.length)]at this;rw[List.getD_eq_getElem?_getD,List.getElem?_eq_getElem (by omega:i<cx.length)];simpa using this
  refine⟨it,b,cx.length,l.toArray,es,es.size,es.toList[i],rfl,?_,jj,hN _,oT,?_⟩
  ·rw[Ir,p9 i o];exact Ao
  ·rw[xE];refine h1 i w' (by omega) Ue Rp ⟨?_,?_,?_,l1⟩
   ·rw[Ao,an];simp
   ·rw[List.nodup_append];exact⟨h.lo,by simp,λa aP b ω e=>by simp only[lp]at ω;subst ω;subst e;exact Ue aP⟩
   ·intro j χ;rcases iI.1 χ with χ|χ
    ·exact h.lt j χ
    ·simp only[lp]at χ;omega
theorem ajl{w0 w:World}{B b:Nat}{cx:List (Nat×Nat)}{f:Nat×Nat->aU}(I:θ w0 w)(hm:lC w B b 8000 cx f)(oS:∀y∈cx,gS y)(vY:∀y,y∉cx->f y=[])(ω:w0.heap.size<=b)
  {p:J}{n c:Nat}{V:List (Nat×Nat)}(γ:μ w w0.heap.size eA 1 p n c (dE V))(n0:∀x∈V,gS x)(ar:n<=4096){R:ak}
  (K:∀fO br c2 w',θ w0 w'->μ w' w0.heap.size eA 1 p n c (dE V)->R (.returned (.tuple #[.slice p n c,.slice fO br c2,.int .i64 0])) w'):
  kj.fm (some b) p n c none 0 0 p n c (n:Int) 0 w R:=by
 have axk:V.length=n:=by have:=γ.1;rw[zg,eG]at this;exact this
 unfold kj.fm;refine⟨λt5 kM ka lS jo ia je Mc Mb Qj t32 t33 w'=>some b=t5/\p=kM/\n=ka/\c=lS/\p=Mc/\n=Mb/\c=Qj/\(n:Int)=t32/\0<=t33/\t33<=n/\t33=ia/\θ w0 w'/\lC w' B b 8000 cx f/\μ w' w0.heap.size eA 1 p n c (dE V)/\∃ys,μ w' w0.heap.size zG 1 jo ia je ys,
  λt5 kM ka lS jo ia je Mc Mb Qj t32 t33 w'=>(n-t33).toNat,⟨rfl,rfl,rfl,rfl,rfl,rfl,rfl,rfl,by omega,by omega,rfl,I,hm,γ,[],μ.nil _ _ _ _⟩,?_⟩
 clear I hm γ;rintro _ _ _ _ jo ia je _ _ _ _ t33 w' ⟨rfl,rfl,rfl,rfl,rfl,rfl,rfl,rfl,aF,h1,dr,I,hm,γ,ys,adu⟩;unfold kj.ι;obtain⟨k,rfl⟩:=eR aF;refine bA (λhk=>?_) λhk=>?_
 ·have hk:=cd hk;have n2:k<V.length:=by omega
  have aM:(dE V)[k]?=some (dT (some V[k])):=by unfold dE;rw[List.getElem?_map,List.getElem?_eq_getElem n2];rfl
  obtain⟨a,aP,r⟩:=γ.cells.many aM;refine bO (bC aF) (bO (bC hk) ?_);refine gK aP ⟨eI (some V[k]),eQ (some V[k]),by rw[cP,eG];exact r,?_⟩;refine hm.look oS vY (n0 _ (hN n2)) λbl m3 bJ bu=>?_
  try dsimp only[er]
  rintro dC cn rfl rfl;have al:=θ.alloc w' (.cells #[.slice bl m3 bJ] zG);have h2:a8 (w'.alloc (.cells #[.slice bl m3 bJ] zG)) (some ⟨w'.heap.size,0,none⟩) [.slice bl m3 bJ]:=a8.alloc _ zG;generalize w'.alloc (.cells #[.slice bl m3 bJ] zG)=cn at al h2⊢;have eE:=I.trans al;refine kT (adu.ex al) eE.size [.slice bl m3 bJ] h2 rfl (λy ag=>by simp only[lp]at ag;subst ag;rfl) rfl (by omega) (by omega) λej fU de cm cp=>?_;have t4:∀i,(∃x,jo=some x/\x.block=i)->Typed cn zG i/\w0.heap.size<=i:=λi⟨x,I,o⟩=>by
   have:=(adu.ex al).typed I
   exact⟨o▸this.1,o▸this.2.1⟩
  rw[b3 (x:=(k:Int)+1) (by omega) (by omega)];refine⟨⟨rfl,rfl,rfl,rfl,rfl,rfl,rfl,rfl,by omega,by omega,by omega,eE.then cp λi o=>(t4 i o).2,?_,?_,_,cm⟩,by((try dsimp only);omega)⟩
  ·obtain⟨es,he,_⟩:=(hm.xL (al.aC λ_=>False) id λ_ h=>h.elim).size;exact(hm.xL (al.aC λ_=>False) id λ_ h=>h.elim).xL cp (λω=>by obtain⟨c,fr,aO⟩:=(t4 b ω).1;rw[he]at aO;cases aO) λi o aO=>aO.ne (t4 i o).1 (by decide) rfl
  ·exact(γ.ex al).aC cp λx I o=>((γ.ex al).typed I).1.ne (t4 _ o).1 (by decide) rfl
 ·unfold kj.bP;exact K _ _ _ _ I γ
theorem adH(cx:List (Nat×Nat))(l:List Nat):(pick cx l).length=l.length:=by simp[pick]
theorem X4{w:World}{R:bW}{ps:aU}(h:ie w R ps)(ψ:lE R)(π:(gB (used R)).length<=4096):kj.C (bN R ps).toArray w (φ λv w'=>∃q d fO br c2,v=.tuple #[.slice q (lays (used R)).length d,.slice fO br c2,.int .i64 0]/\θ w w'/\μ w' w.heap.size eA 1 q (lays (used R)).length d (dE (lays (used R)))):=by
 apply kj.ok;unfold kj.main;have ny:w.heap.size<=w.heap.size:=eF _;rintro ε δ rfl rfl;have ρ:=μ.new (w:=w) (bN R ps) bX;have ζ:=θ.alloc w (.cells (bN R ps).toArray bX);have ρ:=ρ;generalize w.alloc (.cells (bN R ps).toArray bX)=δ at ρ ζ⊢;have h1:=h.ex ζ;have rK:(bN R ps).toArray.size=24:=by simp[bN,AF,h.len,h.dE]
 refine⟨(bN R ps).toArray,rK,ρ.cells,?_⟩;refine κ.use (GW h1) ?_;rintro _ υ ⟨rfl,τ⟩
 try dsimp only[dH]
 rw[bC ψ]
 skip
 refine⟨(bN R ps).toArray,rK,(ρ.ex τ).cells,?_⟩;have dG:=ζ.trans τ;refine κ.use (all_map (h1.ex τ)) ?_;rintro _ ax ⟨B,b,rfl,dR,hm,aA⟩
 try dsimp only[NG]
 have ju:θ w ax:=dG.trans aA;have Ej:w.heap.size<=B:=fo dG.size dR;have axv:B<=b:=hm.low;obtain⟨es,he,py⟩:=hm.size;refine⟨b,es,es.size,rfl,he,?_⟩;rintro aH ba rfl rfl;have aJ:=θ.alloc ax (.mapIter (some b) es.size #[] es.size);have Ao:=Ev ax (.mapIter (some b) es.size #[] es.size);have B5:lC (ax.alloc (.mapIter (some b) es.size #[] es.size)) B b 8000 (gB (used R)) (lO R):=hm.xL (aJ.aC λ_=>False) id λ_ h=>h.elim;have aoe:w.heap.size<=ax.heap.size:=ju.size;generalize ax.alloc (.mapIter (some b) es.size #[] es.size)=ba at aJ Ao B5⊢;generalize ax.heap.size=it at Ao aoe⊢;have kB:=ju.trans aJ;rw[py]at Ao;have oS:∀y∈gB (used R),gS y:=λy ag=>rj h.ok y ((kt _ _).1 ag);have vY:∀y,y∉gB (used R)->lO R y=[]:=λy ag=>VI λhu=>ag ((kt _ _).2 hu);have oT:=xR (used R);have jy:∀x,x∈gB (used R)↔x∈used R:=kt _;generalize axH:gB (used R)=cx at π hm py Ao B5 oS vY oT jy;unfold kj.bd;refine⟨λt5 kM ka lS t17 w'=>some b=t5/\it=t17/\∃l,GR w' B b it cx (lO R) l/\l.length=ka/\θ w w'/\μ w' w.heap.size eA 1 kM ka lS (dE (pick cx l)),
  λt5 kM ka lS t17 w'=>cx.length-ka,⟨rfl,rfl,[],⟨Ao,List.nodup_nil,λi o=>by simp at o,B5⟩,rfl,kB,μ.nil _ _ _ _⟩,?_⟩
 clear Ao B5 kB aJ ba;rintro _ kM ka lS _ w' ⟨rfl,rfl,l,gp,an,I,γ⟩;unfold kj.ε;have hle:l.length<=cx.length:=by
  have:=rZ l (List.range cx.length) gp.lo λx I=>nF.2 (gp.lt x I)
  simpa using this
 refine gp.next (λdM=>?_) λi bk o Ue hK Ek=>?_
 ·
  unfold kj.aZ;have ji:∀x,x∈pick cx l↔x∈used R:=λx=>by rw[<-jy];refine⟨λI=>adI gp.lt I,λI=>?_⟩;obtain⟨i,o,rfl⟩:=PT.1 I;refine gM.2 ⟨i,dM i o,?_⟩;rw[List.getD_eq_getElem?_getD,List.getElem?_eq_getElem o];rfl
  have dq:∀x∈pick cx l,gS x:=λx I=>oS x (adI gp.lt I);have Kz:=arM oT gp.lt gp.lo;have hlen:=HQ dq Kz;refine κ.use (ajF γ.cells ((adH cx l).trans an) (by omega) dq Kz) ?_;rintro _ dk ⟨q,d,rfl,e7,qk⟩;rw[KW ji]at qk hlen;rw[adH,an]at hlen
  try dsimp only[bZ,cC,cD,bj,bH,er]
  rw[<-hlen]at qk⊢;refine ajl (I.trans e7) (gp.map.xL (e7.aC λ_=>False) id λ_ h=>h.elim) oS vY (by omega) (qk.lower I.size) (λx I=>rj h.ok x ((HX (rj h.ok)).1 I)) (by omega) λfO br c2 cH fu r2=>?_;exact φ.mk ⟨q,d,fO,br,c2,rfl,fu,r2⟩
 ·rintro af b9 rfl rfl;have Aw:θ w bk:=I.then hK λj χ=>by omega
  have eM:=γ.aC hK λx I χ=>by obtain⟨c,fr,aO⟩:=(γ.typed I).1;rw[χ,gp.it]at aO;cases aO
  have ct:=θ.alloc bk (.cells #[dT (some (cx.getD i (0,0)))] eA);have mw:a8 (bk.alloc (.cells #[dT (some (cx.getD i (0,0)))] eA)) (some ⟨bk.heap.size,0,none⟩) [dT (some (cx.getD i (0,0)))]:=a8.alloc _ eA;unfold dT at ct mw;generalize bk.alloc (.cells #[.complex .f64 (eI (some (cx.getD i (0,0)))) (eQ (some (cx.getD i (0,0))))] eA)=b9 at ct mw⊢;have eE:=Aw.trans ct;refine kT (eM.ex ct) eE.size [dT (some (cx.getD i (0,0)))] mw rfl (λy ag=>by simp only[lp]at ag;subst ag;rfl) rfl (by omega) (by omega) λej fU ca jm hU=>?_;have t4:∀j,(∃x,kM=some x/\x.block=j)->Typed b9 eA j/\w.heap.size<=j:=λj⟨x,I,χ⟩=>by
   have:=(eM.ex ct).typed I
   exact⟨χ▸this.1,χ▸this.2.1⟩
  have m8:=Ek.map.xL (ct.aC λ_=>False) id λ_ h=>h.elim;obtain⟨aw7,anT,_⟩:=m8.size;have US:b9.heap[it]?=some (.mapIter (some b) cx.length (l++[i]).toArray cx.length):=by rw[ct.block it (Array.getElem?_eq_some_iff.1 Ek.it).1 id];exact Ek.it
  refine⟨⟨rfl,rfl,l++[i],⟨?_,Ek.lo,Ek.lt,?_⟩,by rw[e9,an];rfl,eE.then hU λj χ=>(t4 j χ).2,?_⟩,?_⟩
  ·rw[hU.block it (Array.getElem?_eq_some_iff.1 US).1 λχ=>?_]
   ·exact US
   ·obtain⟨c,fr,aO⟩:=(t4 it χ).1;rw[US]at aO;cases aO
  ·exact m8.xL hU (λω=>by obtain⟨c,fr,aO⟩:=(t4 b ω).1;rw[anT]at aO;cases aO) λj χ aO=>aO.ne (t4 j χ).1 (by decide) rfl
  ·have:dE (pick cx (l++[i]))=dE (pick cx l)++[dT (some (cx.getD i (0,0)))]:=by simp[dE,pick]
   rw[this];exact jm
  ·have:l.length<cx.length:=by
    have η:=rZ (l++[i]) (List.range cx.length) Ek.lo λx I=>nF.2 (Ek.lt x I);simp at η;omega
   dsimp only;omega
end Go.Proofs.YtcpdfhkhaekekaaGreat.G.cr

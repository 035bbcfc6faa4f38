/- The walk of the functions, and the plain laws of the model: part of the proof. Conditions: none. -/
import Derived.Shelf.SlSortCmp.Whole1
import Derived.Shelf.Lay
import Derived.Ground.SlsfProg
import Derived.Shelf.SlSortCmp.NoneTotal
import Derived.Test.YtcpdfhkhaekekaaGreatA8
set_option linter.unusedVariables false
set_option linter.unusedSimpArgs false
namespace Go.Proofs.YtcpdfhkhaekekaaGreat.G.cF
open Go.bJ Go.RowKit
def rI(k n:Int):Bool:=decide (n=0)||(decide (1<=k)&&decide (k<=16)&&decide (n-1<24*k))
def j3(k n:Int):eK:=if n=0 then none else if 1<=k/\k<=16/\n-1<24*k then some (((n-1)/k).toNat,((n-1)%k).toNat)else some (0,0)
theorem atN{k n:Int}(ar:0<=n):kH (j3 k n):=by
 unfold j3;split
 ·exact trivial
 ·split
  ·rename_i aF h;have hk:=h.1;have h1:=Nt (n-1) (show k≠0 by omega);have ι:=Nj (n-1) (show 0<k by omega);have aJ:0<=(n-1)/k:=Int.ediv_nonneg (by omega) (by omega);have cK:(n-1)/k<24:=Int.ediv_lt_of_lt_mul (by omega) h.2.2;exact⟨by show((n-1)/k).toNat<24;omega,by show((n-1)%k).toNat<16;omega⟩
  ·exact⟨by decide,by decide⟩
theorem XM{k:Int}(hk:2<=k/\k<=16){q:eK}(aH:kH q)(J:∀x,q=some x->(x.2:Int)<k):rI k (BS k q)=true/\j3 k (BS k q)=q/\0<=BS k q/\BS k q<65536:=by
 cases q with
 |none=>exact⟨rfl,rfl,Int.le_refl 0,(by decide:(0:Int)<65536)⟩
 |some x=>
  have h1:=J x rfl;have ι:=aH.1;have bm:=Lp (k:=k) ι (by omega);have e:BS k (some x)=(x.1:Int)*k+x.2+1:=rfl;have aP:(x.1:Int)*k+x.2+1-1=x.2+k*x.1:=by rw[Int.mul_comm];omega
  have ah:((x.2:Int)+k*x.1)/k=x.1:=by rw[Int.add_mul_ediv_left _ _ (by omega),Nk (by omega) h1];omega
  have hm:((x.2:Int)+k*x.1)%k=x.2:=by rw[Int.add_mul_emod_self_left];exact G5 (by omega) h1
  have bQ:(x.2:Int)+k*x.1<24*k:=by have aJ:k*(x.1:Int)<=k*23:=Int.mul_le_mul_of_nonneg_left (by omega) (by omega);omega
  rw[e];refine⟨?_,?_,by omega,by omega⟩
  ·unfold rI;rw[aP,bI (show 1<=k by omega),bI hk.2,bI bQ];simp
  ·unfold j3;rw[aL (by omega),aP,aN ⟨by omega,hk.2,bQ⟩,ah,hm];simp
theorem asP{n:Int}(h:0<=n/\n<65536):bB.num (bB.be 2 n)=n:=by simp[bB.be,bB.num];omega
def y1(k:Int):aq->gn×aq
 |a::b::r=>((a,b,(bB.j7 2 (min b.toNat (r.length/2)) r).map (j3 k)),r.drop (2*min b.toNat (r.length/2)))
 |t=>((0,0,[]),t)
def B1(k:Int):aq->Bool
 |_::b::r=>decide (2*b<=(r.length:Int))&&(bB.j7 2 b.toNat r).all (rI k)
 |_=>false
def h3(k:Int)(t:aq):Nat->bZ×aq
 |0=>([],t)
 |n+1=>((h3 k t n).1++[(y1 k (h3 k t n).2).1],(y1 k (h3 k t n).2).2)
def jL(k:Int)(t:aq):Nat->Bool
 |0=>true
 |n+1=>jL k t n&&B1 k (h3 k t n).2
def yP(k:Int)(t:aq):Bool:=jL k t 8&&decide ((h3 k t 8).2.length=0)
theorem afY(k:Int)(t:aq):∀n,(h3 k t n).1.length=n
 |0=>rfl
 |n+1=>by show((h3 k t n).1++[_]).length=n+1;rw[fw,afY k t n];rfl
theorem num_nonneg{xs:aq}(τ:Bytes xs):0<=bB.num xs:=(bB.QW xs τ).1
theorem ax4{m:Nat}{r:aq}(τ:Bytes r):∀n∈bB.j7 2 m r,0<=n:=λn ar=>by obtain⟨i,_,rfl⟩:=gx.1 ar;exact num_nonneg ((τ.drop _).take _)
theorem aut{k:Int}{t:aq}(τ:Bytes t):Bytes (y1 k t).2:=by
 match t,τ with
 |[],τ=>exact τ
 |[a],τ=>exact τ
 |a::b::r,τ=>exact Bytes.drop (λx J=>τ x (ie _ (ie _ J))) _
theorem afX{k:Int}{t:aq}(τ:Bytes t):∀n,Bytes (h3 k t n).2
 |0=>τ
 |n+1=>aut (afX τ n)
theorem atW{k:Int}{m:Nat}{r:aq}(τ:Bytes r):∀q∈(bB.j7 2 m r).map (j3 k),kH q:=λq aH=>by obtain⟨n,ar,rfl⟩:=gx.1 aH;exact atN (ax4 τ n ar)
theorem ax5{k:Int}(hk:2<=k/\k<=16)(r:aq):∀l:List eK,(∀q∈l,kH q)->(∀x,some x∈l->(x.2:Int)<k)->bB.j7 2 l.length (j4 k l++r)=l.map (BS k):=by
 intro l aH J;apply rL;intro i;unfold bB.j7;rw[List.getElem?_map,List.getElem?_map];by_cases I:i<l.length
 ·rw[List.getElem?_range I,List.getElem?_eq_getElem I];simp only[jB];congr 1;unfold bB.nZ;have aqT:j4 k l++r=j4 k (l.take i)++(DG k l[i]++(j4 k (l.drop (i+1))++r)):=by
   conv=>lhs;rw[<-Au i l,JL I]
   unfold j4;rw[xB,As];simp only[nc]
  have h1:(j4 k (l.take i)).length=i*2:=by rw[JC,hs];omega
  rw[aqT,<-h1,Nr];have ι:(DG k l[i]).length=2:=by unfold DG;rw[bB.tV]
  rw[<-ι,Rs];have τ:=XM hk (aH _ (hP I)) (λx e=>J x (e▸hP I));exact asP ⟨τ.2.2.1,τ.2.2.2⟩
 ·rw[List.getElem?_eq_none (by rw[xC];omega),List.getElem?_eq_none (by omega)];rfl
theorem auv{s k:Int}{R:bZ}(kE:mN s k R)(aG:∀e∈R,mG e){e:gn}(he:e∈R)(r:aq):B1 k (yU k e++r)=true/\y1 k (yU k e++r)=(e,r):=by
 have ea:=vQ.1 kE.1.1;have eU:=kE.1.2.1 e he;obtain⟨a,b,l⟩:=e;have ak:(l.length:Int)=b:=eU.1;have aH:=(aG _ he).1;have J:∀x,some x∈l->(x.2:Int)<k:=λx J=>(ad0 kE he J).1;have hu:=ax5 (k:=k) (by omega) r l aH J;have aS:b.toNat=l.length:=by omega
 have hlen:(j4 k l++r).length=2*l.length+r.length:=by rw[fw,JC]
 have aP:yU k (a,b,l)++r=a::b::(j4 k l++r):=rfl;rw[aP];constructor
 ·show(decide (2*b<=((j4 k l++r).length:Int))&&(bB.j7 2 b.toNat (j4 k l++r)).all (rI k))=true;rw[aS,hu,hlen,bI (by omega),Rw,DS];intro n ar;obtain⟨q,Mj,rfl⟩:=gx.1 ar;exact(XM (by omega) (aH q Mj) (λx e=>J x (e▸Mj))).1
 ·have L7:min b.toNat ((j4 k l++r).length/2)=l.length:=by rw[hlen];omega
  show((a,b,(bB.j7 2 (min b.toNat ((j4 k l++r).length/2)) (j4 k l++r)).map (j3 k)),(j4 k l++r).drop (2*min b.toNat ((j4 k l++r).length/2)))=((a,b,l),r);rw[L7,hu,<-JC k l,Nr,DV]
  have:l.map (j3 k∘BS k)=l:=by
   conv=>rhs;rw[<-List.map_id l]
   refine DW λq Mj=>?_;exact(XM (by omega) (aH q Mj) (λx e=>J x (e▸Mj))).2.1
  rw[this]
theorem afZ{s k:Int}{R:bZ}(kE:mN s k R)(aG:∀e∈R,mG e):∀n,n<=R.length->jL k (fg k R) n=true/\h3 k (fg k R) n=(R.take n,fg k (R.drop n))
 |0,_=>⟨rfl,rfl⟩
 |n+1,h=>by
  obtain⟨h1,ι⟩:=afZ kE aG n (by omega);have ar:n<R.length:=by omega
  have aP:fg k (R.drop n)=yU k R[n]++fg k (R.drop (n+1)):=by rw[JL ar];rfl
  obtain⟨g1,g2⟩:=auv kE aG (hP ar) (fg k (R.drop (n+1)));constructor
  ·show(jL k (fg k R) n&&B1 k (h3 k (fg k R) n).2)=true;rw[h1,ι];show(true&&B1 k (fg k (R.drop n)))=true;rw[aP,g1];rfl
  ·show((h3 k (fg k R) n).1++[(y1 k (h3 k (fg k R) n).2).1],(y1 k (h3 k (fg k R) n).2).2)=_;rw[ι];show(R.take n++[(y1 k (fg k (R.drop n))).1],(y1 k (fg k (R.drop n))).2)=_;rw[aP,g2,mb ar]
theorem auu{s k:Int}{R:bZ}(kE:mN s k R)(aG:∀e∈R,mG e)(dD:R.length=8):yP k (fg k R)=true/\(h3 k (fg k R) 8).1=R:=by obtain⟨h1,ι⟩:=afZ kE aG 8 (by omega);rw[hR (by omega),List.drop_of_length_le (by omega)]at ι;unfold yP;rw[h1,ι];exact⟨rfl,rfl⟩
end Go.Proofs.YtcpdfhkhaekekaaGreat.G.cF
namespace Go.Proofs.YtcpdfhkhaekekaaGreat.G.cF
open Go.bJ Go.RowKit
theorem atb{k:Int}{t:aq}:∀{n m:Nat},n<=m->jL k t m=true->jL k t n=true:=by
 intro n m h
 induction m with
 |zero=>
  intro h1;have aF:n=0:=by omega
  rw[aF];rfl
 |succ m cw=>
  intro h1;by_cases ar:n=m+1
  ·subst ar;exact h1
  ·have h1:(jL k t m&&B1 k (h3 k t m).2)=true:=h1;rw[lf]at h1;exact cw (by omega) h1.1
theorem Xq{k:Int}{t:aq}{i:Nat}(I:i<8)(bm:B1 k (h3 k t i).2=false):yP k t=false:=by
 cases h:yP k t with
 |false=>rfl
 |true=>
  unfold yP at h;rw[lf]at h;have h1:=atb (show i+1<=8 by omega) h.1;have h1:(jL k t i&&B1 k (h3 k t i).2)=true:=h1;rw[bm,Bool.and_false]at h1;cases h1
theorem Tm{n k:Int}(ar:1<=n/\n<65536)(hk:0<=k/\k<256)(w:World):zy.C (n-1) k w (ω λv w'=>∃e,v=.tuple #[.complex .f64 (eX (j3 k n)) (e5 (j3 k n)),.int .i64 e]/\(e=0↔rI k n=true)/\η w w'):=by
 apply zy.ok;unfold zy.main;refine κ.use (OE k w) ?_;rintro _ ε ⟨rfl,aP⟩;obtain rfl:=aP.symm
 try dsimp only[dX]
 have zN:¬(1<=k/\k<=16/\n-1<24*k)->eX (j3 k n)=0/\e5 (j3 k n)=0/\rI k n=false:=λh=>by
  unfold j3 rI;rw[aL (by omega),aL h,iX (show¬n=0 by omega)];refine⟨aeI,aeI,?_⟩;by_cases h1:1<=k
  ·by_cases ι:k<=16
   ·rw[iX (show¬n-1<24*k fromλaJ=>h ⟨h1,ι,aJ⟩)];simp
   ·rw[iX ι];simp
  ·rw[iX h1];simp
 have fail:∀{e:Int}{w':World},¬(1<=k/\k<=16/\n-1<24*k)->e≠0->η w w'->ω (λv w'=>∃e,v=.tuple #[.complex .f64 (eX (j3 k n)) (e5 (j3 k n)),.int .i64 e]/\(e=0↔rI k n=true)/\η w w') (.returned (.tuple #[.complex .f64 0 0,.int .i64 e])) w':=λh he x=>by
  obtain⟨h1,ι,aJ⟩:=zN h;refine ω.mk ⟨_,?_,⟨λh=>absurd h he,λh=>?_⟩,x⟩
  ·rw[h1,ι]
  ·rw[aJ]at h;cases h
 refine bt (λπ=>?_) (λπ=>?_)
 ·exact fail (e:=1) (λh=>by rw[bI h.1,bI h.2.1]at π;cases π) (by decide) (η.refl _)
 have π:1<=k/\k<=16:=by simpa using π
 rw[jl (by omega),bS (x:=24*k) (by omega) (by omega)];refine bt (λι=>?_) (λι=>?_)
 ·have ι:=b6 ι;exact fail (e:=5) (λh=>by omega) (by decide) (η.refl _)
 have ι:=dn ι;refine bU (bI (by omega)) (bU (bI (by omega)) λaV=>?_);have c8:1<=k/\k<=16/\n-1<24*k:=⟨π.1,π.2,by omega⟩;have aP:Int.tdiv (n-1) k=(((n-1)/k).toNat:Int):=by
  rw[Rx (by omega)]
  have:=Int.ediv_nonneg (a:=n-1) (b:=k) (by omega) (by omega)
  omega
 have bM:Int.tmod (n-1) k=(((n-1)%k).toNat:Int):=by
  rw[xD (by omega)]
  have:=Nt (n-1) (show k≠0 by omega)
  omega
 have bQ:(n-1)/k<24:=Int.ediv_lt_of_lt_mul (by omega) c8.2.2;rw[aP,bM,bS (by omega) (by omega)];have UD:j3 k n=some (((n-1)/k).toNat,((n-1)%k).toNat):=by unfold j3;rw[aL (by omega),aN c8]
 refine ω.mk ⟨0,?_,⟨λ_=>?_,λ_=>rfl⟩,η.drewN _ _⟩
 ·rw[UD];rfl
 ·unfold rI;rw[bI c8.1,bI c8.2.1,bI c8.2.2];simp
abbrev Ik:gn:=(0,0,[])
def cH(R:bZ):bZ:=R++List.replicate (8-R.length) Ik
theorem aob{R:bZ}(h:R.length=8):cH R=R:=by unfold cH;rw[h];simp
theorem ab2{R:bZ}{i:Nat}(h:R.length=i)(I:i<8)(e:gn):(cH R).set i e=cH (R++[e]):=by
 unfold cH;have h1:8-R.length=(8-(R++[e]).length)+1:=by rw[fw,Ca];omega
 rw[h1,DO,Cf _ _ (by omega),h,tv,G4,nc];rfl
theorem ad5:∀(R:bZ)(k:Nat)(a b:Int)(l:List eK),k<R.length->(kinds R).take (k*2)++two a b++(kinds R).drop (k*2+2)=kinds (R.set k (a,b,l))
 |[],k,a,b,l,h=>by simp at h
 |e::R,0,a,b,l,h=>by simp[kinds,two]
 |e::R,k+1,a,b,l,h=>by
  have:=ad5 R k a b l (by simpa using h)
  have aP:kinds (e::R)=.int .i64 e.1:: .int .i64 e.2.1::kinds R:=rfl;have bM:(k+1)*2=k*2+2:=by omega
  rw[aP,bM];show .int .i64 e.1:: .int .i64 e.2.1::((kinds R).take (k*2)++two a b++(kinds R).drop (k*2+2))=_;rw[this];rfl
theorem Yt{R:bZ}{qs:aY}(dD:R.length=8){i:Nat}(I:i<8)(a b:Int)(l:List eK):(kinds R++qs).take (i*2)++two a b++(kinds R++qs).drop (i*2+(two a b).length)=kinds (R.set i (a,b,l))++qs:=by
 have hk:(kinds R).length=16:=by rw[BP,dD]
 have ι:(two a b).length=2:=rfl;rw[ι,qj (by omega),DT (by omega),<-ad5 R i a b l (by omega)];simp
structure fV(w:World)(R:bZ)(ps:aY):Prop where
 len:R.length=8
 dN:ps.length=8
 row:∀(k:Nat)(e:gn),R[k]?=some e->∃(p:γ)(c:Nat),ps[k]?=some (Value.slice p e.2.2.length c)/\μ w 0 eT 1 p e.2.2.length c (e.2.2.map et)
 ok:∀e∈R,mG e
theorem fV.at{w:World}{R:bZ}{ps:aY}(h:fV w R ps):iE w R ps:=
 ⟨h.len,h.dN,λk e he=>by obtain⟨p,c,h1,ι⟩:=h.row k e he;exact⟨p,c,h1,ι.cells⟩,h.ok⟩
theorem fV.aO{w w':World}{R:bZ}{ps:aY}(h:fV w R ps){S:bl}(k:Kp w w' S)(ab:∀i,Typed w eT i->i<w.heap.size->¬S i):fV w' R ps:=
 ⟨h.len,h.dN,λj e he=>by obtain⟨p,c,h1,ι⟩:=h.row j e he;exact⟨p,c,h1,ι.aO k λx J=>ab _ (ι.typed J).1 (ι.typed J).2.2⟩,h.ok⟩
theorem fV.ex{w w':World}{R:bZ}{ps:aY}(h:fV w R ps)(x:η w w'):fV w' R ps:=h.aO x λ_ _ _ h=>h
theorem fV.cV{w w':World}{R:bZ}{ps:aY}(h:fV w R ps){S:bl}(k:Kp w w' S)(f:TypeId)(ab:∀i,S i->Typed w f i)(b1:eT≠f):fV w' R ps:=
 h.aO k λi aS _ I=>aS.ne (ab i I) b1 rfl
theorem fV.set{w:World}{R:bZ}{ps:aY}(h:fV w R ps){i:Nat}(I:i<8){e:gn}(he:mG e){p:γ}{n c:Nat}(ar:e.2.2.length=n)(o:μ w 0 eT 1 p n c (e.2.2.map et)):fV w (R.set i e) (ps.set i (.slice p n c)):=by
 subst ar;refine⟨by rw[hQ];exact h.len,by rw[hQ];exact h.dN,λk db hk=>?_,λdb ej=>?_⟩
 ·rw[List.getElem?_set]at hk⊢;by_cases rq:i=k
  ·rw[aN rq]at hk⊢;subst rq;rw[aN (by rw[h.len];exact I)]at hk;rw[aN (by rw[h.dN];exact I)];cases hk;exact⟨p,c,rfl,o⟩
  ·rw[aL rq]at hk⊢;exact h.row k db hk
 ·rcases qh ej with h1|h1
  ·exact h.ok db h1
  ·rw[h1];exact he
def wB(l:aY):Prop:=∀z∈l,z.oneCell'=true
theorem wB.set{l:aY}(h:wB l)(i:Nat){v:Value}(az:v.oneCell'=true):wB (l.set i v):=λz aI=>by
 rcases qh aI with h1|h1
 ·exact h z h1
 ·rw[h1];exact az
theorem wB.app{l m:aY}(h:wB l)(k:wB m):wB (l++m):=λz aI=>(iC.1 aI).elim (h z) (k z)
theorem QI(R:bZ):wB (kinds R):=λz aI=>by obtain⟨e,_,he⟩:=qk.1 aI;exact Km _ _ z he
theorem fV.ath{w:World}{R:bZ}{ps:aY}(h:fV w R ps):wB ps:=λz aI=>h.at.one z (iC.2 (.inr aI))
theorem ayF:hX=bT (cH []) (List.replicate 8 (.slice none 0 0)):=rfl
theorem fV.zero(w:World):fV w (cH []) (List.replicate 8 (.slice none 0 0)):=by
 refine⟨rfl,rfl,λk e he=>?_,λe he=>?_⟩
 ·have aI:e=Ik:=by
   have:=fa he
   exact nb (n:=8) this
  subst aI;refine⟨none,0,?_,μ.nil _ _ _ _⟩
  have:k<8:=(List.getElem?_eq_some_iff.1 he).1
  rw[List.getElem?_replicate,aN this];rfl
 ·have aI:e=Ik:=nb (n:=8) he;subst aI;exact⟨λq aH=>(by cases aH),(by decide),⟨by decide,by decide⟩,⟨by decide,by decide⟩⟩
theorem at3{w:World}{b B i j:Nat}{K qs:aY}{p:γ}{c:Nat}{l:aY}{q:eK}(I:i<8)(jA:K.length=16)(aqJ:qs.length=8)(own:μ w 0 b3 24 (some ⟨b,0,none⟩) 1 1 (K++qs))(aH:qs[i]?=some (.slice p j c))(row:μ w B eT 1 p j c l)(ψ:j<=1000)(eh:B<=w.heap.size)
  {N:γ->Nat->Nat->al}
  (akx:∀b5 aW da,Kp w da (λx=>x=b\/B<=x)->μ da 0 b3 24 (some ⟨b,0,none⟩) 1 1 (K++qs.set i (.slice b5 (j+1) aW))->μ da B eT 1 b5 (j+1) aW (l++[et q])->N b5 j aW da):
  ν (decide (0<=(i:Int))) (ν (decide ((i:Int)<(8:Int))) (
   ∃(aX:γ)(bu:Nat)(c2:Nat),w.cell? ((⟨b,16,none⟩:Addr).add ((i:Int).toNat*1))=some (Value.slice aX bu c2)/\
   (aK w #[(Value.complex .f64 (eX q) (e5 q))] eT λaa cm=>
    ho cm aX bu c2 1 (bd cm (some ⟨aa,0,none⟩)) eT 1 16 #[(Value.complex .f64 0 0)] λbj bP cE=>
    ν (decide (0<=(i:Int))) (ν (decide ((i:Int)<(8:Int))) (
     (cE.cell? ((⟨b,16,none⟩:Addr).add ((i:Int).toNat*1))).isSome=true/\cE.frozen? ((⟨b,16,none⟩:Addr).add ((i:Int).toNat*1))=false/\∀da,da=cE.setCell ((⟨b,16,none⟩:Addr).add ((i:Int).toNat*1)) (Value.slice bj (bu+1) bP)->N bj bu bP da))))):=by
 refine bU (bI (by omega)) (bU (bI (by omega)) ?_);rw[ch,Ba];have lF:(K++qs)[16+i]?=some (.slice p j c):=by rw[List.getElem?_append_right (by omega),jA,JW];exact aH
 refine⟨p,j,c,own.at lF,?_⟩;rintro aa cm rfl rfl;have cJ:=μ.new (w:=w) [et q] eT;have aC:=η.alloc w (.cells [et q].toArray eT);have jE:w.alloc (.cells #[.complex .f64 (eX q) (e5 q)] eT)=w.alloc (.cells [et q].toArray eT):=rfl;rw[jE];generalize w.alloc (.cells [et q].toArray eT)=cm at cJ aC⊢;have Yd:=row.ex aC;refine mx (B:=B) Yd (gE eh aC.size) [et q] cJ.cells rfl (by intro z aI;rw[ma]at aI;subst aI;rfl) rfl (by omega) (by omega) ?_;intro bj bP cE rB n9;refine bU (bI (by omega)) (bU (bI (by omega)) ?_);have jQ:∀i,(∃y,p=some y/\y.block=i)->Typed cm eT i:=λi⟨y,e,I⟩=>I▸(Yd.typed e).1;have afh:=(own.ex aC).cV n9 eT jQ (by decide);refine afh.dv (j:=16+i) (by omega) (by rfl) λda oa qa=>?_;have kF:(K++qs).set (16+i) (.slice bj (j+1) bP)=K++qs.set i (.slice bj (j+1) bP):=by rw[Cf _ _ (by omega),jA,JW]
 rw[kF]at qa;have tb:∀i,i=b->Typed cE b3 i:=λi I=>by rw[I];exact(afh.typed rfl).1
 refine akx bj bP da ?_ qa (rB.cV oa b3 tb (by decide));refine Kp.trans (aC.aO λx=>x=b\/B<=x) (Kp.trans n9 oa (U:=λx=>x=b\/B<=x) (λi _⟨y,e,I⟩=>?_) (λi _ I=>.inl I)) (λ_ _ h=>h) (λ_ _ h=>h)
 have:=(Yd.ge e).1
 exact .inr (by omega)
end Go.Proofs.YtcpdfhkhaekekaaGreat.G.cF
namespace Go.Proofs.YtcpdfhkhaekekaaGreat.G.cF
open Go.bJ Go.RowKit
theorem ax7(m:Nat)(r:aq):bB.j7 2 m (r.take (2*m))=bB.j7 2 m r:=by unfold bB.j7;refine DW λi I=>?_;have I:=lh.1 I;unfold bB.nZ;rw[G2,Ce];congr 2;omega
theorem ai0{m j:Nat}{r:aq}(ψ:j<m):(bB.j7 2 m r)[j]?=some (bB.nZ 2 r j):=by unfold bB.j7;rw[List.getElem?_map,List.getElem?_range ψ];rfl
theorem amS{r:aq}(τ:Bytes r)(j:Nat):0<=bB.nZ 2 r j/\bB.nZ 2 r j<65536:=by
 unfold bB.nZ;have h:=bB.QW ((r.drop (j*2)).take 2) ((τ.drop _).take _);have ak:((r.drop (j*2)).take 2).length<=2:=List.length_take_le _ _
 have:=bB.XP ak
 omega
def Tq(k:Int)(t:aq)(w:World)(v:Value)(w':World):Prop:=
 η w w'/\((yP k t=true/\∃ps,v=.tuple #[.agg (bT (h3 k t 8).1 ps).toArray,.bool true]/\fV w' (h3 k t 8).1 ps)\/
  (yP k t=false/\∃cs:aj,cs.size=24/\wB cs.toList/\v=.tuple #[.agg cs,.bool false]))
theorem avC(p:γ)(n c:Nat)(t:aq)(s k:Int)(w:World)(π:bd w p (a7 t))(ar:t.length=n)(jG:n<=c)(ak:n<=100000)(τ:Bytes t)(hk:0<=k/\k<256):
  jJ.C p n c s k w (ω (Tq k t w)):=by
 subst ar;apply jJ.ok;unfold jJ.main;rintro δ ε rfl rfl ζ υ rfl rfl;have σ:=μ.new (w:=w) (two s k) b2;have θ:=η.alloc w (.cells (two s k).toArray b2);have aP:w.alloc (.cells #[.int .i64 s,.int .i64 k] b2)=w.alloc (.cells (two s k).toArray b2):=rfl;rw[aP];generalize w.heap.size=δ at σ⊢;generalize w.alloc (.cells (two s k).toArray b2)=ε at σ θ⊢;have af:=(μ.new (w:=ε) hX b3).lower (eR _);have ρ:=η.alloc ε (.cells hX.toArray b3);have eG:w.heap.size<=ε.heap.size:=θ.size;have acJ:δ<ε.heap.size:=(σ.ge rfl).2;generalize ε.heap.size=ζ at af eG acJ⊢;have anX:ε.alloc (.cells #[.int .i64 0,.int .i64 0,.int .i64 0,.int .i64 0,.int .i64 0,.int .i64 0,.int .i64 0,.int .i64 0,.int .i64 0,.int .i64 0,.int .i64 0,.int .i64 0,.int .i64 0,.int .i64 0,.int .i64 0,.int .i64 0,.slice none 0 0,.slice none 0 0,.slice none 0 0,.slice none 0 0,.slice none 0 0,.slice none 0 0,.slice none 0 0,.slice none 0 0] b3)=ε.alloc (.cells hX.toArray b3):=rfl;rw[anX];have σ:=σ.ex ρ;generalize ε.alloc (.cells hX.toArray b3)=υ at σ af ρ⊢;have kr:=θ.trans ρ;rw[ayF]at af
 have bad:∀{w':World}{xs:aY},η w w'->xs.length=24->wB xs->μ w' 0 b3 24 (some ⟨ζ,0,none⟩) 1 1 xs->yP k t=false->
   ∃(aE:aj),aE.size=24/\aB w' (⟨ζ,0,none⟩:Addr) aE.toList/\
   (ν (decide (aE.size=24)) (a6 w' (⟨ζ,0,none⟩:Addr) aE.toList/\∀χ,χ=w'.setCells (⟨ζ,0,none⟩:Addr).block (⟨ζ,0,none⟩:Addr).off aE.toList->
     (∃(bz:aj),bz.size=24/\aB χ (⟨ζ,0,none⟩:Addr) bz.toList/\ω (Tq k t w) (.returned (Value.tuple #[(Value.agg bz),(Value.bool false)])) χ))):=by
  intro w' xs J p2 xb own bm;refine⟨xs.toArray,p2,own.cells,bU (bI p2) ?_⟩;refine own.put p2 xb λχ b4 bh=>?_;exact⟨xs.toArray,p2,bh.cells,ω.mk ⟨J.then b4 λi I=>by omega,.inr ⟨bm,xs.toArray,p2,xb,rfl⟩⟩⟩
 unfold jJ.bb
 refine⟨λcy cp cG t3 t4 t14 w'=>δ=t3/\ζ=t4/\0<=t14/\t14<=8/\jL k t t14.toNat=true/\(h3 k t t14.toNat).2.length=cp/\cp<=cG/\cp<=100000/\bd w cy (a7 (h3 k t t14.toNat).2)/\η w w'/\μ w' 0 b2 2 (some ⟨δ,0,none⟩) 1 1 (two s k)/\
   ∃ps,μ w' 0 b3 24 (some ⟨ζ,0,none⟩) 1 1 (bT (cH (h3 k t t14.toNat).1) ps)/\fV w' (cH (h3 k t t14.toNat).1) ps/\∀j,t14.toNat<=j->j<8->ps[j]?=some (.slice none 0 0),
  λcy cp cG t3 t4 t14 w'=>(8-t14).toNat,⟨rfl,rfl,by omega,by omega,rfl,rfl,jG,ak,π,kr,σ.lower (eR _),_,af,fV.zero _,λj _ ψ=>by rw[List.getElem?_replicate,aN ψ]⟩,?_⟩
 rintro cy cp cG _ _ t14 w' ⟨rfl,rfl,aF,dD,V7,ar,Vy,l0,P8,J,att,ps,own,cb,Dl⟩;unfold jJ.δ;obtain⟨i,rfl⟩:=eF aF;rw[ch]at V7 ar P8 own cb Dl;have P6:=afX (k:=k) τ i;have Vh:=afY k t i;generalize oF:(h3 k t i).2=fR at ar P8 P6;subst ar;refine bt (λbQ=>?_) (λbQ=>?_)
 ·have bQ:=b6 bQ;have I:i<8:=by omega
  have adC:=cb.dN;have xb:wB (bT (cH (h3 k t i).1) ps):=cb.at.one;refine bt (λjX=>?_) (λjX=>?_)
  ·have jX:=b6 jX;refine bad J cb.at.eA xb own (Xq I ?_);rw[oF]
   match fR,jX with
   |[],_=>rfl
   |[a],_=>rfl
   |a::b::r,h=>simp only[kU]at h;omega
  have jX:=dn jX;obtain⟨a,b,r,rfl⟩:∃a b r,fR=a::b::r:=by
   match fR,jX with
   |[],h=>simp at h
   |[a],h=>simp at h
   |a::b::r,_=>exact⟨a,b,r,rfl⟩
  have aR:=P6 a (by simp);have rl:=P6 b (by simp);have Vu:Bytes r:=λx J=>P6 x (ie _ (ie _ J));have azD:(a::b::r).length=r.length+2:=rfl;have d:=η.drew w';have Jg:=J.trans d;have zP:bd w'.drew cy (a7 (a::b::r)):=P8.ex Jg;obtain⟨x1,rfl,lj⟩:=zP.one (v:=.int .u8 a) rfl;refine bU (bI (by omega)) ?_
  try dsimp only[bo]
  refine⟨a,lj,bU (bI (by omega)) ?_⟩;refine⟨b,zP 1 _ rfl,?_⟩;rintro ax ao rfl rfl;have bh:=μ.new (w:=w'.drew) [.int .i64 0,.int .i64 0] jR;have aC:=η.alloc w'.drew (.cells [Value.int .i64 0,.int .i64 0].toArray jR);have jm:w'.heap.size<=w'.drew.heap.size:=d.size;have azi:ζ<w'.heap.size:=(own.ge rfl).2;generalize w'.drew.heap.size=ax at bh jm⊢;generalize w'.drew.alloc (.cells #[.int .i64 0,.int .i64 0] jR)=ao at bh aC⊢;have acU:bd ao (some x1) (a7 (a::b::r)):=bd.ex aC zP;have IA:ao.cell? x1=some (.int .u8 a):=by
   have:=acU 0 _ rfl
   rwa[show x1.add 0=x1 from Addr.add_zero' x1]at this
  refine⟨rfl,acU 1 _ rfl,IA,?_⟩;rw[bS (x:=a) (by omega) (by omega),bS (x:=b) (by omega) (by omega)];refine bh.put (cs:=two a b) (by rfl) (Km _ _) λan dT cB=>?_;have ay:η w' an:=(d.trans aC).then dT λi I=>by omega
  refine bU (bI (by omega)) ?_;refine⟨b,cB.at (by rfl),?_⟩;rw[bS (x:=2*b) (by omega) (by omega)];refine bt (λab=>?_) (λab=>?_)
  ·have ab:=b6 ab;refine bad (J.trans ay) cb.at.eA xb (own.ex ay) (Xq I ?_);rw[oF];show(decide (2*b<=(r.length:Int))&&_)=false;rw[iX (by omega)];rfl
  have ab:=dn ab;have Mk:2*b<=(r.length:Int):=by omega
  refine⟨b,cB.at (by rfl),?_⟩;rw[bS (x:=2*b) (by omega) (by omega)];refine bU (bI (by omega)) (bU (bI (by omega)) ?_);have abI:(2*b).toNat=2*b.toNat:=by omega
  rw[abI,J9];have acX:bd w (dL (some x1) cG 2 1) (a7 r):=by
   have:=from_ P8 Vy 2
   exact this
  have LR:bd an (dL (some x1) cG 2 1) (a7 (r.take (2*b.toNat))):=by
   have:=bd.take (bd.ex (J.trans ay) acX) (2*b.toNat)
   unfold a7 at this⊢
   rwa[<-xA]at this
  have Ge:(r.take (2*b.toNat)).length=2*b.toNat:=by rw[hs];omega
  refine κ.use (bB.alD _ _ (cG-2) (r.take (2*b.toNat)) 2 an LR Ge (by omega) (by omega) (Vu.take _)) ?_;rintro _ a8 ⟨ae,aD,c1,rfl,se,eN,aU⟩
  try dsimp only[ca,cT,cU,bo,bL,ee]
  have nG:bB.Ko 2 (r.take (2*b.toNat))=bB.j7 2 b.toNat r:=by
   have:=(bB.ai1 (k:=2) (by omega) (by omega) 0 (r.take (2*b.toNat))).2
   have bM:((2:Nat):Int)=2:=rfl;rw[bM]at this;rw[this,Ge,aN (by omega)]
   have:2*b.toNat/2=b.toNat:=by omega
   rw[this,ax7]
  rw[nG]at eN;have Ma:aD=b.toNat:=by
   have:=eN.1
   unfold bB.v64 at this;rw[jM,bB.YP]at this;omega
  subst Ma;have jc:=ay.trans aU;have Q8:=own.ex jc;have aqW:=cb.ex jc;have Xy:=att.ex jc;have aeX:=cB.ex aU;have BI:=J.trans jc;have PY:ζ<a8.heap.size:=(Q8.ge rfl).2;have Vo:ax<a8.heap.size:=(aeX.ge rfl).2;have acK:δ<a8.heap.size:=(Xy.ge rfl).2;have aqA:∀x,ae=some x->x.block<a8.heap.size:=λx J=>(eN.ge J).2;have acA:(kinds (cH (h3 k t i).1)).length=16:=cb.at.Gm;have acM:δ≠ζ:=by omega
  unfold jJ.eZ
  refine⟨λcy D4 Kd t3 t4 t6 t7 t14 AE AD Cr t49 t50 iu=>cy=dL (some x1) cG 2 1/\D4=r.length/\Kd=cG-2/\δ=t3/\ζ=t4/\(i:Int)=t6/\ax=t7/\(i:Int)=t14/\ae=AE/\b.toNat=AD/\((b.toNat:Nat):Int)=t49/\0<=t50/\t50<=b.toNat/\(∀j,j<t50.toNat->rI k (bB.nZ 2 r j)=true)/\Kp a8 iu (λx=>x=ζ\/a8.heap.size<=x)/\
    ∃p c,μ iu 0 b3 24 (some ⟨ζ,0,none⟩) 1 1 (kinds (cH (h3 k t i).1)++ps.set i (.slice p t50.toNat c))/\μ iu a8.heap.size eT 1 p t50.toNat c ((((List.range t50.toNat).map (bB.nZ 2 r)).map (j3 k)).map et),
   λcy D4 Kd t3 t4 t6 t7 t14 AE AD Cr t49 t50 iu=>(b.toNat-t50).toNat,⟨rfl,rfl,rfl,rfl,rfl,rfl,rfl,rfl,rfl,rfl,rfl,by omega,by omega,λj ψ=>by simp at ψ,Kp.refl _ _,none,0,?_,μ.nil _ _ _ _⟩,?_⟩
  ·have:ps.set i (.slice none (0:Int).toNat 0)=ps:=by
    apply rL;intro j;rw[List.getElem?_set];split
    ·rename_i h;subst h;rw[aN (by omega),Dl i (dO _) I];rfl
    ·rfl
   rw[this];exact Q8
  rintro _ _ _ _ _ _ _ _ _ _ Cr _ t50 iu ⟨rfl,rfl,rfl,rfl,rfl,rfl,rfl,rfl,rfl,rfl,rfl,i0,i1,We,pe,p,c,MX,row⟩;unfold jJ.ζ;obtain⟨j,rfl⟩:=eF i0;rw[ch]at We MX row;have yw:η w iu:=BI.then pe λx J=>by have:=BI.size;omega
  have MB:∀x,x<a8.heap.size->x≠ζ->¬(x=ζ\/a8.heap.size<=x):=λx h1 ι h=>by omega
  refine bt (λvG=>?_) (λvG=>?_)
  ·have vG:=b6 vG;have ψ:j<b.toNat:=by omega
   have aqM:bd iu ae (bB.v64 (bB.j7 2 b.toNat r)):=eN.cells.aO pe λx J=>MB _ (aqA x J) (λh=>by have t1:=(eN.typed J).1;have t2:=(Q8.typed rfl).1;exact t1.ne t2 (by decide) h)
   obtain⟨ap,rfl,auJ⟩:=aqM.many (j:=j) (v:=.int .i64 (bB.nZ 2 r j)) (by unfold bB.v64;rw[List.getElem?_map,ai0 ψ];rfl);refine bU (bI i0) (bU (bI vG) ?_)
   try dsimp only[bo]
   rw[ch,eS];refine⟨_,auJ,?_⟩;have apq:=amS Vu j;have l2:IntKind.i64.wrap ((j:Int)+1)=((j+1:Nat):Int):=by rw[bS (by omega) (by omega)];rfl
   have kg:((j+1:Nat):Int).toNat=j+1:=rfl;have aqz:a8.heap.size<=iu.heap.size:=pe.size
   have aey:∀{χ:World},η iu χ->rI k (bB.nZ 2 r j)=true->∀{q:eK},q=j3 k (bB.nZ 2 r j)->
     jJ.aV (dL (some x1) cG 2 1) r.length (cG-2) δ ζ (i:Int) ax (eX q) (e5 q) (i:Int) (some ap) b.toNat Cr ((b.toNat:Nat):Int) (j:Int) χ (ω (Tq k t w)) (λavO D4 Kd avV y8 xH w'=>(δ=avV/\ζ=y8/\0<=xH/\xH<=8/\jL k t xH.toNat=true/\(h3 k t xH.toNat).2.length=D4/\D4<=Kd/\D4<=100000/\bd w avO (a7 (h3 k t xH.toNat).2)/\η w w'/\μ w' 0 b2 2 (some ⟨δ,0,none⟩) 1 1 (two s k)/\
   ∃ps,μ w' 0 b3 24 (some ⟨ζ,0,none⟩) 1 1 (bT (cH (h3 k t xH.toNat).1) ps)/\fV w' (cH (h3 k t xH.toNat).1) ps/\∀j,xH.toNat<=j->j<8->ps[j]?=some (.slice none 0 0))/\(8-xH).toNat<(8-(i:Int)).toNat) (λcy D4 Kd t3 t4 t6 t7 t14 AE AD Cr t49 t50 iu=>(cy=dL (some x1) cG 2 1/\D4=r.length/\Kd=cG-2/\δ=t3/\ζ=t4/\(i:Int)=t6/\ax=t7/\(i:Int)=t14/\some ap=AE/\b.toNat=AD/\((b.toNat:Nat):Int)=t49/\0<=t50/\t50<=b.toNat/\(∀j,j<t50.toNat->rI k (bB.nZ 2 r j)=true)/\Kp a8 iu (λx=>x=ζ\/a8.heap.size<=x)/\
    ∃p c,μ iu 0 b3 24 (some ⟨ζ,0,none⟩) 1 1 (kinds (cH (h3 k t i).1)++ps.set i (.slice p t50.toNat c))/\μ iu a8.heap.size eT 1 p t50.toNat c ((((List.range t50.toNat).map (bB.nZ 2 r)).map (j3 k)).map et))/\(b.toNat-t50).toNat<(b.toNat-(j:Int)).toNat):=by
    intro χ ad aqt q aH;unfold jJ.aV;refine at3 (q:=q) I acA (by rw[hQ];exact adC) (MX.ex ad) (by rw[List.getElem?_set,aN rfl,aN (by omega)]) (row.ex ad) (by omega) (gE aqz ad.size) λb5 aW da oa qa auq=>?_;rw[List.set_set]at qa;rw[l2];refine⟨⟨rfl,rfl,rfl,rfl,rfl,rfl,rfl,rfl,rfl,rfl,rfl,by omega,by omega,?_,(pe.gL (ad.aO _)).gL oa,b5,aW,by rw[kg];exact qa,?_⟩,by((try dsimp only);omega)⟩
    ·intro Mw ff;rw[kg]at ff;by_cases he:Mw=j
     ·rw[he];exact aqt
     ·exact We Mw (by omega)
    ·rw[kg,v8];simp only[ss,yW,List.map_nil];rw[<-aH];exact auq
   refine bt (λxd=>?_) (λxd=>?_)
   ·have xd:=b6 xd;have w9:iu.cell? (⟨δ,1,none⟩:Addr)=some (.int .i64 k):=(Xy.aO pe λx J=>by cases J;exact MB _ acK acM).at (by rfl);refine⟨k,w9,?_⟩;rw[bS (x:=bB.nZ 2 r j-1) (by omega) (by omega)];refine κ.use (Tm (n:=bB.nZ 2 r j) ⟨by omega,apq.2⟩ hk iu) ?_;rintro _ bW ⟨e,rfl,he,ct⟩
    try dsimp only[ca,cT,cU,bo,bL,sV]
    refine bt (λw5=>?_) (λw5=>?_)
    ·have w5:¬e=0:=by simpa using w5
     have pg:rI k (bB.nZ 2 r j)=false:=by
      cases hp:rI k (bB.nZ 2 r j)with
      |false=>rfl
      |true=>exact absurd (he.2 hp) w5
     refine bad (yw.trans ct) ?_ ((QI _).app (cb.ath.set _ rfl)) (MX.ex ct) (Xq I ?_)
     ·rw[fw,acA,hQ,adC]
     ·rw[oF];show(_&&(bB.j7 2 b.toNat r).all (rI k))=false
      have:(bB.j7 2 b.toNat r).all (rI k)=false:=by rw[List.all_eq_false];exact⟨_,fa (ai0 ψ),by rw[pg];simp⟩
      rw[this,Bool.and_false]
    ·have w5:e=0:=by simpa using w5
     exact aey ct (he.1 w5) rfl
   ·have xd:=dn xd;have aI:bB.nZ 2 r j=0:=by omega
    have aH:(none:eK)=j3 k (bB.nZ 2 r j):=by rw[aI];rfl
    exact aey (η.refl _) (by rw[aI];rfl) aH
  ·have vG:=dn vG;have ψ:j=b.toNat:=by omega
   subst ψ;unfold jJ.bK;have Fm:=η.drew iu;have Xm:μ iu.drew ax jR 2 (some ⟨ax,0,none⟩) 1 1 (two a b):=(aeX.aO pe λx J=>by cases J;exact MB _ Vo (show ax≠ζ by omega)).ex Fm;refine⟨(two a b).toArray,rfl,Xm.cells,b,Xm.at (by rfl),?_⟩;rw[bS (x:=2*b) (by omega) (by omega)];refine bU (bI (by omega)) (bU (bI (by omega)) (bU (bI aF) (bU (bI bQ) (bU (by rfl) ?_))));rw[ch,abI];refine putAt (MX.ex Fm) (i*2) (ys:=two a b) (by show i*2+2<=_;omega) (Km _ _) λdp oH uz=>?_;have b1:ax≠ζ:=by omega
   have asZ:=Xm.aO oH (λy ag=>by cases ag;exact b1);refine⟨asZ.at (by rfl),?_⟩;rw[Yt cb.len I a b ((bB.j7 2 b.toNat r).map (j3 k))]at uz;rw[Ij I];have kg:((i+1:Nat):Int).toNat=i+1:=rfl;have L7:min b.toNat (r.length/2)=b.toNat:=by omega
   have s9:y1 k (a::b::r)=((a,b,(bB.j7 2 b.toNat r).map (j3 k)),r.drop (2*b.toNat)):=by show((a,b,(bB.j7 2 (min b.toNat (r.length/2)) r).map (j3 k)),r.drop (2*min b.toNat (r.length/2)))=_;rw[L7]
   have aq1:h3 k t (i+1)=((h3 k t i).1++[(a,b,(bB.j7 2 b.toNat r).map (j3 k))],r.drop (2*b.toNat)):=by show((h3 k t i).1++[(y1 k (h3 k t i).2).1],(y1 k (h3 k t i).2).2)=_;rw[oF,s9]
   have aqv:B1 k (a::b::r)=true:=by show(decide (2*b<=(r.length:Int))&&(bB.j7 2 b.toNat r).all (rI k))=true;rw[bI Mk,Rw,DS];intro n ar;obtain⟨WE,ap1,rfl⟩:=gx.1 ar;exact We WE (lh.1 ap1)
   have aqx:jL k t (i+1)=true:=by show(jL k t i&&B1 k (h3 k t i).2)=true;rw[V7,oF,aqv];rfl
   have LW:mG (a,b,(bB.j7 2 b.toNat r).map (j3 k)):=⟨atW Vu,by show((bB.j7 2 b.toNat r).map (j3 k)).length<=1000;rw[jM,bB.YP];omega,aR,rl⟩;rw[kg,aq1];dsimp only;have tb:∀x,x=ζ->Typed iu.drew b3 x:=λx J=>by rw[J];exact((MX.ex Fm).typed rfl).1
   refine⟨⟨rfl,rfl,by omega,by omega,aqx,?_,?_,by omega,?_,(yw.trans Fm).then oH λx J=>by omega,?_,ps.set i (.slice p b.toNat c),?_,?_,?_⟩,by((try dsimp only);omega)⟩
   ·rw[lg]
   ·omega
   ·exact from_ acX (by omega) (2*b.toNat)
   ·exact(((Xy.aO pe λx J=>by cases J;exact MB _ acK acM).ex Fm).cV oH b3 tb (by decide))
   ·unfold bT;rw[<-ab2 Vh I];exact uz
   ·rw[<-ab2 Vh I];have aqV:fV dp (cH (h3 k t i).1) ps:=((aqW.aO pe λx aS J=>MB _ J (λh=>aS.ne (Q8.typed rfl).1 (by decide) h)).ex Fm).cV oH b3 tb (by decide);refine aqV.set I LW (by show((bB.j7 2 b.toNat r).map (j3 k)).length=_;rw[jM,bB.YP]) ?_;exact((row.lower (eR _)).ex Fm).cV oH b3 tb (by decide)
   ·intro WE h1 ι;rw[List.getElem?_set,aL (by omega)];exact Dl WE (by omega) ι
 ·have bQ:=dn bQ;obtain rfl:i=8:=by omega
  unfold jJ.b4;have w8:cH (h3 k t 8).1=(h3 k t 8).1:=aob Vh;rw[w8]at own cb;have gD:=cb.at.eA;refine⟨(bT (h3 k t 8).1 ps).toArray,by rw[fP];exact gD,own.cells,bU (bI (by rw[fP];exact gD)) ?_⟩;have tb:∀x,x=ζ->Typed w' b3 x:=λx J=>by rw[J];exact(own.typed rfl).1
  refine own.put gD cb.at.one λed yA vT=>?_;refine⟨(bT (h3 k t 8).1 ps).toArray,by rw[fP];exact gD,vT.cells,ω.mk ⟨J.then yA λi I=>by omega,?_⟩⟩;have ew:yP k t=decide (fR.length=0):=by unfold yP;rw[V7,oF,Rw]
  by_cases aF:fR.length=0
  ·left;rw[ew,bI aF];refine⟨rfl,ps,?_,cb.cV yA b3 tb (by decide)⟩;rw[aF];rfl
  ·right;rw[ew,iX aF];refine⟨rfl,(bT (h3 k t 8).1 ps).toArray,by rw[fP];exact gD,cb.at.one,?_⟩
   have:(((fR.length:Nat):Int)==0)=false:=by simpa using aF
   rw[this]
end Go.Proofs.YtcpdfhkhaekekaaGreat.G.cF
namespace Go.Proofs.YtcpdfhkhaekekaaGreat.G.cF
open Go.bJ Go.RowKit
structure r0(w:World)(P:γ)(n c:Nat)(pgs:List aq):Prop where
 len:pgs.length=n
 room:n<=c
 at_:∃ps:aY,bd w P ps/\ps.length=n/\∀(i:Nat)(bw:aq),pgs[i]?=some bw->∃(q:γ)(m d:Nat),ps[i]?=some (.slice q m d)/\bw.length=m/\m<=d/\bd w q (a7 bw)
theorem r0.ex{w w':World}{P:γ}{n c:Nat}{pgs:List aq}(h:r0 w P n c pgs)(x:η w w'):r0 w' P n c pgs:=by obtain⟨h1,ι,ps,aJ,cK,dx⟩:=h;refine⟨h1,ι,ps,aJ.ex x,cK,λi bw I=>?_⟩;obtain⟨q,m,d,g1,g2,g3,g4⟩:=dx i bw I;exact⟨q,m,d,g1,g2,g3,g4.ex x⟩
theorem r0.get{w:World}{P:γ}{n c:Nat}{pgs:List aq}(h:r0 w P n c pgs){i:Nat}(I:i<n):∃a bw q d,P=some a/\pgs[i]?=some bw/\w.cell? (a.add i)=some (.slice q bw.length d)/\bw.length<=d/\bd w q (a7 bw):=by obtain⟨h1,ι,ps,aJ,cK,dx⟩:=h;have bH:=List.getElem?_eq_getElem (l:=pgs) (i:=i) (by omega);obtain⟨q,m,d,g1,rfl,g3,g4⟩:=dx i _ bH;obtain⟨a,aR,φ⟩:=aJ.many g1;exact⟨a,_,q,d,aR,bH,φ,g3,g4⟩
theorem r0.rest{w:World}{a:Addr}{n c:Nat}{pgs:List aq}(h:r0 w (some a) n c pgs)(h1:1<=n):r0 w (dL (some a) c 1 1) (n-1) (c-1) pgs.tail:=by
 obtain⟨vD,ι,ps,aJ,cK,dx⟩:=h;refine⟨by rw[G6];omega,by omega,ps.tail,?_,by rw[G6];omega,λi bw I=>?_⟩
 ·have:=aJ.slice c 1 ps.length (by omega)
  rw[hR (by rw[lg];omega),List.drop_one]at this;exact this
 ·rw[List.getElem?_tail]at I⊢;exact dx (i+1) bw I
theorem j8.Ra{w:World}{B B':Nat}{p:γ}{n c:Nat}{ps:aY}{pgs:List aq}(o:μ w B hj 1 p n c ps)(h:j8 w B' ps pgs):r0 w p n c pgs:=by have ak:=o.1;refine⟨by have:=h.len;omega,o.2.1,ps,o.cells,by omega,λi bw I=>?_⟩;obtain⟨q,d,g1,g2⟩:=h.row i bw I;exact⟨q,64,d,g1,Am g2,g2.2.1,g2.cells⟩
theorem take_eq_all{α:Type}{xs ys:List α}{n:Nat}(h1:xs.length=n)(ι:ys.length=n)(h:xs.take n=ys.take n):xs=ys:=by
 rwa[hR (by omega),hR (by omega)]at h
theorem akh(p q:γ)(n m c d:Nat)(xs ys:aq)(w:World)(π:bd w p (a7 xs))(ah:bd w q (a7 ys))(ar:xs.length=n)(hm:ys.length=m)(ak:n<=1000000):uU.C p n c q m d w (ω λv w'=>v=.bool (decide (xs=ys))/\η w w'):=by
 apply uU.ok;unfold uU.main;refine bt (λh=>?_) (λh=>?_)
 ·have h:¬(n:Int)=m:=by simpa using h
  have h:¬n=m:=by omega
  exact ω.mk ⟨by rw[iX (λe=>h (by rw[<-ar,<-hm,e]))],η.refl w⟩
 have h:(n:Int)=m:=by simpa using h
 obtain rfl:n=m:=by omega
 unfold uU.bb;refine⟨λcy cp cG nh ng qT t12 t13 w'=>p=cy/\n=cp/\c=cG/\q=nh/\n=ng/\d=qT/\(n:Int)=t12/\0<=t13/\t13<=n/\xs.take t13.toNat=ys.take t13.toNat/\η w w',λcy cp cG nh ng qT t12 t13 w'=>(n-t13).toNat,⟨rfl,rfl,rfl,rfl,rfl,rfl,rfl,by omega,by omega,rfl,η.refl w⟩,?_⟩;rintro _ _ _ _ _ _ _ t13 w' ⟨rfl,rfl,rfl,rfl,rfl,rfl,rfl,aF,h1,he,J⟩;unfold uU.δ;obtain⟨j,rfl⟩:=eF aF;rw[ch]at he;refine bt (λh=>?_) (λh=>?_)
 ·have h:=b6 h;have I3:j<xs.length:=by omega
  have uo:j<ys.length:=by omega
  obtain⟨a,rfl,jN⟩:=Jq (π.ex J) I3;obtain⟨b,rfl,kK⟩:=Jq (ah.ex J) uo;refine bU (bI aF) (bU (bI h) ?_)
  try dsimp only[bo]
  rw[ch,eS];refine⟨xs[j],jN,bU (bI aF) (bU (bI h) ?_)⟩
  skip
  refine⟨ys[j],kK,λk=>?_⟩;refine bt (λb1=>?_) (λb1=>?_)
  ·have b1:¬xs[j]=ys[j]:=by simpa using b1
   exact ω.mk ⟨by rw[iX (λe=>b1 (by subst e;rfl))],J.trans (η.drewN _ _)⟩
  ·have b1:xs[j]=ys[j]:=by simpa using b1
   rw[bS (by omega) (by omega)];refine⟨⟨rfl,rfl,rfl,rfl,rfl,rfl,rfl,by omega,by omega,?_,J.trans (η.drewN _ _)⟩,by((try dsimp only);omega)⟩
   have:((j:Int)+1).toNat=j+1:=by omega
   rw[this,mb I3,mb uo,he,b1]
 ·have h:=dn h
  have:j=n:=by omega
  subst this;exact ω.mk ⟨by rw[bI (take_eq_all ar hm he)],J⟩
theorem aki{w:World}{p q:γ}{n m c d:Nat}{O8 bs:List aq}(aR:r0 w p n c O8)(τ:r0 w q m d bs)(ar:n<=1000000)(aG:∀bw∈O8,bw.length<=1000000):
  uT.C p n c q m d w (ω λv w'=>v=.bool (decide (O8=bs))/\η w w'):=by
 apply uT.ok;unfold uT.main;have Qf:=aR.len;have Qg:=τ.len;refine bt (λh=>?_) (λh=>?_)
 ·have h:¬(n:Int)=m:=by simpa using h
  have h:¬n=m:=by omega
  exact ω.mk ⟨by rw[iX (λe=>h (by rw[<-Qf,<-Qg,e]))],η.refl w⟩
 have h:(n:Int)=m:=by simpa using h
 obtain rfl:n=m:=by omega
 unfold uT.bb;refine⟨λnh ng qT tC tB wj t16 t17 w'=>q=nh/\n=ng/\d=qT/\p=tC/\n=tB/\c=wj/\(n:Int)=t16/\0<=t17/\t17<=n/\O8.take t17.toNat=bs.take t17.toNat/\η w w',λnh ng qT tC tB wj t16 t17 w'=>(n-t17).toNat,⟨rfl,rfl,rfl,rfl,rfl,rfl,rfl,by omega,by omega,rfl,η.refl w⟩,?_⟩;rintro _ _ _ _ _ _ _ t17 w' ⟨rfl,rfl,rfl,rfl,rfl,rfl,rfl,aF,h1,he,J⟩;unfold uT.δ;obtain⟨j,rfl⟩:=eF aF;rw[ch]at he;refine bt (λh=>?_) (λh=>?_)
 ·have bQ:=b6 h;have ψ:j<n:=by omega
  obtain⟨a,XF,afR,abt,rfl,UW,jN,WT,gX⟩:=(aR.ex J).get ψ;obtain⟨b,M4,afS,abu,rfl,UY,kK,lb,js⟩:=(τ.ex J).get ψ;refine bU (bI aF) (bU (bI bQ) ?_)
  try dsimp only[bo]
  rw[ch,eS];refine⟨afR,_,abt,jN,bU (bI aF) (bU (bI bQ) ?_)⟩
  skip
  refine⟨afS,_,abu,kK,?_⟩;refine κ.use (akh afR afS _ _ abt abu XF M4 w' gX js rfl rfl (aG _ (fa UW))) ?_;rintro _ υ ⟨rfl,ρ⟩
  try dsimp only[dX]
  refine bt (λb1=>?_) (λb1=>?_)
  ·have b1:¬XF=M4:=by simpa using b1
   refine ω.mk ⟨?_,J.trans ρ⟩;rw[iX];intro e;subst e;rw[UW]at UY;exact b1 (Cd UY)
  ·have b1:XF=M4:=by simpa using b1
   rw[bS (by omega) (by omega)];refine⟨⟨rfl,rfl,rfl,rfl,rfl,rfl,rfl,by omega,by omega,?_,J.trans ρ⟩,by((try dsimp only);omega)⟩
   have:((j:Int)+1).toNat=j+1:=by omega
   rw[this,Ry,Ry,he,UW,UY,b1]
 ·have h:=dn h
  have:j=n:=by omega
  subst this;exact ω.mk ⟨by rw[bI (take_eq_all Qf Qg he)],J⟩
def zQ(pgs:List aq):aq:=pgs.headD []
def oM(pgs:List aq):Int:=dz (zQ pgs) 8 1
def lH(pgs:List aq):Int:=dz (zQ pgs) 9 1
def uI(pgs:List aq):Int:=dz (zQ pgs) 4 4
def said(bw:aq):Int:=((bw.take 60)[5]?).getD 0
def partOf(bw:aq):aq:=((bw.take 60).drop 6).take (said bw).toNat
def DA(bw:aq):Bool:=decide (oK bw=0)&&decide (said bw<=52)
def D9(pgs:List aq):aq:=pgs.tail.flatMap partOf
def pz(pgs:List aq):bZ:=(h3 (lH pgs) (D9 pgs) 8).1
structure Good(pgs:List aq):Prop where
 aD:1<=pgs.length
 n12:pgs.length<=12
 yn:nE (zQ pgs)=true
 fW:dz (zQ pgs) 10 1=(pgs.length:Int)-1
 leaves:∀bw∈pgs.tail,DA bw=true
 all:yP (lH pgs) (D9 pgs)=true
 fit:mN (oM pgs) (lH pgs) (pz pgs)
 same:jg (oM pgs) (lH pgs) (uI pgs) (fg (lH pgs) (pz pgs))=pgs
theorem ac1{bw:aq}(h:nE bw=true):vV (dz bw 4 4)/\Dd bw:=by unfold nE at h;simp only[lf,qI]at h;exact⟨⟨h.1.1.2,h.1.2⟩,h.1.1.1⟩
theorem auV{bw:aq}(τ:Bytes bw):0<=said bw/\said bw<256:=by
 unfold said;cases h:(bw.take 60)[5]?with
 |none=>exact⟨by decide,by decide⟩
 |some x=>exact τ x (xy (fa h))
theorem ab5{bw:aq}(τ:Bytes bw)(a:Int):0<=dz bw a 1/\dz bw a 1<256:=by
 unfold dz bB.zJ;split
 ·split
  ·have h:=bB.QW (((bw.take 60).drop a.toNat).take (1:Int).toNat) (((τ.take _).drop _).take _);have ak:(((bw.take 60).drop a.toNat).take (1:Int).toNat).length<=1:=List.length_take_le _ _
   have:=bB.XP ak
   omega
  ·omega
 ·omega
def asH:Value:=.tuple #[.agg hX.toArray,.agg (two 0 0).toArray,.int .i64 0,.int .i64 11]
def Zt(pgs:List aq)(w:World)(v:Value)(w':World):Prop:=
 η w w'/\((Good pgs/\∃ps,v=.tuple #[.agg (bT (pz pgs) ps).toArray,.agg (two (oM pgs) (lH pgs)).toArray,.int .i64 (uI pgs),.int .i64 0]/\fV w' (pz pgs) ps)\/(¬Good pgs/\v=asH))
theorem al8{pgs:List aq}{w W:World}{δ ζ:Nat}(J:η w W)(h1:w.heap.size<=δ)(ι:w.heap.size<=ζ)(σ:μ W 0 b3 24 (some ⟨δ,0,none⟩) 1 1 hX)(af:μ W 0 b2 2 (some ⟨ζ,0,none⟩) 1 1 (two 0 0))(ar:¬Good pgs):
  ∃(aE:aj),aE.size=24/\aB W (⟨δ,0,none⟩:Addr) aE.toList/\
  (∃(bz:aj),bz.size=2/\aB W (⟨ζ,0,none⟩:Addr) bz.toList/\
   (ν (decide (aE.size=24)) (
    a6 W (⟨δ,0,none⟩:Addr) aE.toList/\∀χ,χ=W.setCells (⟨δ,0,none⟩:Addr).block (⟨δ,0,none⟩:Addr).off aE.toList->
    (ν (decide (bz.size=2)) (
     aB χ (⟨ζ,0,none⟩:Addr) bz.toList/\
     (ν (decide (bz.size=2)) (
      a6 χ (⟨ζ,0,none⟩:Addr) bz.toList/\∀ao,ao=χ.setCells (⟨ζ,0,none⟩:Addr).block (⟨ζ,0,none⟩:Addr).off bz.toList->
      (∃(bO:aj),bO.size=24/\aB ao (⟨δ,0,none⟩:Addr) bO.toList/\
       (∃(bC:aj),bC.size=2/\aB ao (⟨ζ,0,none⟩:Addr) bC.toList/\
        (ω (Zt pgs w) (.returned (Value.tuple #[(Value.agg bO),(Value.agg bC),(Value.int .i64 0),(Value.int .i64 11)])) ao)))))))))):=by
 refine⟨hX.toArray,rfl,σ.cells,(two 0 0).toArray,rfl,af.cells,bU (by rfl) ?_⟩;have t1:∀i,i=δ->Typed W b3 i:=λi I=>by rw[I];exact(σ.typed rfl).1
 refine σ.put (cs:=hX) (by rfl) ayG λχ b4 bh=>?_;have sl:=af.cV b4 b3 t1 (by decide);refine bU (by rfl) ⟨sl.cells,bU (by rfl) ?_⟩;have t2:∀i,i=ζ->Typed χ b2 i:=λi I=>by rw[I];exact(sl.typed rfl).1
 refine sl.put (cs:=two 0 0) (by rfl) nP λao cI cJ=>?_;refine⟨hX.toArray,rfl,(bh.cV cI b2 t2 (by decide)).cells,(two 0 0).toArray,rfl,cJ.cells,ω.mk ⟨(J.then b4 λi I=>by omega).then cI λi I=>by omega,.inr ⟨ar,rfl⟩⟩⟩
theorem LS(s k q:Int)(t:aq):(jg s k q t).length=1+fW t.length:=by unfold jg;rw[kU,ase,xC];omega
theorem WU{s k q:Int}{t:aq}:∀bw∈jg s k q t,bw.length=64:=λbw h=>by
 unfold jg at h;rcases fB.1 h with rfl|h
 ·exact y5 (by rw[I0];omega)
 ·unfold th at h;obtain⟨i,I,rfl⟩:=Rz.1 h;refine y5 ?_;rw[QJ,Pk];unfold eA;omega
end Go.Proofs.YtcpdfhkhaekekaaGreat.G.cF
namespace Go.Proofs.YtcpdfhkhaekekaaGreat.G.cF
open Go.bJ Go.RowKit
theorem Il(ε:World):ε.alloc (.cells #[.int .i64 0,.int .i64 0,.int .i64 0,.int .i64 0,.int .i64 0,.int .i64 0,.int .i64 0,.int .i64 0,.int .i64 0,.int .i64 0,.int .i64 0,.int .i64 0,.int .i64 0,.int .i64 0,.int .i64 0,.int .i64 0,.slice none 0 0,.slice none 0 0,.slice none 0 0,.slice none 0 0,.slice none 0 0,.slice none 0 0,.slice none 0 0,.slice none 0 0] b3)=ε.alloc (.cells hX.toArray b3):=rfl
theorem Ie(ε:World)(a b:Int):ε.alloc (.cells #[.int .i64 a,.int .i64 b] b2)=ε.alloc (.cells (two a b).toArray b2):=rfl
theorem atC{w:World}{B:Nat}{p:γ}{c:Nat}{bw:aq}(o:μ w B dt 1 p 60 c (a7 (bw.take 60))):bd w (dL p c 6 1) (a7 (partOf bw)):=by
 have ak:=Am o
 have:=o.cells.slice c 6 (said bw).toNat (by rw[sC,ak];exact o.2.1)
 unfold partOf a7;rw[xA,yX];exact this
theorem atD{bw:aq}(h:(bw.take 60).length=60)(ab:0<=said bw/\said bw<=52):(partOf bw).length=(said bw).toNat:=by unfold partOf;rw[hs,lg,h];omega
theorem auU{bw:aq}(h:(bw.take 60).length=60):(a7 (bw.take 60))[5]?=some (.int .u8 (said bw)):=by unfold said a7;rw[List.getElem?_map,List.getElem?_eq_getElem (show 5<(bw.take 60).length by omega)];rfl
theorem ag3{pgs:List aq}{j:Nat}{bw:aq}(h:pgs.tail[j]?=some bw):(pgs.tail.take (j+1)).flatMap partOf=(pgs.tail.take j).flatMap partOf++partOf bw:=by obtain⟨ψ,rfl⟩:=List.getElem?_eq_some_iff.1 h;rw[mb ψ,xB];simp
theorem Zu{w:World}{P:γ}{n c:Nat}{pgs:List aq}(hp:r0 w P n c pgs)(τ:∀bw∈pgs,Bytes bw)(ar:n<=9223372036854775807):p8.C P n c w (ω (Zt pgs w)):=by
 have hlen:=hp.len;apply p8.ok;unfold p8.main;rintro δ ε rfl rfl ζ υ rfl rfl;rw[Il,Ie];have σ:=(μ.new (w:=w) hX b3).lower (eR _);have θ:=η.alloc w (.cells hX.toArray b3);have eL:w.heap.size<=w.heap.size:=dO _;generalize Vl:w.heap.size=δ at σ eL⊢;generalize w.alloc (.cells hX.toArray b3)=ε at σ θ⊢;have af:=(μ.new (w:=ε) (two 0 0) b2).lower (eR _);have ρ:=η.alloc ε (.cells (two 0 0).toArray b2);have eG:w.heap.size<=ε.heap.size:=θ.size;have Bp:δ<ε.heap.size:=(σ.ge rfl).2;generalize ε.heap.size=ζ at af eG Bp⊢;generalize ε.alloc (.cells (two 0 0).toArray b2)=υ at af ρ⊢;have σ:=σ.ex ρ;have kr:=θ.trans ρ;clear θ ρ;have acF:w.heap.size<=δ:=by omega
 have bad:∀{W:World},η υ W->¬Good pgs->_:=λ{W}J ar=>al8 (pgs:=pgs) (kr.trans J) acF eG (σ.ex J) (af.ex J) ar;refine bt (λπ=>?_) (λπ=>?_)
 ·have π:(n:Int)=0:=by simpa using π
  exact bad (η.drew _) (λg=>by have:=g.aD;omega)
 have π:¬(n:Int)=0:=by simpa using π
 refine bt (λjX=>?_) (λjX=>?_)
 ·have jX:=b6 jX;exact bad (η.drew _) (λg=>by have:=g.n12;omega)
 have jX:=dn jX;refine bU (bI (by omega)) ?_;have p0:=hp.ex kr;obtain⟨a,oL,eu,d0,rfl,Qb,lj,apr,apo⟩:=p0.get (i:=0) (by omega);have hH:zQ pgs=oL:=by unfold zQ;rw[List.headD_eq_head?_getD,List.head?_eq_getElem?,Qb];rfl
 have acR:=τ oL (fa Qb)
 try dsimp only[bo]
 rw[show a.add 0=a from Addr.add_zero' a]at lj;refine⟨eu,oL.length,d0,lj,?_⟩;refine κ.use (JZ eu oL.length d0 oL υ apo rfl apr acR) ?_;rintro _ a8 ⟨rfl,aU⟩
 try dsimp only[ca,cT,cU,bo,dX,hA,h7]
 rintro aa bW rfl rfl;have cJ:=μ.new (w:=a8) (bB.v64 [0,0,0,0,0]) oQ;have ct:=η.alloc a8 (.cells (bB.v64 [0,0,0,0,0]).toArray oQ);have jE:a8.alloc (.cells #[.int .i64 0,.int .i64 0,.int .i64 0,.int .i64 0,.int .i64 0] oQ)=a8.alloc (.cells (bB.v64 [0,0,0,0,0]).toArray oQ):=rfl;rw[jE];have lX:υ.heap.size<=a8.heap.size:=aU.size;generalize a8.heap.size=aa at cJ lX⊢;generalize a8.alloc (.cells (bB.v64 [0,0,0,0,0]).toArray oQ)=bW at cJ ct⊢;have adk:(bB.v64 (rn oL)).length=5:=by unfold bB.v64;rw[jM];exact VH oL
 refine bU (bI (by rw[fP];exact adk)) ?_;refine cJ.put (cs:=bB.v64 (rn oL)) adk (Og _) λc4 Dx rA=>?_;have ez:η υ c4:=(aU.trans ct).then Dx λi I=>by omega
 cases dJ:nE oL with
 |false=>
  rw[cond_pos (by rfl)];exact bad (ez.trans (η.drew _)) (λg=>by have:=g.yn;rw[hH,dJ]at this;cases this)
 |true=>
 obtain⟨Qp,lE⟩:=ac1 dJ;have Li:rn oL=[dz oL 4 4,dz oL 8 1,dz oL 9 1,dz oL 10 1,dz oL 11 2]:=by unfold rn;rw[aN lE]
 rw[Li]at rA;rw[cond_neg (by rfl)];refine⟨dz oL 10 1,rA.at (by rfl),?_⟩;rw[bS (x:=(n:Int)-1) (by omega) (by omega)];refine bt (λpa=>?_) (λpa=>?_)
 ·have pa:¬dz oL 10 1=(n:Int)-1:=by simpa using pa
  exact bad (ez.trans (η.drew _)) (λg=>by have:=g.fW;rw[hH,hlen]at this;exact pa this)
 have pa:dz oL 10 1=(n:Int)-1:=by simpa using pa
 refine bU (bI (by omega)) ?_;have adz:=p0.ex ez;have aqL:=adz.rest (by omega);have adU:=kr.trans ez;have pW:∀bw∈pgs.tail,Bytes bw:=λbw h=>τ bw (X2 h);have Ge:pgs.tail.length=n-1:=by rw[G6,hlen]
 have azE:w.heap.size<=c4.heap.size:=adU.size;unfold p8.bb;refine⟨λcy cp cG t2 t3 t6 jP iD jC N7 N6 Sj t47 t48 w'=>cy=some a/\n=cp/\c=cG/\δ=t2/\ζ=t3/\aa=t6/\dL (some a) c 1 1=N7/\n-1=N6/\((n-1:Nat):Int)=t47/\0<=t48/\t48<=((n-1:Nat):Int)/\η c4 w'/\(∀j bw,j<t48.toNat->pgs.tail[j]?=some bw->DA bw=true)/\((pgs.tail.take t48.toNat).flatMap partOf).length=iD/\iD<=t48.toNat*52/\μ w' c4.heap.size dt 1 jP iD jC (a7 ((pgs.tail.take t48.toNat).flatMap partOf)),
  λcy cp cG t2 t3 t6 jP iD jC N7 N6 Sj t47 t48 w'=>((n-1:Nat)-t48).toNat,⟨rfl,rfl,rfl,rfl,rfl,rfl,rfl,rfl,rfl,by omega,by omega,η.refl _,λj bw ψ=>by simp at ψ,rfl,eR _,μ.nil _ _ _ _⟩,?_⟩
 rintro _ _ _ _ _ _ jP iD jC _ _ Sj _ t48 w' ⟨rfl,rfl,rfl,rfl,rfl,rfl,rfl,rfl,rfl,i0,i1,J,I7,kg,aq4,e4⟩;unfold p8.δ;obtain⟨j,rfl⟩:=eF i0;rw[ch]at I7 kg aq4 e4;have KV:∀{W:World},η w' W->¬Good pgs->_:=λ{W}mX ar=>bad (ez.trans (J.trans mX)) ar;refine bt (λvG=>?_) (λvG=>?_)
 ·have vG:=b6 vG;have ψ:j<n-1:=by omega
  refine bU (bI i0) (bU (bI vG) ?_);obtain⟨a2,bw,q,d,anC,bH,fC,ah,FW⟩:=(aqL.ex J).get ψ;rw[anC]
  try dsimp only[bo]
  rw[ch,eS];refine⟨q,bw.length,d,fC,?_⟩;have j0:=fa bH;have acS:=pW bw j0;refine κ.use (KJ q bw.length d bw w' FW rfl ah acS) ?_;rintro _ dp ⟨qf,m,d',rfl,hm,uC,mo⟩
  try dsimp only[ca,cT,cU,bo,bL,ee]
  have aeE:DA bw=false->¬Good pgs:=λh g=>by have:=g.leaves bw j0;rw[h]at this;cases this
  refine bt (λaG=>?_) (λaG=>?_)
  ·have aG:¬oK bw=0:=by simpa using aG
   exact KV (mo.trans (η.drew _)) (aeE (by unfold DA;rw[iX aG];rfl))
  have aG:oK bw=0:=by simpa using aG
  obtain⟨jW,eh⟩:=Q5 aG;rw[eh]at uC;have adP:(bw.take 60).length=60:=by rw[hs,jW];rfl
  have aqd:m=60:=by have:=Am uC;omega
  subst aqd;have Wj:=auV acS;obtain⟨a3,rfl,iY⟩:=uC.cells.many (auU adP);refine bU (by decide) ?_
  try dsimp only[bo]
  refine⟨said bw,iY,?_⟩;refine bt (λLA=>?_) (λLA=>?_)
  ·have LA:=b6 LA;exact KV (mo.trans (η.drew _)) (aeE (by unfold DA;rw[iX (show¬said bw<=52 by omega),Bool.and_false]))
  have LA:=dn LA;refine bU (by decide) ⟨said bw,iY,?_⟩;have Bn:IntKind.u8.wrap (6+said bw)=6+said bw:=by rw[tJ];omega
  rw[Bn];have jG:=uC.2.1;refine bU (bI (by omega)) (bU (bI (by omega)) (bU (bI (by omega)) ?_));have rh:(6+said bw).toNat-6=(said bw).toNat:=by omega
  rw[rh];have vJ:=atD adP ⟨Wj.1,by omega⟩;refine mx (B:=c4.heap.size) (e4.ex mo) (J.trans mo).size (a7 (partOf bw)) (atC uC) (by rw[sC,vJ,eS]) (Ec _) rfl (by omega) (by omega) ?_;intro eo h0 dM j2 pn;rw[Kq,<-ag3 bH]at j2;have l2:IntKind.i64.wrap ((j:Int)+1)=((j+1:Nat):Int):=by rw[bS (by omega) (by omega)];rfl
  have Qt:((j+1:Nat):Int).toNat=j+1:=rfl;rw[l2];refine⟨⟨rfl,rfl,rfl,rfl,rfl,rfl,rfl,rfl,rfl,by omega,by omega,(J.trans mo).then pn λi⟨y,e,I⟩=>by have:=(e4.ge e).1;omega,?_,?_,?_,by rw[Qt];exact j2⟩,by((try dsimp only);omega)⟩
  ·intro Mw GN ff pY;rw[Qt]at ff;by_cases he:Mw=j
   ·subst he;rw[bH]at pY;cases pY;unfold DA;rw[bI aG,bI (show said bw<=52 by omega)];rfl
   ·exact I7 Mw GN (by omega) pY
  ·rw[Qt,ag3 bH,fw,kg,vJ]
  ·rw[Qt];omega
 ·have vG:=dn vG;obtain rfl:j=n-1:=by omega
  have anM:(pgs.tail.take (n-1)).flatMap partOf=D9 pgs:=by unfold D9;rw[hR (by omega)]
  rw[anM]at kg e4;have I7:∀bw∈pgs.tail,DA bw=true:=λbw h=>by obtain⟨j,ψ⟩:=List.getElem?_of_mem h;exact I7 j bw (by have:=(List.getElem?_eq_some_iff.1 ψ).1;omega) ψ
  unfold p8.aV;have MP:=rA.ex J;have σ:=σ.ex (ez.trans J);have af:=af.ex (ez.trans J);have C2:lH pgs=dz oL 9 1:=by unfold lH;rw[hH]
  have es:oM pgs=dz oL 8 1:=by unfold oM;rw[hH]
  have eq:uI pgs=dz oL 4 4:=by unfold uI;rw[hH]
  have adj:=ab5 acR 9;rw[<-C2,<-es,<-eq]at MP;rw[<-C2]at adj;refine⟨oM pgs,MP.at (by rfl),lH pgs,MP.at (by rfl),?_⟩;rintro cu eg rfl rfl;have cB:=μ.new (w:=w') (two 0 0) b2;have oU:=η.alloc w' (.cells (two 0 0).toArray b2);rw[Ie];have lY:c4.heap.size<=w'.heap.size:=J.size;have aov:ζ<w'.heap.size:=(af.ge rfl).2;have aou:δ<w'.heap.size:=(σ.ge rfl).2;generalize azl:w'.heap.size=cu at cB lY aov aou⊢;generalize w'.alloc (.cells (two 0 0).toArray b2)=eg at cB oU⊢;refine cB.put (cs:=two (oM pgs) (lH pgs)) (by rfl) nP λgr yD uA=>?_;have wy:η w' gr:=oU.then yD λi I=>by omega
  refine⟨(two (oM pgs) (lH pgs)).toArray,rfl,uA.cells,?_⟩;have apl:Bytes (D9 pgs):=λx J=>by obtain⟨bw,mE,J⟩:=qk.1 J;exact(((pW bw mE).take _).drop _).take _ x J
  refine κ.use (avC jP iD jC (D9 pgs) (oM pgs) (lH pgs) gr (e4.ex wy).cells kg e4.2.1 (by omega) apl adj) ?_;rintro _ eP ⟨lP,Ga⟩;have az8:∀{eP:World},η gr eP->gr.heap.size<=eP.heap.size:=λx=>x.size;have ay8:cu<gr.heap.size:=(uA.ge rfl).2;rcases Ga with⟨ew,ps,rfl,cb⟩|⟨ew,cs,jY,xb,rfl⟩
  ·try dsimp only[ca,cT,cU,bo,dX,hA,h7]
   rintro gu fb rfl rfl;rw[Il];have eN:=μ.new (w:=eP) hX b3;have pI:=η.alloc eP (.cells hX.toArray b3);have Bv:=lP.size;generalize aph:eP.heap.size=gu at eN Bv⊢;generalize eP.alloc (.cells hX.toArray b3)=fb at eN pI⊢;have cb:fV eP (pz pgs) ps:=cb;have gD:=cb.at.eA;refine bU (bI (by rw[fP];exact gD)) ?_;refine eN.put (cs:=bT (pz pgs) ps) gD cb.at.one λeJ Gk qG=>?_;have nu:η eP eJ:=pI.then Gk λi I=>by omega
   rw[cond_neg (by rfl)];have Zc:=wy.trans (lP.trans nu);have qG:μ eJ gu b3 24 (some ⟨gu,0,none⟩) 1 1 (bT (pz pgs) ps):=qG;refine⟨(bT (pz pgs) ps).toArray,by rw[fP];exact gD,qG.cells,(two (oM pgs) (lH pgs)).toArray,rfl,(uA.ex (lP.trans nu)).cells,uI pgs,(MP.ex Zc).at (by rfl),?_⟩;have adO:fV eJ (pz pgs) ps:=cb.ex nu;refine κ.use (Zv adO.at (oM pgs) (lH pgs) (uI pgs)) ?_;rintro _ hv ⟨zk,Ga⟩;rcases Ga with⟨aqJ,kE,gp,ti,jk,aAq,rfl,xm,mE⟩|⟨pg,e,he,rfl⟩
   ·try dsimp only[ca,cT,cU,bo,bL,ee]
    rw[cond_neg (by rfl)];have Zd:=Zc.trans zk;have adB:=mE.Ra xm;have azK:ti<=1000:=by have h1:=adB.len;rw[LS]at h1;have ι:(fg (lH pgs) (pz pgs)).length<=528:=JB cb.len kE.1.2.1 _;unfold fW at h1;omega
    refine κ.use (aki adB (adz.ex (J.trans Zd)) (by omega) (λbw h=>by rw[WU bw h];omega)) ?_;rintro _ ga ⟨rfl,wz⟩
    try dsimp only[dX]
    refine bt (λb1=>?_) (λb1=>?_)
    ·have b1:¬jg (oM pgs) (lH pgs) (uI pgs) (fg (lH pgs) (pz pgs))=pgs:=by simpa using b1
     exact KV (Zd.trans (wz.trans (η.drew _))) (λg=>b1 g.same)
    have Ml:jg (oM pgs) (lH pgs) (uI pgs) (fg (lH pgs) (pz pgs))=pgs:=by simpa using b1
    have L1:Good pgs:=⟨by omega,by omega,by rw[hH];exact dJ,by rw[hH,hlen];exact pa,I7,ew,kE,Ml⟩;have eb:=wz.trans (η.drew ga);have SS:=Zd.trans eb;have asV:=qG.ex (zk.trans eb);have aeR:=uA.ex ((lP.trans nu).trans (zk.trans eb));have tj:=σ.ex SS;have sl:=af.ex SS;have GA:=MP.ex SS;refine⟨(bT (pz pgs) ps).toArray,by rw[fP];exact gD,asV.cells,(two (oM pgs) (lH pgs)).toArray,rfl,aeR.cells,uI pgs,GA.at (by rfl),bU (bI (by rw[fP];exact gD)) ?_⟩;have t1:∀i,i=δ->Typed ga.drew b3 i:=λi I=>by rw[I];exact(tj.typed rfl).1
    refine tj.put (cs:=bT (pz pgs) ps) gD cb.at.one λlp MA JA=>?_;have aeT:=GA.cV MA b3 t1 (by decide);have asU:=aeR.cV MA b3 t1 (by decide);have aeP:=sl.cV MA b3 t1 (by decide);refine⟨aeT.at (by rfl),bU (by rfl) ⟨asU.cells,bU (by rfl) ?_⟩⟩;have t2:∀i,i=ζ->Typed lp b2 i:=λi I=>by rw[I];exact(aeP.typed rfl).1
    refine aeP.put (cs:=two (oM pgs) (lH pgs)) (by rfl) nP λmn Jj MS=>?_;refine⟨(aeT.cV Jj b2 t2 (by decide)).at (by rfl),(bT (pz pgs) ps).toArray,by rw[fP];exact gD,(JA.cV Jj b2 t2 (by decide)).cells,(two (oM pgs) (lH pgs)).toArray,rfl,MS.cells,ω.mk ⟨?_,.inl ⟨L1,ps,rfl,?_⟩⟩⟩
    ·exact((adU.trans (J.trans SS)).then MA λi I=>by omega).then Jj λi I=>by omega
    ·exact(((adO.ex zk).ex eb).cV MA b3 t1 (by decide)).cV Jj b2 t2 (by decide)
   ·try dsimp only[ca,cT,cU,bo,bL,ee]
    have:(e !=0)=true:=by simpa using he
    rw[cond_pos this];exact KV (Zc.trans (zk.trans (η.drew _))) (λg=>pg ⟨by rw[eq];exact Qp,g.fit⟩)
  ·try dsimp only[ca,cT,cU,bo,dX,hA]
   rintro gu fb rfl rfl;rw[Il];have eN:=μ.new (w:=eP) hX b3;have pI:=η.alloc eP (.cells hX.toArray b3);have Bv:=lP.size;generalize aph:eP.heap.size=gu at eN Bv⊢;generalize eP.alloc (.cells hX.toArray b3)=fb at eN pI⊢;refine bU (bI jY) ?_;refine eN.put (cs:=cs.toList) jY xb λeJ Gk qG=>?_;have nu:η eP eJ:=pI.then Gk λi I=>by omega
   rw[cond_pos (by rfl)];exact KV ((wy.trans (lP.trans nu)).trans (η.drew _)) (λg=>by have:=g.all;rw[ew]at this;cases this)
end Go.Proofs.YtcpdfhkhaekekaaGreat.G.cF
namespace Go.Proofs.YtcpdfhkhaekekaaGreat.G.cF
open Tryz
open Go.bJ Go.RowKit
structure mq(w:World)(B b n:Nat)(cL:List (Nat×Nat))(f:Nat×Nat->aY):Prop where
 low:B<=b
 at_:∃es:Array MapEntry,w.heap[b]?=some (.map es es.size)/\es.toList.map (·.key)=cL.map (λx=>et (some x))/\
  (∀(i:Nat)(e:MapEntry),es.toList[i]?=some e->e.born=i/\∃p m c y,cL[i]?=some y/\e.val=.slice p m c/\μ w B ig 2 p m c (f y)/\m<=n)/\
  (∀(i j:Nat)(e db:MapEntry),es.toList[i]?=some e->es.toList[j]?=some db->i≠j->∀a m c fL m' aW,e.val=.slice (some a) m c->db.val=.slice (some fL) m' aW->a.block≠fL.block)
theorem mq.aO{w w':World}{B b n:Nat}{cL:List (Nat×Nat)}{f:Nat×Nat->aY}(h:mq w B b n cL f){S:bl}(k:Kp w w' S)(eU:∀i,B<=i->i<w.heap.size->¬S i):mq w' B b n cL f:=by obtain⟨h1,es,ι,aJ,cK,dx⟩:=h;have τ:b<w.heap.size:=(Array.getElem?_eq_some_iff.1 ι).1;refine⟨h1,es,by rw[k.block b τ (eU b h1 τ)];exact ι,aJ,λi e he=>?_,dx⟩;obtain⟨g1,p,m,c,y,yf,g2,g3,g4⟩:=cK i e he;exact⟨g1,p,m,c,y,yf,g2,g3.aO k λa aR=>eU _ (g3.ge aR).1 (g3.ge aR).2,g4⟩
set_option maxRecDepth 8000 in
theorem mq.step{w:World}{B b n:Nat}{cL:List (Nat×Nat)}{f:Nat×Nat->aY}(h:mq w B b n cL f)(l1:cL.Nodup)(ar:n<=100000)(eh:B<=w.heap.size){x:Nat×Nat}(J:hg x)(pZ:∀y∈cL,hg y)(w7:x∉cL->f x=[])(t4 t17:Int){N:al}
  (K:∀aZ,Kp w aZ (λi=>B<=i)->mq aZ B b (n+1) (if x∈cL then cL else cL++[x]) (λy=>if y=x then f x++[.int .i64 t4,.int .i64 t17]else f y)->N aZ):
  aK w #[(Value.int .i64 t4),(Value.int .i64 t17)] ig λax χ=>
      ξ (some b) λaa=>
      QO prog χ aa (eX (some x)) (e5 (some x)) AK (.slice none 0 0) λv2 st1 ao=>
      cX v2 λaX bu c2=>
      ho ao aX bu c2 1 (bd ao (some ⟨ax,0,none⟩)) ig 2 16 #[(Value.int .i64 0),(Value.int .i64 0)] λbj bP an=>
      ξ (some b) λcu=>
      QP an cu st1 (Value.slice bj (bu+1) bP) λaZ=>N aZ:=by
 rintro ax χ rfl rfl;have bh:=μ.new (w:=w) [.int .i64 t4,.int .i64 t17] ig;have ad:=η.alloc w (.cells [Value.int .i64 t4,.int .i64 t17].toArray ig);have jm:w.heap.size<=w.heap.size:=dO _;have gA:w.alloc (.cells #[.int .i64 t4,.int .i64 t17] ig)=w.alloc (.cells [Value.int .i64 t4,.int .i64 t17].toArray ig):=rfl;rw[gA];generalize apd:w.heap.size=ax at bh jm⊢;generalize w.alloc (.cells [Value.int .i64 t4,.int .i64 t17].toArray ig)=χ at bh ad⊢;have aJ:=h.aO ad λ_ _ _ h=>h;obtain⟨oE,es,qC,yr,fj,Bu⟩:=aJ;have LO:b<χ.heap.size:=(Array.getElem?_eq_some_iff.1 qC).1;have hlen:es.size=cL.length:=by
  have:=hr List.length yr
  simpa using this
 try dsimp only[bo]
 refine⟨XB,es,es.size,qC,?_⟩;have yq:∀(i:Nat)(y:Nat×Nat),cL[i]?=some y->∃e,es.toList[i]?=some e/\e.key=et (some y):=by
  intro i y ag;have h1:i<cL.length:=(List.getElem?_eq_some_iff.1 ag).1;have ι:i<es.toList.length:=by rw[lL];omega
  refine⟨es.toList[i],List.getElem?_eq_getElem ι,?_⟩
  have:=hr (λl=>l[i]?) yr
  rw[List.getElem?_map,List.getElem?_map,ag,List.getElem?_eq_getElem ι]at this;simpa using this
 have LX:∀(i:Nat)(e:MapEntry),es.toList[i]?=some e->∃y,cL[i]?=some y/\e.key=et (some y):=by
  intro i e he;have ι:i<es.toList.length:=(List.getElem?_eq_some_iff.1 he).1;have h1:i<cL.length:=by rw[lL]at ι;omega
  refine⟨cL[i],List.getElem?_eq_getElem h1,?_⟩
  have:=hr (λl=>l[i]?) yr
  rw[List.getElem?_map,List.getElem?_map,he,List.getElem?_eq_getElem h1]at this;simpa using this
 have uB:μ χ B ig 2 (some ⟨ax,0,none⟩) 1 1 [.int .i64 t4,.int .i64 t17]:=bh.lower (by omega);have Vo:ax<χ.heap.size:=(bh.ge rfl).2;by_cases j0:x∈cL
 ·
  right;obtain⟨i,I⟩:=List.getElem?_of_mem j0;have VL:∃i,cL[i]?=some x/\∀y∈cL.take i,y≠x:=by
   clear I
   have:∀l:List (Nat×Nat),x∈l->∃i,l[i]?=some x/\∀y∈l.take i,y≠x:=by
    intro l
    induction l with
    |nil=>intro h;cases h
    |cons a l cw=>
     intro h;by_cases FQ:a=x
     ·exact⟨0,by simp[FQ],λy ag=>by simp at ag⟩
     ·obtain⟨i,h1,ι⟩:=cw (by rcases fB.1 h with h|h;exact absurd h.symm FQ;exact h);refine⟨i+1,by simpa using h1,λy ag=>?_⟩;rw[List.take_succ_cons]at ag;rcases fB.1 ag with h|h
      ·rw[h];exact FQ
      ·exact ι y h
   exact this cL j0
  obtain⟨i,I,Vr⟩:=VL;obtain⟨e,he,VJ⟩:=yq i x I;refine⟨i,e,he,VJ,WN J,λdb ej=>?_,?_⟩
  ·obtain⟨j,ψ⟩:=List.getElem?_of_mem ej;have h9:j<i:=by
    have:=(List.getElem?_eq_some_iff.1 ψ).1
    rw[hs]at this;omega
   rw[List.getElem?_take_of_lt h9]at ψ;obtain⟨y,ag,Gi⟩:=LX j db ψ;have Ww:y∈cL.take i:=by refine fa (i:=j) ?_;rw[List.getElem?_take_of_lt h9];exact ag
   exact⟨eX (some y),e5 (some y),Gi,Dz J (pZ y (fa ag)) (λh=>Vr y Ww h.symm)⟩
  ·obtain⟨rm,p,m,c,gl,arv,az,aG,hm⟩:=fj i e he;obtain rfl:gl=x:=Cd (arv.symm.trans I);rw[az]
   try dsimp only[ee]
   refine CM (B:=B) aG (by have:=ad.size;omega) [.int .i64 t4,.int .i64 t17] bh.cells rfl nP rfl (by omega) (by omega) ?_;intro bj bP an cB dT ph;have lY:an.heap[b]?=some (.map es es.size):=by
    rw[dT.block b LO (λ⟨a,aR,um⟩=>?_)]
    ·exact qC
    ·obtain⟨cur,fr,aS⟩:=(aG.typed aR).1;rw[um,qC]at aS;cases aS
   have VV:i<es.size:=by have:=(List.getElem?_eq_some_iff.1 he).1;rwa[lL]at this
   refine⟨es,es.size,i,lY,by rw[rm];exact PI (λi e he=>(fj i e he).1) VV,λaZ BH=>?_⟩;subst BH;have po:=Kp.putObj an b (.map (es.modify i λe=>{e with val:=Value.slice bj (m+1) bP}) es.size);have FT:b<an.heap.size:=(Array.getElem?_eq_some_iff.1 lY).1;have pe:Kp w (an.putObj b (.map (es.modify i λe=>{e with val:=Value.slice bj (m+1) bP}) es.size)) (λi=>B<=i):=by
    refine Kp.trans (ad.aO λi=>B<=i) (Kp.trans dT po (U:=λi=>B<=i) (λi _⟨a,aR,I⟩=>?_) λi _ I=>?_) (λ_ _ h=>h) (λ_ _ h=>h)
    ·have:=(aG.ge aR).1;omega
    ·rw[I];exact oE
   refine K _ pe ?_;rw[aN j0];have ne:∀{q:γ}{m' aW:Nat}{ys:aY},μ an B ig 2 q m' aW ys->μ (an.putObj b (.map (es.modify i λe=>{e with val:=Value.slice bj (m+1) bP}) es.size)) B ig 2 q m' aW ys:=λo=>o.aO po λa aR I=>by obtain⟨cur,fr,aS⟩:=(o.typed aR).1;rw[I,lY]at aS;cases aS
   have Wa:∀(j:Nat)(db:MapEntry),es.toList[j]?=some db->j≠i->∀{q:γ}{m' aW:Nat}{ys:aY},db.val=.slice q m' aW->μ χ B ig 2 q m' aW ys->μ an B ig 2 q m' aW ys:=λj db ej h9 q m' aW ys n5 o=>o.aO dT λa aR⟨fL,Bt,h2⟩=>by subst aR;subst Bt;exact Bu j i db e ej he h9 a m' aW fL m c n5 az h2.symm
   have mS:∀(j:Nat)(hL:MapEntry),(es.modify i λe=>{e with val:=Value.slice bj (m+1) bP}).toList[j]?=some hL->(j=i/\hL={e with val:=Value.slice bj (m+1) bP})\/(j≠i/\es.toList[j]?=some hL):=λj hL gT=>by
    rw[Cc,List.getElem?_modify]at gT;by_cases h9:i=j
    ·subst h9;rw[he]at gT;left;simp at gT;exact⟨rfl,gT.symm⟩
    ·right;refine⟨λh=>h9 h.symm,?_⟩;simpa[h9]using gT
   refine⟨oE,es.modify i λe=>{e with val:=Value.slice bj (m+1) bP},?_,?_,?_,?_⟩
   ·rw[World.putObj_heap_same FT,Ru]
   ·rw[<-yr];apply rL;intro j;rw[List.getElem?_map,List.getElem?_map,Cc,List.getElem?_modify];cases es.toList[j]?with
    |none=>rfl
    |some db=>simp only[jB];split<;>rfl
   ·intro j hL gT;rcases mS j hL gT with⟨rfl,rfl⟩|⟨h9,ej⟩
    ·exact⟨rm,bj,m+1,bP,gl,I,rfl,by rw[aN rfl];exact ne cB,by omega⟩
    ·obtain⟨g1,q,m',aW,ys,yf,g2,g3,g4⟩:=fj j hL ej;have Wz:ys≠gl:=λe=>by
      subst e;obtain⟨bb,dK⟩:=List.getElem?_eq_some_iff.1 yf;obtain⟨eZ,fp⟩:=List.getElem?_eq_some_iff.1 I;rcases Nat.lt_or_gt_of_ne h9 with h|h
      ·exact(DX.1 l1) j i bb eZ h (dK.trans fp.symm)
      ·exact(DX.1 l1) i j eZ bb h (fp.trans dK.symm)
     exact⟨g1,q,m',aW,ys,yf,g2,by rw[aL Wz];exact ne (Wa j hL ej h9 g2 g3),by omega⟩
   ·intro sg p4 aP bM zT mD b1 aw m1 c1 a2 m2 c2 nH nI;have ui:∀(j:Nat)(db:MapEntry),es.toList[j]?=some db->j≠i->∀fL m' aW a3,db.val=.slice (some fL) m' aW->bj=some a3->a3.block≠fL.block:=λj db ej h9 fL m' aW a3 n5 hp=>by
     rcases ph with rfl|s5
     ·exact Bu i j e db he ej (λh=>h9 h.symm) a3 m c fL m' aW (by rw[az,hp]) n5
     ·have h1:=s5 a3 hp;obtain⟨_,q,W1,TN,ys,_,g2,g3,_⟩:=fj j db ej;rw[n5]at g2;cases g2
      have:=(g3.ge rfl).2
      omega
    rcases mS sg aP zT with⟨rfl,rfl⟩|⟨h1,g1⟩
    ·rcases mS p4 bM mD with⟨rfl,rfl⟩|⟨ι,g2⟩
     ·exact absurd rfl b1
     ·have nH:Value.slice bj (m+1) bP=Value.slice (some aw) m1 c1:=nH;cases nH;exact ui p4 bM g2 ι a2 m2 c2 aw nI rfl
    ·rcases mS p4 bM mD with⟨rfl,rfl⟩|⟨ι,g2⟩
     ·have nI:Value.slice bj (m+1) bP=Value.slice (some a2) m2 c2:=nI;cases nI
      exactλh=>ui sg aP g1 h1 aw m1 c1 a2 nH rfl h.symm
     ·exact Bu sg p4 aP bM g1 g2 b1 aw m1 c1 a2 m2 c2 nH nI
 ·
  left;refine⟨λe he=>?_,λao ur=>?_⟩
  ·obtain⟨j,ψ⟩:=List.getElem?_of_mem he;obtain⟨y,ag,Gi⟩:=LX j e ψ;exact⟨eX (some y),e5 (some y),Gi,Dz J (pZ y (fa ag)) (λh=>j0 (h▸fa ag))⟩
  have po:=Kp.putObj χ b (.map (es.push ⟨.complex .f64 (eX (some x)) (e5 (some x)),.slice none 0 0,es.size⟩) (es.size+1));have lX:ao.heap[b]?=some (.map (es.push ⟨.complex .f64 (eX (some x)) (e5 (some x)),.slice none 0 0,es.size⟩) (es.size+1)):=by rw[ur];exact World.putObj_heap_same LO
  rw[<-ur]at po;have t3:∀{q:γ}{m' aW:Nat}{ys:aY},μ χ B ig 2 q m' aW ys->μ ao B ig 2 q m' aW ys:=λo=>o.aO po λa aR I=>by obtain⟨cur,fr,aS⟩:=(o.typed aR).1;rw[I,qC]at aS;cases aS
  try dsimp only[ee]
  refine CM (B:=B) (μ.nil ao B ig 2) (by have:=ad.size;have:=po.size;omega) [.int .i64 t4,.int .i64 t17] (t3 uB).cells rfl nP rfl (by omega) (by omega) ?_;intro bj bP an cB dT ph;have ay:η ao an:=dT.mono λi _⟨y,e,_⟩=>by cases e
  have s5:∀a,bj=some a->ao.heap.size<=a.block:=λa aR=>by
   rcases ph with rfl|h
   ·cases aR
   ·exact h a aR
  have lY:an.heap[b]?=some (.map (es.push ⟨.complex .f64 (eX (some x)) (e5 (some x)),.slice none 0 0,es.size⟩) (es.size+1)):=by rw[ay.block b (Array.getElem?_eq_some_iff.1 lX).1 id];exact lX
  generalize F6:es.push ⟨.complex .f64 (eX (some x)) (e5 (some x)),.slice none 0 0,es.size⟩=mB at lX lY⊢;have eV:mB.size=es.size+1:=by rw[<-F6,Array.size_push]
  have n2:∀(j:Nat)(hL:MapEntry),mB.toList[j]?=some hL->(j=es.size/\hL=⟨.complex .f64 (eX (some x)) (e5 (some x)),.slice none 0 0,es.size⟩)\/(j<es.size/\es.toList[j]?=some hL):=λj hL gT=>by
   rw[<-F6,Rv]at gT;by_cases ψ:j<es.size
   ·right;rw[List.getElem?_append_left (by rw[lL];exact ψ)]at gT;exact⟨ψ,gT⟩
   ·left;rw[List.getElem?_append_right (by rw[lL];omega),lL]at gT;have F3:j-es.size=0:=by
     cases aH:j-es.size with
     |zero=>rfl
     |succ n=>rw[aH]at gT;simp at gT
    rw[F3]at gT;exact⟨by omega,by simpa using gT.symm⟩
  have rm:∀(i:Nat)(e:MapEntry),mB.toList[i]?=some e->e.born=i:=λi e he=>by
   rcases n2 i e he with⟨rfl,rfl⟩|⟨_,h⟩
   ·rfl
   ·exact(fj i e h).1
  refine⟨mB,es.size+1,es.size,lY,PI rm (by omega),λaZ BH=>?_⟩;have BO:=Kp.putObj an b (.map (mB.modify es.size λe=>{e with val:=Value.slice bj (0+1) bP}) (es.size+1));rw[<-BH]at BO;have FT:b<an.heap.size:=(Array.getElem?_eq_some_iff.1 lY).1;have t5:∀{q:γ}{m' aW:Nat}{ys:aY},μ an B ig 2 q m' aW ys->μ aZ B ig 2 q m' aW ys:=λo=>o.aO BO λa aR I=>by obtain⟨cur,fr,aS⟩:=(o.typed aR).1;rw[I,lY]at aS;cases aS
  have pe:Kp w aZ (λi=>B<=i):=by
   refine Kp.trans (ad.aO λi=>B<=i) (Kp.trans po (Kp.trans ay BO (U:=λi=>B<=i) (λ_ _ h=>h.elim) λi _ I=>?_) (U:=λi=>B<=i) (λi _ I=>?_) (λ_ _ h=>h)) (λ_ _ h=>h) (λ_ _ h=>h)
   ·rw[I];exact oE
   ·rw[I];exact oE
  refine K _ pe ?_;rw[aL j0];have mS:∀(j:Nat)(hL:MapEntry),(mB.modify es.size λe=>{e with val:=Value.slice bj (0+1) bP}).toList[j]?=some hL->(j=es.size/\hL=⟨.complex .f64 (eX (some x)) (e5 (some x)),Value.slice bj (0+1) bP,es.size⟩)\/(j<es.size/\es.toList[j]?=some hL):=λj hL gT=>by
   rw[Cc,List.getElem?_modify]at gT;by_cases h9:es.size=j
   ·subst h9;left;cases aH:mB.toList[es.size]?with
    |none=>rw[aH]at gT;simp at gT
    |some hB=>
     rcases n2 _ hB aH with⟨_,rfl⟩|⟨h,_⟩
     ·rw[aH]at gT;simp at gT;exact⟨rfl,gT.symm⟩
     ·omega
   ·have VI:mB.toList[j]?=some hL:=by simpa[h9]using gT
    rcases n2 _ hL VI with⟨h,_⟩|h
    ·omega
    ·exact .inr h
  refine⟨oE,mB.modify es.size λe=>{e with val:=Value.slice bj (0+1) bP},?_,?_,?_,?_⟩
  ·rw[BH,World.putObj_heap_same FT,Ru,eV]
  ·rw[ss,<-yr];have aP:(mB.modify es.size λe=>{e with val:=Value.slice bj (0+1) bP}).toList.map (·.key)=mB.toList.map (·.key):=by
    apply rL;intro j;rw[List.getElem?_map,List.getElem?_map,Cc,List.getElem?_modify];cases mB.toList[j]?with
    |none=>rfl
    |some db=>simp only[jB];split<;>rfl
   rw[aP,<-F6,Rv,ss];rfl
  ·intro j hL gT;rcases mS j hL gT with⟨rfl,rfl⟩|⟨ψ,ej⟩
   ·exact⟨rfl,bj,0+1,bP,x,by rw[hlen,List.getElem?_append_right (dO _),tv];rfl,rfl,by rw[aN rfl,w7 j0];exact t5 cB,by omega⟩
   ·obtain⟨g1,q,m',aW,ys,yf,g2,g3,g4⟩:=fj j hL ej;have Wz:ys≠x:=λe=>j0 (e▸fa yf);exact⟨g1,q,m',aW,ys,by rw[List.getElem?_append_left (by omega)];exact yf,g2,by rw[aL Wz];exact t5 ((t3 g3).ex ay),by omega⟩
  ·intro sg p4 aP bM zT mD b1 aw m1 c1 a2 m2 c2 nH nI;have ui:∀(j:Nat)(db:MapEntry),es.toList[j]?=some db->∀fL m' aW a3,db.val=.slice (some fL) m' aW->bj=some a3->a3.block≠fL.block:=λj db ej fL m' aW a3 n5 hp=>by
    have h1:=s5 a3 hp;obtain⟨_,q,W1,TN,ys,_,g2,g3,_⟩:=fj j db ej;rw[n5]at g2;cases g2
    have:=(g3.ge rfl).2
    have:=po.size
    omega
   rcases mS sg aP zT with⟨rfl,rfl⟩|⟨h1,g1⟩
   ·rcases mS p4 bM mD with⟨rfl,rfl⟩|⟨ι,g2⟩
    ·exact absurd rfl b1
    ·have nH:Value.slice bj (0+1) bP=Value.slice (some aw) m1 c1:=nH;cases nH;exact ui p4 bM g2 a2 m2 c2 aw nI rfl
   ·rcases mS p4 bM mD with⟨rfl,rfl⟩|⟨ι,g2⟩
    ·have nI:Value.slice bj (0+1) bP=Value.slice (some a2) m2 c2:=nI;cases nI
     exactλh=>ui sg aP g1 aw m1 c1 a2 nH rfl h.symm
    ·exact Bu sg p4 aP bM g1 g2 b1 aw m1 c1 a2 m2 c2 nH nI
theorem mq.mono{w:World}{B b n fG:Nat}{cL:List (Nat×Nat)}{f:Nat×Nat->aY}(h:mq w B b n cL f)(ar:n<=fG):mq w B b fG cL f:=by obtain⟨h1,es,ι,aJ,cK,dx⟩:=h;refine⟨h1,es,ι,aJ,λi e he=>?_,dx⟩;obtain⟨g1,p,m,c,y,yf,g2,g3,g4⟩:=cK i e he;exact⟨g1,p,m,c,y,yf,g2,g3,by omega⟩
def pv(v:Int)(l:List eK)(y:Nat×Nat):aY:=l.zipIdx.flatMap λq=>if q.1=some y then[.int .i64 v,.int .i64 (q.2:Int)]else[]
def mH(R:bZ)(y:Nat×Nat):aY:=R.zipIdx.flatMap λe=>pv (e.2:Int) e.1.2.2 y
theorem afi(v:Int){l:List eK}{j:Nat}(ψ:j<l.length)(y:Nat×Nat):pv v (l.take (j+1)) y=pv v (l.take j) y++if l[j]=some y then[.int .i64 v,.int .i64 (j:Int)]else[]:=by unfold pv;rw[mb ψ,List.zipIdx_append,xB];congr 1;simp[hs,sr (Nat.le_of_lt ψ)]
theorem atv{R:bZ}{k:Nat}{e:gn}(he:R[k]?=some e)(y:Nat×Nat):mH (R.take (k+1)) y=mH (R.take k) y++pv (k:Int) e.2.2 y:=by obtain⟨hk,rfl⟩:=List.getElem?_eq_some_iff.1 he;unfold mH;rw[mb hk,List.zipIdx_append,xB];congr 1;simp[hs,sr (Nat.le_of_lt hk)]
theorem afj{v:Int}{l:List eK}{y:Nat×Nat}(h:y∉l.filterMap id):pv v l y=[]:=by unfold pv;rw[List.flatMap_eq_nil_iff];intro q aH;obtain⟨q,b⟩:=q;have hm:q∈l:=(List.mem_zipIdx aH).2.2▸hP _;rw[aL];rintro rfl;exact h (wa.2 ⟨some y,hm,rfl⟩)
theorem XA{R:bZ}{y:Nat×Nat}(h:y∉used R):mH R y=[]:=by unfold mH;rw[List.flatMap_eq_nil_iff];intro q aH;obtain⟨e,v⟩:=q;have hm:e∈R:=(List.mem_zipIdx aH).2.2▸hP _;exact afj λag=>h (qk.2 ⟨e,hm,ag⟩)
theorem all_map{w:World}{R:bZ}{ps:aY}(h:iE w R ps):
  la.C (bT R ps).toArray w (ω λv w'=>∃B b,v=.map (some b)/\w.heap.size<=B/\mq w' B b 8000 (gK (used R)) (mH R)/\η w w'):=by
 apply la.ok;unfold la.main;have l4:=h.row;rintro δ ε rfl rfl ζ υ rfl rfl;have σ:=μ.new (w:=w) (bT R ps) b3;have θ:=η.alloc w (.cells (bT R ps).toArray b3);generalize Vl:w.heap.size=δ at σ⊢;generalize w.alloc (.cells (bT R ps).toArray b3)=ε at σ θ⊢;have ρ:=η.alloc ε (.map #[] 0);have hm:=FY ε (.map #[] 0);have eh:ε.heap.size<=(ε.alloc (.map #[] 0)).heap.size:=ρ.size;have Wr:=θ.size;generalize aoD:ε.heap.size=B at hm eh Wr⊢;have m0:mq (ε.alloc (.map #[] 0)) B B 0 [] (λ_=>[]):=⟨dO _,#[],hm,rfl,λi e he=>by simp at he,λi j e db he=>by simp at he⟩;generalize ε.alloc (.map #[] 0)=υ at ρ eh m0⊢;have h:=h.ex (θ.trans ρ);have σ:=σ.ex ρ;have ah:aB υ (⟨δ,16,none⟩:Addr) ps:=by
  have:=aB.drop σ.cells 16
  rwa[Addr.add_lit,oh,h.drop]at this
 refine⟨ps.toArray,by rw[fP];exact h.dN,ah,?_⟩;unfold la.bb;refine⟨λt3 t10 t11 w'=>t3=some B/\ps.toArray=t10/\0<=t11/\t11<=8/\mq w' B B (t11.toNat*1000) (gK ((R.take t11.toNat).flatMap qW)) (mH (R.take t11.toNat))/\Kp υ w' (λi=>B<=i),λt3 t10 t11 w'=>(8-t11).toNat,⟨rfl,rfl,by omega,by omega,m0,Kp.refl _ _⟩,?_⟩;rintro _ _ t11 w' ⟨rfl,rfl,aF,dD,mR,J⟩;unfold la.δ;obtain⟨k,rfl⟩:=eF aF;rw[ch]at mR;have fin:∀{w':World},Kp υ w' (λi=>B<=i)->η w w':=λJ=>(θ.trans ρ).then J λi τ=>by omega
 refine bt (λbQ=>?_) (λbQ=>?_)
 ·have bQ:=b6 bQ;have hk:k<8:=by omega
  obtain⟨e,he⟩:=h.get hk;obtain⟨p,c,hp,FV⟩:=l4 k e he;have lG:=(FV.ex θ).ex ρ;obtain⟨dJ,ak,_,_⟩:=h.ok e (fa he);refine bU (bI aF) (bU (bI bQ) ?_);rw[ch,eS];have gA:ps.toArray[k]?=some (.slice p e.2.2.length c):=by rw[List.getElem?_toArray];exact hp
  rw[gA]
  try dsimp only[bo,ee]
  unfold la.eZ;refine⟨λt3 t4 t10 t11 tC tB wj t16 t17 w'=>t3=some B/\ps.toArray=t10/\(k:Int)=t4/\(k:Int)=t11/\p=tC/\e.2.2.length=tB/\c=wj/\(e.2.2.length:Int)=t16/\0<=t17/\t17<=e.2.2.length/\mq w' B B (k*1000+t17.toNat) (gK ((R.take k).flatMap qW++(e.2.2.take t17.toNat).filterMap id)) (λy=>mH (R.take k) y++pv (k:Int) (e.2.2.take t17.toNat) y)/\Kp υ w' (λi=>B<=i),
   λt3 t4 t10 t11 tC tB wj t16 t17 w'=>(e.2.2.length-t17).toNat,⟨rfl,rfl,rfl,rfl,rfl,rfl,rfl,rfl,by omega,by omega,?_,J⟩,?_⟩
  ·have:(R.take k).flatMap qW++(e.2.2.take (0:Int).toNat).filterMap id=(R.take k).flatMap qW:=by simp
   rw[this];have bm:(λy=>mH (R.take k) y++pv (k:Int) (e.2.2.take (0:Int).toNat) y)=mH (R.take k):=funext λy=>by simp[pv]
   rw[bm];exact mR.mono (Nat.le_add_right _ _)
  clear mR J;rintro _ _ _ _ _ _ _ _ t17 w' ⟨rfl,rfl,rfl,rfl,rfl,rfl,rfl,rfl,i0,i1,mR,J⟩;unfold la.ζ;obtain⟨j,rfl⟩:=eF i0;rw[ch]at mR;have FM:B<=w'.heap.size:=by have:=J.size;omega
  refine bt (λπ=>?_) (λπ=>?_)
  ·have π:=b6 π;have ψ:j<e.2.2.length:=by omega
   have zP:bd w' p (e.2.2.map et):=by
    have:=lG.aO J (λa aR τ=>by subst aR;have h1:=Pg (FV.cell (j:=j) (by rw[jM];exact ψ));rw[zv]at h1;omega)
    exact this
   obtain⟨a,rfl,r⟩:=GO zP ψ;have aH:=dJ _ (hP ψ);refine bU (bI i0) (bU (bI π) ?_)
   try dsimp only[bo]
   rw[ch,eS];refine⟨_,_,r,?_⟩;rw[empty_eq aH];have l2:IntKind.i64.wrap ((j:Int)+1)=((j+1:Nat):Int):=by rw[bS (by omega) (by omega)];rfl
   have kg:((j+1:Nat):Int).toNat=j+1:=rfl;cases s8:e.2.2[j]with
   |none=>
    rw[cond_neg (by rfl),l2];refine⟨⟨rfl,rfl,rfl,rfl,rfl,rfl,rfl,rfl,by omega,by omega,?_,J⟩,by((try dsimp only);omega)⟩;rw[kg,St ψ,s8]
    have:[(none:eK)].filterMap id=[]:=rfl
    rw[this,qi];have bm:(λy=>mH (R.take k) y++pv (k:Int) (e.2.2.take (j+1)) y)=λy=>mH (R.take k) y++pv (k:Int) (e.2.2.take j) y:=funext λy=>by rw[afi _ ψ,s8];simp
    rw[bm];exact mR.mono (by omega)
   |some x=>
    rw[s8]at aH;rw[cond_pos (by rfl)];refine mR.step (xk _) (by omega) FM aH (λy ag=>afv h.ok he j y ((kv _ _).1 ag)) (λar=>?_) k j λaZ eD m6=>?_
    ·have ar:=λea=>ar ((kv _ _).2 ea);rw[iC]at ar;have aw:mH (R.take k) x=[]:=XA λea=>ar (.inl ea);have a2:pv (k:Int) (e.2.2.take j) x=[]:=afj λea=>ar (.inr ea);show mH (R.take k) x++pv (k:Int) (e.2.2.take (j:Int).toNat) x=[];rw[ch,aw,a2];rfl
    rw[l2];refine⟨⟨rfl,rfl,rfl,rfl,rfl,rfl,rfl,rfl,by omega,by omega,?_,J.gL eD⟩,by((try dsimp only);omega)⟩;rw[kg,St ψ,s8]
    have:[(some x:eK)].filterMap id=[x]:=rfl
    rw[this,<-nc,QV];have bm:(λy=>mH (R.take k) y++pv (k:Int) (e.2.2.take (j+1)) y)=λy=>if y=x then(mH (R.take k) x++pv (k:Int) (e.2.2.take j) x)++[.int .i64 (k:Int),.int .i64 (j:Int)]else mH (R.take k) y++pv (k:Int) (e.2.2.take j) y:=funext λy=>by
     rw[afi _ ψ,s8];by_cases ag:y=x
     ·subst ag;simp
     ·rw[aL ag,aL (λe=>ag (Cd e).symm),qi]
    rw[bm];exact m6.mono (by omega)
  ·have π:=dn π;have ψ:j=e.2.2.length:=by omega
   rw[Ij hk];refine⟨⟨rfl,rfl,by omega,by omega,?_,J⟩,by((try dsimp only);omega)⟩;have kg:((k+1:Nat):Int).toNat=k+1:=rfl;rw[kg,ag4 he];rw[ψ,Cb]at mR;have bm:mH (R.take (k+1))=λy=>mH (R.take k) y++pv (k:Int) e.2.2 y:=funext λy=>atv he y;rw[bm];exact mR.mono (by omega)
 ·have bQ:=dn bQ;obtain rfl:k=8:=by omega
  have Bk:R.take 8=R:=hR (by rw[h.len];omega);have kg:((8:Nat):Int).toNat=8:=rfl;rw[Bk]at mR;exact ω.mk ⟨B,B,rfl,by omega,mR,fin J⟩
open Go.Shelf Go.Sort
def avy:Go.Shelf.Ren:=⟨λ|6=>166|15=>186|14=>185|28=>204|29=>205|20=>196|21=>197|22=>198|23=>199|24=>200|25=>201|26=>202|27=>203|46=>207|47=>208|48=>209|49=>210|50=>211|57=>212|n=>n,λ|22=>86|24=>113|25=>261|3=>3|39=>42|0=>0|53=>227|55=>285|4=>4|46=>290|45=>289|50=>182|5=>5|9=>9|66=>298|70=>302|76=>304|77=>305|n=>n,λ|n=>n⟩
theorem agE:Go.Proofs.SlLaysF.n6 prog avy:={
 mixed:=by kernel_rfl
 f6:=⟨ "slices.SortFunc[[]complex128,complex128]",by decide,func166.trans (hr some (by kernel_rfl))⟩
 f14:=⟨ "slices.pdqsortCmpFunc[complex128]",by decide,func185.trans (hr some (by kernel_rfl))⟩
 f15:=func186.trans (hr some (by kernel_rfl))
 f20:=⟨ "slices.insertionSortCmpFunc[complex128]",by decide,func196.trans (hr some (by kernel_rfl))⟩
 f21:=⟨ "slices.heapSortCmpFunc[complex128]",by decide,func197.trans (hr some (by kernel_rfl))⟩
 f22:=⟨ "slices.breakPatternsCmpFunc[complex128]",by decide,func198.trans (hr some (by kernel_rfl))⟩
 f23:=⟨ "slices.choosePivotCmpFunc[complex128]",by decide,func199.trans (hr some (by kernel_rfl))⟩
 f24:=⟨ "slices.reverseRangeCmpFunc[complex128]",by decide,func200.trans (hr some (by kernel_rfl))⟩
 f25:=⟨ "slices.partialInsertionSortCmpFunc[complex128]",by decide,func201.trans (hr some (by kernel_rfl))⟩
 f26:=⟨ "slices.partitionEqualCmpFunc[complex128]",by decide,func202.trans (hr some (by kernel_rfl))⟩
 f27:=⟨ "slices.partitionCmpFunc[complex128]",by decide,func203.trans (hr some (by kernel_rfl))⟩
 f28:=func204.trans (hr some (by kernel_rfl))
 f29:=func205.trans (hr some (by kernel_rfl))
 f46:=⟨ "slices.siftDownCmpFunc[complex128]",by decide,func207.trans (hr some (by kernel_rfl))⟩
 f47:=func208.trans (hr some (by kernel_rfl))
 f48:=func209.trans (hr some (by kernel_rfl))
 f49:=⟨ "slices.medianAdjacentCmpFunc[complex128]",by decide,func210.trans (hr some (by kernel_rfl))⟩
 f50:=⟨ "slices.medianCmpFunc[complex128]",by decide,func211.trans (hr some (by kernel_rfl))⟩
 f57:=⟨ "slices.order2CmpFunc[complex128]",by decide,func212.trans (hr some (by kernel_rfl))⟩
 t0:=underlying0
 a0:=isAgg0
 z0:=sizeOf0
 v0:=zeroValue0
 t3:=underlying3
 a3:=isAgg3
 z3:=sizeOf3
 v3:=zeroValue3
 t4:=underlying4
 a4:=isAgg4
 z4:=sizeOf4
 v4:=zeroValue4
 t5:=underlying5
 a5:=isAgg5
 z5:=sizeOf5
 v5:=zeroValue5
 t9:=underlying9
 a9:=isAgg9
 z9:=sizeOf9
 v9:=zeroValue9
 t22:=underlying86
 a22:=isAgg86
 z22:=sizeOf86
 v22:=zeroValue86
 a24:=isAgg113
 z24:=sizeOf113
 t25:=underlying261
 a25:=isAgg261
 z25:=sizeOf261
 v25:=zeroValue261
 t39:=underlying42
 a39:=isAgg42
 z39:=sizeOf42
 v39:=zeroValue42
 t45:=underlying289
 a45:=isAgg289
 z45:=sizeOf289
 v45:=zeroValue289
 t46:=underlying290
 a46:=isAgg290
 z46:=sizeOf290
 v46:=zeroValue290
 t50:=underlying182
 a50:=isAgg182
 z50:=sizeOf182
 v50:=zeroValue182
 t53:=underlying227
 a53:=isAgg227
 z53:=sizeOf227
 v53:=zeroValue227
 t55:=underlying285
 a55:=isAgg285
 z55:=sizeOf285
 v55:=zeroValue285
 t66:=underlying298
 a66:=isAgg298
 z66:=sizeOf298
 v66:=zeroValue298
 t70:=underlying302
 a70:=isAgg302
 z70:=sizeOf302
 v70:=zeroValue302
 t76:=underlying304
 a76:=isAgg304
 z76:=sizeOf304
 v76:=zeroValue304
 t77:=underlying305
 a77:=isAgg305
 z77:=sizeOf305
 v77:=zeroValue305}
def IC(a b:Nat):Int:=if a<b then-1 else if b<a then 1 else 0
theorem aeH:∀a b:_root_.Fin 24,eQ .lss (kx a.val) (kx b.val)=decide (a.val<b.val)/\eQ .gtr (kx a.val) (kx b.val)=decide (b.val<a.val)/\eQ .neq (kx a.val) (kx a.val)=false:=by decide+kernel
theorem ZN{a:Nat}(aR:a<24)(w:World):E9.C (kx a) w (ω λv w'=>v=.bool false/\w'=w):=by apply E9.ok;unfold E9.main;exact ω.mk ⟨by rw[(aeH ⟨a,aR⟩ ⟨a,aR⟩).2.2],rfl⟩
theorem Zo{a b:Nat}(aR:a<24)(τ:b<24)(w:World):E7.C (kx a) (kx b) w (ω λv w'=>v=.int .i64 (IC a b)/\w'=w):=by
 apply E7.ok;unfold E7.main;obtain⟨h1,ι,-⟩:=aeH ⟨a,aR⟩ ⟨b,τ⟩;refine κ.use (ZN aR w) ?_;rintro _ ε ⟨rfl,aP⟩;obtain rfl:=aP.symm
 try dsimp only[dX,jz]
 refine κ.use (ZN τ _) ?_;rintro _ υ ⟨rfl,bM⟩;obtain rfl:=bM.symm
 try dsimp only[dX,jz]
 dsimp only at h1 ι;rw[h1,ι];unfold IC;refine bt (λh=>?_) (λh=>bt (λe2=>?_) (λe2=>?_))
 ·exact ω.mk ⟨by rw[aN (b6 h)],rfl⟩
 ·exact ω.mk ⟨by rw[aL (dn h),aN (b6 e2)],rfl⟩
 ·exact ω.mk ⟨by rw[aL (dn h),aL (dn e2)],rfl⟩
theorem akO{w:World}{b:Nat}{x y:Int}(π:bd w (some ⟨b,0,none⟩) [.int .i64 x,.int .i64 y]):ub.C (some ⟨b,0,none⟩) 2 2 w (ω λv w'=>v=.int .i64 (if x≠0 then x else y)/\w'=w):=by
 apply ub.ok;unfold ub.main ub.bb;have fN:w.cell? (⟨b,0,none⟩:Addr)=some (.int .i64 x):=π.cell (j:=0) (by simp);have c1:w.cell? (⟨b,1,none⟩:Addr)=some (.int .i64 y):=π.cell (j:=1) (by simp);refine⟨λt3 lo ky mL t7 t8 w'=>0=t3/\some ⟨b,0,none⟩=lo/\2=ky/\(2:Int)=t7/\w=w'/\(t8=0\/(t8=1/\x=0)\/(t8=2/\x=0/\y=0)),λ_ _ _ _ _ t8 _=>(2-t8).toNat,⟨rfl,rfl,rfl,rfl,rfl,.inl rfl⟩,?_⟩;rintro _ _ _ mL _ t8 w' ⟨rfl,rfl,rfl,rfl,rfl,h⟩;unfold ub.δ;rcases h with rfl|⟨rfl,J⟩|⟨rfl,J,ag⟩
 ·rw[cond_pos (by decide)];refine bU (by decide) (bU (by decide) ?_)
  try dsimp only[bo]
  refine⟨x,fN,?_⟩;by_cases J:x=0
  ·rw[cond_neg (by simp[J])];exact⟨⟨rfl,rfl,rfl,rfl,rfl,.inr (.inl ⟨by decide,J⟩)⟩,by decide⟩
  ·rw[cond_pos (by simpa using J)];exact ω.mk ⟨by rw[aN J],rfl⟩
 ·rw[cond_pos (by decide)];refine bU (by decide) (bU (by decide) ?_)
  try dsimp only[bo]
  refine⟨y,c1,?_⟩;by_cases ag:y=0
  ·rw[cond_neg (by simp[ag])];exact⟨⟨rfl,rfl,rfl,rfl,rfl,.inr (.inr ⟨by decide,J,ag⟩)⟩,by decide⟩
  ·rw[cond_pos (by simpa using ag)];exact ω.mk ⟨by rw[aL (by simpa using J)],rfl⟩
 ·rw[cond_neg (by decide)];exact ω.mk ⟨by rw[aL (by simpa using J),ag],rfl⟩
abbrev xR:=_root_.Fin 24×_root_.Fin 16
def pT(x:xR):Value:=et (some (x.1.val,x.2.val))
def GJ(x y:xR):Int:=if IC x.1.val y.1.val≠0 then IC x.1.val y.1.val else IC x.2.val y.2.val
theorem akP(x y:xR)(w:World):EJ.C (kx x.1.val) (kx x.2.val) (kx y.1.val) (kx y.2.val) w (ω λv w'=>v=.int .i64 (GJ x y)/\∃o,w'=w.alloc o):=by
 apply EJ.ok;unfold EJ.main;have aw:=x.1.isLt;have a2:=x.2.isLt;have δ:=y.1.isLt;have ζ:=y.2.isLt;refine κ.use (Zo (a:=x.1.val) (b:=y.1.val) aw δ w) ?_;rintro _ ε ⟨rfl,aP⟩;obtain rfl:=aP.symm
 try dsimp only[bL]
 refine κ.use (Zo (a:=x.2.val) (b:=y.2.val) (by omega) (by omega) _) ?_;rintro _ υ ⟨rfl,bM⟩;obtain rfl:=bM.symm
 try dsimp only[bL]
 rintro b an rfl rfl;refine κ.use (akO (bd.alloc _ cz)) ?_;rintro _ aZ ⟨rfl,rh⟩;obtain rfl:=rh.symm
 try dsimp only[bL]
 exact ω.mk ⟨rfl,_,rfl⟩
theorem Q7(x y:xR):ltOf GJ x y=decide (x.1.val<y.1.val\/x.1.val=y.1.val/\x.2.val<y.2.val):=by unfold ltOf GJ IC;split<;>split<;>(try split)<;>(apply decide_eq_decide.2)<;>omega
theorem atm:SWO (ltOf GJ)where
 irrefl x:=by rw[Q7];simp
 trans x y z h1 ι:=by rw[Q7]at*;simp only[qI]at*;omega
 ntrans x y z h1 ι:=by rw[Q7]at*;simp only[Ni]at*;omega
theorem aos(w:World)(o:Obj):grow w #[o]=w.alloc o:=by unfold grow World.alloc;congr 1
theorem atn(cA off n:Nat)(w:World):CmpLays1 prog 167 #[] pT GJ cA off n w:=λm os ayY ab x y=>
 (akP x y _).mono λe w'⟨v,he,az,o,aG⟩=>⟨by rw[he,az],0,#[o],by rw[aG,aos];rfl⟩
theorem anH:∀args w,(callFunc 167 args).run prog w=.ok (.enter 167 args) w:=enters_of func167 (by kernel_rfl) rfl
theorem avu{w:World}{b:Nat}{cur:aj}{e:TypeId}{fr:Nat×Nat}{d':Array xR}{n:Nat}{os:Array Obj}(h:w.heap[b]?=some (.cells cur e fr)):
  (sortWorld pT w b 0 n d' os).heap[b]?=some (.cells (putCells pT 0 d' cur) e fr)/\Kp w (sortWorld pT w b 0 n d' os) λi=>i=b:=by
 have τ:b<w.heap.size:=(Array.getElem?_eq_some_iff.1 h).1;have ab:(putRow pT (Sort.ahead w n) b 0 d').heap.size=w.heap.size:=by simp[putRow,mapBlock,Sort.ahead]
 refine⟨?_,rfl,rfl,rfl,?_,λi I b1=>?_⟩
 ·show((putRow pT (Sort.ahead w n) b 0 d').heap++os)[b]?=_;rw[Array.getElem?_append_left (by omega)];show(w.heap.modify b _)[b]?=_;rw[Array.getElem?_modify,aN rfl,h];rfl
 ·show w.heap.size<=((putRow pT (Sort.ahead w n) b 0 d').heap++os).size;rw[Nq];omega
 ·show((putRow pT (Sort.ahead w n) b 0 d').heap++os)[i]?=_;rw[Array.getElem?_append_left (by omega)];show(w.heap.modify b _)[i]?=_;rw[Array.getElem?_modify,aL (λh=>b1 h.symm)]
theorem at9(d':Array xR)(cur:aj)(h:d'.size<=cur.size):(putCells pT 0 d' cur).toList.take d'.size=d'.toList.map pT:=by
 apply rL;intro i;rw[List.getElem?_take,List.getElem?_map,Array.getElem?_toList,Array.getElem?_toList];unfold putCells;rw[Array.getElem?_mapIdx];by_cases I:i<d'.size
 ·rw[aN I,Array.getElem?_eq_getElem (by omega),jB,aN ⟨eR _,by omega⟩,Array.getElem?_eq_getElem I,Nat.sub_zero,getElem!_pos d' i I];rfl
 ·rw[aL I,Array.getElem?_eq_none (by omega)];rfl
abbrev Z1(p:γ)(n c:Nat)(w:World)(R:au):Prop:=Calls prog 166 #[.slice p n c,.func (.func 167) #[] #[]] w R
theorem alf{w:World}{B b n c:Nat}{l:List xR}(o:μ w B eT 1 (some ⟨b,0,none⟩) n c (l.map pT))(ar:n<=1000000):Z1 (some ⟨b,0,none⟩) n c w (ω λv w'=>v=.tuple #[]/\∃mF:List xR,mF.Perm l/\mF.Pairwise (λx y=>ltOf GJ y x=false)/\μ w' B eT 1 (some ⟨b,0,none⟩) n c (mF.map pT)/\Kp w w' λi=>i=b):=by
 have ak:l.length=n:=by have:=o.1;simpa using this
 have bQ:=(o.typed rfl).2.2;obtain⟨_,qE,⟨h,_⟩|⟨gg,cur,fr,h2,eh,τ,jZ,π,J⟩⟩:=o
 ·cases h
 cases h2;have eV:l.toArray.size=n:=by simpa using ak
 have vH:n<=cur.size:=by omega
 have hH:Holds pT w b 0 l.toArray:=λj ψ=>by
  have ff:j<l.length:=by simpa using ψ
  refine⟨?_,?_⟩
  ·rw[oh,cell_of_block τ,<-Array.getElem?_toList,getElem!_pos l.toArray j ψ];have ι:(cur.toList.take (n*1))[j]?=some (pT l[j]):=by rw[J,List.getElem?_map,List.getElem?_eq_getElem ff];rfl
   rw[List.getElem?_take,aN (by omega)]at ι;rw[ι];simp
  ·rw[Lr τ];rcases jZ with h|h
   ·simp;omega
   ·simp;omega
 have acW:=Any.slices_SortFunc agE pT (λ_=>rfl) GJ atm 167 #[] b 0 c l.toArray w anH (atn b 0 _ w) hH bQ (by omega);rw[eV]at acW;refine Calls.mono acW λe w'⟨he,d',k,os,hp,ab,hw⟩=>?_;obtain⟨eG,hk⟩:=avu (d':=d') (n:=k) (os:=os) τ;subst hw;have ah:d'.size=n:=by rw[hp.1,eV]
 have aqD:d'.toList.Perm l:=by
  have:=hp.2.2
  rwa[Array.extract_eq_self_of_le (by omega),Array.extract_eq_self_of_le (by omega)]at this
 refine⟨_,he,rfl,d'.toList,aqD,?_,⟨by simp[ah],qE,.inr ⟨b,_,fr,rfl,eh,eG,?_,?_,?_⟩⟩,hk⟩
 ·rw[DX];intro i j I ψ F2
  have:=ab i j (eR _) F2 (by simpa[ah]using ψ)
  rw[getElem!_pos d' i (by simpa using I),getElem!_pos d' j (by simpa using ψ)]at this;simpa using this
 ·have:(putCells pT 0 d' cur).size=cur.size:=by simp[putCells]
  rw[this];exact jZ
 ·have:(putCells pT 0 d' cur).size=cur.size:=by simp[putCells]
  rw[this];exact π
 ·rw[eS,<-ah];exact at9 d' cur (by omega)
theorem aj0{w:World}{p:γ}{n c:Nat}{U:List (Nat×Nat)}(π:bd w p (dN U))(ar:U.length=n)(ak:n<=1000000)(aG:∀x∈U,hg x)(ah:U.Nodup):oo.C p n c w (ω λv w'=>v=.slice p n c/\η w w'):=by
 apply oo.ok;unfold oo.main;refine bt (λh=>ω.mk ⟨rfl,η.refl w⟩) (λh=>?_);have ι:=dn h;unfold oo.bb;refine⟨λcy cp cG t3 w'=>p=cy/\n=cp/\c=cG/\1<=t3/\t3<=n/\η w w',λ_ _ _ t3 _=>(n-t3).toNat,⟨rfl,rfl,rfl,by omega,by omega,η.refl w⟩,?_⟩;rintro _ _ _ t3 w' ⟨rfl,rfl,rfl,h1,aJ,J⟩;unfold oo.δ;obtain⟨k,rfl⟩:=eF (show 0<=t3 by omega);refine bt (λhk=>?_) (λhk=>ω.mk ⟨rfl,J⟩);have hk:=b6 hk;have zP:=π.ex J;obtain⟨j,rfl⟩:=Nat.exists_eq_succ_of_ne_zero (show k≠0 by omega);have yp:j+1<U.length:=by omega
 have F3:j<U.length:=by omega
 have aP:(dN U)[j+1]?=some (et (some U[j+1])):=by unfold dN;rw[List.getElem?_map,List.getElem?_eq_getElem yp];rfl
 have hB:(dN U)[j]?=some (et (some U[j])):=by unfold dN;rw[List.getElem?_map,List.getElem?_eq_getElem F3];rfl
 obtain⟨a,aR,cM⟩:=zP.many aP;obtain⟨fL,Bt,lj⟩:=zP.many hB;rw[aR]at Bt;cases Bt;refine bU (bI (by omega)) (bU (bI (by omega)) ?_);have i1:(((j+1:Nat):Int).toNat*1)=j+1:=by omega
 have i0:((j:Int).toNat*1)=j:=by omega
 refine hh aR ⟨eX (some U[j+1]),e5 (some U[j+1]),?_,?_⟩
 ·show w'.cell? (a.add (((j+1:Nat):Int).toNat*1))=_;rw[i1];exact cM
 have bM:IntKind.i64.wrap (((Nat.succ j:Nat):Int)-1)=(j:Int):=by rw[bS (by omega) (by omega)];omega
 rw[bM];refine bU (bI (by omega)) (bU (bI (by omega)) ?_);refine hh aR ⟨eX (some U[j]),e5 (some U[j]),by rw[i0];exact lj,λaV=>?_⟩;have b1:U[j+1]≠U[j]:=λe=>by
  have:=(DX.1 ah) j (j+1) F3 yp (by omega)
  exact this e.symm
 rw[Dz (aG _ (hP yp)) (aG _ (hP F3)) b1];rw[cond_neg rfl,bS (x:=((Nat.succ j:Nat):Int)+1) (by omega) (by omega)];exact⟨⟨rfl,rfl,rfl,by omega,by omega,J.trans (η.drewN w' aV)⟩,by((try dsimp only);omega)⟩
theorem ajY{w:World}{p:γ}{n c:Nat}(ar:n<=c):Hu.C p n c w (ω λv w'=>v=.slice p n n/\w'=w):=by apply Hu.ok;unfold Hu.main;refine bU (bI (by omega)) (bU (bI (by omega)) (bU (bI (by omega)) (bU (bI (by omega)) ?_)));rw[J9];exact ω.mk ⟨rfl,rfl⟩
def CL:List (Nat×Nat):=(List.range 24).flatMap λa=>(List.range 16).map λb=>(a,b)
def lays(U:List (Nat×Nat)):List (Nat×Nat):=CL.filter λx=>decide (x∈U)
def BQ(x y:Nat×Nat):Prop:=x.1<y.1\/x.1=y.1/\x.2<y.2
instance(x y:Nat×Nat):Decidable (BQ x y):=by unfold BQ;infer_instance
theorem alV:CL.Pairwise BQ:=by decide+kernel
theorem asl{x:Nat×Nat}:x∈CL↔hg x:=by obtain⟨a,b⟩:=x;unfold CL hg;simp[qk,gx,lh]
theorem aea(U:List (Nat×Nat)):(lays U).Pairwise BQ:=alV.filter _
theorem Js{U:List (Nat×Nat)}(aG:∀x∈U,hg x){x:Nat×Nat}:x∈lays U↔x∈U:=by unfold lays;rw[nN,asl];exact⟨λh=>b6 h.2,λh=>⟨aG x h,bI h⟩⟩
theorem ME(U:List (Nat×Nat)):(lays U).Nodup:=(aea U).imp λh e=>by subst e;unfold BQ at h;omega
theorem ad9{U:List (Nat×Nat)}(aG:∀x∈U,hg x)(ah:U.Nodup):(lays U).Perm U:=(List.perm_ext_iff_of_nodup (ME U) ah).2 λx=>Js aG
theorem arT{U V:List (Nat×Nat)}(aG:∀x∈U,hg x)(ah:U.Nodup)(hp:V.Perm U)(ab:V.Pairwise λx y=>¬BQ y x):V=lays U:=
 List.Perm.eq_of_pairwise (le:=λx y=>¬BQ y x) (λa b _ _ h1 ι=>by
  obtain⟨aw,a2⟩:=a;obtain⟨δ,ζ⟩:=b;unfold BQ at h1 ι;have aP:aw=δ:=by dsimp only at h1 ι;omega
  have bM:a2=ζ:=by dsimp only at h1 ι;omega
  rw[aP,bM]) ab ((aea U).imp λ{x y}h e2=>by unfold BQ at h e2;omega) (hp.trans (ad9 aG ah).symm)
theorem Jl{U:List (Nat×Nat)}(aG:∀x∈U,hg x)(ah:U.Nodup):(lays U).length=U.length:=(ad9 aG ah).length_eq
def aiT(x:Nat×Nat):xR:=(⟨x.1%24,Nat.mod_lt _ (by decide)⟩,⟨x.2%16,Nat.mod_lt _ (by decide)⟩)
def Q3(f:xR):Nat×Nat:=(f.1.val,f.2.val)
theorem ae6{x:Nat×Nat}(h:hg x):Q3 (aiT x)=x:=by show(x.1%24,x.2%16)=x;rw[Nl h.1,Nl h.2]
theorem afC(l:List xR):dN (l.map Q3)=l.map pT:=by unfold dN;rw[DV];rfl
theorem atY{U:List (Nat×Nat)}(aG:∀x∈U,hg x):(U.map aiT).map pT=dN U:=by rw[<-afC,DV];congr 1;exact(DW λx J=>ae6 (aG x J)).trans (List.map_id U)
theorem aaq:∀a:_root_.Fin 24,vq (kx a.val) 0=some (kx a.val):=by decide+kernel
theorem Zk(p:γ)(n c:Nat)(xs:aY)(w:World)(π:bd w p xs)(ak:xs.length=n)(ar:n<=1000000000000)(h1:∀y∈xs,y.oneCell'=true):
  Hv.C p n c w (ω λv w'=>∃b5 aW,v=.slice b5 n aW/\η w w'/\μ w' w.heap.size eT 1 b5 n aW xs):=by
 apply Hv.ok;unfold Hv.main;cases p with
 |none=>
  have:xs=[]:=π
  subst this
  have:n=0:=by simpa using ak.symm
  subst this
  try dsimp only[Lh,C0]
  exact ω.mk ⟨none,0,rfl,η.refl w,μ.nil _ _ _ _⟩
 |some a=>
  try dsimp only[nD,jz]
  rintro δ ε rfl rfl;have aG:=μ.alloc (w:=w) [] eT 1 0 rfl;have J:=η.alloc w (.cells #[] eT);refine mx aG (by have:=J.size;exact this) xs (bd.ex J π) (by omega) h1 rfl (by omega) (by omega) (λb5 aW w' kf hk=>?_);rw[oh]at kf⊢;rw[uJ]at kf;exact ω.mk ⟨b5,aW,rfl,J.then hk (λi⟨x,e,I⟩=>by cases e;exact JK I),kf⟩
theorem alg{w0 w:World}{p:γ}{n c:Nat}{U:List (Nat×Nat)}(J:η w0 w)(o:μ w w0.heap.size eT 1 p n c (dN U))(ak:n<=4096)(aG:∀x∈U,hg x)(ah:U.Nodup):
  pO.aV p n c w (ω λv w'=>∃q d,v=.tuple #[.slice q n d,.int .i64 0]/\η w0 w'/\μ w' w0.heap.size eT 1 q n d (dN (lays U))):=by
 unfold pO.aV;have acC:U.length=n:=by have:=o.1;rw[Ap,eS]at this;exact this
 have qE:n<=c:=o.2.1
 have key:∀w',η w0 w'->μ w' w0.heap.size eT 1 p n c (dN (lays U))->κ prog 169 #[.slice p n c] w' (λv4 bV=>cX v4 λaX bu c2=>
   κ prog 168 #[.slice aX bu c2] bV (λv5 c4=>cX v5 λbj dU bP=>ω (λv w'=>∃q d,v=.tuple #[.slice q n d,.int .i64 0]/\η w0 w'/\μ w' w0.heap.size eT 1 q n d (dN (lays U))) (.returned (.tuple #[.slice bj dU bP,.int .i64 0])) c4)
    λdg cd=>ω (λv w'=>∃q d,v=.tuple #[.slice q n d,.int .i64 0]/\η w0 w'/\μ w' w0.heap.size eT 1 q n d (dN (lays U))) (.panicked dg) cd)
   λdg bW=>ω (λv w'=>∃q d,v=.tuple #[.slice q n d,.int .i64 0]/\η w0 w'/\μ w' w0.heap.size eT 1 q n d (dN (lays U))) (.panicked dg) bW:=λw' mX ib=>by
  refine κ.use (aj0 ib.cells ((Jl aG ah).trans acC) (by omega) (λx h=>aG x ((Js aG).1 h)) (ME U)) ?_;rintro _ ε ⟨rfl,θ⟩
  try dsimp only[ee]
  refine κ.use (ajY qE) ?_;rintro _ υ ⟨rfl,bM⟩;obtain rfl:=bM.symm
  try dsimp only[ee]
  refine ω.mk ⟨p,n,rfl,mX.trans θ,?_⟩;obtain⟨aV,bK,b4⟩:=ib.ex θ;refine⟨aV,dO _,?_⟩;rcases b4 with⟨h,aF⟩|⟨b,cur,fr,h,eh,τ,jZ,π,iB⟩
  ·exact .inl ⟨h,by omega⟩
  ·exact .inr ⟨b,cur,fr,h,eh,τ,jZ,by omega,iB⟩
 cases p with
 |none=>
  have V4:n=0:=by
   obtain⟨_,_,⟨_,h⟩|⟨_,_,_,h,_⟩⟩:=o
   ·omega
   ·cases h
  subst V4;have jF:U=[]:=tu acC;subst jF;have ab:Z1 none 0 c w (ω λv w'=>v=.tuple #[]/\w'=w):=Calls.mono (AnyF.slices_SortFunc_none {agE with} none c (.func (.func 167) #[] #[]) w) λe w' h=>⟨_,h.1,rfl,h.2⟩;refine κ.use ab ?_;rintro _ w' ⟨rfl,aP⟩;obtain rfl:=aP.symm
  try dsimp only[ca]
  have hB:lays []=[]:=RB.2 λx _=>by simp
  exact key _ J (by rw[hB];exact o)
 |some a=>
  obtain⟨b,rfl⟩:∃b,a=⟨b,0,none⟩:=by
   obtain⟨_,_,⟨h,_⟩|⟨b,_,_,h,_⟩⟩:=o
   ·cases h
   ·cases h;exact⟨b,rfl⟩
  rw[<-atY aG]at o;refine κ.use (alf o (by omega)) ?_;rintro _ w' ⟨rfl,mF,hp,ab,ib,k'⟩
  try dsimp only[ca]
  have k7:mF.map Q3=lays U:=by
   refine arT aG ah ?_ ?_
   ·have:=hp.map Q3
    rw[DV]at this;refine this.trans (List.Perm.of_eq ?_);exact(DW λx J=>ae6 (aG x J)).trans (List.map_id U)
   ·rw[List.pairwise_map];refine ab.imp λ{x y}h=>?_;rw[Q7]at h;exact dn h
  rw[<-afC,k7]at ib;exact key _ (J.then k' λi I=>by rw[I];exact(ib.ge rfl).1) ib
theorem alh{w:World}{p:γ}{n c:Nat}{U:List (Nat×Nat)}(π:bd w p (dN U))(ar:U.length=n)(ak:n<=4096)(aG:∀x∈U,hg x)(ah:U.Nodup):
  pO.C p n c w (ω λv w'=>∃q d,v=.tuple #[.slice q n d,.int .i64 0]/\η w w'/\μ w' w.heap.size eT 1 q n d (dN (lays U))):=by
 apply pO.ok;unfold pO.main;rw[cond_neg (iX (by omega))];refine κ.use (Zk p n c (dN U) w π ((Ap U).trans ar) (by omega) (atX U)) ?_;rintro _ ε ⟨ae,c1,rfl,θ,σ⟩
 try dsimp only[ee]
 unfold pO.bb;refine⟨λrT qU wm ir fZ iQ t13 t14 w'=>ae=rT/\n=qU/\c1=wm/\ae=ir/\n=fZ/\(n:Int)=t13/\0<=t14/\t14<=n/\η w w'/\μ w' w.heap.size eT 1 ae n c1 (dN U),λ_ _ _ _ _ _ _ t14 _=>(n-t14).toNat,⟨rfl,rfl,rfl,rfl,rfl,rfl,by omega,by omega,θ,σ⟩,?_⟩;clear σ θ;rintro _ _ _ _ _ iQ _ t14 w' ⟨rfl,rfl,rfl,rfl,rfl,rfl,aF,h1,J,o⟩;unfold pO.δ;obtain⟨k,rfl⟩:=eF aF;refine bt (λhk=>?_) (λhk=>alg J o ak aG ah);have hk:=b6 hk;have pc:k<U.length:=by omega
 have aP:(dN U)[k]?=some (et (some U[k])):=by unfold dN;rw[List.getElem?_map,List.getElem?_eq_getElem pc];rfl
 have dJ:=aG _ (hP pc);refine bU (bI aF) (bU (bI hk) ?_);obtain⟨b,rfl⟩:∃b,ae=some ⟨b,0,none⟩:=by
  obtain⟨_,_,⟨_,h⟩|⟨b,_,_,h,_⟩⟩:=o
  ·omega
  ·exact⟨b,h⟩
 try dsimp only[bo]
 have aR:(⟨b,0,none⟩:Addr).add ((k:Int).toNat*1)=⟨b,k,none⟩:=by rw[Addr.add_lit,ch];simp
 rw[aR];refine⟨eX (some U[k]),e5 (some U[k]),o.at aP,?_⟩;refine κ.use (A8 (some U[k]) dJ w') ?_;rintro _ χ ⟨rfl,gA⟩;obtain rfl:=gA.symm
 try dsimp only[dX]
 rw[show(!(some U[k]:eK).isSome)=false from rfl,xz];refine hh (aaq ⟨U[k].1,dJ.1⟩) (hh (aaq ⟨U[k].2,by have:=dJ.2;omega⟩) ?_);refine bU (bI aF) (bU (bI hk) ?_);refine o.dv (j:=k) (by omega) rfl λan dT cB=>?_;have kF:(dN U).set k (et (some U[k]))=dN U:=by
  apply rL;intro i;rw[List.getElem?_set];split
  ·rename_i h;subst h;rw[aN (by rw[Ap];omega),aP]
  ·rfl
 have Q1:μ an w.heap.size eT 1 (some ⟨b,0,none⟩) n c1 (dN U):=kF▸cB;rw[bS (x:=(k:Int)+1) (by omega) (by omega)];exact⟨⟨rfl,rfl,rfl,rfl,rfl,rfl,by omega,by omega,J.then dT λi I=>by rw[I];exact(Q1.ge rfl).1,Q1⟩,by((try dsimp only);omega)⟩
theorem mq.size{w:World}{B b n:Nat}{cL:List (Nat×Nat)}{f:Nat×Nat->aY}(h:mq w B b n cL f):∃es:Array MapEntry,w.heap[b]?=some (.map es es.size)/\es.size=cL.length:=by
 obtain⟨_,es,ι,aJ,_,_⟩:=h;refine⟨es,ι,?_⟩
 have:=hr List.length aJ
 simpa using this
theorem ZK{w:World}{R:bZ}{ps:aY}(h:iE w R ps)(ab:mv R):GL.C (bT R ps).toArray w (ω λv w'=>v=.tuple #[.int .i64 ((gK (used R)).length:Nat),.int .i64 0]/\η w w'):=by
 apply GL.ok;unfold GL.main;rintro δ ε rfl rfl;have σ:=μ.new (w:=w) (bT R ps) b3;have θ:=η.alloc w (.cells (bT R ps).toArray b3);generalize Vl:w.heap.size=δ at σ⊢;generalize w.alloc (.cells (bT R ps).toArray b3)=ε at σ θ⊢;have h1:=h.ex θ;have hlen:=σ.1;refine⟨(bT R ps).toArray,by simp[bT,BP,h.len,h.dN],σ.cells,?_⟩;refine κ.use (Iv h1) ?_;rintro _ υ ⟨rfl,ρ⟩
 try dsimp only[dX]
 rw[bI ab]
 skip
 refine⟨(bT R ps).toArray,by simp[bT,BP,h.len,h.dN],(σ.ex ρ).cells,?_⟩;refine κ.use (all_map (h1.ex ρ)) ?_;rintro _ ao ⟨B,b,rfl,_,hm,aC⟩
 try dsimp only[Px]
 obtain⟨es,aP,bM⟩:=hm.size;refine⟨es,_,aP,ω.mk ⟨by rw[bM],(θ.trans ρ).trans aC⟩⟩
theorem mq.yF{w w':World}{B b n:Nat}{cL:List (Nat×Nat)}{f:Nat×Nat->aY}(h:mq w B b n cL f){S:bl}(k:Kp w w' S)(τ:¬S b)(eU:∀i,S i->¬Typed w ig i):mq w' B b n cL f:=by obtain⟨h1,es,ι,aJ,cK,dx⟩:=h;have o9:b<w.heap.size:=(Array.getElem?_eq_some_iff.1 ι).1;refine⟨h1,es,by rw[k.block b o9 τ];exact ι,aJ,λi e he=>?_,dx⟩;obtain⟨g1,p,m,c,y,yf,g2,g3,g4⟩:=cK i e he;exact⟨g1,p,m,c,y,yf,g2,g3.aO k λa aR ab=>eU _ ab (g3.typed aR).1,g4⟩
theorem mq.look{w:World}{B b n:Nat}{cL:List (Nat×Nat)}{f:Nat×Nat->aY}(h:mq w B b n cL f)(pZ:∀y∈cL,hg y)(w7:∀y,y∉cL->f y=[]){x:Nat×Nat}(J:hg x){K:Value->Prop}
  (jA:∀p m c,μ w B ig 2 p m c (f x)->K (.slice p m c)):Jo prog w (some b) (eX (some x)) (e5 (some x)) AK (.slice none 0 0) K:=by
 obtain⟨h1,es,ι,aJ,cK,dx⟩:=h;refine⟨XB,b,es,es.size,rfl,ι,?_⟩;have LW:∀(i:Nat)(e:MapEntry),es.toList[i]?=some e->∃y,cL[i]?=some y/\e.key=et (some y):=by
  intro i e he
  have:=hr (λl=>l[i]?) aJ
  rw[List.getElem?_map,List.getElem?_map,he]at this;cases aH:cL[i]?with
  |none=>rw[aH]at this;cases this
  |some y=>rw[aH]at this;exact⟨y,rfl,by simpa using this⟩
 by_cases hm:x∈cL
 ·right;obtain⟨i,I,L7⟩:∃i:Nat,cL[i]?=some x/\∀j:Nat,j<i->cL[j]?≠some x:=by
   obtain⟨i0,VQ⟩:=List.getElem?_of_mem hm
   have:∀m i:Nat,i<=m->cL[i]?=some x->∃i:Nat,cL[i]?=some x/\∀j:Nat,j<i->cL[j]?≠some x:=by
    intro m
    induction m with
    |zero=>intro i I J;exact⟨i,J,λj ψ=>by omega⟩
    |succ m cw=>
     intro i I J;by_cases ψ:∃j,j<i/\cL[j]?=some x
     ·obtain⟨j,ψ,I3⟩:=ψ;exact cw j (by omega) I3
     ·exact⟨i,J,λj h9 I3=>ψ ⟨j,h9,I3⟩⟩
   exact this i0 i0 (dO _) VQ
  have ak:es.toList.length=cL.length:=by
   have:=hr List.length aJ
   simpa using this
  have zW:i<cL.length:=(List.getElem?_eq_some_iff.1 I).1;obtain⟨y,ag,hk⟩:=LW i _ (List.getElem?_eq_getElem (by omega));obtain rfl:y=x:=Cd (ag.symm.trans I);obtain⟨_,p,m,c,xP,Mt,g2,g3,_⟩:=cK i _ (List.getElem?_eq_getElem (by omega:i<es.toList.length));obtain rfl:xP=y:=Cd (Mt.symm.trans I);refine⟨i,_,List.getElem?_eq_getElem (by omega:i<es.toList.length),hk,WN J,λdb ej=>?_,by rw[g2];exact jA p m c g3⟩;obtain⟨j,ψ⟩:=List.getElem?_of_mem ej;have h9:j<i:=by
   have:=(List.getElem?_eq_some_iff.1 ψ).1
   rw[hs]at this;omega
  rw[List.getElem?_take_of_lt h9]at ψ;obtain⟨z,aI,WA⟩:=LW j db ψ;exact⟨eX (some z),e5 (some z),WA,Dz J (pZ z (fa aI)) λe=>L7 j h9 (e▸aI)⟩
 ·left;refine⟨λe he=>?_,jA none 0 0 (by rw[w7 x hm];exact μ.nil _ _ _ _)⟩;obtain⟨j,ψ⟩:=List.getElem?_of_mem he;obtain⟨z,aI,WA⟩:=LW j e ψ;exact⟨eX (some z),e5 (some z),WA,Dz J (pZ z (fa aI)) λe=>hm (e▸fa aI)⟩
theorem MD{U V:List (Nat×Nat)}(h:∀x,x∈U↔x∈V):lays U=lays V:=by
 unfold lays;congr 1
 funext x
 exact decide_eq_decide.2 (h x)
def pick(cL:List (Nat×Nat))(l:List Nat):List (Nat×Nat):=l.map λi=>cL.getD i (0,0)
theorem afy{cL:List (Nat×Nat)}{l:List Nat}(h:∀i∈l,i<cL.length){x:Nat×Nat}(J:x∈pick cL l):x∈cL:=by obtain⟨i,I,rfl⟩:=gx.1 J;rw[List.getD_eq_getElem?_getD,List.getElem?_eq_getElem (h i I)];exact hP _
theorem atL{cL:List (Nat×Nat)}(hk:cL.Nodup){l:List Nat}(h:∀i∈l,i<cL.length)(ah:l.Nodup):(pick cL l).Nodup:=by
 unfold pick;refine G7 _ ?_ (X5 (R:=λa b=>a≠b) (S:=λa b=>cL.getD a (0,0)≠cL.getD b (0,0)) (λ{a b}aR τ um e=>um ?_) ah)
 ·exactλ_ _ h=>h
 ·rw[List.getD_eq_getElem?_getD,List.getD_eq_getElem?_getD,List.getElem?_eq_getElem (h a aR),List.getElem?_eq_getElem (h b τ)]at e;rcases Nat.lt_trichotomy a b with ak|he|ak
  ·exact absurd e ((DX.1 hk) a b (h a aR) (h b τ) ak)
  ·exact he
  ·exact absurd e.symm ((DX.1 hk) b a (h b τ) (h a aR) ak)
structure Iq(w:World)(B b it:Nat)(cL:List (Nat×Nat))(f:Nat×Nat->aY)(l:List Nat):Prop where
 it:w.heap[it]?=some (.mapIter (some b) cL.length l.toArray cL.length)
 l9:l.Nodup
 lt:∀i∈l,i<cL.length
 map:mq w B b 8000 cL f
theorem Iq.ne{w:World}{B b it:Nat}{cL:List (Nat×Nat)}{f:Nat×Nat->aY}{l:List Nat}(h:Iq w B b it cL f l):it≠b:=by rintro rfl;obtain⟨es,he,_⟩:=h.map.size;rw[h.it]at he;cases he
theorem Iq.next{w:World}{B b it:Nat}{cL:List (Nat×Nat)}{f:Nat×Nat->aY}{l:List Nat}(h:Iq w B b it cL f l){OV:Prop}{K:Value->al}
  (aF:(∀i,i<cL.length->i∈l)->OV)(h1:∀i w',i<cL.length->i∉l->Kp w w' (λj=>j=it)->Iq w' B b it cL f (l++[i])->K (et (some (cL.getD i (0,0)))) w'):
  Xb w ⟨it,0,none⟩ OV λe a8=>UC a8 ⟨it,0,none⟩ λv3 v4=>K v3 a8:=by
 have b1:=h.ne;obtain⟨low,es,ι,aJ,cK,dx⟩:=h.map;have ak:es.size=cL.length:=by
  have:=hr List.length aJ
  simpa using this
 have rm:∀(i:Nat)(I:i<es.size),es[i].born=i:=λi I=>(cK i _ (by rw[Array.getElem?_toList];exact Array.getElem?_eq_getElem I)).1;have l1:(es.toList.map (·.born)).Nodup:=by unfold List.Nodup;rw[DX];intro i j I ψ F2;simp only[jM,lL]at I ψ;simp only[List.getElem_map,JT];rw[rm i I,rm j ψ];omega
 refine⟨it,b,cL.length,cL.length,l.toArray,es,es.size,rfl,h.it,ι,λx J=>?_,dO _,λaI=>aF λi I=>?_,λe he ε w' Gf gw=>?_⟩
 ·obtain⟨i,I,rfl⟩:=RD.1 J;rw[lL]at I;rw[JT,rm i I];omega
 ·have lZ:i<es.size:=by omega
  have hle:leftOf es l.toArray=#[]:=Rp aI;unfold leftOf at hle;rw[Array.filter_eq_empty_iff]at hle
  have:=hle es[i] (Array.getElem_mem lZ)
  rw[rm i lZ]at this;simpa using this
 ·unfold leftOf at he;rw[Array.toList_filter,nN]at he;obtain⟨hm,ab⟩:=he;obtain⟨i,I,rfl⟩:=RD.1 hm;rw[lL]at I;rw[JT,rm i I]at ab;have V5:i∉l:=by simpa using ab
  rw[JT,rm i I]at gw;have Dt:η w ε:=by
   rcases Gf with rfl|rfl
   ·exact η.refl _
   ·exact η.drew _
  have ea:ε.heap=w.heap:=by rcases Gf with rfl|rfl<;>rfl
  have bQ:it<ε.heap.size:=by rw[ea];exact(Array.getElem?_eq_some_iff.1 h.it).1
  have aO:=Kp.putObj ε it (.mapIter (some b) cL.length (l.toArray.push i) es.size);rw[<-gw]at aO;have Tf:Kp w w' λj=>j=it:=(Dt.aO _).gL aO;have By:w'.heap[it]?=some (.mapIter (some b) cL.length (l.toArray.push i) es.size):=by rw[gw];exact World.putObj_heap_same bQ
  have mR:mq w' B b 8000 cL f:=h.map.yF Tf (λe=>b1 e.symm) (λj ψ aS=>by obtain⟨c,fr,aS⟩:=aS;rw[ψ,h.it]at aS;cases aS)
  have h2:w'.heap[b]?=some (.map es es.size):=by rw[Tf.block b (Array.getElem?_eq_some_iff.1 ι).1 (λe=>b1 e.symm)];exact ι
  have yq:es.toList[i].key=et (some (cL.getD i (0,0))):=by
   have:=hr (λl=>l[i]?) aJ
   rw[List.getElem?_map,List.getElem?_map,List.getElem?_eq_getElem (by rw[lL];exact I),List.getElem?_eq_getElem (by omega:i<cL.length)]at this;rw[List.getD_eq_getElem?_getD,List.getElem?_eq_getElem (by omega:i<cL.length)];simpa using this
  refine⟨it,b,cL.length,l.toArray,es,es.size,es.toList[i],rfl,?_,h2,hP _,l1,?_⟩
  ·rw[JT,rm i I];exact By
  ·rw[yq];refine h1 i w' (by omega) V5 Tf ⟨?_,?_,?_,mR⟩
   ·rw[By,ak];simp
   ·rw[List.nodup_append];exact⟨h.l9,by simp,λa aR b τ e=>by simp only[ma]at τ;subst τ;subst e;exact V5 aR⟩
   ·intro j ψ;rcases iC.1 ψ with ψ|ψ
    ·exact h.lt j ψ
    ·simp only[ma]at ψ;omega
theorem akQ{w0 w:World}{B b:Nat}{cL:List (Nat×Nat)}{f:Nat×Nat->aY}(J:η w0 w)(hm:mq w B b 8000 cL f)(pZ:∀y∈cL,hg y)(w7:∀y,y∉cL->f y=[])(τ:w0.heap.size<=b)
  {p:γ}{n c:Nat}{V:List (Nat×Nat)}(o:μ w w0.heap.size eT 1 p n c (dN V))(k7:∀x∈V,hg x)(ar:n<=4096){R:au}
  (K:∀fp bu c2 w',η w0 w'->μ w' w0.heap.size eT 1 p n c (dN V)->R (.returned (.tuple #[.slice p n c,.slice fp bu c2,.int .i64 0])) w'):
  kI.eZ (some b) p n c none 0 0 p n c (n:Int) 0 w R:=by
 have azf:V.length=n:=by have:=o.1;rw[Ap,eS]at this;exact this
 unfold kI.eZ;refine⟨λt5 lo ky mL jP iD jC NZ NY Sc t32 t33 w'=>some b=t5/\p=lo/\n=ky/\c=mL/\p=NZ/\n=NY/\c=Sc/\(n:Int)=t32/\0<=t33/\t33<=n/\t33=iD/\η w0 w'/\mq w' B b 8000 cL f/\μ w' w0.heap.size eT 1 p n c (dN V)/\∃ys,μ w' w0.heap.size AK 1 jP iD jC ys,
  λt5 lo ky mL jP iD jC NZ NY Sc t32 t33 w'=>(n-t33).toNat,⟨rfl,rfl,rfl,rfl,rfl,rfl,rfl,rfl,by omega,by omega,rfl,J,hm,o,[],μ.nil _ _ _ _⟩,?_⟩
 clear J hm o;rintro _ _ _ _ jP iD jC _ _ _ _ t33 w' ⟨rfl,rfl,rfl,rfl,rfl,rfl,rfl,rfl,aF,h1,dD,J,hm,o,ys,afl⟩;unfold kI.ζ;obtain⟨k,rfl⟩:=eF aF;refine bt (λhk=>?_) (λhk=>?_)
 ·have hk:=b6 hk;have pc:k<V.length:=by omega
  have aP:(dN V)[k]?=some (et (some V[k])):=by unfold dN;rw[List.getElem?_map,List.getElem?_eq_getElem pc];rfl
  obtain⟨a,aR,r⟩:=o.cells.many aP;refine bU (bI aF) (bU (bI hk) ?_);refine hh aR ⟨eX (some V[k]),e5 (some V[k]),by rw[ch,eS];exact r,?_⟩;refine hm.look pZ w7 (k7 _ (hP pc)) λbj m3 bP bh=>?_
  try dsimp only[ee]
  rintro cu cm rfl rfl;have ay:=η.alloc w' (.cells #[.slice bj m3 bP] AK);have jk:bd (w'.alloc (.cells #[.slice bj m3 bP] AK)) (some ⟨w'.heap.size,0,none⟩) [.slice bj m3 bP]:=bd.alloc _ AK;generalize w'.alloc (.cells #[.slice bj m3 bP] AK)=cm at ay jk⊢;have fF:=J.trans ay;refine mx (afl.ex ay) fF.size [.slice bj m3 bP] jk rfl (λy ag=>by simp only[ma]at ag;subst ag;rfl) rfl (by omega) (by omega) (λeo h0 cE cJ cI=>?_);have t4:∀i,(∃x,jP=some x/\x.block=i)->Typed cm AK i/\w0.heap.size<=i:=λi⟨x,J,I⟩=>by
   have:=(afl.ex ay).typed J
   exact⟨I▸this.1,I▸this.2.1⟩
  rw[bS (x:=(k:Int)+1) (by omega) (by omega)];refine⟨⟨rfl,rfl,rfl,rfl,rfl,rfl,rfl,rfl,by omega,by omega,by omega,fF.then cI λi I=>(t4 i I).2,?_,?_,_,cJ⟩,by((try dsimp only);omega)⟩
  ·obtain⟨es,he,_⟩:=(hm.yF (ay.aO λ_=>False) id λ_ h=>h.elim).size;exact(hm.yF (ay.aO λ_=>False) id λ_ h=>h.elim).yF cI (λτ=>by obtain⟨c,fr,aS⟩:=(t4 b τ).1;rw[he]at aS;cases aS) λi I aS=>aS.ne (t4 i I).1 (by decide) rfl
  ·exact(o.ex ay).aO cI λx J I=>((o.ex ay).typed J).1.ne (t4 _ I).1 (by decide) rfl
 ·unfold kI.bK;exact K _ _ _ _ J o
theorem afx(cL:List (Nat×Nat))(l:List Nat):(pick cL l).length=l.length:=by simp[pick]
theorem ZQ{w:World}{R:bZ}{ps:aY}(h:iE w R ps)(ab:mv R)(π:(gK (used R)).length<=4096):kI.C (bT R ps).toArray w (ω λv w'=>∃q d fp bu c2,v=.tuple #[.slice q (lays (used R)).length d,.slice fp bu c2,.int .i64 0]/\η w w'/\μ w' w.heap.size eT 1 q (lays (used R)).length d (dN (lays (used R)))):=by
 apply kI.ok;unfold kI.main;have oE:w.heap.size<=w.heap.size:=dO _;rintro δ ε rfl rfl;have σ:=μ.new (w:=w) (bT R ps) b3;have θ:=η.alloc w (.cells (bT R ps).toArray b3);have σ:=σ;generalize w.alloc (.cells (bT R ps).toArray b3)=ε at σ θ⊢;have h1:=h.ex θ;have o7:(bT R ps).toArray.size=24:=by simp[bT,BP,h.len,h.dN]
 refine⟨(bT R ps).toArray,o7,σ.cells,?_⟩;refine κ.use (Iv h1) ?_;rintro _ υ ⟨rfl,ρ⟩
 try dsimp only[dX]
 rw[bI ab]
 skip
 refine⟨(bT R ps).toArray,o7,(σ.ex ρ).cells,?_⟩;have df:=θ.trans ρ;refine κ.use (all_map (h1.ex ρ)) ?_;rintro _ ao ⟨B,b,rfl,eh,hm,aC⟩
 try dsimp only[Px]
 have iF:η w ao:=df.trans aC;have FM:w.heap.size<=B:=gE df.size eh;have azo:B<=b:=hm.low;obtain⟨es,he,qC⟩:=hm.size;refine⟨b,es,es.size,rfl,he,?_⟩;rintro ax aZ rfl rfl;have aM:=η.alloc ao (.mapIter (some b) es.size #[] es.size);have By:=FY ao (.mapIter (some b) es.size #[] es.size);have Dj:mq (ao.alloc (.mapIter (some b) es.size #[] es.size)) B b 8000 (gK (used R)) (mH R):=hm.yF (aM.aO λ_=>False) id λ_ h=>h.elim;have ap0:w.heap.size<=ao.heap.size:=iF.size;generalize ao.alloc (.mapIter (some b) es.size #[] es.size)=aZ at aM By Dj⊢;generalize ao.heap.size=it at By ap0⊢;have k4:=iF.trans aM;rw[qC]at By;have pZ:∀y∈gK (used R),hg y:=λy ag=>sB h.ok y ((kv _ _).1 ag);have w7:∀y,y∉gK (used R)->mH R y=[]:=λy ag=>XA λhu=>ag ((kv _ _).2 hu);have l1:=xk (used R);have j0:∀x,x∈gK (used R)↔x∈used R:=kv _;generalize azC:gK (used R)=cL at π hm qC By Dj pZ w7 l1 j0;unfold kI.bb;refine⟨λt5 lo ky mL t17 w'=>some b=t5/\it=t17/\∃l,Iq w' B b it cL (mH R) l/\l.length=ky/\η w w'/\μ w' w.heap.size eT 1 lo ky mL (dN (pick cL l)),
  λt5 lo ky mL t17 w'=>cL.length-ky,⟨rfl,rfl,[],⟨By,Rt,λi I=>by simp at I,Dj⟩,rfl,k4,μ.nil _ _ _ _⟩,?_⟩
 clear By Dj k4 aM aZ;rintro _ lo ky mL _ w' ⟨rfl,rfl,l,jt,ak,J,o⟩;unfold kI.δ;have hle:l.length<=cL.length:=by
  have:=ry l (List.range cL.length) jt.l9 λx J=>lh.2 (jt.lt x J)
  simpa using this
 refine jt.next (λew=>?_) λi a8 I V5 hW FO=>?_
 ·
  unfold kI.aV;have jF:∀x,x∈pick cL l↔x∈used R:=λx=>by rw[<-j0];refine⟨λJ=>afy jt.lt J,λJ=>?_⟩;obtain⟨i,I,rfl⟩:=RD.1 J;refine gx.2 ⟨i,ew i I,?_⟩;rw[List.getD_eq_getElem?_getD,List.getElem?_eq_getElem I];rfl
  have dJ:∀x∈pick cL l,hg x:=λx J=>pZ x (afy jt.lt J);have Mf:=atL l1 jt.lt jt.l9;have hlen:=Jl dJ Mf;refine κ.use (alh o.cells ((afx cL l).trans ak) (by omega) dJ Mf) ?_;rintro _ c4 ⟨q,d,rfl,ez,rA⟩;rw[MD jF]at rA hlen;rw[afx,ak]at hlen
  try dsimp only[ca,cT,cU,bo,bL,ee]
  rw[<-hlen]at rA⊢;refine akQ (J.trans ez) (jt.map.yF (ez.aO λ_=>False) id λ_ h=>h.elim) pZ w7 (by omega) (rA.lower J.size) (λx J=>sB h.ok x ((Js (sB h.ok)).1 J)) (by omega) λfp bu c2 cd eW tk=>?_;exact ω.mk ⟨q,d,fp,bu,c2,rfl,eW,tk⟩
 ·rintro aa bV rfl rfl;have BI:η w a8:=J.then hW λj ψ=>by omega
  have eN:=o.aO hW λx J ψ=>by obtain⟨c,fr,aS⟩:=(o.typed J).1;rw[ψ,jt.it]at aS;cases aS
  have cj:=η.alloc a8 (.cells #[et (some (cL.getD i (0,0)))] eT);have nA:bd (a8.alloc (.cells #[et (some (cL.getD i (0,0)))] eT)) (some ⟨a8.heap.size,0,none⟩) [et (some (cL.getD i (0,0)))]:=bd.alloc _ eT;unfold et at cj nA;generalize a8.alloc (.cells #[.complex .f64 (eX (some (cL.getD i (0,0)))) (e5 (some (cL.getD i (0,0))))] eT)=bV at cj nA⊢;have fF:=BI.trans cj;refine mx (eN.ex cj) fF.size [et (some (cL.getD i (0,0)))] nA rfl (λy ag=>by simp only[ma]at ag;subst ag;rfl) rfl (by omega) (by omega) (λeo h0 bW iV iq=>?_);have t4:∀j,(∃x,lo=some x/\x.block=j)->Typed bV eT j/\w.heap.size<=j:=λj⟨x,J,ψ⟩=>by
   have:=(eN.ex cj).typed J
   exact⟨ψ▸this.1,ψ▸this.2.1⟩
  have m8:=FO.map.yF (cj.aO λ_=>False) id λ_ h=>h.elim;obtain⟨ay3,apF,_⟩:=m8.size;have WD:bV.heap[it]?=some (.mapIter (some b) cL.length (l++[i]).toArray cL.length):=by rw[cj.block it (Array.getElem?_eq_some_iff.1 FO.it).1 id];exact FO.it
  refine⟨⟨rfl,rfl,l++[i],⟨?_,FO.l9,FO.lt,?_⟩,by rw[fw,ak];rfl,fF.then iq λj ψ=>(t4 j ψ).2,?_⟩,?_⟩
  ·rw[iq.block it (Array.getElem?_eq_some_iff.1 WD).1 λψ=>?_]
   ·exact WD
   ·obtain⟨c,fr,aS⟩:=(t4 it ψ).1;rw[WD]at aS;cases aS
  ·exact m8.yF iq (λτ=>by obtain⟨c,fr,aS⟩:=(t4 b τ).1;rw[apF]at aS;cases aS) λj ψ aS=>aS.ne (t4 j ψ).1 (by decide) rfl
  ·have:dN (pick cL (l++[i]))=dN (pick cL l)++[et (some (cL.getD i (0,0)))]:=by simp[dN,pick]
   rw[this];exact iV
  ·have:l.length<cL.length:=by
    have ι:=ry (l++[i]) (List.range cL.length) FO.l9 λx J=>lh.2 (FO.lt x J);simp at ι;omega
   dsimp only;omega
end Go.Proofs.YtcpdfhkhaekekaaGreat.G.cF

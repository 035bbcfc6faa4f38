/- The law WholeShares of the given program is proved. Conditions: none. -/
import Derived.Test.YtcpdfhkhaekekaaGreatShares0
set_option linter.unusedVariables false
set_option linter.unusedSimpArgs false
namespace Go.Proofs.YtcpdfhkhaekekaaGreat.G.cY
open Go.bJ Go.RowKit cF dI eI cS aQ
def hd(v b:Int)(bs:List Int):aQ.Ask:=⟨5,v,b,0,bs⟩
theorem AW{A:c6}{v b:Nat}{s:Int}{l:List (Option fK)}{bs:List Int}(eB:A.E[v]?=some (1,s,l))(az:v<8)(τ:(b:Int)<s)(jW:bs.length=64):
  cQ A (hd v b bs)=if A.cap<(l7 A.E:Int)+1 then kB A 9 else({A with E:=A.E.set v (1,s,l.set b (some (A.n,bs))),n:=A.n+1},fh):=by
 unfold cQ;rw[if_pos ⟨show(1:Int)<=5 by decide,show(5:Int)<=9 by decide⟩];unfold jf hd;dsimp only;rw[if_neg (by omega),if_neg (by omega),if_neg (by omega),if_neg (by omega),if_pos rfl,sX az eB (show(1:Int)≠0 by decide)];dsimp only;rw[if_neg (by decide),if_neg (by omega),if_neg (by omega),Int.toNat_natCast,Int.toNat_natCast,Cl eB]
open Go
section
variable{w0 W:World}{pp N:Nat}{P:c6->Prop}
theorem vN{v:Value}{r:gj}(az:tQ W v r){Y:Nat->al}(K:∀b w' t cr b8 dc cx cC cD,η W w'->W.heap.size<=b->μ w' b ck 5 (some ⟨b,0,none⟩) 1 1 (fY t r cr b8 dc cx cC cD)->μ w' 0 dt 1 cr b8 dc (a7 r.bs)->μ w' 0 cz 1 cx cC cD (bA.cW r.pr)->Y b w'):
  cv v λaE=>aK W #[.int .i64 0,.int .i64 0,.int .i64 0,bR,bR] ck λδ χ=>ν (decide (aE.size=5)) (a6 χ (⟨δ,0,none⟩:Addr) aE.toList/\∀ao,ao=χ.setCells (⟨δ,0,none⟩:Addr).block (⟨δ,0,none⟩:Addr).off aE.toList->Y δ ao):=by
 obtain⟨D,t,az⟩:=az;exact Ci az λb w' cr b8 dc cx cC cD x τ σ af bh _=>K b w' t cr b8 dc cx cC cD x τ σ af bh
end
def my(v:Int):aQ.Ask:=⟨2,v,0,0,[]⟩
end Go.Proofs.YtcpdfhkhaekekaaGreat.G.cY
namespace Go.Proofs.YtcpdfhkhaekekaaGreat.G.cY
open Go Go.bJ Go.RowKit cF dI eI cS aQ
theorem QK{E:List hn}{l:List Nat}(ar:l.Nodup)(hm:∀i,i∈l↔∃x∈mY E,x.1=i):l7 E=l.length:=by
 have ak:(l.map λi=>(i,0)).Nodup:=by refine G7 (S:=λa b=>a≠b) (R:=λa b=>a≠b) _ (λa b h e=>h (by cases e;rfl)) ar
 unfold l7;have h1:=ry (gK ((mY E).map λx=>(x.1,0))) (l.map λi=>(i,0)) (xk _) λz aI=>by rw[kv]at aI;obtain⟨x,J,rfl⟩:=gx.1 aI;exact gx.2 ⟨x.1,(hm _).2 ⟨x,J,rfl⟩,rfl⟩
 have ι:=ry (l.map λi=>(i,0)) (gK ((mY E).map λx=>(x.1,0))) ak λz aI=>by obtain⟨i,I,rfl⟩:=gx.1 aI;obtain⟨x,J,rfl⟩:=(hm i).1 I;rw[kv];exact gx.2 ⟨x,J,rfl⟩
 rw[jM]at h1 ι;omega
def KE(L:List (Option fK))(n k:Nat):Prop:=L.length=n/\(∀b,b<k->∃y,L[b]?=some (some (b,y)))/\∀b,k<=b->b<n->L[b]?=some none
def Tl(M L:List (Option fK))(n t:Nat):Prop:=M.length=n/\(∀b,b<t->∃y,M[b]?=some (some (n+b,y)))/\∀b,t<=b->b<n->M[b]?=L[b]?
theorem abW{L:List (Option fK)}{n k:Nat}(h:KE L n k)(hk:k<=n):(∀x,some x∈L->x.1<k)/\∀b,b<k->∃x,some x∈L/\x.1=b:=by
 obtain⟨h1,ι,aJ⟩:=h;refine⟨λx J=>?_,λb τ=>?_⟩
 ·obtain⟨b,τ⟩:=List.mem_iff_getElem?.1 J;have o9:=(List.getElem?_eq_some_iff.1 τ).1;by_cases yl:b<k
  ·obtain⟨y,ag⟩:=ι b yl;rw[τ]at ag;cases ag;exact yl
  ·rw[aJ b (by omega) (by omega)]at τ;cases τ
 ·obtain⟨y,ag⟩:=ι b τ;exact⟨_,fa ag,rfl⟩
theorem afg{M L:List (Option fK)}{n t:Nat}(h:Tl M L n t)(gy:KE L n n)(aS:t<=n):(∀x,some x∈M->(n<=x.1/\x.1<n+t)\/(t<=x.1/\x.1<n))/\(∀b,b<t->∃x,some x∈M/\x.1=n+b)/\∀b,t<=b->b<n->∃x,some x∈M/\x.1=b:=by
 obtain⟨h1,ι,aJ⟩:=h;obtain⟨bb,eZ,ob⟩:=gy;refine⟨λx J=>?_,λb τ=>?_,λb τ h2=>?_⟩
 ·obtain⟨b,τ⟩:=List.mem_iff_getElem?.1 J;have o9:=(List.getElem?_eq_some_iff.1 τ).1;by_cases pW:b<t
  ·obtain⟨y,ag⟩:=ι b pW;rw[τ]at ag;cases ag;exact .inl ⟨by show n<=n+b;omega,by show n+b<n+t;omega⟩
  ·rw[aJ b (by omega) (by omega)]at τ;obtain⟨y,ag⟩:=eZ b (by omega);rw[τ]at ag;cases ag;exact .inr ⟨by show t<=b;omega,by show b<n;omega⟩
 ·obtain⟨y,ag⟩:=ι b τ;exact⟨_,fa ag,rfl⟩
 ·obtain⟨y,ag⟩:=eZ b h2
  have:=aJ b τ h2
  rw[ag]at this;exact⟨_,fa this,rfl⟩
def xX(n k i:Nat)(A:c6):Prop:=∃L,A.E=((1,(n:Int),L)::List.replicate i (2,(n:Int),L))++List.replicate (7-i) oX/\KE L n k/\A.n=k
theorem OL{x:fK}:some x∉oX.2.2:=by show some x∉[];exact oi
theorem agq{n k i:Nat}{A:c6}(h:xX n k i A)(hk:k<=n):l7 A.E=k:=by
 obtain⟨L,eB,gy,_⟩:=h;obtain⟨f1,f2⟩:=abW gy hk
 have:=QK (E:=A.E) (l:=List.range k) DU λb=>by
  rw[lh];constructor
  ·intro τ;obtain⟨x,J,rfl⟩:=f2 b τ;exact⟨x,si.2 ⟨(1,(n:Int),L),by rw[eB];exact Ro _ oj,J⟩,rfl⟩
  ·rintro⟨x,J,rfl⟩;obtain⟨e,he,J⟩:=si.1 J;rw[eB]at he;rcases iC.1 he with he|he
   ·rcases fB.1 he with rfl|he
    ·exact f1 x J
    ·rw[nb he]at J;exact f1 x J
   ·rw[nb he]at J;exact absurd J OL
 rw[this,xC]
theorem ava{n k:Nat}{A:c6}(h:xX n k 0 A)(hk:k<n)(π:(n:Int)<=A.cap){bs:aq}(jW:bs.length=64):
  (cQ A (hd ((0:Nat):Int) k bs)).2=fh/\xX n (k+1) 0 (cQ A (hd ((0:Nat):Int) k bs)).1/\(cQ A (hd ((0:Nat):Int) k bs)).1.cap=A.cap:=by
 have ak:=agq h (by omega);obtain⟨L,eB,⟨bb,eZ,ob⟩,ar⟩:=h;have bH:A.E[0]?=some (1,(n:Int),L):=by rw[eB];rfl
 rw[AW bH (by omega) (by omega) jW,aL (by rw[ak];omega)];refine⟨rfl,⟨L.set k (some (A.n,bs)),?_,⟨by rw[hQ];exact bb,λb τ=>?_,λb τ h2=>?_⟩,by show A.n+1=k+1;omega⟩,rfl⟩
 ·show A.E.set 0 _=_;rw[eB];rfl
 ·rw[List.getElem?_set];by_cases yl:k=b
  ·subst yl;rw[aN rfl,aN (by omega),ar];exact⟨bs,rfl⟩
  ·rw[aL yl];exact eZ b (by omega)
 ·rw[List.getElem?_set,aL (by omega)];exact ob b (by omega) h2
def wO(v:Int):aQ.Ask:=⟨3,v,0,0,[]⟩
theorem au9{n i:Nat}{A:c6}(h:xX n n i A)(I:i<3)(ar:1<=n):(cQ A (wO i)).2.e=0/\xX n n (i+1) (cQ A (wO i)).1/\(cQ A (wO i)).1.cap=A.cap:=by
 obtain⟨L,eB,gy,cc⟩:=h;have bH:∃q,q≠0/\A.E[i]?=some (q,(n:Int),L):=by
  rw[eB];cases i with
  |zero=>exact⟨1,by decide,rfl⟩
  |succ i=>
   refine⟨2,by decide,?_⟩;rw[JX,List.getElem?_cons_succ,List.getElem?_append_left (by rw[me];omega),List.getElem?_replicate,aN (by omega)]
 obtain⟨q,aH,bH⟩:=bH;have b1:∀e∈((1,(n:Int),L)::List.replicate i (2,(n:Int),L):List hn),e.1≠0:=λe he=>by
  rcases fB.1 he with rfl|he
  ·show(1:Int)≠0;decide
  ·rw[nb he];show(2:Int)≠0;decide
 have hq:7-i=(6-i)+1:=by omega
 have k8:nf A.E=some (i+1):=by rw[eB,hq,Yr _ _ b1,kU,me]
 have aP:cQ A (wO i)=({A with E:=A.E.set (i+1) (2,(n:Int),L)},{fh with id:=((i+1:Nat):Int)}):=by unfold cQ;rw[aN ⟨show(1:Int)<=3 by decide,show(3:Int)<=9 by decide⟩];unfold jf wO;dsimp only;rw[aL (by omega),aL (by omega),aN rfl,sX (by omega) bH aH,k8]
 rw[aP];refine⟨rfl,⟨L,?_,gy,cc⟩,rfl⟩;show A.E.set (i+1) _=_;rw[eB,hq]
 have:=Yn ((1,(n:Int),L)::List.replicate i (2,(n:Int),L)) (6-i) (2,(n:Int),L)
 rw[kU,me]at this;rw[this,JX,<-RE,show 7-(i+1)=6-i by omega]
def CH(n t:Nat)(A:c6):Prop:=∃M L,A.E=[(1,(n:Int),M),(2,(n:Int),L),(2,(n:Int),L),(2,(n:Int),L)]++List.replicate 4 oX/\KE L n n/\Tl M L n t/\A.n=n+t
theorem atq{n:Nat}{A:c6}(h:xX n n 3 A):CH n 0 A:=by obtain⟨L,eB,gy,cc⟩:=h;exact⟨L,L,eB,gy,⟨gy.1,λb τ=>by omega,λb _ _=>rfl⟩,cc⟩
theorem Xx{n t:Nat}{A:c6}(h:CH n t A)(aS:t<=n):l7 A.E=n+t:=by
 obtain⟨M,L,eB,gy,lE,_⟩:=h;obtain⟨f1,f2⟩:=abW gy (dO _);obtain⟨m1,m2,m3⟩:=afg lE gy aS
 have:=QK (E:=A.E) (l:=List.range (n+t)) DU λb=>by
  rw[lh];constructor
  ·intro τ;by_cases Vs:b<n
   ·obtain⟨x,J,rfl⟩:=f2 b Vs;exact⟨x,si.2 ⟨(2,(n:Int),L),by rw[eB];simp,J⟩,rfl⟩
   ·obtain⟨x,J,e⟩:=m2 (b-n) (by omega);exact⟨x,si.2 ⟨(1,(n:Int),M),by rw[eB];simp,J⟩,by omega⟩
  ·rintro⟨x,J,rfl⟩;obtain⟨e,he,J⟩:=si.1 J;rw[eB]at he;rcases iC.1 he with he|he
   ·simp only[fB,oi,py]at he;rcases he with rfl|rfl|rfl|rfl
    ·have:=m1 x J;omega
    ·have:=f1 x J;omega
    ·have:=f1 x J;omega
    ·have:=f1 x J;omega
   ·rw[nb he]at J;exact absurd J OL
 rw[this,xC]
theorem atr{n t i:Nat}{A:c6}(h:CH n t A)(I:i<n)(oF:t<=i)(apn:t=i\/A.cap<(n:Int)+t+1){bs:aq}(jW:bs.length=64):
  (A.cap<(n:Int)+t+1/\cQ A (hd ((0:Nat):Int) i bs)=kB A 9)\/((n:Int)+t+1<=A.cap/\t=i/\(cQ A (hd ((0:Nat):Int) i bs)).2=fh/\CH n (t+1) (cQ A (hd ((0:Nat):Int) i bs)).1/\(cQ A (hd ((0:Nat):Int) i bs)).1.cap=A.cap):=by
 have ak:=Xx h (by omega);obtain⟨M,L,eB,gy,⟨m1,m2,m3⟩,ar⟩:=h;have bH:A.E[0]?=some (1,(n:Int),M):=by rw[eB];rfl
 rw[AW bH (by omega) (by omega) jW,ak];by_cases π:A.cap<((n+t:Nat):Int)+1
 ·rw[aN π];exact .inl ⟨by omega,rfl⟩
 ·rw[aL π];have aq6:t=i:=apn.resolve_right (by omega);subst aq6;refine .inr ⟨by omega,rfl,rfl,⟨M.set t (some (A.n,bs)),L,?_,gy,⟨by rw[hQ];exact m1,λb τ=>?_,λb τ h2=>?_⟩,by show A.n+1=n+(t+1);omega⟩,rfl⟩
  ·show A.E.set 0 _=_;rw[eB];rfl
  ·rw[List.getElem?_set];by_cases yl:t=b
   ·subst yl;rw[aN rfl,aN (by omega),ar];exact⟨bs,rfl⟩
   ·rw[aL yl];exact m2 b (by omega)
  ·rw[List.getElem?_set,aL (by omega)];exact m3 b (by omega) h2
theorem abw{A:c6}{v:Nat}{e:hn}(az:v<8)(eB:A.E[v]?=some e)(aF:e.1≠0):cQ A (my v)=({A with E:=A.E.set v oX},fh):=by unfold cQ;rw[aN ⟨show(1:Int)<=2 by decide,show(2:Int)<=9 by decide⟩];unfold jf my;dsimp only;rw[aL (by omega),aN rfl,sX az eB aF];dsimp only;rw[ch];rfl
def A0(n d:Nat)(A:c6):Prop:=∃M L t,t<=n/\A.E=((1,(n:Int),M)::(List.replicate d oX++List.replicate (3-d) (2,(n:Int),L)))++List.replicate 4 oX/\KE L n n/\Tl M L n t
theorem am0{n t:Nat}{A:c6}(h:CH n t A)(aS:t<=n):A0 n 0 A:=by obtain⟨M,L,eB,gy,lE,_⟩:=h;exact⟨M,L,t,aS,eB,gy,lE⟩
theorem amZ{n d:Nat}{A:c6}(h:A0 n d A)(ah:d<3):(cQ A (my ((d+1:Nat):Int))).2=fh/\A0 n (d+1) (cQ A (my ((d+1:Nat):Int))).1:=by
 obtain⟨M,L,t,aS,eB,gy,lE⟩:=h;have bH:A.E[d+1]?=some (2,(n:Int),L):=by rw[eB,JX,List.getElem?_cons_succ,List.getElem?_append_left (by rw[fw,me,me];omega),List.getElem?_append_right (by rw[me];exact dO _),me,tv,List.getElem?_replicate,aN (by omega)]
 rw[abw (by omega) bH (by show(2:Int)≠0;decide)];refine⟨rfl,M,L,t,aS,?_,gy,lE⟩;show A.E.set (d+1) oX=_;rw[eB];have aJ:3-d=1+(3-(d+1)):=by omega
 rw[JX,List.set_cons_succ,List.set_append_left _ _ (by rw[fw,me,me];omega),Cf _ _ (by rw[me];exact dO _),me,tv,aJ,Nat.add_comm 1,DO,G4,RE (n:=d)];simp
theorem amY{n:Nat}{A:c6}(h:A0 n 3 A):l7 A.E=n:=by
 obtain⟨M,L,t,aS,eB,gy,lE⟩:=h;obtain⟨m1,m2,m3⟩:=afg lE gy aS;have l1:((List.range t).map (n+·)++(List.range (n-t)).map (t+·)).Nodup:=by refine List.nodup_append.2 ⟨G7 (S:=λa b=>a≠b) (R:=λa b=>a≠b) _ (λa b h e=>h (by omega)) DU,G7 (S:=λa b=>a≠b) (R:=λa b=>a≠b) _ (λa b h e=>h (by omega)) DU,λa aR b τ e=>?_⟩;obtain⟨x,J,rfl⟩:=gx.1 aR;obtain⟨y,ag,rfl⟩:=gx.1 τ;rw[lh]at J ag;omega
 have:=QK (E:=A.E) l1 λb=>by
  rw[iC,gx,gx];constructor
  ·rintro(⟨i,I,rfl⟩|⟨i,I,rfl⟩)
   ·rw[lh]at I;obtain⟨x,J,e⟩:=m2 i I;exact⟨x,si.2 ⟨(1,(n:Int),M),by rw[eB];simp,J⟩,e⟩
   ·rw[lh]at I;obtain⟨x,J,e⟩:=m3 (t+i) (by omega) (by omega);exact⟨x,si.2 ⟨(1,(n:Int),M),by rw[eB];simp,J⟩,e⟩
  ·rintro⟨x,J,rfl⟩;obtain⟨e,he,J⟩:=si.1 J;rw[eB]at he;rcases iC.1 he with he|he
   ·rcases fB.1 he with rfl|he
    ·rcases m1 x J with h|h
     ·exact .inl ⟨x.1-n,lh.2 (by omega),by omega⟩
     ·exact .inr ⟨x.1-t,lh.2 (by omega),by omega⟩
    ·rw[tv,List.replicate_zero,qi]at he;rw[nb he]at J;exact absurd J OL
   ·rw[nb he]at J;exact absurd J OL
 rw[this,fw,jM,jM,xC,xC];omega
theorem amX{n:Nat}{A:c6}(h:A0 n 3 A):(cQ A (my ((0:Nat):Int))).2=fh/\l7 (cQ A (my ((0:Nat):Int))).1.E=0:=by
 obtain⟨M,L,t,aS,eB,gy,lE⟩:=h;have bH:A.E[0]?=some (1,(n:Int),M):=by rw[eB];rfl
 rw[abw (by omega) bH (by show(1:Int)≠0;decide)];refine⟨rfl,?_⟩;have aF:(A.E.set 0 oX)=List.replicate 8 oX:=by rw[eB];rfl
 show l7 (A.E.set 0 oX)=0;rw[aF]
 have:=QK (E:=List.replicate 8 oX) (l:=[]) Rt λb=>by
  constructor
  ·intro h;cases h
  ·rintro⟨x,J,rfl⟩;obtain⟨e,he,J⟩:=si.1 J;rw[nb he]at J;exact absurd J OL
 rw[this];rfl
open Tryz
section
variable{w0 W:World}{pp N n:Nat}{s k:Int}
theorem ak8(h:ec w0 pp W N (A0 n 0))(ek:N<=10000)(ar:n<=32):fl.dT (some ⟨pp,0,none⟩) (n:Int) W (ω λv w'=>v=.bool true/\η w0 w'):=by
 unfold fl.dT fl.p7;refine⟨λt11 t12 t18 W=>some ⟨pp,0,none⟩=t11/\(n:Int)=t12/\1<=t18/\t18<=4/\ec w0 pp W (N+6*t18.toNat) (A0 n (t18.toNat-1)),λ_ _ t18 _=>(4-t18).toNat,⟨rfl,rfl,by omega,by omega,h.more (by omega) λ_ h=>h⟩,?_⟩;clear h;rintro _ _ t18 W ⟨rfl,rfl,g0,g1,h⟩;unfold fl.aa;obtain⟨v,rfl⟩:=eF (show 0<=t18 by omega);rw[ch]at h;refine bt (λaz=>?_) (λaz=>?_)
 ·have az:=b6 az;refine gv h (by omega) (ki 2 v 0 0) (tx _ _ _ _ _) (tz _ _ _ _) λja A u cc FI az9 hu=>?_;have ah:=amZ cc (by omega);have anO:v-1+1=v:=by omega
  rw[anO]at ah;have iA:dW (ki 2 v 0 0)=my v:=rfl;rw[iA]at FI hu;rw[ah.1]at hu;refine hu.err ?_;rw[cond_neg (by rfl),bS (x:=(v:Int)+1) (by omega) (by omega)];have aP:((v:Int)+1).toNat=v+1:=by omega
  refine⟨⟨by trivial,by trivial,by omega,by omega,?_⟩,by((try dsimp only);omega)⟩;rw[aP];exact FI.more (by omega) λgm e=>e▸(show A0 n (v+1-1) _ from(by rw[Nat.add_sub_cancel];exact ah.2))
 ·have az:=dn az;obtain rfl:v=4:=by omega
  unfold fl.eD;have h:ec w0 pp W (N+24) (A0 n 3):=h;refine L4 h (by omega) λnq A cc Lv QG=>?_
  try dsimp only[bL]
  rw[amY cc,cond_neg (by simp)];refine gv Lv (by omega) (ki 2 0 0 0) (tx _ _ _ _ _) (tz _ _ _ _) λnr sD u sZ Lw My hu=>?_;subst sZ;have ah:=amX cc;have iA:dW (ki 2 0 0 0)=my ((0:Nat):Int):=rfl;rw[iA]at Lw hu;rw[ah.1]at hu;refine hu.err ?_;rw[cond_pos (by rfl)];refine L4 Lw (by omega) λjS Eo PX FJ ad4=>?_
  try dsimp only[bL]
  subst PX;rw[ah.2];exact ω.mk ⟨rfl,FJ.ex⟩
theorem ak7{δ B:Nat}{z:Int}(aI:0<=z/\z<256)(h:ec w0 pp W N (λA=>xX n n 3 A/\A.cap=(s-4)*k))(ek:N<=5000)(g:mO s k)(ar:1<=n/\n<=32)(en:μ W B b2 2 (some ⟨δ,0,none⟩) 1 1 (two s k)):
  fl.b4 z δ (some ⟨pp,0,none⟩) (n:Int) W (ω λv w'=>v=.bool true/\η w0 w'):=by
 have apV:(s-4)*k<=60:=by
  have:=g.1;have:=g.2.1;have:=g.2.2.1;have:=g.2.2.2
  have:(s-4)*k<=10*6:=qJ (by omega) (by omega) (by omega) (by omega)
  omega
 have azA:0<=(s-4)*k:=by
  have:=g.1;have:=g.2.2.1
  exact yZ (by omega) (by omega)
 have U3:=g;unfold mO at U3;unfold fl.b4 fl.ob;refine⟨λt3 t9 t11 t12 t15 t16 W=>z=t3/\δ=t9/\some ⟨pp,0,none⟩=t11/\(n:Int)=t12/\0<=t15/\t15<=t16/\t16<=n/\ec w0 pp W (N+20*t16.toNat) (λA=>CH n t15.toNat A/\A.cap=(s-4)*k/\(t15=t16\/A.cap<(n:Int)+t15+1))/\μ W B b2 2 (some ⟨δ,0,none⟩) 1 1 (two s k),λ_ _ _ _ _ t16 _=>(n-t16).toNat,⟨rfl,rfl,rfl,rfl,by omega,by omega,by omega,h.more (by omega) λA cc=>⟨atq cc.1,cc.2,.inl rfl⟩,en⟩,?_⟩;clear h en;rintro _ _ _ _ t15 t16 W ⟨rfl,rfl,rfl,rfl,g0,g1,g2,h,en⟩;unfold fl.ax;obtain⟨t,rfl⟩:=eF g0;obtain⟨i,rfl⟩:=eF (show 0<=t16 by omega);rw[ch,ch]at h;have kg:t<=n:=by omega
 have out:fl.dT (some ⟨pp,0,none⟩) (n:Int) W (ω λv w'=>v=.bool true/\η w0 w'):=ak8 (h.more (dO _) λA cc=>am0 cc.1 kg) (by omega) ar.2;refine bt (λdD=>?_) (λdD=>out);refine bt (λc8=>?_) (λc8=>out);have c8:=b6 c8;refine κ.use (wW 200 (by omega) W) ?_;rintro _ eE ⟨hz,rfl,q0,of⟩
 try dsimp only[ee]
 have FH:=h.to q0;have en:=en.ex q0;refine gv FH (by omega) (qM 0 i 200 hz) of.cells (Aw hz (by omega)) λdM A u cc lW pn hu=>?_;have en:=pn _ _ _ _ _ _ _ en (by decide);refine vN hu λax eP xJ cr b8 dc cx cC cD lP jm bh _ _=>?_;have o7:=lW.to lP;have en:=en.ex lP;have iA:dW (qM 0 i 200 hz)=hd ((0:Nat):Int) i (List.replicate 64 200):=rfl;rw[iA]at o7 bh;obtain⟨uq,jG,oF⟩:=cc;have aP:((i:Int)+1).toNat=i+1:=by omega
 have xe:=atr (i:=i) (bs:=List.replicate 64 200) uq (by omega) (by omega) (oF.imp (λh=>by omega) (λh=>h)) (by simp)
 have fin:∀(h4:Nat)(eJ:World)(gm:c6),CH n h4 gm->gm.cap=(s-4)*k->h4<=i+1->h4<=n->(h4=i+1\/gm.cap<(n:Int)+h4+1)->ec w0 pp eJ (N+20*i+10) (λEm=>Em=gm)->μ eJ B b2 2 (some ⟨δ,0,none⟩) 1 1 (two s k)->
   (z=z/\δ=δ/\(some ⟨pp,0,none⟩:γ)=some ⟨pp,0,none⟩/\(n:Int)=(n:Int)/\0<=(h4:Int)/\(h4:Int)<=IntKind.i64.wrap ((i:Int)+1)/\IntKind.i64.wrap ((i:Int)+1)<=n/\ec w0 pp eJ (N+20*(IntKind.i64.wrap ((i:Int)+1)).toNat) (λA=>CH n (h4:Int).toNat A/\A.cap=(s-4)*k/\((h4:Int)=IntKind.i64.wrap ((i:Int)+1)\/A.cap<(n:Int)+(h4:Int)+1))/\μ eJ B b2 2 (some ⟨δ,0,none⟩) 1 1 (two s k))/\((n:Int)-IntKind.i64.wrap ((i:Int)+1)).toNat<((n:Int)-(i:Int)).toNat:=λh4 eJ gm dK fp na aAr DN hH hO=>by
  rw[bS (x:=(i:Int)+1) (by omega) (by omega),aP,ch];exact⟨⟨rfl,rfl,rfl,rfl,by omega,by omega,by omega,hH.more (by omega) (λEm e=>by subst e;exact⟨dK,fp,DN.imp (λh=>by omega) (λh=>h)⟩),hO⟩,by omega⟩
 have Gb:IntKind.i64.wrap (IntKind.i64.wrap (s-4)*k)=(s-4)*k:=by rw[bS (x:=s-4) (by omega) (by omega),bS (by omega) (by omega)]
 refine⟨_,bh.at (j:=1) rfl,?_⟩;rcases xe with⟨π,zN⟩|⟨π,aq5,φ,ady,Vy⟩
 ·rw[zN]at bh o7⊢;rw[cond_neg (by rfl)];unfold fl.cI;refine⟨_,bh.at (j:=1) rfl,s,en.at (j:=0) rfl,k,en.at (j:=1) rfl,?_⟩;rw[Gb,bS (x:=(n:Int)+t) (by omega) (by omega)];have live:∀{Y:al},(∀eJ,ec w0 pp eJ (N+20*i+10) (λEm=>Em=A)->μ eJ B b2 2 (some ⟨δ,0,none⟩) 1 1 (two s k)->Y eJ)->∀{X:List PanicEntry->al}{F:al},κ prog 18 #[.pointer (some ⟨pp,0,none⟩)] eP (λv17 eJ=>br .i64 v17 λgb=>cond (gb !=((n:Int)+t)) (F eJ) (Y eJ)) X:=λ{Y}Vi{X F}=>by
   refine L4 o7 (by omega) λeJ Em U8 vF Gk=>?_
   try dsimp only[bL]
   have sZ:Em=A:=U8;have vF:=vF.more (dO _) (P':=λEo=>Eo=A) λEo e=>e.trans sZ;rw[sZ];rw[cond_neg (by rw[Xx uq kg];simp)];exact Vi eJ (vF.more (by omega) λ_ e=>e) (Gk _ _ _ _ _ _ _ en (by decide))
  have abY:=λeJ hH hO=>fin t eJ A uq jG (by omega) kg (.inr π) hH hO;refine bt (λ_=>?_) (λ_=>live abY);refine⟨_,bh.at (j:=1) rfl,?_⟩;rw[cond_neg (by rfl)];exact live abY
 ·subst aq5;rw[φ]at bh⊢;rw[cond_pos (by rfl)];unfold fl.cI;refine⟨_,bh.at (j:=1) rfl,s,en.at (j:=0) rfl,k,en.at (j:=1) rfl,?_⟩;rw[Gb,bS (x:=(t:Int)+1) (by omega) (by omega),bS (x:=(n:Int)+((t:Int)+1)) (by omega) (by omega)];rw[cond_neg (by rw[bI (show(n:Int)+((t:Int)+1)<=(s-4)*k by omega)];rfl)];refine L4 o7 (by omega) λeJ Em U8 vF Gk=>?_
  try dsimp only[bL]
  subst U8;rw[cond_neg (by rw[Xx ady (by omega)];simp)]
  have:=fin (t+1) eJ _ ady (Vy.trans jG) (by omega) (by omega) (.inl rfl) (vF.more (by omega) λ_ e=>e) (Gk _ _ _ _ _ _ _ en (by decide))
  rw[show((t+1:Nat):Int)=(t:Int)+1 by omega,bS (x:=(t:Int)+1) (by omega) (by omega)]at this;exact this
end
section
variable{w0 W:World}{pp N n:Nat}{s k:Int}
theorem ak6{δ B:Nat}{z:Int}(aI:0<=z/\z<256)(h:ec w0 pp W N (λA=>xX n n 0 A/\A.cap=(s-4)*k))(ek:N<=3000)(g:mO s k)(ar:1<=n/\n<=32)(en:μ W B b2 2 (some ⟨δ,0,none⟩) 1 1 (two s k)):
  fl.bK z δ (some ⟨pp,0,none⟩) (n:Int) W (ω λv w'=>v=.bool true/\η w0 w'):=by
 unfold fl.bK fl.eZ;refine⟨λt3 t9 t11 t12 t14 W=>z=t3/\δ=t9/\some ⟨pp,0,none⟩=t11/\(n:Int)=t12/\0<=t14/\t14<=3/\ec w0 pp W (N+20*t14.toNat) (λA=>xX n n t14.toNat A/\A.cap=(s-4)*k)/\μ W B b2 2 (some ⟨δ,0,none⟩) 1 1 (two s k),λ_ _ _ _ t14 _=>(3-t14).toNat,⟨rfl,rfl,rfl,rfl,by omega,by omega,h.more (by omega) λ_ h=>h,en⟩,?_⟩;clear h en;rintro _ _ _ _ t14 W ⟨rfl,rfl,rfl,rfl,g0,g1,h,en⟩;unfold fl.ζ;obtain⟨i,rfl⟩:=eF g0;rw[ch]at h;refine bt (λI=>?_) (λI=>?_)
 ·have I:=b6 I;refine gv h (by omega) (ki 3 i 0 0) (tx _ _ _ _ _) (tz _ _ _ _) λdp A u cc wZ oH hu=>?_;have iA:dW (ki 3 i 0 0)=wO i:=rfl;rw[iA]at wZ hu;obtain⟨dK,fp,na⟩:=au9 cc.1 (i:=i) (by omega) ar.1;refine hu.err ?_;rw[dK,cond_neg (by rfl)];refine L4 wZ (by omega) λdP sD sZ w1 yB=>?_
  try dsimp only[bL]
  subst sZ;rw[agq fp (dO _),cond_neg (by simp),bS (x:=(i:Int)+1) (by omega) (by omega)];have aP:((i:Int)+1).toNat=i+1:=by omega
  refine⟨⟨by trivial,by trivial,by trivial,by trivial,by omega,by omega,?_,yB _ _ _ _ _ _ _ (oH _ _ _ _ _ _ _ en (by decide)) (by decide)⟩,by((try dsimp only);omega)⟩;rw[aP];exact w1.more (by omega) λgm e=>e▸⟨fp,na.trans cc.2⟩
 ·have I:=dn I;obtain rfl:i=3:=by omega
  exact ak7 aI h (by omega) g ar en
theorem ak9{δ B:Nat}{z:Int}(aI:0<=z/\z<256)(h:ec w0 pp W N (λA=>xX n 0 0 A/\A.cap=(s-4)*k))(ek:N<=1000)(g:mO s k)(ar:1<=n/\n<=32)(π:(n:Int)<=(s-4)*k)(en:μ W B b2 2 (some ⟨δ,0,none⟩) 1 1 (two s k)):
  fl.bb z δ (some ⟨pp,0,none⟩) (n:Int) 0 W (ω λv w'=>v=.bool true/\η w0 w'):=by
 unfold fl.bb;refine⟨λt3 t9 t11 t12 t13 W=>z=t3/\δ=t9/\some ⟨pp,0,none⟩=t11/\(n:Int)=t12/\0<=t13/\t13<=n/\ec w0 pp W (N+10*t13.toNat) (λA=>xX n t13.toNat 0 A/\A.cap=(s-4)*k)/\μ W B b2 2 (some ⟨δ,0,none⟩) 1 1 (two s k),λ_ _ _ _ t13 _=>(n-t13).toNat,⟨rfl,rfl,rfl,rfl,by omega,by omega,h.more (by omega) λ_ h=>h,en⟩,?_⟩;clear h en;rintro _ _ _ _ t13 W ⟨rfl,rfl,rfl,rfl,g0,g1,h,en⟩;unfold fl.δ;obtain⟨j,rfl⟩:=eF g0;rw[ch]at h;refine bt (λψ=>?_) (λψ=>?_)
 ·have ψ:=b6 ψ;have ara:IntKind.u8.wrap (j:Int)=j:=by rw[tJ];omega
  rw[ara];refine κ.use (wW j (by omega) W) ?_;rintro _ cd ⟨hz,rfl,eW,of⟩
  try dsimp only[ee]
  have kD:=h.to eW;have en:=en.ex eW;refine gv kD (by omega) (qM 0 j j hz) of.cells (Aw hz (by omega)) λcE A u cc vE n9 hu=>?_;have iA:dW (qM 0 j j hz)=hd ((0:Nat):Int) j (List.replicate 64 (j:Int)):=rfl;rw[iA]at vE hu;obtain⟨dK,fp,na⟩:=ava (bs:=List.replicate 64 (j:Int)) cc.1 (by omega) (by rw[cc.2];exact π) (by simp);rw[dK]at hu;refine hu.err ?_;rw[cond_neg (by rfl),bS (x:=(j:Int)+1) (by omega) (by omega)];have aP:((j:Int)+1).toNat=j+1:=by omega
  refine⟨⟨by trivial,by trivial,by trivial,by trivial,by omega,by omega,?_,n9 _ _ _ _ _ _ _ en (by decide)⟩,by((try dsimp only);omega)⟩;rw[aP];exact vE.more (by omega) λgm e=>e▸⟨fp,na.trans cc.2⟩
 ·have ψ:=dn ψ;obtain rfl:j=n:=by omega
  exact ak6 aI h (by omega) g ar en
theorem ZY{δ B:Nat}{z:Int}(aI:0<=z/\z<256)(h:ec w0 pp W 2 (λA=>A=sj s k))(g:mO s k)(ar:1<=n/\n<=32)(π:(n:Int)<=(s-4)*k)(en:μ W B b2 2 (some ⟨δ,0,none⟩) 1 1 (two s k)):
  fl.aV z δ (some ⟨pp,0,none⟩) (n:Int) W (ω λv w'=>v=.bool true/\η w0 w'):=by
 unfold fl.aV;refine gv h (by omega) (ki 1 0 0 n) (tx _ _ _ _ _) (tz _ _ _ _) λbW A u cc hD iq hu=>?_;subst cc;have iA:dW (ki 1 0 0 n)=ox n:=rfl;rw[iA]at hD hu;have eB:(sj s k).E=[]++List.replicate (7+1) oX:=rfl;have LR:=Pq (s:=n) (by omega) (λe he=>by cases he) eB;rw[LR]at hD hu;refine hu.err ?_;rw[cond_neg (by rfl)];refine ak9 aI (hD.more (dO _) λgm e=>?_) (by omega) g ar π (iq _ _ _ _ _ _ _ en (by decide));subst e;refine⟨⟨List.replicate n none,?_,⟨by simp,λb τ=>by omega,λb _ τ=>by rw[List.getElem?_replicate,aN τ]⟩,rfl⟩,rfl⟩;dsimp only;rw[ch];rfl
end
theorem alH(a b y z:Int)(w:World)(aR:0<=a/\a<256)(τ:0<=b/\b<256)(ag:0<=y/\y<256)(aI:0<=z/\z<256):
  fl.C a b y z w (ω λv w'=>v=.bool true/\η w w'):=by
 apply fl.ok;unfold fl.main;refine κ.use (Rb a b aR τ w) ?_;rintro _ ε ⟨rfl,θ⟩
 try dsimp only[hA,h7]
 have g:mO (6+a%9) (2+b%5):=PM;generalize 6+a%9=s at g⊢;generalize 2+b%5=k at g⊢;rintro δ χ eL rfl;have en:=μ.new (w:=ε) (two 0 0) b2;rw[<-eL]at en;have ad:=η.alloc ε (.cells (two 0 0).toArray b2);have gA:ε.alloc (.cells #[.int .i64 0,.int .i64 0] b2)=ε.alloc (.cells (two 0 0).toArray b2):=rfl;rw[gA];generalize ε.alloc (.cells (two 0 0).toArray b2)=χ at en ad⊢;refine aT rfl (en.put (cs:=two s k) rfl nP λao cI en=>⟨(two s k).toArray,rfl,en.cells,?_⟩);have Dq:=θ.size;have iF:η w ao:=(θ.trans ad).then cI λi I=>by omega
 refine κ.use (KX g ao) ?_;rintro _ an ⟨pd,pp,D,rfl,acQ⟩
 try dsimp only[ca,cT,cU,bo,n0,nD,jz]
 have fe:=acQ.tp;have en:=en.ex acQ.ex;refine κ.use (Y2 an) ?_;rintro _ a8 ⟨rfl,aU⟩
 try dsimp only[dX]
 have LG:=fe.to aU;have en:=en.ex aU;have h:ec w pp a8 2 (λA=>A=sj s k):=⟨pd,_,_,_,_,D,⟨LG.is,LG.ok,LG.aA,λi I=>gE iF.size (LG.new i I),iF.trans LG.ex⟩,dO _,rfl⟩;have U3:=g;unfold mO at U3;have apV:(s-4)*k<=10*6:=qJ (by omega) (by omega) (by omega) (by omega);have azB:2*2<=(s-4)*k:=qJ (by omega) (by omega) (by omega) (by omega);have Gb:IntKind.i64.wrap (IntKind.i64.wrap (s-4)*k)=(s-4)*k:=by rw[bS (x:=s-4) (by omega) (by omega),bS (by omega) (by omega)]
 refine⟨s,en.at (j:=0) rfl,k,en.at (j:=1) rfl,?_⟩;rw[Gb,bS (x:=y) (by omega) (by omega)];refine aT (by omega) ?_;have hm:Int.tmod y ((s-4)*k)=y%((s-4)*k):=xD ag.1;have BB:=Nt y (show(s-4)*k≠0 by omega);have zZ:=Nj y (show 0<(s-4)*k by omega);rw[hm];generalize y%((s-4)*k)=r at BB zZ⊢;rw[bS (x:=1+r) (by omega) (by omega)];refine bt (λlD=>?_) (λlD=>?_)
 ·have lD:=b6 lD;exact ZY (n:=32) aI h g (by omega) (by omega) en
 ·have lD:=dn lD;obtain⟨n,ar⟩:=eF (show 0<=1+r by omega);rw[ar];exact ZY aI h g (by omega) (by omega) en
end Go.Proofs.YtcpdfhkhaekekaaGreat.G.cY

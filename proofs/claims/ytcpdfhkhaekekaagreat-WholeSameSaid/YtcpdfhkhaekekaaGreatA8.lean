/- The walk of the functions, and the plain laws of the model: part of the proof. Conditions: none. -/
import Derived.Test.YtcpdfhkhaekekaaGreatA7
set_option linter.unusedVariables false
set_option linter.unusedSimpArgs false
namespace Go.Proofs.YtcpdfhkhaekekaaGreat.G
open Tryz
open Go.bJ Go.RowKit
abbrev gn:=Int×Int×List eK
abbrev bZ:=List gn
def kinds(R:bZ):aY:=R.flatMap λe=>two e.1 e.2.1
def bT(R:bZ)(ps:aY):aY:=kinds R++ps
def mG(e:gn):Prop:=(∀q∈e.2.2,kH q)/\e.2.2.length<=1000/\(0<=e.1/\e.1<256)/\(0<=e.2.1/\e.2.1<256)
structure iE(w:World)(R:bZ)(ps:aY):Prop where
 len:R.length=8
 dN:ps.length=8
 row:∀(k:Nat)(e:gn),R[k]?=some e->∃(p:γ)(c:Nat),ps[k]?=some (Value.slice p e.2.2.length c)/\bd w p (e.2.2.map et)
 ok:∀e∈R,mG e
theorem iE.aO{w w':World}{R:bZ}{ps:aY}(h:iE w R ps){S:bl}(k:Kp w w' S)(ab:∀p n c,Value.slice p n c∈ps->∀a,p=some a->¬S a.block):iE w' R ps:=
 ⟨h.len,h.dN,λj e he=>by obtain⟨p,c,h1,ι⟩:=h.row j e he;exact⟨p,c,h1,ι.aO k λa aR=>ab p _ c (fa h1) a aR⟩,h.ok⟩
theorem iE.ex{w w':World}{R:bZ}{ps:aY}(h:iE w R ps)(x:η w w'):iE w' R ps:=h.aO x λ_ _ _ _ _ _ h=>h
theorem BP:∀R:bZ,(kinds R).length=2*R.length
 |[]=>rfl
 |e::R=>by
  have:=BP R
  unfold kinds at this⊢;rw[As,fw,this,kU];simp only[two,kU,G8];omega
theorem WO:∀(R:bZ)(k:Nat)(e:gn),R[k]?=some e->∃t,(kinds R).drop (k*2)=two e.1 e.2.1++t
 |[],k,e,h=>by simp at h
 |a::R,0,e,h=>by
  obtain rfl:a=e:=by simpa using h
  exact⟨kinds R,rfl⟩
 |a::R,k+1,e,h=>by
  obtain⟨t,aS⟩:=WO R k e (by simpa using h);refine⟨t,?_⟩;have bM:(k+1)*2=k*2+2:=by omega
  rw[bM];exact aS
theorem iE.Gm{w:World}{R:bZ}{ps:aY}(h:iE w R ps):(kinds R).length=16:=by rw[BP,h.len]
theorem iE.eA{w:World}{R:bZ}{ps:aY}(h:iE w R ps):(bT R ps).length=24:=by unfold bT;rw[fw,h.Gm,h.dN]
theorem iE.take{w:World}{R:bZ}{ps:aY}(h:iE w R ps):(bT R ps).take 16=kinds R:=by unfold bT;rw[qj (by rw[h.Gm];omega),hR (by rw[h.Gm];omega)]
theorem iE.drop{w:World}{R:bZ}{ps:aY}(h:iE w R ps):(bT R ps).drop 16=ps:=by
 unfold bT
 have:=h.Gm
 rw[<-this,Nr]
theorem iE.pair{w:World}{R:bZ}{ps:aY}(h:iE w R ps){k:Nat}{e:gn}(he:R[k]?=some e):(kinds R).toArray.extract (k*2) (k*2+2)=(two e.1 e.2.1).toArray:=by
 obtain⟨t,aS⟩:=WO R k e he;apply rM;rw[Array.toList_extract];have aP:(kinds R).toArray.toList.extract (k*2) (k*2+2)=((kinds R).drop (k*2)).take 2:=by rw[List.extract_eq_take_drop];congr 1;omega
 rw[aP,aS];rfl
theorem iE.place{w:World}{R:bZ}{ps:aY}(h:iE w R ps)(k:Nat):(bT R ps)[16+k]?=ps[k]?:=by
 have:=hr (λl=>l[k]?) h.drop
 rwa[List.getElem?_drop]at this
theorem iE.get{w:World}{R:bZ}{ps:aY}(h:iE w R ps){k:Nat}(hk:k<8):∃e,R[k]?=some e:=⟨R[k]'(by rw[h.len];exact hk),List.getElem?_eq_getElem _⟩
theorem Km(a b:Int):∀z∈two a b,z.oneCell'=true:=nP
theorem iE.one{w:World}{R:bZ}{ps:aY}(h:iE w R ps):∀z∈bT R ps,z.oneCell'=true:=by
 intro z aI;unfold bT at aI;rcases iC.1 aI with aI|aI
 ·obtain⟨e,_,he⟩:=qk.1 aI;exact Km _ _ z he
 ·obtain⟨k,hk⟩:=List.getElem?_of_mem aI;have BA:k<8:=by have:=(List.getElem?_eq_some_iff.1 hk).1;have:=h.dN;omega
  obtain⟨e,he⟩:=h.get BA;obtain⟨p,c,h1,_⟩:=h.row k e he;rw[hk]at h1;cases h1;rfl
def r2(e:gn):Prop:=(e.2.2.length:Int)=e.2.1/\(0<=e.1/\e.1<3)/\(e.1=0->e.2.1=0)/\(e.1≠0->1<=e.2.1/\e.2.1<33)
def mv(R:bZ):Prop:=∀e∈R,r2 e
instance(e:gn):Decidable (r2 e):=inferInstanceAs (Decidable (_/\_))
instance(R:bZ):Decidable (mv R):=inferInstanceAs (Decidable (∀e∈R,r2 e))
theorem avq{R:bZ}{k:Nat}{e:gn}(he:R[k]?=some e)(h:¬r2 e):decide (mv R)=false:=iX λs=>h (s e (fa he))
theorem avp{R:bZ}(dD:R.length=8)(h:∀(j:Nat)(e:gn),j<8->R[j]?=some e->r2 e):decide (mv R)=true:=bI λe he=>by obtain⟨k,hk⟩:=List.getElem?_of_mem he;exact h k e (by have:=(List.getElem?_eq_some_iff.1 hk).1;omega) hk
theorem agx{R:bZ}{k:Nat}{e:gn}(he:R[k]?=some e)(h:r2 e)(H:∀(j:Nat)(e:gn),j<k->R[j]?=some e->r2 e):∀(j:Nat)(e:gn),j<k+1->R[j]?=some e->r2 e:=λj db ψ ej=>by
 by_cases VW:j=k
 ·subst VW;rw[he]at ej;cases ej;exact h
 ·exact H j db (by omega) ej
theorem Iv{w:World}{R:bZ}{ps:aY}(h:iE w R ps):ud.C (bT R ps).toArray w (ω λv w'=>v=.bool (decide (mv R))/\η w w'):=by
 apply ud.ok;unfold ud.main;rintro δ ε rfl rfl;have σ:=μ.new (w:=w) (bT R ps) b3;have θ:=η.alloc w (.cells (bT R ps).toArray b3);generalize w.heap.size=δ at σ⊢;generalize w.alloc (.cells (bT R ps).toArray b3)=ε at σ θ⊢;have h:=h.ex θ;refine⟨(kinds R).toArray,by rw[fP];exact h.Gm,by have:=bd.take σ.cells 16;rwa[h.take]at this,?_⟩;unfold ud.bb;refine⟨λt1 t7 t8 w'=>δ=t1/\(kinds R).toArray=t7/\0<=t8/\t8<=8/\(∀(j:Nat)(e:gn),j<t8.toNat->R[j]?=some e->r2 e)/\η ε w',λt1 t7 t8 w'=>(8-t8).toNat,⟨rfl,rfl,by omega,by omega,λj e ψ=>by simp at ψ,η.refl _⟩,?_⟩;rintro _ _ t8 w' ⟨rfl,rfl,aF,dD,ew,J⟩;unfold ud.δ;obtain⟨k,rfl⟩:=eF aF;rw[ch]at ew;refine bt (λbQ=>?_) (λbQ=>?_)
 ·have bQ:=b6 bQ;have hk:k<8:=by omega
  obtain⟨e,he⟩:=h.get hk;obtain⟨p,c,hp,lG⟩:=h.row k e he;obtain⟨dJ,ak,_,_⟩:=h.ok e (fa he);refine bU (bI aF) (bU (bI bQ) ?_);rw[ch,h.pair he];rintro ζ υ rfl rfl;have af:=μ.new (w:=w') [.int .i64 0,.int .i64 0] jR;have ρ:=η.alloc w' (.cells [Value.int .i64 0,.int .i64 0].toArray jR);generalize w'.alloc (.cells #[.int .i64 0,.int .i64 0] jR)=υ at af ρ⊢;refine bU (by rfl) ?_;refine af.put (cs:=two e.1 e.2.1) (by rfl) (Km _ _) λχ b4 bh=>?_;have ad:η w' χ:=ρ.then b4 λi I=>I▸dO _;have oG:=J.trans ad;refine bU (bI aF) (bU (bI bQ) ?_);rw[Ba];refine⟨p,e.2.2.length,c,(σ.ex oG).at (by rw[h.place,hp]),e.2.1,bh.at (by rfl),?_⟩;have bad:∀{iu:World},η ε iu->¬r2 e->ω (λv w'=>v=.bool (decide (mv R))/\η w w') (.returned (.bool false)) iu:=λJ ar=>by rw[avq he ar];exact ω.mk ⟨rfl,θ.trans J⟩
  refine bt (λπ=>?_) (λπ=>?_)
  ·have π:¬(e.2.2.length:Int)=e.2.1:=by simpa using π
   exact bad oG λs=>π s.1
  have g1:(e.2.2.length:Int)=e.2.1:=by simpa using π
  refine⟨e.1,bh.at (by rfl),?_⟩;refine bt (λπ=>?_) (λπ=>?_)
  ·have g2:e.1=0:=by simpa using π
   refine⟨e.2.1,bh.at (by rfl),?_⟩;refine bt (λπ=>?_) (λπ=>?_)
   ·have π:¬e.2.1=0:=by simpa using π
    exact bad oG λs=>π (s.2.2.1 g2)
   have g3:e.2.1=0:=by simpa using π
   refine⟨e.1,bh.at (by rfl),?_⟩;refine κ.use (BK e.1 0 3 _) ?_;rintro _ _ ⟨rfl,rfl⟩
   try dsimp only[dX]
   rw[bI (by omega),bI (by omega),cond_neg (by rfl)];refine⟨e.1,bh.at (by rfl),?_⟩;rw[g2,cond_neg (by rfl)];refine κ.use (acD p _ c e.2.2 _ (lG.ex oG) rfl (by omega) dJ) ?_;rintro _ _ ⟨rfl,rfl⟩
   try dsimp only[dX,jz]
   rw[Ij hk];exact⟨⟨rfl,rfl,by omega,by omega,agx he ⟨g1,by omega,λ_=>g3,λar=>absurd g2 ar⟩ ew,oG⟩,by((try dsimp only);omega)⟩
  ·have g2:¬e.1=0:=by simpa using π
   refine⟨e.1,bh.at (by rfl),?_⟩;refine κ.use (BK e.1 0 3 _) ?_;rintro _ _ ⟨rfl,rfl⟩
   try dsimp only[dX]
   refine bt (λπ=>?_) (λπ=>?_)
   ·refine bad oG λs=>?_;rw[bI s.2.1.1,bI s.2.1.2]at π;cases π
   have g4:0<=e.1/\e.1<3:=by simpa using π
   refine⟨e.1,bh.at (by rfl),?_⟩;rw[cond_pos (by simpa using g2)];refine⟨e.2.1,bh.at (by rfl),?_⟩;refine κ.use (BK e.2.1 1 33 _) ?_;rintro _ _ ⟨rfl,rfl⟩
   try dsimp only[dX]
   refine bt (λπ=>?_) (λπ=>?_)
   ·refine bad oG λs=>?_
    have:=s.2.2.2 g2
    rw[bI this.1,bI this.2]at π;cases π
   have g5:1<=e.2.1/\e.2.1<33:=by simpa using π
   refine κ.use (acD p _ c e.2.2 _ (lG.ex oG) rfl (by omega) dJ) ?_;rintro _ _ ⟨rfl,rfl⟩
   try dsimp only[dX,jz]
   rw[Ij hk];exact⟨⟨rfl,rfl,by omega,by omega,agx he ⟨g1,g4,λar=>absurd ar g2,λ_=>g5⟩ ew,oG⟩,by((try dsimp only);omega)⟩
 ·have bQ:=dn bQ;obtain rfl:k=8:=by omega
  rw[avp h.len ew];exact ω.mk ⟨rfl,θ.trans J⟩
open Go.bJ Go.RowKit
def Ey(s k:Int)(R:bZ):Prop:=may s k=true/\mv R/\∀e∈R,e.2.2.any (uD s k)=false
theorem aym{s m:Int}{R:bZ}{k:Nat}{e:gn}(he:R[k]?=some e)(h:e.2.2.any (uD s m)=false)(H:∀(j:Nat)(e:gn),j<k->R[j]?=some e->e.2.2.any (uD s m)=false):∀(j:Nat)(e:gn),j<k+1->R[j]?=some e->e.2.2.any (uD s m)=false:=λj db ψ ej=>by
 by_cases VW:j=k
 ·subst VW;rw[he]at ej;cases ej;exact h
 ·exact H j db (by omega) ej
theorem Tz{w:World}{R:bZ}{ps:aY}(h:iE w R ps)(s m:Int):
  uE.C (bT R ps).toArray s m w (ω λv w'=>(∃e,v=.int .i64 e/\(e=0↔Ey s m R))/\η w w'):=by
 apply uE.ok;unfold uE.main;rintro δ ε rfl rfl ζ υ rfl rfl;have σ:=μ.new (w:=w) (bT R ps) b3;have θ:=η.alloc w (.cells (bT R ps).toArray b3);generalize w.heap.size=δ at σ⊢;generalize w.alloc (.cells (bT R ps).toArray b3)=ε at σ θ⊢;have af:=μ.new (w:=ε) (two s m) b2;have ρ:=η.alloc ε (.cells (two s m).toArray b2);have bM:ε.alloc (.cells #[.int .i64 s,.int .i64 m] b2)=ε.alloc (.cells (two s m).toArray b2):=rfl;rw[bM];generalize ε.heap.size=ζ at af⊢;generalize ε.alloc (.cells (two s m).toArray b2)=υ at af ρ⊢;have σ:=σ.ex ρ;have kr:=θ.trans ρ;have h:=h.ex kr;refine⟨(two s m).toArray,rfl,af.cells,?_⟩;refine κ.use (KB s m _) ?_;rintro _ χ ⟨rfl,ad⟩
 try dsimp only[bL]
 cases hm:may s m with
 |false=>
  rw[cond_pos (by rfl)];refine ω.mk ⟨⟨1,rfl,?_⟩,kr.trans ad⟩;constructor
  ·intro h;cases h
  ·intro h;rw[h.1]at hm;cases hm
 |true=>
 have ea:=vQ.1 hm;rw[cond_neg (by rfl)];have h:=h.ex ad;refine⟨(bT R ps).toArray,by rw[fP];exact h.eA,(σ.ex ad).cells,?_⟩;refine κ.use (Iv h) ?_;rintro _ an ⟨rfl,ay⟩
 try dsimp only[dX]
 have Gg:=kr.trans (ad.trans ay);refine bt (λab=>?_) (λab=>?_)
 ·have ab:¬mv R:=by simpa using ab
  refine ω.mk ⟨⟨2,rfl,?_⟩,Gg⟩;constructor
  ·intro h;cases h
  ·intro h;exact absurd h.2.1 ab
 have ab:mv R:=by simpa using ab
 have h:=h.ex ay;have af:=(af.ex ad).ex ay;have ah:aB an (⟨δ,16,none⟩:Addr) ps:=by
  have:=aB.drop (σ.ex (ad.trans ay)).cells 16
  rwa[Addr.add_lit,oh,h.drop]at this
 refine⟨ps.toArray,by rw[fP];exact h.dN,ah,?_⟩;unfold uE.bb;refine⟨λt3 t17 t18 w'=>ζ=t3/\ps.toArray=t17/\0<=t18/\t18<=8/\(∀(j:Nat)(e:gn),j<t18.toNat->R[j]?=some e->e.2.2.any (uD s m)=false)/\η an w',λt3 t17 t18 w'=>(8-t18).toNat,⟨rfl,rfl,by omega,by omega,λj e ψ=>by simp at ψ,η.refl _⟩,?_⟩;rintro _ _ t18 w' ⟨rfl,rfl,aF,dD,ew,J⟩;unfold uE.δ;obtain⟨k,rfl⟩:=eF aF;rw[ch]at ew;refine bt (λbQ=>?_) (λbQ=>?_)
 ·have bQ:=b6 bQ;have hk:k<8:=by omega
  obtain⟨e,he⟩:=h.get hk;obtain⟨p,c,hp,lG⟩:=h.row k e he;obtain⟨dJ,ak,_,_⟩:=h.ok e (fa he);refine bU (bI aF) (bU (bI bQ) ?_);rw[ch,eS];have gA:ps.toArray[k]?=some (.slice p e.2.2.length c):=by rw[List.getElem?_toArray];exact hp
  rw[gA]
  try dsimp only[bo,ee]
  refine κ.use (ao2 p _ c e.2.2 w' (lG.ex J) rfl (by omega) dJ s m ea (af.ex J)) ?_;rintro _ aZ ⟨rfl,aM⟩
  try dsimp only[dX]
  refine bt (λaR=>?_) (λaR=>?_)
  ·refine ω.mk ⟨⟨5,rfl,?_⟩,Gg.trans (J.trans aM)⟩;constructor
   ·intro h;cases h
   ·intro h;rw[h.2.2 e (fa he)]at aR;cases aR
  ·rw[Ij hk];exact⟨⟨rfl,rfl,by omega,by omega,aym he aR ew,J.trans aM⟩,by((try dsimp only);omega)⟩
 ·have bQ:=dn bQ;obtain rfl:k=8:=by omega
  refine ω.mk ⟨⟨0,rfl,?_⟩,Gg.trans J⟩;constructor
  ·intro _;refine⟨hm,ab,λe he=>?_⟩;obtain⟨k,hk⟩:=List.getElem?_of_mem he;exact ew k e (by have:=(List.getElem?_eq_some_iff.1 hk).1;have:=h.len;omega) hk
  ·intro _;rfl
def qW(e:gn):List (Nat×Nat):=e.2.2.filterMap id
def used(R:bZ):List (Nat×Nat):=R.flatMap qW
def gK(l:List (Nat×Nat)):List (Nat×Nat):=l.foldl (λacc x=>if x∈acc then acc else acc++[x]) []
theorem QV(l:List (Nat×Nat))(x:Nat×Nat):gK (l++[x])=if x∈gK l then gK l else gK l++[x]:=by unfold gK;rw[List.foldl_append];rfl
theorem kv:∀(l:List (Nat×Nat))(x:Nat×Nat),x∈gK l↔x∈l:=by
 intro l;have key:∀n(l:List (Nat×Nat)),l.length=n->∀x,x∈gK l↔x∈l:=by
  intro n
  induction n with
  |zero=>intro l ak x;obtain rfl:=tu ak;exact og
  |succ n cw=>
   intro l ak x;obtain⟨mF,y,rfl⟩:∃mF y,l=mF++[y]:=⟨l.dropLast,l.getLast (by intro h;subst h;simp at ak),(List.dropLast_concat_getLast _).symm⟩;have l0:mF.length=n:=by simpa using ak
   rw[QV];split
   ·rename_i h;rw[cw mF l0 x,iC,ma];constructor
    ·exact Or.inl
    ·rintro(h1|rfl)
     ·exact h1
     ·exact(cw mF l0 _).1 h
   ·rw[iC,iC,cw mF l0 x]
 exact key l.length l rfl
theorem xk:∀l:List (Nat×Nat),(gK l).Nodup:=by
 intro l;have key:∀n(l:List (Nat×Nat)),l.length=n->(gK l).Nodup:=by
  intro n
  induction n with
  |zero=>intro l ak;obtain rfl:=tu ak;exact Rt
  |succ n cw=>
   intro l ak;obtain⟨mF,y,rfl⟩:∃mF y,l=mF++[y]:=⟨l.dropLast,l.getLast (by intro h;subst h;simp at ak),(List.dropLast_concat_getLast _).symm⟩;have l0:mF.length=n:=by simpa using ak
   rw[QV];split
   ·exact cw mF l0
   ·rename_i h;refine List.nodup_append.2 ⟨cw mF l0,by simp,λa aR b τ=>?_⟩;rw[ma]at τ;subst τ;intro ι;subst ι;exact h aR
 exact key l.length l rfl
def hg(x:Nat×Nat):Prop:=x.1<24/\x.2<16
theorem YR{e:gn}(h:∀q∈e.2.2,kH q):∀x∈qW e,hg x:=λx J=>by
 obtain⟨q,aH,aP⟩:=wa.1 J;cases q with
 |none=>cases aP
 |some y=>cases aP;exact h _ aH
structure wF(w:World)(B b n:Nat)(cL:List (Nat×Nat)):Prop where
 low:B<=b
 at_:∃es:Array MapEntry,w.heap[b]?=some (.map es es.size)/\es.toList.map (·.key)=cL.map (λx=>et (some x))/\
  (∀(i:Nat)(e:MapEntry),es.toList[i]?=some e->e.born=i/\∃p m c xs,e.val=.slice p m c/\μ w B ig 2 p m c xs/\m<=n)/\
  (∀(i j:Nat)(e db:MapEntry),es.toList[i]?=some e->es.toList[j]?=some db->i≠j->∀a m c fL m' aW,e.val=.slice (some a) m c->db.val=.slice (some fL) m' aW->a.block≠fL.block)
theorem wF.aO{w w':World}{B b n:Nat}{cL:List (Nat×Nat)}(h:wF w B b n cL){S:bl}(k:Kp w w' S)(eU:∀i,B<=i->i<w.heap.size->¬S i):wF w' B b n cL:=by obtain⟨h1,es,ι,aJ,cK,dx⟩:=h;have τ:b<w.heap.size:=(Array.getElem?_eq_some_iff.1 ι).1;refine⟨h1,es,by rw[k.block b τ (eU b h1 τ)];exact ι,aJ,λi e he=>?_,dx⟩;obtain⟨g1,p,m,c,xs,g2,g3,g4⟩:=cK i e he;exact⟨g1,p,m,c,xs,g2,g3.aO k λa aR=>eU _ (g3.ge aR).1 (g3.ge aR).2,g4⟩
theorem Dz{x y:Nat×Nat}(J:hg x)(ag:hg y)(h:x≠y):(eQ .eql (eX (some x)) (eX (some y))&&eQ .eql (e5 (some x)) (e5 (some y)))=false:=by rw[XN (q:=some x) (r:=some y) J ag];exact iX λe=>h (Cd e)
theorem WN{x:Nat×Nat}(J:hg x):(eQ .eql (eX (some x)) (eX (some x))&&eQ .eql (e5 (some x)) (e5 (some x)))=true:=by rw[XN (q:=some x) (r:=some x) J J];exact bI rfl
theorem XB:Kz prog AK (.slice none 0 0):=by
 unfold Kz
 kernel_rfl
theorem PI{es:Array MapEntry}(h:∀(i:Nat)(e:MapEntry),es.toList[i]?=some e->e.born=i){i:Nat}(I:i<es.size):es.findIdx? (λe=>(e.born:Int)==(i:Int))=some i:=by
 rw[Array.findIdx?_eq_some_iff_getElem];refine⟨I,?_,λj ψ=>?_⟩
 ·have:=h i es[i] (by rw[Array.getElem?_toList];exact Array.getElem?_eq_getElem I)
  rw[this];simp
 ·have:=h j es[j] (by rw[Array.getElem?_toList];exact Array.getElem?_eq_getElem (by omega))
  rw[this];simp;omega
set_option maxRecDepth 8000 in
theorem wF.step{w:World}{B b n:Nat}{cL:List (Nat×Nat)}(h:wF w B b n cL)(ar:n<=100000)(eh:B<=w.heap.size){x:Nat×Nat}(J:hg x)(pZ:∀y∈cL,hg y)(t4 t17:Int){N:al}
  (K:∀aZ,Kp w aZ (λi=>B<=i)->wF aZ B b (n+1) (if x∈cL then cL else cL++[x])->N aZ):
  aK w #[(Value.int .i64 t4),(Value.int .i64 t17)] ig λax χ=>
      ξ (some b) λaa=>
      QO prog χ aa (eX (some x)) (e5 (some x)) AK (.slice none 0 0) λv2 st1 ao=>
      cX v2 λaX bu c2=>
      ho ao aX bu c2 1 (bd ao (some ⟨ax,0,none⟩)) ig 2 16 #[(Value.int .i64 0),(Value.int .i64 0)] λbj bP an=>
      ξ (some b) λcu=>
      QP an cu st1 (Value.slice bj (bu+1) bP) λaZ=>N aZ:=by
 rintro ax χ rfl rfl;have bh:=μ.new (w:=w) [.int .i64 t4,.int .i64 t17] ig;have ad:=η.alloc w (.cells [Value.int .i64 t4,.int .i64 t17].toArray ig);have jm:w.heap.size<=w.heap.size:=dO _;have gA:w.alloc (.cells #[.int .i64 t4,.int .i64 t17] ig)=w.alloc (.cells [Value.int .i64 t4,.int .i64 t17].toArray ig):=rfl;rw[gA];generalize apd:w.heap.size=ax at bh jm⊢;generalize w.alloc (.cells [Value.int .i64 t4,.int .i64 t17].toArray ig)=χ at bh ad⊢;have aJ:=h.aO ad λ_ _ _ h=>h;obtain⟨oE,es,qC,yr,fj,Bu⟩:=aJ;have LO:b<χ.heap.size:=(Array.getElem?_eq_some_iff.1 qC).1;have hlen:es.size=cL.length:=by
  have:=hr List.length yr
  simpa using this
 try dsimp only[bo]
 refine⟨XB,es,es.size,qC,?_⟩;have yq:∀(i:Nat)(y:Nat×Nat),cL[i]?=some y->∃e,es.toList[i]?=some e/\e.key=et (some y):=by
  intro i y ag;have h1:i<cL.length:=(List.getElem?_eq_some_iff.1 ag).1;have ι:i<es.toList.length:=by rw[lL];omega
  refine⟨es.toList[i],List.getElem?_eq_getElem ι,?_⟩
  have:=hr (λl=>l[i]?) yr
  rw[List.getElem?_map,List.getElem?_map,ag,List.getElem?_eq_getElem ι]at this;simpa using this
 have LX:∀(i:Nat)(e:MapEntry),es.toList[i]?=some e->∃y,cL[i]?=some y/\e.key=et (some y):=by
  intro i e he;have ι:i<es.toList.length:=(List.getElem?_eq_some_iff.1 he).1;have h1:i<cL.length:=by rw[lL]at ι;omega
  refine⟨cL[i],List.getElem?_eq_getElem h1,?_⟩
  have:=hr (λl=>l[i]?) yr
  rw[List.getElem?_map,List.getElem?_map,he,List.getElem?_eq_getElem h1]at this;simpa using this
 have uB:μ χ B ig 2 (some ⟨ax,0,none⟩) 1 1 [.int .i64 t4,.int .i64 t17]:=bh.lower (by omega);have Vo:ax<χ.heap.size:=(bh.ge rfl).2;by_cases j0:x∈cL
 ·
  right;obtain⟨i,I⟩:=List.getElem?_of_mem j0;have VL:∃i,cL[i]?=some x/\∀y∈cL.take i,y≠x:=by
   clear I
   have:∀l:List (Nat×Nat),x∈l->∃i,l[i]?=some x/\∀y∈l.take i,y≠x:=by
    intro l
    induction l with
    |nil=>intro h;cases h
    |cons a l cw=>
     intro h;by_cases FQ:a=x
     ·exact⟨0,by simp[FQ],λy ag=>by simp at ag⟩
     ·obtain⟨i,h1,ι⟩:=cw (by rcases fB.1 h with h|h;exact absurd h.symm FQ;exact h);refine⟨i+1,by simpa using h1,λy ag=>?_⟩;rw[List.take_succ_cons]at ag;rcases fB.1 ag with h|h
      ·rw[h];exact FQ
      ·exact ι y h
   exact this cL j0
  obtain⟨i,I,Vr⟩:=VL;obtain⟨e,he,VJ⟩:=yq i x I;refine⟨i,e,he,VJ,WN J,λdb ej=>?_,?_⟩
  ·obtain⟨j,ψ⟩:=List.getElem?_of_mem ej;have h9:j<i:=by
    have:=(List.getElem?_eq_some_iff.1 ψ).1
    rw[hs]at this;omega
   rw[List.getElem?_take_of_lt h9]at ψ;obtain⟨y,ag,Gi⟩:=LX j db ψ;have Ww:y∈cL.take i:=by refine fa (i:=j) ?_;rw[List.getElem?_take_of_lt h9];exact ag
   exact⟨eX (some y),e5 (some y),Gi,Dz J (pZ y (fa ag)) (λh=>Vr y Ww h.symm)⟩
  ·obtain⟨rm,p,m,c,xs,az,aG,hm⟩:=fj i e he;rw[az]
   try dsimp only[ee]
   refine CM (B:=B) aG (by have:=ad.size;omega) [.int .i64 t4,.int .i64 t17] bh.cells rfl nP rfl (by omega) (by omega) ?_;intro bj bP an cB dT ph;have lY:an.heap[b]?=some (.map es es.size):=by
    rw[dT.block b LO (λ⟨a,aR,um⟩=>?_)]
    ·exact qC
    ·obtain⟨cur,fr,aS⟩:=(aG.typed aR).1;rw[um,qC]at aS;cases aS
   have VV:i<es.size:=by have:=(List.getElem?_eq_some_iff.1 he).1;rwa[lL]at this
   refine⟨es,es.size,i,lY,by rw[rm];exact PI (λi e he=>(fj i e he).1) VV,λaZ BH=>?_⟩;subst BH;have po:=Kp.putObj an b (.map (es.modify i λe=>{e with val:=Value.slice bj (m+1) bP}) es.size);have FT:b<an.heap.size:=(Array.getElem?_eq_some_iff.1 lY).1;have pe:Kp w (an.putObj b (.map (es.modify i λe=>{e with val:=Value.slice bj (m+1) bP}) es.size)) (λi=>B<=i):=by
    refine Kp.trans (ad.aO λi=>B<=i) (Kp.trans dT po (U:=λi=>B<=i) (λi _⟨a,aR,I⟩=>?_) λi _ I=>?_) (λ_ _ h=>h) (λ_ _ h=>h)
    ·have:=(aG.ge aR).1;omega
    ·rw[I];exact oE
   refine K _ pe ?_;rw[aN j0];have ne:∀{q:γ}{m' aW:Nat}{ys:aY},μ an B ig 2 q m' aW ys->μ (an.putObj b (.map (es.modify i λe=>{e with val:=Value.slice bj (m+1) bP}) es.size)) B ig 2 q m' aW ys:=λo=>o.aO po λa aR I=>by obtain⟨cur,fr,aS⟩:=(o.typed aR).1;rw[I,lY]at aS;cases aS
   have Wa:∀(j:Nat)(db:MapEntry),es.toList[j]?=some db->j≠i->∀{q:γ}{m' aW:Nat}{ys:aY},db.val=.slice q m' aW->μ χ B ig 2 q m' aW ys->μ an B ig 2 q m' aW ys:=λj db ej h9 q m' aW ys n5 o=>o.aO dT λa aR⟨fL,Bt,h2⟩=>by subst aR;subst Bt;exact Bu j i db e ej he h9 a m' aW fL m c n5 az h2.symm
   have mS:∀(j:Nat)(hL:MapEntry),(es.modify i λe=>{e with val:=Value.slice bj (m+1) bP}).toList[j]?=some hL->(j=i/\hL={e with val:=Value.slice bj (m+1) bP})\/(j≠i/\es.toList[j]?=some hL):=λj hL gT=>by
    rw[Cc,List.getElem?_modify]at gT;by_cases h9:i=j
    ·subst h9;rw[he]at gT;left;simp at gT;exact⟨rfl,gT.symm⟩
    ·right;refine⟨λh=>h9 h.symm,?_⟩;simpa[h9]using gT
   refine⟨oE,es.modify i λe=>{e with val:=Value.slice bj (m+1) bP},?_,?_,?_,?_⟩
   ·rw[World.putObj_heap_same FT,Ru]
   ·rw[<-yr];apply rL;intro j;rw[List.getElem?_map,List.getElem?_map,Cc,List.getElem?_modify];cases es.toList[j]?with
    |none=>rfl
    |some db=>simp only[jB];split<;>rfl
   ·intro j hL gT;rcases mS j hL gT with⟨rfl,rfl⟩|⟨h9,ej⟩
    ·exact⟨rm,bj,m+1,bP,_,rfl,ne cB,by omega⟩
    ·obtain⟨g1,q,m',aW,ys,g2,g3,g4⟩:=fj j hL ej;exact⟨g1,q,m',aW,ys,g2,ne (Wa j hL ej h9 g2 g3),by omega⟩
   ·intro sg p4 aP bM zT mD b1 aw m1 c1 a2 m2 c2 nH nI;have ui:∀(j:Nat)(db:MapEntry),es.toList[j]?=some db->j≠i->∀fL m' aW a3,db.val=.slice (some fL) m' aW->bj=some a3->a3.block≠fL.block:=λj db ej h9 fL m' aW a3 n5 hp=>by
     rcases ph with rfl|s5
     ·exact Bu i j e db he ej (λh=>h9 h.symm) a3 m c fL m' aW (by rw[az,hp]) n5
     ·have h1:=s5 a3 hp;obtain⟨_,q,W1,TN,ys,g2,g3,_⟩:=fj j db ej;rw[n5]at g2;cases g2
      have:=(g3.ge rfl).2
      omega
    rcases mS sg aP zT with⟨rfl,rfl⟩|⟨h1,g1⟩
    ·rcases mS p4 bM mD with⟨rfl,rfl⟩|⟨ι,g2⟩
     ·exact absurd rfl b1
     ·have nH:Value.slice bj (m+1) bP=Value.slice (some aw) m1 c1:=nH;cases nH;exact ui p4 bM g2 ι a2 m2 c2 aw nI rfl
    ·rcases mS p4 bM mD with⟨rfl,rfl⟩|⟨ι,g2⟩
     ·have nI:Value.slice bj (m+1) bP=Value.slice (some a2) m2 c2:=nI;cases nI
      exactλh=>ui sg aP g1 h1 aw m1 c1 a2 nH rfl h.symm
     ·exact Bu sg p4 aP bM g1 g2 b1 aw m1 c1 a2 m2 c2 nH nI
 ·
  left;refine⟨λe he=>?_,λao ur=>?_⟩
  ·obtain⟨j,ψ⟩:=List.getElem?_of_mem he;obtain⟨y,ag,Gi⟩:=LX j e ψ;exact⟨eX (some y),e5 (some y),Gi,Dz J (pZ y (fa ag)) (λh=>j0 (h▸fa ag))⟩
  have po:=Kp.putObj χ b (.map (es.push ⟨.complex .f64 (eX (some x)) (e5 (some x)),.slice none 0 0,es.size⟩) (es.size+1));have lX:ao.heap[b]?=some (.map (es.push ⟨.complex .f64 (eX (some x)) (e5 (some x)),.slice none 0 0,es.size⟩) (es.size+1)):=by rw[ur];exact World.putObj_heap_same LO
  rw[<-ur]at po;have t3:∀{q:γ}{m' aW:Nat}{ys:aY},μ χ B ig 2 q m' aW ys->μ ao B ig 2 q m' aW ys:=λo=>o.aO po λa aR I=>by obtain⟨cur,fr,aS⟩:=(o.typed aR).1;rw[I,qC]at aS;cases aS
  try dsimp only[ee]
  refine CM (B:=B) (μ.nil ao B ig 2) (by have:=ad.size;have:=po.size;omega) [.int .i64 t4,.int .i64 t17] (t3 uB).cells rfl nP rfl (by omega) (by omega) ?_;intro bj bP an cB dT ph;have ay:η ao an:=dT.mono λi _⟨y,e,_⟩=>by cases e
  have s5:∀a,bj=some a->ao.heap.size<=a.block:=λa aR=>by
   rcases ph with rfl|h
   ·cases aR
   ·exact h a aR
  have lY:an.heap[b]?=some (.map (es.push ⟨.complex .f64 (eX (some x)) (e5 (some x)),.slice none 0 0,es.size⟩) (es.size+1)):=by rw[ay.block b (Array.getElem?_eq_some_iff.1 lX).1 id];exact lX
  generalize F6:es.push ⟨.complex .f64 (eX (some x)) (e5 (some x)),.slice none 0 0,es.size⟩=mB at lX lY⊢;have eV:mB.size=es.size+1:=by rw[<-F6,Array.size_push]
  have n2:∀(j:Nat)(hL:MapEntry),mB.toList[j]?=some hL->(j=es.size/\hL=⟨.complex .f64 (eX (some x)) (e5 (some x)),.slice none 0 0,es.size⟩)\/(j<es.size/\es.toList[j]?=some hL):=λj hL gT=>by
   rw[<-F6,Rv]at gT;by_cases ψ:j<es.size
   ·right;rw[List.getElem?_append_left (by rw[lL];exact ψ)]at gT;exact⟨ψ,gT⟩
   ·left;rw[List.getElem?_append_right (by rw[lL];omega),lL]at gT;have F3:j-es.size=0:=by
     cases aH:j-es.size with
     |zero=>rfl
     |succ n=>rw[aH]at gT;simp at gT
    rw[F3]at gT;exact⟨by omega,by simpa using gT.symm⟩
  have rm:∀(i:Nat)(e:MapEntry),mB.toList[i]?=some e->e.born=i:=λi e he=>by
   rcases n2 i e he with⟨rfl,rfl⟩|⟨_,h⟩
   ·rfl
   ·exact(fj i e h).1
  refine⟨mB,es.size+1,es.size,lY,PI rm (by omega),λaZ BH=>?_⟩;have BO:=Kp.putObj an b (.map (mB.modify es.size λe=>{e with val:=Value.slice bj (0+1) bP}) (es.size+1));rw[<-BH]at BO;have FT:b<an.heap.size:=(Array.getElem?_eq_some_iff.1 lY).1;have t5:∀{q:γ}{m' aW:Nat}{ys:aY},μ an B ig 2 q m' aW ys->μ aZ B ig 2 q m' aW ys:=λo=>o.aO BO λa aR I=>by obtain⟨cur,fr,aS⟩:=(o.typed aR).1;rw[I,lY]at aS;cases aS
  have pe:Kp w aZ (λi=>B<=i):=by
   refine Kp.trans (ad.aO λi=>B<=i) (Kp.trans po (Kp.trans ay BO (U:=λi=>B<=i) (λ_ _ h=>h.elim) λi _ I=>?_) (U:=λi=>B<=i) (λi _ I=>?_) (λ_ _ h=>h)) (λ_ _ h=>h) (λ_ _ h=>h)
   ·rw[I];exact oE
   ·rw[I];exact oE
  refine K _ pe ?_;rw[aL j0];have mS:∀(j:Nat)(hL:MapEntry),(mB.modify es.size λe=>{e with val:=Value.slice bj (0+1) bP}).toList[j]?=some hL->(j=es.size/\hL=⟨.complex .f64 (eX (some x)) (e5 (some x)),Value.slice bj (0+1) bP,es.size⟩)\/(j<es.size/\es.toList[j]?=some hL):=λj hL gT=>by
   rw[Cc,List.getElem?_modify]at gT;by_cases h9:es.size=j
   ·subst h9;left;cases aH:mB.toList[es.size]?with
    |none=>rw[aH]at gT;simp at gT
    |some hB=>
     rcases n2 _ hB aH with⟨_,rfl⟩|⟨h,_⟩
     ·rw[aH]at gT;simp at gT;exact⟨rfl,gT.symm⟩
     ·omega
   ·have VI:mB.toList[j]?=some hL:=by simpa[h9]using gT
    rcases n2 _ hL VI with⟨h,_⟩|h
    ·omega
    ·exact .inr h
  refine⟨oE,mB.modify es.size λe=>{e with val:=Value.slice bj (0+1) bP},?_,?_,?_,?_⟩
  ·rw[BH,World.putObj_heap_same FT,Ru,eV]
  ·rw[ss,<-yr];have aP:(mB.modify es.size λe=>{e with val:=Value.slice bj (0+1) bP}).toList.map (·.key)=mB.toList.map (·.key):=by
    apply rL;intro j;rw[List.getElem?_map,List.getElem?_map,Cc,List.getElem?_modify];cases mB.toList[j]?with
    |none=>rfl
    |some db=>simp only[jB];split<;>rfl
   rw[aP,<-F6,Rv,ss];rfl
  ·intro j hL gT;rcases mS j hL gT with⟨rfl,rfl⟩|⟨ψ,ej⟩
   ·exact⟨rfl,bj,0+1,bP,_,rfl,t5 cB,by omega⟩
   ·obtain⟨g1,q,m',aW,ys,g2,g3,g4⟩:=fj j hL ej;exact⟨g1,q,m',aW,ys,g2,t5 ((t3 g3).ex ay),by omega⟩
  ·intro sg p4 aP bM zT mD b1 aw m1 c1 a2 m2 c2 nH nI;have ui:∀(j:Nat)(db:MapEntry),es.toList[j]?=some db->∀fL m' aW a3,db.val=.slice (some fL) m' aW->bj=some a3->a3.block≠fL.block:=λj db ej fL m' aW a3 n5 hp=>by
    have h1:=s5 a3 hp;obtain⟨_,q,W1,TN,ys,g2,g3,_⟩:=fj j db ej;rw[n5]at g2;cases g2
    have:=(g3.ge rfl).2
    have:=po.size
    omega
   rcases mS sg aP zT with⟨rfl,rfl⟩|⟨h1,g1⟩
   ·rcases mS p4 bM mD with⟨rfl,rfl⟩|⟨ι,g2⟩
    ·exact absurd rfl b1
    ·have nH:Value.slice bj (0+1) bP=Value.slice (some aw) m1 c1:=nH;cases nH;exact ui p4 bM g2 a2 m2 c2 aw nI rfl
   ·rcases mS p4 bM mD with⟨rfl,rfl⟩|⟨ι,g2⟩
    ·have nI:Value.slice bj (0+1) bP=Value.slice (some a2) m2 c2:=nI;cases nI
     exactλh=>ui sg aP g1 aw m1 c1 a2 nH rfl h.symm
    ·exact Bu sg p4 aP bM g1 g2 b1 aw m1 c1 a2 m2 c2 nH nI
end Go.Proofs.YtcpdfhkhaekekaaGreat.G
namespace Go.Proofs.YtcpdfhkhaekekaaGreat.G
open Go.bJ Go.RowKit
theorem wF.mono{w:World}{B b n fG:Nat}{cL:List (Nat×Nat)}(h:wF w B b n cL)(ar:n<=fG):wF w B b fG cL:=by obtain⟨h1,es,ι,aJ,cK,dx⟩:=h;refine⟨h1,es,ι,aJ,λi e he=>?_,dx⟩;obtain⟨g1,p,m,c,xs,g2,g3,g4⟩:=cK i e he;exact⟨g1,p,m,c,xs,g2,g3,by omega⟩
theorem ag4{R:bZ}{k:Nat}{e:gn}(he:R[k]?=some e):(R.take (k+1)).flatMap qW=(R.take k).flatMap qW++qW e:=by obtain⟨hk,rfl⟩:=List.getElem?_eq_some_iff.1 he;rw[mb hk,xB];simp
theorem St{l:List eK}{j:Nat}(ψ:j<l.length):(l.take (j+1)).filterMap id=(l.take j).filterMap id++[l[j]].filterMap id:=by rw[mb ψ,List.filterMap_append]
theorem sB{R:bZ}(h:∀e∈R,mG e):∀x∈used R,hg x:=λx J=>by obtain⟨e,he,h1⟩:=qk.1 J;exact YR (h e he).1 x h1
theorem afv{R:bZ}(h:∀e∈R,mG e){k:Nat}{e:gn}(he:R[k]?=some e)(j:Nat):∀x∈(R.take k).flatMap qW++(e.2.2.take j).filterMap id,hg x:=λx J=>by
 rcases iC.1 J with J|J
 ·obtain⟨e,he,h1⟩:=qk.1 J;exact YR (h e (xy he)).1 x h1
 ·obtain⟨q,aH,h1⟩:=wa.1 J;exact YR (h e (fa he)).1 x (wa.2 ⟨q,xy aH,h1⟩)
theorem alW{w:World}{R:bZ}{ps:aY}(h:iE w R ps):
  la.C (bT R ps).toArray w (ω λv w'=>(∃(b:Nat)(es:Array MapEntry),v=.map (some b)/\w'.heap[b]?=some (.map es es.size)/\es.size=(gK (used R)).length)/\η w w'):=by
 apply la.ok;unfold la.main;have l4:=h.row;rintro δ ε rfl rfl ζ υ rfl rfl;have σ:=μ.new (w:=w) (bT R ps) b3;have θ:=η.alloc w (.cells (bT R ps).toArray b3);generalize w.heap.size=δ at σ⊢;generalize w.alloc (.cells (bT R ps).toArray b3)=ε at σ θ⊢;have ρ:=η.alloc ε (.map #[] 0);have hm:=FY ε (.map #[] 0);have eh:ε.heap.size<=(ε.alloc (.map #[] 0)).heap.size:=ρ.size;have Wr:=θ.size;generalize aoD:ε.heap.size=B at hm eh Wr⊢;have m0:wF (ε.alloc (.map #[] 0)) B B 0 []:=⟨dO _,#[],hm,rfl,λi e he=>by simp at he,λi j e db he=>by simp at he⟩;generalize ε.alloc (.map #[] 0)=υ at ρ eh m0⊢;have h:=h.ex (θ.trans ρ);have σ:=σ.ex ρ;have ah:aB υ (⟨δ,16,none⟩:Addr) ps:=by
  have:=aB.drop σ.cells 16
  rwa[Addr.add_lit,oh,h.drop]at this
 refine⟨ps.toArray,by rw[fP];exact h.dN,ah,?_⟩;unfold la.bb;refine⟨λt3 t10 t11 w'=>t3=some B/\ps.toArray=t10/\0<=t11/\t11<=8/\wF w' B B (t11.toNat*1000) (gK ((R.take t11.toNat).flatMap qW))/\Kp υ w' (λi=>B<=i),λt3 t10 t11 w'=>(8-t11).toNat,⟨rfl,rfl,by omega,by omega,m0,Kp.refl _ _⟩,?_⟩;rintro _ _ t11 w' ⟨rfl,rfl,aF,dD,mR,J⟩;unfold la.δ;obtain⟨k,rfl⟩:=eF aF;rw[ch]at mR;have fin:∀{w':World},Kp υ w' (λi=>B<=i)->η w w':=λJ=>(θ.trans ρ).then J λi τ=>by omega
 refine bt (λbQ=>?_) (λbQ=>?_)
 ·have bQ:=b6 bQ;have hk:k<8:=by omega
  obtain⟨e,he⟩:=h.get hk;obtain⟨p,c,hp,FV⟩:=l4 k e he;have lG:=(FV.ex θ).ex ρ;obtain⟨dJ,ak,_,_⟩:=h.ok e (fa he);refine bU (bI aF) (bU (bI bQ) ?_);rw[ch,eS];have gA:ps.toArray[k]?=some (.slice p e.2.2.length c):=by rw[List.getElem?_toArray];exact hp
  rw[gA]
  try dsimp only[bo,ee]
  unfold la.eZ;refine⟨λt3 t4 t10 t11 tC tB wj t16 t17 w'=>t3=some B/\ps.toArray=t10/\(k:Int)=t11/\p=tC/\e.2.2.length=tB/\c=wj/\(e.2.2.length:Int)=t16/\0<=t17/\t17<=e.2.2.length/\wF w' B B (k*1000+t17.toNat) (gK ((R.take k).flatMap qW++(e.2.2.take t17.toNat).filterMap id))/\Kp υ w' (λi=>B<=i),
   λt3 t4 t10 t11 tC tB wj t16 t17 w'=>(e.2.2.length-t17).toNat,⟨rfl,rfl,rfl,rfl,rfl,rfl,rfl,by omega,by omega,?_,J⟩,?_⟩
  ·have:(R.take k).flatMap qW++(e.2.2.take (0:Int).toNat).filterMap id=(R.take k).flatMap qW:=by simp
   rw[this];exact mR.mono (Nat.le_add_right _ _)
  clear mR J;rintro _ t4 _ _ _ _ _ _ t17 w' ⟨rfl,rfl,rfl,rfl,rfl,rfl,rfl,i0,i1,mR,J⟩;unfold la.ζ;obtain⟨j,rfl⟩:=eF i0;rw[ch]at mR;have FM:B<=w'.heap.size:=by have:=J.size;omega
  refine bt (λπ=>?_) (λπ=>?_)
  ·have π:=b6 π;have ψ:j<e.2.2.length:=by omega
   have zP:bd w' p (e.2.2.map et):=by
    have:=lG.aO J (λa aR τ=>by subst aR;have h1:=Pg (FV.cell (j:=j) (by rw[jM];exact ψ));rw[zv]at h1;omega)
    exact this
   obtain⟨a,rfl,r⟩:=GO zP ψ;have aH:=dJ _ (hP ψ);refine bU (bI i0) (bU (bI π) ?_)
   try dsimp only[bo]
   rw[ch,eS];refine⟨_,_,r,?_⟩;rw[empty_eq aH];have l2:IntKind.i64.wrap ((j:Int)+1)=((j+1:Nat):Int):=by rw[bS (by omega) (by omega)];rfl
   have kg:((j+1:Nat):Int).toNat=j+1:=rfl;cases s8:e.2.2[j]with
   |none=>
    rw[cond_neg (by rfl),l2];refine⟨⟨rfl,rfl,rfl,rfl,rfl,rfl,rfl,by omega,by omega,?_,J⟩,by((try dsimp only);omega)⟩;rw[kg,St ψ,s8]
    have:[(none:eK)].filterMap id=[]:=rfl
    rw[this,qi];exact mR.mono (by omega)
   |some x=>
    rw[s8]at aH;rw[cond_pos (by rfl)];refine mR.step (by omega) FM aH (λy ag=>afv h.ok he j y ((kv _ _).1 ag)) t4 j λaZ eD m6=>?_;rw[l2];refine⟨⟨rfl,rfl,rfl,rfl,rfl,rfl,rfl,by omega,by omega,?_,J.gL eD⟩,by((try dsimp only);omega)⟩;rw[kg,St ψ,s8]
    have:[(some x:eK)].filterMap id=[x]:=rfl
    rw[this,<-nc,QV];exact m6.mono (by omega)
  ·have π:=dn π;have ψ:j=e.2.2.length:=by omega
   rw[Ij hk];refine⟨⟨rfl,rfl,by omega,by omega,?_,J⟩,by((try dsimp only);omega)⟩;have kg:((k+1:Nat):Int).toNat=k+1:=rfl;rw[kg,ag4 he];rw[ψ,Cb]at mR;exact mR.mono (by omega)
 ·have bQ:=dn bQ;obtain rfl:k=8:=by omega
  obtain⟨_,es,ι,aJ,_,_⟩:=mR;refine ω.mk ⟨⟨B,es,rfl,ι,?_⟩,fin J⟩
  have:=hr List.length aJ
  rw[jM,jM,hR (by rw[h.len];omega)]at this;simpa[used]using this
def dN(U:List (Nat×Nat)):aY:=U.map λx=>et (some x)
theorem atX(U:List (Nat×Nat)):∀z∈dN U,z.oneCell'=true:=by intro z aI;obtain⟨q,_,rfl⟩:=gx.1 aI;rfl
theorem afB(U V:List (Nat×Nat)):dN U++dN V=dN (U++V):=by simp[dN]
theorem Ap(U:List (Nat×Nat)):(dN U).length=U.length:=by simp[dN]
open Go.bJ Go.RowKit
theorem ry{α:Type}:∀(l m:List α),l.Nodup->(∀x∈l,x∈m)->l.length<=m.length
 |[],m,_,_=>eR _
 |a::l,m,ar,ab=>by
  obtain⟨s,t,rfl⟩:=List.append_of_mem (ab a (oj ..));have L9:=Ns.1 ar
  have:=ry l (s++t) L9.2 λx J=>by
   have h1:=ab x (ie _ J);have b1:x≠a:=λh=>L9.1 (h▸J);rcases iC.1 h1 with h|h
   ·exact iC.2 (.inl h)
   ·rcases fB.1 h with h|h
    ·exact absurd h b1
    ·exact iC.2 (.inr h)
  simp only[fw,kU]at this⊢;omega
theorem Xw{s k:Int}{R:bZ}:(∀e∈R,e.2.2.any (uD s k)=false)↔∀x∈used R,Ji s k (some x)=true:=by
 constructor
 ·intro h x J;obtain⟨e,he,J⟩:=qk.1 J;obtain⟨q,aH,aP⟩:=wa.1 J
  have:=JM.1 (h e he) q aH
  cases q with
  |none=>cases aP
  |some y=>
   cases aP;simpa[uD]using this
 ·intro h e he;refine JM.2 λq aH=>?_;cases q with
  |none=>simp[uD]
  |some y=>
   have:=h y (qk.2 ⟨e,he,wa.2 ⟨_,aH,rfl⟩⟩)
   simp[uD,this]
def mN(s k:Int)(R:bZ):Prop:=Ey s k R/\((gK (used R)).length:Int)<=(s-4)*k
theorem Zz{w:World}{R:bZ}{ps:aY}(h:iE w R ps)(s m:Int):
  GK.C (bT R ps).toArray s m w (ω λv w'=>(∃e,v=.int .i64 e/\(e=0↔mN s m R))/\η w w'):=by
 apply GK.ok;unfold GK.main;rintro δ ε rfl rfl ζ υ rfl rfl;have σ:=μ.new (w:=w) (bT R ps) b3;have θ:=η.alloc w (.cells (bT R ps).toArray b3);generalize w.heap.size=δ at σ⊢;generalize w.alloc (.cells (bT R ps).toArray b3)=ε at σ θ⊢;have af:=μ.new (w:=ε) (two s m) b2;have ρ:=η.alloc ε (.cells (two s m).toArray b2);have bM:ε.alloc (.cells #[.int .i64 s,.int .i64 m] b2)=ε.alloc (.cells (two s m).toArray b2):=rfl;rw[bM];generalize ε.heap.size=ζ at af⊢;generalize ε.alloc (.cells (two s m).toArray b2)=υ at af ρ⊢;have σ:=σ.ex ρ;have kr:=θ.trans ρ;have h:=h.ex kr;refine⟨(bT R ps).toArray,by rw[fP];exact h.eA,σ.cells,(two s m).toArray,rfl,af.cells,?_⟩;refine κ.use (Tz h s m) ?_;rintro _ χ ⟨⟨e,rfl,he⟩,ad⟩
 try dsimp only[bL]
 refine bt (λπ=>?_) (λπ=>?_)
 ·have π:¬e=0:=by simpa using π
  exact ω.mk ⟨⟨e,rfl,λh=>absurd h π,λh=>he.2 h.1⟩,kr.trans ad⟩
 have π:e=0:=by simpa using π
 have fX:=he.1 π;have ea:=vQ.1 fX.1;refine⟨(two s m).toArray,rfl,(af.ex ad).cells,?_⟩;refine κ.use (S1 s m ea χ) ?_;rintro _ an ⟨rfl,ay⟩
 try dsimp only[ca,cT,cU,bo,bL]
 have Cz:=ad.trans ay;have h:=h.ex Cz;refine⟨(bT R ps).toArray,by rw[fP];exact h.eA,(σ.ex Cz).cells,?_⟩;refine κ.use (alW h) ?_;rintro _ a8 ⟨⟨b,es,rfl,τ,qC⟩,aU⟩
 try dsimp only[Px]
 refine⟨_,_,τ,?_⟩;dsimp only;have fin:=kr.trans (Cz.trans aU);rw[qC];refine bt (λπ=>?_) (λπ=>?_)
 ·have π:=b6 π;refine ω.mk ⟨⟨9,rfl,⟨λh=>(by cases h),λh=>(by have:=h.2;omega)⟩⟩,fin⟩
 ·have π:=dn π;exact ω.mk ⟨⟨0,rfl,λ_=>⟨fX,by omega⟩,λ_=>rfl⟩,fin⟩
end Go.Proofs.YtcpdfhkhaekekaaGreat.G
namespace Go.Proofs.YtcpdfhkhaekekaaGreat.G
open Tryz
open Go.bJ Go.RowKit
def BS(k:Int):eK->Int
 |none=>0
 |some x=>x.1*k+x.2+1
def DG(k:Int)(q:eK):aq:=bB.be 2 (BS k q)
def j4(k:Int)(l:List eK):aq:=l.flatMap (DG k)
def yU(k:Int)(e:gn):aq:=[e.1,e.2.1]++j4 k e.2.2
def fg(k:Int)(R:bZ):aq:=R.flatMap (yU k)
theorem JC(k:Int):∀l:List eK,(j4 k l).length=2*l.length
 |[]=>rfl
 |q::l=>by
  have:=JC k l
  unfold j4 at this⊢;rw[As,fw,this];unfold DG;rw[bB.tV,kU];omega
theorem XG(k:Int)(e:gn):(yU k e).length=2+2*e.2.2.length:=by unfold yU;rw[fw,JC];rfl
theorem atV(k:Int)(l:List eK):Bytes (j4 k l):=λx J=>by obtain⟨q,_,h⟩:=qk.1 J;exact bB.CU _ _ x h
theorem atH{k:Int}{e:gn}(h:mG e):Bytes (yU k e):=λx J=>by
 unfold yU at J;rcases iC.1 J with J|J
 ·simp only[fB,oi,py]at J;rcases J with rfl|rfl
  ·exact h.2.2.1
  ·exact h.2.2.2
 ·exact atV k _ x J
theorem afw{k:Int}{R:bZ}(h:∀e∈R,mG e):Bytes (fg k R):=λx J=>by obtain⟨e,he,h1⟩:=qk.1 J;exact atH (h e he) x h1
theorem Ss{R:bZ}{k:Nat}{e:gn}(he:R[k]?=some e)(m:Int):fg m (R.take (k+1))=fg m (R.take k)++yU m e:=by obtain⟨hk,rfl⟩:=List.getElem?_eq_some_iff.1 he;unfold fg;rw[mb hk,xB];simp
theorem atE{R:bZ}(h:∀e∈R,mG e)(m:Int)(k:Nat):(fg m (R.take k)).length<=k*2002:=by
 induction k with
 |zero=>simp[fg]
 |succ k cw=>
  by_cases hk:k<R.length
  ·rw[Ss (List.getElem?_eq_getElem hk),fw,XG];have h1:=(h _ (hP hk)).2.1;omega
  ·rw[hR (by omega)];rw[hR (by omega)]at cw;exact gE cw (uK 2002 (Nat.le_succ k))
theorem af9{n:Int}(h:0<=n/\n<65536):bB.qm 2 [n]=bB.be 2 n:=by
 have:=(bB.J4 (k:=2) (by omega) (by omega) [n]).2
 have e:((2:Nat):Int)=2:=rfl;rw[e]at this;rw[this,aN (by simp[bB.pt];omega)];simp
theorem Yf{n:Int}(h:0<=n/\n<4294967296):bB.qm 4 [n]=bB.be 4 n:=by
 have:=(bB.J4 (k:=4) (by omega) (by omega) [n]).2
 have e:((4:Nat):Int)=4:=rfl;rw[e]at this;rw[this,aN (by simp[bB.pt];omega)];simp
theorem auN{a b c:Int}(aR:0<=a/\a<256)(τ:0<=b/\b<256)(π:0<=c/\c<256):bB.qm 1 [a,b,c]=[a,b,c]:=by
 have:=(bB.J4 (k:=1) (by omega) (by omega) [a,b,c]).2
 have e:((1:Nat):Int)=1:=rfl;rw[e]at this;rw[this,aN (by simp[bB.pt];omega)];simp[bB.be];omega
theorem ad0{s k:Int}{R:bZ}(h:mN s k R){e:gn}(he:e∈R){x:Nat×Nat}(J:some x∈e.2.2):(x.2:Int)<k/\(x.1:Int)*k+x.2<s*k:=by
 have:=Xw.1 h.1.2.2 x (qk.2 ⟨e,he,wa.2 ⟨_,J,rfl⟩⟩)
 rw[Mv]at this;simpa using this
theorem atJ{w:World}{R:bZ}{ps:aY}(h:iE w R ps){s m:Int}(kE:mN s m R):
  oI.C (bT R ps).toArray s m w (ω λv w'=>(∃p c,v=.slice p (fg m R).length c/\μ w' w.heap.size dt 1 p (fg m R).length c (a7 (fg m R)))/\η w w'):=by
 have ea:=vQ.1 kE.1.1;have hp:=M7 ea;apply oI.ok;unfold oI.main;have l4:=h.row;rintro δ ε rfl rfl ζ υ rfl rfl;have σ:=μ.new (w:=w) (bT R ps) b3;have θ:=η.alloc w (.cells (bT R ps).toArray b3);generalize eL:w.heap.size=δ at σ⊢;generalize w.alloc (.cells (bT R ps).toArray b3)=ε at σ θ⊢;have af:=μ.new (w:=ε) (two s m) b2;have ρ:=η.alloc ε (.cells (two s m).toArray b2);have bM:ε.alloc (.cells #[.int .i64 s,.int .i64 m] b2)=ε.alloc (.cells (two s m).toArray b2):=rfl;rw[bM];have Gf:=θ.size;generalize ε.heap.size=ζ at af Gf⊢;generalize ε.alloc (.cells (two s m).toArray b2)=υ at af ρ⊢;have σ:=σ.ex ρ;have kr:=θ.trans ρ;have h:=h.ex kr;refine⟨(kinds R).toArray,by rw[fP];exact h.Gm,by have:=bd.take σ.cells 16;rwa[h.take]at this,?_⟩;unfold oI.bb;refine⟨λt2 t3 mK nj ni t12 t13 w'=>δ=t2/\ζ=t3/\(kinds R).toArray=t12/\0<=t13/\t13<=8/\nj=(fg m (R.take t13.toNat)).length/\μ w' υ.heap.size dt 1 mK nj ni (a7 (fg m (R.take t13.toNat)))/\η υ w',λt2 t3 mK nj ni t12 t13 w'=>(8-t13).toNat,⟨rfl,rfl,rfl,by omega,by omega,rfl,μ.nil _ _ _ _,η.refl _⟩,?_⟩;rintro _ _ mK nj ni _ t13 w' ⟨rfl,rfl,rfl,aF,dD,ar,own,J⟩;unfold oI.δ;obtain⟨k,rfl⟩:=eF aF;rw[ch]at ar own;subst ar;refine bt (λbQ=>?_) (λbQ=>?_)
 ·have bQ:=b6 bQ;have hk:k<8:=by omega
  obtain⟨e,he⟩:=h.get hk;obtain⟨p,c,aqE,FV⟩:=l4 k e he;have lG:=(FV.ex θ).ex ρ;have ac3:=fa he;obtain⟨dJ,ak,w9,oD⟩:=h.ok e ac3;have vJ:=atE h.ok m k;refine bU (bI aF) (bU (bI bQ) ?_);rw[ch,h.pair he];rintro ax χ rfl rfl;have bh:=μ.new (w:=w') [.int .i64 0,.int .i64 0] jR;have ad:=η.alloc w' (.cells [Value.int .i64 0,.int .i64 0].toArray jR);generalize w'.alloc (.cells #[.int .i64 0,.int .i64 0] jR)=χ at bh ad⊢;refine bU (by rfl) ?_;refine bh.put (cs:=two e.1 e.2.1) (by rfl) (Km _ _) λao cI cJ=>?_;have aC:η w' ao:=ad.then cI λi I=>I▸dO _;refine⟨e.1,cJ.at (by rfl),e.2.1,cJ.at (by rfl),?_⟩;rintro aa an rfl rfl;have cB:=μ.alloc (w:=ao) (bB.v64 [e.1,e.2.1]) cz 1 2 rfl;have ay:=η.alloc ao (.cells (bB.v64 [e.1,e.2.1]).toArray cz);have iJ:ao.alloc (.cells #[.int .i64 e.1,.int .i64 e.2.1] cz)=ao.alloc (.cells (bB.v64 [e.1,e.2.1]).toArray cz):=rfl;rw[iJ];generalize ao.alloc (.cells (bB.v64 [e.1,e.2.1]).toArray cz)=an at cB ay⊢;have Kx:=aC.trans ay;refine κ.use (DL (own.ex Kx) (J.trans Kx).size 1 cB.cells rfl (by omega) (by omega)) ?_;rintro _ aZ ⟨kh,sS,rfl,bY,eD⟩
  try dsimp only[ee]
  rw[af8 _ _ w9 oD]at bY⊢;have aM:η υ aZ:=(J.trans Kx).then eD λi⟨x,e,I⟩=>by
   have:=(own.ge e).1
   omega
  refine bU (bI aF) (bU (bI bQ) ?_);rw[Ba];refine⟨p,e.2.2.length,c,(σ.ex aM).at (by rw[h.place,aqE]),?_⟩;unfold oI.eZ;generalize dd:fg m (R.take k)=P at own bY vJ⊢;rw[<-fw]at bY⊢;refine⟨λt2 t3 mK nj ni t12 t13 Kh Kg NX t28 t29 iu=>δ=t2/\ζ=t3/\(kinds R).toArray=t12/\(k:Int)=t13/\p=Kh/\e.2.2.length=Kg/\c=NX/\(e.2.2.length:Int)=t28/\0<=t29/\t29<=e.2.2.length/\nj=(P++[e.1,e.2.1]++j4 m (e.2.2.take t29.toNat)).length/\μ iu υ.heap.size dt 1 mK nj ni (a7 (P++[e.1,e.2.1]++j4 m (e.2.2.take t29.toNat)))/\η υ iu,
   λt2 t3 mK nj ni t12 t13 Kh Kg NX t28 t29 iu=>(e.2.2.length-t29).toNat,⟨rfl,rfl,rfl,rfl,rfl,rfl,rfl,rfl,by omega,by omega,by simp[j4],by simpa[j4]using bY,aM⟩,?_⟩
  clear own bY aM eD;rintro _ _ mK nj ni _ _ _ _ _ _ t29 iu ⟨rfl,rfl,rfl,rfl,rfl,rfl,rfl,rfl,i0,i1,ar,own,Mq⟩;unfold oI.ζ;obtain⟨j,rfl⟩:=eF i0;rw[ch]at ar own;subst ar;refine bt (λπ=>?_) (λπ=>?_)
  ·have π:=b6 π;have ψ:j<e.2.2.length:=by omega
   obtain⟨a,rfl,r⟩:=GO (lG.ex Mq) ψ;have aH:=dJ _ (hP ψ);have j0:=hP ψ;have z8:j4 m (e.2.2.take (j+1))=j4 m (e.2.2.take j)++DG m e.2.2[j]:=by unfold j4;rw[mb ψ,xB];simp
   have zY:(P++[e.1,e.2.1]++j4 m (e.2.2.take j)).length<=100000:=by rw[fw,fw,JC,hs];simp only[kU,G8];omega
   refine bU (bI i0) (bU (bI π) ?_)
   try dsimp only[bo]
   rw[ch,eS];refine⟨_,_,r,?_⟩;rw[empty_eq aH];have l2:IntKind.i64.wrap ((j:Int)+1)=((j+1:Nat):Int):=by rw[bS (by omega) (by omega)];rfl
   have kg:((j+1:Nat):Int).toNat=j+1:=rfl
   have put:∀{n:Int}{χ:World}{b:Nat}{N:Value->al}{X:List PanicEntry->al},η υ χ->μ χ υ.heap.size dt 1 mK (P++[e.1,e.2.1]++j4 m (e.2.2.take j)).length ni (a7 (P++[e.1,e.2.1]++j4 m (e.2.2.take j)))->bd χ (some ⟨b,0,none⟩) (bB.v64 [n])->BS m e.2.2[j]=n->0<=n->n<65536->
     (∀p c ao,η υ ao->μ ao υ.heap.size dt 1 p (P++[e.1,e.2.1]++j4 m (e.2.2.take (j+1))).length c (a7 (P++[e.1,e.2.1]++j4 m (e.2.2.take (j+1))))->N (.slice p (P++[e.1,e.2.1]++j4 m (e.2.2.take (j+1))).length c) ao)->
     κ prog 139 #[.slice mK (P++[e.1,e.2.1]++j4 m (e.2.2.take j)).length ni,.int .i64 2,.slice (some ⟨b,0,none⟩) 1 1] χ N X:=by
    intro n χ b N X J own π aqq V4 se K;refine κ.use (DL own J.size 2 π rfl (by omega) (by omega)) ?_;rintro _ ao ⟨b5,aW,rfl,o,k⟩;rw[af9 ⟨V4,se⟩]at o⊢;have aP:DG m e.2.2[j]=bB.be 2 n:=by unfold DG;rw[aqq]
    rw[<-aP]at o⊢;rw[z8,<-nc,fw]at K;refine K b5 aW ao (J.then k λi⟨x,ex,I⟩=>by have:=(own.ge ex).1;omega) o
   cases s8:e.2.2[j]with
   |none=>
    rw[cond_neg (by rfl)];rintro dR cE rfl rfl;have bY:=μ.alloc (w:=iu) (bB.v64 [0]) cz 1 1 rfl;have aM:=η.alloc iu (.cells (bB.v64 [0]).toArray cz);have rh:iu.alloc (.cells #[.int .i64 0] cz)=iu.alloc (.cells (bB.v64 [0]).toArray cz):=rfl;rw[rh];generalize iu.alloc (.cells (bB.v64 [0]).toArray cz)=cE at bY aM⊢;refine put (Mq.trans aM) (own.ex aM) bY.cells (by rw[s8];rfl) (by omega) (by omega) λb5 aW da jo qa=>?_
    try dsimp only[ee]
    rw[l2];exact⟨⟨rfl,rfl,rfl,rfl,rfl,rfl,rfl,rfl,by omega,by omega,by rw[kg],by rw[kg];exact qa,jo⟩,by((try dsimp only);omega)⟩
   |some x=>
    rw[s8]at aH j0;rw[cond_pos (by rfl)];have c8:=ad0 kE ac3 j0;refine⟨m,((af.ex Mq).at (by rfl)),?_⟩;refine κ.use (Tb (some x) aH m (by omega) iu) ?_;rintro _ bV ⟨rfl,Bk⟩;obtain rfl:=Bk.symm;rw[Lq,aN c8.1];have e:(bB.v64 [(x.1:Int)*m+x.2,0]).toArray=#[.int .i64 ((x.1:Int)*m+x.2),.int .i64 0]:=rfl;rw[e]
    try dsimp only[ca,cT,cU,bo,bL]
    have w8:=Lp (k:=m) aH.1 (by omega);have az5:=aH.2;rw[bS (x:=(x.1:Int)*m+x.2+1) (by omega) (by omega)];rintro cu c4 rfl rfl;have cB:=μ.alloc (w:=iu) (bB.v64 [(x.1:Int)*m+x.2+1]) cz 1 1 rfl;have ay:=η.alloc iu (.cells (bB.v64 [(x.1:Int)*m+x.2+1]).toArray cz);have iJ:iu.alloc (.cells #[.int .i64 ((x.1:Int)*m+x.2+1)] cz)=iu.alloc (.cells (bB.v64 [(x.1:Int)*m+x.2+1]).toArray cz):=rfl;rw[iJ];generalize iu.alloc (.cells (bB.v64 [(x.1:Int)*m+x.2+1]).toArray cz)=c4 at cB ay⊢;refine put (Mq.trans ay) (own.ex ay) cB.cells (by rw[s8];rfl) (by omega) (by omega) λb5 aW cd eW tk=>?_
    try dsimp only[ee]
    rw[l2];exact⟨⟨rfl,rfl,rfl,rfl,rfl,rfl,rfl,rfl,by omega,by omega,by rw[kg],by rw[kg];exact tk,eW⟩,by((try dsimp only);omega)⟩
  ·have π:=dn π;have ψ:j=e.2.2.length:=by omega
   rw[Ij hk];have kg:((k+1:Nat):Int).toNat=k+1:=rfl;have zV:P++[e.1,e.2.1]++j4 m (e.2.2.take j)=fg m (R.take (k+1)):=by rw[Ss he,dd,ψ,Cb];unfold yU;rw[nc]
   rw[zV]at own⊢;exact⟨⟨rfl,rfl,rfl,by omega,by omega,by rw[kg],by rw[kg];exact own,Mq⟩,by((try dsimp only);omega)⟩
 ·have bQ:=dn bQ;obtain rfl:k=8:=by omega
  rw[hR (by rw[h.len];omega)]at own⊢;exact ω.mk ⟨⟨mK,ni,rfl,own.lower (eL▸kr.size)⟩,kr.trans J⟩
end Go.Proofs.YtcpdfhkhaekekaaGreat.G
namespace Go.Proofs.YtcpdfhkhaekekaaGreat.G.cF
open Tryz
open Go.bJ Go.RowKit
structure gZ where
 q:Int
 s:Int
 k:Int
 m:Nat
 n:Nat
structure gZ.Ok(H:gZ):Prop where
 q:0<=H.q/\H.q<4294967296
 s:0<=H.s/\H.s<256
 k:0<=H.k/\H.k<256
 m:H.m<256
 n:H.n<65536
def mQ(H:gZ):aq:=mh++bB.be 4 H.q
def zR(H:gZ):aq:=mQ H++[H.s,H.k,(H.m:Int)]
def Df(H:gZ):aq:=zR H++bB.be 2 (H.n:Int)
structure Ctx(H:gZ)(W:World)(ζ ax aa:Nat)(cO:γ)(cN:Nat):Prop where
 ok:H.Ok
 bK:μ W 0 b2 2 (some ⟨ζ,0,none⟩) 1 1 [.int .i64 H.s,.int .i64 H.k]
 b4:μ W 0 cz 1 (some ⟨ax,0,none⟩) 1 1 [.int .i64 H.q]
 cI:μ W 0 wq 1 (some ⟨aa,0,none⟩) 1 1 [.slice cO H.m cN]
def Fin(H:gZ)(W:World)(D aa:Nat)(ae:γ)(c1:Nat)(R:au):Prop:=
 ∀(xr:γ)(wQ:Nat)(nt:World),η W nt->cS W nt xr 13 wQ (Df H)->∃(od:γ)(n18 pQ:Nat),nt.drew.cell? (⟨aa,0,none⟩:Addr)=some (.slice od n18 pQ)/\bx.xl D ae H.n c1 nt aa od n18 pQ xr 13 wQ R
theorem JE{W w:World}{N:Value->al}{X:List PanicEntry->al}(J:η W w){p:γ}{n c:Nat}{xs:aq}(h1:cS W w p n c xs){b:Nat}{l:aq}(ι:fc w b l){s:Int}{r:aq}(φ:bB.qm s l=r)(fG m':Nat)(L9:n+r.length=fG)(hm:l.length=m')(ar:n<=1000)(ak:m'<=10)
  (K:∀p c w',η W w'->(∀b l,fc w b l->fc w' b l)->cS W w' p fG c (xs++r)->N (.slice p fG c) w'):κ prog 139 #[.slice p n c,.int .i64 s,.slice (some ⟨b,0,none⟩) m' m'] w N X:=by
 subst L9 hm;exact at6 J h1 ι φ ar ak K
theorem Re{H:gZ}(hk:H.Ok){W w:World}{N:Value->al}{X:List PanicEntry->al}(J:η W w){c7 je:Nat}(vE:cS W w (some ⟨c7,0,none⟩) 4 4 mh)(IP:fc w je [H.q])
  (K:∀p c w',η W w'->(∀b l,fc w b l->fc w' b l)->cS W w' p 8 c (mQ H)->N (.slice p 8 c) w'):κ prog 139 #[.slice (some ⟨c7,0,none⟩) 4 4,.int .i64 4,.slice (some ⟨je,0,none⟩) 1 1] w N X:=
 JE J vE IP (Yf hk.q) 8 1 (by rw[bB.tV]) rfl (by omega) (by decide) K
theorem afH{H:gZ}(hk:H.Ok){W w:World}{N:Value->al}{X:List PanicEntry->al}(J:η W w){lK:γ}{lB lT:Nat}(s1:cS W w lK 8 lB (mQ H))(wZ:fc w lT [H.s,H.k,(H.m:Int)])
  (K:∀p c w',η W w'->(∀b l,fc w b l->fc w' b l)->cS W w' p 11 c (zR H)->N (.slice p 11 c) w'):κ prog 139 #[.slice lK 8 lB,.int .i64 1,.slice (some ⟨lT,0,none⟩) 3 3] w N X:=
 JE J s1 wZ (auN hk.s hk.k ⟨by omega,by have:=hk.m;omega⟩) 11 3 rfl rfl (by omega) (by decide) K
theorem at4{H:gZ}(hk:H.Ok){W w:World}{N:Value->al}{X:List PanicEntry->al}(J:η W w){tm:γ}{sR jy:Nat}(s2:cS W w tm 11 sR (zR H))(Bq:fc w jy [(H.n:Int)])
  (K:∀p c w',η W w'->(∀b l,fc w b l->fc w' b l)->cS W w' p 13 c (Df H)->N (.slice p 13 c) w'):κ prog 139 #[.slice tm 11 sR,.int .i64 2,.slice (some ⟨jy,0,none⟩) 1 1] w N X:=
 JE J s2 Bq (af9 ⟨by omega,by have:=hk.n;omega⟩) 13 1 (by rw[bB.tV]) rfl (by omega) (by decide) K
end Go.Proofs.YtcpdfhkhaekekaaGreat.G.cF
namespace Go.Proofs.YtcpdfhkhaekekaaGreat.G.cF
open Go.bJ Go.RowKit
theorem Z3{H:gZ}{W:World}{D ζ ax aa:Nat}{ae cO:γ}{c1 cN:Nat}{R:au}(bF:Ctx H W ζ ax aa cO cN)(fin:Fin H W D aa ae c1 R){tF:World}(J:η W tF){tm:γ}{sR:Nat}{jy:Nat}(Wb:cS W tF tm 11 sR (zR H))(ao6:fc tF jy [(H.n:Int)]):bx.oJ D tm 11 sR jy tF aa ae H.n c1 R:=by unfold bx.oJ;refine at4 bF.ok J Wb ao6 λxr wQ nt x g h=>?_;dsimp only[ee];exact fin _ _ _ x h
theorem alk{H:gZ}{W:World}{D ζ ax aa:Nat}{ae cO:γ}{c1 cN:Nat}{R:au}(bF:Ctx H W ζ ax aa cO cN)(fin:Fin H W D aa ae c1 R){zi:World}(J:η W zi){tm:γ}{sR:Nat}(Wb:cS W zi tm 11 sR (zR H)):bx.MQ D zi H.n tm 11 sR aa ae c1 R:=by unfold bx.MQ;refine hM J [(H.n:Int)] λjy tF x h=>?_;exact Z3 bF fin (J.trans x) (Wb.ex x) h
theorem Tr{H:gZ}{W:World}{D ζ ax aa:Nat}{ae cO:γ}{c1 cN:Nat}{R:au}(bF:Ctx H W ζ ax aa cO cN)(fin:Fin H W D aa ae c1 R){AS:World}(J:η W AS){lK:γ}{lB:Nat}{lT:Nat}{q9:Nat}(BE:cS W AS lK 8 lB (mQ H))(IW:fc AS lT [H.s,H.k,(H.m:Int)])(ao8:fc AS q9 [(H.n:Int)]):bx.rC D lK 8 lB lT AS q9 aa ae H.n c1 R:=by unfold bx.rC;refine afH bF.ok J BE IW λafm IB Eh x g h=>?_;dsimp only[ee];exact Z3 bF fin x h (g _ _ ao8)
theorem Z4{H:gZ}{W:World}{D ζ ax aa:Nat}{ae cO:γ}{c1 cN:Nat}{R:au}(bF:Ctx H W ζ ax aa cO cN)(fin:Fin H W D aa ae c1 R){lO:World}(J:η W lO){lK:γ}{lB:Nat}{lT:Nat}(BE:cS W lO lK 8 lB (mQ H))(IW:fc lO lT [H.s,H.k,(H.m:Int)]):bx.j2 D lK 8 lB lT lO H.n aa ae c1 R:=by
 unfold bx.j2;refine⟨?_,?_⟩
 ·refine afH bF.ok J BE IW λtm sR zi x g h=>?_;dsimp only[ee];exact alk bF fin x h
 ·refine hM J [(H.n:Int)] λq9 AS x h=>?_;exact Tr bF fin (J.trans x) (BE.ex x) (IW.ex x) h
theorem Z5{H:gZ}{W:World}{D ζ ax aa:Nat}{ae cO:γ}{c1 cN:Nat}{R:au}(bF:Ctx H W ζ ax aa cO cN)(fin:Fin H W D aa ae c1 R){pG:World}(J:η W pG){lK:γ}{lB:Nat}{EM:Nat}(BE:cS W pG lK 8 lB (mQ H))(ao9:fc pG EM [(H.n:Int)]):bx.BV D pG H.s H.k H.m lK 8 lB EM aa ae H.n c1 R:=by unfold bx.BV;refine hM J [H.s,H.k,(H.m:Int)] λaaK Ei x h=>?_;exact Tr bF fin (J.trans x) (BE.ex x) h (ao9.ex x)
theorem alm{H:gZ}{W:World}{D ζ ax aa:Nat}{ae cO:γ}{c1 cN:Nat}{R:au}(bF:Ctx H W ζ ax aa cO cN)(fin:Fin H W D aa ae c1 R){oS:World}(J:η W oS){lK:γ}{lB:Nat}(BE:cS W oS lK 8 lB (mQ H)):bx.uA D oS H.s H.k H.m lK 8 lB H.n aa ae c1 cO cN ζ R:=by
 unfold bx.uA;refine⟨?_,?_⟩
 ·refine hM J [H.s,H.k,(H.m:Int)] λlT lO x h=>?_;exact Z4 bF fin (J.trans x) (BE.ex x) h
 ·refine hM J [(H.n:Int)] λEM pG x h=>?_;refine⟨(bF.cI.ex (J.trans x)).at (by rfl),(bF.bK.ex (J.trans x)).at (by rfl),(bF.bK.ex (J.trans x)).at (by rfl),?_⟩;exact Z5 bF fin (J.trans x) (BE.ex x) h
theorem OZ{H:gZ}{W:World}{D ζ ax aa:Nat}{ae cO:γ}{c1 cN:Nat}{R:au}(bF:Ctx H W ζ ax aa cO cN)(fin:Fin H W D aa ae c1 R){zb:World}(J:η W zb){c7:Nat}{je:Nat}{vn:Nat}{EO:Nat}(hb:cS W zb (some ⟨c7,0,none⟩) 4 4 mh)(yh:fc zb je [H.q])(P3:fc zb vn [H.s,H.k,(H.m:Int)])(apc:fc zb EO [(H.n:Int)]):bx.DH D c7 je zb vn EO aa ae H.n c1 R:=by unfold bx.DH;refine Re bF.ok J hb yh λafo aa6 ajd x g h=>?_;dsimp only[ee];exact Tr bF fin x h (g _ _ P3) (g _ _ apc)
theorem Ts{H:gZ}{W:World}{D ζ ax aa:Nat}{ae cO:γ}{c1 cN:Nat}{R:au}(bF:Ctx H W ζ ax aa cO cN)(fin:Fin H W D aa ae c1 R){zj:World}(J:η W zj){c7:Nat}{je:Nat}{vn:Nat}(hb:cS W zj (some ⟨c7,0,none⟩) 4 4 mh)(yh:fc zj je [H.q])(P3:fc zj vn [H.s,H.k,(H.m:Int)]):bx.Gx D c7 je zj vn H.n aa ae c1 R:=by
 unfold bx.Gx;refine⟨?_,?_⟩
 ·refine Re bF.ok J hb yh λafn aa5 ajw x g h=>?_;dsimp only[ee];exact Z4 bF fin x h (g _ _ P3)
 ·refine hM J [(H.n:Int)] λEO zb x h=>?_;exact OZ bF fin (J.trans x) (hb.ex x) (yh.ex x) (P3.ex x) h
theorem Tt{H:gZ}{W:World}{D ζ ax aa:Nat}{ae cO:γ}{c1 cN:Nat}{R:au}(bF:Ctx H W ζ ax aa cO cN)(fin:Fin H W D aa ae c1 R){u5:World}(J:η W u5){c7:Nat}{je:Nat}{CR:Nat}(hb:cS W u5 (some ⟨c7,0,none⟩) 4 4 mh)(yh:fc u5 je [H.q])(acO:fc u5 CR [(H.n:Int)]):bx.BW D c7 je u5 aa cO H.m cN ζ H.k H.s CR ae H.n c1 R:=by
 unfold bx.BW;refine⟨?_,?_⟩
 ·refine Re bF.ok J hb yh λafp aa7 Ol x g h=>?_;dsimp only[ee];refine⟨(bF.cI.ex x).at (by rfl),(bF.bK.ex x).at (by rfl),(bF.bK.ex x).at (by rfl),?_⟩;exact Z5 bF fin x h (g _ _ acO)
 ·refine hM J [H.s,H.k,(H.m:Int)] λaaW aji x h=>?_;exact OZ bF fin (J.trans x) (hb.ex x) (yh.ex x) h (acO.ex x)
theorem Z6{H:gZ}{W:World}{D ζ ax aa:Nat}{ae cO:γ}{c1 cN:Nat}{R:au}(bF:Ctx H W ζ ax aa cO cN)(fin:Fin H W D aa ae c1 R){k1:World}(J:η W k1){c7:Nat}{je:Nat}(hb:cS W k1 (some ⟨c7,0,none⟩) 4 4 mh)(yh:fc k1 je [H.q]):bx.qG D c7 je k1 aa cO H.m cN ζ H.k H.s H.n ae c1 R:=by
 unfold bx.qG;refine⟨?_,?_,?_⟩
 ·refine Re bF.ok J hb yh λlK lB oS x g h=>?_;dsimp only[ee];refine⟨(bF.cI.ex x).at (by rfl),(bF.bK.ex x).at (by rfl),(bF.bK.ex x).at (by rfl),?_⟩;exact alm bF fin x h
 ·refine hM J [H.s,H.k,(H.m:Int)] λvn zj x h=>?_;exact Ts bF fin (J.trans x) (hb.ex x) (yh.ex x) h
 ·refine hM J [(H.n:Int)] λCR u5 x h=>?_;refine⟨(bF.cI.ex (J.trans x)).at (by rfl),(bF.bK.ex (J.trans x)).at (by rfl),(bF.bK.ex (J.trans x)).at (by rfl),?_⟩;exact Tt bF fin (J.trans x) (hb.ex x) (yh.ex x) h
theorem Tu{H:gZ}{W:World}{D ζ ax aa:Nat}{ae cO:γ}{c1 cN:Nat}{R:au}(bF:Ctx H W ζ ax aa cO cN)(fin:Fin H W D aa ae c1 R){ze:World}(J:η W ze){c7:Nat}{vo:Nat}{EP:Nat}(hb:cS W ze (some ⟨c7,0,none⟩) 4 4 mh)(P4:fc ze vo [H.s,H.k,(H.m:Int)])(apg:fc ze EP [(H.n:Int)]):bx.BX D ze H.q c7 vo EP aa ae H.n c1 R:=by unfold bx.BX;refine hM J [H.q] λaaY ajk x h=>?_;exact OZ bF fin (J.trans x) (hb.ex x) h (P4.ex x) (apg.ex x)
theorem Z7{H:gZ}{W:World}{D ζ ax aa:Nat}{ae cO:γ}{c1 cN:Nat}{R:au}(bF:Ctx H W ζ ax aa cO cN)(fin:Fin H W D aa ae c1 R){zd:World}(J:η W zd){c7:Nat}{vo:Nat}(hb:cS W zd (some ⟨c7,0,none⟩) 4 4 mh)(P4:fc zd vo [H.s,H.k,(H.m:Int)]):bx.QX D zd H.q c7 vo H.n aa ae c1 ax R:=by
 unfold bx.QX;refine⟨?_,?_⟩
 ·refine hM J [H.q] λaaX ajj x h=>?_;exact Ts bF fin (J.trans x) (hb.ex x) h (P4.ex x)
 ·refine hM J [(H.n:Int)] λEP ze x h=>?_;refine⟨(bF.b4.ex (J.trans x)).at (by rfl),?_⟩;exact Tu bF fin (J.trans x) (hb.ex x) (P4.ex x) h
theorem Z8{H:gZ}{W:World}{D ζ ax aa:Nat}{ae cO:γ}{c1 cN:Nat}{R:au}(bF:Ctx H W ζ ax aa cO cN)(fin:Fin H W D aa ae c1 R){u7:World}(J:η W u7){c7:Nat}{CS:Nat}(hb:cS W u7 (some ⟨c7,0,none⟩) 4 4 mh)(acP:fc u7 CS [(H.n:Int)]):bx.xm D u7 H.q aa cO H.m cN ζ H.k H.s c7 CS ae H.n c1 ax R:=by
 unfold bx.xm;refine⟨?_,?_⟩
 ·refine hM J [H.q] λaaZ On x h=>?_;refine⟨(bF.cI.ex (J.trans x)).at (by rfl),(bF.bK.ex (J.trans x)).at (by rfl),(bF.bK.ex (J.trans x)).at (by rfl),?_⟩;exact Tt bF fin (J.trans x) (hb.ex x) h (acP.ex x)
 ·refine hM J [H.s,H.k,(H.m:Int)] λaa0 YY x h=>?_;refine⟨(bF.b4.ex (J.trans x)).at (by rfl),?_⟩;exact Tu bF fin (J.trans x) (hb.ex x) h (acP.ex x)
theorem aln{H:gZ}{W:World}{D ζ ax aa:Nat}{ae cO:γ}{c1 cN:Nat}{R:au}(bF:Ctx H W ζ ax aa cO cN)(fin:Fin H W D aa ae c1 R){k0:World}(J:η W k0){c7:Nat}(hb:cS W k0 (some ⟨c7,0,none⟩) 4 4 mh):bx.yL D k0 H.q aa cO H.m cN ζ H.k H.s c7 H.n ae c1 ax R:=by
 unfold bx.yL;refine⟨?_,?_,?_⟩
 ·refine hM J [H.q] λje k1 x h=>?_;refine⟨(bF.cI.ex (J.trans x)).at (by rfl),(bF.bK.ex (J.trans x)).at (by rfl),(bF.bK.ex (J.trans x)).at (by rfl),?_⟩;exact Z6 bF fin (J.trans x) (hb.ex x) h
 ·refine hM J [H.s,H.k,(H.m:Int)] λvo zd x h=>?_;refine⟨(bF.b4.ex (J.trans x)).at (by rfl),?_⟩;exact Z7 bF fin (J.trans x) (hb.ex x) h
 ·refine hM J [(H.n:Int)] λCS u7 x h=>?_;refine⟨(bF.cI.ex (J.trans x)).at (by rfl),(bF.bK.ex (J.trans x)).at (by rfl),(bF.bK.ex (J.trans x)).at (by rfl),(bF.b4.ex (J.trans x)).at (by rfl),?_⟩;exact Z8 bF fin (J.trans x) (hb.ex x) h
theorem O0{H:gZ}{W:World}{D ζ ax aa:Nat}{ae cO:γ}{c1 cN:Nat}{R:au}(bF:Ctx H W ζ ax aa cO cN)(fin:Fin H W D aa ae c1 R){zh:World}(J:η W zh){c7:Nat}{lV:Nat}{vp:Nat}{EL:Nat}(hb:Raw W zh c7)(yj:fc zh lV [H.q])(P5:fc zh vp [H.s,H.k,(H.m:Int)])(ao4:fc zh EL [(H.n:Int)]):bx.qH D zh c7 lV vp EL aa ae H.n c1 R:=by unfold bx.qH;refine mark J hb λajm x g h=>?_;exact OZ bF fin x h (g _ _ yj) (g _ _ P5) (g _ _ ao4)
theorem Tv{H:gZ}{W:World}{D ζ ax aa:Nat}{ae cO:γ}{c1 cN:Nat}{R:au}(bF:Ctx H W ζ ax aa cO cN)(fin:Fin H W D aa ae c1 R){zf:World}(J:η W zf){c7:Nat}{lV:Nat}{vp:Nat}(hb:Raw W zf c7)(yj:fc zf lV [H.q])(P5:fc zf vp [H.s,H.k,(H.m:Int)]):bx.Gy D zf c7 lV vp H.n aa ae c1 R:=by
 unfold bx.Gy;refine⟨?_,?_⟩
 ·refine mark J hb λajl x g h=>?_;exact Ts bF fin x h (g _ _ yj) (g _ _ P5)
 ·refine hM J [(H.n:Int)] λEL zh x h=>?_;exact O0 bF fin (J.trans x) (hb.ex x) (yj.ex x) (P5.ex x) h
theorem Tw{H:gZ}{W:World}{D ζ ax aa:Nat}{ae cO:γ}{c1 cN:Nat}{R:au}(bF:Ctx H W ζ ax aa cO cN)(fin:Fin H W D aa ae c1 R){va:World}(J:η W va){c7:Nat}{lV:Nat}{CN:Nat}(hb:Raw W va c7)(yj:fc va lV [H.q])(acG:fc va CN [(H.n:Int)]):bx.BY D va c7 aa cO H.m cN ζ H.k H.s lV CN ae H.n c1 R:=by
 unfold bx.BY;refine⟨?_,?_⟩
 ·refine mark J hb λOt x g h=>?_;refine⟨(bF.cI.ex x).at (by rfl),(bF.bK.ex x).at (by rfl),(bF.bK.ex x).at (by rfl),?_⟩;exact Tt bF fin x h (g _ _ yj) (g _ _ acG)
 ·refine hM J [H.s,H.k,(H.m:Int)] λaaE ajn x h=>?_;exact O0 bF fin (J.trans x) (hb.ex x) (yj.ex x) h (acG.ex x)
theorem Z9{H:gZ}{W:World}{D ζ ax aa:Nat}{ae cO:γ}{c1 cN:Nat}{R:au}(bF:Ctx H W ζ ax aa cO cN)(fin:Fin H W D aa ae c1 R){u9:World}(J:η W u9){c7:Nat}{lV:Nat}(hb:Raw W u9 c7)(yj:fc u9 lV [H.q]):bx.QY D u9 c7 aa cO H.m cN ζ H.k H.s lV H.n ae c1 R:=by
 unfold bx.QY;refine⟨?_,?_,?_⟩
 ·refine mark J hb λOo x g h=>?_;refine⟨(bF.cI.ex x).at (by rfl),(bF.bK.ex x).at (by rfl),(bF.bK.ex x).at (by rfl),?_⟩;exact Z6 bF fin x h (g _ _ yj)
 ·refine hM J [H.s,H.k,(H.m:Int)] λvp zf x h=>?_;exact Tv bF fin (J.trans x) (hb.ex x) (yj.ex x) h
 ·refine hM J [(H.n:Int)] λCN va x h=>?_;refine⟨(bF.cI.ex (J.trans x)).at (by rfl),(bF.bK.ex (J.trans x)).at (by rfl),(bF.bK.ex (J.trans x)).at (by rfl),?_⟩;exact Tw bF fin (J.trans x) (hb.ex x) (yj.ex x) h
theorem Tx{H:gZ}{W:World}{D ζ ax aa:Nat}{ae cO:γ}{c1 cN:Nat}{R:au}(bF:Ctx H W ζ ax aa cO cN)(fin:Fin H W D aa ae c1 R){xN:World}(J:η W xN){c7:Nat}{sN:Nat}{CO:Nat}(hb:Raw W xN c7)(IV:fc xN sN [H.s,H.k,(H.m:Int)])(acH:fc xN CO [(H.n:Int)]):bx.yM D xN c7 ax H.q sN CO aa ae H.n c1 R:=by
 unfold bx.yM;refine⟨?_,?_⟩
 ·refine mark J hb λY0 x g h=>?_;refine⟨(bF.b4.ex x).at (by rfl),?_⟩;exact Tu bF fin x h (g _ _ IV) (g _ _ acH)
 ·refine hM J [H.q] λaaG ajp x h=>?_;exact O0 bF fin (J.trans x) (hb.ex x) h (IV.ex x) (acH.ex x)
theorem aaa{H:gZ}{W:World}{D ζ ax aa:Nat}{ae cO:γ}{c1 cN:Nat}{R:au}(bF:Ctx H W ζ ax aa cO cN)(fin:Fin H W D aa ae c1 R){xM:World}(J:η W xM){c7:Nat}{sN:Nat}(hb:Raw W xM c7)(IV:fc xM sN [H.s,H.k,(H.m:Int)]):bx.Gz D xM c7 ax H.q sN H.n aa ae c1 R:=by
 unfold bx.Gz;refine⟨?_,?_,?_⟩
 ·refine mark J hb λYZ x g h=>?_;refine⟨(bF.b4.ex x).at (by rfl),?_⟩;exact Z7 bF fin x h (g _ _ IV)
 ·refine hM J [H.q] λaaF ajo x h=>?_;exact Tv bF fin (J.trans x) (hb.ex x) h (IV.ex x)
 ·refine hM J [(H.n:Int)] λCO xN x h=>?_;refine⟨(bF.b4.ex (J.trans x)).at (by rfl),?_⟩;exact Tx bF fin (J.trans x) (hb.ex x) (IV.ex x) h
theorem aab{H:gZ}{W:World}{D ζ ax aa:Nat}{ae cO:γ}{c1 cN:Nat}{R:au}(bF:Ctx H W ζ ax aa cO cN)(fin:Fin H W D aa ae c1 R){tH:World}(J:η W tH){c7:Nat}{Bd:Nat}(hb:Raw W tH c7)(Vk:fc tH Bd [(H.n:Int)]):bx.JA D tH c7 aa cO H.m cN ζ H.k H.s ax H.q Bd ae H.n c1 R:=by
 unfold bx.JA;refine⟨?_,?_,?_⟩
 ·refine mark J hb λKu x g h=>?_;refine⟨(bF.cI.ex x).at (by rfl),(bF.bK.ex x).at (by rfl),(bF.bK.ex x).at (by rfl),(bF.b4.ex x).at (by rfl),?_⟩;exact Z8 bF fin x h (g _ _ Vk)
 ·refine hM J [H.q] λaaH Oy x h=>?_;refine⟨(bF.cI.ex (J.trans x)).at (by rfl),(bF.bK.ex (J.trans x)).at (by rfl),(bF.bK.ex (J.trans x)).at (by rfl),?_⟩;exact Tw bF fin (J.trans x) (hb.ex x) h (Vk.ex x)
 ·refine hM J [H.s,H.k,(H.m:Int)] λaaI Y1 x h=>?_;refine⟨(bF.b4.ex (J.trans x)).at (by rfl),?_⟩;exact Tx bF fin (J.trans x) (hb.ex x) h (Vk.ex x)
theorem alo{H:gZ}{W:World}{D ζ ax aa:Nat}{ae cO:γ}{c1 cN:Nat}{R:au}(bF:Ctx H W ζ ax aa cO cN)(fin:Fin H W D aa ae c1 R){qY:World}(J:η W qY){c7:Nat}(hb:Raw W qY c7):bx.MS D qY c7 aa cO H.m cN ζ H.k H.s ax H.q H.n ae c1 R:=by
 unfold bx.MS;refine⟨?_,?_,?_,?_⟩
 ·refine mark J hb λk0 x g h=>?_;refine⟨(bF.cI.ex x).at (by rfl),(bF.bK.ex x).at (by rfl),(bF.bK.ex x).at (by rfl),(bF.b4.ex x).at (by rfl),?_⟩;exact aln bF fin x h
 ·refine hM J [H.q] λlV u9 x h=>?_;refine⟨(bF.cI.ex (J.trans x)).at (by rfl),(bF.bK.ex (J.trans x)).at (by rfl),(bF.bK.ex (J.trans x)).at (by rfl),?_⟩;exact Z9 bF fin (J.trans x) (hb.ex x) h
 ·refine hM J [H.s,H.k,(H.m:Int)] λsN xM x h=>?_;refine⟨(bF.b4.ex (J.trans x)).at (by rfl),?_⟩;exact aaa bF fin (J.trans x) (hb.ex x) h
 ·refine hM J [(H.n:Int)] λBd tH x h=>?_;refine⟨(bF.cI.ex (J.trans x)).at (by rfl),(bF.bK.ex (J.trans x)).at (by rfl),(bF.bK.ex (J.trans x)).at (by rfl),(bF.b4.ex (J.trans x)).at (by rfl),?_⟩;exact aab bF fin (J.trans x) (hb.ex x) h
theorem Ty{H:gZ}{W:World}{D ζ ax aa:Nat}{ae cO:γ}{c1 cN:Nat}{R:au}(bF:Ctx H W ζ ax aa cO cN)(fin:Fin H W D aa ae c1 R){AQ:World}(J:η W AQ){lU:Nat}{vm:Nat}{EN:Nat}(yi:fc AQ lU [H.q])(P2:fc AQ vm [H.s,H.k,(H.m:Int)])(apa:fc AQ EN [(H.n:Int)]):bx.GB D AQ lU vm EN aa ae H.n c1 R:=by unfold bx.GB;refine DE J λaaM ajb x h=>?_;exact O0 bF fin (J.trans x) h (yi.ex x) (P2.ex x) (apa.ex x)
theorem aac{H:gZ}{W:World}{D ζ ax aa:Nat}{ae cO:γ}{c1 cN:Nat}{R:au}(bF:Ctx H W ζ ax aa cO cN)(fin:Fin H W D aa ae c1 R){AP:World}(J:η W AP){lU:Nat}{vm:Nat}(yi:fc AP lU [H.q])(P2:fc AP vm [H.s,H.k,(H.m:Int)]):bx.GC D AP lU vm H.n aa ae c1 R:=by
 unfold bx.GC;refine⟨?_,?_⟩
 ·refine DE J λaaL aja x h=>?_;exact Tv bF fin (J.trans x) h (yi.ex x) (P2.ex x)
 ·refine hM J [(H.n:Int)] λEN AQ x h=>?_;exact Ty bF fin (J.trans x) (yi.ex x) (P2.ex x) h
theorem aad{H:gZ}{W:World}{D ζ ax aa:Nat}{ae cO:γ}{c1 cN:Nat}{R:au}(bF:Ctx H W ζ ax aa cO cN)(fin:Fin H W D aa ae c1 R){wu:World}(J:η W wu){lU:Nat}{CP:Nat}(yi:fc wu lU [H.q])(acL:fc wu CP [(H.n:Int)]):bx.QZ D wu aa cO H.m cN ζ H.k H.s lU CP ae H.n c1 R:=by
 unfold bx.QZ;refine⟨?_,?_⟩
 ·refine DE J λaaN Oj x h=>?_;refine⟨(bF.cI.ex (J.trans x)).at (by rfl),(bF.bK.ex (J.trans x)).at (by rfl),(bF.bK.ex (J.trans x)).at (by rfl),?_⟩;exact Tw bF fin (J.trans x) h (yi.ex x) (acL.ex x)
 ·refine hM J [H.s,H.k,(H.m:Int)] λaaO ajc x h=>?_;exact Ty bF fin (J.trans x) (yi.ex x) h (acL.ex x)
theorem alp{H:gZ}{W:World}{D ζ ax aa:Nat}{ae cO:γ}{c1 cN:Nat}{R:au}(bF:Ctx H W ζ ax aa cO cN)(fin:Fin H W D aa ae c1 R){wx:World}(J:η W wx){lU:Nat}(yi:fc wx lU [H.q]):bx.Xi D wx aa cO H.m cN ζ H.k H.s lU H.n ae c1 R:=by
 unfold bx.Xi;refine⟨?_,?_,?_⟩
 ·refine DE J λaaJ OC x h=>?_;refine⟨(bF.cI.ex (J.trans x)).at (by rfl),(bF.bK.ex (J.trans x)).at (by rfl),(bF.bK.ex (J.trans x)).at (by rfl),?_⟩;exact Z9 bF fin (J.trans x) h (yi.ex x)
 ·refine hM J [H.s,H.k,(H.m:Int)] λvm AP x h=>?_;exact aac bF fin (J.trans x) (yi.ex x) h
 ·refine hM J [(H.n:Int)] λCP wu x h=>?_;refine⟨(bF.cI.ex (J.trans x)).at (by rfl),(bF.bK.ex (J.trans x)).at (by rfl),(bF.bK.ex (J.trans x)).at (by rfl),?_⟩;exact aad bF fin (J.trans x) (yi.ex x) h
theorem aae{H:gZ}{W:World}{D ζ ax aa:Nat}{ae cO:γ}{c1 cN:Nat}{R:au}(bF:Ctx H W ζ ax aa cO cN)(fin:Fin H W D aa ae c1 R){zc:World}(J:η W zc){sO:Nat}{CQ:Nat}(IX:fc zc sO [H.s,H.k,(H.m:Int)])(acN:fc zc CQ [(H.n:Int)]):bx.Q0 D zc ax H.q sO CQ aa ae H.n c1 R:=by
 unfold bx.Q0;refine⟨?_,?_⟩
 ·refine DE J λaaR YW x h=>?_;refine⟨(bF.b4.ex (J.trans x)).at (by rfl),?_⟩;exact Tx bF fin (J.trans x) h (IX.ex x) (acN.ex x)
 ·refine hM J [H.q] λaaS ajh x h=>?_;exact Ty bF fin (J.trans x) h (IX.ex x) (acN.ex x)
theorem alq{H:gZ}{W:World}{D ζ ax aa:Nat}{ae cO:γ}{c1 cN:Nat}{R:au}(bF:Ctx H W ζ ax aa cO cN)(fin:Fin H W D aa ae c1 R){za:World}(J:η W za){sO:Nat}(IX:fc za sO [H.s,H.k,(H.m:Int)]):bx.Xj D za ax H.q sO H.n aa ae c1 R:=by
 unfold bx.Xj;refine⟨?_,?_,?_⟩
 ·refine DE J λaaP YV x h=>?_;refine⟨(bF.b4.ex (J.trans x)).at (by rfl),?_⟩;exact aaa bF fin (J.trans x) h (IX.ex x)
 ·refine hM J [H.q] λaaQ ajf x h=>?_;exact aac bF fin (J.trans x) h (IX.ex x)
 ·refine hM J [(H.n:Int)] λCQ zc x h=>?_;refine⟨(bF.b4.ex (J.trans x)).at (by rfl),?_⟩;exact aae bF fin (J.trans x) (IX.ex x) h
theorem alr{H:gZ}{W:World}{D ζ ax aa:Nat}{ae cO:γ}{c1 cN:Nat}{R:au}(bF:Ctx H W ζ ax aa cO cN)(fin:Fin H W D aa ae c1 R){u6:World}(J:η W u6){Be:Nat}(Vn:fc u6 Be [(H.n:Int)]):bx.Xk D u6 aa cO H.m cN ζ H.k H.s ax H.q Be ae H.n c1 R:=by
 unfold bx.Xk;refine⟨?_,?_,?_⟩
 ·refine DE J λaaT Ks x h=>?_;refine⟨(bF.cI.ex (J.trans x)).at (by rfl),(bF.bK.ex (J.trans x)).at (by rfl),(bF.bK.ex (J.trans x)).at (by rfl),(bF.b4.ex (J.trans x)).at (by rfl),?_⟩;exact aab bF fin (J.trans x) h (Vn.ex x)
 ·refine hM J [H.q] λaaU Om x h=>?_;refine⟨(bF.cI.ex (J.trans x)).at (by rfl),(bF.bK.ex (J.trans x)).at (by rfl),(bF.bK.ex (J.trans x)).at (by rfl),?_⟩;exact aad bF fin (J.trans x) h (Vn.ex x)
 ·refine hM J [H.s,H.k,(H.m:Int)] λaaV YX x h=>?_;refine⟨(bF.b4.ex (J.trans x)).at (by rfl),?_⟩;exact aae bF fin (J.trans x) h (Vn.ex x)
theorem als{H:gZ}{W:World}{D ζ ax aa:Nat}{ae cO:γ}{c1 cN:Nat}{R:au}(bF:Ctx H W ζ ax aa cO cN)(fin:Fin H W D aa ae c1 R){cm:World}(J:η W cm):bx.Xl D cm aa cO H.m cN ζ H.k H.s ax H.q H.n ae c1 R:=by
 unfold bx.Xl;refine⟨?_,?_,?_,?_⟩
 ·refine DE (J.trans (η.drew _)) λc7 qY x h=>?_;refine⟨(bF.cI.ex ((J.trans (η.drew _)).trans x)).at (by rfl),(bF.bK.ex ((J.trans (η.drew _)).trans x)).at (by rfl),(bF.bK.ex ((J.trans (η.drew _)).trans x)).at (by rfl),(bF.b4.ex ((J.trans (η.drew _)).trans x)).at (by rfl),?_⟩;exact alo bF fin ((J.trans (η.drew _)).trans x) h
 ·refine hM (J.trans (η.drew _)) [H.q] λlU wx x h=>?_;refine⟨(bF.cI.ex ((J.trans (η.drew _)).trans x)).at (by rfl),(bF.bK.ex ((J.trans (η.drew _)).trans x)).at (by rfl),(bF.bK.ex ((J.trans (η.drew _)).trans x)).at (by rfl),?_⟩;exact alp bF fin ((J.trans (η.drew _)).trans x) h
 ·refine hM (J.trans (η.drew _)) [H.s,H.k,(H.m:Int)] λsO za x h=>?_;refine⟨(bF.b4.ex ((J.trans (η.drew _)).trans x)).at (by rfl),?_⟩;exact alq bF fin ((J.trans (η.drew _)).trans x) h
 ·refine hM (J.trans (η.drew _)) [(H.n:Int)] λBe u6 x h=>?_;refine⟨(bF.cI.ex ((J.trans (η.drew _)).trans x)).at (by rfl),(bF.bK.ex ((J.trans (η.drew _)).trans x)).at (by rfl),(bF.bK.ex ((J.trans (η.drew _)).trans x)).at (by rfl),(bF.b4.ex ((J.trans (η.drew _)).trans x)).at (by rfl),?_⟩;exact alr bF fin ((J.trans (η.drew _)).trans x) h
open Tryz
def fW(n:Nat):Nat:=(n+51)/52
def eA(n j:Nat):Nat:=min 52 (n-52*j)
def chunk(t:aq)(j:Nat):aq:=(t.drop (52*j)).take (eA t.length j)
theorem Pk(t:aq)(j:Nat):(chunk t j).length=eA t.length j:=by unfold chunk eA;rw[hs,lg];omega
theorem TV{n j:Nat}(h:j<fW n):0<eA n j/\52*j+eA n j<=n/\eA n j<=52:=by unfold fW at h;unfold eA;omega
def vP(q:Int)(i:Nat)(part:aq):aq:=bB.be 4 q++[(i:Int),(part.length:Int)]++part
def BR(q:Int)(i:Nat)(part:aq):aq:=lk (vP q i part)
def th(q:Int)(t:aq)(xs:List Nat):List aq:=xs.mapIdx λi x=>BR q i (chunk t x)
theorem aeo(q:Int)(t:aq)(xs:List Nat)(x:Nat):th q t (xs++[x])=th q t xs++[BR q xs.length (chunk t x)]:=by unfold th;rw[List.mapIdx_concat]
theorem ase(q:Int)(t:aq)(xs:List Nat):(th q t xs).length=xs.length:=by unfold th;rw[List.length_mapIdx]
def s3(H:gZ)(t:aq):aq:=Df H++bB.be 4 (u (more 0#32 t))
def oC(H:gZ)(t:aq):aq:=lk (s3 H t)
def zS(s k q:Int)(t:aq):gZ:=⟨q,s,k,fW t.length,t.length⟩
def jg(s k q:Int)(t:aq):List aq:=oC (zS s k q t) t::th q t (List.range (fW t.length))
theorem I0(H:gZ)(t:aq):(s3 H t).length=17:=by unfold s3 Df zR mQ;simp only[fw,bB.tV];rfl
theorem QJ(q:Int)(i:Nat)(part:aq):(vP q i part).length=6+part.length:=by unfold vP;simp only[fw,bB.tV];rfl
structure j8(w:World)(B:Nat)(ps:aY)(pgs:List aq):Prop where
 len:ps.length=pgs.length
 row:∀(i:Nat)(bw:aq),pgs[i]?=some bw->∃(p:γ)(c:Nat),ps[i]?=some (.slice p 64 c)/\μ w B dt 1 p 64 c (a7 bw)
theorem j8.nil(w:World)(B:Nat):j8 w B [] []:=⟨rfl,λi bw h=>by simp at h⟩
theorem j8.ex{w w':World}{B:Nat}{ps:aY}{pgs:List aq}(h:j8 w B ps pgs)(x:η w w'):j8 w' B ps pgs:=
 ⟨h.len,λi bw hp=>by obtain⟨p,c,h1,ι⟩:=h.row i bw hp;exact⟨p,c,h1,ι.ex x⟩⟩
theorem j8.cV{w w':World}{B:Nat}{ps:aY}{pgs:List aq}(h:j8 w B ps pgs){S:bl}(k:Kp w w' S)(f:TypeId)(ab:∀i,S i->Typed w f i)(b1:dt≠f):j8 w' B ps pgs:=
 ⟨h.len,λi bw hp=>by obtain⟨p,c,h1,ι⟩:=h.row i bw hp;exact⟨p,c,h1,ι.cV k f ab b1⟩⟩
theorem j8.grown{W bq:World}{B C:Nat}{ps:aY}{pgs:List aq}(h:j8 W B ps pgs)(k:Kp W bq (wG W C)):j8 bq B ps pgs:=
 ⟨h.len,λi bw hp=>by obtain⟨p,c,h1,ι⟩:=h.row i bw hp;exact⟨p,c,h1,ι.grown k⟩⟩
theorem j8.dS{w w':World}{B:Nat}{ps:aY}{pgs:List aq}(h:j8 w B ps pgs)(k:∀{p:γ}{c:Nat}{bw:aq},μ w B dt 1 p 64 c (a7 bw)->μ w' B dt 1 p 64 c (a7 bw)):j8 w' B ps pgs:=
 ⟨h.len,λi bw hp=>by obtain⟨p,c,h1,ι⟩:=h.row i bw hp;exact⟨p,c,h1,k ι⟩⟩
theorem j8.snoc{w:World}{B:Nat}{ps:aY}{pgs:List aq}(h:j8 w B ps pgs){p:γ}{c:Nat}{bw:aq}(o:μ w B dt 1 p 64 c (a7 bw)):j8 w B (ps++[.slice p 64 c]) (pgs++[bw]):=by
 refine⟨by simp[h.len],λi GN hp=>?_⟩;by_cases I:i<pgs.length
 ·rw[List.getElem?_append_left I]at hp;obtain⟨b5,aW,h1,ι⟩:=h.row i GN hp;exact⟨b5,aW,by rw[List.getElem?_append_left (by rw[h.len];exact I)];exact h1,ι⟩
 ·rw[List.getElem?_append_right (by omega)]at hp;have aF:i-pgs.length=0:=by
   cases aH:i-pgs.length with
   |zero=>rfl
   |succ n=>rw[aH]at hp;simp at hp
  rw[aF]at hp;obtain rfl:bw=GN:=by simpa using hp
  refine⟨p,c,?_,o⟩;rw[List.getElem?_append_right (by rw[h.len];omega),h.len,aF];rfl
theorem j8.cons{w:World}{B:Nat}{ps:aY}{pgs:List aq}(h:j8 w B ps pgs){p:γ}{c:Nat}{bw:aq}(o:μ w B dt 1 p 64 c (a7 bw)):j8 w B (.slice p 64 c::ps) (bw::pgs):=by
 refine⟨by simp[h.len],λi GN hp=>?_⟩;cases i with
 |zero=>
  obtain rfl:bw=GN:=by simpa using hp
  exact⟨p,c,rfl,o⟩
 |succ i=>
  obtain⟨b5,aW,h1,ι⟩:=h.row i GN (by simpa using hp);exact⟨b5,aW,by simpa using h1,ι⟩
theorem j8.one{w:World}{B:Nat}{ps:aY}{pgs:List aq}(h:j8 w B ps pgs):∀z∈ps,z.oneCell'=true:=by
 intro z aI;obtain⟨i,I⟩:=List.getElem?_of_mem aI;have bQ:i<pgs.length:=by rw[<-h.len];exact(List.getElem?_eq_some_iff.1 I).1
 obtain⟨p,c,h1,_⟩:=h.row i _ (List.getElem?_eq_getElem bQ);rw[I]at h1;cases h1;rfl
theorem asr(m:Nat):min2 52 (m:Int)=((min 52 m:Nat):Int):=by unfold min2;split<;>omega
theorem asb{n j:Nat}(h:52*j<n):j<fW n:=by unfold fW;omega
theorem amE{n j:Nat}(h:n<=52*j):fW n<=j:=by unfold fW;omega
def Uz(p:γ)(n:Nat)(j:Nat):Value:=.slice (dL p (52*j+eA n j) (52*j) 1) (eA n j) (eA n j)
theorem ajX{w:World}{o0 fs eu dK:Nat}{p:γ}{n c:Nat}(MO:μ w o0 hj 1 (some ⟨eu,0,none⟩) 1 1 [.slice p n c])(σ:μ w fs cz 1 (some ⟨dK,0,none⟩) 1 1 [.int .i64 52])(ar:n<=100000)(jG:n<=c):
  SeqStopsK Fence.wide 0 prog 172 #[.pointer (some ⟨eu,0,none⟩),.pointer (some ⟨dK,0,none⟩)] (λx:_root_.Fin (fW n)=>#[Uz p n x.val]) (wE eu dK) (λxs=>xs.map (·.val)=List.range (fW n)) (λ_=>True) (fW n) w:=by
 intro l Et Te W τ LD Vb ag aF;have x:=Kp.ae4 τ;have B4:=MO.aO x (λa aR=>by cases aR;have:=(MO.ge rfl).2;dsimp only at this⊢;omega);have ae:=σ.aO x (λa aR=>by cases aR;have:=(σ.ge rfl).2;dsimp only at this⊢;omega);show uS.C l eu dK W _;apply uS.ok;unfold uS.main uS.bb;refine⟨λt0 t1 t2 t4 w'=>l=t0/\eu=t1/\dK=t2/\Io eu dK (.slice p n c) (.int .i64 52) w'/\∃xs:List (_root_.Fin (fW n)),t4=((52*xs.length:Nat):Int)/\xs.map (·.val)=List.range xs.length/\Et xs w',λt0 t1 t2 t4 w'=>(n+52-t4).toNat,⟨rfl,rfl,rfl,⟨B4.at (by rfl),ae.at (by rfl)⟩,[],rfl,rfl,aF⟩,?_⟩;rintro _ _ _ t4 w' ⟨rfl,rfl,rfl,⟨fN,c1⟩,xs,rfl,iB,ψ⟩;have hlen:xs.length<=fW n:=by
  have h1:=ry (List.range xs.length) (List.range (fW n)) DU λi I=>by rw[<-iB]at I;obtain⟨y,_,rfl⟩:=gx.1 I;exact lh.2 y.isLt
  simpa using h1
 unfold uS.δ;refine⟨p,n,c,fN,?_⟩;refine bt (λh=>?_) (λh=>?_)
 ·have bQ:=b6 h;have Bz:xs.length<fW n:=asb (by omega);have FW:=TV Bz;have IY:eA n xs.length=min 52 (n-52*xs.length):=rfl;refine⟨52,c1,p,n,c,fN,bU (bI (by omega)) (bU (bI (by omega)) ⟨p,n,c,fN,?_⟩)⟩;rw[ch,asr,<-IY];have Bn:IntKind.i64.wrap (((52*xs.length:Nat):Int)+(eA n xs.length:Int))=((52*xs.length+eA n xs.length:Nat):Int):=by
   rw[bS (by omega) (by omega)];rfl
  rw[Bn,ch];refine bU (bI (by omega)) (bU (bI (by omega)) (bU (bI (by omega)) (bU (bI (by omega)) (bU (bI (by omega)) (bU (bI (by omega)) ?_)))));have bM:52*xs.length+eA n xs.length-52*xs.length=eA n xs.length:=by omega
  rw[bM];have ff:Et xs w'.drew:=LD _ _ _ none ψ (acq w') (λr e=>by cases e);obtain⟨fn,tmps,assign,body,iN,z7⟩:=ag xs ⟨xs.length,Bz⟩ w'.drew ff Bz;refine⟨fn,tmps,assign,body,iN,z7.mono λe ε he=>?_⟩;rcases he with⟨rfl,yp,hk⟩|⟨rfl,yp⟩
  ·refine⟨_,rfl,?_⟩
   try dsimp only[dX]
   have pc:=hk _ _ ⟨fN,c1⟩;refine⟨52,pc.2,?_⟩;rw[bS (by omega) (by omega)];refine⟨⟨rfl,rfl,rfl,pc,xs++[⟨xs.length,Bz⟩],?_,?_,yp⟩,by((try dsimp only);omega)⟩
   ·rw[fw,Ca];omega
   ·rw[ss,iB,fw,Ca,v8];rfl
  ·refine⟨_,rfl,?_⟩
   try dsimp only[dX]
   exact⟨⟨_,rfl⟩,.inr ⟨_,trivial,yp⟩⟩
 ·have h:=dn h;have ι:=amE (n:=n) (j:=xs.length) (by omega)
  have:xs.length=fW n:=by omega
  refine⟨⟨_,rfl⟩,.inl ⟨xs,?_,ψ⟩⟩;show xs.map (·.val)=List.range (fW n);rw[iB,this]
theorem amu{w:World}{p:γ}{t:aq}(π:bd w p (a7 t)){j:Nat}(ψ:j<fW t.length):bd w (dL p (52*j+eA t.length j) (52*j) 1) (a7 (chunk t j)):=by
 have h:=TV ψ;have h1:=(π.take (52*j+eA t.length j)).slice (52*j+eA t.length j) (52*j) (eA t.length j) (by rw[hs];omega);rw[G2,Ce]at h1;have e:min (eA t.length j) (52*j+eA t.length j-52*j)=eA t.length j:=by omega
 rw[e]at h1;unfold chunk a7;rw[xA,yX];exact h1
structure zl(W:World)(ax aa:Nat)(q:Int)(aX:γ)(bu:Nat)(part:aq)(B:Nat)(fv:γ)(hf iw:Nat)(ps:aY):Prop where
 b4:μ W 0 cz 1 (some ⟨ax,0,none⟩) 1 1 [.int .i64 q]
 cI:μ W 0 wq 1 (some ⟨aa,0,none⟩) 1 1 [.slice fv hf iw]
 cells:bd W aX (a7 part)
 Rc:part.length=bu
 XE:bu<=52
 M4:Bytes part
 DN:0<=q/\q<4294967296
 n256:hf<256
 list:μ W B hj 1 fv hf iw ps
 low:B<=W.heap.size
section
variable{α:Type}{fU:World->al}{bE:List α->al}{pre:List α}{x:α}{W:World}{ax aa:Nat}{q:Int}{aX:γ}{bu:Nat}{part:aq}{B:Nat}{fv:γ}{hf iw:Nat}{ps:aY}
def cA(p:γ)(i:Nat):Prop:=∃a,p=some a/\a.block=i
def CD(fU:World->al)(bE:List α->al)(pre:List α)(x:α)(W:World)(aa:Nat)(q:Int)(part:aq)(B:Nat)(fv:γ)(hf:Nat)(ps:aY):Prop:=
 ∀(jv:γ)(nA:Nat)(b5:γ)(aW:Nat)(eP:World),Kp W eP (cA fv)->μ eP W.heap.size dt 1 jv 64 nA (a7 (BR q hf part))->μ eP B hj 1 b5 (hf+1) aW (ps++[.slice jv 64 nA])->bx.σ α fU bE pre x eP aa b5 hf aW W
theorem alz(c:zl W ax aa q aX bu part B fv hf iw ps)(iK:CD fU bE pre x W aa q part B fv hf ps){w:World}(J:η W w){jv:γ}{nA:Nat}(o:μ w W.heap.size dt 1 jv 64 nA (a7 (BR q hf part))):bx.bh α fU bE pre x w jv 64 nA aa fv hf iw W:=by unfold bx.bh;rintro gu gr rfl rfl;have eN:=μ.new (w:=w) [.slice jv 64 nA] hj;have aU:=η.alloc w (.cells [Value.slice jv 64 nA].toArray hj);generalize w.alloc (.cells #[.slice jv 64 nA] hj)=gr at eN aU⊢;have BI:=J.trans aU;refine⟨(c.cI.ex BI).at (by rfl),?_⟩;unfold bx.af;have ak:=c.list.ex BI;have azL:=c.n256;refine mx (B:=B) ak (gE c.low BI.size) [.slice jv 64 nA] eN.cells rfl agv rfl (by omega) (by omega) ?_;intro b5 aW eP iV iq;have aS:∀i,(∃y,fv=some y/\y.block=i)->Typed gr hj i:=λi⟨y,e,I⟩=>I▸(ak.typed e).1;exact iK jv nA b5 aW eP (Kp.trans (BI.aO _) iq (λi _ h=>h) (λi _⟨y,e,I⟩=>⟨y,e,I⟩)) ((o.ex aU).cV iq hj aS (by decide)) iV
theorem arY(c:zl W ax aa q aX bu part B fv hf iw ps):Bytes (vP q hf part):=by have h1:=c.n256;have ι:=c.Rc;have aJ:=c.XE;refine Bytes.append (Bytes.append (bB.CU 4 q) λx J=>?_) c.M4;simp only[fB,oi,py]at J;omega
theorem alA(c:zl W ax aa q aX bu part B fv hf iw ps)(iK:CD fU bE pre x W aa q part B fv hf ps){w:World}(J:η W w){kh:γ}{sS:Nat}(s:cS W w kh 6 sS (bB.be 4 q++[(hf:Int),(bu:Int)])):bx.cB α fU bE pre x w kh 6 sS bu aX aa fv hf iw W:=by
 have azN:=c.XE;unfold bx.cB;refine mx (B:=W.heap.size) s J.size (a7 part) (bd.ex J c.cells) (by rw[sC,c.Rc,eS]) (Ec _) rfl (by omega) (by omega) ?_;intro rG oy ey eN hW;have aU:η W ey:=J.then hW λi⟨y,e,I⟩=>by have:=(μ.ge s e).1;omega
 refine⟨(c.cI.ex aU).at (by rfl),?_⟩;unfold bx.cJ;have sb:bB.be 4 q++[(hf:Int),(bu:Int)]++part=vP q hf part:=by unfold vP;rw[c.Rc]
 have eN:μ ey W.heap.size dt 1 rG (6+bu) oy (a7 (vP q hf part)):=by rw[<-sb,<-Kq];exact eN
 refine κ.use (age rG (6+bu) oy (vP q hf part) ey eN.cells (by rw[QJ,c.Rc]) (arY c) (by omega)) ?_;rintro _ dM ⟨jv,nA,rfl,e4,cj⟩
 try dsimp only[ee]
 refine⟨(c.cI.ex (aU.trans cj)).at (by rfl),?_⟩;exact alz c iK (aU.trans cj) (e4.lower aU.size)
theorem aal(c:zl W ax aa q aX bu part B fv hf iw ps)(iK:CD fU bE pre x W aa q part B fv hf ps){w:World}(J:η W w){gp:γ}{jk dR:Nat}(s:cS W w gp 4 jk (bB.be 4 q))(h8:fc w dR [(hf:Int),(bu:Int)]):bx.bY α fU bE pre x gp 4 jk dR w aa fv hf iw bu aX W:=by have h1:=c.n256;have aJ:=c.XE;unfold bx.bY;refine JE J s h8 (af8 _ _ ⟨by omega,by omega⟩ ⟨by omega,by omega⟩) 6 2 rfl rfl (by omega) (by decide) λp aW w' x g h=>?_;dsimp only[ee];exact⟨(c.cI.ex x).at (by rfl),alA c iK x h⟩
theorem afG(c:zl W ax aa q aX bu part B fv hf iw ps){w:World}{N:Value->al}{X:List PanicEntry->al}(J:η W w){cu:Nat}(dx:fc w cu [q])
  (K:∀p c w',η W w'->(∀b l,fc w b l->fc w' b l)->cS W w' p 4 c (bB.be 4 q)->N (.slice p 4 c) w'):κ prog 139 #[.slice none 0 0,.int .i64 4,.slice (some ⟨cu,0,none⟩) 1 1] w N X:=
 JE J (p:=none) (n:=0) (c:=0) (xs:=[]) (μ.nil _ _ _ _) dx (Yf c.DN) 4 1 (by rw[bB.tV]) rfl (by omega) (by decide) K
theorem alB(c:zl W ax aa q aX bu part B fv hf iw ps)(iK:CD fU bE pre x W aa q part B fv hf ps){w:World}(J:η W w){gp:γ}{jk:Nat}(s:cS W w gp 4 jk (bB.be 4 q)):bx.eN α fU bE pre x w hf bu aa fv hf iw gp 4 jk aX W:=by unfold bx.eN;refine hM J [(hf:Int),(bu:Int)] λdR dP x h=>?_;exact⟨(c.cI.ex (J.trans x)).at (by rfl),aal c iK (J.trans x) (s.ex x) h⟩
theorem aam(c:zl W ax aa q aX bu part B fv hf iw ps)(iK:CD fU bE pre x W aa q part B fv hf ps){w:World}(J:η W w){cu kp:Nat}(dx:fc w cu [q])(dD:fc w kp [(hf:Int),(bu:Int)]):bx.e4 α fU bE pre x cu w aa fv hf iw kp bu aX W:=by unfold bx.e4;refine afG c J dx λp aW w' x g h=>?_;dsimp only[ee];exact⟨(c.cI.ex x).at (by rfl),aal c iK x h (g _ _ dD)⟩
theorem alC(c:zl W ax aa q aX bu part B fv hf iw ps)(iK:CD fU bE pre x W aa q part B fv hf ps){w:World}(J:η W w){cu:Nat}(dx:fc w cu [q]):bx.iV α fU bE pre x cu w aa fv hf iw fv hf iw bu aX W:=by
 unfold bx.iV;refine⟨?_,?_⟩
 ·refine afG c J dx λp aW w' x g h=>?_;dsimp only[ee];exact⟨(c.cI.ex x).at (by rfl),(c.cI.ex x).at (by rfl),alB c iK x h⟩
 ·refine hM J [(hf:Int),(bu:Int)] λkp fb x h=>?_;exact⟨(c.cI.ex (J.trans x)).at (by rfl),aam c iK (J.trans x) (dx.ex x) h⟩
theorem alx(c:zl W ax aa q aX bu part B fv hf iw ps)(iK:CD fU bE pre x W aa q part B fv hf ps){w:World}(J:η W w){nY:Nat}(rj:fc w nY [(hf:Int),(bu:Int)]):bx.rA α fU bE pre x w q aa fv hf iw nY bu aX W:=by unfold bx.rA;refine hM J [q] λwP lp x h=>?_;exact⟨(c.cI.ex (J.trans x)).at (by rfl),aam c iK (J.trans x) h (rj.ex x)⟩
theorem aly(c:zl W ax aa q aX bu part B fv hf iw ps)(iK:CD fU bE pre x W aa q part B fv hf ps):bx.tk α fU bE pre x W q aa fv hf iw fv hf iw bu aX ax:=by
 unfold bx.tk;have J:=η.drew W;refine⟨?_,?_⟩
 ·refine hM J [q] λcu da x h=>?_;exact⟨(c.cI.ex (J.trans x)).at (by rfl),(c.cI.ex (J.trans x)).at (by rfl),alC c iK (J.trans x) h⟩
 ·refine hM J [(hf:Int),(bu:Int)] λnY jT x h=>?_;exact⟨(c.b4.ex (J.trans x)).at (by rfl),(c.cI.ex (J.trans x)).at (by rfl),alx c iK (J.trans x) h⟩
end
end Go.Proofs.YtcpdfhkhaekekaaGreat.G.cF
namespace Go.Proofs.YtcpdfhkhaekekaaGreat.G.cF
open Tryz
open Go.bJ Go.RowKit
theorem avr{e:gn}(h:r2 e):e.2.2.length<=32:=by
 by_cases aF:e.1=0
 ·have:=h.2.2.1 aF
  have:=h.1
  omega
 ·have:=h.2.2.2 aF
  have:=h.1
  omega
theorem JB{R:bZ}(dD:R.length=8)(h:mv R)(m:Int):(fg m R).length<=528:=by
 have key:∀k,k<=8->(fg m (R.take k)).length<=k*66:=by
  intro k
  induction k with
  |zero=>intro _;simp[fg]
  |succ k cw=>
   intro hk;have pc:k<R.length:=by omega
   rw[Ss (List.getElem?_eq_getElem pc),fw,XG];have h1:=avr (h _ (hP pc));have aJ:=cw (by omega);omega
 have:=key 8 (dO _)
 rw[hR (by omega)]at this;exact this
theorem atI{R:bZ}(dD:R.length=8)(m:Int):16<=(fg m R).length:=by
 have key:∀k,k<=8->k*2<=(fg m (R.take k)).length:=by
  intro k
  induction k with
  |zero=>intro _;simp[fg]
  |succ k cw=>
   intro hk;have pc:k<R.length:=by omega
   rw[Ss (List.getElem?_eq_getElem pc),fw,XG];have aJ:=cw (by omega);omega
 have:=key 8 (dO _)
 rw[hR (by omega)]at this;exact this
def vV(q:Int):Prop:=1<=q/\q<=1073741824
structure Laid(w:World)(KA ζ ax aa:Nat)(s m q:Int)(t:aq)(ae:γ)(c1:Nat)(xs:List Nat)(W:World):Prop where
 ex:η w W
 bK:μ W 0 b2 2 (some ⟨ζ,0,none⟩) 1 1 (two s m)
 b4:μ W 0 cz 1 (some ⟨ax,0,none⟩) 1 1 [.int .i64 q]
 text:μ W 0 dt 1 ae t.length c1 (a7 t)
 low:KA<=W.heap.size
 out:∃fv iw ps,μ W 0 wq 1 (some ⟨aa,0,none⟩) 1 1 [.slice fv xs.length iw]/\μ W KA hj 1 fv xs.length iw ps/\j8 W w.heap.size ps (th q t xs)
theorem Laid.grown{w W bq:World}{KA ζ ax aa C:Nat}{s m q:Int}{t:aq}{ae:γ}{c1:Nat}{xs:List Nat}(h:Laid w KA ζ ax aa s m q t ae c1 xs W)(k:Kp W bq (wG W C))(hC:w.heap.size<=C):Laid w KA ζ ax aa s m q t ae c1 xs bq:=by obtain⟨h1,ι,aJ,cK,ak,fv,iw,ps,dx,h8,hq⟩:=h;exact⟨h1.later k hC,ι.grown k,aJ.grown k,cK.grown k,gE ak k.size,fv,iw,ps,dx.grown k,h8.grown k,hq.grown k⟩
theorem amQ(t:aq):bB.qm 4 [u (more 0#32 t)]=bB.be 4 (u (more 0#32 t)):=Yf (SC _)
theorem acZ{H:gZ}(h:H.Ok)(t:aq):Bytes (s3 H t):=by refine Bytes.append (Bytes.append (Bytes.append (Bytes.append agu (bB.CU _ _)) λx J=>?_) (bB.CU _ _)) (bB.CU _ _);have h1:=h.s;have ι:=h.k;have aJ:=h.m;simp only[fB,oi,py]at J;omega
theorem Zv{w:World}{R:bZ}{ps:aY}(h:iE w R ps)(s m q:Int):bx.C (bT R ps).toArray s m q w (ω λv w'=>η w w'/\
  ((vV q/\mN s m R/\∃p n c uG,v=.tuple #[.slice p n c,.int .i64 0]/\μ w' w.heap.size hj 1 p n c uG/\j8 w' w.heap.size uG (jg s m q (fg m R)))\/
  (¬(vV q/\mN s m R)/\∃e,e≠0/\v=.tuple #[.slice none 0 0,.int .i64 e]))):=by
 apply bx.ok;unfold bx.main;rintro δ ε rfl rfl ζ υ rfl rfl ax χ rfl rfl;have σ:=μ.new (w:=w) (bT R ps) b3;have θ:=η.alloc w (.cells (bT R ps).toArray b3);generalize eL:w.heap.size=δ at σ⊢;generalize w.alloc (.cells (bT R ps).toArray b3)=ε at σ θ⊢;have af:=(μ.new (w:=ε) (two s m) b2).lower (eR _);have ρ:=η.alloc ε (.cells (two s m).toArray b2);have bM:ε.alloc (.cells #[.int .i64 s,.int .i64 m] b2)=ε.alloc (.cells (two s m).toArray b2):=rfl;rw[bM];generalize ε.heap.size=ζ at af⊢;generalize ε.alloc (.cells (two s m).toArray b2)=υ at af ρ⊢;have bh:=(μ.new (w:=υ) [.int .i64 q] cz).lower (eR _);have ad:=η.alloc υ (.cells [Value.int .i64 q].toArray cz);generalize υ.heap.size=ax at bh⊢;generalize υ.alloc (.cells #[.int .i64 q] cz)=χ at bh ad⊢;have σ:=σ.ex (ρ.trans ad);have af:=af.ex ad;have J:=θ.trans (ρ.trans ad);clear θ ρ ad
 have bad:∀{w':World}{e:Int},η χ w'->¬(vV q/\mN s m R)->e≠0->ω (λv w'=>η w w'/\
   ((vV q/\mN s m R/\∃p n c uG,v=.tuple #[.slice p n c,.int .i64 0]/\μ w' δ hj 1 p n c uG/\j8 w' δ uG (jg s m q (fg m R)))\/
   (¬(vV q/\mN s m R)/\∃e,e≠0/\v=.tuple #[.slice none 0 0,.int .i64 e]))) (.returned (.tuple #[.slice none 0 0,.int .i64 e])) w':=λmX ar he=>ω.mk ⟨J.trans mX,.inr ⟨ar,_,he,rfl⟩⟩
 refine⟨q,bh.at (by rfl),?_⟩;refine bt (λπ=>?_) (λπ=>?_)
 ·have π:=b6 π;exact bad (η.refl _) (λh=>by have:=h.1.1;omega) (by decide)
 have Mi:=dn π;refine⟨q,bh.at (by rfl),?_⟩;refine bt (λπ=>?_) (λπ=>?_)
 ·have π:=b6 π;exact bad (η.refl _) (λh=>by have:=h.1.2;omega) (by decide)
 have Ja:=dn π;have aH:vV q:=⟨by omega,by omega⟩;have aJ:=h.ex J;refine⟨(bT R ps).toArray,by rw[fP];exact h.eA,σ.cells,(two s m).toArray,rfl,af.cells,?_⟩;refine κ.use (Zz aJ s m) ?_;rintro _ ao ⟨⟨e,rfl,he⟩,aC⟩
 try dsimp only[bL]
 refine bt (λπ=>?_) (λπ=>?_)
 ·have π:¬e=0:=by simpa using π
  exact bad aC (λh=>π (he.2 h.2)) π
 have π:e=0:=by simpa using π
 have kE:=he.1 π;have ea:=vQ.1 kE.1.1;have Ql:=JB h.len kE.1.2.1 m;have azO:=atI h.len m;have I9:=afw (k:=m) h.ok;refine⟨(bT R ps).toArray,by rw[fP];exact h.eA,(σ.ex aC).cells,(two s m).toArray,rfl,(af.ex aC).cells,?_⟩;refine κ.use (atJ (aJ.ex aC) kE) ?_;rintro _ aZ ⟨⟨ae,c1,rfl,bY⟩,aM⟩
 try dsimp only[ee]
 generalize fg m R=t at*;have bY:μ aZ 0 dt 1 ae t.length c1 (a7 t):=bY.lower (eR _);have SN:=aC.trans aM;have af:=af.ex SN;have bh:=bh.ex SN;have J:=J.trans SN;clear aC aM SN σ bad;rintro aa bV rfl rfl;have lX:w.heap.size<=aZ.heap.size:=J.size;have cJ:=(μ.new (w:=aZ) [.slice none 0 0] wq).lower (eR _);have cj:=η.alloc aZ (.cells [Value.slice none 0 0].toArray wq);generalize aZ.heap.size=aa at cJ lX⊢;generalize aZ.alloc (.cells #[.slice none 0 0] wq)=bV at cJ cj⊢;have af:=af.ex cj;have bh:=bh.ex cj;have bY:=bY.ex cj;have J:=J.trans cj;clear cj;refine κ.use (S2 ae t.length c1 bV) ?_;rintro _ bW ⟨eu,dK,rfl,ct,lj,cM⟩;refine bU (by rfl) ?_;have af:=af.ex ct;have bh:=bh.ex ct;have bY:=bY.ex ct;have ay7:aa<bV.heap.size:=(cJ.ge rfl).2;have cJ:=cJ.ex ct;have Mh:bV.heap.size<=eu:=(lj.ge rfl).1;have Mi:bV.heap.size<=dK:=(cM.ge rfl).1;have aqG:eu<bW.heap.size:=(lj.ge rfl).2;have aqH:dK<bW.heap.size:=(cM.ge rfl).2;have J:=J.trans ct;have az6:=ct.size;clear ct;have ark:=J.size;have acT:fW t.length<=11:=by unfold fW;omega
 refine⟨_root_.Fin (fW t.length),λx=>Uz ae t.length x.val,wE eu dK,λxs=>xs.map (·.val)=List.range (fW t.length),λ_=>True,fW t.length,
  λxs W=>Laid w bW.heap.size ζ ax aa s m q t ae c1 (xs.map (·.val)) W/\Io eu dK (.slice ae t.length c1) (.int .i64 52) W,λ_ _=>False,?_,?_,?_,?_⟩
 ·refine⟨ajX lj cM (by omega) bY.2.1,λh k=>h.trans k,λW l o ib _ aG π _=>wE.book W l o ib aG π,?_,λ_ _ _ _ h=>h.elim,⟨⟨J,af,bh,bY,dO _,none,0,[],cJ,μ.nil _ _ _ _,j8.nil _ _⟩,⟨lj.at (by rfl),cM.at (by rfl)⟩⟩⟩;intro xs W bq row jt VP φ;have k:=Kp.grown VP φ;refine⟨jt.1.grown k ark,?_⟩;have two:∀{a:Addr}{v:Value},W.cell? a=some v->bq.cell? a=some v:=λ{a v}az=>k.cell az λar=>by
   obtain⟨_,o,aG,gD⟩:=ar;unfold World.cell? at az;rw[aG]at az;cases o<;>first|(simp at az;done)|(cases gD;done)
  exact⟨two jt.2.1,two jt.2.2⟩
 ·intro pre x cd jt aqF;obtain⟨⟨g1,g2,g3,g4,zL,fv,iw,rs,g5,g6,g7⟩,lG⟩:=jt;have Mr:=x.isLt;have FW:=TV Mr;have gD:=Pk t x.val;unfold Uz
  try dsimp only[ee]
  have d:=η.drew cd;refine⟨fv,_,iw,(g5.ex d).at (by rfl),q,(g3.ex d).at (by rfl),fv,_,iw,(g5.ex d).at (by rfl),?_⟩;have hlen:(pre.map (·.val)).length<256:=by rw[jM];omega
  refine aly (part:=chunk t x.val) (B:=bW.heap.size) (ps:=rs) ⟨g3,g5,amu g4.cells Mr,gD,FW.2.2,(I9.drop _).take _,⟨by have:=aH.1;omega,by have:=aH.2;omega⟩,hlen,g6,zL⟩ ?_;intro jv nA b5 aW eP xg t8 t9;unfold bx.σ;have jQ:∀i,cA fv i->Typed cd hj i:=λi⟨y,e,I⟩=>I▸(g6.typed e).1;have cI:=g5.cV xg hj jQ (by decide);refine cI.dv (JV 0) (by rfl) λkX Dy Gx=>?_;have p5:Kp cd kX λi=>cA fv i\/i=aa:=Kp.trans xg Dy (λi _ h=>.inl h) (λi _ h=>.inr h);have al7:=(cI.typed rfl).1;have xJ:∀i,i=aa->Typed eP wq i:=λi I=>by rw[I];exact al7
  have ui:∀i,i<bW.heap.size->aa≠i->¬(cA fv i\/i=aa):=λi I b1 h=>by
   rcases h with⟨y,e,ag⟩|h
   ·have:=(g6.ge e).1
    omega
   ·exact b1 h.symm
  have two:Io eu dK (.slice ae t.length c1) (.int .i64 52) kX:=⟨p5.cell lG.1 (ui _ aqG (by dsimp only;omega)),p5.cell lG.2 (ui _ aqH (by dsimp only;omega))⟩;refine⟨KeepsOthers.ae5 p5 ?_,?_,?_,two⟩
  ·rintro i _ (I|rfl)
   ·exact⟨_,jQ i I⟩
   ·exact⟨_,(g5.typed rfl).1⟩
  ·intro v0 v1 π;have hB:=π.1.symm.trans lG.1;have aP:=π.2.symm.trans lG.2;cases hB;cases aP;exact two
  ·have anz:(pre++[x]).map (·.val)=pre.map (·.val)++[x.val]:=by simp
   have abJ:(pre.map (·.val)++[x.val]).length=(pre.map (·.val)).length+1:=by simp
   rw[anz];have aD:b2≠hj:=by decide
   have bu:cz≠hj:=by decide
   have dU:dt≠hj:=by decide
   refine⟨(g1.then xg λi⟨y,e,I⟩=>by have:=(g6.ge e).1;omega).then Dy λi I=>by omega,(g2.cV xg hj jQ aD).cV Dy wq xJ (by decide),(g3.cV xg hj jQ bu).cV Dy wq xJ (by decide),(g4.cV xg hj jQ dU).cV Dy wq xJ (by decide),gE zL p5.size,b5,aW,rs++[.slice jv 64 nA],?_,?_,?_⟩
   ·rw[abJ];exact Gx
   ·rw[abJ];exact t9.cV Dy wq xJ (by decide)
   ·rw[aeo];exact((g7.cV xg hj jQ dU).cV Dy wq xJ (by decide)).snoc ((t8.lower g1.size).cV Dy wq xJ (by decide))
 ·intro D xs cm cn iB jt FX;have iB:xs.map (·.val)=List.range (fW t.length):=iB;obtain⟨⟨g1,g2,g3,g4,zL,fv,iw,rs,g5,g6,g7⟩,_⟩:=jt;rw[iB,xC]at g5 g6;rw[iB]at g7;have d:=η.drew cm;have vH:fW t.length<256:=by unfold fW;omega
  refine⟨q,(g3.ex d).at (by rfl),s,(g2.ex d).at (by rfl),m,(g2.ex d).at (by rfl),fv,_,iw,(g5.ex d).at (by rfl),?_⟩;have dJ:(zS s m q t).Ok:=⟨⟨by have:=aH.1;show 0<=q;omega,by have:=aH.2;show q<_;omega⟩,⟨by show 0<=s;omega,by show s<_;omega⟩,⟨by show 0<=m;omega,by show m<_;omega⟩,vH,by show t.length<_;omega⟩;refine als (H:=zS s m q t) ⟨dJ,g2,g3,g5⟩ ?_ (η.refl cm);intro xr wQ nt ayv jO;have d58:=ayv.trans (η.drew nt);refine⟨fv,_,iw,(g5.ex d58).at (by rfl),?_⟩;unfold bx.xl;refine κ.use (Z2 ae t.length c1 t _ (g4.ex d58).cells rfl (by omega) I9) ?_;rintro _ Ef ⟨rfl,ajG⟩
  try dsimp only[Pw]
  have zM:=d58.trans ajG;have jO:=(jO.ex (η.drew nt)).ex ajG;refine⟨(g5.ex zM).at (by rfl),?_⟩;unfold bx.vT;have LR:=SC (more 0#32 t);rw[bS (x:=u (more 0#32 t)) (by omega) (by omega)];refine hM zM [u (more 0#32 t)] λtU Ou ajH ao7=>?_;have acv:=zM.trans ajH;have jO:=jO.ex ajH;refine⟨(g5.ex acv).at (by rfl),?_⟩;unfold bx.uz;refine JE acv jO ao7 (amQ t) 17 1 (by rw[bB.tV]) rfl (by omega) (by decide) λM0 K0 vb Y6 _ mI=>?_;dsimp only[ee];refine⟨(g5.ex Y6).at (by rfl),?_⟩;unfold bx.qa;refine κ.use (age M0 17 K0 (s3 (zS s m q t) t) vb (μ.cells mI) (I0 _ _) (acZ dJ t) (by omega)) ?_;rintro _ pF ⟨DJ,CX,rfl,BW,ayw⟩
  try dsimp only[ee]
  have U7:=Y6.trans ayw;refine⟨(g5.ex U7).at (by rfl),?_⟩;unfold bx.rB;rintro qA Cx rfl rfl;have oJ:=μ.new (w:=pF) [.slice DJ 64 CX] hj;have Y7:=η.alloc pF (.cells [Value.slice DJ 64 CX].toArray hj);have acI:cm.heap.size<=pF.heap.size:=U7.size;generalize pF.heap.size=qA at oJ acI⊢;generalize pF.alloc (.cells #[.slice DJ 64 CX] hj)=Cx at oJ Y7⊢;have LB:=U7.trans Y7;refine⟨(g5.ex LB).at (by rfl),?_⟩;unfold bx.BU;have eh:w.heap.size<=qA:=gE g1.size acI;refine mx (B:=w.heap.size) (oJ.lower eh) (g1.trans LB).size rs (g6.ex LB).cells g6.1 g7.one rfl (by omega) (by omega) ?_;intro XD TO tG qG arF;have WL:Kp Cx tG λi=>i=qA:=arF.mono λi _⟨y,e,I⟩=>by cases e;exact I.symm
  have acx:η cm tG:=LB.then WL λi I=>by omega
  have apy:D<cm.heap.size:=(Array.getElem?_eq_some_iff.1 FX).1;have acY:tG.heap[D]?=some (.deferred (some [])):=by rw[acx.block D apy id];exact FX
  refine⟨acY,?_⟩;have po:=Kp.putObj tG D (.deferred none);have qE:∀i,i=D->wG tG 0 i:=λi I=>⟨eR _,.deferred (some []),by rw[I];exact acY,rfl⟩;have dS:∀{B e sz n c:Nat}{p:γ}{xs:aY},μ tG B e sz p n c xs->μ (tG.putObj D (.deferred none)) B e sz p n c xs:=λo=>o.aO po λy ag I=>(qE _ I).typed (o.typed ag).1;have t18:∀i,i=qA->Typed Cx hj i:=λi I=>by rw[I];exact(oJ.typed rfl).1
  have f26:μ tG w.heap.size dt 1 DJ 64 CX (a7 (oC (zS s m q t) t)):=((BW.lower (g1.trans Y6).size).ex Y7).cV WL hj t18 (by decide);have f8:=(g7.ex LB).cV WL hj t18 (by decide);subst eL;refine ω.mk ⟨(g1.trans acx).then po λi I=>by rw[I];exact gE J.size cn,.inl ⟨aH,kE,XD,_,TO,_,rfl,dS qG,?_⟩⟩;exact(f8.cons f26).dS λo=>dS o
 ·intro D pre cE _ _ jt _;exact jt.elim
end Go.Proofs.YtcpdfhkhaekekaaGreat.G.cF

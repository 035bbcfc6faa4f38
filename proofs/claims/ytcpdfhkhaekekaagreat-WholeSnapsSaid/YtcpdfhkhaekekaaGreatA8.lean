/- The walk of the functions, and the plain laws of the model: part of the proof. Conditions: none. -/
import Derived.Test.YtcpdfhkhaekekaaGreatA7
set_option linter.unusedVariables false
set_option linter.unusedSimpArgs false
namespace Go.Proofs.YtcpdfhkhaekekaaGreat.G
open Tryz
open Go.bO Go.RowKit
abbrev fF:=Int×Int×List ea
abbrev bR:=List fF
def kinds(R:bR):aU:=R.flatMap λe=>two e.1 e.2.1
def bK(R:bR)(ps:aU):aU:=kinds R++ps
def lz(e:fF):Prop:=(∀q∈e.2.2,kc q)/\e.2.2.length<=1000/\(0<=e.1/\e.1<256)/\(0<=e.2.1/\e.2.1<256)
structure h2(w:World)(R:bR)(ps:aU):Prop where
 len:R.length=8
 dx:ps.length=8
 row:∀(k:Nat)(e:fF),R[k]?=some e->∃(p:J)(c:Nat),ps[k]?=some (Value.slice p e.2.2.length c)/\a7 w p (e.2.2.map dO)
 ok:∀e∈R,lz e
theorem h2.aH{w w':World}{R:bR}{ps:aU}(h:h2 w R ps){S:bf}(k:Kp w w' S)(ω:∀p n c,Value.slice p n c∈ps->∀a,p=some a->¬S a.block):h2 w' R ps:=
 ⟨h.len,h.dx,λj e he=>by obtain⟨p,c,h1,ι⟩:=h.row j e he;exact⟨p,c,h1,ι.aH k λa aQ=>ω p _ c (eZ h1) a aQ⟩,h.ok⟩
theorem h2.ex{w w':World}{R:bR}{ps:aU}(h:h2 w R ps)(x:η w w'):h2 w' R ps:=h.aH x λ_ _ _ _ _ _ h=>h
theorem Ag:∀R:bR,(kinds R).length=2*R.length
 |[]=>rfl
 |e::R=>by
  have:=Ag R
  unfold kinds at this⊢;rw[yS,fe,this,k5];simp only[two,k5,Fa];omega
theorem Um:∀(R:bR)(k:Nat)(e:fF),R[k]?=some e->∃t,(kinds R).drop (k*2)=two e.1 e.2.1++t
 |[],k,e,h=>by simp at h
 |a::R,0,e,h=>by
  obtain rfl:a=e:=by simpa using h
  exact⟨kinds R,rfl⟩
 |a::R,k+1,e,h=>by
  obtain⟨t,aP⟩:=Um R k e (by simpa using h);refine⟨t,?_⟩;have bE:(k+1)*2=k*2+2:=by omega
  rw[bE];exact aP
theorem h2.En{w:World}{R:bR}{ps:aU}(h:h2 w R ps):(kinds R).length=16:=by rw[Ag,h.len]
theorem h2.dU{w:World}{R:bR}{ps:aU}(h:h2 w R ps):(bK R ps).length=24:=by unfold bK;rw[fe,h.En,h.dx]
theorem h2.take{w:World}{R:bR}{ps:aU}(h:h2 w R ps):(bK R ps).take 16=kinds R:=by unfold bK;rw[oT (by rw[h.En];omega),hc (by rw[h.En];omega)]
theorem h2.drop{w:World}{R:bR}{ps:aU}(h:h2 w R ps):(bK R ps).drop 16=ps:=by
 unfold bK
 have:=h.En
 rw[<-this,K8]
theorem h2.pair{w:World}{R:bR}{ps:aU}(h:h2 w R ps){k:Nat}{e:fF}(he:R[k]?=some e):(kinds R).toArray.extract (k*2) (k*2+2)=(two e.1 e.2.1).toArray:=by
 obtain⟨t,aP⟩:=Um R k e he;apply qc;rw[Array.toList_extract];have aO:(kinds R).toArray.toList.extract (k*2) (k*2+2)=((kinds R).drop (k*2)).take 2:=by rw[List.extract_eq_take_drop];congr 1;omega
 rw[aO,aP];rfl
theorem h2.place{w:World}{R:bR}{ps:aU}(h:h2 w R ps)(k:Nat):(bK R ps)[16+k]?=ps[k]?:=by
 have:=gP (λl=>l[k]?) h.drop
 rwa[List.getElem?_drop]at this
theorem h2.get{w:World}{R:bR}{ps:aU}(h:h2 w R ps){k:Nat}(hk:k<8):∃e,R[k]?=some e:=⟨R[k]'(by rw[h.len];exact hk),List.getElem?_eq_getElem _⟩
theorem IB(a b:Int):∀z∈two a b,z.oneCell'=true:=mW
theorem h2.one{w:World}{R:bR}{ps:aU}(h:h2 w R ps):∀z∈bK R ps,z.oneCell'=true:=by
 intro z aL;unfold bK at aL;rcases iG.1 aL with aL|aL
 ·obtain⟨e,_,he⟩:=oU.1 aL;exact IB _ _ z he
 ·obtain⟨k,hk⟩:=List.getElem?_of_mem aL;have zU:k<8:=by have:=(List.getElem?_eq_some_iff.1 hk).1;have:=h.dx;omega
  obtain⟨e,he⟩:=h.get zU;obtain⟨p,c,h1,_⟩:=h.row k e he;rw[hk]at h1;cases h1;rfl
def qz(e:fF):Prop:=(e.2.2.length:Int)=e.2.1/\(0<=e.1/\e.1<3)/\(e.1=0->e.2.1=0)/\(e.1≠0->1<=e.2.1/\e.2.1<33)
def lo(R:bR):Prop:=∀e∈R,qz e
instance(e:fF):Decidable (qz e):=inferInstanceAs (Decidable (_/\_))
instance(R:bR):Decidable (lo R):=inferInstanceAs (Decidable (∀e∈R,qz e))
theorem asT{R:bR}{k:Nat}{e:fF}(he:R[k]?=some e)(h:¬qz e):decide (lo R)=false:=iy λs=>h (s e (eZ he))
theorem asS{R:bR}(dr:R.length=8)(h:∀(j:Nat)(e:fF),j<8->R[j]?=some e->qz e):decide (lo R)=true:=bB λe he=>by obtain⟨k,hk⟩:=List.getElem?_of_mem he;exact h k e (by have:=(List.getElem?_eq_some_iff.1 hk).1;omega) hk
theorem aeg{R:bR}{k:Nat}{e:fF}(he:R[k]?=some e)(h:qz e)(H:∀(j:Nat)(e:fF),j<k->R[j]?=some e->qz e):∀(j:Nat)(e:fF),j<k+1->R[j]?=some e->qz e:=λj cO φ dG=>by
 by_cases Tr:j=k
 ·subst Tr;rw[he]at dG;cases dG;exact h
 ·exact H j cO (by omega) dG
theorem Gw{w:World}{R:bR}{ps:aU}(h:h2 w R ps):sM.C (bK R ps).toArray w (χ λv w'=>v=.bool (decide (lo R))/\η w w'):=by
 apply sM.ok;unfold sM.main;rintro δ γ rfl rfl;have ρ:=μ.new (w:=w) (bK R ps) bU;have ζ:=η.alloc w (.cells (bK R ps).toArray bU);generalize w.heap.size=δ at ρ⊢;generalize w.alloc (.cells (bK R ps).toArray bU)=γ at ρ ζ⊢;have h:=h.ex ζ;refine⟨(kinds R).toArray,by rw[fh];exact h.En,by have:=a7.take ρ.cells 16;rwa[h.take]at this,?_⟩;unfold sM.bd;refine⟨λt1 t7 t8 w'=>δ=t1/\(kinds R).toArray=t7/\0<=t8/\t8<=8/\(∀(j:Nat)(e:fF),j<t8.toNat->R[j]?=some e->qz e)/\η γ w',λt1 t7 t8 w'=>(8-t8).toNat,⟨rfl,rfl,by omega,by omega,λj e φ=>by simp at φ,η.refl _⟩,?_⟩;rintro _ _ t8 w' ⟨rfl,rfl,aD,dr,dR,I⟩;unfold sM.δ;obtain⟨k,rfl⟩:=eH aD;rw[cy]at dR;refine bz (λbM=>?_) λbM=>?_
 ·have bM:=b7 bM;have hk:k<8:=by omega
  obtain⟨e,he⟩:=h.get hk;obtain⟨p,c,hp,kL⟩:=h.row k e he;obtain⟨dt,aj,_,_⟩:=h.ok e (eZ he);refine bL (bB aD) (bL (bB bM) ?_);rw[cy,h.pair he];rintro θ τ rfl rfl;have ai:=μ.new (w:=w') [.int .i64 0,.int .i64 0] jl;have σ:=η.alloc w' (.cells [Value.int .i64 0,.int .i64 0].toArray jl);generalize w'.alloc (.cells #[.int .i64 0,.int .i64 0] jl)=τ at ai σ⊢;refine bL (by rfl) ?_;refine ai.put (cs:=two e.1 e.2.1) (by rfl) (IB _ _) λaa cd bo=>?_;have ad:η w' aa:=σ.then cd λi o=>o▸ew _;have nm:=I.trans ad;refine bL (bB aD) (bL (bB bM) ?_);rw[zw];refine⟨p,e.2.2.length,c,(ρ.ex nm).at (by rw[h.place,hp]),e.2.1,bo.at (by rfl),?_⟩;have bad:∀{hN:World},η γ hN->¬qz e->χ (λv w'=>v=.bool (decide (lo R))/\η w w') (.returned (.bool false)) hN:=λI ax=>by rw[asT he ax];exact χ.mk ⟨rfl,ζ.trans I⟩
  refine bz (λπ=>?_) λπ=>?_
  ·have π:¬(e.2.2.length:Int)=e.2.1:=by simpa using π
   exact bad nm λs=>π s.1
  have g1:(e.2.2.length:Int)=e.2.1:=by simpa using π
  refine⟨e.1,bo.at (by rfl),?_⟩;refine bz (λπ=>?_) λπ=>?_
  ·have g2:e.1=0:=by simpa using π
   refine⟨e.2.1,bo.at (by rfl),?_⟩;refine bz (λπ=>?_) λπ=>?_
   ·have π:¬e.2.1=0:=by simpa using π
    exact bad nm λs=>π (s.2.2.1 g2)
   have g3:e.2.1=0:=by simpa using π
   refine⟨e.1,bo.at (by rfl),?_⟩;refine κ.use (z8 e.1 0 3 _) ?_;rintro _ _ ⟨rfl,rfl⟩
   try dsimp only[dE]
   rw[bB (by omega),bB (by omega),cond_neg (by rfl)];refine⟨e.1,bo.at (by rfl),?_⟩;rw[g2,cond_neg (by rfl)];refine κ.use (aah p _ c e.2.2 _ (kL.ex nm) rfl (by omega) dt) ?_;rintro _ _ ⟨rfl,rfl⟩
   try dsimp only[dE,iY]
   rw[Gm hk];exact⟨⟨rfl,rfl,by omega,by omega,aeg he ⟨g1,by omega,λ_=>g3,λax=>absurd g2 ax⟩ dR,nm⟩,by((try dsimp only);omega)⟩
  ·have g2:¬e.1=0:=by simpa using π
   refine⟨e.1,bo.at (by rfl),?_⟩;refine κ.use (z8 e.1 0 3 _) ?_;rintro _ _ ⟨rfl,rfl⟩
   try dsimp only[dE]
   refine bz (λπ=>?_) λπ=>?_
   ·refine bad nm λs=>?_;rw[bB s.2.1.1,bB s.2.1.2]at π;cases π
   have g4:0<=e.1/\e.1<3:=by simpa using π
   refine⟨e.1,bo.at (by rfl),?_⟩;rw[cond_pos (by simpa using g2)];refine⟨e.2.1,bo.at (by rfl),?_⟩;refine κ.use (z8 e.2.1 1 33 _) ?_;rintro _ _ ⟨rfl,rfl⟩
   try dsimp only[dE]
   refine bz (λπ=>?_) λπ=>?_
   ·refine bad nm λs=>?_
    have:=s.2.2.2 g2
    rw[bB this.1,bB this.2]at π;cases π
   have g5:1<=e.2.1/\e.2.1<33:=by simpa using π
   refine κ.use (aah p _ c e.2.2 _ (kL.ex nm) rfl (by omega) dt) ?_;rintro _ _ ⟨rfl,rfl⟩
   try dsimp only[dE,iY]
   rw[Gm hk];exact⟨⟨rfl,rfl,by omega,by omega,aeg he ⟨g1,g4,λax=>absurd ax g2,λ_=>g5⟩ dR,nm⟩,by((try dsimp only);omega)⟩
 ·have bM:=dd bM;obtain rfl:k=8:=by omega
  rw[asS h.len dR];exact χ.mk ⟨rfl,ζ.trans I⟩
open Go.bO Go.RowKit
def CJ(s k:Int)(R:bR):Prop:=may s k=true/\lo R/\∀e∈R,e.2.2.any (s8 s k)=false
theorem avY{s m:Int}{R:bR}{k:Nat}{e:fF}(he:R[k]?=some e)(h:e.2.2.any (s8 s m)=false)(H:∀(j:Nat)(e:fF),j<k->R[j]?=some e->e.2.2.any (s8 s m)=false):∀(j:Nat)(e:fF),j<k+1->R[j]?=some e->e.2.2.any (s8 s m)=false:=λj cO φ dG=>by
 by_cases Tr:j=k
 ·subst Tr;rw[he]at dG;cases dG;exact h
 ·exact H j cO (by omega) dG
theorem Q4{w:World}{R:bR}{ps:aU}(h:h2 w R ps)(s m:Int):
  s9.C (bK R ps).toArray s m w (χ λv w'=>(∃e,v=.int .i64 e/\(e=0↔CJ s m R))/\η w w'):=by
 apply s9.ok;unfold s9.main;rintro δ γ rfl rfl θ τ rfl rfl;have ρ:=μ.new (w:=w) (bK R ps) bU;have ζ:=η.alloc w (.cells (bK R ps).toArray bU);generalize w.heap.size=δ at ρ⊢;generalize w.alloc (.cells (bK R ps).toArray bU)=γ at ρ ζ⊢;have ai:=μ.new (w:=γ) (two s m) b2;have σ:=η.alloc γ (.cells (two s m).toArray b2);have bE:γ.alloc (.cells #[.int .i64 s,.int .i64 m] b2)=γ.alloc (.cells (two s m).toArray b2):=rfl;rw[bE];generalize γ.heap.size=θ at ai⊢;generalize γ.alloc (.cells (two s m).toArray b2)=τ at ai σ⊢;have ρ:=ρ.ex σ;have jU:=ζ.trans σ;have h:=h.ex jU;refine⟨(two s m).toArray,rfl,ai.cells,?_⟩;refine κ.use (IT s m _) ?_;rintro _ aa ⟨rfl,ad⟩
 try dsimp only[bH]
 cases hm:may s m with
 |false=>
  rw[cond_pos (by rfl)];refine χ.mk ⟨⟨1,rfl,?_⟩,jU.trans ad⟩;constructor
  ·intro h;cases h
  ·intro h;rw[h.1]at hm;cases hm
 |true=>
 have dS:=uE.1 hm;rw[cond_neg (by rfl)];have h:=h.ex ad;refine⟨(bK R ps).toArray,by rw[fh];exact h.dU,(ρ.ex ad).cells,?_⟩;refine κ.use (Gw h) ?_;rintro _ aE ⟨rfl,ak⟩
 try dsimp only[dE]
 have Ei:=jU.trans (ad.trans ak);refine bz (λω=>?_) λω=>?_
 ·have ω:¬lo R:=by simpa using ω
  refine χ.mk ⟨⟨2,rfl,?_⟩,Ei⟩;constructor
  ·intro h;cases h
  ·intro h;exact absurd h.2.1 ω
 have ω:lo R:=by simpa using ω
 have h:=h.ex ak;have ai:=(ai.ex ad).ex ak;have af:aw aE (⟨δ,16,none⟩:Addr) ps:=by
  have:=aw.drop (ρ.ex (ad.trans ak)).cells 16
  rwa[Addr.add_lit,mS,h.drop]at this
 refine⟨ps.toArray,by rw[fh];exact h.dx,af,?_⟩;unfold s9.bd;refine⟨λt3 t17 t18 w'=>θ=t3/\ps.toArray=t17/\0<=t18/\t18<=8/\(∀(j:Nat)(e:fF),j<t18.toNat->R[j]?=some e->e.2.2.any (s8 s m)=false)/\η aE w',λt3 t17 t18 w'=>(8-t18).toNat,⟨rfl,rfl,by omega,by omega,λj e φ=>by simp at φ,η.refl _⟩,?_⟩;rintro _ _ t18 w' ⟨rfl,rfl,aD,dr,dR,I⟩;unfold s9.δ;obtain⟨k,rfl⟩:=eH aD;rw[cy]at dR;refine bz (λbM=>?_) λbM=>?_
 ·have bM:=b7 bM;have hk:k<8:=by omega
  obtain⟨e,he⟩:=h.get hk;obtain⟨p,c,hp,kL⟩:=h.row k e he;obtain⟨dt,aj,_,_⟩:=h.ok e (eZ he);refine bL (bB aD) (bL (bB bM) ?_);rw[cy,ey];have gw:ps.toArray[k]?=some (.slice p e.2.2.length c):=by rw[List.getElem?_toArray];exact hp
  rw[gw]
  try dsimp only[bk,dY]
  refine κ.use (amy p _ c e.2.2 w' (kL.ex I) rfl (by omega) dt s m dS (ai.ex I)) ?_;rintro _ ba ⟨rfl,aI⟩
  try dsimp only[dE]
  refine bz (λaQ=>?_) λaQ=>?_
  ·refine χ.mk ⟨⟨5,rfl,?_⟩,Ei.trans (I.trans aI)⟩;constructor
   ·intro h;cases h
   ·intro h;rw[h.2.2 e (eZ he)]at aQ;cases aQ
  ·rw[Gm hk];exact⟨⟨rfl,rfl,by omega,by omega,avY he aQ dR,I.trans aI⟩,by((try dsimp only);omega)⟩
 ·have bM:=dd bM;obtain rfl:k=8:=by omega
  refine χ.mk ⟨⟨0,rfl,?_⟩,Ei.trans I⟩;constructor
  ·intro _;refine⟨hm,ω,λe he=>?_⟩;obtain⟨k,hk⟩:=List.getElem?_of_mem he;exact dR k e (by have:=(List.getElem?_eq_some_iff.1 hk).1;have:=h.len;omega) hk
  ·intro _;rfl
def pB(e:fF):List (Nat×Nat):=e.2.2.filterMap id
def used(R:bR):List (Nat×Nat):=R.flatMap pB
def gm(l:List (Nat×Nat)):List (Nat×Nat):=l.foldl (λacc x=>if x∈acc then acc else acc++[x]) []
theorem Ov(l:List (Nat×Nat))(x:Nat×Nat):gm (l++[x])=if x∈gm l then gm l else gm l++[x]:=by unfold gm;rw[List.foldl_append];rfl
theorem kl:∀(l:List (Nat×Nat))(x:Nat×Nat),x∈gm l↔x∈l:=by
 intro l;have key:∀n(l:List (Nat×Nat)),l.length=n->∀x,x∈gm l↔x∈l:=by
  intro n
  induction n with
  |zero=>intro l aj x;obtain rfl:=sb aj;exact mR
  |succ n ch=>
   intro l aj x;obtain⟨mO,y,rfl⟩:∃mO y,l=mO++[y]:=⟨l.dropLast,l.getLast (by intro h;subst h;simp at aj),(List.dropLast_concat_getLast _).symm⟩;have pa:mO.length=n:=by simpa using aj
   rw[Ov];split
   ·rename_i h;rw[ch mO pa x,iG,lB];constructor
    ·exact Or.inl
    ·rintro(h1|rfl)
     ·exact h1
     ·exact(ch mO pa _).1 h
   ·rw[iG,iG,ch mO pa x]
 exact key l.length l rfl
theorem xl:∀l:List (Nat×Nat),(gm l).Nodup:=by
 intro l;have key:∀n(l:List (Nat×Nat)),l.length=n->(gm l).Nodup:=by
  intro n
  induction n with
  |zero=>intro l aj;obtain rfl:=sb aj;exact List.nodup_nil
  |succ n ch=>
   intro l aj;obtain⟨mO,y,rfl⟩:∃mO y,l=mO++[y]:=⟨l.dropLast,l.getLast (by intro h;subst h;simp at aj),(List.dropLast_concat_getLast _).symm⟩;have pa:mO.length=n:=by simpa using aj
   rw[Ov];split
   ·exact ch mO pa
   ·rename_i h;refine List.nodup_append.2 ⟨ch mO pa,by simp,λa aQ b ψ=>?_⟩;rw[lB]at ψ;subst ψ;intro ι;subst ι;exact h aQ
 exact key l.length l rfl
def gF(x:Nat×Nat):Prop:=x.1<24/\x.2<16
theorem Wv{e:fF}(h:∀q∈e.2.2,kc q):∀x∈pB e,gF x:=λx I=>by
 obtain⟨q,aC,aO⟩:=uQ.1 I;cases q with
 |none=>cases aO
 |some y=>cases aO;exact h _ aC
structure ve(w:World)(B b n:Nat)(cr:List (Nat×Nat)):Prop where
 low:B<=b
 at_:∃es:Array MapEntry,w.heap[b]?=some (.map es es.size)/\es.toList.map (·.key)=cr.map (λx=>dO (some x))/\
  (∀(i:Nat)(e:MapEntry),es.toList[i]?=some e->e.born=i/\∃p m c xs,e.val=.slice p m c/\μ w B hG 2 p m c xs/\m<=n)/\
  (∀(i j:Nat)(e cO:MapEntry),es.toList[i]?=some e->es.toList[j]?=some cO->i≠j->∀a m c fy m' aT,e.val=.slice (some a) m c->cO.val=.slice (some fy) m' aT->a.block≠fy.block)
theorem ve.aH{w w':World}{B b n:Nat}{cr:List (Nat×Nat)}(h:ve w B b n cr){S:bf}(k:Kp w w' S)(ep:∀i,B<=i->i<w.heap.size->¬S i):ve w' B b n cr:=by obtain⟨h1,es,ι,aG,cq,db⟩:=h;have ψ:b<w.heap.size:=(Array.getElem?_eq_some_iff.1 ι).1;refine⟨h1,es,by rw[k.block b ψ (ep b h1 ψ)];exact ι,aG,λi e he=>?_,db⟩;obtain⟨g1,p,m,c,xs,g2,g3,g4⟩:=cq i e he;exact⟨g1,p,m,c,xs,g2,g3.aH k λa aQ=>ep _ (g3.ge aQ).1 (g3.ge aQ).2,g4⟩
theorem BV{x y:Nat×Nat}(I:gF x)(ah:gF y)(h:x≠y):(ek .eql (ev (some x)) (ev (some y))&&ek .eql (eE (some x)) (eE (some y)))=false:=by rw[Vl (q:=some x) (r:=some y) I ah];exact iy λe=>h (AE e)
theorem Ul{x:Nat×Nat}(I:gF x):(ek .eql (ev (some x)) (ev (some x))&&ek .eql (eE (some x)) (eE (some x)))=true:=by rw[Vl (q:=some x) (r:=some x) I I];exact bB rfl
theorem Va:IQ prog zb (.slice none 0 0):=by
 unfold IQ
 kernel_rfl
theorem Nh{es:Array MapEntry}(h:∀(i:Nat)(e:MapEntry),es.toList[i]?=some e->e.born=i){i:Nat}(o:i<es.size):es.findIdx? (λe=>(e.born:Int)==(i:Int))=some i:=by
 rw[Array.findIdx?_eq_some_iff_getElem];refine⟨o,?_,λj φ=>?_⟩
 ·have:=h i es[i] (by rw[Array.getElem?_toList];exact Array.getElem?_eq_getElem o)
  rw[this];simp
 ·have:=h j es[j] (by rw[Array.getElem?_toList];exact Array.getElem?_eq_getElem (by omega))
  rw[this];simp;omega
set_option maxRecDepth 8000 in
theorem ve.step{w:World}{B b n:Nat}{cr:List (Nat×Nat)}(h:ve w B b n cr)(ax:n<=100000)(dW:B<=w.heap.size){x:Nat×Nat}(I:gF x)(oA:∀y∈cr,gF y)(t4 t17:Int){N:ao}
  (K:∀ba,Kp w ba (λi=>B<=i)->ve ba B b (n+1) (if x∈cr then cr else cr++[x])->N ba):
  aN w #[(Value.int .i64 t4),(Value.int .i64 t17)] hG λaF aa=>
      ξ (some b) λae=>
      Om prog aa ae (ev (some x)) (eE (some x)) zb (.slice none 0 0) λv2 st1 az=>
      cN v2 λaX bu c2=>
      gK az aX bu c2 1 (a7 az (some ⟨aF,0,none⟩)) hG 2 16 #[(Value.int .i64 0),(Value.int .i64 0)] λbh bI aE=>
      ξ (some b) λc8=>
      On aE c8 st1 (Value.slice bh (bu+1) bI) λba=>N ba:=by
 rintro aF aa rfl rfl;have bo:=μ.new (w:=w) [.int .i64 t4,.int .i64 t17] hG;have ad:=η.alloc w (.cells [Value.int .i64 t4,.int .i64 t17].toArray hG);have jd:w.heap.size<=w.heap.size:=ew _;have gw:w.alloc (.cells #[.int .i64 t4,.int .i64 t17] hG)=w.alloc (.cells [Value.int .i64 t4,.int .i64 t17].toArray hG):=rfl;rw[gw];generalize amJ:w.heap.size=aF at bo jd⊢;generalize w.alloc (.cells [Value.int .i64 t4,.int .i64 t17].toArray hG)=aa at bo ad⊢;have aG:=h.aH ad λ_ _ _ h=>h;obtain⟨nj,es,o9,w4,iw,zP⟩:=aG;have JN:b<aa.heap.size:=(Array.getElem?_eq_some_iff.1 o9).1;have hlen:es.size=cr.length:=by
  have:=gP List.length w4
  simpa using this
 try dsimp only[bk]
 refine⟨Va,es,es.size,o9,?_⟩;have w3:∀(i:Nat)(y:Nat×Nat),cr[i]?=some y->∃e,es.toList[i]?=some e/\e.key=dO (some y):=by
  intro i y ah;have h1:i<cr.length:=(List.getElem?_eq_some_iff.1 ah).1;have ι:i<es.toList.length:=by rw[kP];omega
  refine⟨es.toList[i],List.getElem?_eq_getElem ι,?_⟩
  have:=gP (λl=>l[i]?) w4
  rw[List.getElem?_map,List.getElem?_map,ah,List.getElem?_eq_getElem ι]at this;simpa using this
 have JU:∀(i:Nat)(e:MapEntry),es.toList[i]?=some e->∃y,cr[i]?=some y/\e.key=dO (some y):=by
  intro i e he;have ι:i<es.toList.length:=(List.getElem?_eq_some_iff.1 he).1;have h1:i<cr.length:=by rw[kP]at ι;omega
  refine⟨cr[i],List.getElem?_eq_getElem h1,?_⟩
  have:=gP (λl=>l[i]?) w4
  rw[List.getElem?_map,List.getElem?_map,he,List.getElem?_eq_getElem h1]at this;simpa using this
 have s6:μ aa B hG 2 (some ⟨aF,0,none⟩) 1 1 [.int .i64 t4,.int .i64 t17]:=bo.lower (by omega);have SU:aF<aa.heap.size:=(bo.ge rfl).2;by_cases js:x∈cr
 ·
  right;obtain⟨i,o⟩:=List.getElem?_of_mem js;have Tf:∃i,cr[i]?=some x/\∀y∈cr.take i,y≠x:=by
   clear o
   have:∀l:List (Nat×Nat),x∈l->∃i,l[i]?=some x/\∀y∈l.take i,y≠x:=by
    intro l
    induction l with
    |nil=>intro h;cases h
    |cons a l ch=>
     intro h;by_cases DR:a=x
     ·exact⟨0,by simp[DR],λy ah=>by simp at ah⟩
     ·obtain⟨i,h1,ι⟩:=ch (by rcases fA.1 h with h|h;exact absurd h.symm DR;exact h);refine⟨i+1,by simpa using h1,λy ah=>?_⟩;rw[List.take_succ_cons]at ah;rcases fA.1 ah with h|h
      ·rw[h];exact DR
      ·exact ι y h
   exact this cr js
  obtain⟨i,o,SV⟩:=Tf;obtain⟨e,he,Td⟩:=w3 i x o;refine⟨i,e,he,Td,Ul I,λcO dG=>?_,?_⟩
  ·obtain⟨j,φ⟩:=List.getElem?_of_mem dG;have hz:j<i:=by
    have:=(List.getElem?_eq_some_iff.1 φ).1
    rw[gQ]at this;omega
   rw[List.getElem?_take_of_lt hz]at φ;obtain⟨y,ah,Ek⟩:=JU j cO φ;have T5:y∈cr.take i:=by refine eZ (i:=j) ?_;rw[List.getElem?_take_of_lt hz];exact ah
   exact⟨ev (some y),eE (some y),Ek,BV I (oA y (eZ ah)) λh=>SV y T5 h.symm⟩
  ·obtain⟨pV,p,m,c,xs,aJ,aB,hm⟩:=iw i e he;rw[aJ]
   try dsimp only[dY]
   refine Bb (B:=B) aB (by have:=ad.size;omega) [.int .i64 t4,.int .i64 t17] bo.cells rfl mW rfl (by omega) (by omega) ?_;intro bh bI aE cu dN nR;have lv:aE.heap[b]?=some (.map es es.size):=by
    rw[dN.block b JN λ⟨a,aQ,sU⟩=>?_]
    ·exact o9
    ·obtain⟨cur,fr,aP⟩:=(aB.typed aQ).1;rw[sU,o9]at aP;cases aP
   have Tq:i<es.size:=by have:=(List.getElem?_eq_some_iff.1 he).1;rwa[kP]at this
   refine⟨es,es.size,i,lv,by rw[pV];exact Nh (λi e he=>(iw i e he).1) Tq,λba z1=>?_⟩;subst z1;have nV:=Kp.putObj aE b (.map (es.modify i λe=>{e with val:=Value.slice bh (m+1) bI}) es.size);have DT:b<aE.heap.size:=(Array.getElem?_eq_some_iff.1 lv).1;have nP:Kp w (aE.putObj b (.map (es.modify i λe=>{e with val:=Value.slice bh (m+1) bI}) es.size)) (λi=>B<=i):=by
    refine Kp.trans (ad.aH λi=>B<=i) (Kp.trans dN nV (U:=λi=>B<=i) (λi _⟨a,aQ,o⟩=>?_) λi _ o=>?_) (λ_ _ h=>h) λ_ _ h=>h
    ·have:=(aB.ge aQ).1;omega
    ·rw[o];exact nj
   refine K _ nP ?_;rw[aS js];have ne:∀{q:J}{m' aT:Nat}{ys:aU},μ aE B hG 2 q m' aT ys->μ (aE.putObj b (.map (es.modify i λe=>{e with val:=Value.slice bh (m+1) bI}) es.size)) B hG 2 q m' aT ys:=λε=>ε.aH nV λa aQ o=>by obtain⟨cur,fr,aP⟩:=(ε.typed aQ).1;rw[o,lv]at aP;cases aP
   have TG:∀(j:Nat)(cO:MapEntry),es.toList[j]?=some cO->j≠i->∀{q:J}{m' aT:Nat}{ys:aU},cO.val=.slice q m' aT->μ aa B hG 2 q m' aT ys->μ aE B hG 2 q m' aT ys:=λj cO dG hz q m' aT ys nT ε=>ε.aH dN λa aQ⟨fy,G0,jc⟩=>by subst aQ;subst G0;exact zP j i cO e dG he hz a m' aT fy m c nT aJ jc.symm
   have lM:∀(j:Nat)(gY:MapEntry),(es.modify i λe=>{e with val:=Value.slice bh (m+1) bI}).toList[j]?=some gY->(j=i/\gY={e with val:=Value.slice bh (m+1) bI})\/(j≠i/\es.toList[j]?=some gY):=λj gY gl=>by
    rw[AD,List.getElem?_modify]at gl;by_cases hz:i=j
    ·subst hz;rw[he]at gl;left;simp at gl;exact⟨rfl,gl.symm⟩
    ·right;refine⟨λh=>hz h.symm,?_⟩;simpa[hz]using gl
   refine⟨nj,es.modify i λe=>{e with val:=Value.slice bh (m+1) bI},?_,?_,?_,?_⟩
   ·rw[World.putObj_heap_same DT,O3]
   ·rw[<-w4];apply qb;intro j;rw[List.getElem?_map,List.getElem?_map,AD,List.getElem?_modify];cases es.toList[j]?with
    |none=>rfl
    |some cO=>simp only[iT];split<;>rfl
   ·intro j gY gl;rcases lM j gY gl with⟨rfl,rfl⟩|⟨hz,dG⟩
    ·exact⟨pV,bh,m+1,bI,_,rfl,ne cu,by omega⟩
    ·obtain⟨g1,q,m',aT,ys,g2,g3,g4⟩:=iw j gY dG;exact⟨g1,q,m',aT,ys,g2,ne (TG j gY dG hz g2 g3),by omega⟩
   ·intro rR oF aO bE yr lx ca ar m1 c1 a2 m2 c2 mm mn;have sR:∀(j:Nat)(cO:MapEntry),es.toList[j]?=some cO->j≠i->∀fy m' aT a3,cO.val=.slice (some fy) m' aT->bh=some a3->a3.block≠fy.block:=λj cO dG hz fy m' aT a3 nT hp=>by
     rcases nR with rfl|rL
     ·exact zP i j e cO he dG (λh=>hz h.symm) a3 m c fy m' aT (by rw[aJ,hp]) nT
     ·have h1:=rL a3 hp;obtain⟨_,q,Uy,Rj,ys,g2,g3,_⟩:=iw j cO dG;rw[nT]at g2;cases g2
      have:=(g3.ge rfl).2
      omega
    rcases lM rR aO yr with⟨rfl,rfl⟩|⟨h1,g1⟩
    ·rcases lM oF bE lx with⟨rfl,rfl⟩|⟨ι,g2⟩
     ·exact absurd rfl ca
     ·have mm:Value.slice bh (m+1) bI=Value.slice (some ar) m1 c1:=mm;cases mm;exact sR oF bE g2 ι a2 m2 c2 ar mn rfl
    ·rcases lM oF bE lx with⟨rfl,rfl⟩|⟨ι,g2⟩
     ·have mn:Value.slice bh (m+1) bI=Value.slice (some a2) m2 c2:=mn;cases mn
      exactλh=>sR rR aO g1 h1 ar m1 c1 a2 mm rfl h.symm
     ·exact zP rR oF aO bE g1 g2 ca ar m1 c1 a2 m2 c2 mm mn
 ·
  left;refine⟨λe he=>?_,λaz sX=>?_⟩
  ·obtain⟨j,φ⟩:=List.getElem?_of_mem he;obtain⟨y,ah,Ek⟩:=JU j e φ;exact⟨ev (some y),eE (some y),Ek,BV I (oA y (eZ ah)) λh=>js (h▸eZ ah)⟩
  have nV:=Kp.putObj aa b (.map (es.push ⟨.complex .f64 (ev (some x)) (eE (some x)),.slice none 0 0,es.size⟩) (es.size+1));have mg:az.heap[b]?=some (.map (es.push ⟨.complex .f64 (ev (some x)) (eE (some x)),.slice none 0 0,es.size⟩) (es.size+1)):=by rw[sX];exact World.putObj_heap_same JN
  rw[<-sX]at nV;have t3:∀{q:J}{m' aT:Nat}{ys:aU},μ aa B hG 2 q m' aT ys->μ az B hG 2 q m' aT ys:=λε=>ε.aH nV λa aQ o=>by obtain⟨cur,fr,aP⟩:=(ε.typed aQ).1;rw[o,o9]at aP;cases aP
  try dsimp only[dY]
  refine Bb (B:=B) (μ.nil az B hG 2) (by have:=ad.size;have:=nV.size;omega) [.int .i64 t4,.int .i64 t17] (t3 s6).cells rfl mW rfl (by omega) (by omega) ?_;intro bh bI aE cu dN nR;have ak:η az aE:=dN.mono λi _⟨y,e,_⟩=>by cases e
  have rL:∀a,bh=some a->az.heap.size<=a.block:=λa aQ=>by
   rcases nR with rfl|h
   ·cases aQ
   ·exact h a aQ
  have lv:aE.heap[b]?=some (.map (es.push ⟨.complex .f64 (ev (some x)) (eE (some x)),.slice none 0 0,es.size⟩) (es.size+1)):=by rw[ak.block b (Array.getElem?_eq_some_iff.1 mg).1 id];exact mg
  generalize D8:es.push ⟨.complex .f64 (ev (some x)) (eE (some x)),.slice none 0 0,es.size⟩=lr at mg lv⊢;have ft:lr.size=es.size+1:=by rw[<-D8,Array.size_push]
  have mL:∀(j:Nat)(gY:MapEntry),lr.toList[j]?=some gY->(j=es.size/\gY=⟨.complex .f64 (ev (some x)) (eE (some x)),.slice none 0 0,es.size⟩)\/(j<es.size/\es.toList[j]?=some gY):=λj gY gl=>by
   rw[<-D8,O4]at gl;by_cases φ:j<es.size
   ·right;rw[List.getElem?_append_left (by rw[kP];exact φ)]at gl;exact⟨φ,gl⟩
   ·left;rw[List.getElem?_append_right (by rw[kP];omega),kP]at gl;have D4:j-es.size=0:=by
     cases aC:j-es.size with
     |zero=>rfl
     |succ n=>rw[aC]at gl;simp at gl
    rw[D4]at gl;exact⟨by omega,by simpa using gl.symm⟩
  have pV:∀(i:Nat)(e:MapEntry),lr.toList[i]?=some e->e.born=i:=λi e he=>by
   rcases mL i e he with⟨rfl,rfl⟩|⟨_,h⟩
   ·rfl
   ·exact(iw i e h).1
  refine⟨lr,es.size+1,es.size,lv,Nh pV (by omega),λba z1=>?_⟩;have Af:=Kp.putObj aE b (.map (lr.modify es.size λe=>{e with val:=Value.slice bh (0+1) bI}) (es.size+1));rw[<-z1]at Af;have DT:b<aE.heap.size:=(Array.getElem?_eq_some_iff.1 lv).1;have t5:∀{q:J}{m' aT:Nat}{ys:aU},μ aE B hG 2 q m' aT ys->μ ba B hG 2 q m' aT ys:=λε=>ε.aH Af λa aQ o=>by obtain⟨cur,fr,aP⟩:=(ε.typed aQ).1;rw[o,lv]at aP;cases aP
  have nP:Kp w ba (λi=>B<=i):=by
   refine Kp.trans (ad.aH λi=>B<=i) (Kp.trans nV (Kp.trans ak Af (U:=λi=>B<=i) (λ_ _ h=>h.elim) λi _ o=>?_) (U:=λi=>B<=i) (λi _ o=>?_) λ_ _ h=>h) (λ_ _ h=>h) λ_ _ h=>h
   ·rw[o];exact nj
   ·rw[o];exact nj
  refine K _ nP ?_;rw[aM js];have lM:∀(j:Nat)(gY:MapEntry),(lr.modify es.size λe=>{e with val:=Value.slice bh (0+1) bI}).toList[j]?=some gY->(j=es.size/\gY=⟨.complex .f64 (ev (some x)) (eE (some x)),Value.slice bh (0+1) bI,es.size⟩)\/(j<es.size/\es.toList[j]?=some gY):=λj gY gl=>by
   rw[AD,List.getElem?_modify]at gl;by_cases hz:es.size=j
   ·subst hz;left;cases aC:lr.toList[es.size]?with
    |none=>rw[aC]at gl;simp at gl
    |some hl=>
     rcases mL _ hl aC with⟨_,rfl⟩|⟨h,_⟩
     ·rw[aC]at gl;simp at gl;exact⟨rfl,gl.symm⟩
     ·omega
   ·have Tc:lr.toList[j]?=some gY:=by simpa[hz]using gl
    rcases mL _ gY Tc with⟨h,_⟩|h
    ·omega
    ·exact .inr h
  refine⟨nj,lr.modify es.size λe=>{e with val:=Value.slice bh (0+1) bI},?_,?_,?_,?_⟩
  ·rw[z1,World.putObj_heap_same DT,O3,ft]
  ·rw[q0,<-w4];have aO:(lr.modify es.size λe=>{e with val:=Value.slice bh (0+1) bI}).toList.map (·.key)=lr.toList.map (·.key):=by
    apply qb;intro j;rw[List.getElem?_map,List.getElem?_map,AD,List.getElem?_modify];cases lr.toList[j]?with
    |none=>rfl
    |some cO=>simp only[iT];split<;>rfl
   rw[aO,<-D8,O4,q0];rfl
  ·intro j gY gl;rcases lM j gY gl with⟨rfl,rfl⟩|⟨φ,dG⟩
   ·exact⟨rfl,bh,0+1,bI,_,rfl,t5 cu,by omega⟩
   ·obtain⟨g1,q,m',aT,ys,g2,g3,g4⟩:=iw j gY dG;exact⟨g1,q,m',aT,ys,g2,t5 ((t3 g3).ex ak),by omega⟩
  ·intro rR oF aO bE yr lx ca ar m1 c1 a2 m2 c2 mm mn;have sR:∀(j:Nat)(cO:MapEntry),es.toList[j]?=some cO->∀fy m' aT a3,cO.val=.slice (some fy) m' aT->bh=some a3->a3.block≠fy.block:=λj cO dG fy m' aT a3 nT hp=>by
    have h1:=rL a3 hp;obtain⟨_,q,Uy,Rj,ys,g2,g3,_⟩:=iw j cO dG;rw[nT]at g2;cases g2
    have:=(g3.ge rfl).2
    have:=nV.size
    omega
   rcases lM rR aO yr with⟨rfl,rfl⟩|⟨h1,g1⟩
   ·rcases lM oF bE lx with⟨rfl,rfl⟩|⟨ι,g2⟩
    ·exact absurd rfl ca
    ·have mm:Value.slice bh (0+1) bI=Value.slice (some ar) m1 c1:=mm;cases mm;exact sR oF bE g2 a2 m2 c2 ar mn rfl
   ·rcases lM oF bE lx with⟨rfl,rfl⟩|⟨ι,g2⟩
    ·have mn:Value.slice bh (0+1) bI=Value.slice (some a2) m2 c2:=mn;cases mn
     exactλh=>sR rR aO g1 ar m1 c1 a2 mm rfl h.symm
    ·exact zP rR oF aO bE g1 g2 ca ar m1 c1 a2 m2 c2 mm mn
end Go.Proofs.YtcpdfhkhaekekaaGreat.G
namespace Go.Proofs.YtcpdfhkhaekekaaGreat.G
open Go.bO Go.RowKit
theorem ve.mono{w:World}{B b n eX:Nat}{cr:List (Nat×Nat)}(h:ve w B b n cr)(ax:n<=eX):ve w B b eX cr:=by obtain⟨h1,es,ι,aG,cq,db⟩:=h;refine⟨h1,es,ι,aG,λi e he=>?_,db⟩;obtain⟨g1,p,m,c,xs,g2,g3,g4⟩:=cq i e he;exact⟨g1,p,m,c,xs,g2,g3,by omega⟩
theorem aeO{R:bR}{k:Nat}{e:fF}(he:R[k]?=some e):(R.take (k+1)).flatMap pB=(R.take k).flatMap pB++pB e:=by obtain⟨hk,rfl⟩:=List.getElem?_eq_some_iff.1 he;rw[k6 hk,vZ];simp
theorem PX{l:List ea}{j:Nat}(φ:j<l.length):(l.take (j+1)).filterMap id=(l.take j).filterMap id++[l[j]].filterMap id:=by rw[k6 φ,List.filterMap_append]
theorem q8{R:bR}(h:∀e∈R,lz e):∀x∈used R,gF x:=λx I=>by obtain⟨e,he,h1⟩:=oU.1 I;exact Wv (h e he).1 x h1
theorem adh{R:bR}(h:∀e∈R,lz e){k:Nat}{e:fF}(he:R[k]?=some e)(j:Nat):∀x∈(R.take k).flatMap pB++(e.2.2.take j).filterMap id,gF x:=λx I=>by
 rcases iG.1 I with I|I
 ·obtain⟨e,he,h1⟩:=oU.1 I;exact Wv (h e (vW he)).1 x h1
 ·obtain⟨q,aC,h1⟩:=uQ.1 I;exact Wv (h e (eZ he)).1 x (uQ.2 ⟨q,vW aC,h1⟩)
theorem ajo{w:World}{R:bR}{ps:aU}(h:h2 w R ps):
  kv.C (bK R ps).toArray w (χ λv w'=>(∃(b:Nat)(es:Array MapEntry),v=.map (some b)/\w'.heap[b]?=some (.map es es.size)/\es.size=(gm (used R)).length)/\η w w'):=by
 apply kv.ok;unfold kv.main;have mj:=h.row;rintro δ γ rfl rfl θ τ rfl rfl;have ρ:=μ.new (w:=w) (bK R ps) bU;have ζ:=η.alloc w (.cells (bK R ps).toArray bU);generalize w.heap.size=δ at ρ⊢;generalize w.alloc (.cells (bK R ps).toArray bU)=γ at ρ ζ⊢;have σ:=η.alloc γ (.map #[] 0);have hm:=DY γ (.map #[] 0);have dW:γ.heap.size<=(γ.alloc (.map #[] 0)).heap.size:=σ.size;have T0:=ζ.size;generalize al8:γ.heap.size=B at hm dW T0⊢;have m0:ve (γ.alloc (.map #[] 0)) B B 0 []:=⟨ew _,#[],hm,rfl,λi e he=>by simp at he,λi j e cO he=>by simp at he⟩;generalize γ.alloc (.map #[] 0)=τ at σ dW m0⊢;have h:=h.ex (ζ.trans σ);have ρ:=ρ.ex σ;have af:aw τ (⟨δ,16,none⟩:Addr) ps:=by
  have:=aw.drop ρ.cells 16
  rwa[Addr.add_lit,mS,h.drop]at this
 refine⟨ps.toArray,by rw[fh];exact h.dx,af,?_⟩;unfold kv.bd;refine⟨λt3 t10 t11 w'=>t3=some B/\ps.toArray=t10/\0<=t11/\t11<=8/\ve w' B B (t11.toNat*1000) (gm ((R.take t11.toNat).flatMap pB))/\Kp τ w' λi=>B<=i,λt3 t10 t11 w'=>(8-t11).toNat,⟨rfl,rfl,by omega,by omega,m0,Kp.refl _ _⟩,?_⟩;rintro _ _ t11 w' ⟨rfl,rfl,aD,dr,lL,I⟩;unfold kv.δ;obtain⟨k,rfl⟩:=eH aD;rw[cy]at lL;have fin:∀{w':World},Kp τ w' (λi=>B<=i)->η w w':=λI=>(ζ.trans σ).then I λi ψ=>by omega
 refine bz (λbM=>?_) λbM=>?_
 ·have bM:=b7 bM;have hk:k<8:=by omega
  obtain⟨e,he⟩:=h.get hk;obtain⟨p,c,hp,DV⟩:=mj k e he;have kL:=(DV.ex ζ).ex σ;obtain⟨dt,aj,_,_⟩:=h.ok e (eZ he);refine bL (bB aD) (bL (bB bM) ?_);rw[cy,ey];have gw:ps.toArray[k]?=some (.slice p e.2.2.length c):=by rw[List.getElem?_toArray];exact hp
  rw[gw]
  try dsimp only[bk,dY]
  unfold kv.fG;refine⟨λt3 t4 t10 t11 sj si uX t16 t17 w'=>t3=some B/\ps.toArray=t10/\(k:Int)=t11/\p=sj/\e.2.2.length=si/\c=uX/\(e.2.2.length:Int)=t16/\0<=t17/\t17<=e.2.2.length/\ve w' B B (k*1000+t17.toNat) (gm ((R.take k).flatMap pB++(e.2.2.take t17.toNat).filterMap id))/\Kp τ w' λi=>B<=i,
   λt3 t4 t10 t11 sj si uX t16 t17 w'=>(e.2.2.length-t17).toNat,⟨rfl,rfl,rfl,rfl,rfl,rfl,rfl,by omega,by omega,?_,I⟩,?_⟩
  ·have:(R.take k).flatMap pB++(e.2.2.take (0:Int).toNat).filterMap id=(R.take k).flatMap pB:=by simp
   rw[this];exact lL.mono (Nat.le_add_right _ _)
  clear lL I;rintro _ t4 _ _ _ _ _ _ t17 w' ⟨rfl,rfl,rfl,rfl,rfl,rfl,rfl,i0,i1,lL,I⟩;unfold kv.θ;obtain⟨j,rfl⟩:=eH i0;rw[cy]at lL;have DO:B<=w'.heap.size:=by have:=I.size;omega
  refine bz (λπ=>?_) λπ=>?_
  ·have π:=b7 π;have φ:j<e.2.2.length:=by omega
   have yn:a7 w' p (e.2.2.map dO):=by
    have:=kL.aH I (λa aQ ψ=>by subst aQ;have h1:=MK (DV.cell (j:=j) (by rw[jV];exact φ));rw[x1]at h1;omega)
    exact this
   obtain⟨a,rfl,r⟩:=EU yn φ;have aC:=dt _ (hF φ);refine bL (bB i0) (bL (bB π) ?_)
   try dsimp only[bk]
   rw[cy,ey];refine⟨_,_,r,?_⟩;rw[empty_eq aC];have kY:IntKind.i64.wrap ((j:Int)+1)=((j+1:Nat):Int):=by rw[bY (by omega) (by omega)];rfl
   have kk:((j+1:Nat):Int).toNat=j+1:=rfl;cases rO:e.2.2[j]with
   |none=>
    rw[cond_neg (by rfl),kY];refine⟨⟨rfl,rfl,rfl,rfl,rfl,rfl,rfl,by omega,by omega,?_,I⟩,by((try dsimp only);omega)⟩;rw[kk,PX φ,rO]
    have:[(none:ea)].filterMap id=[]:=rfl
    rw[this,pn];exact lL.mono (by omega)
   |some x=>
    rw[rO]at aC;rw[cond_pos (by rfl)];refine lL.step (by omega) DO aC (λy ah=>adh h.ok he j y ((kl _ _).1 ah)) t4 j λba ec m6=>?_;rw[kY];refine⟨⟨rfl,rfl,rfl,rfl,rfl,rfl,rfl,by omega,by omega,?_,I.fZ ec⟩,by((try dsimp only);omega)⟩;rw[kk,PX φ,rO]
    have:[(some x:ea)].filterMap id=[x]:=rfl
    rw[this,<-lT,Ov];exact m6.mono (by omega)
  ·have π:=dd π;have φ:j=e.2.2.length:=by omega
   rw[Gm hk];refine⟨⟨rfl,rfl,by omega,by omega,?_,I⟩,by((try dsimp only);omega)⟩;have kk:((k+1:Nat):Int).toNat=k+1:=rfl;rw[kk,aeO he];rw[φ,AB]at lL;exact lL.mono (by omega)
 ·have bM:=dd bM;obtain rfl:k=8:=by omega
  obtain⟨_,es,ι,aG,_,_⟩:=lL;refine χ.mk ⟨⟨B,es,rfl,ι,?_⟩,fin I⟩
  have:=gP List.length aG
  rw[jV,jV,hc (by rw[h.len];omega)]at this;simpa[used]using this
def dx(U:List (Nat×Nat)):aU:=U.map λx=>dO (some x)
theorem arl(U:List (Nat×Nat)):∀z∈dx U,z.oneCell'=true:=by intro z aL;obtain⟨q,_,rfl⟩:=gO.1 aL;rfl
theorem adn(U V:List (Nat×Nat)):dx U++dx V=dx (U++V):=by simp[dx]
theorem yP(U:List (Nat×Nat)):(dx U).length=U.length:=by simp[dx]
open Go.bO Go.RowKit
theorem rW{α:Type}:∀(l m:List α),l.Nodup->(∀x∈l,x∈m)->l.length<=m.length
 |[],m,_,_=>en _
 |a::l,m,ax,ω=>by
  obtain⟨s,t,rfl⟩:=List.append_of_mem (ω a (n2 ..));have J3:=K9.1 ax
  have:=rW l (s++t) J3.2 λx I=>by
   have h1:=ω x (hW _ I);have ca:x≠a:=λh=>J3.1 (h▸I);rcases iG.1 h1 with h|h
   ·exact iG.2 (.inl h)
   ·rcases fA.1 h with h|h
    ·exact absurd h ca
    ·exact iG.2 (.inr h)
  simp only[fe,k5]at this⊢;omega
theorem U5{s k:Int}{R:bR}:(∀e∈R,e.2.2.any (s8 s k)=false)↔∀x∈used R,Hq s k (some x)=true:=by
 constructor
 ·intro h x I;obtain⟨e,he,I⟩:=oU.1 I;obtain⟨q,aC,aO⟩:=uQ.1 I
  have:=HW.1 (h e he) q aC
  cases q with
  |none=>cases aO
  |some y=>
   cases aO;simpa[s8]using this
 ·intro h e he;refine HW.2 λq aC=>?_;cases q with
  |none=>simp[s8]
  |some y=>
   have:=h y (oU.2 ⟨e,he,uQ.2 ⟨_,aC,rfl⟩⟩)
   simp[s8,this]
def lG(s k:Int)(R:bR):Prop:=CJ s k R/\((gm (used R)).length:Int)<=(s-4)*k
theorem Xf{w:World}{R:bR}{ps:aU}(h:h2 w R ps)(s m:Int):
  EP.C (bK R ps).toArray s m w (χ λv w'=>(∃e,v=.int .i64 e/\(e=0↔lG s m R))/\η w w'):=by
 apply EP.ok;unfold EP.main;rintro δ γ rfl rfl θ τ rfl rfl;have ρ:=μ.new (w:=w) (bK R ps) bU;have ζ:=η.alloc w (.cells (bK R ps).toArray bU);generalize w.heap.size=δ at ρ⊢;generalize w.alloc (.cells (bK R ps).toArray bU)=γ at ρ ζ⊢;have ai:=μ.new (w:=γ) (two s m) b2;have σ:=η.alloc γ (.cells (two s m).toArray b2);have bE:γ.alloc (.cells #[.int .i64 s,.int .i64 m] b2)=γ.alloc (.cells (two s m).toArray b2):=rfl;rw[bE];generalize γ.heap.size=θ at ai⊢;generalize γ.alloc (.cells (two s m).toArray b2)=τ at ai σ⊢;have ρ:=ρ.ex σ;have jU:=ζ.trans σ;have h:=h.ex jU;refine⟨(bK R ps).toArray,by rw[fh];exact h.dU,ρ.cells,(two s m).toArray,rfl,ai.cells,?_⟩;refine κ.use (Q4 h s m) ?_;rintro _ aa ⟨⟨e,rfl,he⟩,ad⟩
 try dsimp only[bH]
 refine bz (λπ=>?_) λπ=>?_
 ·have π:¬e=0:=by simpa using π
  exact χ.mk ⟨⟨e,rfl,λh=>absurd h π,λh=>he.2 h.1⟩,jU.trans ad⟩
 have π:e=0:=by simpa using π
 have jQ:=he.1 π;have dS:=uE.1 jQ.1;refine⟨(two s m).toArray,rfl,(ai.ex ad).cells,?_⟩;refine κ.use (Qx s m dS aa) ?_;rintro _ aE ⟨rfl,ak⟩
 try dsimp only[bX,cC,cD,bk,bH]
 have IM:=ad.trans ak;have h:=h.ex IM;refine⟨(bK R ps).toArray,by rw[fh];exact h.dU,(ρ.ex IM).cells,?_⟩;refine κ.use (ajo h) ?_;rintro _ bm ⟨⟨b,es,rfl,ψ,o9⟩,aV⟩
 try dsimp only[M3]
 refine⟨_,_,ψ,?_⟩;dsimp only;have fin:=jU.trans (IM.trans aV);rw[o9];refine bz (λπ=>?_) λπ=>?_
 ·have π:=b7 π;refine χ.mk ⟨⟨9,rfl,⟨λh=>(by cases h),λh=>(by have:=h.2;omega)⟩⟩,fin⟩
 ·have π:=dd π;exact χ.mk ⟨⟨0,rfl,λ_=>⟨jQ,by omega⟩,λ_=>rfl⟩,fin⟩
end Go.Proofs.YtcpdfhkhaekekaaGreat.G
namespace Go.Proofs.YtcpdfhkhaekekaaGreat.G
open Tryz
open Go.bO Go.RowKit
def Ak(k:Int):ea->Int
 |none=>0
 |some x=>x.1*k+x.2+1
def BZ(k:Int)(q:ea):an:=bt.be 2 (Ak k q)
def ju(k:Int)(l:List ea):an:=l.flatMap (BZ k)
def xu(k:Int)(e:fF):an:=[e.1,e.2.1]++ju k e.2.2
def eQ(k:Int)(R:bR):an:=R.flatMap (xu k)
theorem HM(k:Int):∀l:List ea,(ju k l).length=2*l.length
 |[]=>rfl
 |q::l=>by
  have:=HM k l
  unfold ju at this⊢;rw[yS,fe,this];unfold BZ;rw[bt.sE,k5];omega
theorem Vf(k:Int)(e:fF):(xu k e).length=2+2*e.2.2.length:=by unfold xu;rw[fe,HM];rfl
theorem arj(k:Int)(l:List ea):Bytes (ju k l):=λx I=>by obtain⟨q,_,h⟩:=oU.1 I;exact bt.Bj _ _ x h
theorem aq2{k:Int}{e:fF}(h:lz e):Bytes (xu k e):=λx I=>by
 unfold xu at I;rcases iG.1 I with I|I
 ·simp only[fA,n1,oS]at I;rcases I with rfl|rfl
  ·exact h.2.2.1
  ·exact h.2.2.2
 ·exact arj k _ x I
theorem adi{k:Int}{R:bR}(h:∀e∈R,lz e):Bytes (eQ k R):=λx I=>by obtain⟨e,he,h1⟩:=oU.1 I;exact aq2 (h e he) x h1
theorem PW{R:bR}{k:Nat}{e:fF}(he:R[k]?=some e)(m:Int):eQ m (R.take (k+1))=eQ m (R.take k)++xu m e:=by obtain⟨hk,rfl⟩:=List.getElem?_eq_some_iff.1 he;unfold eQ;rw[k6 hk,vZ];simp
theorem aqZ{R:bR}(h:∀e∈R,lz e)(m:Int)(k:Nat):(eQ m (R.take k)).length<=k*2002:=by
 induction k with
 |zero=>simp[eQ]
 |succ k ch=>
  by_cases hk:k<R.length
  ·rw[PW (List.getElem?_eq_getElem hk),fe,Vf];have h1:=(h _ (hF hk)).2.1;omega
  ·rw[hc (by omega)];rw[hc (by omega)]at ch;exact fY ch (tf 2002 (Nat.le_succ k))
theorem adW{n:Int}(h:0<=n/\n<65536):bt.oW 2 [n]=bt.be 2 n:=by
 have:=(bt.Ii (k:=2) (by omega) (by omega) [n]).2
 have e:((2:Nat):Int)=2:=rfl;rw[e]at this;rw[this,aS (by simp[bt.nX];omega)];simp
theorem VP{n:Int}(h:0<=n/\n<4294967296):bt.oW 4 [n]=bt.be 4 n:=by
 have:=(bt.Ii (k:=4) (by omega) (by omega) [n]).2
 have e:((4:Nat):Int)=4:=rfl;rw[e]at this;rw[this,aS (by simp[bt.nX];omega)];simp
theorem asg{a b c:Int}(aQ:0<=a/\a<256)(ψ:0<=b/\b<256)(π:0<=c/\c<256):bt.oW 1 [a,b,c]=[a,b,c]:=by
 have:=(bt.Ii (k:=1) (by omega) (by omega) [a,b,c]).2
 have e:((1:Nat):Int)=1:=rfl;rw[e]at this;rw[this,aS (by simp[bt.nX];omega)];simp[bt.be];omega
theorem abE{s k:Int}{R:bR}(h:lG s k R){e:fF}(he:e∈R){x:Nat×Nat}(I:some x∈e.2.2):(x.2:Int)<k/\(x.1:Int)*k+x.2<s*k:=by
 have:=U5.1 h.1.2.2 x (oU.2 ⟨e,he,uQ.2 ⟨_,I,rfl⟩⟩)
 rw[Ko]at this;simpa using this
theorem aq4{w:World}{R:bR}{ps:aU}(h:h2 w R ps){s m:Int}(j9:lG s m R):
  np.C (bK R ps).toArray s m w (χ λv w'=>(∃p c,v=.slice p (eQ m R).length c/\μ w' w.heap.size dk 1 p (eQ m R).length c (bj (eQ m R)))/\η w w'):=by
 have dS:=uE.1 j9.1.1;have hp:=KS dS;apply np.ok;unfold np.main;have mj:=h.row;rintro δ γ rfl rfl θ τ rfl rfl;have ρ:=μ.new (w:=w) (bK R ps) bU;have ζ:=η.alloc w (.cells (bK R ps).toArray bU);generalize ej:w.heap.size=δ at ρ⊢;generalize w.alloc (.cells (bK R ps).toArray bU)=γ at ρ ζ⊢;have ai:=μ.new (w:=γ) (two s m) b2;have σ:=η.alloc γ (.cells (two s m).toArray b2);have bE:γ.alloc (.cells #[.int .i64 s,.int .i64 m] b2)=γ.alloc (.cells (two s m).toArray b2):=rfl;rw[bE];have Eh:=ζ.size;generalize γ.heap.size=θ at ai Eh⊢;generalize γ.alloc (.cells (two s m).toArray b2)=τ at ai σ⊢;have ρ:=ρ.ex σ;have jU:=ζ.trans σ;have h:=h.ex jU;refine⟨(kinds R).toArray,by rw[fh];exact h.En,by have:=a7.take ρ.cells 16;rwa[h.take]at this,?_⟩;unfold np.bd;refine⟨λt2 t3 lD lY lX t12 t13 w'=>δ=t2/\θ=t3/\(kinds R).toArray=t12/\0<=t13/\t13<=8/\lY=(eQ m (R.take t13.toNat)).length/\μ w' τ.heap.size dk 1 lD lY lX (bj (eQ m (R.take t13.toNat)))/\η τ w',λt2 t3 lD lY lX t12 t13 w'=>(8-t13).toNat,⟨rfl,rfl,rfl,by omega,by omega,rfl,μ.nil _ _ _ _,η.refl _⟩,?_⟩;rintro _ _ lD lY lX _ t13 w' ⟨rfl,rfl,rfl,aD,dr,ax,own,I⟩;unfold np.δ;obtain⟨k,rfl⟩:=eH aD;rw[cy]at ax own;subst ax;refine bz (λbM=>?_) λbM=>?_
 ·have bM:=b7 bM;have hk:k<8:=by omega
  obtain⟨e,he⟩:=h.get hk;obtain⟨p,c,aoa,DV⟩:=mj k e he;have kL:=(DV.ex ζ).ex σ;have aaG:=eZ he;obtain⟨dt,aj,vC,ni⟩:=h.ok e aaG;have uy:=aqZ h.ok m k;refine bL (bB aD) (bL (bB bM) ?_);rw[cy,h.pair he];rintro aF aa rfl rfl;have bo:=μ.new (w:=w') [.int .i64 0,.int .i64 0] jl;have ad:=η.alloc w' (.cells [Value.int .i64 0,.int .i64 0].toArray jl);generalize w'.alloc (.cells #[.int .i64 0,.int .i64 0] jl)=aa at bo ad⊢;refine bL (by rfl) ?_;refine bo.put (cs:=two e.1 e.2.1) (by rfl) (IB _ _) λaz cz cx=>?_;have aA:η w' az:=ad.then cz λi o=>o▸ew _;refine⟨e.1,cx.at (by rfl),e.2.1,cx.at (by rfl),?_⟩;rintro ae aE rfl rfl;have cu:=μ.alloc (w:=az) (bt.v64 [e.1,e.2.1]) cj 1 2 rfl;have ak:=η.alloc az (.cells (bt.v64 [e.1,e.2.1]).toArray cj);have h3:az.alloc (.cells #[.int .i64 e.1,.int .i64 e.2.1] cj)=az.alloc (.cells (bt.v64 [e.1,e.2.1]).toArray cj):=rfl;rw[h3];generalize az.alloc (.cells (bt.v64 [e.1,e.2.1]).toArray cj)=aE at cu ak⊢;have IN:=aA.trans ak;refine κ.use (B6 (own.ex IN) (I.trans IN).size 1 cu.cells rfl (by omega) (by omega)) ?_;rintro _ ba ⟨jG,rD,rfl,bS,ec⟩
  try dsimp only[dY]
  rw[adV _ _ vC ni]at bS⊢;have aI:η τ ba:=(I.trans IN).then ec λi⟨x,e,o⟩=>by
   have:=(own.ge e).1
   omega
  refine bL (bB aD) (bL (bB bM) ?_);rw[zw];refine⟨p,e.2.2.length,c,(ρ.ex aI).at (by rw[h.place,aoa]),?_⟩;unfold np.fG;generalize cV:eQ m (R.take k)=P at own bS uy⊢;rw[<-fe]at bS⊢;refine⟨λt2 t3 lD lY lX t12 t13 Iw Iv LA t28 t29 hN=>δ=t2/\θ=t3/\(kinds R).toArray=t12/\(k:Int)=t13/\p=Iw/\e.2.2.length=Iv/\c=LA/\(e.2.2.length:Int)=t28/\0<=t29/\t29<=e.2.2.length/\lY=(P++[e.1,e.2.1]++ju m (e.2.2.take t29.toNat)).length/\μ hN τ.heap.size dk 1 lD lY lX (bj (P++[e.1,e.2.1]++ju m (e.2.2.take t29.toNat)))/\η τ hN,
   λt2 t3 lD lY lX t12 t13 Iw Iv LA t28 t29 hN=>(e.2.2.length-t29).toNat,⟨rfl,rfl,rfl,rfl,rfl,rfl,rfl,rfl,by omega,by omega,by simp[ju],by simpa[ju]using bS,aI⟩,?_⟩
  clear own bS aI ec;rintro _ _ lD lY lX _ _ _ _ _ _ t29 hN ⟨rfl,rfl,rfl,rfl,rfl,rfl,rfl,rfl,i0,i1,ax,own,Kj⟩;unfold np.θ;obtain⟨j,rfl⟩:=eH i0;rw[cy]at ax own;subst ax;refine bz (λπ=>?_) λπ=>?_
  ·have π:=b7 π;have φ:j<e.2.2.length:=by omega
   obtain⟨a,rfl,r⟩:=EU (kL.ex Kj) φ;have aC:=dt _ (hF φ);have js:=hF φ;have yA:ju m (e.2.2.take (j+1))=ju m (e.2.2.take j)++BZ m e.2.2[j]:=by unfold ju;rw[k6 φ,vZ];simp
   have zV:(P++[e.1,e.2.1]++ju m (e.2.2.take j)).length<=100000:=by rw[fe,fe,HM,gQ];simp only[k5,Fa];omega
   refine bL (bB i0) (bL (bB π) ?_)
   try dsimp only[bk]
   rw[cy,ey];refine⟨_,_,r,?_⟩;rw[empty_eq aC];have kY:IntKind.i64.wrap ((j:Int)+1)=((j+1:Nat):Int):=by rw[bY (by omega) (by omega)];rfl
   have kk:((j+1:Nat):Int).toNat=j+1:=rfl
   have put:∀{n:Int}{aa:World}{b:Nat}{N:Value->ao}{X:List PanicEntry->ao},η τ aa->μ aa τ.heap.size dk 1 lD (P++[e.1,e.2.1]++ju m (e.2.2.take j)).length lX (bj (P++[e.1,e.2.1]++ju m (e.2.2.take j)))->a7 aa (some ⟨b,0,none⟩) (bt.v64 [n])->Ak m e.2.2[j]=n->0<=n->n<65536->
     (∀p c az,η τ az->μ az τ.heap.size dk 1 p (P++[e.1,e.2.1]++ju m (e.2.2.take (j+1))).length c (bj (P++[e.1,e.2.1]++ju m (e.2.2.take (j+1))))->N (.slice p (P++[e.1,e.2.1]++ju m (e.2.2.take (j+1))).length c) az)->
     κ prog 139 #[.slice lD (P++[e.1,e.2.1]++ju m (e.2.2.take j)).length lX,.int .i64 2,.slice (some ⟨b,0,none⟩) 1 1] aa N X:=by
    intro n aa b N X I own π anX Tz qN K;refine κ.use (B6 own I.size 2 π rfl (by omega) (by omega)) ?_;rintro _ az ⟨bT,aT,rfl,ε,k⟩;rw[adW ⟨Tz,qN⟩]at ε⊢;have aO:BZ m e.2.2[j]=bt.be 2 n:=by unfold BZ;rw[anX]
    rw[<-aO]at ε⊢;rw[yA,<-lT,fe]at K;refine K bT aT az (I.then k λi⟨x,ex,o⟩=>by have:=(own.ge ex).1;omega) ε
   cases rO:e.2.2[j]with
   |none=>
    rw[cond_neg (by rfl)];rintro fq dn rfl rfl;have bS:=μ.alloc (w:=hN) (bt.v64 [0]) cj 1 1 rfl;have aI:=η.alloc hN (.cells (bt.v64 [0]).toArray cj);have pR:hN.alloc (.cells #[.int .i64 0] cj)=hN.alloc (.cells (bt.v64 [0]).toArray cj):=rfl;rw[pR];generalize hN.alloc (.cells (bt.v64 [0]).toArray cj)=dn at bS aI⊢;refine put (Kj.trans aI) (own.ex aI) bS.cells (by rw[rO];rfl) (by omega) (by omega) λbT aT dX j7 r1=>?_
    try dsimp only[dY]
    rw[kY];exact⟨⟨rfl,rfl,rfl,rfl,rfl,rfl,rfl,rfl,by omega,by omega,by rw[kk],by rw[kk];exact r1,j7⟩,by((try dsimp only);omega)⟩
   |some x=>
    rw[rO]at aC js;rw[cond_pos (by rfl)];have c4:=abE j9 aaG js;refine⟨m,((ai.ex Kj).at (by rfl)),?_⟩;refine κ.use (QH (some x) aC m (by omega) hN) ?_;rintro _ b5 ⟨rfl,zJ⟩;obtain rfl:=zJ.symm;rw[Jw,aS c4.1];have e:(bt.v64 [(x.1:Int)*m+x.2,0]).toArray=#[.int .i64 ((x.1:Int)*m+x.2),.int .i64 0]:=rfl;rw[e]
    try dsimp only[bX,cC,cD,bk,bH]
    have vB:=Jv (k:=m) aC.1 (by omega);have axD:=aC.2;rw[bY (x:=(x.1:Int)*m+x.2+1) (by omega) (by omega)];rintro c8 c6 rfl rfl;have cu:=μ.alloc (w:=hN) (bt.v64 [(x.1:Int)*m+x.2+1]) cj 1 1 rfl;have ak:=η.alloc hN (.cells (bt.v64 [(x.1:Int)*m+x.2+1]).toArray cj);have h3:hN.alloc (.cells #[.int .i64 ((x.1:Int)*m+x.2+1)] cj)=hN.alloc (.cells (bt.v64 [(x.1:Int)*m+x.2+1]).toArray cj):=rfl;rw[h3];generalize hN.alloc (.cells (bt.v64 [(x.1:Int)*m+x.2+1]).toArray cj)=c6 at cu ak⊢;refine put (Kj.trans ak) (own.ex ak) cu.cells (by rw[rO];rfl) (by omega) (by omega) λbT aT cA fl r0=>?_
    try dsimp only[dY]
    rw[kY];exact⟨⟨rfl,rfl,rfl,rfl,rfl,rfl,rfl,rfl,by omega,by omega,by rw[kk],by rw[kk];exact r0,fl⟩,by((try dsimp only);omega)⟩
  ·have π:=dd π;have φ:j=e.2.2.length:=by omega
   rw[Gm hk];have kk:((k+1:Nat):Int).toNat=k+1:=rfl;have yu:P++[e.1,e.2.1]++ju m (e.2.2.take j)=eQ m (R.take (k+1)):=by rw[PW he,cV,φ,AB];unfold xu;rw[lT]
   rw[yu]at own⊢;exact⟨⟨rfl,rfl,rfl,by omega,by omega,by rw[kk],by rw[kk];exact own,Kj⟩,by((try dsimp only);omega)⟩
 ·have bM:=dd bM;obtain rfl:k=8:=by omega
  rw[hc (by rw[h.len];omega)]at own⊢;exact χ.mk ⟨⟨lD,lX,rfl,own.lower (ej▸jU.size)⟩,jU.trans I⟩
end Go.Proofs.YtcpdfhkhaekekaaGreat.G
namespace Go.Proofs.YtcpdfhkhaekekaaGreat.G.cL
open Tryz
open Go.bO Go.RowKit
structure gz where
 q:Int
 s:Int
 k:Int
 m:Nat
 n:Nat
structure gz.Ok(H:gz):Prop where
 q:0<=H.q/\H.q<4294967296
 s:0<=H.s/\H.s<256
 k:0<=H.k/\H.k<256
 m:H.m<256
 n:H.n<65536
def lK(H:gz):an:=la++bt.be 4 H.q
def yp(H:gz):an:=lK H++[H.s,H.k,(H.m:Int)]
def BB(H:gz):an:=yp H++bt.be 2 (H.n:Int)
structure Ctx(H:gz)(W:World)(θ aF ae:Nat)(cw:J)(cv:Nat):Prop where
 ok:H.Ok
 bP:μ W 0 b2 2 (some ⟨θ,0,none⟩) 1 1 [.int .i64 H.s,.int .i64 H.k]
 cd:μ W 0 cj 1 (some ⟨aF,0,none⟩) 1 1 [.int .i64 H.q]
 cz:μ W 0 u1 1 (some ⟨ae,0,none⟩) 1 1 [.slice cw H.m cv]
def Fin(H:gz)(W:World)(D ae:Nat)(ab:J)(c1:Nat)(R:aq):Prop:=
 ∀(vQ:J)(vo:Nat)(o3:World),η W o3->c5 W o3 vQ 13 vo (BB H)->∃(mP:J)(n18 ot:Nat),o3.drew.cell? (⟨ae,0,none⟩:Addr)=some (.slice mP n18 ot)/\bq.B0 D ab H.n c1 o3 ae mP n18 ot vQ 13 vo R
theorem HO{W w:World}{N:Value->ao}{X:List PanicEntry->ao}(I:η W w){p:J}{n c:Nat}{xs:an}(h1:c5 W w p n c xs){b:Nat}{l:an}(ι:eO w b l){s:Int}{r:an}(υ:bt.oW s l=r)(eX m':Nat)(J3:n+r.length=eX)(hm:l.length=m')(ax:n<=1000)(aj:m'<=10)
  (K:∀p c w',η W w'->(∀b l,eO w b l->eO w' b l)->c5 W w' p eX c (xs++r)->N (.slice p eX c) w'):κ prog 139 #[.slice p n c,.int .i64 s,.slice (some ⟨b,0,none⟩) m' m'] w N X:=by
 subst J3 hm;exact arv I h1 ι υ ax aj K
theorem OO{H:gz}(hk:H.Ok){W w:World}{N:Value->ao}{X:List PanicEntry->ao}(I:η W w){cT jN:Nat}(GX:c5 W w (some ⟨cT,0,none⟩) 4 4 la)(Nr:eO w jN [H.q])
  (K:∀p c w',η W w'->(∀b l,eO w b l->eO w' b l)->c5 W w' p 8 c (lK H)->N (.slice p 8 c) w'):κ prog 139 #[.slice (some ⟨cT,0,none⟩) 4 4,.int .i64 4,.slice (some ⟨jN,0,none⟩) 1 1] w N X:=
 HO I GX Nr (VP hk.q) 8 1 (by rw[bt.sE]) rfl (by omega) (by decide) K
theorem adt{H:gz}(hk:H.Ok){W w:World}{N:Value->ao}{X:List PanicEntry->ao}(I:η W w){kO:J}{kI oq:Nat}(s1:c5 W w kO 8 kI (lK H))(SA:eO w oq [H.s,H.k,(H.m:Int)])
  (K:∀p c w',η W w'->(∀b l,eO w b l->eO w' b l)->c5 W w' p 11 c (yp H)->N (.slice p 11 c) w'):κ prog 139 #[.slice kO 8 kI,.int .i64 1,.slice (some ⟨oq,0,none⟩) 3 3] w N X:=
 HO I s1 SA (asg hk.s hk.k ⟨by omega,by have:=hk.m;omega⟩) 11 3 rfl rfl (by omega) (by decide) K
theorem art{H:gz}(hk:H.Ok){W w:World}{N:Value->ao}{X:List PanicEntry->ao}(I:η W w){r5:J}{rC pK:Nat}(s2:c5 W w r5 11 rC (yp H))(SB:eO w pK [(H.n:Int)])
  (K:∀p c w',η W w'->(∀b l,eO w b l->eO w' b l)->c5 W w' p 13 c (BB H)->N (.slice p 13 c) w'):κ prog 139 #[.slice r5 11 rC,.int .i64 2,.slice (some ⟨pK,0,none⟩) 1 1] w N X:=
 HO I s2 SB (adW ⟨by omega,by have:=hk.n;omega⟩) 13 1 (by rw[bt.sE]) rfl (by omega) (by decide) K
end Go.Proofs.YtcpdfhkhaekekaaGreat.G.cL
namespace Go.Proofs.YtcpdfhkhaekekaaGreat.G.cL
open Go.bO Go.RowKit
theorem XG{H:gz}{W:World}{D θ aF ae:Nat}{ab cw:J}{c1 cv:Nat}{R:aq}(bA:Ctx H W θ aF ae cw cv)(fin:Fin H W D ae ab c1 R){xR:World}(I:η W xR){r5:J}{rC:Nat}{pK:Nat}(TH:c5 W xR r5 11 rC (yp H))(amC:eO xR pK [(H.n:Int)]):bq.pj D r5 11 rC pK xR ae ab H.n c1 R:=by unfold bq.pj;refine art bA.ok I TH amC λvQ vo o3 x g h=>?_;dsimp only[dY];exact fin _ _ _ x h
theorem aiU{H:gz}{W:World}{D θ aF ae:Nat}{ab cw:J}{c1 cv:Nat}{R:aq}(bA:Ctx H W θ aF ae cw cv)(fin:Fin H W D ae ab c1 R){xQ:World}(I:η W xQ){r5:J}{rC:Nat}(TH:c5 W xQ r5 11 rC (yp H)):bq.KE D xQ H.n r5 11 rC ae ab c1 R:=by unfold bq.KE;refine gZ I [(H.n:Int)] λpK xR x h=>?_;exact XG bA fin (I.trans x) (TH.ex x) h
theorem QW{H:gz}{W:World}{D θ aF ae:Nat}{ab cw:J}{c1 cv:Nat}{R:aq}(bA:Ctx H W θ aF ae cw cv)(fin:Fin H W D ae ab c1 R){zi:World}(I:η W zi){kO:J}{kI:Nat}{oq:Nat}{x8:Nat}(zY:c5 W zi kO 8 kI (lK H))(NB:eO zi oq [H.s,H.k,(H.m:Int)])(amE:eO zi x8 [(H.n:Int)]):bq.p5 D kO 8 kI oq zi x8 ae ab H.n c1 R:=by unfold bq.p5;refine adt bA.ok I zY NB λac6 GD Qg x g h=>?_;dsimp only[dY];exact XG bA fin x h (g _ _ amE)
theorem XH{H:gz}{W:World}{D θ aF ae:Nat}{ab cw:J}{c1 cv:Nat}{R:aq}(bA:Ctx H W θ aF ae cw cv)(fin:Fin H W D ae ab c1 R){nz:World}(I:η W nz){kO:J}{kI:Nat}{oq:Nat}(zY:c5 W nz kO 8 kI (lK H))(NB:eO nz oq [H.s,H.k,(H.m:Int)]):bq.kn D kO 8 kI oq nz H.n ae ab c1 R:=by
 unfold bq.kn;refine⟨?_,?_⟩
 ·refine adt bA.ok I zY NB λr5 rC xQ x g h=>?_;dsimp only[dY];exact aiU bA fin x h
 ·refine gZ I [(H.n:Int)] λx8 zi x h=>?_;exact QW bA fin (I.trans x) (zY.ex x) (NB.ex x) h
theorem XI{H:gz}{W:World}{D θ aF ae:Nat}{ab cw:J}{c1 cv:Nat}{R:aq}(bA:Ctx H W θ aF ae cw cv)(fin:Fin H W D ae ab c1 R){tJ:World}(I:η W tJ){kO:J}{kI:Nat}{CY:Nat}(zY:c5 W tJ kO 8 kI (lK H))(amF:eO tJ CY [(H.n:Int)]):bq.Am D tJ H.s H.k H.m kO 8 kI CY ae ab H.n c1 R:=by unfold bq.Am;refine gZ I [H.s,H.k,(H.m:Int)] λYl Qi x h=>?_;exact QW bA fin (I.trans x) (zY.ex x) h (amF.ex x)
theorem aiV{H:gz}{W:World}{D θ aF ae:Nat}{ab cw:J}{c1 cv:Nat}{R:aq}(bA:Ctx H W θ aF ae cw cv)(fin:Fin H W D ae ab c1 R){rb:World}(I:η W rb){kO:J}{kI:Nat}(zY:c5 W rb kO 8 kI (lK H)):bq.vL D rb H.s H.k H.m kO 8 kI H.n ae ab c1 cw cv θ R:=by
 unfold bq.vL;refine⟨?_,?_⟩
 ·refine gZ I [H.s,H.k,(H.m:Int)] λoq nz x h=>?_;exact XH bA fin (I.trans x) (zY.ex x) h
 ·refine gZ I [(H.n:Int)] λCY tJ x h=>?_;refine⟨(bA.cz.ex (I.trans x)).at (by rfl),(bA.bP.ex (I.trans x)).at (by rfl),(bA.bP.ex (I.trans x)).at (by rfl),?_⟩;exact XI bA fin (I.trans x) (zY.ex x) h
theorem Ms{H:gz}{W:World}{D θ aF ae:Nat}{ab cw:J}{c1 cv:Nat}{R:aq}(bA:Ctx H W θ aF ae cw cv)(fin:Fin H W D ae ab c1 R){xK:World}(I:η W xK){cT:Nat}{jN:Nat}{tV:Nat}{C0:Nat}(gB:c5 W xK (some ⟨cT,0,none⟩) 4 4 la)(wS:eO xK jN [H.q])(ND:eO xK tV [H.s,H.k,(H.m:Int)])(amI:eO xK C0 [(H.n:Int)]):bq.B1 D cT jN xK tV C0 ae ab H.n c1 R:=by unfold bq.B1;refine OO bA.ok I gB wS λac8 YH agW x g h=>?_;dsimp only[dY];exact QW bA fin x h (g _ _ ND) (g _ _ amI)
theorem QX{H:gz}{W:World}{D θ aF ae:Nat}{ab cw:J}{c1 cv:Nat}{R:aq}(bA:Ctx H W θ aF ae cw cv)(fin:Fin H W D ae ab c1 R){xS:World}(I:η W xS){cT:Nat}{jN:Nat}{tV:Nat}(gB:c5 W xS (some ⟨cT,0,none⟩) 4 4 la)(wS:eO xS jN [H.q])(ND:eO xS tV [H.s,H.k,(H.m:Int)]):bq.EA D cT jN xS tV H.n ae ab c1 R:=by
 unfold bq.EA;refine⟨?_,?_⟩
 ·refine OO bA.ok I gB wS λac7 YG ahg x g h=>?_;dsimp only[dY];exact XH bA fin x h (g _ _ ND)
 ·refine gZ I [(H.n:Int)] λC0 xK x h=>?_;exact Ms bA fin (I.trans x) (gB.ex x) (wS.ex x) (ND.ex x) h
theorem QY{H:gz}{W:World}{D θ aF ae:Nat}{ab cw:J}{c1 cv:Nat}{R:aq}(bA:Ctx H W θ aF ae cw cv)(fin:Fin H W D ae ab c1 R){tD:World}(I:η W tD){cT:Nat}{jN:Nat}{Bg:Nat}(gB:c5 W tD (some ⟨cT,0,none⟩) 4 4 la)(wS:eO tD jN [H.q])(aas:eO tD Bg [(H.n:Int)]):bq.EB D cT jN tD ae cw H.m cv θ H.k H.s Bg ab H.n c1 R:=by
 unfold bq.EB;refine⟨?_,?_⟩
 ·refine OO bA.ok I gB wS λac9 YI LX x g h=>?_;dsimp only[dY];refine⟨(bA.cz.ex x).at (by rfl),(bA.bP.ex x).at (by rfl),(bA.bP.ex x).at (by rfl),?_⟩;exact XI bA fin x h (g _ _ aas)
 ·refine gZ I [H.s,H.k,(H.m:Int)] λYx ag1 x h=>?_;exact Ms bA fin (I.trans x) (gB.ex x) (wS.ex x) h (aas.ex x)
theorem XJ{H:gz}{W:World}{D θ aF ae:Nat}{ab cw:J}{c1 cv:Nat}{R:aq}(bA:Ctx H W θ aF ae cw cv)(fin:Fin H W D ae ab c1 R){mB:World}(I:η W mB){cT:Nat}{jN:Nat}(gB:c5 W mB (some ⟨cT,0,none⟩) 4 4 la)(wS:eO mB jN [H.q]):bq.r2 D cT jN mB ae cw H.m cv θ H.k H.s H.n ab c1 R:=by
 unfold bq.r2;refine⟨?_,?_,?_⟩
 ·refine OO bA.ok I gB wS λkO kI rb x g h=>?_;dsimp only[dY];refine⟨(bA.cz.ex x).at (by rfl),(bA.bP.ex x).at (by rfl),(bA.bP.ex x).at (by rfl),?_⟩;exact aiV bA fin x h
 ·refine gZ I [H.s,H.k,(H.m:Int)] λtV xS x h=>?_;exact QX bA fin (I.trans x) (gB.ex x) (wS.ex x) h
 ·refine gZ I [(H.n:Int)] λBg tD x h=>?_;refine⟨(bA.cz.ex (I.trans x)).at (by rfl),(bA.bP.ex (I.trans x)).at (by rfl),(bA.bP.ex (I.trans x)).at (by rfl),?_⟩;exact QY bA fin (I.trans x) (gB.ex x) (wS.ex x) h
theorem QZ{H:gz}{W:World}{D θ aF ae:Nat}{ab cw:J}{c1 cv:Nat}{R:aq}(bA:Ctx H W θ aF ae cw cv)(fin:Fin H W D ae ab c1 R){xN:World}(I:η W xN){cT:Nat}{tW:Nat}{C1:Nat}(gB:c5 W xN (some ⟨cT,0,none⟩) 4 4 la)(NF:eO xN tW [H.s,H.k,(H.m:Int)])(amK:eO xN C1 [(H.n:Int)]):bq.EC D xN H.q cT tW C1 ae ab H.n c1 R:=by unfold bq.EC;refine gZ I [H.q] λYz ag3 x h=>?_;exact Ms bA fin (I.trans x) (gB.ex x) h (NF.ex x) (amK.ex x)
theorem XK{H:gz}{W:World}{D θ aF ae:Nat}{ab cw:J}{c1 cv:Nat}{R:aq}(bA:Ctx H W θ aF ae cw cv)(fin:Fin H W D ae ab c1 R){xM:World}(I:η W xM){cT:Nat}{tW:Nat}(gB:c5 W xM (some ⟨cT,0,none⟩) 4 4 la)(NF:eO xM tW [H.s,H.k,(H.m:Int)]):bq.Ox D xM H.q cT tW H.n ae ab c1 aF R:=by
 unfold bq.Ox;refine⟨?_,?_⟩
 ·refine gZ I [H.q] λYy ag2 x h=>?_;exact QX bA fin (I.trans x) (gB.ex x) h (NF.ex x)
 ·refine gZ I [(H.n:Int)] λC1 xN x h=>?_;refine⟨(bA.cd.ex (I.trans x)).at (by rfl),?_⟩;exact QZ bA fin (I.trans x) (gB.ex x) (NF.ex x) h
theorem XL{H:gz}{W:World}{D θ aF ae:Nat}{ab cw:J}{c1 cv:Nat}{R:aq}(bA:Ctx H W θ aF ae cw cv)(fin:Fin H W D ae ab c1 R){tF:World}(I:η W tF){cT:Nat}{Bh:Nat}(gB:c5 W tF (some ⟨cT,0,none⟩) 4 4 la)(aat:eO tF Bh [(H.n:Int)]):bq.B2 D tF H.q ae cw H.m cv θ H.k H.s cT Bh ab H.n c1 aF R:=by
 unfold bq.B2;refine⟨?_,?_⟩
 ·refine gZ I [H.q] λYA LZ x h=>?_;refine⟨(bA.cz.ex (I.trans x)).at (by rfl),(bA.bP.ex (I.trans x)).at (by rfl),(bA.bP.ex (I.trans x)).at (by rfl),?_⟩;exact QY bA fin (I.trans x) (gB.ex x) h (aat.ex x)
 ·refine gZ I [H.s,H.k,(H.m:Int)] λYB WC x h=>?_;refine⟨(bA.cd.ex (I.trans x)).at (by rfl),?_⟩;exact QZ bA fin (I.trans x) (gB.ex x) h (aat.ex x)
theorem aiW{H:gz}{W:World}{D θ aF ae:Nat}{ab cw:J}{c1 cv:Nat}{R:aq}(bA:Ctx H W θ aF ae cw cv)(fin:Fin H W D ae ab c1 R){oc:World}(I:η W oc){cT:Nat}(gB:c5 W oc (some ⟨cT,0,none⟩) 4 4 la):bq.HJ D oc H.q ae cw H.m cv θ H.k H.s cT H.n ab c1 aF R:=by
 unfold bq.HJ;refine⟨?_,?_,?_⟩
 ·refine gZ I [H.q] λjN mB x h=>?_;refine⟨(bA.cz.ex (I.trans x)).at (by rfl),(bA.bP.ex (I.trans x)).at (by rfl),(bA.bP.ex (I.trans x)).at (by rfl),?_⟩;exact XJ bA fin (I.trans x) (gB.ex x) h
 ·refine gZ I [H.s,H.k,(H.m:Int)] λtW xM x h=>?_;refine⟨(bA.cd.ex (I.trans x)).at (by rfl),?_⟩;exact XK bA fin (I.trans x) (gB.ex x) h
 ·refine gZ I [(H.n:Int)] λBh tF x h=>?_;refine⟨(bA.cz.ex (I.trans x)).at (by rfl),(bA.bP.ex (I.trans x)).at (by rfl),(bA.bP.ex (I.trans x)).at (by rfl),(bA.cd.ex (I.trans x)).at (by rfl),?_⟩;exact XL bA fin (I.trans x) (gB.ex x) h
theorem Mt{H:gz}{W:World}{D θ aF ae:Nat}{ab cw:J}{c1 cv:Nat}{R:aq}(bA:Ctx H W θ aF ae cw cv)(fin:Fin H W D ae ab c1 R){xP:World}(I:η W xP){cT:Nat}{kW:Nat}{tX:Nat}{CW:Nat}(gB:Raw W xP cT)(wU:eO xP kW [H.q])(NG:eO xP tX [H.s,H.k,(H.m:Int)])(amA:eO xP CW [(H.n:Int)]):bq.r3 D xP cT kW tX CW ae ab H.n c1 R:=by unfold bq.r3;refine mark I gB λag5 x g h=>?_;exact Ms bA fin x h (g _ _ wU) (g _ _ NG) (g _ _ amA)
theorem Q0{H:gz}{W:World}{D θ aF ae:Nat}{ab cw:J}{c1 cv:Nat}{R:aq}(bA:Ctx H W θ aF ae cw cv)(fin:Fin H W D ae ab c1 R){xO:World}(I:η W xO){cT:Nat}{kW:Nat}{tX:Nat}(gB:Raw W xO cT)(wU:eO xO kW [H.q])(NG:eO xO tX [H.s,H.k,(H.m:Int)]):bq.ED D xO cT kW tX H.n ae ab c1 R:=by
 unfold bq.ED;refine⟨?_,?_⟩
 ·refine mark I gB λag4 x g h=>?_;exact QX bA fin x h (g _ _ wU) (g _ _ NG)
 ·refine gZ I [(H.n:Int)] λCW xP x h=>?_;exact Mt bA fin (I.trans x) (gB.ex x) (wU.ex x) (NG.ex x) h
theorem Q1{H:gz}{W:World}{D θ aF ae:Nat}{ab cw:J}{c1 cv:Nat}{R:aq}(bA:Ctx H W θ aF ae cw cv)(fin:Fin H W D ae ab c1 R){tI:World}(I:η W tI){cT:Nat}{kW:Nat}{Bc:Nat}(gB:Raw W tI cT)(wU:eO tI kW [H.q])(aak:eO tI Bc [(H.n:Int)]):bq.EE D tI cT ae cw H.m cv θ H.k H.s kW Bc ab H.n c1 R:=by
 unfold bq.EE;refine⟨?_,?_⟩
 ·refine mark I gB λL3 x g h=>?_;refine⟨(bA.cz.ex x).at (by rfl),(bA.bP.ex x).at (by rfl),(bA.bP.ex x).at (by rfl),?_⟩;exact QY bA fin x h (g _ _ wU) (g _ _ aak)
 ·refine gZ I [H.s,H.k,(H.m:Int)] λYf ag6 x h=>?_;exact Mt bA fin (I.trans x) (gB.ex x) (wU.ex x) h (aak.ex x)
theorem XM{H:gz}{W:World}{D θ aF ae:Nat}{ab cw:J}{c1 cv:Nat}{R:aq}(bA:Ctx H W θ aF ae cw cv)(fin:Fin H W D ae ab c1 R){tG:World}(I:η W tG){cT:Nat}{kW:Nat}(gB:Raw W tG cT)(wU:eO tG kW [H.q]):bq.Oy D tG cT ae cw H.m cv θ H.k H.s kW H.n ab c1 R:=by
 unfold bq.Oy;refine⟨?_,?_,?_⟩
 ·refine mark I gB λL0 x g h=>?_;refine⟨(bA.cz.ex x).at (by rfl),(bA.bP.ex x).at (by rfl),(bA.bP.ex x).at (by rfl),?_⟩;exact XJ bA fin x h (g _ _ wU)
 ·refine gZ I [H.s,H.k,(H.m:Int)] λtX xO x h=>?_;exact Q0 bA fin (I.trans x) (gB.ex x) (wU.ex x) h
 ·refine gZ I [(H.n:Int)] λBc tI x h=>?_;refine⟨(bA.cz.ex (I.trans x)).at (by rfl),(bA.bP.ex (I.trans x)).at (by rfl),(bA.bP.ex (I.trans x)).at (by rfl),?_⟩;exact Q1 bA fin (I.trans x) (gB.ex x) (wU.ex x) h
theorem Q2{H:gz}{W:World}{D θ aF ae:Nat}{ab cw:J}{c1 cv:Nat}{R:aq}(bA:Ctx H W θ aF ae cw cv)(fin:Fin H W D ae ab c1 R){wh:World}(I:η W wh){cT:Nat}{ry:Nat}{Bd:Nat}(gB:Raw W wh cT)(G2:eO wh ry [H.s,H.k,(H.m:Int)])(aal:eO wh Bd [(H.n:Int)]):bq.An D wh cT aF H.q ry Bd ae ab H.n c1 R:=by
 unfold bq.An;refine⟨?_,?_⟩
 ·refine mark I gB λWG x g h=>?_;refine⟨(bA.cd.ex x).at (by rfl),?_⟩;exact QZ bA fin x h (g _ _ G2) (g _ _ aal)
 ·refine gZ I [H.q] λYh ag8 x h=>?_;exact Mt bA fin (I.trans x) (gB.ex x) h (G2.ex x) (aal.ex x)
theorem XN{H:gz}{W:World}{D θ aF ae:Nat}{ab cw:J}{c1 cv:Nat}{R:aq}(bA:Ctx H W θ aF ae cw cv)(fin:Fin H W D ae ab c1 R){wg:World}(I:η W wg){cT:Nat}{ry:Nat}(gB:Raw W wg cT)(G2:eO wg ry [H.s,H.k,(H.m:Int)]):bq.EF D wg cT aF H.q ry H.n ae ab c1 R:=by
 unfold bq.EF;refine⟨?_,?_,?_⟩
 ·refine mark I gB λWE x g h=>?_;refine⟨(bA.cd.ex x).at (by rfl),?_⟩;exact XK bA fin x h (g _ _ G2)
 ·refine gZ I [H.q] λYg ag7 x h=>?_;exact Q0 bA fin (I.trans x) (gB.ex x) h (G2.ex x)
 ·refine gZ I [(H.n:Int)] λBd wh x h=>?_;refine⟨(bA.cd.ex (I.trans x)).at (by rfl),?_⟩;exact Q2 bA fin (I.trans x) (gB.ex x) (G2.ex x) h
theorem XO{H:gz}{W:World}{D θ aF ae:Nat}{ab cw:J}{c1 cv:Nat}{R:aq}(bA:Ctx H W θ aF ae cw cv)(fin:Fin H W D ae ab c1 R){su:World}(I:η W su){cT:Nat}{zz:Nat}(gB:Raw W su cT)(SQ:eO su zz [(H.n:Int)]):bq.HK D su cT ae cw H.m cv θ H.k H.s aF H.q zz ab H.n c1 R:=by
 unfold bq.HK;refine⟨?_,?_,?_⟩
 ·refine mark I gB λIJ x g h=>?_;refine⟨(bA.cz.ex x).at (by rfl),(bA.bP.ex x).at (by rfl),(bA.bP.ex x).at (by rfl),(bA.cd.ex x).at (by rfl),?_⟩;exact XL bA fin x h (g _ _ SQ)
 ·refine gZ I [H.q] λYi L6 x h=>?_;refine⟨(bA.cz.ex (I.trans x)).at (by rfl),(bA.bP.ex (I.trans x)).at (by rfl),(bA.bP.ex (I.trans x)).at (by rfl),?_⟩;exact Q1 bA fin (I.trans x) (gB.ex x) h (SQ.ex x)
 ·refine gZ I [H.s,H.k,(H.m:Int)] λYj WI x h=>?_;refine⟨(bA.cd.ex (I.trans x)).at (by rfl),?_⟩;exact Q2 bA fin (I.trans x) (gB.ex x) h (SQ.ex x)
theorem aiX{H:gz}{W:World}{D θ aF ae:Nat}{ab cw:J}{c1 cv:Nat}{R:aq}(bA:Ctx H W θ aF ae cw cv)(fin:Fin H W D ae ab c1 R){qt:World}(I:η W qt){cT:Nat}(gB:Raw W qt cT):bq.KG D qt cT ae cw H.m cv θ H.k H.s aF H.q H.n ab c1 R:=by
 unfold bq.KG;refine⟨?_,?_,?_,?_⟩
 ·refine mark I gB λoc x g h=>?_;refine⟨(bA.cz.ex x).at (by rfl),(bA.bP.ex x).at (by rfl),(bA.bP.ex x).at (by rfl),(bA.cd.ex x).at (by rfl),?_⟩;exact aiW bA fin x h
 ·refine gZ I [H.q] λkW tG x h=>?_;refine⟨(bA.cz.ex (I.trans x)).at (by rfl),(bA.bP.ex (I.trans x)).at (by rfl),(bA.bP.ex (I.trans x)).at (by rfl),?_⟩;exact XM bA fin (I.trans x) (gB.ex x) h
 ·refine gZ I [H.s,H.k,(H.m:Int)] λry wg x h=>?_;refine⟨(bA.cd.ex (I.trans x)).at (by rfl),?_⟩;exact XN bA fin (I.trans x) (gB.ex x) h
 ·refine gZ I [(H.n:Int)] λzz su x h=>?_;refine⟨(bA.cz.ex (I.trans x)).at (by rfl),(bA.bP.ex (I.trans x)).at (by rfl),(bA.bP.ex (I.trans x)).at (by rfl),(bA.cd.ex (I.trans x)).at (by rfl),?_⟩;exact XO bA fin (I.trans x) (gB.ex x) h
theorem Q3{H:gz}{W:World}{D θ aF ae:Nat}{ab cw:J}{c1 cv:Nat}{R:aq}(bA:Ctx H W θ aF ae cw cv)(fin:Fin H W D ae ab c1 R){zf:World}(I:η W zf){kV:Nat}{tU:Nat}{CZ:Nat}(wT:eO zf kV [H.q])(NC:eO zf tU [H.s,H.k,(H.m:Int)])(amG:eO zf CZ [(H.n:Int)]):bq.EH D zf kV tU CZ ae ab H.n c1 R:=by unfold bq.EH;refine BX I λYn agU x h=>?_;exact Mt bA fin (I.trans x) h (wT.ex x) (NC.ex x) (amG.ex x)
theorem XP{H:gz}{W:World}{D θ aF ae:Nat}{ab cw:J}{c1 cv:Nat}{R:aq}(bA:Ctx H W θ aF ae cw cv)(fin:Fin H W D ae ab c1 R){ze:World}(I:η W ze){kV:Nat}{tU:Nat}(wT:eO ze kV [H.q])(NC:eO ze tU [H.s,H.k,(H.m:Int)]):bq.EI D ze kV tU H.n ae ab c1 R:=by
 unfold bq.EI;refine⟨?_,?_⟩
 ·refine BX I λYm agT x h=>?_;exact Q0 bA fin (I.trans x) h (wT.ex x) (NC.ex x)
 ·refine gZ I [(H.n:Int)] λCZ zf x h=>?_;exact Q3 bA fin (I.trans x) (wT.ex x) (NC.ex x) h
theorem XQ{H:gz}{W:World}{D θ aF ae:Nat}{ab cw:J}{c1 cv:Nat}{R:aq}(bA:Ctx H W θ aF ae cw cv)(fin:Fin H W D ae ab c1 R){u4:World}(I:η W u4){kV:Nat}{Be:Nat}(wT:eO u4 kV [H.q])(aap:eO u4 Be [(H.n:Int)]):bq.Oz D u4 ae cw H.m cv θ H.k H.s kV Be ab H.n c1 R:=by
 unfold bq.Oz;refine⟨?_,?_⟩
 ·refine BX I λYo LW x h=>?_;refine⟨(bA.cz.ex (I.trans x)).at (by rfl),(bA.bP.ex (I.trans x)).at (by rfl),(bA.bP.ex (I.trans x)).at (by rfl),?_⟩;exact Q1 bA fin (I.trans x) h (wT.ex x) (aap.ex x)
 ·refine gZ I [H.s,H.k,(H.m:Int)] λYp agV x h=>?_;exact Q3 bA fin (I.trans x) (wT.ex x) h (aap.ex x)
theorem aiY{H:gz}{W:World}{D θ aF ae:Nat}{ab cw:J}{c1 cv:Nat}{R:aq}(bA:Ctx H W θ aF ae cw cv)(fin:Fin H W D ae ab c1 R){u9:World}(I:η W u9){kV:Nat}(wT:eO u9 kV [H.q]):bq.UQ D u9 ae cw H.m cv θ H.k H.s kV H.n ab c1 R:=by
 unfold bq.UQ;refine⟨?_,?_,?_⟩
 ·refine BX I λYk L7 x h=>?_;refine⟨(bA.cz.ex (I.trans x)).at (by rfl),(bA.bP.ex (I.trans x)).at (by rfl),(bA.bP.ex (I.trans x)).at (by rfl),?_⟩;exact XM bA fin (I.trans x) h (wT.ex x)
 ·refine gZ I [H.s,H.k,(H.m:Int)] λtU ze x h=>?_;exact XP bA fin (I.trans x) (wT.ex x) h
 ·refine gZ I [(H.n:Int)] λBe u4 x h=>?_;refine⟨(bA.cz.ex (I.trans x)).at (by rfl),(bA.bP.ex (I.trans x)).at (by rfl),(bA.bP.ex (I.trans x)).at (by rfl),?_⟩;exact XQ bA fin (I.trans x) (wT.ex x) h
theorem XR{H:gz}{W:World}{D θ aF ae:Nat}{ab cw:J}{c1 cv:Nat}{R:aq}(bA:Ctx H W θ aF ae cw cv)(fin:Fin H W D ae ab c1 R){xL:World}(I:η W xL){rz:Nat}{Bf:Nat}(G3:eO xL rz [H.s,H.k,(H.m:Int)])(aar:eO xL Bf [(H.n:Int)]):bq.OA D xL aF H.q rz Bf ae ab H.n c1 R:=by
 unfold bq.OA;refine⟨?_,?_⟩
 ·refine BX I λYs WA x h=>?_;refine⟨(bA.cd.ex (I.trans x)).at (by rfl),?_⟩;exact Q2 bA fin (I.trans x) h (G3.ex x) (aar.ex x)
 ·refine gZ I [H.q] λYt ag0 x h=>?_;exact Q3 bA fin (I.trans x) h (G3.ex x) (aar.ex x)
theorem aiZ{H:gz}{W:World}{D θ aF ae:Nat}{ab cw:J}{c1 cv:Nat}{R:aq}(bA:Ctx H W θ aF ae cw cv)(fin:Fin H W D ae ab c1 R){xJ:World}(I:η W xJ){rz:Nat}(G3:eO xJ rz [H.s,H.k,(H.m:Int)]):bq.UR D xJ aF H.q rz H.n ae ab c1 R:=by
 unfold bq.UR;refine⟨?_,?_,?_⟩
 ·refine BX I λYq Wz x h=>?_;refine⟨(bA.cd.ex (I.trans x)).at (by rfl),?_⟩;exact XN bA fin (I.trans x) h (G3.ex x)
 ·refine gZ I [H.q] λYr agY x h=>?_;exact XP bA fin (I.trans x) h (G3.ex x)
 ·refine gZ I [(H.n:Int)] λBf xL x h=>?_;refine⟨(bA.cd.ex (I.trans x)).at (by rfl),?_⟩;exact XR bA fin (I.trans x) (G3.ex x) h
theorem ai0{H:gz}{W:World}{D θ aF ae:Nat}{ab cw:J}{c1 cv:Nat}{R:aq}(bA:Ctx H W θ aF ae cw cv)(fin:Fin H W D ae ab c1 R){tE:World}(I:η W tE){zA:Nat}(SS:eO tE zA [(H.n:Int)]):bq.US D tE ae cw H.m cv θ H.k H.s aF H.q zA ab H.n c1 R:=by
 unfold bq.US;refine⟨?_,?_,?_⟩
 ·refine BX I λYu IG x h=>?_;refine⟨(bA.cz.ex (I.trans x)).at (by rfl),(bA.bP.ex (I.trans x)).at (by rfl),(bA.bP.ex (I.trans x)).at (by rfl),(bA.cd.ex (I.trans x)).at (by rfl),?_⟩;exact XO bA fin (I.trans x) h (SS.ex x)
 ·refine gZ I [H.q] λYv LY x h=>?_;refine⟨(bA.cz.ex (I.trans x)).at (by rfl),(bA.bP.ex (I.trans x)).at (by rfl),(bA.bP.ex (I.trans x)).at (by rfl),?_⟩;exact XQ bA fin (I.trans x) h (SS.ex x)
 ·refine gZ I [H.s,H.k,(H.m:Int)] λYw WB x h=>?_;refine⟨(bA.cd.ex (I.trans x)).at (by rfl),?_⟩;exact XR bA fin (I.trans x) h (SS.ex x)
theorem ai1{H:gz}{W:World}{D θ aF ae:Nat}{ab cw:J}{c1 cv:Nat}{R:aq}(bA:Ctx H W θ aF ae cw cv)(fin:Fin H W D ae ab c1 R){cn:World}(I:η W cn):bq.UT D cn ae cw H.m cv θ H.k H.s aF H.q H.n ab c1 R:=by
 unfold bq.UT;refine⟨?_,?_,?_,?_⟩
 ·refine BX (I.trans (η.drew _)) λcT qt x h=>?_;refine⟨(bA.cz.ex ((I.trans (η.drew _)).trans x)).at (by rfl),(bA.bP.ex ((I.trans (η.drew _)).trans x)).at (by rfl),(bA.bP.ex ((I.trans (η.drew _)).trans x)).at (by rfl),(bA.cd.ex ((I.trans (η.drew _)).trans x)).at (by rfl),?_⟩;exact aiX bA fin ((I.trans (η.drew _)).trans x) h
 ·refine gZ (I.trans (η.drew _)) [H.q] λkV u9 x h=>?_;refine⟨(bA.cz.ex ((I.trans (η.drew _)).trans x)).at (by rfl),(bA.bP.ex ((I.trans (η.drew _)).trans x)).at (by rfl),(bA.bP.ex ((I.trans (η.drew _)).trans x)).at (by rfl),?_⟩;exact aiY bA fin ((I.trans (η.drew _)).trans x) h
 ·refine gZ (I.trans (η.drew _)) [H.s,H.k,(H.m:Int)] λrz xJ x h=>?_;refine⟨(bA.cd.ex ((I.trans (η.drew _)).trans x)).at (by rfl),?_⟩;exact aiZ bA fin ((I.trans (η.drew _)).trans x) h
 ·refine gZ (I.trans (η.drew _)) [(H.n:Int)] λzA tE x h=>?_;refine⟨(bA.cz.ex ((I.trans (η.drew _)).trans x)).at (by rfl),(bA.bP.ex ((I.trans (η.drew _)).trans x)).at (by rfl),(bA.bP.ex ((I.trans (η.drew _)).trans x)).at (by rfl),(bA.cd.ex ((I.trans (η.drew _)).trans x)).at (by rfl),?_⟩;exact ai0 bA fin ((I.trans (η.drew _)).trans x) h
open Tryz
def fs(n:Nat):Nat:=(n+51)/52
def dU(n j:Nat):Nat:=min 52 (n-52*j)
def chunk(t:an)(j:Nat):an:=(t.drop (52*j)).take (dU t.length j)
theorem MN(t:an)(j:Nat):(chunk t j).length=dU t.length j:=by unfold chunk dU;rw[gQ,ky];omega
theorem Rr{n j:Nat}(h:j<fs n):0<dU n j/\52*j+dU n j<=n/\dU n j<=52:=by unfold fs at h;unfold dU;omega
def uD(q:Int)(i:Nat)(part:an):an:=bt.be 4 q++[(i:Int),(part.length:Int)]++part
def Ai(q:Int)(i:Nat)(part:an):an:=kz (uD q i part)
def rX(q:Int)(t:an)(xs:List Nat):List an:=xs.mapIdx λi x=>Ai q i (chunk t x)
theorem ab3(q:Int)(t:an)(xs:List Nat)(x:Nat):rX q t (xs++[x])=rX q t xs++[Ai q xs.length (chunk t x)]:=by unfold rX;rw[List.mapIdx_concat]
theorem apG(q:Int)(t:an)(xs:List Nat):(rX q t xs).length=xs.length:=by unfold rX;rw[List.length_mapIdx]
def rJ(H:gz)(t:an):an:=BB H++bt.be 4 (u (more 0#32 t))
def nh(H:gz)(t:an):an:=kz (rJ H t)
def yq(s k q:Int)(t:an):gz:=⟨q,s,k,fs t.length,t.length⟩
def ix(s k q:Int)(t:an):List an:=nh (yq s k q t) t::rX q t (List.range (fs t.length))
theorem G7(H:gz)(t:an):(rJ H t).length=17:=by unfold rJ BB yp lK;simp only[fe,bt.sE];rfl
theorem Og(q:Int)(i:Nat)(part:an):(uD q i part).length=6+part.length:=by unfold uD;simp only[fe,bt.sE];rfl
structure jy(w:World)(B:Nat)(ps:aU)(pgs:List an):Prop where
 len:ps.length=pgs.length
 row:∀(i:Nat)(bl:an),pgs[i]?=some bl->∃(p:J)(c:Nat),ps[i]?=some (.slice p 64 c)/\μ w B dk 1 p 64 c (bj bl)
theorem jy.nil(w:World)(B:Nat):jy w B [] []:=⟨rfl,λi bl h=>by simp at h⟩
theorem jy.ex{w w':World}{B:Nat}{ps:aU}{pgs:List an}(h:jy w B ps pgs)(x:η w w'):jy w' B ps pgs:=
 ⟨h.len,λi bl hp=>by obtain⟨p,c,h1,ι⟩:=h.row i bl hp;exact⟨p,c,h1,ι.ex x⟩⟩
theorem jy.cB{w w':World}{B:Nat}{ps:aU}{pgs:List an}(h:jy w B ps pgs){S:bf}(k:Kp w w' S)(f:TypeId)(ω:∀i,S i->Typed w f i)(ca:dk≠f):jy w' B ps pgs:=
 ⟨h.len,λi bl hp=>by obtain⟨p,c,h1,ι⟩:=h.row i bl hp;exact⟨p,c,h1,ι.cB k f ω ca⟩⟩
theorem jy.grown{W b6:World}{B C:Nat}{ps:aU}{pgs:List an}(h:jy W B ps pgs)(k:Kp W b6 (vf W C)):jy b6 B ps pgs:=
 ⟨h.len,λi bl hp=>by obtain⟨p,c,h1,ι⟩:=h.row i bl hp;exact⟨p,c,h1,ι.grown k⟩⟩
theorem jy.dA{w w':World}{B:Nat}{ps:aU}{pgs:List an}(h:jy w B ps pgs)(k:∀{p:J}{c:Nat}{bl:an},μ w B dk 1 p 64 c (bj bl)->μ w' B dk 1 p 64 c (bj bl)):jy w' B ps pgs:=
 ⟨h.len,λi bl hp=>by obtain⟨p,c,h1,ι⟩:=h.row i bl hp;exact⟨p,c,h1,k ι⟩⟩
theorem jy.snoc{w:World}{B:Nat}{ps:aU}{pgs:List an}(h:jy w B ps pgs){p:J}{c:Nat}{bl:an}(ε:μ w B dk 1 p 64 c (bj bl)):jy w B (ps++[.slice p 64 c]) (pgs++[bl]):=by
 refine⟨by simp[h.len],λi ET hp=>?_⟩;by_cases o:i<pgs.length
 ·rw[List.getElem?_append_left o]at hp;obtain⟨bT,aT,h1,ι⟩:=h.row i ET hp;exact⟨bT,aT,by rw[List.getElem?_append_left (by rw[h.len];exact o)];exact h1,ι⟩
 ·rw[List.getElem?_append_right (by omega)]at hp;have aD:i-pgs.length=0:=by
   cases aC:i-pgs.length with
   |zero=>rfl
   |succ n=>rw[aC]at hp;simp at hp
  rw[aD]at hp;obtain rfl:bl=ET:=by simpa using hp
  refine⟨p,c,?_,ε⟩;rw[List.getElem?_append_right (by rw[h.len];omega),h.len,aD];rfl
theorem jy.cons{w:World}{B:Nat}{ps:aU}{pgs:List an}(h:jy w B ps pgs){p:J}{c:Nat}{bl:an}(ε:μ w B dk 1 p 64 c (bj bl)):jy w B (.slice p 64 c::ps) (bl::pgs):=by
 refine⟨by simp[h.len],λi ET hp=>?_⟩;cases i with
 |zero=>
  obtain rfl:bl=ET:=by simpa using hp
  exact⟨p,c,rfl,ε⟩
 |succ i=>
  obtain⟨bT,aT,h1,ι⟩:=h.row i ET (by simpa using hp);exact⟨bT,aT,by simpa using h1,ι⟩
theorem jy.one{w:World}{B:Nat}{ps:aU}{pgs:List an}(h:jy w B ps pgs):∀z∈ps,z.oneCell'=true:=by
 intro z aL;obtain⟨i,o⟩:=List.getElem?_of_mem aL;have bM:i<pgs.length:=by rw[<-h.len];exact(List.getElem?_eq_some_iff.1 o).1
 obtain⟨p,c,h1,_⟩:=h.row i _ (List.getElem?_eq_getElem bM);rw[o]at h1;cases h1;rfl
theorem apS(m:Nat):min2 52 (m:Int)=((min 52 m:Nat):Int):=by unfold min2;split<;>omega
theorem apD{n j:Nat}(h:52*j<n):j<fs n:=by unfold fs;omega
theorem aj8{n j:Nat}(h:n<=52*j):fs n<=j:=by unfold fs;omega
def R2(p:J)(n:Nat)(j:Nat):Value:=.slice (du p (52*j+dU n j) (52*j) 1) (dU n j) (dU n j)
theorem ahG{w:World}{nG gD dP dQ:Nat}{p:J}{n c:Nat}(KC:μ w nG gI 1 (some ⟨dP,0,none⟩) 1 1 [.slice p n c])(ρ:μ w gD cj 1 (some ⟨dQ,0,none⟩) 1 1 [.int .i64 52])(ax:n<=100000)(jS:n<=c):
  SeqStopsK Fence.wide 0 prog 172 #[.pointer (some ⟨dP,0,none⟩),.pointer (some ⟨dQ,0,none⟩)] (λx:_root_.Fin (fs n)=>#[R2 p n x.val]) (vd dP dQ) (λxs=>xs.map (·.val)=List.range (fs n)) (λ_=>True) (fs n) w:=by
 intro l CE QK W ψ JF SJ ah aD;have x:=Kp.acP ψ;have Au:=KC.aH x (λa aQ=>by cases aQ;have:=(KC.ge rfl).2;dsimp only at this⊢;omega);have ab:=ρ.aH x (λa aQ=>by cases aQ;have:=(ρ.ge rfl).2;dsimp only at this⊢;omega);show tn.C l dP dQ W _;apply tn.ok;unfold tn.main tn.bd;refine⟨λt0 t1 t2 t4 w'=>l=t0/\dP=t1/\dQ=t2/\Gr dP dQ (.slice p n c) (.int .i64 52) w'/\∃xs:List (_root_.Fin (fs n)),t4=((52*xs.length:Nat):Int)/\xs.map (·.val)=List.range xs.length/\CE xs w',λt0 t1 t2 t4 w'=>(n+52-t4).toNat,⟨rfl,rfl,rfl,⟨Au.at (by rfl),ab.at (by rfl)⟩,[],rfl,rfl,aD⟩,?_⟩;rintro _ _ _ t4 w' ⟨rfl,rfl,rfl,⟨fz,c1⟩,xs,rfl,hV,φ⟩;have hlen:xs.length<=fs n:=by
  have h1:=rW (List.range xs.length) (List.range (fs n)) O5 λi o=>by rw[<-hV]at o;obtain⟨y,_,rfl⟩:=gO.1 o;exact ns.2 y.isLt
  simpa using h1
 unfold tn.δ;refine⟨p,n,c,fz,?_⟩;refine bz (λh=>?_) λh=>?_
 ·have bM:=b7 h;have zT:xs.length<fs n:=apD (by omega);have DW:=Rr zT;have G5:dU n xs.length=min 52 (n-52*xs.length):=rfl;refine⟨52,c1,p,n,c,fz,bL (bB (by omega)) (bL (bB (by omega)) ⟨p,n,c,fz,?_⟩)⟩;rw[cy,apS,<-G5];have zM:IntKind.i64.wrap (((52*xs.length:Nat):Int)+(dU n xs.length:Int))=((52*xs.length+dU n xs.length:Nat):Int):=by
   rw[bY (by omega) (by omega)];rfl
  rw[zM,cy];refine bL (bB (by omega)) (bL (bB (by omega)) (bL (bB (by omega)) (bL (bB (by omega)) (bL (bB (by omega)) (bL (bB (by omega)) ?_)))));have bE:52*xs.length+dU n xs.length-52*xs.length=dU n xs.length:=by omega
  rw[bE];have eP:CE xs w'.drew:=JF _ _ _ none φ (Z1 w') (λr e=>by cases e);obtain⟨fn,tmps,assign,body,h6,yz⟩:=ah xs ⟨xs.length,zT⟩ w'.drew eP zT;refine⟨fn,tmps,assign,body,h6,yz.mono λe γ he=>?_⟩;rcases he with⟨rfl,w2,hk⟩|⟨rfl,w2⟩
  ·refine⟨_,rfl,?_⟩
   try dsimp only[dE]
   have nO:=hk _ _ ⟨fz,c1⟩;refine⟨52,nO.2,?_⟩;rw[bY (by omega) (by omega)];refine⟨⟨rfl,rfl,rfl,nO,xs++[⟨xs.length,zT⟩],?_,?_,w2⟩,by((try dsimp only);omega)⟩
   ·rw[fe,AA];omega
   ·rw[q0,hV,fe,AA,uP];rfl
  ·refine⟨_,rfl,?_⟩
   try dsimp only[dE]
   exact⟨⟨_,rfl⟩,.inr ⟨_,trivial,w2⟩⟩
 ·have h:=dd h;have ι:=aj8 (n:=n) (j:=xs.length) (by omega)
  have:xs.length=fs n:=by omega
  refine⟨⟨_,rfl⟩,.inl ⟨xs,?_,φ⟩⟩;show xs.map (·.val)=List.range (fs n);rw[hV,this]
theorem ajX{w:World}{p:J}{t:an}(π:a7 w p (bj t)){j:Nat}(φ:j<fs t.length):a7 w (du p (52*j+dU t.length j) (52*j) 1) (bj (chunk t j)):=by
 have h:=Rr φ;have h1:=(π.take (52*j+dU t.length j)).slice (52*j+dU t.length j) (52*j) (dU t.length j) (by rw[gQ];omega);rw[E6,AF]at h1;have e:min (dU t.length j) (52*j+dU t.length j-52*j)=dU t.length j:=by omega
 rw[e]at h1;unfold chunk bj;rw[vY,xx];exact h1
structure xU(W:World)(aF ae:Nat)(q:Int)(aX:J)(bu:Nat)(part:an)(B:Nat)(eY:J)(gE hR:Nat)(ps:aU):Prop where
 cd:μ W 0 cj 1 (some ⟨aF,0,none⟩) 1 1 [.int .i64 q]
 cz:μ W 0 u1 1 (some ⟨ae,0,none⟩) 1 1 [.slice eY gE hR]
 cells:a7 W aX (bj part)
 OM:part.length=bu
 Vd:bu<=52
 KR:Bytes part
 HT:0<=q/\q<4294967296
 n256:gE<256
 list:μ W B gI 1 eY gE hR ps
 low:B<=W.heap.size
section
variable{α:Type}{fo:World->ao}{bD:List α->ao}{pre:List α}{x:α}{W:World}{aF ae:Nat}{q:Int}{aX:J}{bu:Nat}{part:an}{B:Nat}{eY:J}{gE hR:Nat}{ps:aU}
def cY(p:J)(i:Nat):Prop:=∃a,p=some a/\a.block=i
def A3(fo:World->ao)(bD:List α->ao)(pre:List α)(x:α)(W:World)(ae:Nat)(q:Int)(part:an)(B:Nat)(eY:J)(gE:Nat)(ps:aU):Prop:=
 ∀(iM:J)(l9:Nat)(bT:J)(aT:Nat)(fw:World),Kp W fw (cY eY)->μ fw W.heap.size dk 1 iM 64 l9 (bj (Ai q gE part))->μ fw B gI 1 bT (gE+1) aT (ps++[.slice iM 64 l9])->bq.ρ α fo bD pre x fw ae bT gE aT W
theorem ai6(c:xU W aF ae q aX bu part B eY gE hR ps)(iI:A3 fo bD pre x W ae q part B eY gE ps){w:World}(I:η W w){iM:J}{l9:Nat}(ε:μ w W.heap.size dk 1 iM 64 l9 (bj (Ai q gE part))):bq.bo α fo bD pre x w iM 64 l9 ae eY gE hR W:=by unfold bq.bo;rintro iv hZ rfl rfl;have er:=μ.new (w:=w) [.slice iM 64 l9] gI;have aV:=η.alloc w (.cells [Value.slice iM 64 l9].toArray gI);generalize w.alloc (.cells #[.slice iM 64 l9] gI)=hZ at er aV⊢;have z6:=I.trans aV;refine⟨(c.cz.ex z6).at (by rfl),?_⟩;unfold bq.ai;have aj:=c.list.ex z6;have axl:=c.n256;refine lp (B:=B) aj (fY c.low z6.size) [.slice iM 64 l9] er.cells rfl aee rfl (by omega) (by omega) ?_;intro bT aT fw jh iL;have aP:∀i,(∃y,eY=some y/\y.block=i)->Typed hZ gI i:=λi⟨y,e,o⟩=>o▸(aj.typed e).1;exact iI iM l9 bT aT fw (Kp.trans (z6.aH _) iL (λi _ h=>h) λi _⟨y,e,o⟩=>⟨y,e,o⟩) ((ε.ex aV).cB iL gI aP (by decide)) jh
theorem apr(c:xU W aF ae q aX bu part B eY gE hR ps):Bytes (uD q gE part):=by have h1:=c.n256;have ι:=c.OM;have aG:=c.Vd;refine Bytes.append (Bytes.append (bt.Bj 4 q) λx I=>?_) c.KR;simp only[fA,n1,oS]at I;omega
theorem ai7(c:xU W aF ae q aX bu part B eY gE hR ps)(iI:A3 fo bD pre x W ae q part B eY gE ps){w:World}(I:η W w){jG:J}{rD:Nat}(s:c5 W w jG 6 rD (bt.be 4 q++[(gE:Int),(bu:Int)])):bq.cu α fo bD pre x w jG 6 rD bu aX ae eY gE hR W:=by
 have axn:=c.Vd;unfold bq.cu;refine lp (B:=W.heap.size) s I.size (bj part) (a7.ex I c.cells) (by rw[sn,c.OM,ey]) (Ct _) rfl (by omega) (by omega) ?_;intro p8 nb eD er hA;have aV:η W eD:=I.then hA λi⟨y,e,o⟩=>by have:=(μ.ge s e).1;omega
 refine⟨(c.cz.ex aV).at (by rfl),?_⟩;unfold bq.cx;have qK:bt.be 4 q++[(gE:Int),(bu:Int)]++part=uD q gE part:=by unfold uD;rw[c.OM]
 have er:μ eD W.heap.size dk 1 p8 (6+bu) nb (bj (uD q gE part)):=by rw[<-qK,<-IE];exact er
 refine κ.use (ad0 p8 (6+bu) nb (uD q gE part) eD er.cells (by rw[Og,c.OM]) (apr c) (by omega)) ?_;rintro _ fv ⟨iM,l9,rfl,e6,cg⟩
 try dsimp only[dY]
 refine⟨(c.cz.ex (aV.trans cg)).at (by rfl),?_⟩;exact ai6 c iI (aV.trans cg) (e6.lower aV.size)
theorem XV(c:xU W aF ae q aX bu part B eY gE hR ps)(iI:A3 fo bD pre x W ae q part B eY gE ps){w:World}(I:η W w){fH:J}{iC fq:Nat}(s:c5 W w fH 4 iC (bt.be 4 q))(hy:eO w fq [(gE:Int),(bu:Int)]):bq.bS α fo bD pre x fH 4 iC fq w ae eY gE hR bu aX W:=by have h1:=c.n256;have aG:=c.Vd;unfold bq.bS;refine HO I s hy (adV _ _ ⟨by omega,by omega⟩ ⟨by omega,by omega⟩) 6 2 rfl rfl (by omega) (by decide) λp aT w' x g h=>?_;dsimp only[dY];exact⟨(c.cz.ex x).at (by rfl),ai7 c iI x h⟩
theorem ads(c:xU W aF ae q aX bu part B eY gE hR ps){w:World}{N:Value->ao}{X:List PanicEntry->ao}(I:η W w){c8:Nat}(db:eO w c8 [q])
  (K:∀p c w',η W w'->(∀b l,eO w b l->eO w' b l)->c5 W w' p 4 c (bt.be 4 q)->N (.slice p 4 c) w'):κ prog 139 #[.slice none 0 0,.int .i64 4,.slice (some ⟨c8,0,none⟩) 1 1] w N X:=
 HO I (p:=none) (n:=0) (c:=0) (xs:=[]) (μ.nil _ _ _ _) db (VP c.HT) 4 1 (by rw[bt.sE]) rfl (by omega) (by decide) K
theorem ai8(c:xU W aF ae q aX bu part B eY gE hR ps)(iI:A3 fo bD pre x W ae q part B eY gE ps){w:World}(I:η W w){fH:J}{iC:Nat}(s:c5 W w fH 4 iC (bt.be 4 q)):bq.er α fo bD pre x w gE bu ae eY gE hR fH 4 iC aX W:=by unfold bq.er;refine gZ I [(gE:Int),(bu:Int)] λfq ga x h=>?_;exact⟨(c.cz.ex (I.trans x)).at (by rfl),XV c iI (I.trans x) (s.ex x) h⟩
theorem XW(c:xU W aF ae q aX bu part B eY gE hR ps)(iI:A3 fo bD pre x W ae q part B eY gE ps){w:World}(I:η W w){c8 pL:Nat}(db:eO w c8 [q])(dr:eO w pL [(gE:Int),(bu:Int)]):bq.e6 α fo bD pre x c8 w ae eY gE hR pL bu aX W:=by unfold bq.e6;refine ads c I db λp aT w' x g h=>?_;dsimp only[dY];exact⟨(c.cz.ex x).at (by rfl),XV c iI x h (g _ _ dr)⟩
theorem ai9(c:xU W aF ae q aX bu part B eY gE hR ps)(iI:A3 fo bD pre x W ae q part B eY gE ps){w:World}(I:η W w){c8:Nat}(db:eO w c8 [q]):bq.jh α fo bD pre x c8 w ae eY gE hR eY gE hR bu aX W:=by
 unfold bq.jh;refine⟨?_,?_⟩
 ·refine ads c I db λp aT w' x g h=>?_;dsimp only[dY];exact⟨(c.cz.ex x).at (by rfl),(c.cz.ex x).at (by rfl),ai8 c iI x h⟩
 ·refine gZ I [(gE:Int),(bu:Int)] λpL gi x h=>?_;exact⟨(c.cz.ex (I.trans x)).at (by rfl),XW c iI (I.trans x) (db.ex x) h⟩
theorem ai4(c:xU W aF ae q aX bu part B eY gE hR ps)(iI:A3 fo bD pre x W ae q part B eY gE ps){w:World}(I:η W w){vn:Nat}(pT:eO w vn [(gE:Int),(bu:Int)]):bq.p4 α fo bD pre x w q ae eY gE hR vn bu aX W:=by unfold bq.p4;refine gZ I [q] λJc qp x h=>?_;exact⟨(c.cz.ex (I.trans x)).at (by rfl),XW c iI (I.trans x) h (pT.ex x)⟩
theorem ai5(c:xU W aF ae q aX bu part B eY gE hR ps)(iI:A3 fo bD pre x W ae q part B eY gE ps):bq.r0 α fo bD pre x W q ae eY gE hR eY gE hR bu aX aF:=by
 unfold bq.r0;have I:=η.drew W;refine⟨?_,?_⟩
 ·refine gZ I [q] λc8 dX x h=>?_;exact⟨(c.cz.ex (I.trans x)).at (by rfl),(c.cz.ex (I.trans x)).at (by rfl),ai9 c iI (I.trans x) h⟩
 ·refine gZ I [(gE:Int),(bu:Int)] λvn mA x h=>?_;exact⟨(c.cd.ex (I.trans x)).at (by rfl),(c.cz.ex (I.trans x)).at (by rfl),ai4 c iI (I.trans x) h⟩
end
end Go.Proofs.YtcpdfhkhaekekaaGreat.G.cL
namespace Go.Proofs.YtcpdfhkhaekekaaGreat.G.cL
open Tryz
open Go.bO Go.RowKit
theorem asU{e:fF}(h:qz e):e.2.2.length<=32:=by
 by_cases aD:e.1=0
 ·have:=h.2.2.1 aD
  have:=h.1
  omega
 ·have:=h.2.2.2 aD
  have:=h.1
  omega
theorem HL{R:bR}(dr:R.length=8)(h:lo R)(m:Int):(eQ m R).length<=528:=by
 have key:∀k,k<=8->(eQ m (R.take k)).length<=k*66:=by
  intro k
  induction k with
  |zero=>intro _;simp[eQ]
  |succ k ch=>
   intro hk;have nO:k<R.length:=by omega
   rw[PW (List.getElem?_eq_getElem nO),fe,Vf];have h1:=asU (h _ (hF nO));have aG:=ch (by omega);omega
 have:=key 8 (ew _)
 rw[hc (by omega)]at this;exact this
theorem aq3{R:bR}(dr:R.length=8)(m:Int):16<=(eQ m R).length:=by
 have key:∀k,k<=8->k*2<=(eQ m (R.take k)).length:=by
  intro k
  induction k with
  |zero=>intro _;simp[eQ]
  |succ k ch=>
   intro hk;have nO:k<R.length:=by omega
   rw[PW (List.getElem?_eq_getElem nO),fe,Vf];have aG:=ch (by omega);omega
 have:=key 8 (ew _)
 rw[hc (by omega)]at this;exact this
def uI(q:Int):Prop:=1<=q/\q<=1073741824
structure Laid(w:World)(IS θ aF ae:Nat)(s m q:Int)(t:an)(ab:J)(c1:Nat)(xs:List Nat)(W:World):Prop where
 ex:η w W
 bP:μ W 0 b2 2 (some ⟨θ,0,none⟩) 1 1 (two s m)
 cd:μ W 0 cj 1 (some ⟨aF,0,none⟩) 1 1 [.int .i64 q]
 text:μ W 0 dk 1 ab t.length c1 (bj t)
 low:IS<=W.heap.size
 out:∃eY hR ps,μ W 0 u1 1 (some ⟨ae,0,none⟩) 1 1 [.slice eY xs.length hR]/\μ W IS gI 1 eY xs.length hR ps/\jy W w.heap.size ps (rX q t xs)
theorem Laid.grown{w W b6:World}{IS θ aF ae C:Nat}{s m q:Int}{t:an}{ab:J}{c1:Nat}{xs:List Nat}(h:Laid w IS θ aF ae s m q t ab c1 xs W)(k:Kp W b6 (vf W C))(hC:w.heap.size<=C):Laid w IS θ aF ae s m q t ab c1 xs b6:=by obtain⟨h1,ι,aG,cq,aj,eY,hR,ps,db,hy,ih⟩:=h;exact⟨h1.later k hC,ι.grown k,aG.grown k,cq.grown k,fY aj k.size,eY,hR,ps,db.grown k,hy.grown k,ih.grown k⟩
theorem akl(t:an):bt.oW 4 [u (more 0#32 t)]=bt.be 4 (u (more 0#32 t)):=VP (P6 _)
theorem aaC{H:gz}(h:H.Ok)(t:an):Bytes (rJ H t):=by refine Bytes.append (Bytes.append (Bytes.append (Bytes.append aed (bt.Bj _ _)) λx I=>?_) (bt.Bj _ _)) (bt.Bj _ _);have h1:=h.s;have ι:=h.k;have aG:=h.m;simp only[fA,n1,oS]at I;omega
theorem Xb{w:World}{R:bR}{ps:aU}(h:h2 w R ps)(s m q:Int):bq.C (bK R ps).toArray s m q w (χ λv w'=>η w w'/\
  ((uI q/\lG s m R/\∃p n c ta,v=.tuple #[.slice p n c,.int .i64 0]/\μ w' w.heap.size gI 1 p n c ta/\jy w' w.heap.size ta (ix s m q (eQ m R)))\/
  (¬(uI q/\lG s m R)/\∃e,e≠0/\v=.tuple #[.slice none 0 0,.int .i64 e]))):=by
 apply bq.ok;unfold bq.main;rintro δ γ rfl rfl θ τ rfl rfl aF aa rfl rfl;have ρ:=μ.new (w:=w) (bK R ps) bU;have ζ:=η.alloc w (.cells (bK R ps).toArray bU);generalize ej:w.heap.size=δ at ρ⊢;generalize w.alloc (.cells (bK R ps).toArray bU)=γ at ρ ζ⊢;have ai:=(μ.new (w:=γ) (two s m) b2).lower (en _);have σ:=η.alloc γ (.cells (two s m).toArray b2);have bE:γ.alloc (.cells #[.int .i64 s,.int .i64 m] b2)=γ.alloc (.cells (two s m).toArray b2):=rfl;rw[bE];generalize γ.heap.size=θ at ai⊢;generalize γ.alloc (.cells (two s m).toArray b2)=τ at ai σ⊢;have bo:=(μ.new (w:=τ) [.int .i64 q] cj).lower (en _);have ad:=η.alloc τ (.cells [Value.int .i64 q].toArray cj);generalize τ.heap.size=aF at bo⊢;generalize τ.alloc (.cells #[.int .i64 q] cj)=aa at bo ad⊢;have ρ:=ρ.ex (σ.trans ad);have ai:=ai.ex ad;have I:=ζ.trans (σ.trans ad);clear ζ σ ad
 have bad:∀{w':World}{e:Int},η aa w'->¬(uI q/\lG s m R)->e≠0->χ (λv w'=>η w w'/\
   ((uI q/\lG s m R/\∃p n c ta,v=.tuple #[.slice p n c,.int .i64 0]/\μ w' δ gI 1 p n c ta/\jy w' δ ta (ix s m q (eQ m R)))\/
   (¬(uI q/\lG s m R)/\∃e,e≠0/\v=.tuple #[.slice none 0 0,.int .i64 e]))) (.returned (.tuple #[.slice none 0 0,.int .i64 e])) w':=λlR ax he=>χ.mk ⟨I.trans lR,.inr ⟨ax,_,he,rfl⟩⟩
 refine⟨q,bo.at (by rfl),?_⟩;refine bz (λπ=>?_) λπ=>?_
 ·have π:=b7 π;exact bad (η.refl _) (λh=>by have:=h.1.1;omega) (by decide)
 have abd:=dd π;refine⟨q,bo.at (by rfl),?_⟩;refine bz (λπ=>?_) λπ=>?_
 ·have π:=b7 π;exact bad (η.refl _) (λh=>by have:=h.1.2;omega) (by decide)
 have TM:=dd π;have aC:uI q:=⟨by omega,by omega⟩;have aG:=h.ex I;refine⟨(bK R ps).toArray,by rw[fh];exact h.dU,ρ.cells,(two s m).toArray,rfl,ai.cells,?_⟩;refine κ.use (Xf aG s m) ?_;rintro _ az ⟨⟨e,rfl,he⟩,aA⟩
 try dsimp only[bH]
 refine bz (λπ=>?_) λπ=>?_
 ·have π:¬e=0:=by simpa using π
  exact bad aA (λh=>π (he.2 h.2)) π
 have π:e=0:=by simpa using π
 have j9:=he.1 π;have dS:=uE.1 j9.1.1;have NV:=HL h.len j9.1.2.1 m;have axo:=aq3 h.len m;have Hh:=adi (k:=m) h.ok;refine⟨(bK R ps).toArray,by rw[fh];exact h.dU,(ρ.ex aA).cells,(two s m).toArray,rfl,(ai.ex aA).cells,?_⟩;refine κ.use (aq4 (aG.ex aA) j9) ?_;rintro _ ba ⟨⟨ab,c1,rfl,bS⟩,aI⟩
 try dsimp only[dY]
 generalize eQ m R=t at*;have bS:μ ba 0 dk 1 ab t.length c1 (bj t):=bS.lower (en _);have Ql:=aA.trans aI;have ai:=ai.ex Ql;have bo:=bo.ex Ql;have I:=I.trans Ql;clear aA aI Ql ρ bad;rintro ae b5 rfl rfl;have mg:w.heap.size<=ba.heap.size:=I.size;have cx:=(μ.new (w:=ba) [.slice none 0 0] u1).lower (en _);have cg:=η.alloc ba (.cells [Value.slice none 0 0].toArray u1);generalize ba.heap.size=ae at cx mg⊢;generalize ba.alloc (.cells #[.slice none 0 0] u1)=b5 at cx cg⊢;have ai:=ai.ex cg;have bo:=bo.ex cg;have bS:=bS.ex cg;have I:=I.trans cg;clear cg;refine κ.use (Qy ab t.length c1 b5) ?_;rintro _ cf ⟨dP,dQ,rfl,cm,n3,cG⟩;refine bL (by rfl) ?_;have ai:=ai.ex cm;have bo:=bo.ex cm;have bS:=bS.ex cm;have awI:ae<b5.heap.size:=(cx.ge rfl).2;have cx:=cx.ex cm;have Ka:b5.heap.size<=dP:=(n3.ge rfl).1;have abd:b5.heap.size<=dQ:=(cG.ge rfl).1;have aoc:dP<cf.heap.size:=(n3.ge rfl).2;have aod:dQ<cf.heap.size:=(cG.ge rfl).2;have I:=I.trans cm;have axE:=cm.size;clear cm;have aoN:=I.size;have aax:fs t.length<=11:=by unfold fs;omega
 refine⟨_root_.Fin (fs t.length),λx=>R2 ab t.length x.val,vd dP dQ,λxs=>xs.map (·.val)=List.range (fs t.length),λ_=>True,fs t.length,
  λxs W=>Laid w cf.heap.size θ aF ae s m q t ab c1 (xs.map (·.val)) W/\Gr dP dQ (.slice ab t.length c1) (.int .i64 52) W,λ_ _=>False,?_,?_,?_,?_⟩
 ·refine⟨ahG n3 cG (by omega) bS.2.1,λh k=>h.trans k,λW l ε hD _ aB π _=>vd.book W l ε hD aB π,?_,λ_ _ _ _ h=>h.elim,⟨⟨I,ai,bo,bS,ew _,none,0,[],cx,μ.nil _ _ _ _,jy.nil _ _⟩,⟨n3.at (by rfl),cG.at (by rfl)⟩⟩⟩;intro xs W b6 row iJ Tk υ;have k:=Kp.grown Tk υ;refine⟨iJ.1.grown k aoN,?_⟩;have two:∀{a:Addr}{v:Value},W.cell? a=some v->b6.cell? a=some v:=λ{a v}aJ=>k.cell aJ λax=>by
   obtain⟨_,ε,aB,fV⟩:=ax;unfold World.cell? at aJ;rw[aB]at aJ;cases ε<;>first|(simp at aJ;done)|(cases fV;done)
  exact⟨two iJ.2.1,two iJ.2.2⟩
 ·intro pre x cA iJ aob;obtain⟨⟨g1,g2,g3,g4,yk,eY,hR,rs,g5,g6,g7⟩,kL⟩:=iJ;have Kk:=x.isLt;have DW:=Rr Kk;have fV:=MN t x.val;unfold R2
  try dsimp only[dY]
  have d:=η.drew cA;refine⟨eY,_,hR,(g5.ex d).at (by rfl),q,(g3.ex d).at (by rfl),eY,_,hR,(g5.ex d).at (by rfl),?_⟩;have hlen:(pre.map (·.val)).length<256:=by rw[jV];omega
  refine ai5 (part:=chunk t x.val) (B:=cf.heap.size) (ps:=rs) ⟨g3,g5,ajX g4.cells Kk,fV,DW.2.2,(Hh.drop _).take _,⟨by have:=aC.1;omega,by have:=aC.2;omega⟩,hlen,g6,yk⟩ ?_;intro iM l9 bT aT fw vI t8 t9;unfold bq.ρ;have jW:∀i,cY eY i->Typed cA gI i:=λi⟨y,e,o⟩=>o▸(g6.typed e).1;have cz:=g5.cB vI gI jW (by decide);refine cz.da (H8 0) (by rfl) λsq BS EA=>?_;have oH:Kp cA sq λi=>cY eY i\/i=ae:=Kp.trans vI BS (λi _ h=>.inl h) λi _ h=>.inr h;have ajA:=(cz.typed rfl).1;have AR:∀i,i=ae->Typed fw u1 i:=λi o=>by rw[o];exact ajA
  have sR:∀i,i<cf.heap.size->ae≠i->¬(cY eY i\/i=ae):=λi o ca h=>by
   rcases h with⟨y,e,ah⟩|h
   ·have:=(g6.ge e).1
    omega
   ·exact ca h.symm
  have two:Gr dP dQ (.slice ab t.length c1) (.int .i64 52) sq:=⟨oH.cell kL.1 (sR _ aoc (by dsimp only;omega)),oH.cell kL.2 (sR _ aod (by dsimp only;omega))⟩;refine⟨KeepsOthers.acQ oH ?_,?_,?_,two⟩
  ·rintro i _ (o|rfl)
   ·exact⟨_,jW i o⟩
   ·exact⟨_,(g5.typed rfl).1⟩
  ·intro v0 v1 π;have hl:=π.1.symm.trans kL.1;have aO:=π.2.symm.trans kL.2;cases hl;cases aO;exact two
  ·have ak1:(pre++[x]).map (·.val)=pre.map (·.val)++[x.val]:=by simp
   have Zn:(pre.map (·.val)++[x.val]).length=(pre.map (·.val)).length+1:=by simp
   rw[ak1];have ay:b2≠gI:=by decide
   have bu:cj≠gI:=by decide
   have dB:dk≠gI:=by decide
   refine⟨(g1.then vI λi⟨y,e,o⟩=>by have:=(g6.ge e).1;omega).then BS λi o=>by omega,(g2.cB vI gI jW ay).cB BS u1 AR (by decide),(g3.cB vI gI jW bu).cB BS u1 AR (by decide),(g4.cB vI gI jW dB).cB BS u1 AR (by decide),fY yk oH.size,bT,aT,rs++[.slice iM 64 l9],?_,?_,?_⟩
   ·rw[Zn];exact EA
   ·rw[Zn];exact t9.cB BS u1 AR (by decide)
   ·rw[ab3];exact((g7.cB vI gI jW dB).cB BS u1 AR (by decide)).snoc ((t8.lower g1.size).cB BS u1 AR (by decide))
 ·intro D xs cn b4 hV iJ DX;have hV:xs.map (·.val)=List.range (fs t.length):=hV;obtain⟨⟨g1,g2,g3,g4,yk,eY,hR,rs,g5,g6,g7⟩,_⟩:=iJ;rw[hV,Cc]at g5 g6;rw[hV]at g7;have d:=η.drew cn;have uw:fs t.length<256:=by unfold fs;omega
  refine⟨q,(g3.ex d).at (by rfl),s,(g2.ex d).at (by rfl),m,(g2.ex d).at (by rfl),eY,_,hR,(g5.ex d).at (by rfl),?_⟩;have dt:(yq s m q t).Ok:=⟨⟨by have:=aC.1;show 0<=q;omega,by have:=aC.2;show q<_;omega⟩,⟨by show 0<=s;omega,by show s<_;omega⟩,⟨by show 0<=m;omega,by show m<_;omega⟩,uw,by show t.length<_;omega⟩;refine ai1 (H:=yq s m q t) ⟨dt,g2,g3,g5⟩ ?_ (η.refl cn);intro vQ vo o3 av8 lU;have d58:=av8.trans (η.drew o3);refine⟨eY,_,hR,(g5.ex d58).at (by rfl),?_⟩;unfold bq.B0;refine κ.use (XF ab t.length c1 t _ (g4.ex d58).cells rfl (by omega) Hh) ?_;rintro _ Gk ⟨rfl,ahp⟩
  try dsimp only[M1]
  have wQ:=d58.trans ahp;have lU:=(lU.ex (η.drew o3)).ex ahp;refine⟨(g5.ex wQ).at (by rfl),?_⟩;unfold bq.uG;have S3:=P6 (more 0#32 t);rw[bY (x:=u (more 0#32 t)) (by omega) (by omega)];refine gZ wQ [u (more 0#32 t)] λCX L5 ahq amD=>?_;have aaa:=wQ.trans ahq;have lU:=lU.ex ahq;refine⟨(g5.ex aaa).at (by rfl),?_⟩;unfold bq.s5;refine HO aaa lU amD (akl t) 17 1 (by rw[bt.sE]) rfl (by omega) (by decide) λKO Jh Cu WM _ q1=>?_;dsimp only[dY];refine⟨(g5.ex WM).at (by rfl),?_⟩;unfold bq.r1;refine κ.use (ad0 KO 17 Jh (rJ (yq s m q t) t) Cu (μ.cells q1) (G7 _ _) (aaC dt t) (by omega)) ?_;rintro _ ss ⟨B4,Bm,rfl,EB,av9⟩
  try dsimp only[dY]
  have SG:=WM.trans av9;refine⟨(g5.ex SG).at (by rfl),?_⟩;unfold bq.xm;rintro wH AW rfl rfl;have pj:=μ.new (w:=ss) [.slice B4 64 Bm] gI;have WN:=η.alloc ss (.cells [Value.slice B4 64 Bm].toArray gI);have aam:cn.heap.size<=ss.heap.size:=SG.size;generalize ss.heap.size=wH at pj aam⊢;generalize ss.alloc (.cells #[.slice B4 64 Bm] gI)=AW at pj WN⊢;have JC:=SG.trans WN;refine⟨(g5.ex JC).at (by rfl),?_⟩;unfold bq.Al;have dW:w.heap.size<=wH:=fY g1.size aam;refine lp (B:=w.heap.size) (pj.lower dW) (g1.trans JC).size rs (g6.ex JC).cells g6.1 g7.one rfl (by omega) (by omega) ?_;intro Vc Rk u7 r2 ao7;have Uj:Kp AW u7 λi=>i=wH:=ao7.mono λi _⟨y,e,o⟩=>by cases e;exact o.symm
  have aac:η cn u7:=JC.then Uj λi o=>by omega
  have am5:D<cn.heap.size:=(Array.getElem?_eq_some_iff.1 DX).1;have aaB:u7.heap[D]?=some (.deferred (some [])):=by rw[aac.block D am5 id];exact DX
  refine⟨aaB,?_⟩;have nV:=Kp.putObj u7 D (.deferred none);have pc:∀i,i=D->vf u7 0 i:=λi o=>⟨en _,.deferred (some []),by rw[o];exact aaB,rfl⟩;have dA:∀{B e sz n c:Nat}{p:J}{xs:aU},μ u7 B e sz p n c xs->μ (u7.putObj D (.deferred none)) B e sz p n c xs:=λε=>ε.aH nV λy ah o=>(pc _ o).typed (ε.typed ah).1;have t18:∀i,i=wH->Typed AW gI i:=λi o=>by rw[o];exact(pj.typed rfl).1
  have f26:μ u7 w.heap.size dk 1 B4 64 Bm (bj (nh (yq s m q t) t)):=((EB.lower (g1.trans WM).size).ex WN).cB Uj gI t18 (by decide);have f8:=(g7.ex JC).cB Uj gI t18 (by decide);subst ej;refine χ.mk ⟨(g1.trans aac).then nV λi o=>by rw[o];exact fY I.size b4,.inl ⟨aC,j9,Vc,_,Rk,_,rfl,dA r2,?_⟩⟩;exact(f8.cons f26).dA λε=>dA ε
 ·intro D pre dn _ _ iJ _;exact iJ.elim
end Go.Proofs.YtcpdfhkhaekekaaGreat.G.cL

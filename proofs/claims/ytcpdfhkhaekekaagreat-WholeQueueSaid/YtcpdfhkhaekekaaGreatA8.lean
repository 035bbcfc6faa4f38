/- The walk of the functions, and the plain laws of the model: part of the proof. Conditions: none. -/
import Derived.Test.YtcpdfhkhaekekaaGreatA7
set_option linter.unusedVariables false
set_option linter.unusedSimpArgs false
namespace Go.Proofs.YtcpdfhkhaekekaaGreat.G
open Tryz
open Go.bI Go.RowKit
abbrev fL:=Int×Int×List eg
abbrev bW:=List fL
def kinds(R:bW):aU:=R.flatMap λe=>two e.1 e.2.1
def bN(R:bW)(ps:aU):aU:=kinds R++ps
def lN(e:fL):Prop:=(∀q∈e.2.2,ki q)/\e.2.2.length<=1000/\(0<=e.1/\e.1<256)/\(0<=e.2.1/\e.2.1<256)
structure ie(w:World)(R:bW)(ps:aU):Prop where
 len:R.length=8
 dE:ps.length=8
 row:∀(k:Nat)(e:fL),R[k]?=some e->∃(p:J)(c:Nat),ps[k]?=some (Value.slice p e.2.2.length c)/\a8 w p (e.2.2.map dT)
 ok:∀e∈R,lN e
theorem ie.aC{w w':World}{R:bW}{ps:aU}(h:ie w R ps){S:a1}(k:Kp w w' S)(ψ:∀p n c,Value.slice p n c∈ps->∀a,p=some a->¬S a.block):ie w' R ps:=
 ⟨h.len,h.dE,λj e he=>by obtain⟨p,c,h1,η⟩:=h.row j e he;exact⟨p,c,h1,η.aC k λa aP=>ψ p _ c (eS h1) a aP⟩,h.ok⟩
theorem ie.ex{w w':World}{R:bW}{ps:aU}(h:ie w R ps)(x:θ w w'):ie w' R ps:=h.aC x λ_ _ _ _ _ _ h=>h
theorem AF:∀R:bW,(kinds R).length=2*R.length
 |[]=>rfl
 |e::R=>by
  have:=AF R
  unfold kinds at this⊢;rw[zl,e9,this,List.length_cons];simp only[two,List.length_cons,List.length_nil];omega
theorem U3:∀(R:bW)(k:Nat)(e:fL),R[k]?=some e->∃t,(kinds R).drop (k*2)=two e.1 e.2.1++t
 |[],k,e,h=>by simp at h
 |a::R,0,e,h=>by
  obtain rfl:a=e:=by simpa using h
  exact⟨kinds R,rfl⟩
 |a::R,k+1,e,h=>by
  obtain⟨t,aO⟩:=U3 R k e (by simpa using h);refine⟨t,?_⟩;have bz:(k+1)*2=k*2+2:=by omega
  rw[bz];exact aO
theorem ie.EW{w:World}{R:bW}{ps:aU}(h:ie w R ps):(kinds R).length=16:=by rw[AF,h.len]
theorem ie.dX{w:World}{R:bW}{ps:aU}(h:ie w R ps):(bN R ps).length=24:=by unfold bN;rw[e9,h.EW,h.dE]
theorem ie.take{w:World}{R:bW}{ps:aU}(h:ie w R ps):(bN R ps).take 16=kinds R:=by unfold bN;rw[pb (by rw[h.EW];omega),hr (by rw[h.EW];omega)]
theorem ie.drop{w:World}{R:bW}{ps:aU}(h:ie w R ps):(bN R ps).drop 16=ps:=by
 unfold bN
 have:=h.EW
 rw[<-this,LJ]
theorem ie.pair{w:World}{R:bW}{ps:aU}(h:ie w R ps){k:Nat}{e:fL}(he:R[k]?=some e):(kinds R).toArray.extract (k*2) (k*2+2)=(two e.1 e.2.1).toArray:=by
 obtain⟨t,aO⟩:=U3 R k e he;apply qq;rw[Array.toList_extract];have aM:(kinds R).toArray.toList.extract (k*2) (k*2+2)=((kinds R).drop (k*2)).take 2:=by rw[List.extract_eq_take_drop];congr 1;omega
 rw[aM,aO];rfl
theorem ie.place{w:World}{R:bW}{ps:aU}(h:ie w R ps)(k:Nat):(bN R ps)[16+k]?=ps[k]?:=by
 have:=gN (λl=>l[k]?) h.drop
 rwa[List.getElem?_drop]at this
theorem ie.get{w:World}{R:bW}{ps:aU}(h:ie w R ps){k:Nat}(hk:k<8):∃e,R[k]?=some e:=⟨R[k]'(by rw[h.len];exact hk),List.getElem?_eq_getElem _⟩
theorem I0(a b:Int):∀z∈two a b,z.oneCell'=true:=nm
theorem ie.one{w:World}{R:bW}{ps:aU}(h:ie w R ps):∀z∈bN R ps,z.oneCell'=true:=by
 intro z aI;unfold bN at aI;rcases iI.1 aI with aI|aI
 ·obtain⟨e,_,he⟩:=pc.1 aI;exact I0 _ _ z he
 ·obtain⟨k,hk⟩:=List.getElem?_of_mem aI;have Aq:k<8:=by have:=(List.getElem?_eq_some_iff.1 hk).1;have:=h.dE;omega
  obtain⟨e,he⟩:=h.get Aq;obtain⟨p,c,h1,_⟩:=h.row k e he;rw[hk]at h1;cases h1;rfl
def qM(e:fL):Prop:=(e.2.2.length:Int)=e.2.1/\(0<=e.1/\e.1<3)/\(e.1=0->e.2.1=0)/\(e.1≠0->1<=e.2.1/\e.2.1<33)
def lE(R:bW):Prop:=∀e∈R,qM e
instance(e:fL):Decidable (qM e):=inferInstanceAs (Decidable (_/\_))
instance(R:bW):Decidable (lE R):=inferInstanceAs (Decidable (∀e∈R,qM e))
theorem aty{R:bW}{k:Nat}{e:fL}(he:R[k]?=some e)(h:¬qM e):decide (lE R)=false:=iJ λs=>h (s e (eS he))
theorem atx{R:bW}(dr:R.length=8)(h:∀(j:Nat)(e:fL),j<8->R[j]?=some e->qM e):decide (lE R)=true:=bC λe he=>by obtain⟨k,hk⟩:=List.getElem?_of_mem he;exact h k e (by have:=(List.getElem?_eq_some_iff.1 hk).1;omega) hk
theorem aeF{R:bW}{k:Nat}{e:fL}(he:R[k]?=some e)(h:qM e)(H:∀(j:Nat)(e:fL),j<k->R[j]?=some e->qM e):∀(j:Nat)(e:fL),j<k+1->R[j]?=some e->qM e:=λj c6 χ dO=>by
 by_cases T2:j=k
 ·subst T2;rw[he]at dO;cases dO;exact h
 ·exact H j c6 (by omega) dO
theorem GW{w:World}{R:bW}{ps:aU}(h:ie w R ps):sQ.C (bN R ps).toArray w (φ λv w'=>v=.bool (decide (lE R))/\θ w w'):=by
 apply sQ.ok;unfold sQ.main;rintro ε δ rfl rfl;have ρ:=μ.new (w:=w) (bN R ps) bX;have ζ:=θ.alloc w (.cells (bN R ps).toArray bX);generalize w.heap.size=ε at ρ⊢;generalize w.alloc (.cells (bN R ps).toArray bX)=δ at ρ ζ⊢;have h:=h.ex ζ;refine⟨(kinds R).toArray,by rw[fp];exact h.EW,by have:=a8.take ρ.cells 16;rwa[h.take]at this,?_⟩;unfold sQ.bd;refine⟨λt1 t7 t8 w'=>ε=t1/\(kinds R).toArray=t7/\0<=t8/\t8<=8/\(∀(j:Nat)(e:fL),j<t8.toNat->R[j]?=some e->qM e)/\θ δ w',λt1 t7 t8 w'=>(8-t8).toNat,⟨rfl,rfl,by omega,by omega,λj e χ=>by simp at χ,θ.refl _⟩,?_⟩;rintro _ _ t8 w' ⟨rfl,rfl,aF,dr,dM,I⟩;unfold sQ.ε;obtain⟨k,rfl⟩:=eR aF;rw[cP]at dM;refine bA (λbQ=>?_) λbQ=>?_
 ·have bQ:=cd bQ;have hk:k<8:=by omega
  obtain⟨e,he⟩:=h.get hk;obtain⟨p,c,hp,kW⟩:=h.row k e he;obtain⟨dq,an,_,_⟩:=h.ok e (eS he);refine bO (bC aF) (bO (bC bQ) ?_);rw[cP,h.pair he];rintro ι υ rfl rfl;have az:=μ.new (w:=w') [.int .i64 0,.int .i64 0] jq;have τ:=θ.alloc w' (.cells [Value.int .i64 0,.int .i64 0].toArray jq);generalize w'.alloc (.cells #[.int .i64 0,.int .i64 0] jq)=υ at az τ⊢;refine bO (by rfl) ?_;refine az.put (cs:=two e.1 e.2.1) (by rfl) (I0 _ _) λaa b7 bu=>?_;have ab:θ w' aa:=τ.then b7 λi o=>o▸eF _;have nz:=I.trans ab;refine bO (bC aF) (bO (bC bQ) ?_);rw[zZ];refine⟨p,e.2.2.length,c,(ρ.ex nz).at (by rw[h.place,hp]),e.2.1,bu.at (by rfl),?_⟩;have bad:∀{hY:World},θ δ hY->¬qM e->φ (λv w'=>v=.bool (decide (lE R))/\θ w w') (.returned (.bool false)) hY:=λI ar=>by rw[aty he ar];exact φ.mk ⟨rfl,ζ.trans I⟩
  refine bA (λπ=>?_) λπ=>?_
  ·have π:¬(e.2.2.length:Int)=e.2.1:=by simpa using π
   exact bad nz λs=>π s.1
  have g1:(e.2.2.length:Int)=e.2.1:=by simpa using π
  refine⟨e.1,bu.at (by rfl),?_⟩;refine bA (λπ=>?_) λπ=>?_
  ·have g2:e.1=0:=by simpa using π
   refine⟨e.2.1,bu.at (by rfl),?_⟩;refine bA (λπ=>?_) λπ=>?_
   ·have π:¬e.2.1=0:=by simpa using π
    exact bad nz λs=>π (s.2.2.1 g2)
   have g3:e.2.1=0:=by simpa using π
   refine⟨e.1,bu.at (by rfl),?_⟩;refine κ.use (Ay e.1 0 3 _) ?_;rintro _ _ ⟨rfl,rfl⟩
   try dsimp only[dH]
   rw[bC (by omega),bC (by omega),cond_neg (by rfl)];refine⟨e.1,bu.at (by rfl),?_⟩;rw[g2,cond_neg (by rfl)];refine κ.use (aaI p _ c e.2.2 _ (kW.ex nz) rfl (by omega) dq) ?_;rintro _ _ ⟨rfl,rfl⟩
   try dsimp only[dH,jb]
   rw[GL hk];exact⟨⟨rfl,rfl,by omega,by omega,aeF he ⟨g1,by omega,λ_=>g3,λar=>absurd g2 ar⟩ dM,nz⟩,by((try dsimp only);omega)⟩
  ·have g2:¬e.1=0:=by simpa using π
   refine⟨e.1,bu.at (by rfl),?_⟩;refine κ.use (Ay e.1 0 3 _) ?_;rintro _ _ ⟨rfl,rfl⟩
   try dsimp only[dH]
   refine bA (λπ=>?_) λπ=>?_
   ·refine bad nz λs=>?_;rw[bC s.2.1.1,bC s.2.1.2]at π;cases π
   have g4:0<=e.1/\e.1<3:=by simpa using π
   refine⟨e.1,bu.at (by rfl),?_⟩;rw[cond_pos (by simpa using g2)];refine⟨e.2.1,bu.at (by rfl),?_⟩;refine κ.use (Ay e.2.1 1 33 _) ?_;rintro _ _ ⟨rfl,rfl⟩
   try dsimp only[dH]
   refine bA (λπ=>?_) λπ=>?_
   ·refine bad nz λs=>?_
    have:=s.2.2.2 g2
    rw[bC this.1,bC this.2]at π;cases π
   have g5:1<=e.2.1/\e.2.1<33:=by simpa using π
   refine κ.use (aaI p _ c e.2.2 _ (kW.ex nz) rfl (by omega) dq) ?_;rintro _ _ ⟨rfl,rfl⟩
   try dsimp only[dH,jb]
   rw[GL hk];exact⟨⟨rfl,rfl,by omega,by omega,aeF he ⟨g1,g4,λar=>absurd ar g2,λ_=>g5⟩ dM,nz⟩,by((try dsimp only);omega)⟩
 ·have bQ:=dh bQ;obtain rfl:k=8:=by omega
  rw[atx h.len dM];exact φ.mk ⟨rfl,ζ.trans I⟩
open Go.bI Go.RowKit
def Db(s k:Int)(R:bW):Prop:=may s k=true/\lE R/\∀e∈R,e.2.2.any (tj s k)=false
theorem awv{s m:Int}{R:bW}{k:Nat}{e:fL}(he:R[k]?=some e)(h:e.2.2.any (tj s m)=false)(H:∀(j:Nat)(e:fL),j<k->R[j]?=some e->e.2.2.any (tj s m)=false):∀(j:Nat)(e:fL),j<k+1->R[j]?=some e->e.2.2.any (tj s m)=false:=λj c6 χ dO=>by
 by_cases T2:j=k
 ·subst T2;rw[he]at dO;cases dO;exact h
 ·exact H j c6 (by omega) dO
theorem RI{w:World}{R:bW}{ps:aU}(h:ie w R ps)(s m:Int):
  tk.C (bN R ps).toArray s m w (φ λv w'=>(∃e,v=.int .i64 e/\(e=0↔Db s m R))/\θ w w'):=by
 apply tk.ok;unfold tk.main;rintro ε δ rfl rfl ι υ rfl rfl;have ρ:=μ.new (w:=w) (bN R ps) bX;have ζ:=θ.alloc w (.cells (bN R ps).toArray bX);generalize w.heap.size=ε at ρ⊢;generalize w.alloc (.cells (bN R ps).toArray bX)=δ at ρ ζ⊢;have az:=μ.new (w:=δ) (two s m) b5;have τ:=θ.alloc δ (.cells (two s m).toArray b5);have bz:δ.alloc (.cells #[.int .i64 s,.int .i64 m] b5)=δ.alloc (.cells (two s m).toArray b5):=rfl;rw[bz];generalize δ.heap.size=ι at az⊢;generalize δ.alloc (.cells (two s m).toArray b5)=υ at az τ⊢;have ρ:=ρ.ex τ;have iz:=ζ.trans τ;have h:=h.ex iz;refine⟨(two s m).toArray,rfl,az.cells,?_⟩;refine κ.use (Jf s m _) ?_;rintro _ aa ⟨rfl,ab⟩
 try dsimp only[bH]
 cases hm:may s m with
 |false=>
  rw[cond_pos (by rfl)];refine φ.mk ⟨⟨1,rfl,?_⟩,iz.trans ab⟩;constructor
  ·intro h;cases h
  ·intro h;rw[h.1]at hm;cases hm
 |true=>
 have eo:=uQ.1 hm;rw[cond_neg (by rfl)];have h:=h.ex ab;refine⟨(bN R ps).toArray,by rw[fp];exact h.dX,(ρ.ex ab).cells,?_⟩;refine κ.use (GW h) ?_;rintro _ aG ⟨rfl,al⟩
 try dsimp only[dH]
 have EP:=iz.trans (ab.trans al);refine bA (λψ=>?_) λψ=>?_
 ·have ψ:¬lE R:=by simpa using ψ
  refine φ.mk ⟨⟨2,rfl,?_⟩,EP⟩;constructor
  ·intro h;cases h
  ·intro h;exact absurd h.2.1 ψ
 have ψ:lE R:=by simpa using ψ
 have h:=h.ex al;have az:=(az.ex ab).ex al;have ae:aw aG (⟨ε,16,none⟩:Addr) ps:=by
  have:=aw.drop (ρ.ex (ab.trans al)).cells 16
  rwa[Addr.add_lit,mN,h.drop]at this
 refine⟨ps.toArray,by rw[fp];exact h.dE,ae,?_⟩;unfold tk.bd;refine⟨λt3 t17 t18 w'=>ι=t3/\ps.toArray=t17/\0<=t18/\t18<=8/\(∀(j:Nat)(e:fL),j<t18.toNat->R[j]?=some e->e.2.2.any (tj s m)=false)/\θ aG w',λt3 t17 t18 w'=>(8-t18).toNat,⟨rfl,rfl,by omega,by omega,λj e χ=>by simp at χ,θ.refl _⟩,?_⟩;rintro _ _ t18 w' ⟨rfl,rfl,aF,dr,dM,I⟩;unfold tk.ε;obtain⟨k,rfl⟩:=eR aF;rw[cP]at dM;refine bA (λbQ=>?_) λbQ=>?_
 ·have bQ:=cd bQ;have hk:k<8:=by omega
  obtain⟨e,he⟩:=h.get hk;obtain⟨p,c,hp,kW⟩:=h.row k e he;obtain⟨dq,an,_,_⟩:=h.ok e (eS he);refine bO (bC aF) (bO (bC bQ) ?_);rw[cP,eG];have gw:ps.toArray[k]?=some (.slice p e.2.2.length c):=by rw[List.getElem?_toArray];exact hp
  rw[gw]
  try dsimp only[bj,er]
  refine κ.use (anf p _ c e.2.2 w' (kW.ex I) rfl (by omega) dq s m eo (az.ex I)) ?_;rintro _ ba ⟨rfl,aJ⟩
  try dsimp only[dH]
  refine bA (λaP=>?_) λaP=>?_
  ·refine φ.mk ⟨⟨5,rfl,?_⟩,EP.trans (I.trans aJ)⟩;constructor
   ·intro h;cases h
   ·intro h;rw[h.2.2 e (eS he)]at aP;cases aP
  ·rw[GL hk];exact⟨⟨rfl,rfl,by omega,by omega,awv he aP dM,I.trans aJ⟩,by((try dsimp only);omega)⟩
 ·have bQ:=dh bQ;obtain rfl:k=8:=by omega
  refine φ.mk ⟨⟨0,rfl,?_⟩,EP.trans I⟩;constructor
  ·intro _;refine⟨hm,ψ,λe he=>?_⟩;obtain⟨k,hk⟩:=List.getElem?_of_mem he;exact dM k e (by have:=(List.getElem?_eq_some_iff.1 hk).1;have:=h.len;omega) hk
  ·intro _;rfl
def pU(e:fL):List (Nat×Nat):=e.2.2.filterMap id
def used(R:bW):List (Nat×Nat):=R.flatMap pU
def gB(l:List (Nat×Nat)):List (Nat×Nat):=l.foldl (λacc x=>if x∈acc then acc else acc++[x]) []
theorem O7(l:List (Nat×Nat))(x:Nat×Nat):gB (l++[x])=if x∈gB l then gB l else gB l++[x]:=by unfold gB;rw[List.foldl_append];rfl
theorem kt:∀(l:List (Nat×Nat))(x:Nat×Nat),x∈gB l↔x∈l:=by
 intro l;have key:∀n(l:List (Nat×Nat)),l.length=n->∀x,x∈gB l↔x∈l:=by
  intro n
  induction n with
  |zero=>intro l an x;obtain rfl:=q9 an;exact nh
  |succ n cq=>
   intro l an x;obtain⟨oc,y,rfl⟩:∃oc y,l=oc++[y]:=⟨l.dropLast,l.getLast (by intro h;subst h;simp at an),(List.dropLast_concat_getLast _).symm⟩;have qV:oc.length=n:=by simpa using an
   rw[O7];split
   ·rename_i h;rw[cq oc qV x,iI,lp];constructor
    ·exact Or.inl
    ·rintro(h1|rfl)
     ·exact h1
     ·exact(cq oc qV _).1 h
   ·rw[iI,iI,cq oc qV x]
 exact key l.length l rfl
theorem xR:∀l:List (Nat×Nat),(gB l).Nodup:=by
 intro l;have key:∀n(l:List (Nat×Nat)),l.length=n->(gB l).Nodup:=by
  intro n
  induction n with
  |zero=>intro l an;obtain rfl:=q9 an;exact List.nodup_nil
  |succ n cq=>
   intro l an;obtain⟨oc,y,rfl⟩:∃oc y,l=oc++[y]:=⟨l.dropLast,l.getLast (by intro h;subst h;simp at an),(List.dropLast_concat_getLast _).symm⟩;have qV:oc.length=n:=by simpa using an
   rw[O7];split
   ·exact cq oc qV
   ·rename_i h;refine List.nodup_append.2 ⟨cq oc qV,by simp,λa aP b ω=>?_⟩;rw[lp]at ω;subst ω;intro η;subst η;exact h aP
 exact key l.length l rfl
def gS(x:Nat×Nat):Prop:=x.1<24/\x.2<16
theorem W3{e:fL}(h:∀q∈e.2.2,ki q):∀x∈pU e,gS x:=λx I=>by
 obtain⟨q,ay,aM⟩:=u3.1 I;cases q with
 |none=>cases aM
 |some y=>cases aM;exact h _ ay
structure vw(w:World)(B b n:Nat)(cx:List (Nat×Nat)):Prop where
 low:B<=b
 at_:∃es:Array MapEntry,w.heap[b]?=some (.map es es.size)/\es.toList.map (·.key)=cx.map (λx=>dT (some x))/\
  (∀(i:Nat)(e:MapEntry),es.toList[i]?=some e->e.born=i/\∃p m c xs,e.val=.slice p m c/\μ w B hP 2 p m c xs/\m<=n)/\
  (∀(i j:Nat)(e c6:MapEntry),es.toList[i]?=some e->es.toList[j]?=some c6->i≠j->∀a m c fz m' aT,e.val=.slice (some a) m c->c6.val=.slice (some fz) m' aT->a.block≠fz.block)
theorem vw.aC{w w':World}{B b n:Nat}{cx:List (Nat×Nat)}(h:vw w B b n cx){S:a1}(k:Kp w w' S)(ed:∀i,B<=i->i<w.heap.size->¬S i):vw w' B b n cx:=by obtain⟨h1,es,η,au,bV,c9⟩:=h;have ω:b<w.heap.size:=(Array.getElem?_eq_some_iff.1 η).1;refine⟨h1,es,by rw[k.block b ω (ed b h1 ω)];exact η,au,λi e he=>?_,c9⟩;obtain⟨g1,p,m,c,xs,g2,g3,g4⟩:=bV i e he;exact⟨g1,p,m,c,xs,g2,g3.aC k λa aP=>ed _ (g3.ge aP).1 (g3.ge aP).2,g4⟩
theorem Ch{x y:Nat×Nat}(I:gS x)(ag:gS y)(h:x≠y):(ey .eql (eI (some x)) (eI (some y))&&ey .eql (eQ (some x)) (eQ (some y)))=false:=by rw[VS (q:=some x) (r:=some y) I ag];exact iJ λe=>h (Cz e)
theorem U2{x:Nat×Nat}(I:gS x):(ey .eql (eI (some x)) (eI (some x))&&ey .eql (eQ (some x)) (eQ (some x)))=true:=by rw[VS (q:=some x) (r:=some x) I I];exact bC rfl
theorem VJ:Jc prog zG (.slice none 0 0):=by
 unfold Jc
 kernel_rfl
theorem NT{es:Array MapEntry}(h:∀(i:Nat)(e:MapEntry),es.toList[i]?=some e->e.born=i){i:Nat}(o:i<es.size):es.findIdx? (λe=>(e.born:Int)==(i:Int))=some i:=by
 rw[Array.findIdx?_eq_some_iff_getElem];refine⟨o,?_,λj χ=>?_⟩
 ·have:=h i es[i] (by rw[Array.getElem?_toList];exact Array.getElem?_eq_getElem o)
  rw[this];simp
 ·have:=h j es[j] (by rw[Array.getElem?_toList];exact Array.getElem?_eq_getElem (by omega))
  rw[this];simp;omega
set_option maxRecDepth 8000 in
theorem vw.step{w:World}{B b n:Nat}{cx:List (Nat×Nat)}(h:vw w B b n cx)(ar:n<=100000)(dR:B<=w.heap.size){x:Nat×Nat}(I:gS x)(oS:∀y∈cx,gS y)(t4 t17:Int){N:ai}
  (K:∀ba,Kp w ba (λi=>B<=i)->vw ba B b (n+1) (if x∈cx then cx else cx++[x])->N ba):
  aR w #[(Value.int .i64 t4),(Value.int .i64 t17)] hP λaH aa=>
      ξ (some b) λaf=>
      O0 prog aa af (eI (some x)) (eQ (some x)) zG (.slice none 0 0) λv2 st1 ax=>
      df v2 λaX br c2=>
      gD ax aX br c2 1 (a8 ax (some ⟨aH,0,none⟩)) hP 2 16 #[(Value.int .i64 0),(Value.int .i64 0)] λbl bJ aG=>
      ξ (some b) λdC=>
      O1 aG dC st1 (Value.slice bl (br+1) bJ) λba=>N ba:=by
 rintro aH aa rfl rfl;have bu:=μ.new (w:=w) [.int .i64 t4,.int .i64 t17] hP;have ab:=θ.alloc w (.cells [Value.int .i64 t4,.int .i64 t17].toArray hP);have jc:w.heap.size<=w.heap.size:=eF _;have gw:w.alloc (.cells #[.int .i64 t4,.int .i64 t17] hP)=w.alloc (.cells [Value.int .i64 t4,.int .i64 t17].toArray hP):=rfl;rw[gw];generalize anr:w.heap.size=aH at bu jc⊢;generalize w.alloc (.cells [Value.int .i64 t4,.int .i64 t17].toArray hP)=aa at bu ab⊢;have au:=h.aC ab λ_ _ _ h=>h;obtain⟨ny,es,py,xF,iO,Al⟩:=au;have Kd:b<aa.heap.size:=(Array.getElem?_eq_some_iff.1 py).1;have hlen:es.size=cx.length:=by
  have:=gN List.length xF
  simpa using this
 try dsimp only[bj]
 refine⟨VJ,es,es.size,py,?_⟩;have xE:∀(i:Nat)(y:Nat×Nat),cx[i]?=some y->∃e,es.toList[i]?=some e/\e.key=dT (some y):=by
  intro i y ag;have h1:i<cx.length:=(List.getElem?_eq_some_iff.1 ag).1;have η:i<es.toList.length:=by rw[k0];omega
  refine⟨es.toList[i],List.getElem?_eq_getElem η,?_⟩
  have:=gN (λl=>l[i]?) xF
  rw[List.getElem?_map,List.getElem?_map,ag,List.getElem?_eq_getElem η]at this;simpa using this
 have Kk:∀(i:Nat)(e:MapEntry),es.toList[i]?=some e->∃y,cx[i]?=some y/\e.key=dT (some y):=by
  intro i e he;have η:i<es.toList.length:=(List.getElem?_eq_some_iff.1 he).1;have h1:i<cx.length:=by rw[k0]at η;omega
  refine⟨cx[i],List.getElem?_eq_getElem h1,?_⟩
  have:=gN (λl=>l[i]?) xF
  rw[List.getElem?_map,List.getElem?_map,he,List.getElem?_eq_getElem h1]at this;simpa using this
 have th:μ aa B hP 2 (some ⟨aH,0,none⟩) 1 1 [.int .i64 t4,.int .i64 t17]:=bu.lower (by omega);have Tw:aH<aa.heap.size:=(bu.ge rfl).2;by_cases jy:x∈cx
 ·
  right;obtain⟨i,o⟩:=List.getElem?_of_mem jy;have TQ:∃i,cx[i]?=some x/\∀y∈cx.take i,y≠x:=by
   clear o
   have:∀l:List (Nat×Nat),x∈l->∃i,l[i]?=some x/\∀y∈l.take i,y≠x:=by
    intro l
    induction l with
    |nil=>intro h;cases h
    |cons a l cq=>
     intro h;by_cases Em:a=x
     ·exact⟨0,by simp[Em],λy ag=>by simp at ag⟩
     ·obtain⟨i,h1,η⟩:=cq (by rcases fE.1 h with h|h;exact absurd h.symm Em;exact h);refine⟨i+1,by simpa using h1,λy ag=>?_⟩;rw[List.take_succ_cons]at ag;rcases fE.1 ag with h|h
      ·rw[h];exact Em
      ·exact η y h
   exact this cx jy
  obtain⟨i,o,Tx⟩:=TQ;obtain⟨e,he,TO⟩:=xE i x o;refine⟨i,e,he,TO,U2 I,λc6 dO=>?_,?_⟩
  ·obtain⟨j,χ⟩:=List.getElem?_of_mem dO;have hJ:j<i:=by
    have:=(List.getElem?_eq_some_iff.1 χ).1
    rw[gY]at this;omega
   rw[List.getElem?_take_of_lt hJ]at χ;obtain⟨y,ag,ES⟩:=Kk j c6 χ;have UL:y∈cx.take i:=by refine eS (i:=j) ?_;rw[List.getElem?_take_of_lt hJ];exact ag
   exact⟨eI (some y),eQ (some y),ES,Ch I (oS y (eS ag)) λh=>Tx y UL h.symm⟩
  ·obtain⟨p9,p,m,c,xs,aL,aE,hm⟩:=iO i e he;rw[aL]
   try dsimp only[er]
   refine By (B:=B) aE (by have:=ab.size;omega) [.int .i64 t4,.int .i64 t17] bu.cells rfl nm rfl (by omega) (by omega) ?_;intro bl bJ aG cz ea na;have lf:aG.heap[b]?=some (.map es es.size):=by
    rw[ea.block b Kd λ⟨a,aP,s0⟩=>?_]
    ·exact py
    ·obtain⟨cur,fr,aO⟩:=(aE.typed aP).1;rw[s0,py]at aO;cases aO
   have T1:i<es.size:=by have:=(List.getElem?_eq_some_iff.1 he).1;rwa[k0]at this
   refine⟨es,es.size,i,lf,by rw[p9];exact NT (λi e he=>(iO i e he).1) T1,λba Av=>?_⟩;subst Av;have ob:=Kp.putObj aG b (.map (es.modify i λe=>{e with val:=Value.slice bl (m+1) bJ}) es.size);have Eo:b<aG.heap.size:=(Array.getElem?_eq_some_iff.1 lf).1;have n3:Kp w (aG.putObj b (.map (es.modify i λe=>{e with val:=Value.slice bl (m+1) bJ}) es.size)) (λi=>B<=i):=by
    refine Kp.trans (ab.aC λi=>B<=i) (Kp.trans ea ob (U:=λi=>B<=i) (λi _⟨a,aP,o⟩=>?_) λi _ o=>?_) (λ_ _ h=>h) λ_ _ h=>h
    ·have:=(aE.ge aP).1;omega
    ·rw[o];exact ny
   refine K _ n3 ?_;rw[aY jy];have ne:∀{q:J}{m' aT:Nat}{ys:aU},μ aG B hP 2 q m' aT ys->μ (aG.putObj b (.map (es.modify i λe=>{e with val:=Value.slice bl (m+1) bJ}) es.size)) B hP 2 q m' aT ys:=λγ=>γ.aC ob λa aP o=>by obtain⟨cur,fr,aO⟩:=(γ.typed aP).1;rw[o,lf]at aO;cases aO
   have Uk:∀(j:Nat)(c6:MapEntry),es.toList[j]?=some c6->j≠i->∀{q:J}{m' aT:Nat}{ys:aU},c6.val=.slice q m' aT->μ aa B hP 2 q m' aT ys->μ aG B hP 2 q m' aT ys:=λj c6 dO hJ q m' aT ys n9 γ=>γ.aC ea λa aP⟨fz,Hk,jj⟩=>by subst aP;subst Hk;exact Al j i c6 e dO he hJ a m' aT fz m c n9 aL jj.symm
   have l2:∀(j:Nat)(hl:MapEntry),(es.modify i λe=>{e with val:=Value.slice bl (m+1) bJ}).toList[j]?=some hl->(j=i/\hl={e with val:=Value.slice bl (m+1) bJ})\/(j≠i/\es.toList[j]?=some hl):=λj hl gA=>by
    rw[AW,List.getElem?_modify]at gA;by_cases hJ:i=j
    ·subst hJ;rw[he]at gA;left;simp at gA;exact⟨rfl,gA.symm⟩
    ·right;refine⟨λh=>hJ h.symm,?_⟩;simpa[hJ]using gA
   refine⟨ny,es.modify i λe=>{e with val:=Value.slice bl (m+1) bJ},?_,?_,?_,?_⟩
   ·rw[World.putObj_heap_same Eo,PH]
   ·rw[<-xF];apply qp;intro j;rw[List.getElem?_map,List.getElem?_map,AW,List.getElem?_modify];cases es.toList[j]?with
    |none=>rfl
    |some c6=>simp only[jd];split<;>rfl
   ·intro j hl gA;rcases l2 j hl gA with⟨rfl,rfl⟩|⟨hJ,dO⟩
    ·exact⟨p9,bl,m+1,bJ,_,rfl,ne cz,by omega⟩
    ·obtain⟨g1,q,m',aT,ys,g2,g3,g4⟩:=iO j hl dO;exact⟨g1,q,m',aT,ys,g2,ne (Uk j hl dO hJ g2 g3),by omega⟩
   ·intro rV oX aM bz yT qc cc aq m1 c1 a2 m2 c2 mH mI;have sX:∀(j:Nat)(c6:MapEntry),es.toList[j]?=some c6->j≠i->∀fz m' aT a3,c6.val=.slice (some fz) m' aT->bl=some a3->a3.block≠fz.block:=λj c6 dO hJ fz m' aT a3 n9 hp=>by
     rcases na with rfl|rO
     ·exact Al i j e c6 he dO (λh=>hJ h.symm) a3 m c fz m' aT (by rw[aL,hp]) n9
     ·have h1:=rO a3 hp;obtain⟨_,q,Vd,R2,ys,g2,g3,_⟩:=iO j c6 dO;rw[n9]at g2;cases g2
      have:=(g3.ge rfl).2
      omega
    rcases l2 rV aM yT with⟨rfl,rfl⟩|⟨h1,g1⟩
    ·rcases l2 oX bz qc with⟨rfl,rfl⟩|⟨η,g2⟩
     ·exact absurd rfl cc
     ·have mH:Value.slice bl (m+1) bJ=Value.slice (some aq) m1 c1:=mH;cases mH;exact sX oX bz g2 η a2 m2 c2 aq mI rfl
    ·rcases l2 oX bz qc with⟨rfl,rfl⟩|⟨η,g2⟩
     ·have mI:Value.slice bl (m+1) bJ=Value.slice (some a2) m2 c2:=mI;cases mI
      exactλh=>sX rV aM g1 h1 aq m1 c1 a2 mH rfl h.symm
     ·exact Al rV oX aM bz g1 g2 cc aq m1 c1 a2 m2 c2 mH mI
 ·
  left;refine⟨λe he=>?_,λax s7=>?_⟩
  ·obtain⟨j,χ⟩:=List.getElem?_of_mem he;obtain⟨y,ag,ES⟩:=Kk j e χ;exact⟨eI (some y),eQ (some y),ES,Ch I (oS y (eS ag)) λh=>jy (h▸eS ag)⟩
  have ob:=Kp.putObj aa b (.map (es.push ⟨.complex .f64 (eI (some x)) (eQ (some x)),.slice none 0 0,es.size⟩) (es.size+1));have mC:ax.heap[b]?=some (.map (es.push ⟨.complex .f64 (eI (some x)) (eQ (some x)),.slice none 0 0,es.size⟩) (es.size+1)):=by rw[s7];exact World.putObj_heap_same Kd
  rw[<-s7]at ob;have t3:∀{q:J}{m' aT:Nat}{ys:aU},μ aa B hP 2 q m' aT ys->μ ax B hP 2 q m' aT ys:=λγ=>γ.aC ob λa aP o=>by obtain⟨cur,fr,aO⟩:=(γ.typed aP).1;rw[o,py]at aO;cases aO
  try dsimp only[er]
  refine By (B:=B) (μ.nil ax B hP 2) (by have:=ab.size;have:=ob.size;omega) [.int .i64 t4,.int .i64 t17] (t3 th).cells rfl nm rfl (by omega) (by omega) ?_;intro bl bJ aG cz ea na;have al:θ ax aG:=ea.mono λi _⟨y,e,_⟩=>by cases e
  have rO:∀a,bl=some a->ax.heap.size<=a.block:=λa aP=>by
   rcases na with rfl|h
   ·cases aP
   ·exact h a aP
  have lf:aG.heap[b]?=some (.map (es.push ⟨.complex .f64 (eI (some x)) (eQ (some x)),.slice none 0 0,es.size⟩) (es.size+1)):=by rw[al.block b (Array.getElem?_eq_some_iff.1 mC).1 id];exact mC
  generalize EF:es.push ⟨.complex .f64 (eI (some x)) (eQ (some x)),.slice none 0 0,es.size⟩=lI at mC lf⊢;have fj:lI.size=es.size+1:=by rw[<-EF,Array.size_push]
  have mZ:∀(j:Nat)(hl:MapEntry),lI.toList[j]?=some hl->(j=es.size/\hl=⟨.complex .f64 (eI (some x)) (eQ (some x)),.slice none 0 0,es.size⟩)\/(j<es.size/\es.toList[j]?=some hl):=λj hl gA=>by
   rw[<-EF,PI]at gA;by_cases χ:j<es.size
   ·right;rw[List.getElem?_append_left (by rw[k0];exact χ)]at gA;exact⟨χ,gA⟩
   ·left;rw[List.getElem?_append_right (by rw[k0];omega),k0]at gA;have EA:j-es.size=0:=by
     cases ay:j-es.size with
     |zero=>rfl
     |succ n=>rw[ay]at gA;simp at gA
    rw[EA]at gA;exact⟨by omega,by simpa using gA.symm⟩
  have p9:∀(i:Nat)(e:MapEntry),lI.toList[i]?=some e->e.born=i:=λi e he=>by
   rcases mZ i e he with⟨rfl,rfl⟩|⟨_,h⟩
   ·rfl
   ·exact(iO i e h).1
  refine⟨lI,es.size+1,es.size,lf,NT p9 (by omega),λba Av=>?_⟩;have AE:=Kp.putObj aG b (.map (lI.modify es.size λe=>{e with val:=Value.slice bl (0+1) bJ}) (es.size+1));rw[<-Av]at AE;have Eo:b<aG.heap.size:=(Array.getElem?_eq_some_iff.1 lf).1;have t5:∀{q:J}{m' aT:Nat}{ys:aU},μ aG B hP 2 q m' aT ys->μ ba B hP 2 q m' aT ys:=λγ=>γ.aC AE λa aP o=>by obtain⟨cur,fr,aO⟩:=(γ.typed aP).1;rw[o,lf]at aO;cases aO
  have n3:Kp w ba (λi=>B<=i):=by
   refine Kp.trans (ab.aC λi=>B<=i) (Kp.trans ob (Kp.trans al AE (U:=λi=>B<=i) (λ_ _ h=>h.elim) λi _ o=>?_) (U:=λi=>B<=i) (λi _ o=>?_) λ_ _ h=>h) (λ_ _ h=>h) λ_ _ h=>h
   ·rw[o];exact ny
   ·rw[o];exact ny
  refine K _ n3 ?_;rw[aN jy];have l2:∀(j:Nat)(hl:MapEntry),(lI.modify es.size λe=>{e with val:=Value.slice bl (0+1) bJ}).toList[j]?=some hl->(j=es.size/\hl=⟨.complex .f64 (eI (some x)) (eQ (some x)),Value.slice bl (0+1) bJ,es.size⟩)\/(j<es.size/\es.toList[j]?=some hl):=λj hl gA=>by
   rw[AW,List.getElem?_modify]at gA;by_cases hJ:es.size=j
   ·subst hJ;left;cases ay:lI.toList[es.size]?with
    |none=>rw[ay]at gA;simp at gA
    |some hI=>
     rcases mZ _ hI ay with⟨_,rfl⟩|⟨h,_⟩
     ·rw[ay]at gA;simp at gA;exact⟨rfl,gA.symm⟩
     ·omega
   ·have TN:lI.toList[j]?=some hl:=by simpa[hJ]using gA
    rcases mZ _ hl TN with⟨h,_⟩|h
    ·omega
    ·exact .inr h
  refine⟨ny,lI.modify es.size λe=>{e with val:=Value.slice bl (0+1) bJ},?_,?_,?_,?_⟩
  ·rw[Av,World.putObj_heap_same Eo,PH,fj]
  ·rw[qt,<-xF];have aM:(lI.modify es.size λe=>{e with val:=Value.slice bl (0+1) bJ}).toList.map (·.key)=lI.toList.map (·.key):=by
    apply qp;intro j;rw[List.getElem?_map,List.getElem?_map,AW,List.getElem?_modify];cases lI.toList[j]?with
    |none=>rfl
    |some c6=>simp only[jd];split<;>rfl
   rw[aM,<-EF,PI,qt];rfl
  ·intro j hl gA;rcases l2 j hl gA with⟨rfl,rfl⟩|⟨χ,dO⟩
   ·exact⟨rfl,bl,0+1,bJ,_,rfl,t5 cz,by omega⟩
   ·obtain⟨g1,q,m',aT,ys,g2,g3,g4⟩:=iO j hl dO;exact⟨g1,q,m',aT,ys,g2,t5 ((t3 g3).ex al),by omega⟩
  ·intro rV oX aM bz yT qc cc aq m1 c1 a2 m2 c2 mH mI;have sX:∀(j:Nat)(c6:MapEntry),es.toList[j]?=some c6->∀fz m' aT a3,c6.val=.slice (some fz) m' aT->bl=some a3->a3.block≠fz.block:=λj c6 dO fz m' aT a3 n9 hp=>by
    have h1:=rO a3 hp;obtain⟨_,q,Vd,R2,ys,g2,g3,_⟩:=iO j c6 dO;rw[n9]at g2;cases g2
    have:=(g3.ge rfl).2
    have:=ob.size
    omega
   rcases l2 rV aM yT with⟨rfl,rfl⟩|⟨h1,g1⟩
   ·rcases l2 oX bz qc with⟨rfl,rfl⟩|⟨η,g2⟩
    ·exact absurd rfl cc
    ·have mH:Value.slice bl (0+1) bJ=Value.slice (some aq) m1 c1:=mH;cases mH;exact sX oX bz g2 a2 m2 c2 aq mI rfl
   ·rcases l2 oX bz qc with⟨rfl,rfl⟩|⟨η,g2⟩
    ·have mI:Value.slice bl (0+1) bJ=Value.slice (some a2) m2 c2:=mI;cases mI
     exactλh=>sX rV aM g1 aq m1 c1 a2 mH rfl h.symm
    ·exact Al rV oX aM bz g1 g2 cc aq m1 c1 a2 m2 c2 mH mI
end Go.Proofs.YtcpdfhkhaekekaaGreat.G
namespace Go.Proofs.YtcpdfhkhaekekaaGreat.G
open Go.bI Go.RowKit
theorem vw.mono{w:World}{B b n fk:Nat}{cx:List (Nat×Nat)}(h:vw w B b n cx)(ar:n<=fk):vw w B b fk cx:=by obtain⟨h1,es,η,au,bV,c9⟩:=h;refine⟨h1,es,η,au,λi e he=>?_,c9⟩;obtain⟨g1,p,m,c,xs,g2,g3,g4⟩:=bV i e he;exact⟨g1,p,m,c,xs,g2,g3,by omega⟩
theorem afG{R:bW}{k:Nat}{e:fL}(he:R[k]?=some e):(R.take (k+1)).flatMap pU=(R.take k).flatMap pU++pU e:=by obtain⟨hk,rfl⟩:=List.getElem?_eq_some_iff.1 he;rw[lq hk,wG];simp
theorem Qy{l:List eg}{j:Nat}(χ:j<l.length):(l.take (j+1)).filterMap id=(l.take j).filterMap id++[l[j]].filterMap id:=by rw[lq χ,List.filterMap_append]
theorem rj{R:bW}(h:∀e∈R,lN e):∀x∈used R,gS x:=λx I=>by obtain⟨e,he,h1⟩:=pc.1 I;exact W3 (h e he).1 x h1
theorem adF{R:bW}(h:∀e∈R,lN e){k:Nat}{e:fL}(he:R[k]?=some e)(j:Nat):∀x∈(R.take k).flatMap pU++(e.2.2.take j).filterMap id,gS x:=λx I=>by
 rcases iI.1 I with I|I
 ·obtain⟨e,he,h1⟩:=pc.1 I;exact W3 (h e (wD he)).1 x h1
 ·obtain⟨q,ay,h1⟩:=u3.1 I;exact W3 (h e (eS he)).1 x (u3.2 ⟨q,wD ay,h1⟩)
theorem akb{w:World}{R:bW}{ps:aU}(h:ie w R ps):
  kG.C (bN R ps).toArray w (φ λv w'=>(∃(b:Nat)(es:Array MapEntry),v=.map (some b)/\w'.heap[b]?=some (.map es es.size)/\es.size=(gB (used R)).length)/\θ w w'):=by
 apply kG.ok;unfold kG.main;have lL:=h.row;rintro ε δ rfl rfl ι υ rfl rfl;have ρ:=μ.new (w:=w) (bN R ps) bX;have ζ:=θ.alloc w (.cells (bN R ps).toArray bX);generalize w.heap.size=ε at ρ⊢;generalize w.alloc (.cells (bN R ps).toArray bX)=δ at ρ ζ⊢;have τ:=θ.alloc δ (.map #[] 0);have hm:=Ev δ (.map #[] 0);have dR:δ.heap.size<=(δ.alloc (.map #[] 0)).heap.size:=τ.size;have UG:=ζ.size;generalize amN:δ.heap.size=B at hm dR UG⊢;have m0:vw (δ.alloc (.map #[] 0)) B B 0 []:=⟨eF _,#[],hm,rfl,λi e he=>by simp at he,λi j e c6 he=>by simp at he⟩;generalize δ.alloc (.map #[] 0)=υ at τ dR m0⊢;have h:=h.ex (ζ.trans τ);have ρ:=ρ.ex τ;have ae:aw υ (⟨ε,16,none⟩:Addr) ps:=by
  have:=aw.drop ρ.cells 16
  rwa[Addr.add_lit,mN,h.drop]at this
 refine⟨ps.toArray,by rw[fp];exact h.dE,ae,?_⟩;unfold kG.bd;refine⟨λt3 t10 t11 w'=>t3=some B/\ps.toArray=t10/\0<=t11/\t11<=8/\vw w' B B (t11.toNat*1000) (gB ((R.take t11.toNat).flatMap pU))/\Kp υ w' λi=>B<=i,λt3 t10 t11 w'=>(8-t11).toNat,⟨rfl,rfl,by omega,by omega,m0,Kp.refl _ _⟩,?_⟩;rintro _ _ t11 w' ⟨rfl,rfl,aF,dr,l1,I⟩;unfold kG.ε;obtain⟨k,rfl⟩:=eR aF;rw[cP]at l1;have fin:∀{w':World},Kp υ w' (λi=>B<=i)->θ w w':=λI=>(ζ.trans τ).then I λi ω=>by omega
 refine bA (λbQ=>?_) λbQ=>?_
 ·have bQ:=cd bQ;have hk:k<8:=by omega
  obtain⟨e,he⟩:=h.get hk;obtain⟨p,c,hp,Es⟩:=lL k e he;have kW:=(Es.ex ζ).ex τ;obtain⟨dq,an,_,_⟩:=h.ok e (eS he);refine bO (bC aF) (bO (bC bQ) ?_);rw[cP,eG];have gw:ps.toArray[k]?=some (.slice p e.2.2.length c):=by rw[List.getElem?_toArray];exact hp
  rw[gw]
  try dsimp only[bj,er]
  unfold kG.fm;refine⟨λt3 t4 t10 t11 sm sl vc t16 t17 w'=>t3=some B/\ps.toArray=t10/\(k:Int)=t11/\p=sm/\e.2.2.length=sl/\c=vc/\(e.2.2.length:Int)=t16/\0<=t17/\t17<=e.2.2.length/\vw w' B B (k*1000+t17.toNat) (gB ((R.take k).flatMap pU++(e.2.2.take t17.toNat).filterMap id))/\Kp υ w' λi=>B<=i,
   λt3 t4 t10 t11 sm sl vc t16 t17 w'=>(e.2.2.length-t17).toNat,⟨rfl,rfl,rfl,rfl,rfl,rfl,rfl,by omega,by omega,?_,I⟩,?_⟩
  ·have:(R.take k).flatMap pU++(e.2.2.take (0:Int).toNat).filterMap id=(R.take k).flatMap pU:=by simp
   rw[this];exact l1.mono (Nat.le_add_right _ _)
  clear l1 I;rintro _ t4 _ _ _ _ _ _ t17 w' ⟨rfl,rfl,rfl,rfl,rfl,rfl,rfl,i0,i1,l1,I⟩;unfold kG.ι;obtain⟨j,rfl⟩:=eR i0;rw[cP]at l1;have Ej:B<=w'.heap.size:=by have:=I.size;omega
  refine bA (λπ=>?_) λπ=>?_
  ·have π:=cd π;have χ:j<e.2.2.length:=by omega
   have yP:a8 w' p (e.2.2.map dT):=by
    have:=kW.aC I (λa aP ω=>by subst aP;have h1:=Nl (Es.cell (j:=j) (by rw[jP];exact χ));rw[yv]at h1;omega)
    exact this
   obtain⟨a,rfl,r⟩:=Fs yP χ;have ay:=dq _ (hN χ);refine bO (bC i0) (bO (bC π) ?_)
   try dsimp only[bj]
   rw[cP,eG];refine⟨_,_,r,?_⟩;rw[empty_eq ay];have lh:IntKind.i64.wrap ((j:Int)+1)=((j+1:Nat):Int):=by rw[b3 (by omega) (by omega)];rfl
   have ks:((j+1:Nat):Int).toNat=j+1:=rfl;cases rS:e.2.2[j]with
   |none=>
    rw[cond_neg (by rfl),lh];refine⟨⟨rfl,rfl,rfl,rfl,rfl,rfl,rfl,by omega,by omega,?_,I⟩,by((try dsimp only);omega)⟩;rw[ks,Qy χ,rS]
    have:[(none:eg)].filterMap id=[]:=rfl
    rw[this,pI];exact l1.mono (by omega)
   |some x=>
    rw[rS]at ay;rw[cond_pos (by rfl)];refine l1.step (by omega) Ej ay (λy ag=>adF h.ok he j y ((kt _ _).1 ag)) t4 j λba dP m6=>?_;rw[lh];refine⟨⟨rfl,rfl,rfl,rfl,rfl,rfl,rfl,by omega,by omega,?_,I.gr dP⟩,by((try dsimp only);omega)⟩;rw[ks,Qy χ,rS]
    have:[(some x:eg)].filterMap id=[x]:=rfl
    rw[this,<-mc,O7];exact m6.mono (by omega)
  ·have π:=dh π;have χ:j=e.2.2.length:=by omega
   rw[GL hk];refine⟨⟨rfl,rfl,by omega,by omega,?_,I⟩,by((try dsimp only);omega)⟩;have ks:((k+1:Nat):Int).toNat=k+1:=rfl;rw[ks,afG he];rw[χ,AV]at l1;exact l1.mono (by omega)
 ·have bQ:=dh bQ;obtain rfl:k=8:=by omega
  obtain⟨_,es,η,au,_,_⟩:=l1;refine φ.mk ⟨⟨B,es,rfl,η,?_⟩,fin I⟩
  have:=gN List.length au
  rw[jP,jP,hr (by rw[h.len];omega)]at this;simpa[used]using this
def dE(U:List (Nat×Nat)):aU:=U.map λx=>dT (some x)
theorem arZ(U:List (Nat×Nat)):∀z∈dE U,z.oneCell'=true:=by intro z aI;obtain⟨q,_,rfl⟩:=gM.1 aI;rfl
theorem adL(U V:List (Nat×Nat)):dE U++dE V=dE (U++V):=by simp[dE]
theorem zg(U:List (Nat×Nat)):(dE U).length=U.length:=by simp[dE]
open Go.bI Go.RowKit
theorem rZ{α:Type}:∀(l m:List α),l.Nodup->(∀x∈l,x∈m)->l.length<=m.length
 |[],m,_,_=>da _
 |a::l,m,ar,ψ=>by
  obtain⟨s,t,rfl⟩:=List.append_of_mem (ψ a (om ..));have EC:=LK.1 ar
  have:=rZ l (s++t) EC.2 λx I=>by
   have h1:=ψ x (h9 _ I);have cc:x≠a:=λh=>EC.1 (h▸I);rcases iI.1 h1 with h|h
   ·exact iI.2 (.inl h)
   ·rcases fE.1 h with h|h
    ·exact absurd h cc
    ·exact iI.2 (.inr h)
  simp only[e9,List.length_cons]at this⊢;omega
theorem VE{s k:Int}{R:bW}:(∀e∈R,e.2.2.any (tj s k)=false)↔∀x∈used R,HM s k (some x)=true:=by
 constructor
 ·intro h x I;obtain⟨e,he,I⟩:=pc.1 I;obtain⟨q,ay,aM⟩:=u3.1 I
  have:=Ik.1 (h e he) q ay
  cases q with
  |none=>cases aM
  |some y=>
   cases aM;simpa[tj]using this
 ·intro h e he;refine Ik.2 λq ay=>?_;cases q with
  |none=>simp[tj]
  |some y=>
   have:=h y (pc.2 ⟨e,he,u3.2 ⟨_,ay,rfl⟩⟩)
   simp[tj,this]
def lV(s k:Int)(R:bW):Prop:=Db s k R/\((gB (used R)).length:Int)<=(s-4)*k
theorem XP{w:World}{R:bW}{ps:aU}(h:ie w R ps)(s m:Int):
  Fm.C (bN R ps).toArray s m w (φ λv w'=>(∃e,v=.int .i64 e/\(e=0↔lV s m R))/\θ w w'):=by
 apply Fm.ok;unfold Fm.main;rintro ε δ rfl rfl ι υ rfl rfl;have ρ:=μ.new (w:=w) (bN R ps) bX;have ζ:=θ.alloc w (.cells (bN R ps).toArray bX);generalize w.heap.size=ε at ρ⊢;generalize w.alloc (.cells (bN R ps).toArray bX)=δ at ρ ζ⊢;have az:=μ.new (w:=δ) (two s m) b5;have τ:=θ.alloc δ (.cells (two s m).toArray b5);have bz:δ.alloc (.cells #[.int .i64 s,.int .i64 m] b5)=δ.alloc (.cells (two s m).toArray b5):=rfl;rw[bz];generalize δ.heap.size=ι at az⊢;generalize δ.alloc (.cells (two s m).toArray b5)=υ at az τ⊢;have ρ:=ρ.ex τ;have iz:=ζ.trans τ;have h:=h.ex iz;refine⟨(bN R ps).toArray,by rw[fp];exact h.dX,ρ.cells,(two s m).toArray,rfl,az.cells,?_⟩;refine κ.use (RI h s m) ?_;rintro _ aa ⟨⟨e,rfl,he⟩,ab⟩
 try dsimp only[bH]
 refine bA (λπ=>?_) λπ=>?_
 ·have π:¬e=0:=by simpa using π
  exact φ.mk ⟨⟨e,rfl,λh=>absurd h π,λh=>he.2 h.1⟩,iz.trans ab⟩
 have π:e=0:=by simpa using π
 have jX:=he.1 π;have eo:=uQ.1 jX.1;refine⟨(two s m).toArray,rfl,(az.ex ab).cells,?_⟩;refine κ.use (Q8 s m eo aa) ?_;rintro _ aG ⟨rfl,al⟩
 try dsimp only[bZ,cC,cD,bj,bH]
 have I9:=ab.trans al;have h:=h.ex I9;refine⟨(bN R ps).toArray,by rw[fp];exact h.dX,(ρ.ex I9).cells,?_⟩;refine κ.use (akb h) ?_;rintro _ bk ⟨⟨b,es,rfl,ω,py⟩,aV⟩
 try dsimp only[NG]
 refine⟨_,_,ω,?_⟩;dsimp only;have fin:=iz.trans (I9.trans aV);rw[py];refine bA (λπ=>?_) λπ=>?_
 ·have π:=cd π;refine φ.mk ⟨⟨9,rfl,⟨λh=>(by cases h),λh=>(by have:=h.2;omega)⟩⟩,fin⟩
 ·have π:=dh π;exact φ.mk ⟨⟨0,rfl,λ_=>⟨jX,by omega⟩,λ_=>rfl⟩,fin⟩
end Go.Proofs.YtcpdfhkhaekekaaGreat.G
namespace Go.Proofs.YtcpdfhkhaekekaaGreat.G
open Tryz
open Go.bI Go.RowKit
def AJ(k:Int):eg->Int
 |none=>0
 |some x=>x.1*k+x.2+1
def Cm(k:Int)(q:eg):ao:=bt.be 2 (AJ k q)
def jA(k:Int)(l:List eg):ao:=l.flatMap (Cm k)
def xY(k:Int)(e:fL):ao:=[e.1,e.2.1]++jA k e.2.2
def e4(k:Int)(R:bW):ao:=R.flatMap (xY k)
theorem H9(k:Int):∀l:List eg,(jA k l).length=2*l.length
 |[]=>rfl
 |q::l=>by
  have:=H9 k l
  unfold jA at this⊢;rw[zl,e9,this];unfold Cm;rw[bt.sI,List.length_cons];omega
theorem VN(k:Int)(e:fL):(xY k e).length=2+2*e.2.2.length:=by unfold xY;rw[e9,H9];rfl
theorem arX(k:Int)(l:List eg):Bytes (jA k l):=λx I=>by obtain⟨q,_,h⟩:=pc.1 I;exact bt.BG _ _ x h
theorem arI{k:Int}{e:fL}(h:lN e):Bytes (xY k e):=λx I=>by
 unfold xY at I;rcases iI.1 I with I|I
 ·simp only[fE,oj,pa]at I;rcases I with rfl|rfl
  ·exact h.2.2.1
  ·exact h.2.2.2
 ·exact arX k _ x I
theorem adG{k:Int}{R:bW}(h:∀e∈R,lN e):Bytes (e4 k R):=λx I=>by obtain⟨e,he,h1⟩:=pc.1 I;exact arI (h e he) x h1
theorem Qx{R:bW}{k:Nat}{e:fL}(he:R[k]?=some e)(m:Int):e4 m (R.take (k+1))=e4 m (R.take k)++xY m e:=by obtain⟨hk,rfl⟩:=List.getElem?_eq_some_iff.1 he;unfold e4;rw[lq hk,wG];simp
theorem arF{R:bW}(h:∀e∈R,lN e)(m:Int)(k:Nat):(e4 m (R.take k)).length<=k*2002:=by
 induction k with
 |zero=>simp[e4]
 |succ k cq=>
  by_cases hk:k<R.length
  ·rw[Qx (List.getElem?_eq_getElem hk),e9,VN];have h1:=(h _ (hN hk)).2.1;omega
  ·rw[hr (by omega)];rw[hr (by omega)]at cq;exact fo cq (tq 2002 (Nat.le_succ k))
theorem aek{n:Int}(h:0<=n/\n<65536):bt.pg 2 [n]=bt.be 2 n:=by
 have:=(bt.ID (k:=2) (by omega) (by omega) [n]).2
 have e:((2:Nat):Int)=2:=rfl;rw[e]at this;rw[this,aY (by simp[bt.og];omega)];simp
theorem Wj{n:Int}(h:0<=n/\n<4294967296):bt.pg 4 [n]=bt.be 4 n:=by
 have:=(bt.ID (k:=4) (by omega) (by omega) [n]).2
 have e:((4:Nat):Int)=4:=rfl;rw[e]at this;rw[this,aY (by simp[bt.og];omega)];simp
theorem asV{a b c:Int}(aP:0<=a/\a<256)(ω:0<=b/\b<256)(π:0<=c/\c<256):bt.pg 1 [a,b,c]=[a,b,c]:=by
 have:=(bt.ID (k:=1) (by omega) (by omega) [a,b,c]).2
 have e:((1:Nat):Int)=1:=rfl;rw[e]at this;rw[this,aY (by simp[bt.og];omega)];simp[bt.be];omega
theorem ab3{s k:Int}{R:bW}(h:lV s k R){e:fL}(he:e∈R){x:Nat×Nat}(I:some x∈e.2.2):(x.2:Int)<k/\(x.1:Int)*k+x.2<s*k:=by
 have:=VE.1 h.1.2.2 x (pc.2 ⟨e,he,u3.2 ⟨_,I,rfl⟩⟩)
 rw[KQ]at this;simpa using this
theorem arK{w:World}{R:bW}{ps:aU}(h:ie w R ps){s m:Int}(ke:lV s m R):
  nB.C (bN R ps).toArray s m w (φ λv w'=>(∃p c,v=.slice p (e4 m R).length c/\μ w' w.heap.size cG 1 p (e4 m R).length c (bg (e4 m R)))/\θ w w'):=by
 have eo:=uQ.1 ke.1.1;have hp:=Lr eo;apply nB.ok;unfold nB.main;have lL:=h.row;rintro ε δ rfl rfl ι υ rfl rfl;have ρ:=μ.new (w:=w) (bN R ps) bX;have ζ:=θ.alloc w (.cells (bN R ps).toArray bX);generalize eb:w.heap.size=ε at ρ⊢;generalize w.alloc (.cells (bN R ps).toArray bX)=δ at ρ ζ⊢;have az:=μ.new (w:=δ) (two s m) b5;have τ:=θ.alloc δ (.cells (two s m).toArray b5);have bz:δ.alloc (.cells #[.int .i64 s,.int .i64 m] b5)=δ.alloc (.cells (two s m).toArray b5):=rfl;rw[bz];have EO:=ζ.size;generalize δ.heap.size=ι at az EO⊢;generalize δ.alloc (.cells (two s m).toArray b5)=υ at az τ⊢;have ρ:=ρ.ex τ;have iz:=ζ.trans τ;have h:=h.ex iz;refine⟨(kinds R).toArray,by rw[fp];exact h.EW,by have:=a8.take ρ.cells 16;rwa[h.take]at this,?_⟩;unfold nB.bd;refine⟨λt2 t3 lR mi mh t12 t13 w'=>ε=t2/\ι=t3/\(kinds R).toArray=t12/\0<=t13/\t13<=8/\mi=(e4 m (R.take t13.toNat)).length/\μ w' υ.heap.size cG 1 lR mi mh (bg (e4 m (R.take t13.toNat)))/\θ υ w',λt2 t3 lR mi mh t12 t13 w'=>(8-t13).toNat,⟨rfl,rfl,rfl,by omega,by omega,rfl,μ.nil _ _ _ _,θ.refl _⟩,?_⟩;rintro _ _ lR mi mh _ t13 w' ⟨rfl,rfl,rfl,aF,dr,ar,own,I⟩;unfold nB.ε;obtain⟨k,rfl⟩:=eR aF;rw[cP]at ar own;subst ar;refine bA (λbQ=>?_) λbQ=>?_
 ·have bQ:=cd bQ;have hk:k<8:=by omega
  obtain⟨e,he⟩:=h.get hk;obtain⟨p,c,aoN,Es⟩:=lL k e he;have kW:=(Es.ex ζ).ex τ;have aa6:=eS he;obtain⟨dq,an,v7,qe⟩:=h.ok e aa6;have uH:=arF h.ok m k;refine bO (bC aF) (bO (bC bQ) ?_);rw[cP,h.pair he];rintro aH aa rfl rfl;have bu:=μ.new (w:=w') [.int .i64 0,.int .i64 0] jq;have ab:=θ.alloc w' (.cells [Value.int .i64 0,.int .i64 0].toArray jq);generalize w'.alloc (.cells #[.int .i64 0,.int .i64 0] jq)=aa at bu ab⊢;refine bO (by rfl) ?_;refine bu.put (cs:=two e.1 e.2.1) (by rfl) (I0 _ _) λax cp cm=>?_;have aA:θ w' ax:=ab.then cp λi o=>o▸eF _;refine⟨e.1,cm.at (by rfl),e.2.1,cm.at (by rfl),?_⟩;rintro af aG rfl rfl;have cz:=μ.alloc (w:=ax) (bt.v64 [e.1,e.2.1]) ck 1 2 rfl;have al:=θ.alloc ax (.cells (bt.v64 [e.1,e.2.1]).toArray ck);have ig:ax.alloc (.cells #[.int .i64 e.1,.int .i64 e.2.1] ck)=ax.alloc (.cells (bt.v64 [e.1,e.2.1]).toArray ck):=rfl;rw[ig];generalize ax.alloc (.cells (bt.v64 [e.1,e.2.1]).toArray ck)=aG at cz al⊢;have Ja:=aA.trans al;refine κ.use (Ct (own.ex Ja) (I.trans Ja).size 1 cz.cells rfl (by omega) (by omega)) ?_;rintro _ ba ⟨iB,nt,rfl,bS,dP⟩
  try dsimp only[er]
  rw[aej _ _ v7 qe]at bS⊢;have aJ:θ υ ba:=(I.trans Ja).then dP λi⟨x,e,o⟩=>by
   have:=(own.ge e).1
   omega
  refine bO (bC aF) (bO (bC bQ) ?_);rw[zZ];refine⟨p,e.2.2.length,c,(ρ.ex aJ).at (by rw[h.place,aoN]),?_⟩;unfold nB.fm;generalize cY:e4 m (R.take k)=P at own bS uH⊢;rw[<-e9]at bS⊢;refine⟨λt2 t3 lR mi mh t12 t13 IV IU Ma t28 t29 hY=>ε=t2/\ι=t3/\(kinds R).toArray=t12/\(k:Int)=t13/\p=IV/\e.2.2.length=IU/\c=Ma/\(e.2.2.length:Int)=t28/\0<=t29/\t29<=e.2.2.length/\mi=(P++[e.1,e.2.1]++jA m (e.2.2.take t29.toNat)).length/\μ hY υ.heap.size cG 1 lR mi mh (bg (P++[e.1,e.2.1]++jA m (e.2.2.take t29.toNat)))/\θ υ hY,
   λt2 t3 lR mi mh t12 t13 IV IU Ma t28 t29 hY=>(e.2.2.length-t29).toNat,⟨rfl,rfl,rfl,rfl,rfl,rfl,rfl,rfl,by omega,by omega,by simp[jA],by simpa[jA]using bS,aJ⟩,?_⟩
  clear own bS aJ dP;rintro _ _ lR mi mh _ _ _ _ _ _ t29 hY ⟨rfl,rfl,rfl,rfl,rfl,rfl,rfl,rfl,i0,i1,ar,own,KL⟩;unfold nB.ι;obtain⟨j,rfl⟩:=eR i0;rw[cP]at ar own;subst ar;refine bA (λπ=>?_) λπ=>?_
  ·have π:=cd π;have χ:j<e.2.2.length:=by omega
   obtain⟨a,rfl,r⟩:=Fs (kW.ex KL) χ;have ay:=dq _ (hN χ);have jy:=hN χ;have qh:jA m (e.2.2.take (j+1))=jA m (e.2.2.take j)++Cm m e.2.2[j]:=by unfold jA;rw[lq χ,wG];simp
   have xG:(P++[e.1,e.2.1]++jA m (e.2.2.take j)).length<=100000:=by rw[e9,e9,H9,gY];simp only[List.length_cons,List.length_nil];omega
   refine bO (bC i0) (bO (bC π) ?_)
   try dsimp only[bj]
   rw[cP,eG];refine⟨_,_,r,?_⟩;rw[empty_eq ay];have lh:IntKind.i64.wrap ((j:Int)+1)=((j+1:Nat):Int):=by rw[b3 (by omega) (by omega)];rfl
   have ks:((j+1:Nat):Int).toNat=j+1:=rfl
   have put:∀{n:Int}{aa:World}{b:Nat}{N:Value->ai}{X:List PanicEntry->ai},θ υ aa->μ aa υ.heap.size cG 1 lR (P++[e.1,e.2.1]++jA m (e.2.2.take j)).length mh (bg (P++[e.1,e.2.1]++jA m (e.2.2.take j)))->a8 aa (some ⟨b,0,none⟩) (bt.v64 [n])->AJ m e.2.2[j]=n->0<=n->n<65536->
     (∀p c ax,θ υ ax->μ ax υ.heap.size cG 1 p (P++[e.1,e.2.1]++jA m (e.2.2.take (j+1))).length c (bg (P++[e.1,e.2.1]++jA m (e.2.2.take (j+1))))->N (.slice p (P++[e.1,e.2.1]++jA m (e.2.2.take (j+1))).length c) ax)->
     κ prog 139 #[.slice lR (P++[e.1,e.2.1]++jA m (e.2.2.take j)).length mh,.int .i64 2,.slice (some ⟨b,0,none⟩) 1 1] aa N X:=by
    intro n aa b N X I own π aoA Ua qf K;refine κ.use (Ct own I.size 2 π rfl (by omega) (by omega)) ?_;rintro _ ax ⟨bU,aT,rfl,γ,k⟩;rw[aek ⟨Ua,qf⟩]at γ⊢;have aM:Cm m e.2.2[j]=bt.be 2 n:=by unfold Cm;rw[aoA]
    rw[<-aM]at γ⊢;rw[qh,<-mc,e9]at K;refine K bU aT ax (I.then k λi⟨x,ex,o⟩=>by have:=(own.ge ex).1;omega) γ
   cases rS:e.2.2[j]with
   |none=>
    rw[cond_neg (by rfl)];rintro gb de rfl rfl;have bS:=μ.alloc (w:=hY) (bt.v64 [0]) ck 1 1 rfl;have aJ:=θ.alloc hY (.cells (bt.v64 [0]).toArray ck);have nY:hY.alloc (.cells #[.int .i64 0] ck)=hY.alloc (.cells (bt.v64 [0]).toArray ck):=rfl;rw[nY];generalize hY.alloc (.cells (bt.v64 [0]).toArray ck)=de at bS aJ⊢;refine put (KL.trans aJ) (own.ex aJ) bS.cells (by rw[rS];rfl) (by omega) (by omega) λbU aT dJ js r3=>?_
    try dsimp only[er]
    rw[lh];exact⟨⟨rfl,rfl,rfl,rfl,rfl,rfl,rfl,rfl,by omega,by omega,by rw[ks],by rw[ks];exact r3,js⟩,by((try dsimp only);omega)⟩
   |some x=>
    rw[rS]at ay jy;rw[cond_pos (by rfl)];have dg:=ab3 ke aa6 jy;refine⟨m,((az.ex KL).at (by rfl)),?_⟩;refine κ.use (Rj (some x) ay m (by omega) hY) ?_;rintro _ b9 ⟨rfl,ux⟩;obtain rfl:=ux.symm;rw[JW,aY dg.1];have e:(bt.v64 [(x.1:Int)*m+x.2,0]).toArray=#[.int .i64 ((x.1:Int)*m+x.2),.int .i64 0]:=rfl;rw[e]
    try dsimp only[bZ,cC,cD,bj,bH]
    have vZ:=JV (k:=m) ay.1 (by omega);have ax8:=ay.2;rw[b3 (x:=(x.1:Int)*m+x.2+1) (by omega) (by omega)];rintro dC dk rfl rfl;have cz:=μ.alloc (w:=hY) (bt.v64 [(x.1:Int)*m+x.2+1]) ck 1 1 rfl;have al:=θ.alloc hY (.cells (bt.v64 [(x.1:Int)*m+x.2+1]).toArray ck);have ig:hY.alloc (.cells #[.int .i64 ((x.1:Int)*m+x.2+1)] ck)=hY.alloc (.cells (bt.v64 [(x.1:Int)*m+x.2+1]).toArray ck):=rfl;rw[ig];generalize hY.alloc (.cells (bt.v64 [(x.1:Int)*m+x.2+1]).toArray ck)=dk at cz al⊢;refine put (KL.trans al) (own.ex al) cz.cells (by rw[rS];rfl) (by omega) (by omega) λbU aT cH fu r2=>?_
    try dsimp only[er]
    rw[lh];exact⟨⟨rfl,rfl,rfl,rfl,rfl,rfl,rfl,rfl,by omega,by omega,by rw[ks],by rw[ks];exact r2,fu⟩,by((try dsimp only);omega)⟩
  ·have π:=dh π;have χ:j=e.2.2.length:=by omega
   rw[GL hk];have ks:((k+1:Nat):Int).toNat=k+1:=rfl;have yV:P++[e.1,e.2.1]++jA m (e.2.2.take j)=e4 m (R.take (k+1)):=by rw[Qx he,cY,χ,AV];unfold xY;rw[mc]
   rw[yV]at own⊢;exact⟨⟨rfl,rfl,rfl,by omega,by omega,by rw[ks],by rw[ks];exact own,KL⟩,by((try dsimp only);omega)⟩
 ·have bQ:=dh bQ;obtain rfl:k=8:=by omega
  rw[hr (by rw[h.len];omega)]at own⊢;exact φ.mk ⟨⟨lR,mh,rfl,own.lower (eb▸iz.size)⟩,iz.trans I⟩
end Go.Proofs.YtcpdfhkhaekekaaGreat.G
namespace Go.Proofs.YtcpdfhkhaekekaaGreat.G.cr
open Tryz
open Go.bI Go.RowKit
structure gI where
 q:Int
 s:Int
 k:Int
 m:Nat
 n:Nat
structure gI.Ok(H:gI):Prop where
 q:0<=H.q/\H.q<4294967296
 s:0<=H.s/\H.s<256
 k:0<=H.k/\H.k<256
 m:H.m<256
 n:H.n<65536
def l0(H:gI):ao:=lx++bt.be 4 H.q
def yR(H:gI):ao:=l0 H++[H.s,H.k,(H.m:Int)]
def B1(H:gI):ao:=yR H++bt.be 2 (H.n:Int)
structure Ctx(H:gI)(W:World)(ι aH af:Nat)(cB:J)(cA:Nat):Prop where
 ok:H.Ok
 bP:μ W 0 b5 2 (some ⟨ι,0,none⟩) 1 1 [.int .i64 H.s,.int .i64 H.k]
 b7:μ W 0 ck 1 (some ⟨aH,0,none⟩) 1 1 [.int .i64 H.q]
 cp:μ W 0 vg 1 (some ⟨af,0,none⟩) 1 1 [.slice cB H.m cA]
def Fin(H:gI)(W:World)(D af:Nat)(ad:J)(c1:Nat)(R:ak):Prop:=
 ∀(wy:J)(vJ:Nat)(qG:World),θ W qG->cQ W qG wy 13 vJ (B1 H)->∃(nd:J)(n18 oK:Nat),qG.drew.cell? (⟨af,0,none⟩:Addr)=some (.slice nd n18 oK)/\bo.Cn D ad H.n c1 qG af nd n18 oK wy 13 vJ R
theorem Ib{W w:World}{N:Value->ai}{X:List PanicEntry->ai}(I:θ W w){p:J}{n c:Nat}{xs:ao}(h1:cQ W w p n c xs){b:Nat}{l:ao}(η:e2 w b l){s:Int}{r:ao}(σ:bt.pg s l=r)(fk m':Nat)(EC:n+r.length=fk)(hm:l.length=m')(ar:n<=1000)(an:m'<=10)
  (K:∀p c w',θ W w'->(∀b l,e2 w b l->e2 w' b l)->cQ W w' p fk c (xs++r)->N (.slice p fk c) w'):κ prog 139 #[.slice p n c,.int .i64 s,.slice (some ⟨b,0,none⟩) m' m'] w N X:=by
 subst EC hm;exact ar7 I h1 η σ ar an K
theorem Pr{H:gI}(hk:H.Ok){W w:World}{N:Value->ai}{X:List PanicEntry->ai}(I:θ W w){cZ jV:Nat}(Td:cQ W w (some ⟨cZ,0,none⟩) 4 4 lx)(N4:e2 w jV [H.q])
  (K:∀p c w',θ W w'->(∀b l,e2 w b l->e2 w' b l)->cQ W w' p 8 c (l0 H)->N (.slice p 8 c) w'):κ prog 139 #[.slice (some ⟨cZ,0,none⟩) 4 4,.int .i64 4,.slice (some ⟨jV,0,none⟩) 1 1] w N X:=
 Ib I Td N4 (Wj hk.q) 8 1 (by rw[bt.sI]) rfl (by omega) (by decide) K
theorem adR{H:gI}(hk:H.Ok){W w:World}{N:Value->ai}{X:List PanicEntry->ai}(I:θ W w){kZ:J}{kU oI:Nat}(s1:cQ W w kZ 8 kU (l0 H))(Te:e2 w oI [H.s,H.k,(H.m:Int)])
  (K:∀p c w',θ W w'->(∀b l,e2 w b l->e2 w' b l)->cQ W w' p 11 c (yR H)->N (.slice p 11 c) w'):κ prog 139 #[.slice kZ 8 kU,.int .i64 1,.slice (some ⟨oI,0,none⟩) 3 3] w N X:=
 Ib I s1 Te (asV hk.s hk.k ⟨by omega,by have:=hk.m;omega⟩) 11 3 rfl rfl (by omega) (by decide) K
theorem ar5{H:gI}(hk:H.Ok){W w:World}{N:Value->ai}{X:List PanicEntry->ai}(I:θ W w){r6:J}{rG p3:Nat}(s2:cQ W w r6 11 rG (yR H))(Tf:e2 w p3 [(H.n:Int)])
  (K:∀p c w',θ W w'->(∀b l,e2 w b l->e2 w' b l)->cQ W w' p 13 c (B1 H)->N (.slice p 13 c) w'):κ prog 139 #[.slice r6 11 rG,.int .i64 2,.slice (some ⟨p3,0,none⟩) 1 1] w N X:=
 Ib I s2 Tf (aek ⟨by omega,by have:=hk.n;omega⟩) 13 1 (by rw[bt.sI]) rfl (by omega) (by decide) K
end Go.Proofs.YtcpdfhkhaekekaaGreat.G.cr
namespace Go.Proofs.YtcpdfhkhaekekaaGreat.G.cr
open Go.bI Go.RowKit
theorem Ye{H:gI}{W:World}{D ι aH af:Nat}{ad cB:J}{c1 cA:Nat}{R:ak}(bB:Ctx H W ι aH af cB cA)(fin:Fin H W D af ad c1 R){yk:World}(I:θ W yk){r6:J}{rG:Nat}{p3:Nat}(Ul:cQ W yk r6 11 rG (yR H))(anj:e2 yk p3 [(H.n:Int)]):bo.pG D r6 11 rG p3 yk af ad H.n c1 R:=by unfold bo.pG;refine ar5 bB.ok I Ul anj λwy vJ qG x g h=>?_;dsimp only[er];exact fin _ _ _ x h
theorem ajI{H:gI}{W:World}{D ι aH af:Nat}{ad cB:J}{c1 cA:Nat}{R:ak}(bB:Ctx H W ι aH af cB cA)(fin:Fin H W D af ad c1 R){CV:World}(I:θ W CV){r6:J}{rG:Nat}(Ul:cQ W CV r6 11 rG (yR H)):bo.K9 D CV H.n r6 11 rG af ad c1 R:=by unfold bo.K9;refine hn I [(H.n:Int)] λp3 yk x h=>?_;exact Ye bB fin (I.trans x) (Ul.ex x) h
theorem RA{H:gI}{W:World}{D ι aH af:Nat}{ad cB:J}{c1 cA:Nat}{R:ak}(bB:Ctx H W ι aH af cB cA)(fin:Fin H W D af ad c1 R){zL:World}(I:θ W zL){kZ:J}{kU:Nat}{oI:Nat}{yB:Nat}(As:cQ W zL kZ 8 kU (l0 H))(Od:e2 zL oI [H.s,H.k,(H.m:Int)])(anl:e2 zL yB [(H.n:Int)]):bo.o4 D kZ 8 kU oI zL yB af ad H.n c1 R:=by unfold bo.o4;refine adR bB.ok I As Od λadw G1 QS x g h=>?_;dsimp only[er];exact Ye bB fin x h (g _ _ anl)
theorem Yf{H:gI}{W:World}{D ι aH af:Nat}{ad cB:J}{c1 cA:Nat}{R:ak}(bB:Ctx H W ι aH af cB cA)(fin:Fin H W D af ad c1 R){pr:World}(I:θ W pr){kZ:J}{kU:Nat}{oI:Nat}(As:cQ W pr kZ 8 kU (l0 H))(Od:e2 pr oI [H.s,H.k,(H.m:Int)]):bo.l9 D kZ 8 kU oI pr H.n af ad c1 R:=by
 unfold bo.l9;refine⟨?_,?_⟩
 ·refine adR bB.ok I As Od λr6 rG CV x g h=>?_;dsimp only[er];exact ajI bB fin x h
 ·refine hn I [(H.n:Int)] λyB zL x h=>?_;exact RA bB fin (I.trans x) (As.ex x) (Od.ex x) h
theorem Yg{H:gI}{W:World}{D ι aH af:Nat}{ad cB:J}{c1 cA:Nat}{R:ak}(bB:Ctx H W ι aH af cB cA)(fin:Fin H W D af ad c1 R){tT:World}(I:θ W tT){kZ:J}{kU:Nat}{Dt:Nat}(As:cQ W tT kZ 8 kU (l0 H))(ann:e2 tT Dt [(H.n:Int)]):bo.AL D tT H.s H.k H.m kZ 8 kU Dt af ad H.n c1 R:=by unfold bo.AL;refine hn I [H.s,H.k,(H.m:Int)] λYR QU x h=>?_;exact RA bB fin (I.trans x) (As.ex x) h (ann.ex x)
theorem ajJ{H:gI}{W:World}{D ι aH af:Nat}{ad cB:J}{c1 cA:Nat}{R:ak}(bB:Ctx H W ι aH af cB cA)(fin:Fin H W D af ad c1 R){tS:World}(I:θ W tS){kZ:J}{kU:Nat}(As:cQ W tS kZ 8 kU (l0 H)):bo.za D tS H.s H.k H.m kZ 8 kU H.n af ad c1 cB cA ι R:=by
 unfold bo.za;refine⟨?_,?_⟩
 ·refine hn I [H.s,H.k,(H.m:Int)] λoI pr x h=>?_;exact Yf bB fin (I.trans x) (As.ex x) h
 ·refine hn I [(H.n:Int)] λDt tT x h=>?_;refine⟨(bB.cp.ex (I.trans x)).at (by rfl),(bB.bP.ex (I.trans x)).at (by rfl),(bB.bP.ex (I.trans x)).at (by rfl),?_⟩;exact Yg bB fin (I.trans x) (As.ex x) h
theorem M3{H:gI}{W:World}{D ι aH af:Nat}{ad cB:J}{c1 cA:Nat}{R:ak}(bB:Ctx H W ι aH af cB cA)(fin:Fin H W D af ad c1 R){ye:World}(I:θ W ye){cZ:Nat}{jV:Nat}{ue:Nat}{Dv:Nat}(gJ:cQ W ye (some ⟨cZ,0,none⟩) 4 4 lx)(xv:e2 ye jV [H.q])(Of:e2 ye ue [H.s,H.k,(H.m:Int)])(anq:e2 ye Dv [(H.n:Int)]):bo.Co D cZ jV ye ue Dv af ad H.n c1 R:=by unfold bo.Co;refine Pr bB.ok I gJ xv λady Zd ahO x g h=>?_;dsimp only[er];exact RA bB fin x h (g _ _ Of) (g _ _ anq)
theorem RB{H:gI}{W:World}{D ι aH af:Nat}{ad cB:J}{c1 cA:Nat}{R:ak}(bB:Ctx H W ι aH af cB cA)(fin:Fin H W D af ad c1 R){yl:World}(I:θ W yl){cZ:Nat}{jV:Nat}{ue:Nat}(gJ:cQ W yl (some ⟨cZ,0,none⟩) 4 4 lx)(xv:e2 yl jV [H.q])(Of:e2 yl ue [H.s,H.k,(H.m:Int)]):bo.E6 D cZ jV yl ue H.n af ad c1 R:=by
 unfold bo.E6;refine⟨?_,?_⟩
 ·refine Pr bB.ok I gJ xv λadx Zc ah3 x g h=>?_;dsimp only[er];exact Yf bB fin x h (g _ _ Of)
 ·refine hn I [(H.n:Int)] λDv ye x h=>?_;exact M3 bB fin (I.trans x) (gJ.ex x) (xv.ex x) (Of.ex x) h
theorem RC{H:gI}{W:World}{D ι aH af:Nat}{ad cB:J}{c1 cA:Nat}{R:ak}(bB:Ctx H W ι aH af cB cA)(fin:Fin H W D af ad c1 R){tM:World}(I:θ W tM){cZ:Nat}{jV:Nat}{BD:Nat}(gJ:cQ W tM (some ⟨cZ,0,none⟩) 4 4 lx)(xv:e2 tM jV [H.q])(aaS:e2 tM BD [(H.n:Int)]):bo.E7 D cZ jV tM af cB H.m cA ι H.k H.s BD ad H.n c1 R:=by
 unfold bo.E7;refine⟨?_,?_⟩
 ·refine Pr bB.ok I gJ xv λadz Ze Mx x g h=>?_;dsimp only[er];refine⟨(bB.cp.ex x).at (by rfl),(bB.bP.ex x).at (by rfl),(bB.bP.ex x).at (by rfl),?_⟩;exact Yg bB fin x h (g _ _ aaS)
 ·refine hn I [H.s,H.k,(H.m:Int)] λY3 ahT x h=>?_;exact M3 bB fin (I.trans x) (gJ.ex x) (xv.ex x) h (aaS.ex x)
theorem Yh{H:gI}{W:World}{D ι aH af:Nat}{ad cB:J}{c1 cA:Nat}{R:ak}(bB:Ctx H W ι aH af cB cA)(fin:Fin H W D af ad c1 R){oy:World}(I:θ W oy){cZ:Nat}{jV:Nat}(gJ:cQ W oy (some ⟨cZ,0,none⟩) 4 4 lx)(xv:e2 oy jV [H.q]):bo.wm D cZ jV oy af cB H.m cA ι H.k H.s H.n ad c1 R:=by
 unfold bo.wm;refine⟨?_,?_,?_⟩
 ·refine Pr bB.ok I gJ xv λkZ kU tS x g h=>?_;dsimp only[er];refine⟨(bB.cp.ex x).at (by rfl),(bB.bP.ex x).at (by rfl),(bB.bP.ex x).at (by rfl),?_⟩;exact ajJ bB fin x h
 ·refine hn I [H.s,H.k,(H.m:Int)] λue yl x h=>?_;exact RB bB fin (I.trans x) (gJ.ex x) (xv.ex x) h
 ·refine hn I [(H.n:Int)] λBD tM x h=>?_;refine⟨(bB.cp.ex (I.trans x)).at (by rfl),(bB.bP.ex (I.trans x)).at (by rfl),(bB.bP.ex (I.trans x)).at (by rfl),?_⟩;exact RC bB fin (I.trans x) (gJ.ex x) (xv.ex x) h
theorem RD{H:gI}{W:World}{D ι aH af:Nat}{ad cB:J}{c1 cA:Nat}{R:ak}(bB:Ctx H W ι aH af cB cA)(fin:Fin H W D af ad c1 R){yh:World}(I:θ W yh){cZ:Nat}{uf:Nat}{Dw:Nat}(gJ:cQ W yh (some ⟨cZ,0,none⟩) 4 4 lx)(Og:e2 yh uf [H.s,H.k,(H.m:Int)])(ans:e2 yh Dw [(H.n:Int)]):bo.Lb D yh H.q cZ uf Dw af ad H.n c1 R:=by unfold bo.Lb;refine hn I [H.q] λY5 ahV x h=>?_;exact M3 bB fin (I.trans x) (gJ.ex x) h (Og.ex x) (ans.ex x)
theorem Yi{H:gI}{W:World}{D ι aH af:Nat}{ad cB:J}{c1 cA:Nat}{R:ak}(bB:Ctx H W ι aH af cB cA)(fin:Fin H W D af ad c1 R){yg:World}(I:θ W yg){cZ:Nat}{uf:Nat}(gJ:cQ W yg (some ⟨cZ,0,none⟩) 4 4 lx)(Og:e2 yg uf [H.s,H.k,(H.m:Int)]):bo.O9 D yg H.q cZ uf H.n af ad c1 aH R:=by
 unfold bo.O9;refine⟨?_,?_⟩
 ·refine hn I [H.q] λY4 ahU x h=>?_;exact RB bB fin (I.trans x) (gJ.ex x) h (Og.ex x)
 ·refine hn I [(H.n:Int)] λDw yh x h=>?_;refine⟨(bB.b7.ex (I.trans x)).at (by rfl),?_⟩;exact RD bB fin (I.trans x) (gJ.ex x) (Og.ex x) h
theorem Yj{H:gI}{W:World}{D ι aH af:Nat}{ad cB:J}{c1 cA:Nat}{R:ak}(bB:Ctx H W ι aH af cB cA)(fin:Fin H W D af ad c1 R){tO:World}(I:θ W tO){cZ:Nat}{BE:Nat}(gJ:cQ W tO (some ⟨cZ,0,none⟩) 4 4 lx)(aaT:e2 tO BE [(H.n:Int)]):bo.H5 D tO H.q af cB H.m cA ι H.k H.s cZ BE ad H.n c1 aH R:=by
 unfold bo.H5;refine⟨?_,?_⟩
 ·refine hn I [H.q] λY6 Mz x h=>?_;refine⟨(bB.cp.ex (I.trans x)).at (by rfl),(bB.bP.ex (I.trans x)).at (by rfl),(bB.bP.ex (I.trans x)).at (by rfl),?_⟩;exact RC bB fin (I.trans x) (gJ.ex x) h (aaT.ex x)
 ·refine hn I [H.s,H.k,(H.m:Int)] λY7 Xc x h=>?_;refine⟨(bB.b7.ex (I.trans x)).at (by rfl),?_⟩;exact RD bB fin (I.trans x) (gJ.ex x) h (aaT.ex x)
theorem ajK{H:gI}{W:World}{D ι aH af:Nat}{ad cB:J}{c1 cA:Nat}{R:ak}(bB:Ctx H W ι aH af cB cA)(fin:Fin H W D af ad c1 R){pV:World}(I:θ W pV){cZ:Nat}(gJ:cQ W pV (some ⟨cZ,0,none⟩) 4 4 lx):bo.Vp D pV H.q af cB H.m cA ι H.k H.s cZ H.n ad c1 aH R:=by
 unfold bo.Vp;refine⟨?_,?_,?_⟩
 ·refine hn I [H.q] λjV oy x h=>?_;refine⟨(bB.cp.ex (I.trans x)).at (by rfl),(bB.bP.ex (I.trans x)).at (by rfl),(bB.bP.ex (I.trans x)).at (by rfl),?_⟩;exact Yh bB fin (I.trans x) (gJ.ex x) h
 ·refine hn I [H.s,H.k,(H.m:Int)] λuf yg x h=>?_;refine⟨(bB.b7.ex (I.trans x)).at (by rfl),?_⟩;exact Yi bB fin (I.trans x) (gJ.ex x) h
 ·refine hn I [(H.n:Int)] λBE tO x h=>?_;refine⟨(bB.cp.ex (I.trans x)).at (by rfl),(bB.bP.ex (I.trans x)).at (by rfl),(bB.bP.ex (I.trans x)).at (by rfl),(bB.b7.ex (I.trans x)).at (by rfl),?_⟩;exact Yj bB fin (I.trans x) (gJ.ex x) h
theorem M4{H:gI}{W:World}{D ι aH af:Nat}{ad cB:J}{c1 cA:Nat}{R:ak}(bB:Ctx H W ι aH af cB cA)(fin:Fin H W D af ad c1 R){yj:World}(I:θ W yj){cZ:Nat}{la:Nat}{ug:Nat}{Dr:Nat}(gJ:Raw W yj cZ)(xx:e2 yj la [H.q])(Oh:e2 yj ug [H.s,H.k,(H.m:Int)])(anh:e2 yj Dr [(H.n:Int)]):bo.wo D yj cZ la ug Dr af ad H.n c1 R:=by unfold bo.wo;refine mark I gJ λahX x g h=>?_;exact M3 bB fin x h (g _ _ xx) (g _ _ Oh) (g _ _ anh)
theorem RE{H:gI}{W:World}{D ι aH af:Nat}{ad cB:J}{c1 cA:Nat}{R:ak}(bB:Ctx H W ι aH af cB cA)(fin:Fin H W D af ad c1 R){yi:World}(I:θ W yi){cZ:Nat}{la:Nat}{ug:Nat}(gJ:Raw W yi cZ)(xx:e2 yi la [H.q])(Oh:e2 yi ug [H.s,H.k,(H.m:Int)]):bo.E8 D yi cZ la ug H.n af ad c1 R:=by
 unfold bo.E8;refine⟨?_,?_⟩
 ·refine mark I gJ λahW x g h=>?_;exact RB bB fin x h (g _ _ xx) (g _ _ Oh)
 ·refine hn I [(H.n:Int)] λDr yj x h=>?_;exact M4 bB fin (I.trans x) (gJ.ex x) (xx.ex x) (Oh.ex x) h
theorem RF{H:gI}{W:World}{D ι aH af:Nat}{ad cB:J}{c1 cA:Nat}{R:ak}(bB:Ctx H W ι aH af cB cA)(fin:Fin H W D af ad c1 R){tR:World}(I:θ W tR){cZ:Nat}{la:Nat}{Bz:Nat}(gJ:Raw W tR cZ)(xx:e2 tR la [H.q])(aaK:e2 tR Bz [(H.n:Int)]):bo.Lc D tR cZ af cB H.m cA ι H.k H.s la Bz ad H.n c1 R:=by
 unfold bo.Lc;refine⟨?_,?_⟩
 ·refine mark I gJ λMC x g h=>?_;refine⟨(bB.cp.ex x).at (by rfl),(bB.bP.ex x).at (by rfl),(bB.bP.ex x).at (by rfl),?_⟩;exact RC bB fin x h (g _ _ xx) (g _ _ aaK)
 ·refine hn I [H.s,H.k,(H.m:Int)] λYL ahY x h=>?_;exact M4 bB fin (I.trans x) (gJ.ex x) (xx.ex x) h (aaK.ex x)
theorem Yk{H:gI}{W:World}{D ι aH af:Nat}{ad cB:J}{c1 cA:Nat}{R:ak}(bB:Ctx H W ι aH af cB cA)(fin:Fin H W D af ad c1 R){tP:World}(I:θ W tP){cZ:Nat}{la:Nat}(gJ:Raw W tP cZ)(xx:e2 tP la [H.q]):bo.Pa D tP cZ af cB H.m cA ι H.k H.s la H.n ad c1 R:=by
 unfold bo.Pa;refine⟨?_,?_,?_⟩
 ·refine mark I gJ λMA x g h=>?_;refine⟨(bB.cp.ex x).at (by rfl),(bB.bP.ex x).at (by rfl),(bB.bP.ex x).at (by rfl),?_⟩;exact Yh bB fin x h (g _ _ xx)
 ·refine hn I [H.s,H.k,(H.m:Int)] λug yi x h=>?_;exact RE bB fin (I.trans x) (gJ.ex x) (xx.ex x) h
 ·refine hn I [(H.n:Int)] λBz tR x h=>?_;refine⟨(bB.cp.ex (I.trans x)).at (by rfl),(bB.bP.ex (I.trans x)).at (by rfl),(bB.bP.ex (I.trans x)).at (by rfl),?_⟩;exact RF bB fin (I.trans x) (gJ.ex x) (xx.ex x) h
theorem RG{H:gI}{W:World}{D ι aH af:Nat}{ad cB:J}{c1 cA:Nat}{R:ak}(bB:Ctx H W ι aH af cB cA)(fin:Fin H W D af ad c1 R){w3:World}(I:θ W w3){cZ:Nat}{rC:Nat}{BA:Nat}(gJ:Raw W w3 cZ)(Hm:e2 w3 rC [H.s,H.k,(H.m:Int)])(aaL:e2 w3 BA [(H.n:Int)]):bo.E9 D w3 cZ aH H.q rC BA af ad H.n c1 R:=by
 unfold bo.E9;refine⟨?_,?_⟩
 ·refine mark I gJ λXi x g h=>?_;refine⟨(bB.b7.ex x).at (by rfl),?_⟩;exact RD bB fin x h (g _ _ Hm) (g _ _ aaL)
 ·refine hn I [H.q] λYN ah0 x h=>?_;exact M4 bB fin (I.trans x) (gJ.ex x) h (Hm.ex x) (aaL.ex x)
theorem Yl{H:gI}{W:World}{D ι aH af:Nat}{ad cB:J}{c1 cA:Nat}{R:ak}(bB:Ctx H W ι aH af cB cA)(fin:Fin H W D af ad c1 R){w2:World}(I:θ W w2){cZ:Nat}{rC:Nat}(gJ:Raw W w2 cZ)(Hm:e2 w2 rC [H.s,H.k,(H.m:Int)]):bo.Fa D w2 cZ aH H.q rC H.n af ad c1 R:=by
 unfold bo.Fa;refine⟨?_,?_,?_⟩
 ·refine mark I gJ λXh x g h=>?_;refine⟨(bB.b7.ex x).at (by rfl),?_⟩;exact Yi bB fin x h (g _ _ Hm)
 ·refine hn I [H.q] λYM ahZ x h=>?_;exact RE bB fin (I.trans x) (gJ.ex x) h (Hm.ex x)
 ·refine hn I [(H.n:Int)] λBA w3 x h=>?_;refine⟨(bB.b7.ex (I.trans x)).at (by rfl),?_⟩;exact RG bB fin (I.trans x) (gJ.ex x) (Hm.ex x) h
theorem Ym{H:gI}{W:World}{D ι aH af:Nat}{ad cB:J}{c1 cA:Nat}{R:ak}(bB:Ctx H W ι aH af cB cA)(fin:Fin H W D af ad c1 R){sw:World}(I:θ W sw){cZ:Nat}{z6:Nat}(gJ:Raw W sw cZ)(Tt:e2 sw z6 [(H.n:Int)]):bo.H6 D sw cZ af cB H.m cA ι H.k H.s aH H.q z6 ad H.n c1 R:=by
 unfold bo.H6;refine⟨?_,?_,?_⟩
 ·refine mark I gJ λI7 x g h=>?_;refine⟨(bB.cp.ex x).at (by rfl),(bB.bP.ex x).at (by rfl),(bB.bP.ex x).at (by rfl),(bB.b7.ex x).at (by rfl),?_⟩;exact Yj bB fin x h (g _ _ Tt)
 ·refine hn I [H.q] λYO MG x h=>?_;refine⟨(bB.cp.ex (I.trans x)).at (by rfl),(bB.bP.ex (I.trans x)).at (by rfl),(bB.bP.ex (I.trans x)).at (by rfl),?_⟩;exact RF bB fin (I.trans x) (gJ.ex x) h (Tt.ex x)
 ·refine hn I [H.s,H.k,(H.m:Int)] λYP Xk x h=>?_;refine⟨(bB.b7.ex (I.trans x)).at (by rfl),?_⟩;exact RG bB fin (I.trans x) (gJ.ex x) h (Tt.ex x)
theorem ajL{H:gI}{W:World}{D ι aH af:Nat}{ad cB:J}{c1 cA:Nat}{R:ak}(bB:Ctx H W ι aH af cB cA)(fin:Fin H W D af ad c1 R){su:World}(I:θ W su){cZ:Nat}(gJ:Raw W su cZ):bo.Ld D su cZ af cB H.m cA ι H.k H.s aH H.q H.n ad c1 R:=by
 unfold bo.Ld;refine⟨?_,?_,?_,?_⟩
 ·refine mark I gJ λpV x g h=>?_;refine⟨(bB.cp.ex x).at (by rfl),(bB.bP.ex x).at (by rfl),(bB.bP.ex x).at (by rfl),(bB.b7.ex x).at (by rfl),?_⟩;exact ajK bB fin x h
 ·refine hn I [H.q] λla tP x h=>?_;refine⟨(bB.cp.ex (I.trans x)).at (by rfl),(bB.bP.ex (I.trans x)).at (by rfl),(bB.bP.ex (I.trans x)).at (by rfl),?_⟩;exact Yk bB fin (I.trans x) (gJ.ex x) h
 ·refine hn I [H.s,H.k,(H.m:Int)] λrC w2 x h=>?_;refine⟨(bB.b7.ex (I.trans x)).at (by rfl),?_⟩;exact Yl bB fin (I.trans x) (gJ.ex x) h
 ·refine hn I [(H.n:Int)] λz6 sw x h=>?_;refine⟨(bB.cp.ex (I.trans x)).at (by rfl),(bB.bP.ex (I.trans x)).at (by rfl),(bB.bP.ex (I.trans x)).at (by rfl),(bB.b7.ex (I.trans x)).at (by rfl),?_⟩;exact Ym bB fin (I.trans x) (gJ.ex x) h
theorem RH{H:gI}{W:World}{D ι aH af:Nat}{ad cB:J}{c1 cA:Nat}{R:ak}(bB:Ctx H W ι aH af cB cA)(fin:Fin H W D af ad c1 R){zK:World}(I:θ W zK){k9:Nat}{ud:Nat}{Du:Nat}(xw:e2 zK k9 [H.q])(Oe:e2 zK ud [H.s,H.k,(H.m:Int)])(ano:e2 zK Du [(H.n:Int)]):bo.Fc D zK k9 ud Du af ad H.n c1 R:=by unfold bo.Fc;refine Ck I λYT ahM x h=>?_;exact M4 bB fin (I.trans x) h (xw.ex x) (Oe.ex x) (ano.ex x)
theorem Yn{H:gI}{W:World}{D ι aH af:Nat}{ad cB:J}{c1 cA:Nat}{R:ak}(bB:Ctx H W ι aH af cB cA)(fin:Fin H W D af ad c1 R){zJ:World}(I:θ W zJ){k9:Nat}{ud:Nat}(xw:e2 zJ k9 [H.q])(Oe:e2 zJ ud [H.s,H.k,(H.m:Int)]):bo.Fe D zJ k9 ud H.n af ad c1 R:=by
 unfold bo.Fe;refine⟨?_,?_⟩
 ·refine Ck I λYS ahL x h=>?_;exact RE bB fin (I.trans x) h (xw.ex x) (Oe.ex x)
 ·refine hn I [(H.n:Int)] λDu zK x h=>?_;exact RH bB fin (I.trans x) (xw.ex x) (Oe.ex x) h
theorem Yo{H:gI}{W:World}{D ι aH af:Nat}{ad cB:J}{c1 cA:Nat}{R:ak}(bB:Ctx H W ι aH af cB cA)(fin:Fin H W D af ad c1 R){vl:World}(I:θ W vl){k9:Nat}{BB:Nat}(xw:e2 vl k9 [H.q])(aaP:e2 vl BB [(H.n:Int)]):bo.Pb D vl af cB H.m cA ι H.k H.s k9 BB ad H.n c1 R:=by
 unfold bo.Pb;refine⟨?_,?_⟩
 ·refine Ck I λYU Mw x h=>?_;refine⟨(bB.cp.ex (I.trans x)).at (by rfl),(bB.bP.ex (I.trans x)).at (by rfl),(bB.bP.ex (I.trans x)).at (by rfl),?_⟩;exact RF bB fin (I.trans x) h (xw.ex x) (aaP.ex x)
 ·refine hn I [H.s,H.k,(H.m:Int)] λYV ahN x h=>?_;exact RH bB fin (I.trans x) (xw.ex x) h (aaP.ex x)
theorem ajM{H:gI}{W:World}{D ι aH af:Nat}{ad cB:J}{c1 cA:Nat}{R:ak}(bB:Ctx H W ι aH af cB cA)(fin:Fin H W D af ad c1 R){vp:World}(I:θ W vp){k9:Nat}(xw:e2 vp k9 [H.q]):bo.Vq D vp af cB H.m cA ι H.k H.s k9 H.n ad c1 R:=by
 unfold bo.Vq;refine⟨?_,?_,?_⟩
 ·refine Ck I λYQ MH x h=>?_;refine⟨(bB.cp.ex (I.trans x)).at (by rfl),(bB.bP.ex (I.trans x)).at (by rfl),(bB.bP.ex (I.trans x)).at (by rfl),?_⟩;exact Yk bB fin (I.trans x) h (xw.ex x)
 ·refine hn I [H.s,H.k,(H.m:Int)] λud zJ x h=>?_;exact Yn bB fin (I.trans x) (xw.ex x) h
 ·refine hn I [(H.n:Int)] λBB vl x h=>?_;refine⟨(bB.cp.ex (I.trans x)).at (by rfl),(bB.bP.ex (I.trans x)).at (by rfl),(bB.bP.ex (I.trans x)).at (by rfl),?_⟩;exact Yo bB fin (I.trans x) (xw.ex x) h
theorem Yp{H:gI}{W:World}{D ι aH af:Nat}{ad cB:J}{c1 cA:Nat}{R:ak}(bB:Ctx H W ι aH af cB cA)(fin:Fin H W D af ad c1 R){yf:World}(I:θ W yf){rD:Nat}{BC:Nat}(Hn:e2 yf rD [H.s,H.k,(H.m:Int)])(aaR:e2 yf BC [(H.n:Int)]):bo.Pc D yf aH H.q rD BC af ad H.n c1 R:=by
 unfold bo.Pc;refine⟨?_,?_⟩
 ·refine Ck I λYY Xa x h=>?_;refine⟨(bB.b7.ex (I.trans x)).at (by rfl),?_⟩;exact RG bB fin (I.trans x) h (Hn.ex x) (aaR.ex x)
 ·refine hn I [H.q] λYZ ahS x h=>?_;exact RH bB fin (I.trans x) h (Hn.ex x) (aaR.ex x)
theorem ajN{H:gI}{W:World}{D ι aH af:Nat}{ad cB:J}{c1 cA:Nat}{R:ak}(bB:Ctx H W ι aH af cB cA)(fin:Fin H W D af ad c1 R){yd:World}(I:θ W yd){rD:Nat}(Hn:e2 yd rD [H.s,H.k,(H.m:Int)]):bo.Vr D yd aH H.q rD H.n af ad c1 R:=by
 unfold bo.Vr;refine⟨?_,?_,?_⟩
 ·refine Ck I λYW W9 x h=>?_;refine⟨(bB.b7.ex (I.trans x)).at (by rfl),?_⟩;exact Yl bB fin (I.trans x) h (Hn.ex x)
 ·refine hn I [H.q] λYX ahQ x h=>?_;exact Yn bB fin (I.trans x) h (Hn.ex x)
 ·refine hn I [(H.n:Int)] λBC yf x h=>?_;refine⟨(bB.b7.ex (I.trans x)).at (by rfl),?_⟩;exact Yp bB fin (I.trans x) (Hn.ex x) h
theorem ajO{H:gI}{W:World}{D ι aH af:Nat}{ad cB:J}{c1 cA:Nat}{R:ak}(bB:Ctx H W ι aH af cB cA)(fin:Fin H W D af ad c1 R){tN:World}(I:θ W tN){z7:Nat}(Tv:e2 tN z7 [(H.n:Int)]):bo.Vs D tN af cB H.m cA ι H.k H.s aH H.q z7 ad H.n c1 R:=by
 unfold bo.Vs;refine⟨?_,?_,?_⟩
 ·refine Ck I λY0 I4 x h=>?_;refine⟨(bB.cp.ex (I.trans x)).at (by rfl),(bB.bP.ex (I.trans x)).at (by rfl),(bB.bP.ex (I.trans x)).at (by rfl),(bB.b7.ex (I.trans x)).at (by rfl),?_⟩;exact Ym bB fin (I.trans x) h (Tv.ex x)
 ·refine hn I [H.q] λY1 My x h=>?_;refine⟨(bB.cp.ex (I.trans x)).at (by rfl),(bB.bP.ex (I.trans x)).at (by rfl),(bB.bP.ex (I.trans x)).at (by rfl),?_⟩;exact Yo bB fin (I.trans x) h (Tv.ex x)
 ·refine hn I [H.s,H.k,(H.m:Int)] λY2 Xb x h=>?_;refine⟨(bB.b7.ex (I.trans x)).at (by rfl),?_⟩;exact Yp bB fin (I.trans x) h (Tv.ex x)
theorem ajP{H:gI}{W:World}{D ι aH af:Nat}{ad cB:J}{c1 cA:Nat}{R:ak}(bB:Ctx H W ι aH af cB cA)(fin:Fin H W D af ad c1 R){cn:World}(I:θ W cn):bo.Vt D cn af cB H.m cA ι H.k H.s aH H.q H.n ad c1 R:=by
 unfold bo.Vt;refine⟨?_,?_,?_,?_⟩
 ·refine Ck (I.trans (θ.drew _)) λcZ su x h=>?_;refine⟨(bB.cp.ex ((I.trans (θ.drew _)).trans x)).at (by rfl),(bB.bP.ex ((I.trans (θ.drew _)).trans x)).at (by rfl),(bB.bP.ex ((I.trans (θ.drew _)).trans x)).at (by rfl),(bB.b7.ex ((I.trans (θ.drew _)).trans x)).at (by rfl),?_⟩;exact ajL bB fin ((I.trans (θ.drew _)).trans x) h
 ·refine hn (I.trans (θ.drew _)) [H.q] λk9 vp x h=>?_;refine⟨(bB.cp.ex ((I.trans (θ.drew _)).trans x)).at (by rfl),(bB.bP.ex ((I.trans (θ.drew _)).trans x)).at (by rfl),(bB.bP.ex ((I.trans (θ.drew _)).trans x)).at (by rfl),?_⟩;exact ajM bB fin ((I.trans (θ.drew _)).trans x) h
 ·refine hn (I.trans (θ.drew _)) [H.s,H.k,(H.m:Int)] λrD yd x h=>?_;refine⟨(bB.b7.ex ((I.trans (θ.drew _)).trans x)).at (by rfl),?_⟩;exact ajN bB fin ((I.trans (θ.drew _)).trans x) h
 ·refine hn (I.trans (θ.drew _)) [(H.n:Int)] λz7 tN x h=>?_;refine⟨(bB.cp.ex ((I.trans (θ.drew _)).trans x)).at (by rfl),(bB.bP.ex ((I.trans (θ.drew _)).trans x)).at (by rfl),(bB.bP.ex ((I.trans (θ.drew _)).trans x)).at (by rfl),(bB.b7.ex ((I.trans (θ.drew _)).trans x)).at (by rfl),?_⟩;exact ajO bB fin ((I.trans (θ.drew _)).trans x) h
open Tryz
def fA(n:Nat):Nat:=(n+51)/52
def dX(n j:Nat):Nat:=min 52 (n-52*j)
def chunk(t:ao)(j:Nat):ao:=(t.drop (52*j)).take (dX t.length j)
theorem Nq(t:ao)(j:Nat):(chunk t j).length=dX t.length j:=by unfold chunk dX;rw[gY,kI];omega
theorem R9{n j:Nat}(h:j<fA n):0<dX n j/\52*j+dX n j<=n/\dX n j<=52:=by unfold fA at h;unfold dX;omega
def uP(q:Int)(i:Nat)(part:ao):ao:=bt.be 4 q++[(i:Int),(part.length:Int)]++part
def AH(q:Int)(i:Nat)(part:ao):ao:=kJ (uP q i part)
def r0(q:Int)(t:ao)(xs:List Nat):List ao:=xs.mapIdx λi x=>AH q i (chunk t x)
theorem acs(q:Int)(t:ao)(xs:List Nat)(x:Nat):r0 q t (xs++[x])=r0 q t xs++[AH q xs.length (chunk t x)]:=by unfold r0;rw[List.mapIdx_concat]
theorem aqi(q:Int)(t:ao)(xs:List Nat):(r0 q t xs).length=xs.length:=by unfold r0;rw[List.length_mapIdx]
def rM(H:gI)(t:ao):ao:=B1 H++bt.be 4 (u (more 0#32 t))
def nx(H:gI)(t:ao):ao:=kJ (rM H t)
def yS(s k q:Int)(t:ao):gI:=⟨q,s,k,fA t.length,t.length⟩
def iH(s k q:Int)(t:ao):List ao:=nx (yS s k q t) t::r0 q t (List.range (fA t.length))
theorem Hr(H:gI)(t:ao):(rM H t).length=17:=by unfold rM B1 yR l0;simp only[e9,bt.sI];rfl
theorem OV(q:Int)(i:Nat)(part:ao):(uP q i part).length=6+part.length:=by unfold uP;simp only[e9,bt.sI];rfl
structure jG(w:World)(B:Nat)(ps:aU)(pgs:List ao):Prop where
 len:ps.length=pgs.length
 row:∀(i:Nat)(bm:ao),pgs[i]?=some bm->∃(p:J)(c:Nat),ps[i]?=some (.slice p 64 c)/\μ w B cG 1 p 64 c (bg bm)
theorem jG.nil(w:World)(B:Nat):jG w B [] []:=⟨rfl,λi bm h=>by simp at h⟩
theorem jG.ex{w w':World}{B:Nat}{ps:aU}{pgs:List ao}(h:jG w B ps pgs)(x:θ w w'):jG w' B ps pgs:=
 ⟨h.len,λi bm hp=>by obtain⟨p,c,h1,η⟩:=h.row i bm hp;exact⟨p,c,h1,η.ex x⟩⟩
theorem jG.cI{w w':World}{B:Nat}{ps:aU}{pgs:List ao}(h:jG w B ps pgs){S:a1}(k:Kp w w' S)(f:TypeId)(ψ:∀i,S i->Typed w f i)(cc:cG≠f):jG w' B ps pgs:=
 ⟨h.len,λi bm hp=>by obtain⟨p,c,h1,η⟩:=h.row i bm hp;exact⟨p,c,h1,η.cI k f ψ cc⟩⟩
theorem jG.grown{W bE:World}{B C:Nat}{ps:aU}{pgs:List ao}(h:jG W B ps pgs)(k:Kp W bE (vx W C)):jG bE B ps pgs:=
 ⟨h.len,λi bm hp=>by obtain⟨p,c,h1,η⟩:=h.row i bm hp;exact⟨p,c,h1,η.grown k⟩⟩
theorem jG.c0{w w':World}{B:Nat}{ps:aU}{pgs:List ao}(h:jG w B ps pgs)(k:∀{p:J}{c:Nat}{bm:ao},μ w B cG 1 p 64 c (bg bm)->μ w' B cG 1 p 64 c (bg bm)):jG w' B ps pgs:=
 ⟨h.len,λi bm hp=>by obtain⟨p,c,h1,η⟩:=h.row i bm hp;exact⟨p,c,h1,k η⟩⟩
theorem jG.snoc{w:World}{B:Nat}{ps:aU}{pgs:List ao}(h:jG w B ps pgs){p:J}{c:Nat}{bm:ao}(γ:μ w B cG 1 p 64 c (bg bm)):jG w B (ps++[.slice p 64 c]) (pgs++[bm]):=by
 refine⟨by simp[h.len],λi Fq hp=>?_⟩;by_cases o:i<pgs.length
 ·rw[List.getElem?_append_left o]at hp;obtain⟨bU,aT,h1,η⟩:=h.row i Fq hp;exact⟨bU,aT,by rw[List.getElem?_append_left (by rw[h.len];exact o)];exact h1,η⟩
 ·rw[List.getElem?_append_right (by omega)]at hp;have aF:i-pgs.length=0:=by
   cases ay:i-pgs.length with
   |zero=>rfl
   |succ n=>rw[ay]at hp;simp at hp
  rw[aF]at hp;obtain rfl:bm=Fq:=by simpa using hp
  refine⟨p,c,?_,γ⟩;rw[List.getElem?_append_right (by rw[h.len];omega),h.len,aF];rfl
theorem jG.cons{w:World}{B:Nat}{ps:aU}{pgs:List ao}(h:jG w B ps pgs){p:J}{c:Nat}{bm:ao}(γ:μ w B cG 1 p 64 c (bg bm)):jG w B (.slice p 64 c::ps) (bm::pgs):=by
 refine⟨by simp[h.len],λi Fq hp=>?_⟩;cases i with
 |zero=>
  obtain rfl:bm=Fq:=by simpa using hp
  exact⟨p,c,rfl,γ⟩
 |succ i=>
  obtain⟨bU,aT,h1,η⟩:=h.row i Fq (by simpa using hp);exact⟨bU,aT,by simpa using h1,η⟩
theorem jG.one{w:World}{B:Nat}{ps:aU}{pgs:List ao}(h:jG w B ps pgs):∀z∈ps,z.oneCell'=true:=by
 intro z aI;obtain⟨i,o⟩:=List.getElem?_of_mem aI;have bQ:i<pgs.length:=by rw[<-h.len];exact(List.getElem?_eq_some_iff.1 o).1
 obtain⟨p,c,h1,_⟩:=h.row i _ (List.getElem?_eq_getElem bQ);rw[o]at h1;cases h1;rfl
theorem aqu(m:Nat):min2 52 (m:Int)=((min 52 m:Nat):Int):=by unfold min2;split<;>omega
theorem aqf{n j:Nat}(h:52*j<n):j<fA n:=by unfold fA;omega
theorem akT{n j:Nat}(h:n<=52*j):fA n<=j:=by unfold fA;omega
def SI(p:J)(n:Nat)(j:Nat):Value:=.slice (dA p (52*j+dX n j) (52*j) 1) (dX n j) (dX n j)
theorem aiv{w:World}{nS kA dN cW:Nat}{p:J}{n c:Nat}(K7:μ w nS gU 1 (some ⟨dN,0,none⟩) 1 1 [.slice p n c])(ρ:μ w kA ck 1 (some ⟨cW,0,none⟩) 1 1 [.int .i64 52])(ar:n<=100000)(jZ:n<=c):
  SeqStopsK Fence.wide 0 prog 172 #[.pointer (some ⟨dN,0,none⟩),.pointer (some ⟨cW,0,none⟩)] (λx:_root_.Fin (fA n)=>#[SI p n x.val]) (vv dN cW) (λxs=>xs.map (·.val)=List.range (fA n)) (λ_=>True) (fA n) w:=by
 intro l C6 Ro W ω J6 Tl ag aF;have x:=Kp.ade ω;have AQ:=K7.aC x (λa aP=>by cases aP;have:=(K7.ge rfl).2;dsimp only at this⊢;omega);have ad:=ρ.aC x (λa aP=>by cases aP;have:=(ρ.ge rfl).2;dsimp only at this⊢;omega);show tx.C l dN cW W _;apply tx.ok;unfold tx.main tx.bd;refine⟨λt0 t1 t2 t4 w'=>l=t0/\dN=t1/\cW=t2/\GP dN cW (.slice p n c) (.int .i64 52) w'/\∃xs:List (_root_.Fin (fA n)),t4=((52*xs.length:Nat):Int)/\xs.map (·.val)=List.range xs.length/\C6 xs w',λt0 t1 t2 t4 w'=>(n+52-t4).toNat,⟨rfl,rfl,rfl,⟨AQ.at (by rfl),ad.at (by rfl)⟩,[],rfl,rfl,aF⟩,?_⟩;rintro _ _ _ t4 w' ⟨rfl,rfl,rfl,⟨fI,c1⟩,xs,rfl,h8,χ⟩;have hlen:xs.length<=fA n:=by
  have h1:=rZ (List.range xs.length) (List.range (fA n)) PJ λi o=>by rw[<-h8]at o;obtain⟨y,_,rfl⟩:=gM.1 o;exact nF.2 y.isLt
  simpa using h1
 unfold tx.ε;refine⟨p,n,c,fI,?_⟩;refine bA (λh=>?_) λh=>?_
 ·have bQ:=cd h;have Ap:xs.length<fA n:=aqf (by omega);have Et:=R9 Ap;have Hp:dX n xs.length=min 52 (n-52*xs.length):=rfl;refine⟨52,c1,p,n,c,fI,bO (bC (by omega)) (bO (bC (by omega)) ⟨p,n,c,fI,?_⟩)⟩;rw[cP,aqu,<-Hp];have Ai:IntKind.i64.wrap (((52*xs.length:Nat):Int)+(dX n xs.length:Int))=((52*xs.length+dX n xs.length:Nat):Int):=by
   rw[b3 (by omega) (by omega)];rfl
  rw[Ai,cP];refine bO (bC (by omega)) (bO (bC (by omega)) (bO (bC (by omega)) (bO (bC (by omega)) (bO (bC (by omega)) (bO (bC (by omega)) ?_)))));have bz:52*xs.length+dX n xs.length-52*xs.length=dX n xs.length:=by omega
  rw[bz];have e3:C6 xs w'.drew:=J6 _ _ _ none χ (aat w') (λr e=>by cases e);obtain⟨fn,tmps,assign,body,il,y1⟩:=ag xs ⟨xs.length,Ap⟩ w'.drew e3 Ap;refine⟨fn,tmps,assign,body,il,y1.mono λe δ he=>?_⟩;rcases he with⟨rfl,xD,hk⟩|⟨rfl,xD⟩
  ·refine⟨_,rfl,?_⟩
   try dsimp only[dH]
   have n2:=hk _ _ ⟨fI,c1⟩;refine⟨52,n2.2,?_⟩;rw[b3 (by omega) (by omega)];refine⟨⟨rfl,rfl,rfl,n2,xs++[⟨xs.length,Ap⟩],?_,?_,xD⟩,by((try dsimp only);omega)⟩
   ·rw[e9,AU];omega
   ·rw[qt,h8,e9,AU,u2];rfl
  ·refine⟨_,rfl,?_⟩
   try dsimp only[dH]
   exact⟨⟨_,rfl⟩,.inr ⟨_,trivial,xD⟩⟩
 ·have h:=dh h;have η:=akT (n:=n) (j:=xs.length) (by omega)
  have:xs.length=fA n:=by omega
  refine⟨⟨_,rfl⟩,.inl ⟨xs,?_,χ⟩⟩;show xs.map (·.val)=List.range (fA n);rw[h8,this]
theorem akJ{w:World}{p:J}{t:ao}(π:a8 w p (bg t)){j:Nat}(χ:j<fA t.length):a8 w (dA p (52*j+dX t.length j) (52*j) 1) (bg (chunk t j)):=by
 have h:=R9 χ;have h1:=(π.take (52*j+dX t.length j)).slice (52*j+dX t.length j) (52*j) (dX t.length j) (by rw[gY];omega);rw[FE,AX]at h1;have e:min (dX t.length j) (52*j+dX t.length j-52*j)=dX t.length j:=by omega
 rw[e]at h1;unfold chunk bg;rw[wF,x2];exact h1
structure yn(W:World)(aH af:Nat)(q:Int)(aX:J)(br:Nat)(part:ao)(B:Nat)(eZ:J)(gR h3:Nat)(ps:aU):Prop where
 b7:μ W 0 ck 1 (some ⟨aH,0,none⟩) 1 1 [.int .i64 q]
 cp:μ W 0 vg 1 (some ⟨af,0,none⟩) 1 1 [.slice eZ gR h3]
 cells:a8 W aX (bg part)
 Pq:part.length=br
 VL:br<=52
 Ln:Bytes part
 V1:0<=q/\q<4294967296
 n256:gR<256
 list:μ W B gU 1 eZ gR h3 ps
 low:B<=W.heap.size
section
variable{α:Type}{fx:World->ai}{bw:List α->ai}{pre:List α}{x:α}{W:World}{aH af:Nat}{q:Int}{aX:J}{br:Nat}{part:ao}{B:Nat}{eZ:J}{gR h3:Nat}{ps:aU}
def c5(p:J)(i:Nat):Prop:=∃a,p=some a/\a.block=i
def Bl(fx:World->ai)(bw:List α->ai)(pre:List α)(x:α)(W:World)(af:Nat)(q:Int)(part:ao)(B:Nat)(eZ:J)(gR:Nat)(ps:aU):Prop:=
 ∀(iq:J)(mw:Nat)(bU:J)(aT:Nat)(fT:World),Kp W fT (c5 eZ)->μ fT W.heap.size cG 1 iq 64 mw (bg (AH q gR part))->μ fT B gU 1 bU (gR+1) aT (ps++[.slice iq 64 mw])->bo.ρ α fx bw pre x fT af bU gR aT W
theorem ajU(c:yn W aH af q aX br part B eZ gR h3 ps)(iT:Bl fx bw pre x W af q part B eZ gR ps){w:World}(I:θ W w){iq:J}{mw:Nat}(γ:μ w W.heap.size cG 1 iq 64 mw (bg (AH q gR part))):bo.bu α fx bw pre x w iq 64 mw af eZ gR h3 W:=by unfold bo.bu;rintro iZ iW rfl rfl;have eM:=μ.new (w:=w) [.slice iq 64 mw] gU;have aV:=θ.alloc w (.cells [Value.slice iq 64 mw].toArray gU);generalize w.alloc (.cells #[.slice iq 64 mw] gU)=iW at eM aV⊢;have Aw:=I.trans aV;refine⟨(c.cp.ex Aw).at (by rfl),?_⟩;unfold bo.az;have an:=c.list.ex Aw;have axR:=c.n256;refine kT (B:=B) an (fo c.low Aw.size) [.slice iq 64 mw] eM.cells rfl aeD rfl (by omega) (by omega) ?_;intro bU aT fT jm hU;have aO:∀i,(∃y,eZ=some y/\y.block=i)->Typed iW gU i:=λi⟨y,e,o⟩=>o▸(an.typed e).1;exact iT iq mw bU aT fT (Kp.trans (Aw.aC _) hU (λi _ h=>h) λi _⟨y,e,o⟩=>⟨y,e,o⟩) ((γ.ex aV).cI hU gU aO (by decide)) jm
theorem ap2(c:yn W aH af q aX br part B eZ gR h3 ps):Bytes (uP q gR part):=by have h1:=c.n256;have η:=c.Pq;have au:=c.VL;refine Bytes.append (Bytes.append (bt.BG 4 q) λx I=>?_) c.Ln;simp only[fE,oj,pa]at I;omega
theorem ajV(c:yn W aH af q aX br part B eZ gR h3 ps)(iT:Bl fx bw pre x W af q part B eZ gR ps){w:World}(I:θ W w){iB:J}{nt:Nat}(s:cQ W w iB 6 nt (bt.be 4 q++[(gR:Int),(br:Int)])):bo.cz α fx bw pre x w iB 6 nt br aX af eZ gR h3 W:=by
 have axU:=c.VL;unfold bo.cz;refine kT (B:=W.heap.size) s I.size (bg part) (a8.ex I c.cells) (by rw[rl,c.Pq,eG]) (CS _) rfl (by omega) (by omega) ?_;intro nD lX eK eM hK;have aV:θ W eK:=I.then hK λi⟨y,e,o⟩=>by have:=(μ.ge s e).1;omega
 refine⟨(c.cp.ex aV).at (by rfl),?_⟩;unfold bo.cm;have sV:bt.be 4 q++[(gR:Int),(br:Int)]++part=uP q gR part:=by unfold uP;rw[c.Pq]
 have eM:μ eK W.heap.size cG 1 nD (6+br) lX (bg (uP q gR part)):=by rw[<-sV,<-I3];exact eM
 refine κ.use (aeo nD (6+br) lX (uP q gR part) eK eM.cells (by rw[OV,c.Pq]) (ap2 c) (by omega)) ?_;rintro _ fY ⟨iq,mw,rfl,ff,ct⟩
 try dsimp only[er]
 refine⟨(c.cp.ex (aV.trans ct)).at (by rfl),?_⟩;exact ajU c iT (aV.trans ct) (ff.lower aV.size)
theorem Yt(c:yn W aH af q aX br part B eZ gR h3 ps)(iT:Bl fx bw pre x W af q part B eZ gR ps){w:World}(I:θ W w){fD:J}{h2 gb:Nat}(s:cQ W w fD 4 h2 (bt.be 4 q))(iv:e2 w gb [(gR:Int),(br:Int)]):bo.bS α fx bw pre x fD 4 h2 gb w af eZ gR h3 br aX W:=by have h1:=c.n256;have au:=c.VL;unfold bo.bS;refine Ib I s iv (aej _ _ ⟨by omega,by omega⟩ ⟨by omega,by omega⟩) 6 2 rfl rfl (by omega) (by decide) λp aT w' x g h=>?_;dsimp only[er];exact⟨(c.cp.ex x).at (by rfl),ajV c iT x h⟩
theorem adQ(c:yn W aH af q aX br part B eZ gR h3 ps){w:World}{N:Value->ai}{X:List PanicEntry->ai}(I:θ W w){dC:Nat}(c9:e2 w dC [q])
  (K:∀p c w',θ W w'->(∀b l,e2 w b l->e2 w' b l)->cQ W w' p 4 c (bt.be 4 q)->N (.slice p 4 c) w'):κ prog 139 #[.slice none 0 0,.int .i64 4,.slice (some ⟨dC,0,none⟩) 1 1] w N X:=
 Ib I (p:=none) (n:=0) (c:=0) (xs:=[]) (μ.nil _ _ _ _) c9 (Wj c.V1) 4 1 (by rw[bt.sI]) rfl (by omega) (by decide) K
theorem ajW(c:yn W aH af q aX br part B eZ gR h3 ps)(iT:Bl fx bw pre x W af q part B eZ gR ps){w:World}(I:θ W w){fD:J}{h2:Nat}(s:cQ W w fD 4 h2 (bt.be 4 q)):bo.eM α fx bw pre x w gR br af eZ gR h3 fD 4 h2 aX W:=by unfold bo.eM;refine hn I [(gR:Int),(br:Int)] λgb gP x h=>?_;exact⟨(c.cp.ex (I.trans x)).at (by rfl),Yt c iT (I.trans x) (s.ex x) h⟩
theorem Yu(c:yn W aH af q aX br part B eZ gR h3 ps)(iT:Bl fx bw pre x W af q part B eZ gR ps){w:World}(I:θ W w){dC qQ:Nat}(c9:e2 w dC [q])(dr:e2 w qQ [(gR:Int),(br:Int)]):bo.ff α fx bw pre x dC w af eZ gR h3 qQ br aX W:=by unfold bo.ff;refine adQ c I c9 λp aT w' x g h=>?_;dsimp only[er];exact⟨(c.cp.ex x).at (by rfl),Yt c iT x h (g _ _ dr)⟩
theorem ajX(c:yn W aH af q aX br part B eZ gR h3 ps)(iT:Bl fx bw pre x W af q part B eZ gR ps){w:World}(I:θ W w){dC:Nat}(c9:e2 w dC [q]):bo.jm α fx bw pre x dC w af eZ gR h3 eZ gR h3 br aX W:=by
 unfold bo.jm;refine⟨?_,?_⟩
 ·refine adQ c I c9 λp aT w' x g h=>?_;dsimp only[er];exact⟨(c.cp.ex x).at (by rfl),(c.cp.ex x).at (by rfl),ajW c iT x h⟩
 ·refine hn I [(gR:Int),(br:Int)] λqQ hg x h=>?_;exact⟨(c.cp.ex (I.trans x)).at (by rfl),Yu c iT (I.trans x) (c9.ex x) h⟩
theorem ajS(c:yn W aH af q aX br part B eZ gR h3 ps)(iT:Bl fx bw pre x W af q part B eZ gR ps){w:World}(I:θ W w){vI:Nat}(p8:e2 w vI [(gR:Int),(br:Int)]):bo.qk α fx bw pre x w q af eZ gR h3 vI br aX W:=by unfold bo.qk;refine hn I [q] λJB ox x h=>?_;exact⟨(c.cp.ex (I.trans x)).at (by rfl),Yu c iT (I.trans x) h (p8.ex x)⟩
theorem ajT(c:yn W aH af q aX br part B eZ gR h3 ps)(iT:Bl fx bw pre x W af q part B eZ gR ps):bo.r2 α fx bw pre x W q af eZ gR h3 eZ gR h3 br aX aH:=by
 unfold bo.r2;have I:=θ.drew W;refine⟨?_,?_⟩
 ·refine hn I [q] λdC dJ x h=>?_;exact⟨(c.cp.ex (I.trans x)).at (by rfl),(c.cp.ex (I.trans x)).at (by rfl),ajX c iT (I.trans x) h⟩
 ·refine hn I [(gR:Int),(br:Int)] λvI nM x h=>?_;exact⟨(c.b7.ex (I.trans x)).at (by rfl),(c.cp.ex (I.trans x)).at (by rfl),ajS c iT (I.trans x) h⟩
end
end Go.Proofs.YtcpdfhkhaekekaaGreat.G.cr
namespace Go.Proofs.YtcpdfhkhaekekaaGreat.G.cr
open Tryz
open Go.bI Go.RowKit
theorem atz{e:fL}(h:qM e):e.2.2.length<=32:=by
 by_cases aF:e.1=0
 ·have:=h.2.2.1 aF
  have:=h.1
  omega
 ·have:=h.2.2.2 aF
  have:=h.1
  omega
theorem H8{R:bW}(dr:R.length=8)(h:lE R)(m:Int):(e4 m R).length<=528:=by
 have key:∀k,k<=8->(e4 m (R.take k)).length<=k*66:=by
  intro k
  induction k with
  |zero=>intro _;simp[e4]
  |succ k cq=>
   intro hk;have n2:k<R.length:=by omega
   rw[Qx (List.getElem?_eq_getElem n2),e9,VN];have h1:=atz (h _ (hN n2));have au:=cq (by omega);omega
 have:=key 8 (eF _)
 rw[hr (by omega)]at this;exact this
theorem arJ{R:bW}(dr:R.length=8)(m:Int):16<=(e4 m R).length:=by
 have key:∀k,k<=8->k*2<=(e4 m (R.take k)).length:=by
  intro k
  induction k with
  |zero=>intro _;simp[e4]
  |succ k cq=>
   intro hk;have n2:k<R.length:=by omega
   rw[Qx (List.getElem?_eq_getElem n2),e9,VN];have au:=cq (by omega);omega
 have:=key 8 (eF _)
 rw[hr (by omega)]at this;exact this
def uU(q:Int):Prop:=1<=q/\q<=1073741824
structure Laid(w:World)(Je ι aH af:Nat)(s m q:Int)(t:ao)(ad:J)(c1:Nat)(xs:List Nat)(W:World):Prop where
 ex:θ w W
 bP:μ W 0 b5 2 (some ⟨ι,0,none⟩) 1 1 (two s m)
 b7:μ W 0 ck 1 (some ⟨aH,0,none⟩) 1 1 [.int .i64 q]
 text:μ W 0 cG 1 ad t.length c1 (bg t)
 low:Je<=W.heap.size
 out:∃eZ h3 ps,μ W 0 vg 1 (some ⟨af,0,none⟩) 1 1 [.slice eZ xs.length h3]/\μ W Je gU 1 eZ xs.length h3 ps/\jG W w.heap.size ps (r0 q t xs)
theorem Laid.grown{w W bE:World}{Je ι aH af C:Nat}{s m q:Int}{t:ao}{ad:J}{c1:Nat}{xs:List Nat}(h:Laid w Je ι aH af s m q t ad c1 xs W)(k:Kp W bE (vx W C))(hC:w.heap.size<=C):Laid w Je ι aH af s m q t ad c1 xs bE:=by obtain⟨h1,η,au,bV,an,eZ,h3,ps,c9,iv,h7⟩:=h;exact⟨h1.later k hC,η.grown k,au.grown k,bV.grown k,fo an k.size,eZ,h3,ps,c9.grown k,iv.grown k,h7.grown k⟩
theorem ak5(t:ao):bt.pg 4 [u (more 0#32 t)]=bt.be 4 (u (more 0#32 t)):=Wj (QI _)
theorem aa2{H:gI}(h:H.Ok)(t:ao):Bytes (rM H t):=by refine Bytes.append (Bytes.append (Bytes.append (Bytes.append aeC (bt.BG _ _)) λx I=>?_) (bt.BG _ _)) (bt.BG _ _);have h1:=h.s;have η:=h.k;have au:=h.m;simp only[fE,oj,pa]at I;omega
theorem XL{w:World}{R:bW}{ps:aU}(h:ie w R ps)(s m q:Int):bo.C (bN R ps).toArray s m q w (φ λv w'=>θ w w'/\
  ((uU q/\lV s m R/\∃p n c tl,v=.tuple #[.slice p n c,.int .i64 0]/\μ w' w.heap.size gU 1 p n c tl/\jG w' w.heap.size tl (iH s m q (e4 m R)))\/
  (¬(uU q/\lV s m R)/\∃e,e≠0/\v=.tuple #[.slice none 0 0,.int .i64 e]))):=by
 apply bo.ok;unfold bo.main;rintro ε δ rfl rfl ι υ rfl rfl aH aa rfl rfl;have ρ:=μ.new (w:=w) (bN R ps) bX;have ζ:=θ.alloc w (.cells (bN R ps).toArray bX);generalize eb:w.heap.size=ε at ρ⊢;generalize w.alloc (.cells (bN R ps).toArray bX)=δ at ρ ζ⊢;have az:=(μ.new (w:=δ) (two s m) b5).lower (da _);have τ:=θ.alloc δ (.cells (two s m).toArray b5);have bz:δ.alloc (.cells #[.int .i64 s,.int .i64 m] b5)=δ.alloc (.cells (two s m).toArray b5):=rfl;rw[bz];generalize δ.heap.size=ι at az⊢;generalize δ.alloc (.cells (two s m).toArray b5)=υ at az τ⊢;have bu:=(μ.new (w:=υ) [.int .i64 q] ck).lower (da _);have ab:=θ.alloc υ (.cells [Value.int .i64 q].toArray ck);generalize υ.heap.size=aH at bu⊢;generalize υ.alloc (.cells #[.int .i64 q] ck)=aa at bu ab⊢;have ρ:=ρ.ex (τ.trans ab);have az:=az.ex ab;have I:=ζ.trans (τ.trans ab);clear ζ τ ab
 have bad:∀{w':World}{e:Int},θ aa w'->¬(uU q/\lV s m R)->e≠0->φ (λv w'=>θ w w'/\
   ((uU q/\lV s m R/\∃p n c tl,v=.tuple #[.slice p n c,.int .i64 0]/\μ w' ε gU 1 p n c tl/\jG w' ε tl (iH s m q (e4 m R)))\/
   (¬(uU q/\lV s m R)/\∃e,e≠0/\v=.tuple #[.slice none 0 0,.int .i64 e]))) (.returned (.tuple #[.slice none 0 0,.int .i64 e])) w':=λl8 ar he=>φ.mk ⟨I.trans l8,.inr ⟨ar,_,he,rfl⟩⟩
 refine⟨q,bu.at (by rfl),?_⟩;refine bA (λπ=>?_) λπ=>?_
 ·have π:=cd π;exact bad (θ.refl _) (λh=>by have:=h.1.1;omega) (by decide)
 have abF:=dh π;refine⟨q,bu.at (by rfl),?_⟩;refine bA (λπ=>?_) λπ=>?_
 ·have π:=cd π;exact bad (θ.refl _) (λh=>by have:=h.1.2;omega) (by decide)
 have Us:=dh π;have ay:uU q:=⟨by omega,by omega⟩;have au:=h.ex I;refine⟨(bN R ps).toArray,by rw[fp];exact h.dX,ρ.cells,(two s m).toArray,rfl,az.cells,?_⟩;refine κ.use (XP au s m) ?_;rintro _ ax ⟨⟨e,rfl,he⟩,aA⟩
 try dsimp only[bH]
 refine bA (λπ=>?_) λπ=>?_
 ·have π:¬e=0:=by simpa using π
  exact bad aA (λh=>π (he.2 h.2)) π
 have π:e=0:=by simpa using π
 have ke:=he.1 π;have eo:=uQ.1 ke.1.1;have OB:=H8 h.len ke.1.2.1 m;have axV:=arJ h.len m;have HC:=adG (k:=m) h.ok;refine⟨(bN R ps).toArray,by rw[fp];exact h.dX,(ρ.ex aA).cells,(two s m).toArray,rfl,(az.ex aA).cells,?_⟩;refine κ.use (arK (au.ex aA) ke) ?_;rintro _ ba ⟨⟨ad,c1,rfl,bS⟩,aJ⟩
 try dsimp only[er]
 generalize e4 m R=t at*;have bS:μ ba 0 cG 1 ad t.length c1 (bg t):=bS.lower (da _);have QX:=aA.trans aJ;have az:=az.ex QX;have bu:=bu.ex QX;have I:=I.trans QX;clear aA aJ QX ρ bad;rintro af b9 rfl rfl;have mC:w.heap.size<=ba.heap.size:=I.size;have cm:=(μ.new (w:=ba) [.slice none 0 0] vg).lower (da _);have ct:=θ.alloc ba (.cells [Value.slice none 0 0].toArray vg);generalize ba.heap.size=af at cm mC⊢;generalize ba.alloc (.cells #[.slice none 0 0] vg)=b9 at cm ct⊢;have az:=az.ex ct;have bu:=bu.ex ct;have bS:=bS.ex ct;have I:=I.trans ct;clear ct;refine κ.use (Q9 ad t.length c1 b9) ?_;rintro _ ca ⟨dN,cW,rfl,cv,oo,cS⟩;refine bO (by rfl) ?_;have az:=az.ex cv;have bu:=bu.ex cv;have bS:=bS.ex cv;have axb:af<b9.heap.size:=(cm.ge rfl).2;have cm:=cm.ex cv;have KB:b9.heap.size<=dN:=(oo.ge rfl).1;have abF:b9.heap.size<=cW:=(cS.ge rfl).1;have aoO:dN<ca.heap.size:=(oo.ge rfl).2;have aoP:cW<ca.heap.size:=(cS.ge rfl).2;have I:=I.trans cv;have ax9:=cv.size;clear cv;have apt:=I.size;have aaX:fA t.length<=11:=by unfold fA;omega
 refine⟨_root_.Fin (fA t.length),λx=>SI ad t.length x.val,vv dN cW,λxs=>xs.map (·.val)=List.range (fA t.length),λ_=>True,fA t.length,
  λxs W=>Laid w ca.heap.size ι aH af s m q t ad c1 (xs.map (·.val)) W/\GP dN cW (.slice ad t.length c1) (.int .i64 52) W,λ_ _=>False,?_,?_,?_,?_⟩
 ·refine⟨aiv oo cS (by omega) bS.2.1,λh k=>h.trans k,λW l γ hd _ aE π _=>vv.book W l γ hd aE π,?_,λ_ _ _ _ h=>h.elim,⟨⟨I,az,bu,bS,eF _,none,0,[],cm,μ.nil _ _ _ _,jG.nil _ _⟩,⟨oo.at (by rfl),cS.at (by rfl)⟩⟩⟩;intro xs W bE row gp TV σ;have k:=Kp.grown TV σ;refine⟨gp.1.grown k apt,?_⟩;have two:∀{a:Addr}{v:Value},W.cell? a=some v->bE.cell? a=some v:=λ{a v}aL=>k.cell aL λar=>by
   obtain⟨_,γ,aE,gg⟩:=ar;unfold World.cell? at aL;rw[aE]at aL;cases γ<;>first|(simp at aL;done)|(cases gg;done)
  exact⟨two gp.2.1,two gp.2.2⟩
 ·intro pre x cH gp Uq;obtain⟨⟨g1,g2,g3,g4,vS,eZ,h3,rs,g5,g6,g7⟩,kW⟩:=gp;have KM:=x.isLt;have Et:=R9 KM;have gg:=Nq t x.val;unfold SI
  try dsimp only[er]
  have d:=θ.drew cH;refine⟨eZ,_,h3,(g5.ex d).at (by rfl),q,(g3.ex d).at (by rfl),eZ,_,h3,(g5.ex d).at (by rfl),?_⟩;have hlen:(pre.map (·.val)).length<256:=by rw[jP];omega
  refine ajT (part:=chunk t x.val) (B:=ca.heap.size) (ps:=rs) ⟨g3,g5,akJ g4.cells KM,gg,Et.2.2,(HC.drop _).take _,⟨by have:=ay.1;omega,by have:=ay.2;omega⟩,hlen,g6,vS⟩ ?_;intro iq mw bU aT fT wh t8 t9;unfold bo.ρ;have j1:∀i,c5 eZ i->Typed cH gU i:=λi⟨y,e,o⟩=>o▸(g6.typed e).1;have cp:=g5.cI wh gU j1 (by decide);refine cp.dj (Iu 0) (by rfl) λqF Cg E6=>?_;have oZ:Kp cH qF λi=>c5 eZ i\/i=af:=Kp.trans wh Cg (λi _ h=>.inl h) λi _ h=>.inr h;have akn:=(cp.typed rfl).1;have lT:∀i,i=af->Typed fT vg i:=λi o=>by rw[o];exact akn
  have sX:∀i,i<ca.heap.size->af≠i->¬(c5 eZ i\/i=af):=λi o cc h=>by
   rcases h with⟨y,e,ag⟩|h
   ·have:=(g6.ge e).1
    omega
   ·exact cc h.symm
  have two:GP dN cW (.slice ad t.length c1) (.int .i64 52) qF:=⟨oZ.cell kW.1 (sX _ aoO (by dsimp only;omega)),oZ.cell kW.2 (sX _ aoP (by dsimp only;omega))⟩;refine⟨KeepsOthers.adf oZ ?_,?_,?_,two⟩
  ·rintro i _ (o|rfl)
   ·exact⟨_,j1 i o⟩
   ·exact⟨_,(g5.typed rfl).1⟩
  ·intro v0 v1 π;have hI:=π.1.symm.trans kW.1;have aM:=π.2.symm.trans kW.2;cases hI;cases aM;exact two
  ·have alK:(pre++[x]).map (·.val)=pre.map (·.val)++[x.val]:=by simp
   have ZQ:(pre.map (·.val)++[x.val]).length=(pre.map (·.val)).length+1:=by simp
   rw[alK];have aD:b5≠gU:=by decide
   have br:ck≠gU:=by decide
   have dz:cG≠gU:=by decide
   refine⟨(g1.then wh λi⟨y,e,o⟩=>by have:=(g6.ge e).1;omega).then Cg λi o=>by omega,(g2.cI wh gU j1 aD).cI Cg vg lT (by decide),(g3.cI wh gU j1 br).cI Cg vg lT (by decide),(g4.cI wh gU j1 dz).cI Cg vg lT (by decide),fo vS oZ.size,bU,aT,rs++[.slice iq 64 mw],?_,?_,?_⟩
   ·rw[ZQ];exact E6
   ·rw[ZQ];exact t9.cI Cg vg lT (by decide)
   ·rw[acs];exact((g7.cI wh gU j1 dz).cI Cg vg lT (by decide)).snoc ((t8.lower g1.size).cI Cg vg lT (by decide))
 ·intro D xs cn b1 h8 gp Eu;have h8:xs.map (·.val)=List.range (fA t.length):=h8;obtain⟨⟨g1,g2,g3,g4,vS,eZ,h3,rs,g5,g6,g7⟩,_⟩:=gp;rw[h8,CA]at g5 g6;rw[h8]at g7;have d:=θ.drew cn;have uF:fA t.length<256:=by unfold fA;omega
  refine⟨q,(g3.ex d).at (by rfl),s,(g2.ex d).at (by rfl),m,(g2.ex d).at (by rfl),eZ,_,h3,(g5.ex d).at (by rfl),?_⟩;have dq:(yS s m q t).Ok:=⟨⟨by have:=ay.1;show 0<=q;omega,by have:=ay.2;show q<_;omega⟩,⟨by show 0<=s;omega,by show s<_;omega⟩,⟨by show 0<=m;omega,by show m<_;omega⟩,uF,by show t.length<_;omega⟩;refine ajP (H:=yS s m q t) ⟨dq,g2,g3,g5⟩ ?_ (θ.refl cn);intro wy vJ qG awF pK;have d58:=awF.trans (θ.drew qG);refine⟨eZ,_,h3,(g5.ex d58).at (by rfl),?_⟩;unfold bo.Cn;refine κ.use (Yd ad t.length c1 t _ (g4.ex d58).cells rfl (by omega) HC) ?_;rintro _ ME ⟨rfl,aie⟩
  try dsimp only[NF]
  have yN:=d58.trans aie;have pK:=(pK.ex (θ.drew qG)).ex aie;refine⟨(g5.ex yN).at (by rfl),?_⟩;unfold bo.r4;have TE:=QI (more 0#32 t);rw[b3 (x:=u (more 0#32 t)) (by omega) (by omega)];refine hn yN [u (more 0#32 t)] λDs MF aif ank=>?_;have aaA:=yN.trans aif;have pK:=pK.ex aif;refine⟨(g5.ex aaA).at (by rfl),?_⟩;unfold bo.tg;refine Ib aaA pK ank (ak5 t) 17 1 (by rw[bt.sI]) rfl (by omega) (by decide) λLk JH CW Xm _ si=>?_;dsimp only[er];refine⟨(g5.ex Xm).at (by rfl),?_⟩;unfold bo.r3;refine κ.use (aeo Lk 17 JH (rM (yS s m q t) t) CW (μ.cells si) (Hr _ _) (aa2 dq t) (by omega)) ?_;rintro _ sv ⟨Cr,BJ,rfl,E7,awG⟩
  try dsimp only[er]
  have Th:=Xm.trans awG;refine⟨(g5.ex Th).at (by rfl),?_⟩;unfold bo.o3;rintro xi Be rfl rfl;have pG:=μ.new (w:=sv) [.slice Cr 64 BJ] gU;have Xn:=θ.alloc sv (.cells [Value.slice Cr 64 BJ].toArray gU);have aaM:cn.heap.size<=sv.heap.size:=Th.size;generalize sv.heap.size=xi at pG aaM⊢;generalize sv.alloc (.cells #[.slice Cr 64 BJ] gU)=Be at pG Xn⊢;have J2:=Th.trans Xn;refine⟨(g5.ex J2).at (by rfl),?_⟩;unfold bo.AK;have dR:w.heap.size<=xi:=fo g1.size aaM;refine kT (B:=w.heap.size) (pG.lower dR) (g1.trans J2).size rs (g6.ex J2).cells g6.1 g7.one rfl (by omega) (by omega) ?_;intro VK R3 vo wm apL;have U0:Kp Be vo λi=>i=xi:=apL.mono λi _⟨y,e,o⟩=>by cases e;exact o.symm
  have aaC:θ cn vo:=J2.then U0 λi o=>by omega
  have anM:D<cn.heap.size:=(Array.getElem?_eq_some_iff.1 Eu).1;have aa1:vo.heap[D]?=some (.deferred (some [])):=by rw[aaC.block D anM id];exact Eu
  refine⟨aa1,?_⟩;have ob:=Kp.putObj vo D (.deferred none);have pA:∀i,i=D->vx vo 0 i:=λi o=>⟨da _,.deferred (some []),by rw[o];exact aa1,rfl⟩;have c0:∀{B e sz n c:Nat}{p:J}{xs:aU},μ vo B e sz p n c xs->μ (vo.putObj D (.deferred none)) B e sz p n c xs:=λγ=>γ.aC ob λy ag o=>(pA _ o).typed (γ.typed ag).1;have t18:∀i,i=xi->Typed Be gU i:=λi o=>by rw[o];exact(pG.typed rfl).1
  have f26:μ vo w.heap.size cG 1 Cr 64 BJ (bg (nx (yS s m q t) t)):=((E7.lower (g1.trans Xm).size).ex Xn).cI U0 gU t18 (by decide);have f8:=(g7.ex J2).cI U0 gU t18 (by decide);subst eb;refine φ.mk ⟨(g1.trans aaC).then ob λi o=>by rw[o];exact fo I.size b1,.inl ⟨ay,ke,VK,_,R3,_,rfl,c0 wm,?_⟩⟩;exact(f8.cons f26).c0 λγ=>c0 γ
 ·intro D pre de _ _ gp _;exact gp.elim
end Go.Proofs.YtcpdfhkhaekekaaGreat.G.cr

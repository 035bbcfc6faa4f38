/- The law WholeReads of the given program is proved. Conditions: none. -/
import Derived.Test.YtcpdfhkhaekekaaGreatReads0
set_option linter.unusedVariables false
set_option linter.unusedSimpArgs false
namespace Go.Proofs.YtcpdfhkhaekekaaGreat.G.cY
open Go.bJ Go.RowKit cF dI eI cS aQ
def cont(l:List (Option fK))(b:Nat):List Int:=match(l[b]?).join with
 |none=>ba.gN
 |some x=>x.2
def AO(s:Int)(L:List (List (Option fK))):List hn:=L.map λl=>(1,s,l)
theorem ayj{s:Int}{L:List (List (Option fK))}:∀e∈AO s L,e.1≠0:=λe he=>by unfold AO at he;obtain⟨l,_,rfl⟩:=List.mem_map.1 he;show(1:Int)≠0;decide
theorem ayi{s:Int}{L:List (List (Option fK))}{v:Nat}{l:List (Option fK)}(h:L[v]?=some l):(AO s L)[v]?=some (1,s,l):=by unfold AO;rw[List.getElem?_map,h];rfl
theorem He{A:c6}{E:List hn}{v b:Nat}{k s:Int}{l:List (Option fK)}(eB:A.E[v]?=some (k,s,l))(az:v<8)(hk:k≠0)(τ:(b:Int)<s):(cQ A (nX v b)).2={fh with bs:=cont l b}:=by unfold cQ;rw[if_pos ⟨show(1:Int)<=4 by decide,show(4:Int)<=9 by decide⟩];unfold jf nX;dsimp only;rw[if_neg (by omega),if_neg (by omega),if_neg (by omega),if_pos rfl,sX az eB hk];dsimp only;rw[if_neg (by omega),Int.toNat_natCast];unfold cont;cases(l[b]?).join<;>rfl
theorem Ch{A:c6}{v b:Nat}{k s:Int}{l:List (Option fK)}(eB:A.E[v]?=some (k,s,l))(az:v<8)(hk:k≠0)(τ:(b:Int)<s):nd A v b=strOf (cont l b):=by unfold nd DZ;rw[He (E:=A.E) eB az hk τ];rfl
def hd(v b:Int)(bs:List Int):aQ.Ask:=⟨5,v,b,0,bs⟩
theorem AW{A:c6}{v b:Nat}{s:Int}{l:List (Option fK)}{bs:List Int}(eB:A.E[v]?=some (1,s,l))(az:v<8)(τ:(b:Int)<s)(jW:bs.length=64):
  cQ A (hd v b bs)=if A.cap<(l7 A.E:Int)+1 then kB A 9 else({A with E:=A.E.set v (1,s,l.set b (some (A.n,bs))),n:=A.n+1},fh):=by
 unfold cQ;rw[if_pos ⟨show(1:Int)<=5 by decide,show(5:Int)<=9 by decide⟩];unfold jf hd;dsimp only;rw[if_neg (by omega),if_neg (by omega),if_neg (by omega),if_neg (by omega),if_pos rfl,sX az eB (show(1:Int)≠0 by decide)];dsimp only;rw[if_neg (by decide),if_neg (by omega),if_neg (by omega),Int.toNat_natCast,Int.toNat_natCast,Cl eB]
theorem T0{l:List (Option fK)}{b gg:Nat}{x:fK}(τ:b<l.length):cont (l.set b (some x)) gg=if gg=b then x.2 else cont l gg:=by
 unfold cont;rw[List.getElem?_set];by_cases h:b=gg
 ·rw[if_pos h,if_pos τ,if_pos h.symm];rfl
 ·rw[if_neg h,if_neg (λe=>h e.symm)]
structure Has(A:c6)(L:List (List (Option fK)))(W:List Int):Prop where
 E:A.E=AO 32 L++List.replicate 5 oX
 len:L.length=3
 rows:∀l∈L,l.length=32
 aju:W.length=96
 has:∀v b,v<3->b<32->∀l,L[v]?=some l->cont l b=List.replicate 64 (W.getD (v*32+b) 0)
theorem Has.get{A:c6}{L:List (List (Option fK))}{W:List Int}(h:Has A L W){v:Nat}(az:v<3):∃l,L[v]?=some l/\l.length=32/\A.E[v]?=some (1,32,l):=by
 have ak:v<L.length:=by have:=h.len;omega
 refine⟨L[v],List.getElem?_eq_getElem ak,h.rows _ (List.getElem_mem ak),?_⟩;rw[h.E];exact at1 (ayi (List.getElem?_eq_getElem ak))
theorem Has.write{A:c6}{L:List (List (Option fK))}{W:List Int}(h:Has A L W){v b:Nat}(az:v<3)(τ:b<32)(x:Int):
  (cQ A (hd v b (List.replicate 64 x))=kB A 9)\/((cQ A (hd v b (List.replicate 64 x))).2=fh/\∃akz,Has (cQ A (hd v b (List.replicate 64 x))).1 akz (W.set (v*32+b) x)):=by
 obtain⟨l,ak,lD,eB⟩:=h.get az;rw[AW eB (by omega) (by omega) (by simp)];by_cases π:A.cap<(l7 A.E:Int)+1
 ·rw[if_pos π];exact .inl rfl
 rw[if_neg π];have gy:=h.len;refine .inr ⟨rfl,L.set v (l.set b (some (A.n,List.replicate 64 x))),?_,by rw[List.length_set];exact gy,λmF l0=>?_,by rw[List.length_set];exact h.aju,λqv gg n5 h2 mF l0=>?_⟩
 ·dsimp only;rw[h.E];unfold AO;rw[List.set_append_left _ _ (by rw[List.length_map];omega),<-List.map_set]
 ·rcases List.mem_or_eq_of_mem_set l0 with h1|rfl
  ·exact h.rows _ h1
  ·rw[List.length_set];exact lD
 ·rw[List.getElem?_set]at l0;rw[List.getD_eq_getElem?_getD,List.getElem?_set];have hw:=h.aju;by_cases adR:v=qv
  ·subst adR;rw[if_pos rfl,if_pos (by omega)]at l0;cases l0;rw[T0 (by omega)];by_cases rl:gg=b
   ·subst rl;rw[if_pos rfl,if_pos rfl,if_pos (by omega)];rfl
   ·rw[if_neg rl,if_neg (by omega)];rw[<-List.getD_eq_getElem?_getD];exact h.has v gg az h2 l ak
  ·rw[if_neg adR]at l0;rw[if_neg (by omega)];rw[<-List.getD_eq_getElem?_getD];exact h.has qv gg n5 h2 mF l0
def D1(k:Nat)(A:c6):Prop:=A.E=AO 32 (List.replicate k (List.replicate 32 none))++List.replicate (8-k) oX
theorem auR{A:c6}{k:Nat}(h:D1 k A)(hk:k<3):cQ A (ox 32)=((cQ A (ox 32)).1,{fh with id:=k})/\D1 (k+1) (cQ A (ox 32)).1:=by
 unfold D1 at h;rw[show 8-k=(7-k)+1 by omega]at h
 have:=Pq (s:=32) (by omega) ayj h
 rw[this];have ak:(AO 32 (List.replicate k (List.replicate 32 none))).length=k:=by unfold AO;rw[List.length_map,List.length_replicate]
 rw[ak];refine⟨rfl,?_⟩;unfold D1;dsimp only;rw[show 8-(k+1)=7-k by omega,List.replicate_succ' (n:=k)];unfold AO;rw[List.map_append];rfl
theorem aoY{A:c6}(h:D1 3 A):Has A (List.replicate 3 (List.replicate 32 none)) (List.replicate 96 0):=by refine⟨h,rfl,λl ak=>by rw[List.eq_of_mem_replicate ak];rfl,by simp,λv b az τ l ak=>?_⟩;rw[List.getElem?_replicate,if_pos az]at ak;cases ak;unfold cont;rw[List.getElem?_replicate,if_pos τ,List.getD_eq_getElem?_getD,List.getElem?_replicate,if_pos (by omega)];rfl
abbrev xS(W:List Int)(A:c6):Prop:=∃L,Has A L W
theorem ZR{w0 W:World}{pp ζ N:Nat}{jj:List Int}(h:ec w0 pp W N (xS jj))(ek:N<=100000){B:Nat}(o:μ W B 32 96 (some ⟨ζ,0,none⟩) 1 1 (a7 jj))(fX:∀x∈jj,0<=x/\x<256):
  gU.b4 (some ⟨pp,0,none⟩) ζ W (ω λv w'=>v=.bool true/\η w0 w'):=by
 have ay9:jj.length=96:=by have:=o.1;rw[sC]at this;exact this
 unfold gU.b4 gU.ob;refine⟨λt8 t9 t16 W=>some ⟨pp,0,none⟩=t8/\ζ=t9/\0<=t16/\t16<=3/\ec w0 pp W (N+200*t16.toNat) (xS jj)/\μ W B 32 96 (some ⟨ζ,0,none⟩) 1 1 (a7 jj),λ_ _ t16 _=>(3-t16).toNat,⟨rfl,rfl,by omega,by omega,h,o⟩,?_⟩;clear h o;rintro _ _ t16 W ⟨rfl,rfl,g0,g1,h,o⟩;unfold gU.ax;obtain⟨v,rfl⟩:=Int.eq_ofNat_of_zero_le g0;rw[Int.toNat_natCast]at h;refine bt (λaz=>?_) (λaz=>ω.mk ⟨rfl,h.ex⟩);have az:=of_decide_eq_true az;unfold gU.p7;refine⟨λt8 t9 t16 t17 W=>some ⟨pp,0,none⟩=t8/\ζ=t9/\(v:Int)=t16/\0<=t17/\t17<=32/\ec w0 pp W (N+200*v+6*t17.toNat) (xS jj)/\μ W B 32 96 (some ⟨ζ,0,none⟩) 1 1 (a7 jj),λ_ _ _ t17 _=>(32-t17).toNat,⟨rfl,rfl,rfl,by omega,by omega,h,o⟩,?_⟩;clear h o;rintro _ _ _ t17 W ⟨rfl,rfl,rfl,arD,sg,h,o⟩;unfold gU.aa;obtain⟨b,rfl⟩:=Int.eq_ofNat_of_zero_le arD;rw[Int.toNat_natCast]at h;refine bt (λτ=>?_) (λτ=>?_)
 ·have τ:=of_decide_eq_true τ;refine aT (by omega) (aT (by omega) (aT (by omega) (aT (by omega) ?_)));have lF:(a7 jj)[v*32+b]?=some (.int .u8 (jj.getD (v*32+b) 0)):=by
   unfold a7;rw[List.getElem?_map,List.getElem?_eq_getElem (by omega),List.getD_eq_getElem?_getD,List.getElem?_eq_getElem (by omega)];rfl
  have J:=fX (jj.getD (v*32+b) 0) (by rw[List.getD_eq_getElem?_getD,List.getElem?_eq_getElem (by omega)];exact List.getElem_mem (by omega));have Uu:(((⟨ζ,0,none⟩:Addr).add ((v:Int).toNat*32)).add ((b:Int).toNat*1))=⟨ζ,v*32+b,none⟩:=by rw[Int.toNat_natCast,Int.toNat_natCast,add_add,dG,Nat.mul_one]
  rw[Uu];have eb:=η.drew W;have h:=h.to eb;have o:=o.ex eb;generalize W.drew=W at h o⊢;generalize Qw:jj.getD (v*32+b) 0=x at lF J;refine⟨x,o.at lF,?_⟩;refine ta h (by omega) v b λeg A cc PT yC=>?_
  try dsimp only[wT]
  have o:=yC _ _ _ _ _ _ _ o (by decide);refine⟨o.at lF,?_⟩;refine κ.use (wW x J eg) ?_;rintro _ eP ⟨hz,rfl,lP,of⟩
  try dsimp only[ee]
  refine⟨List.replicate 64 x,by simp,of.cells,?_⟩;obtain⟨L,gy⟩:=cc;obtain⟨l,ak,lD,eB⟩:=gy.get (v:=v) (by omega);have s9:nd A v b=strOf (List.replicate 64 x):=by rw[Ch eB (by omega) (by decide) (by omega),gy.has v b (by omega) (by omega) l ak,Qw]
  rw[s9,cond_neg (by simp),bS (x:=(b:Int)+1) (by omega) (by omega)];have aP:((b:Int)+1).toNat=b+1:=by omega
  refine⟨⟨by trivial,by trivial,by trivial,by omega,by omega,?_,o.ex lP⟩,by((try dsimp only);omega)⟩;rw[aP];exact(PT.to lP).more (by omega) λgm e=>e▸⟨L,gy⟩
 ·have τ:=of_decide_eq_false τ;obtain rfl:b=32:=by omega
  rw[bS (x:=(v:Int)+1) (by omega) (by omega)];have aP:((v:Int)+1).toNat=v+1:=by omega
  refine⟨⟨by trivial,by trivial,by omega,by omega,?_,o⟩,by((try dsimp only);omega)⟩;rw[aP];exact h.more (by omega) λ_ h=>h
open Tryz Go
theorem YO{x:Int}(h:(Lit.int .u16 x).wf=true):0<=x/\x<65536:=by simp[Lit.wf,IntKind.min,IntKind.max,IntKind.signed,IntKind.bits]at h;omega
theorem Y4(y:Int):IntKind.u16.wrap y=y%65536:=by simp[IntKind.wrap,IntKind.signed,IntKind.bits]
section
variable{w0 W:World}{pp N:Nat}{P:c6->Prop}
theorem Pm(h:ec w0 pp W N P)(ek:N<=600000)(c:Bool){C:al}{X:List PanicEntry->al}(hC:∀w',ec w0 pp w' (N+5) P->ny W w'->C w'):
  cond c (κ prog 16 #[.pointer (some ⟨pp,0,none⟩),.int .i64 2] W (λv10 eO=>b7 v10 λeY=>C eO) X) (C W):=by
 cases c with
 |true=>exact acV h ek λw' e2 k=>hC w' e2 k
 |false=>exact hC W (h.more (by omega) λ_ h=>h) λB e sz p l c vs o ar=>o
theorem vN{v:Value}{r:gj}(az:tQ W v r){Y:Nat->al}(K:∀b w' t cr b8 dc cx cC cD,η W w'->W.heap.size<=b->μ w' b ck 5 (some ⟨b,0,none⟩) 1 1 (fY t r cr b8 dc cx cC cD)->μ w' 0 dt 1 cr b8 dc (a7 r.bs)->μ w' 0 cz 1 cx cC cD (bA.cW r.pr)->Y b w'):
  cv v λaE=>aK W #[.int .i64 0,.int .i64 0,.int .i64 0,bR,bR] ck λδ χ=>ν (decide (aE.size=5)) (a6 χ (⟨δ,0,none⟩:Addr) aE.toList/\∀ao,ao=χ.setCells (⟨δ,0,none⟩:Addr).block (⟨δ,0,none⟩:Addr).off aE.toList->Y δ ao):=by
 obtain⟨D,t,az⟩:=az;exact Ci az λb w' cr b8 dc cx cC cD x τ σ af bh _=>K b w' t cr b8 dc cx cC cD x τ σ af bh
end
theorem au7{jj:aq}{j:Nat}{x:Int}(h:∀x∈jj,0<=x/\x<256)(J:0<=x/\x<256):∀y∈jj.set j x,0<=y/\y<256:=λy ag=>by
 rcases qh ag with h1|rfl
 ·exact h y h1
 ·exact J
set_option maxRecDepth 10000 in
theorem akV{w0 W:World}{pp ζ:Nat}{jj:aq}{p:γ}{n c:Nat}{xs:aq}(c8:bd w0 p (xs.map (Value.int .u16)))(ar:xs.length=n)(hw:∀x∈xs,0<=x/\x<65536)(h:ec w0 pp W 100 (xS jj)){B:Nat}(eG:w0.heap.size<=ζ)(o:μ W B 32 96 (some ⟨ζ,0,none⟩) 1 1 (a7 jj))(fX:∀x∈jj,0<=x/\x<256):
  gU.aV p n c (some ⟨pp,0,none⟩) ζ W (ω λv w'=>v=.bool true/\η w0 w'):=by
 unfold gU.aV gU.eZ;have ea:ec w0 pp W (100+20*(0:Int).toNat) (xS jj):=h.more (by omega) λ_ h=>h;refine⟨λdw dh ef t8 t9 t11 W=>p=dw/\n=dh/\c=ef/\some ⟨pp,0,none⟩=t8/\ζ=t9/\0<=t11/\t11<=150/\∃jj,ec w0 pp W (100+20*t11.toNat) (xS jj)/\μ W B 32 96 (some ⟨ζ,0,none⟩) 1 1 (a7 jj)/\∀x∈jj,0<=x/\x<256,λ_ _ _ _ _ t11 _=>(150-t11).toNat,⟨rfl,rfl,rfl,rfl,rfl,by omega,by omega,jj,ea,o,fX⟩,?_⟩;clear ea h o fX jj;rintro _ _ _ _ _ t11 W ⟨rfl,rfl,rfl,rfl,rfl,g0,g1,jj,h,o,fX⟩;unfold gU.ζ;obtain⟨i,rfl⟩:=eF g0;rw[ch]at h⊢;refine bt (λI=>?_) (λI=>ZR h (by omega) o fX);refine bt (λψ=>?_) (λψ=>ZR h (by omega) o fX);have I:=b6 I;have ψ:=b6 ψ;have zW:i<xs.length:=by omega
 have J:=hw _ (hP zW);have lF:(xs.map (Value.int .u16))[i]?=some (.int .u16 xs[i]):=by rw[List.getElem?_map,List.getElem?_eq_getElem zW];rfl
 generalize xs[i]=x at J lF;obtain⟨a,rfl,_⟩:=c8.many lF;have rd:∀{bq:World},η w0 bq->bq.cell? (a.add (i*1))=some (.int .u16 x):=λ{bq}nv=>by obtain⟨fL,C1,jN⟩:=(c8.ex nv).many lF;cases C1;rw[eS];exact jN
 refine aT (by omega) (aT (by omega) ?_)
 try dsimp only[bo]
 refine⟨x,rd h.ex,aT (by omega) (aT (by omega) ?_)⟩
 skip
 refine⟨x,rd h.ex,aT (by omega) (aT (by omega) ?_)⟩
 skip
 refine⟨x,rd h.ex,λaV=>?_⟩;generalize ag:IntKind.u8.wrap (IntKind.u16.wrap (BitVec.ofInt IntKind.u16.bits (Int.fdiv x (2^(min 8 IntKind.u16.bits)))|||BitVec.ofInt IntKind.u16.bits 1).toNat)=y;have Dv:0<=y/\y<256:=by rw[<-ag,tJ];omega
 clear ag;have t3:Int.tmod x 3=x%3:=xD J.1;have d3:Int.tdiv x 3=x/3:=Rx J.1;have t32:Int.tmod (x/3) 32=x/3%32:=xD (by omega);rw[t3,d3,bS (x:=x%3) (by omega) (by omega),Y4,G5 (a:=x/3) (b:=65536) (by omega) (by omega),bS (x:=x/3) (by omega) (by omega),t32];obtain⟨v,az⟩:=eF (show 0<=x%3 by omega);obtain⟨b,τ⟩:=eF (show 0<=x/3%32 by omega);rw[az,τ];have Mo:v<3:=by omega
 have Vm:b<32:=by omega
 have eb:=η.drewN W aV;have h:=h.to eb;have o:=o.ex eb;generalize W.drewN aV=W at h o⊢;refine κ.use (wW y Dv W) ?_;rintro _ cd ⟨hz,rfl,eW,of⟩
 try dsimp only[ee]
 have kD:=h.to eW;have o:=o.ex eW;refine gv kD (by omega) (qM v b y hz) of.cells (Aw hz Dv) λcE A u cc vE n9 hu=>?_;have o:=n9 _ _ _ _ _ _ _ o (by decide);refine vN hu λax ed t cr b8 dc cx cC cD jb jm bh _ _=>?_;have Bq:=vE.to jb;have o:=o.ex jb;have iA:dW (qM v b y hz)=hd v b (List.replicate 64 y):=rfl;rw[iA]at Bq bh;obtain⟨L,gy⟩:=cc;have aP:((i:Int)+1).toNat=i+1:=by omega
 have go:∀(bq:World)(KQ:aq)(lr:Nat),lr<=100+20*(i+1)->ec w0 pp bq lr (xS KQ)->μ bq B 32 96 (some ⟨ζ,0,none⟩) 1 1 (a7 KQ)->(∀x∈KQ,0<=x/\x<256)->
   (some a=some a/\n=n/\c=c/\(some ⟨pp,0,none⟩:γ)=some ⟨pp,0,none⟩/\ζ=ζ/\0<=IntKind.i64.wrap ((i:Int)+1)/\IntKind.i64.wrap ((i:Int)+1)<=150/\∃jj,ec w0 pp bq (100+20*(IntKind.i64.wrap ((i:Int)+1)).toNat) (xS jj)/\μ bq B 32 96 (some ⟨ζ,0,none⟩) 1 1 (a7 jj)/\∀x∈jj,0<=x/\x<256)/\(150-IntKind.i64.wrap ((i:Int)+1)).toNat<(150-(i:Int)).toNat:=λbq KQ lr FP hH hO eh=>by
  rw[bS (x:=(i:Int)+1) (by omega) (by omega),aP];exact⟨⟨rfl,rfl,rfl,rfl,rfl,by omega,by omega,KQ,hH.more FP (λ_ h=>h),hO,eh⟩,by omega⟩
 have bad:∀(b1:(cQ A (hd v b (List.replicate 64 y))).2.e≠0),(cQ A (hd v b (List.replicate 64 y)))=kB A 9:=λb1=>by
  rcases gy.write Mo Vm y with h1|⟨h1,_⟩
  ·exact h1
  ·rw[h1]at b1;exact absurd rfl b1
 have fz:∀(he:(cQ A (hd v b (List.replicate 64 y))).2.e=0),xS (jj.set (v*32+b) y) (cQ A (hd v b (List.replicate 64 y))).1:=λhe=>by
  rcases gy.write Mo Vm y with h1|⟨_,ι⟩
  ·rw[h1]at he;cases he
  ·exact ι
 refine⟨_,bh.at (j:=1) rfl,bt (λb1=>?_) (λb1=>?_)⟩
 ·have b1:(cQ A (hd v b (List.replicate 64 y))).2.e≠0:=by simpa using b1
  have zN:=bad b1;rw[zN]at bh Bq;refine⟨_,bh.at (j:=1) rfl,?_⟩;rw[cond_neg (by rfl)];unfold gU.bK;refine⟨_,bh.at (j:=1) rfl,?_⟩;rw[cond_neg (by rfl)];refine aT (by omega) (aT (by omega) ?_)
  try dsimp only[bo]
  rw[ch];refine⟨x,rd Bq.ex,?_⟩;refine Pm (Bq.more (dO _) (P':=xS jj) λgm e=>e▸⟨L,gy⟩) (by omega) _ λw' e2 k'=>?_;exact go w' jj _ (by omega) e2 (k' _ _ _ _ _ _ _ o (by decide)) fX
 ·have he:(cQ A (hd v b (List.replicate 64 y))).2.e=0:=by simpa using b1
  have L1:=fz he;unfold gU.bK;refine⟨_,bh.at (j:=1) rfl,?_⟩;rw[he,cond_pos (by rfl)];refine aT (by omega) (aT (by omega) (aT (by omega) (aT (by omega) ?_)));have Uu:(((⟨ζ,0,none⟩:Addr).add ((v:Int).toNat*32)).add ((b:Int).toNat*1))=⟨ζ,v*32+b,none⟩:=by rw[ch,ch,add_add,dG,eS]
  rw[Uu];refine o.dv (j:=v*32+b) (v:=.int .u8 y) (by omega) rfl λdP yB xl=>?_;have t2:=(o.typed rfl).1;have w1:=Bq.loc yB eG t2 (by decide) (by decide) (by decide);have xl:μ dP B 32 96 (some ⟨ζ,0,none⟩) 1 1 (a7 (jj.set (v*32+b) y)):=by
   have e:a7 (jj.set (v*32+b) y)=(a7 jj).set (v*32+b) (.int .u8 y):=by unfold a7;rw[rK]
   rw[e];exact xl
  refine aT (by omega) (aT (by omega) ?_)
  try dsimp only[bo]
  rw[ch];refine⟨x,rd w1.ex,?_⟩;refine Pm (w1.more (dO _) (P':=xS (jj.set (v*32+b) y)) λgm e=>e▸L1) (by omega) _ λw' e2 k'=>?_;exact go w' _ _ (by omega) e2 (k' _ _ _ _ _ _ _ xl (by decide)) (au7 fX Dv)
theorem akW{w0 W:World}{pp ζ:Nat}{p:γ}{n c:Nat}{xs:aq}(c8:bd w0 p (xs.map (Value.int .u16)))(ar:xs.length=n)(hw:∀x∈xs,0<=x/\x<65536)(h:ec w0 pp W 10 (D1 0)){B:Nat}(eG:w0.heap.size<=ζ)(o:μ W B 32 96 (some ⟨ζ,0,none⟩) 1 1 (a7 (List.replicate 96 0))):
  gU.bb p n c (some ⟨pp,0,none⟩) ζ 0 W (ω λv w'=>v=.bool true/\η w0 w'):=by
 unfold gU.bb;refine⟨λdw dh ef t8 t9 t10 W=>p=dw/\n=dh/\c=ef/\some ⟨pp,0,none⟩=t8/\ζ=t9/\0<=t10/\t10<=3/\(∃N,N<=10+5*t10.toNat/\ec w0 pp W N (D1 t10.toNat))/\μ W B 32 96 (some ⟨ζ,0,none⟩) 1 1 (a7 (List.replicate 96 0)),λ_ _ _ _ _ t10 _=>(3-t10).toNat,⟨rfl,rfl,rfl,rfl,rfl,by omega,by omega,⟨10,by omega,h⟩,o⟩,?_⟩;clear h o;rintro _ _ _ _ _ t10 W ⟨rfl,rfl,rfl,rfl,rfl,g0,g1,⟨N,ek,h⟩,o⟩;unfold gU.δ;obtain⟨k,rfl⟩:=eF g0;rw[ch]at h ek;refine bt (λhk=>?_) (λhk=>?_)
 ·have hk:=b6 hk;refine gv h (by omega) (ki 1 0 0 32) (tx _ _ _ _ _) (tz _ _ _ _) λbW A u cc hD iq hu=>?_;have φ:=auR cc (by omega);have iA:dW (ki 1 0 0 32)=ox 32:=rfl;rw[iA]at hD hu;rw[φ.1]at hu;refine hu.err ?_;rw[cond_neg (by rfl),bS (x:=(k:Int)+1) (by omega) (by omega)];have aP:((k:Int)+1).toNat=k+1:=by omega
  have aoz:=hD.more (dO _) (P':=D1 (k+1)) λgm e=>e▸φ.2;refine⟨⟨by trivial,by trivial,by trivial,by trivial,by trivial,by omega,by omega,⟨N+5,by omega,?_⟩,iq _ _ _ _ _ _ _ o (by decide)⟩,by((try dsimp only);omega)⟩;rw[aP];exact aoz
 ·have hk:=dn hk;obtain rfl:k=3:=by omega
  exact akV c8 ar hw (h.more (by omega) λA cc=>⟨_,aoY cc⟩) eG o λx J=>by rw[nb J];omega
theorem alF(a b:Int)(p:γ)(n c:Nat)(xs:aq)(w:World)(aR:0<=a/\a<256)(τ:0<=b/\b<256)(I:Ints .u16 w p n c xs)(φ:c*2<=140737488351232):
  gU.C a b p n c w (ω λv w'=>v=.bool true/\η w w'):=by
 apply gU.ok;unfold gU.main;refine Qs aR τ λpp an h=>?_;rintro ζ a8 eG rfl;have o:=μ.new (w:=an) (List.replicate 96 (Value.int .u8 0)) 32;rw[<-eG]at o;have aU:=η.alloc an (.cells (List.replicate 96 (Value.int .u8 0)).toArray 32);generalize an.alloc (.cells (List.replicate 96 (Value.int .u8 0)).toArray 32)=a8 at o aU⊢;have o:μ a8 ζ 32 96 (some ⟨ζ,0,none⟩) 1 1 (List.replicate 96 (Value.int .u8 0)):=o;have ab:=h.ex.size;have azV:=aU.size;refine o.put (cs:=List.replicate 96 (Value.int .u8 0)) (by simp) (λy ag=>by rw[nb ag];rfl) λbV fO e4=>?_;have dD:=(h.to aU).loc fO (by omega) (o.typed rfl).1 (by decide) (by decide) (by decide);have e4:μ bV ζ 32 96 (some ⟨ζ,0,none⟩) 1 1 (a7 (List.replicate 96 0)):=by unfold a7;rw[JJ];exact e4
 exact akW I.cells I.size (λx J=>YO (I.wf x J)) (dD.more (by omega) λA e=>by subst e;rfl) (by omega) e4
end Go.Proofs.YtcpdfhkhaekekaaGreat.G.cY

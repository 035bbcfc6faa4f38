/- The walk of the functions, and the plain laws of the model: part of the proof. Conditions: none. -/
import Derived.Test.YtcpdfhkhaekekaaGreatA10
set_option linter.unusedVariables false
set_option linter.unusedSimpArgs false
namespace Go.Proofs.YtcpdfhkhaekekaaGreat.G.cL
open Go.bO Go.RowKit
theorem Zv{w:World}{B q:Nat}{g:Int}(ε:μ w B cj 1 (some ⟨q,0,none⟩) 1 1 [.int .i64 g]){x:Nat×Nat}(I:gF x):Df.C (ev (some x)) (eE (some x)) q w (χ λv w'=>v=.bool ((x.1:Int)!=g)/\w'=w):=by have rH:=I.1;apply Df.ok;unfold Df.main;refine gG (BY (n:=x.1) (by omega)).2.2.2.1 (bL (bB (by rw[Hp];omega)) (bL (bB (by rw[BP];omega)) ?_));exact⟨g,ε.at (j:=0) rfl,χ.mk ⟨rfl,rfl⟩⟩
theorem ah9{w:World}{B q:Nat}{g:Int}(ε:μ w B cj 1 (some ⟨q,0,none⟩) 1 1 [.int .i64 g]){p:J}{n c:Nat}{V:List (Nat×Nat)}(π:a7 w p (dx V))(ax:V.length=n)(ψ:n<=100000)(aB:∀x∈V,gF x):
  tv.C p n c q w (χ λv w'=>(∃i:Int,v=.int .i64 i/\((i=-1/\∀x∈V,(x.1:Int)=g)\/∃j:Nat,i=j/\j<n/\(∀x∈V.take j,(x.1:Int)=g)/\∀x,V[j]?=some x->(x.1:Int)≠g))/\w'=w):=by
 apply tv.ok;unfold tv.main tv.bd;refine⟨λcb b8 ck t1 t7 t8 w'=>p=cb/\n=b8/\q=t1/\(n:Int)=t7/\0<=t8/\t8<=n/\w=w'/\∀x∈V.take t8.toNat,(x.1:Int)=g,λ_ _ _ _ _ t8 _=>(n-t8).toNat,⟨rfl,rfl,rfl,rfl,by omega,by omega,rfl,λx I=>by simp at I⟩,?_⟩;rintro _ _ ck _ _ t8 _ ⟨rfl,rfl,rfl,rfl,aD,h1,rfl,dR⟩;unfold tv.δ;obtain⟨j,rfl⟩:=eH aD;rw[cy]at dR;refine bz (λφ=>?_) λφ=>?_
 ·have φ:=b7 φ;have eP:j<V.length:=by omega
  have aO:(dx V)[j]?=some (dO (some V[j])):=by unfold dx;rw[List.getElem?_map,List.getElem?_eq_getElem eP];rfl
  obtain⟨a,aQ,r⟩:=π.many aO;refine bL (bB aD) (bL (bB φ) (gG aQ ⟨ev (some V[j]),eE (some V[j]),by rw[cy,ey];exact r,?_⟩));refine κ.use (Zv ε (aB _ (hF eP))) ?_;rintro _ γ ⟨rfl,aO⟩;obtain rfl:=aO.symm
  try dsimp only[dE]
  refine bz (λbJ=>χ.mk ⟨⟨_,rfl,.inr ⟨j,rfl,by omega,dR,λx I=>by rw[List.getElem?_eq_getElem eP]at I;cases I;simpa using bJ⟩⟩,rfl⟩) λbJ=>?_;rw[bY (x:=(j:Int)+1) (by omega) (by omega)];refine⟨⟨rfl,rfl,rfl,rfl,by omega,by omega,rfl,λx I=>?_⟩,by((try dsimp only);omega)⟩;have I:x∈V.take (j+1):=I;rw[k6 eP]at I;rcases iG.1 I with I|I
  ·exact dR x I
  ·simp only[lB]at I;subst I;simpa using bJ
 ·have φ:=dd φ
  have:V.take j=V:=hc (by omega)
  rw[this]at dR;exact χ.mk ⟨⟨-1,rfl,.inl ⟨rfl,dR⟩⟩,rfl⟩
def k1(g:Int)(x:Nat×Nat):Bool:=decide ((x.1:Int)=g)
theorem asD{α:Type}(F gs rest:List α)(v:α):(F++(gs++v::rest)).set F.length v=F++[v]++((gs++[v]).tail++rest):=by
 rw[Ce _ _ (ew _),v7];cases gs with
 |nil=>simp
 |cons a l=>simp
theorem awg(m:Nat):∀y∈(Builtin.zeroCells #[Value.complex .f64 0 0] m).toList,y.oneCell'=true:=λy ah=>by
 unfold Builtin.zeroCells at ah;rw[Ff,gO]at ah;obtain⟨i,_,rfl⟩:=ah
 have:i%(#[Value.complex .f64 0 0]:ag).size=0:=Nat.mod_one i
 rw[this];rfl
theorem ahT{w:World}{B ahE q:Nat}{g:Int}(s7:μ w ahE cj 1 (some ⟨q,0,none⟩) 1 1 [.int .i64 g]){p:J}{n c:Nat}{V:List (Nat×Nat)}(ε:μ w B eo 1 p n c (dx V))(ψ:n<=100000)(aB:∀x∈V,gF x):
  pr.C p n c q w (χ λv w'=>v=.slice p (V.filter (k1 g)).length c/\μ w' B eo 1 p (V.filter (k1 g)).length c (dx (V.filter (k1 g)))/\Kp w w' λi=>∃x,p=some x/\x.block=i):=by
 have ax:V.length=n:=by have:=ε.1;rw[yP,ey]at this;exact this
 apply pr.ok;unfold pr.main;refine κ.use (ah9 s7 ε.cells ax ψ aB) ?_;rintro _ γ ⟨⟨i,rfl,o⟩,aO⟩;obtain rfl:=aO.symm
 try dsimp only[bH]
 rcases o with⟨rfl,dR⟩|⟨j,rfl,φ,dR,nQ⟩
 ·rw[cond_pos (by decide)];have bg:V.filter (k1 g)=V:=O1.2 λx I=>bB (dR x I);rw[bg,ax];exact χ.mk ⟨rfl,ε,Kp.refl _ _⟩
 rw[cond_neg (by simp)];have jS:=ε.2.1;obtain⟨b,rfl⟩:=eW.μ.base ε (by omega);unfold pr.bd;have ann:(V.take j).filter (k1 g)=V.take j:=O1.2 λx I=>bB (dR x I);refine⟨λcb b8 ck t1 t5 t6 w'=>some ⟨b,0,none⟩=cb/\n=b8/\c=ck/\q=t1/\0<=t6/\t6<=n/\t5=((V.take t6.toNat).filter (k1 g)).length/\Kp w w' (λi=>i=b)/\∃gs:aU,((V.take t6.toNat).filter (k1 g)).length+gs.length=t6.toNat/\μ w' B eo 1 (some ⟨b,0,none⟩) n c (dx ((V.take t6.toNat).filter (k1 g))++(gs++dx (V.drop t6.toNat))),
  λ_ _ _ _ _ t6 _=>(n-t6).toNat,?_,?_⟩
 ·rw[bY (x:=(j:Int)+1) (by omega) (by omega)];have eP:j<V.length:=by omega
  have aO:((j:Int)+1).toNat=j+1:=by omega
  dsimp only;rw[aO];have J7:k1 g V[j]=false:=iy (nQ _ (List.getElem?_eq_getElem eP));have DZ:(V.take (j+1)).filter (k1 g)=V.take j:=by rw[k6 eP,B9,ann];simp[J7]
  rw[DZ];have aj:(V.take j).length=j:=by rw[gQ];omega
  refine⟨rfl,rfl,rfl,rfl,by omega,by omega,by omega,Kp.refl _ _,[dO (some V[j])],by rw[aj];rfl,?_⟩
  have:dx (V.take j)++([dO (some V[j])]++dx (V.drop (j+1)))=dx V:=by
   have ι:[dO (some V[j])]++dx (V.drop (j+1))=dx (V.drop j):=by rw[HV eP];rfl
   rw[ι,adn,yT]
  rw[this];exact ε
 ·rintro _ _ _ _ _ t6 w' ⟨rfl,rfl,rfl,rfl,aD,h1,rfl,hk,gs,D0,hD⟩;unfold pr.δ;obtain⟨i,rfl⟩:=eH aD;rw[cy]at D0 hD⊢;have tb:∀i,i=b->Typed w eo i:=λi o=>o▸(ε.typed rfl).1;have aqG:=s7.cB hk eo tb (by decide);have vB:(dx ((V.take i).filter (k1 g))).length=((V.take i).filter (k1 g)).length:=yP _;refine bz (λo=>?_) λo=>?_
  ·have o:=b7 o;have kX:i<V.length:=by omega
   have af:dx (V.drop i)=dO (some V[i])::dx (V.drop (i+1)):=by rw[HV kX];rfl
   rw[af]at hD;have qM:(dx ((V.take i).filter (k1 g))++(gs++dO (some V[i])::dx (V.drop (i+1))))[i]?=some (dO (some V[i])):=by rw[List.getElem?_append_right (by omega),List.getElem?_append_right (by omega),show i-(dx ((V.take i).filter (k1 g))).length-gs.length=0 by omega];rfl
   refine aW (by omega) (aW (by omega) ?_)
   try dsimp only[bk]
   rw[cy,ey,dv];refine⟨ev (some V[i]),eE (some V[i]),hD.at qM,?_⟩;refine κ.use (Zv aqG (aB _ (hF kX))) ?_;rintro _ aa ⟨rfl,gw⟩;obtain rfl:=gw.symm
   try dsimp only[dE]
   rw[bY (x:=(i:Int)+1) (by omega) (by omega)];have aO:((i:Int)+1).toNat=i+1:=by omega
   have yA:(V.take (i+1)).filter (k1 g)=(V.take i).filter (k1 g)++if k1 g V[i]then[V[i]]else[]:=by
    rw[k6 kX,B9];congr 1;by_cases ψ:k1 g V[i]=true
    ·simp[ψ]
    ·simp[ψ]
   by_cases c4:(V[i].1:Int)=g
   ·have Tp:k1 g V[i]=true:=bB c4;rw[Tp,aS rfl]at yA;rw[show((V[i].1:Int)!=g)=false by simp[c4],yR,r9];refine aW (by omega) (aW (by omega) ?_);rw[ey,dv];refine hD.da (j:=((V.take i).filter (k1 g)).length) (v:=dO (some V[i])) (by omega) rfl λaE dN cu=>?_;rw[<-vB,asD]at cu;rw[bY (x:=(((V.take i).filter (k1 g)).length:Int)+1) (by omega) (by omega)];refine⟨⟨rfl,rfl,rfl,rfl,by omega,by omega,?_,hk.fZ dN,(gs++[dO (some V[i])]).tail,?_,?_⟩,by((try dsimp only);omega)⟩
    ·rw[aO,yA,fe];rfl
    ·rw[aO,yA,fe,E8,fe];simp;omega
    ·rw[aO,yA,<-adn];exact cu
   ·have Tp:k1 g V[i]=false:=iy c4;rw[Tp,aM (by decide),pn]at yA;rw[show((V[i].1:Int)!=g)=true by simp[c4],uO,vX];refine⟨⟨rfl,rfl,rfl,rfl,by omega,by omega,?_,hk,gs++[dO (some V[i])],?_,?_⟩,by((try dsimp only);omega)⟩
    ·rw[aO,yA]
    ·rw[aO,yA,fe];simp;omega
    ·rw[aO,yA,lT];exact hD
  ·have o:=dd o;obtain rfl:i=n:=by omega
   rw[hc (by omega)]at hD D0 vB⊢;rw[List.drop_of_length_le (by omega)]at hD;generalize j9:V.filter (k1 g)=F at hD D0 vB⊢;unfold pr.a1;refine aW (by omega) (aW (by omega) ?_);rw[cy];have fin:∀W,Kp w W (λi=>i=b)->μ W B eo 1 (some ⟨b,0,none⟩) F.length c (dx F)->ο (decide (0<=(F.length:Int))) (ο (decide ((F.length:Int)<=((c:Nat):Int))) (χ (λv w'=>v=.slice (some ⟨b,0,none⟩) F.length c/\μ w' B eo 1 (some ⟨b,0,none⟩) F.length c (dx F)/\Kp w w' λi=>∃x,some (⟨b,0,none⟩:Addr)=some x/\x.block=i) (.returned (.slice (du (some ⟨b,0,none⟩) c 0 1) F.length c)) W)):=by intro W ao9 Ap;refine aW (by omega) (aW (by omega) ?_);rw[Io];exact χ.mk ⟨rfl,Ap,ao9.mono λi _ o=>⟨_,rfl,o.symm⟩⟩
   have cut:∀{W:World}{xs:aU},μ W B eo 1 (some ⟨b,0,none⟩) i c xs->xs.take F.length=dx F->μ W B eo 1 (some ⟨b,0,none⟩) F.length c (dx F):=by
    intro W xs Ap I
    have:=Ap.less (k:=F.length) (by omega)
    rw[ey,I]at this;exact this
   by_cases bJ:i=F.length
   ·refine .inl ⟨.inr (by omega),fin w' hk (cut hD ?_)⟩;rw[<-vB,O2]
   ·refine .inr ⟨⟨b,F.length,none⟩,?_,by omega,?_⟩
    ·unfold du;rw[aM (by omega),ey,iT,dv]
    ·have aL:(Builtin.zeroCells #[Value.complex .f64 0 0] (i-F.length)).toList.length=i-F.length:=by
      rw[kP,size_zeroCells];simp
     have key:=eW.μ.putAt hD F.length (Builtin.zeroCells #[Value.complex .f64 0 0] (i-F.length)).toList (by omega) (awg _) (N:=λba=>ο (decide (0<=(F.length:Int))) (ο (decide ((F.length:Int)<=((c:Nat):Int))) (χ (λv w'=>v=.slice (some ⟨b,0,none⟩) F.length c/\μ w' B eo 1 (some ⟨b,0,none⟩) F.length c (dx F)/\Kp w w' λi=>∃x,some (⟨b,0,none⟩:Addr)=some x/\x.block=i) (.returned (.slice (du (some ⟨b,0,none⟩) c 0 1) F.length c)) ba))) λba ec bS=>fin ba (hk.fZ ec) (cut bS ?_)
     ·rw[dv]at key;exact key
     ·rw[<-vB,O2,lT,O2]
theorem ah7{w:World}{R:bR}{ps:aU}(h:h2 w R ps){s k:Int}(hw:CJ s k R)(π:(gm (used R)).length<=4096){g:Nat}(bJ:(g:Int)<s):
  De.C (bK R ps).toArray s k (g:Int) w (χ λv w'=>∃p c,v=.tuple #[.slice p ((lays (used R)).filter (k1 g)).length c,.int .i64 0]/\η w w'/\μ w' w.heap.size eo 1 p ((lays (used R)).filter (k1 g)).length c (dx ((lays (used R)).filter (k1 g)))):=by
 apply De.ok;unfold De.main;rintro δ γ ej rfl θ τ eu rfl aF aa jd rfl;have ρ:=μ.new (w:=w) (bK R ps) bU;rw[<-ej,h.dU]at ρ;have ζ:=η.alloc w (.cells (bK R ps).toArray bU);generalize w.alloc (.cells (bK R ps).toArray bU)=γ at ρ ζ eu jd⊢;have ai:=μ.new (w:=γ) (two s k) b2;rw[<-eu]at ai;have σ:=η.alloc γ (.cells (two s k).toArray b2);have bE:γ.alloc (.cells #[.int .i64 s,.int .i64 k] b2)=γ.alloc (.cells (two s k).toArray b2):=rfl;rw[bE]at jd⊢;generalize γ.alloc (.cells (two s k).toArray b2)=τ at ai σ jd⊢;have bo:=μ.new (w:=τ) [.int .i64 (g:Int)] cj;rw[<-jd]at bo;have ad:=η.alloc τ (.cells #[.int .i64 (g:Int)] cj);generalize τ.alloc (.cells #[.int .i64 (g:Int)] cj)=aa at bo ad⊢;have gJ:=ζ.trans (σ.trans ad);have ρ:=ρ.ex (σ.trans ad);have ai:=ai.ex ad;refine⟨(bK R ps).toArray,by simp[h.dU],ρ.cells,(two s k).toArray,rfl,ai.cells,?_⟩;refine κ.use (Q4 (h.ex gJ) s k) ?_;rintro _ az ⟨⟨e,rfl,he⟩,aA⟩
 try dsimp only[bH]
 obtain rfl:e=0:=he.2 hw;rw[cond_neg (by rfl)];have bo:=bo.ex aA;refine⟨_,bo.at (j:=0) rfl,?_⟩;rw[iD (by omega)];refine⟨_,bo.at (j:=0) rfl,s,(ai.ex aA).at (j:=0) rfl,?_⟩;rw[iD (by omega)];refine⟨(bK R ps).toArray,by simp[h.dU],(ρ.ex aA).cells,?_⟩;have iQ:=gJ.trans aA;refine κ.use (Xv (h.ex iQ) hw.2.1 π) ?_;rintro _ ba ⟨q,d,fQ,bu,c2,rfl,aI,bS⟩
 try dsimp only[bX,cC,cD,mK,bk,bH,dY]
 have nM:=λx=>HB (x:=x) (q8 h.ok);have hlen:(lays (used R)).length<=4096:=by rw[<-Kv λx=>kl (used R) x,Ht (λx I=>q8 h.ok x ((kl _ _).1 I)) (xl _)];exact π
 refine κ.use (ahT (bo.ex aI) bS (by omega) λx I=>q8 h.ok x ((nM x).1 I)) ?_;rintro _ b5 ⟨rfl,e6,fL⟩
 try dsimp only[dY]
 have ks:=iQ.trans aI;exact χ.mk ⟨q,d,rfl,ks.then fL λi⟨x,I,o⟩=>by have:=(bS.ge I).1;have:=iQ.size;omega,e6.lower iQ.size⟩
end Go.Proofs.YtcpdfhkhaekekaaGreat.G.cL
namespace Go.Proofs.YtcpdfhkhaekekaaGreat.G.eW
open Go.bO Go.RowKit cL
theorem GO{w γ:World}{B b1:Nat}{R:bR}(h:ki w B b1 R)(I:η w γ)(v:Int){N:Nat->ao}
  (K:∀b W,η w W->μ W w.heap.size jl 2 (some ⟨b,0,none⟩) 1 1 (two (ig R v).1 (ig R v).2.1)->N b W):
  aN γ #[(Value.int .i64 0),(Value.int .i64 0)] jl λδ aa=>ο (decide ((two (ig R v).1 (ig R v).2.1).toArray.size=2)) (
   hr aa (⟨δ,0,none⟩:Addr) (two (ig R v).1 (ig R v).2.1).toArray.toList/\∀az,az=aa.setCells (⟨δ,0,none⟩:Addr).block (⟨δ,0,none⟩:Addr).off (two (ig R v).1 (ig R v).2.1).toArray.toList->N δ az):=by
 rintro δ aa rfl rfl;have ρ:=μ.new (w:=γ) (two 0 0) jl;have ζ:=η.alloc γ (.cells (two 0 0).toArray jl);have aO:γ.alloc (.cells #[.int .i64 0,.int .i64 0] jl)=γ.alloc (.cells (two 0 0).toArray jl):=rfl;rw[aO];generalize γ.alloc (.cells (two 0 0).toArray jl)=aa at ρ ζ⊢;have ω:=I.size;refine aW rfl (ρ.put (cs:=two (ig R v).1 (ig R v).2.1) rfl mW λaz cz cx=>?_);exact K _ az ((I.trans ζ).then cz λi o=>by omega) (cx.lower ω)
theorem nF.UX{w w' τ:World}{B b1:Nat}{R:bR}(x:η w w')(h:nF w' B b1 R τ):nF w B b1 R τ:=⟨h.1,(x.aH _).fZ h.2⟩
theorem ahL{w:World}{B b1:Nat}{R:bR}(h:ki w B b1 R){s:Int}(ω:¬(1<=s/\s<=32)):yX.C (some ⟨b1,0,none⟩) s w (χ λv w'=>v=.tuple #[.int .i64 0,.int .i64 5]/\η w w'):=by
 apply yX.ok;unfold yX.main;rw[cond_neg (by rfl)];refine κ.use (aip ω w) ?_;rintro _ γ ⟨rfl,aO⟩;obtain rfl:=aO.symm
 try dsimp only[bk,bX,cC,cD,bH,nc]
 rw[cond_pos (by rfl)];exact χ.mk ⟨rfl,η.refl _⟩
theorem ahM{w:World}{B b1:Nat}{R:bR}(h:ki w B b1 R){s:Int}(ω:1<=s/\s<=32):yX.C (some ⟨b1,0,none⟩) s w (χ λv w'=>match lf R with
  |none=>v=.tuple #[.int .i64 0,.int .i64 7]/\η w w'
  |some i=>v=.tuple #[.int .i64 (i:Int),.int .i64 0]/\nF w B b1 (R.set i (1,s,List.replicate s.toNat none)) w'):=by
 obtain⟨n,rfl⟩:=eH (show 0<=s by omega);apply yX.ok;unfold yX.main;rw[cond_neg (by rfl)];refine κ.use (zo (n:=n) (by omega) w) ?_;rintro _ γ ⟨hE,rfl,ζ,aP⟩
 try dsimp only[bk,bX,cC,cD,bH,nc]
 rw[cond_neg (by rfl)];refine κ.use (aej (h.ex ζ)) ?_;rintro _ aa ⟨rfl,ad⟩
 try dsimp only[bX,cC,cD,bk,bH]
 have gb:=ζ.trans ad;cases k0:lf R with
 |none=>
  rw[cond_neg (by rfl)];exact χ.mk ⟨rfl,gb⟩
 |some i=>
  rw[cond_pos (by rfl)]
  try dsimp only
  have X:=gb.trans (η.drew aa);obtain⟨fI,h⟩:=h.ex X;have o:=(Pv h.len k0).1;refine aW (by dsimp only[Option.getD];omega) (aW (by dsimp only[Option.getD];omega) ?_);have aO:(((some i).getD 0:Nat):Int).toNat=i:=cy i;rw[aO];simp only[dv];have e2:vk aa.drew hE (1,(n:Int),List.replicate n none):=.inr ⟨n,_,(aP.ex ad).ex (η.drew aa),(by show List.replicate n none=_;rw[Pf,show min n (8*((n+7)/8))=n by omega]),rfl⟩;have key:=h.j5 o (1,(n:Int),List.replicate n none) (tp:=hE) e2 (N:=λw'=>χ (λv w'=>v=.tuple #[.int .i64 (i:Int),.int .i64 0]/\nF w B b1 (R.set i (1,(n:Int),List.replicate (n:Int).toNat none)) w') (.returned (.tuple #[.int .i64 (i:Int),.int .i64 0])) w') λw' aQ=>χ.mk ⟨rfl,nF.UX X aQ⟩;rw[dv]at key;refine⟨key.1,λaE N4=>?_⟩;refine aW (by dsimp only[Option.getD];omega) (aW (by dsimp only[Option.getD];omega) ?_);have ι:=key.2 aE N4;have bE:(⟨b1,16,none⟩:Addr).add (i*1)=⟨b1,16+i,none⟩:=by rw[<-dv b1 16,add_add,dv,ey]
  rw[bE];exact ι
theorem aiL{w:World}{B b1:Nat}{R:bR}(h:ki w B b1 R)(v:Int):Fq.C (some ⟨b1,0,none⟩) v w (χ λu w'=>match fS R v with
  |none=>u=.tuple #[.int .i64 0,.int .i64 4]/\η w w'
  |some e=>(match lf R with
   |none=>u=.tuple #[.int .i64 0,.int .i64 7]/\η w w'
   |some i=>u=.tuple #[.int .i64 (i:Int),.int .i64 0]/\nF w B b1 (R.set i (2,e.2.1,e.2.2)) w')):=by
 apply Fq.ok;unfold Fq.main;refine κ.use (A4 h v) ?_;rintro _ γ ⟨rfl,ζ⟩
 try dsimp only[bk,bX,cC,cD,bH,hx,ie]
 refine GO h ζ v λδ az aA cx=>?_;have nf:=@zL R v;unfold ig at cx⊢;cases he:fS R v with
 |none=>
  try dsimp only
  rw[cond_pos (by rfl)];exact χ.mk ⟨rfl,aA⟩
 |some e=>
  rw[he]at cx
  try dsimp only
  rw[cond_neg (by rfl)];obtain⟨v0,bj,υ,hk⟩:=nf he;obtain⟨k,rfl⟩:=eH v0;rw[cy]at υ;refine κ.use (aej (h.ex aA)) ?_;rintro _ aE ⟨rfl,ak⟩
  try dsimp only[bX,cC,cD,bk,bH]
  have IN:=aA.trans ak;cases k0:lf R with
  |none=>
   rw[cond_neg (by rfl)];exact χ.mk ⟨rfl,IN⟩
  |some i=>
   rw[cond_pos (by rfl)]
   try dsimp only
   have dT:=η.drew aE;have X:=IN.trans dT;obtain⟨fI,h⟩:=h.ex X;obtain⟨cO,tp,dG,ku⟩:=h.Iz (k:=k) (by omega);rw[υ]at dG;cases dG;have o:=(Pv h.len k0).1;have bE:∀j,(⟨b1,16,none⟩:Addr).add (j*1)=⟨b1,16+j,none⟩:=λj=>by rw[<-dv b1 16,add_add,dv,ey]
   refine⟨e.2.1,((cx.ex ak).ex dT).at (j:=1) rfl,?_⟩;simp only[dv,cy,bE];refine aW (by omega) (aW (by omega) ⟨tp,h.ε.at (h.Ix ku),?_⟩);refine aW (by dsimp only[Option.getD];omega) (aW (by dsimp only[Option.getD];omega) ?_);have key:=h.j5 o (2,e.2.1,e.2.2) (tp:=tp) (by
    rcases h.tb k e tp υ ku with⟨h1,ι⟩|⟨n,L,h1,ι⟩
    ·exact .inl ⟨h1,ι⟩
    ·exact .inr ⟨n,L,h1,ι⟩) (N:=λw'=>χ (λv w'=>v=.tuple #[.int .i64 (i:Int),.int .i64 0]/\nF w B b1 (R.set i (2,e.2.1,e.2.2)) w') (.returned (.tuple #[.int .i64 (i:Int),.int .i64 0])) w') λw' aQ=>χ.mk ⟨rfl,nF.UX X aQ⟩
   rw[dv]at key;refine⟨key.1,λbm aoM=>?_⟩;refine aW (by dsimp only[Option.getD];omega) (aW (by dsimp only[Option.getD];omega) ?_);exact key.2 bm aoM
theorem ahU{w:World}{B b1:Nat}{R:bR}(h:ki w B b1 R)(v:Int):Fm.C (some ⟨b1,0,none⟩) v w (χ λu w'=>match fS R v with
  |none=>u=.int .i64 4/\η w w'
  |some e=>u=.int .i64 0/\nF w B b1 (R.set v.toNat (0,0,[])) w'):=by
 apply Fm.ok;unfold Fm.main;refine κ.use (A4 h v) ?_;rintro _ γ ⟨rfl,ζ⟩
 try dsimp only[bk,bX,cC,cD,bH,hx,ie]
 refine GO h ζ v λδ az aA cx=>?_;have nf:=@zL R v;unfold ig at cx⊢;cases he:fS R v with
 |none=>
  try dsimp only
  rw[cond_neg (by rfl)];exact χ.mk ⟨rfl,aA⟩
 |some e=>
  try dsimp only
  rw[cond_pos (by rfl)];obtain⟨v0,bj,υ,hk⟩:=nf he;obtain⟨k,rfl⟩:=eH v0
  skip
  have X:=aA.trans (η.drew az);obtain⟨fI,h⟩:=h.ex X;have bE:∀j,(⟨b1,16,none⟩:Addr).add (j*1)=⟨b1,16+j,none⟩:=λj=>by rw[<-dv b1 16,add_add,dv,ey]
  simp only[dv,cy,bE];refine aW (by omega) (aW (by omega) ?_);have key:=h.j5 (i:=k) (by omega) (0,0,[]) (tp:=none) (.inl ⟨rfl,rfl⟩) (N:=λw'=>χ (λv w'=>v=.int .i64 0/\nF w B b1 (R.set k (0,0,[])) w') (.returned (.int .i64 0)) w') λw' aQ=>χ.mk ⟨rfl,nF.UX X aQ⟩;rw[dv]at key;refine⟨key.1,λaE N4=>aW (by omega) (aW (by omega) (key.2 aE N4))⟩
def Su(R:bR)(v j:Int):Value:=match fS R v with
 |none=>.tuple #[.complex .f64 0 0,.bool false,.int .i64 4]
 |some e=>if 0<=j/\j<e.2.1 then GW (e.2.2.getD j.toNat none)else .tuple #[.complex .f64 0 0,.bool false,.int .i64 5]
theorem atq{L:List ea}{n j:Nat}(h:j<n):(L.take n).getD j none=L.getD j none:=by rw[List.getD_eq_getElem?_getD,List.getD_eq_getElem?_getD,List.getElem?_take_of_lt h]
theorem ah6{w:World}{B b1:Nat}{R:bR}(h:ki w B b1 R)(ω:lo R)(v j:Int):Fp.C (some ⟨b1,0,none⟩) v j w (χ λu w'=>u=Su R v j/\η w w'):=by
 apply Fp.ok;unfold Fp.main;refine κ.use (A4 h v) ?_;rintro _ γ ⟨rfl,ζ⟩
 try dsimp only[bk,bX,cC,cD,bH,hx,ie]
 refine GO h ζ v λδ az aA cx=>?_;have nf:=@zL R v;unfold ig Su at*;cases he:fS R v with
 |none=>
  try dsimp only
  rw[cond_pos (by rfl)];exact χ.mk ⟨rfl,aA⟩
 |some e=>
  try dsimp only
  rw[cond_neg (by rfl)];obtain⟨v0,bj,υ,hk⟩:=nf he;obtain⟨k,rfl⟩:=eH v0;rw[cy]at υ;obtain⟨fI,h⟩:=h.ex aA;obtain⟨cO,tp,dG,ku⟩:=h.Iz (k:=k) (by omega);rw[υ]at dG;cases dG;have bE:∀j,(⟨b1,16,none⟩:Addr).add (j*1)=⟨b1,16+j,none⟩:=λj=>by rw[<-dv b1 16,add_add,dv,ey]
  simp only[dv,cy,bE];refine aW (by omega) (aW (by omega) ⟨tp,h.ε.at (h.Ix ku),?_⟩);have ep:=ω e (eZ υ);obtain⟨s1,s2,lU,q1⟩:=ep;have q1:=q1 hk;rcases h.tb k e tp υ ku with⟨h1,ι⟩|⟨n,L,h1,ι,aG⟩
  ·rw[ι]at s1;simp at s1;omega
  ·refine κ.use (xW h1 j) ?_;rintro _ aE ⟨rfl,h3⟩;obtain rfl:=h3.symm;rw[aG,ι];by_cases φ:0<=j/\j<n
   ·rw[aS φ,aS φ,atq (by omega)];cases L.getD j.toNat none with
    |none=>unfold GW;try dsimp only[bX,cC,cD,mK,bk,bH,dE,rE];exact χ.mk ⟨rfl,aA⟩
    |some x=>unfold GW dO;try dsimp only[bX,cC,cD,mK,bk,bH,dE,rE];exact χ.mk ⟨rfl,aA⟩
   ·rw[aM φ,aM φ]
    try dsimp only[bX,cC,cD,mK,bk,bH,dE,rE]
    exact χ.mk ⟨rfl,aA⟩
def AJ(R:bR)(v j:Int):Int:=match fS R v with
 |none=>4
 |some e=>if e.1=2 then 8 else if 0<=j/\j<e.2.1 then 0 else 5
theorem aiJ{w0 w:World}{B b1:Nat}{R:bR}(h:ki w B b1 R)(I:η w0 w)(ω:lo R){k j:Nat}{e:fF}(hk:k<8)(he:R[k]?=some e)(aD:e.1≠0)(φ:(j:Int)<e.2.1)(q:ea)(aC:kc q){r m:Nat}(υ:∀x,q=some x->r=ev (some x)/\m=eE (some x)){Z:Value->ao}(dF:∀w',nF w0 B b1 (jv R k j q) w'->Z (.int .i64 0) w'):
  oV.bP (some ⟨b1,0,none⟩) (k:Int) (j:Int) r m q.isSome w (χ Z):=by
 unfold oV.bP
 try dsimp only[bk]
 obtain⟨fI,h⟩:=h;obtain⟨cO,tp,dG,ku⟩:=h.Iz (k:=k) (by omega);rw[he]at dG;cases dG;have bE:∀j,(⟨b1,16,none⟩:Addr).add (j*1)=⟨b1,16+j,none⟩:=λj=>by rw[<-dv b1 16,add_add,dv,ey]
 simp only[dv,cy,bE];refine aW (by omega) (aW (by omega) ⟨tp,h.ε.at (h.Ix ku),?_⟩);obtain⟨s1,s2,lU,q1⟩:=ω e (eZ he);have q1:=q1 aD;rcases h.tb k e tp he ku with⟨h1,ι⟩|⟨n,L,h1,ι,aG⟩
 ·rw[ι]at s1;simp at s1;omega
 have ka:jv R k j q=R.set k (e.1,e.2.1,e.2.2.set j q):=by unfold jv;rw[he]
 have fin:∀W mQ,η w W->TabIs W mQ n (L.set j q)->(W.cell? (⟨b1,16+k,none⟩:Addr)).isSome=true/\W.frozen? (⟨b1,16+k,none⟩:Addr)=false/\∀aa,aa=W.setCell (⟨b1,16+k,none⟩:Addr) (.pointer mQ)->χ Z (.returned (.int .i64 0)) aa:=by
  intro W mQ va e2;have jQ:=h.ex va;refine jQ.ε.da (j:=16+k) (by omega) rfl λaa cd bo=>?_;rw[Ln jQ.len,<-qX]at bo;have yC:∀j,j=b1->¬sB W j:=λj φ=>VL (φ▸(jQ.ε.typed rfl).1);have aaT:kinds (R.set k (e.1,e.2.1,e.2.2.set j q))=kinds R:=by
   have:=V5 (qs:=[]) h.len hk e.1 e.2.1 (e.2.2.set j q)
   have π:=(h.nf he).2.2;rw[pn,pn]at this;have SB:=oI h.len;rw[Cd (by omega),oT (by rw[ky];omega)]at π;rw[<-this,<-π];have fG:(((kinds R).drop (k*2)).take 2).length=2:=by rw[gQ,ky];omega
   rw[fG,<-OX,lT,yT,yT]
  refine χ.mk (dF _ ⟨⟨fI.set k mQ,?_,?_,by rw[im];exact h.jW,λi cO Wm dG ku=>?_⟩,((I.trans va).aH _).fZ cd⟩)
  ·rw[ka,aaT];exact bo
  ·rw[ka,im];exact h.len
  ·rw[ka,List.getElem?_set]at dG;rw[List.getElem?_set]at ku;by_cases pZ:k=i
   ·rw[aS pZ,aS (by rw[h.len];omega)]at dG;rw[aS pZ,aS (by rw[h.jW];omega)]at ku;cases dG;cases ku;exact vk.aH (.inr ⟨n,L.set j q,e2,by rw[ι,List.take_set],aG⟩) cd yC
   ·rw[aM pZ]at dG ku;exact(jQ.tb i cO Wm dG ku).aH cd yC
 cases q with
 |some x=>
  obtain⟨rfl,rfl⟩:=υ x rfl;rw[cond_pos (by rfl)];refine κ.use (I2 h1 (j:=j) (by omega) (x:=x) aC) ?_;rintro _ bm ⟨mQ,rfl,aV,e2⟩
  try dsimp only[bX,cC,cD,bk,bH,nc]
  refine aW (by omega) (aW (by omega) ?_);exact fin bm mQ aV e2
 |none=>
  rw[cond_neg (by rfl)];refine κ.use (ahY h1 (j:=j) (by omega)) ?_;rintro _ bm ⟨mQ,rfl,aV,e2⟩
  try dsimp only[bX,cC,cD,bk,bH,nc]
  refine aW (by omega) (aW (by omega) ?_);exact fin bm mQ aV e2
theorem XB{w:World}{B b1:Nat}{R:bR}(h:ki w B b1 R)(ω:lo R)(v j:Int)(q:ea)(aC:kc q){r m:Nat}(υ:∀x,q=some x->r=ev (some x)/\m=eE (some x)):
  oV.C (some ⟨b1,0,none⟩) v j r m q.isSome w (χ λu w'=>u=.int .i64 (AJ R v j)/\(AJ R v j≠0->η w w')/\(AJ R v j=0->nF w B b1 (jv R v.toNat j.toNat q) w')):=by
 apply oV.ok;unfold oV.main;refine κ.use (A4 h v) ?_;rintro _ γ ⟨rfl,ζ⟩
 try dsimp only[bX,cC,cD,bk,bH,hx,ie]
 refine GO h ζ v λδ az aA cx=>?_;have nf:=@zL R v;unfold ig AJ at*;cases he:fS R v with
 |none=>
  try dsimp only
  rw[cond_pos (by rfl)];exact χ.mk ⟨rfl,λ_=>aA,λh=>by cases h⟩
 |some e=>
  rw[he]at cx
  try dsimp only
  rw[cond_neg (by rfl)];obtain⟨v0,bj,eC,hk⟩:=nf he;obtain⟨k,rfl⟩:=eH v0;rw[cy]at eC⊢;refine⟨e.1,cx.at (j:=0) rfl,bz (λι=>?_) λι=>?_⟩
  ·have ι:e.1=2:=by simpa using ι
   rw[aS ι];exact χ.mk ⟨rfl,λ_=>aA,λh=>by cases h⟩
  have ι:e.1≠2:=by simpa using ι
  rw[aM ι];refine bz (λφ=>?_) λφ=>?_
  ·have φ:=b7 φ;rw[aM (by omega)];unfold oV.a1
   try dsimp only[Bp]
   exact χ.mk ⟨rfl,λ_=>aA,λh=>by cases h⟩
  have φ:=dd φ;obtain⟨i,rfl⟩:=eH (show 0<=j by omega);refine⟨e.2.1,cx.at (j:=1) rfl,?_⟩;unfold oV.a1;refine bz (λo=>?_) λo=>?_
  ·have o:=b7 o;rw[aM (by omega)];exact χ.mk ⟨rfl,λ_=>aA,λh=>by cases h⟩
  have o:=dd o;rw[aS (by omega),cy];have wrap:=λW(va:η w W)=>aiJ (w0:=w) (h.ex va) va ω (by omega) eC hk (j:=i) (by omega) q aC υ (Z:=λu w'=>u=.int .i64 0/\((0:Int)≠0->η w w')/\((0:Int)=0->nF w B b1 (jv R k i q) w')) λw' aQ=>⟨rfl,λh=>absurd rfl h,λ_=>aQ⟩;have aL:(λ(u:Value)w'=>u=.int .i64 0/\((0:Int)≠0->η w w')/\((0:Int)=0->nF w B b1 (jv R k i q) w'))=λu w'=>u=.int .i64 0/\((0:Int)≠0->η w w')/\((0:Int)=0->nF w B b1 (jv R k i q) w'):=rfl;generalize(λ(u:Value)w'=>u=.int .i64 0/\((0:Int)≠0->η w w')/\((0:Int)=0->nF w B b1 (jv R k i q) w'))=Z at wrap aL⊢;clear aL;generalize ψ:q.isSome=b at wrap⊢;cases b with
  |false=>rw[vX];exact wrap _ aA
  |true=>
   rw[r9];obtain⟨x,rfl⟩:=H0.1 ψ;obtain⟨rfl,rfl⟩:=υ x rfl;refine κ.use (zu (some x) aC _) ?_;rintro _ aE ⟨rfl,h3⟩;obtain rfl:=h3.symm;rw[ψ]
   try dsimp only[dE]
   exact wrap _ aA
theorem AK{w w0:World}(I:η w0 w){N:Nat->ao}(K:∀b W,w0.heap.size<=b->w.heap.size=b->η w W->η w0 W->μ W b bU 24 (some ⟨b,0,none⟩) 1 1 hn->N b W):aN w hn.toArray bU N:=by rintro δ γ rfl rfl;have ρ:=μ.new (w:=w) hn bU;have ζ:=η.alloc w (.cells hn.toArray bU);exact K _ _ I.size rfl ζ (I.trans ζ) ρ
theorem Lr{W:World}{nG gD a b:Nat}{cs kS:aU}(p6:μ W nG bU 24 (some ⟨a,0,none⟩) 1 1 cs)(ha:μ W gD bU 24 (some ⟨b,0,none⟩) 1 1 kS)(h1:∀z∈cs,z.oneCell'=true){N:ag->ao}(K:∀w',Kp W w' (λi=>i=b)->N cs.toArray w'):
  ∃(cE:ag),cE.size=24/\aw W (⟨a,0,none⟩:Addr) cE.toList/\(ο (decide (cE.size=24)) (
   hr W (⟨b,0,none⟩:Addr) cE.toList/\∀b5,b5=W.setCells (⟨b,0,none⟩:Addr).block (⟨b,0,none⟩:Addr).off cE.toList->(∃(dM:ag),dM.size=24/\aw b5 (⟨b,0,none⟩:Addr) dM.toList/\N dM b5))):=by
 have aj:cs.length=24:=p6.1;refine⟨cs.toArray,by simp[aj],p6.cells,aW (by simp[aj]) (ha.put (cs:=cs) aj h1 λτ bP ai=>⟨cs.toArray,by simp[aj],ai.cells,K τ bP⟩)⟩
structure Rows(w:World)(R:bR)(i:Nat)(ps:aU):Prop where
 len:ps.length=8
 one:∀z∈ps,z.oneCell'=true
 row:∀(k:Nat)(e:fF),k<i->R[k]?=some e->∃(p:J)(c:Nat),ps[k]?=some (Value.slice p e.2.2.length c)/\μ w 0 eo 1 p e.2.2.length c (e.2.2.map dO)
theorem Rows.cB{w w':World}{R:bR}{i:Nat}{ps:aU}(h:Rows w R i ps){S:bf}(k:Kp w w' S)(f:TypeId)(ω:∀i,S i->Typed w f i)(ca:eo≠f):Rows w' R i ps:=
 ⟨h.len,h.one,λj e φ he=>by obtain⟨p,c,h1,ι⟩:=h.row j e φ he;exact⟨p,c,h1,ι.cB k f ω ca⟩⟩
theorem Rows.ex{w w':World}{R:bR}{i:Nat}{ps:aU}(h:Rows w R i ps)(k:η w w'):Rows w' R i ps:=h.cB k cj (λ_ h=>h.elim) (by decide)
theorem Rows.set{w:World}{R:bR}{i:Nat}{ps:aU}(h:Rows w R i ps)(o:i<8){e:fF}(he:R[i]?=some e){p:J}{c:Nat}(ε:μ w 0 eo 1 p e.2.2.length c (e.2.2.map dO)):Rows w R (i+1) (ps.set i (.slice p e.2.2.length c)):=by
 refine⟨by rw[im];exact h.len,λz aL=>?_,λk cO hk dG=>?_⟩
 ·rcases pk aL with aL|rfl
  ·exact h.one z aL
  ·rfl
 ·rw[List.getElem?_set];by_cases pZ:i=k
  ·subst pZ;rw[he]at dG;cases dG;rw[aS rfl,aS (by rw[h.len];exact o)];exact⟨p,c,rfl,ε⟩
  ·rw[aM pZ];exact h.row k cO (by omega) dG
theorem Rows.Lu{w:World}{R:bR}{ps:aU}(h:Rows w R 8 ps)(dr:R.length=8)(ok:∀e∈R,lz e):fp w R ps:=
 ⟨dr,h.len,λk e he=>h.row k e (by have:=(List.getElem?_eq_some_iff.1 he).1;omega) he,ok⟩
theorem zw(b j:Nat):(⟨b,16,none⟩:Addr).add (j*1)=⟨b,16+j,none⟩:=by rw[<-dv b 16,add_add,dv,ey]
theorem acV{R:bR}{ps:aU}(h:∀z∈ps,z.oneCell'=true):∀z∈kinds R++ps,z.oneCell'=true:=λz aL=>by
 rcases iG.1 aL with h1|h1
 ·exact Of _ z h1
 ·exact h z h1
theorem aiS{w:World}{B b1:Nat}{R:bR}(h:ki w B b1 R)(ok:∀e∈R,lz e):sg.C (some ⟨b1,0,none⟩) w (χ λv w'=>∃ps,v=.agg (bK R ps).toArray/\fp w' R ps/\η w w'):=by
 obtain⟨fI,h⟩:=h;have dr:=h.len;apply sg.ok;unfold sg.main;refine AK (η.refl w) λδ γ ej aO ζ qA ρ=>AK qA λθ τ eu bE σ e4 ai=>?_;have bM:=(ρ.ge rfl).2;dsimp only at bM;have ca:δ≠θ:=by omega
 have ρ:=ρ.ex σ
 try dsimp only[mI,bk,iY]
 have ι:=h.ex e4;refine⟨(kinds R).toArray,by simp[oI dr],?_,aW (by simp[oI dr]) ?_⟩
 ·have:=a7.take (w:=τ) (a:=some _) ι.ε.cells 16
  rw[oT (by rw[oI dr];exact ew _),hc (by rw[oI dr];exact ew _)]at this;exact this
 have a0:(⟨θ,0,none⟩:Addr)=(⟨θ,0,none⟩:Addr).add 0:=(Addr.add_zero' _).symm;have key:=μ.putAt ai 0 (kinds R) (by rw[oI dr];omega) (Of R) (N:=λaz=>∃(bW:ag),bW.size=8/\aw az ((⟨b1,0,none⟩:Addr).add 16) bW.toList/\sg.bd δ θ bW 0 az (χ λv w'=>∃ps,v=.agg (bK R ps).toArray/\fp w' R ps/\η w w')) λaz cz cx=>?_
 ·rw[<-a0]at key;exact key
 have af:hn.drop (0+(kinds R).length)=List.replicate 8 (Value.slice none 0 0):=by rw[oI dr];rfl
 rw[E7,te,af]at cx;have iQ:η w az:=e4.then cz λi o=>by omega
 have cq:=h.ex iQ;have ρ:=ρ.aH cz λx I o=>by cases I;exact ca o
 refine⟨(fI.map Value.pointer).toArray,by simp[h.jW],?_,?_⟩
 ·have:=aw.drop (w:=az) cq.ε.cells 16
  rw[Cd (by rw[oI dr];exact ew _),qY (by rw[oI dr];exact ew _),te]at this;exact this
 clear ζ σ qA e4 cz bM aO bE;unfold sg.bd;refine⟨λt2 t3 t17 t18 W=>δ=t2/\θ=t3/\(fI.map Value.pointer).toArray=t17/\0<=t18/\t18<=8/\η w W/\μ W δ bU 24 (some ⟨δ,0,none⟩) 1 1 hn/\∃ps,μ W θ bU 24 (some ⟨θ,0,none⟩) 1 1 (kinds R++ps)/\Rows W R t18.toNat ps,λ_ _ _ t18 _=>(8-t18).toNat,
  ⟨rfl,rfl,rfl,by omega,by omega,iQ,ρ,List.replicate 8 (.slice none 0 0),cx,by simp,λz aL=>by rw[uN aL];rfl,λk e hk=>by simp at hk⟩,?_⟩
 clear ρ cx iQ cq;rintro _ _ _ t18 W ⟨rfl,rfl,rfl,aD,h1,I,ρ,ps,ai,υ⟩;unfold sg.δ;obtain⟨k,rfl⟩:=eH aD;rw[cy]at υ;refine bz (λhk=>?_) λhk=>?_
 ·have hk:=b7 hk;obtain⟨e,tp,he,aP⟩:=h.Iz (k:=k) (by omega);refine aW (by omega) (aW (by omega) (gG (v:=.pointer tp) ?_ ?_))
  ·rw[cy,ey,List.getElem?_toArray,List.getElem?_map,aP];rfl
  try dsimp only[nc]
  have S1:ob.C tp W (χ λv w'=>∃q d,v=.slice q e.2.2.length d/\η W w'/\μ w' 0 eo 1 q e.2.2.length d (e.2.2.map dO)):=by
   rcases(h.ex I).tb k e tp he aP with⟨aO,bE⟩|⟨n,L,t1,t2,t3⟩
   ·rw[aO,bE];exact(ahx W).mono λiI w'⟨v,aJ,gw,iZ⟩=>⟨v,aJ,none,0,gw,by rw[iZ];exact η.refl _,μ.nil _ _ _ _⟩
   ·have aj:e.2.2.length=n:=by rw[t2,gQ];have:=t1.len;omega
    rw[aj,t2];exact(ahy t1).mono λiI w'⟨v,aJ,q,d,gw,iZ,h3⟩=>⟨v,aJ,q,d,gw,iZ,h3.lower (en _)⟩
  refine κ.use S1 ?_;rintro _ aE ⟨q,d,rfl,ak,cu⟩
  try dsimp only[dY]
  have ρ:=ρ.ex ak;have ai:=ai.ex ak;refine aW (by omega) (aW (by omega) ?_);rw[cy,zw];refine ai.da (j:=16+k) (v:=.slice q e.2.2.length d) (by omega) rfl λbm hA er=>?_;rw[Ln dr]at er;have gh:∀i,i=θ->Typed aE bU i:=λi o=>o▸(ai.typed rfl).1;rw[bY (x:=(k:Int)+1) (by omega) (by omega)];refine⟨⟨rfl,rfl,rfl,by omega,by omega,(I.trans ak).then hA λi o=>by omega,ρ.aH hA λx I o=>by cases I;exact ca o,_,er,?_⟩,by((try dsimp only);omega)⟩
  have:=(υ.ex ak).cB hA bU gh (by decide)
  exact this.set (by omega) he (cu.cB hA bU gh (by decide))
 ·have hk:=dd hk;obtain rfl:k=8:=by omega
  refine Lr ai ρ (acV υ.one) λw' kw=>χ.mk ⟨ps,rfl,(υ.Lu dr ok).cB kw bU (λi o=>o▸(ρ.typed rfl).1) (by decide),I.then kw λi o=>by omega⟩
def Sep(B i:Nat)(ps:aU):Prop:=(∀(a:Nat)(p:J)(n c:Nat),a<i->ps[a]?=some (.slice p n c)->∀x,p=some x->B<=x.block)/\∀(a b:Nat)(p:J)(n c:Nat)(bT:J)(eX aT:Nat),a<i->b<i->a≠b->ps[a]?=some (.slice p n c)->ps[b]?=some (.slice bT eX aT)->∀x y,p=some x->bT=some y->x.block≠y.block
theorem W2{w:World}{R:bR}{qs:aU}(h:h2 w R qs):rF.C (bK R qs).toArray w (χ λv w'=>∃ps,v=.agg (bK R ps).toArray/\fp w' R ps/\η w w'/\Sep w.heap.size 8 ps):=by
 have dr:=h.len;apply rF.ok;unfold rF.main;rintro δ γ rfl rfl;have ρ:=μ.new (w:=w) (bK R qs) bU;have ζ:=η.alloc w (.cells (bK R qs).toArray bU);have bM:=(ρ.ge rfl).2;have vt:(bK R qs).length=24:=h.dU;rw[vt]at ρ;generalize w.alloc (.cells (bK R qs).toArray bU)=γ at ρ ζ bM⊢;generalize ej:w.heap.size=δ at ρ bM⊢;have aaj:w.heap.size<=δ:=by omega
 refine AK ζ λθ τ eu bE σ e4 ai=>?_;have ρ:=ρ.ex σ;have ca:δ≠θ:=by dsimp only at bM;omega
 clear bM bE ζ σ;unfold rF.bd;refine⟨λt1 t2 t4 W=>δ=t1/\θ=t2/\0<=t4/\t4<=8/\η w W/\μ W θ bU 24 (some ⟨θ,0,none⟩) 1 1 hn/\∃ps,μ W δ bU 24 (some ⟨δ,0,none⟩) 1 1 (kinds R++ps)/\Rows W R t4.toNat ps/\Sep w.heap.size t4.toNat ps/\∀k,t4.toNat<=k->ps[k]?=qs[k]?,λ_ _ t4 _=>(8-t4).toNat,
  ⟨rfl,rfl,by omega,by omega,e4,ai,qs,ρ,⟨h.dx,λz aL=>h.one z (iG.2 (.inr aL)),λk e hk=>by simp at hk⟩,⟨λa p n c aQ=>by simp at aQ,λa b p n c bT eX aT aQ=>by simp at aQ⟩,λ_ _=>rfl⟩,?_⟩
 clear ρ ai e4;rintro _ _ t4 W ⟨rfl,rfl,aD,h1,I,ai,ps,ρ,υ,Ef,Ke⟩;unfold rF.δ;obtain⟨k,rfl⟩:=eH aD;rw[cy]at υ Ef Ke;refine bz (λhk=>?_) λhk=>?_
 ·have hk:=b7 hk;obtain⟨e,he⟩:=h.get (k:=k) (by omega);obtain⟨p,c,hp,π⟩:=(h.ex I).row k e he;have hlen:e.2.2.length<=1000:=(h.ok e (eZ he)).2.1;refine aW (by omega) (aW (by omega) ⟨p,e.2.2.length,c,?_,?_⟩)
  ·rw[cy,zw];refine ρ.at (j:=16+k) ?_;rw[List.getElem?_append_right (by rw[oI dr];omega),oI dr,Ia,Ke k (ew _),hp]
  refine κ.use (W0 p _ c (e.2.2.map dO) W π (by simp) (by omega) (adm _)) ?_;rintro _ aE ⟨q,d,rfl,ak,cu⟩
  try dsimp only[dY]
  have ρ:=ρ.ex ak;have ai:=ai.ex ak;refine aW (by omega) (aW (by omega) ?_);rw[cy,zw];refine ρ.da (j:=16+k) (v:=.slice q e.2.2.length d) (by omega) rfl λbm hA er=>?_;rw[Ln dr]at er;have gh:∀i,i=δ->Typed aE bU i:=λi o=>o▸(ρ.typed rfl).1;rw[bY (x:=(k:Int)+1) (by omega) (by omega)];refine⟨⟨rfl,rfl,by omega,by omega,(I.trans ak).then hA λi o=>by omega,ai.aH hA λx I o=>by cases I;exact ca o.symm,_,er,?_,?_,λj φ=>?_⟩,by((try dsimp only);omega)⟩
  ·exact((υ.ex ak).cB hA bU gh (by decide)).set (by omega) he ((cu.lower (en _)).cB hA bU gh (by decide))
  ·show Sep w.heap.size (k+1) _;have mj:∀a,a<k->∀(bT:J)(eX aT:Nat)x,ps[a]?=some (.slice bT eX aT)->bT=some x->x.block<W.heap.size:=by
    intro a aQ bT eX aT x D7 lR;obtain⟨cO,dG⟩:=h.get (k:=a) (by omega);obtain⟨aX,c2,oB,qS⟩:=υ.row a cO aQ dG;rw[D7]at oB;cases oB;exact(qS.ge lR).2
   refine⟨λa ab ay c1 aQ h1 x lR=>?_,?_⟩
   ·rw[List.getElem?_set]at h1;have NO:k<ps.length:=by rw[υ.len];omega
    by_cases JI:k=a
    ·subst JI;rw[aS rfl,aS NO]at h1;cases h1;have g1:=(cu.ge lR).1;have g2:=I.size;omega
    ·rw[aM JI]at h1;exact Ef.1 a _ _ _ (by omega) h1 x lR
   intro a b ab ay c1 aX bu c2 aQ ψ sU h1 ι x y lR Km;rw[List.getElem?_set]at h1 ι;have NO:k<ps.length:=by rw[υ.len];omega
   by_cases JI:k=a
   ·subst JI;rw[aS rfl,aS NO]at h1;rw[aM sU]at ι;cases h1;have g1:=(cu.ge lR).1;have g2:=mj b (by omega) _ _ _ _ ι Km;omega
   ·rw[aM JI]at h1;by_cases aau:k=b
    ·subst aau;rw[aS rfl,aS NO]at ι;cases ι;have g1:=(cu.ge Km).1;have g2:=mj a (by omega) _ _ _ _ h1 lR;omega
    ·rw[aM aau]at ι;exact Ef.2 a b _ _ _ _ _ _ (by omega) (by omega) sU h1 ι x y lR Km
  ·have φ:k+1<=j:=φ;rw[List.getElem?_set_ne (by omega)];exact Ke j (by omega)
 ·have hk:=dd hk;obtain rfl:k=8:=by omega
  refine Lr ρ ai (acV υ.one) λw' kw=>χ.mk ⟨ps,rfl,(υ.Lu dr h.ok).cB kw bU (λi o=>o▸(ai.typed rfl).1) (by decide),I.then kw (λi o=>by omega),ej▸Ef⟩
theorem W3{w:World}{R:bR}{qs:aU}(h:h2 w R qs):rF.C (bK R qs).toArray w (χ λv w'=>∃ps,v=.agg (bK R ps).toArray/\fp w' R ps/\η w w'):=
 (W2 h).mono λe w'⟨v,aJ,ps,h1,ι,aG,_⟩=>⟨v,aJ,ps,h1,ι,aG⟩
theorem ahz{w:World}{R:bR}{qs:aU}(h:h2 w R qs)(ω:lo R){p:J}{c:Nat}:sL.C (bK R qs).toArray p 0 c w (χ λv w'=>∃ps,v=.tuple #[.agg (bK R ps).toArray,.int .i64 0,.int .i64 0]/\fp w' R ps/\η w w'):=by
 have dr:=h.len;apply sL.ok;unfold sL.main;rintro δ γ rfl rfl;have ρ:=μ.new (w:=w) (bK R qs) bU;have ζ:=η.alloc w (.cells (bK R qs).toArray bU);have bM:=(ρ.ge rfl).2;have vt:(bK R qs).length=24:=h.dU;rw[vt]at ρ;generalize w.alloc (.cells (bK R qs).toArray bU)=γ at ρ ζ bM⊢;generalize ej:w.heap.size=δ at ρ bM⊢;refine AK ζ λθ τ eu bE σ e4 ai=>?_;have ρ:=ρ.ex σ;have ca:δ≠θ:=by dsimp only at bM;omega
 refine⟨(bK R qs).toArray,by simp[vt],ρ.cells,?_⟩;refine κ.use (Gw (h.ex e4)) ?_;rintro _ aa ⟨rfl,ad⟩;rw[bB ω]
 try dsimp only[dE]
 have gJ:=e4.trans ad;refine⟨(bK R qs).toArray,by simp[vt],(ρ.ex ad).cells,?_⟩;refine κ.use (W3 (h.ex gJ)) ?_;rintro _ ba ⟨ps,rfl,bV,aI⟩
 try dsimp only[hx,ie]
 have ks:=gJ.trans aI;have ρ:=(ρ.ex ad).ex aI;have ai:=(ai.ex ad).ex aI;have vE:=bV.at.one;refine aW (by simp[bV.at.dU]) (ρ.put (cs:=bK R ps) bV.at.dU vE λb5 fL e6=>?_);have gh:∀i,i=δ->Typed ba bU i:=λi o=>o▸(ρ.typed rfl).1;have zv:η w b5:=ks.then fL λi o=>by omega
 have aos:=bV.cB fL bU gh (by decide);have ai:=ai.aH fL λx I o=>by cases I;exact ca o.symm
 unfold sL.bd;refine⟨λt2 t4 PE PD Wc t17 t18 W=>δ=t2/\θ=t4/\t17=0/\t18=0/\b5=W,λ_ _ _ _ _ _ _ _=>0,⟨rfl,rfl,rfl,rfl,rfl⟩,?_⟩;rintro _ _ PE PD Wc _ _ _ ⟨rfl,rfl,rfl,rfl,rfl⟩;unfold sL.δ;rw[iD (by omega)];exact Lr e6 ai vE λw' kw=>χ.mk ⟨ps,rfl,aos.cB kw bU (λi o=>o▸(ai.typed rfl).1) (by decide),zv.then kw λi o=>by omega⟩
abbrev dh:=Nat×Nat
def kb(f:dh->dh)(R:bR):bR:=R.map λe=>(e.1,e.2.1,e.2.2.map (Option.map f))
def lh(x y:dh)(z:dh):dh:=if z=x then y else z
def k3(R:bR):List dh->List dh->bR
 |x::xs,y::ys=>k3 (kb (lh x y) R) xs ys
 |_,_=>R
def KM(v:Nat)(l:List ea)(x:dh):List (Nat×Nat):=l.zipIdx.flatMap λq=>if q.1=some x then[(v,q.2)]else[]
def xt(R:bR)(x:dh):List (Nat×Nat):=R.zipIdx.flatMap λe=>KM e.2 e.1.2.2 x
def vP(p:Nat×Nat):aU:=[.int .i64 (p.1:Int),.int .i64 (p.2:Int)]
theorem aqP(v:Nat)(l:List ea)(x:dh):nY (v:Int) l x=(KM v l x).flatMap vP:=by
 unfold nY KM;rw[List.flatMap_assoc];congr 1
 funext q
 split<;>rfl
theorem U8(R:bR)(x:dh):lA R x=(xt R x).flatMap vP:=by
 unfold lA xt;rw[List.flatMap_assoc];congr 1
 funext q
 exact aqP _ _ _
theorem Kx{R:bR}{x:dh}{v b:Nat}:(v,b)∈xt R x↔∃e,R[v]?=some e/\e.2.2[b]?=some (some x):=by
 constructor
 ·intro h;obtain⟨⟨e,q9⟩,he,hm⟩:=oU.1 h;obtain⟨⟨q,gL⟩,aC,hm⟩:=oU.1 hm;have lx:=Lb.1 he;have TM:=Lb.1 aC;dsimp only at lx TM hm;split at hm
  ·rename_i I;simp only[lB,Fe]at hm;obtain⟨rfl,rfl⟩:=hm;subst I;exact⟨_,lx,TM⟩
  ·cases hm
 ·rintro⟨e,he,ψ⟩;exact oU.2 ⟨(e,v),Lb.2 he,oU.2 ⟨(some x,b),Lb.2 ψ,by simp⟩⟩
def AI(R:bR)(y:dh)(P:List (Nat×Nat)):bR:=P.foldl (λR p=>jv R p.1 p.2 (some y)) R
theorem asB(R:bR)(y:dh)(P:List (Nat×Nat))(p:Nat×Nat):AI R y (P++[p])=jv (AI R y P) p.1 p.2 (some y):=by simp[AI]
theorem VZ(R:bR)(v b:Nat)(q:ea)(k:Nat):(jv R v b q)[k]?=if k=v then(R[k]?).map λe=>(e.1,e.2.1,e.2.2.set b q)else R[k]?:=by
 unfold jv;cases υ:R[v]?with
 |none=>
  by_cases h:k=v
  ·subst h;simp[υ]
  ·simp[h]
 |some e=>
  dsimp only;rw[List.getElem?_set];by_cases h:v=k
  ·subst h;rw[aS rfl,aS (List.getElem?_eq_some_iff.1 υ).1,aS rfl,υ];rfl
  ·rw[aM h,aM λe=>h e.symm]
theorem ad6(R:bR)(v b:Nat)(q:ea):(jv R v b q).length=R.length:=by
 unfold jv;split
 ·rw[im]
 ·rfl
theorem VX(y:dh)(k:Nat):∀(P:List (Nat×Nat))(R:bR),(AI R y P)[k]?=(R[k]?).map λe=>(e.1,e.2.1,e.2.2.mapIdx λb q=>if(k,b)∈P then some y else q)
 |[],R=>by
  show R[k]?=_;cases R[k]?with
  |none=>rfl
  |some e=>
   have:(e.2.2.mapIdx λb q=>if(k,b)∈([]:List (Nat×Nat))then some y else q)=e.2.2:=by apply qb;intro i;rw[List.getElem?_mapIdx];simp
   rw[iT,this]
 |p::P,R=>by
  show(AI (jv R p.1 p.2 (some y)) y P)[k]?=_;rw[VX y k P,VZ];cases υ:R[k]?with
  |none=>simp
  |some e=>
   by_cases hk:k=p.1
   ·rw[aS hk,iT,iT,iT];congr 1;refine AG rfl (AG rfl ?_);dsimp only;apply qb;intro b;rw[List.getElem?_mapIdx,List.getElem?_mapIdx,List.getElem?_set];by_cases ψ:p.2=b
    ·subst ψ;rw[aS rfl];by_cases aj:p.2<e.2.2.length
     ·rw[aS aj]
      have:(k,p.2)∈p::P:=by
       have:p=(k,p.2):=AG hk.symm rfl
       rw[<-this];exact n2
      rw[List.getElem?_eq_getElem aj];simp[this]
     ·rw[aM aj,List.getElem?_eq_none (by omega)];rfl
    ·rw[aM ψ]
     have:((k,b)∈p::P)↔((k,b)∈P):=by rw[fA];exact⟨λh=>h.resolve_left λe=>ψ (gP Prod.snd e).symm,.inr⟩
     simp only[this]
   ·rw[aM hk,iT,iT];congr 1;refine AG rfl (AG rfl ?_);dsimp only;congr 1
    funext b q
    have:((k,b)∈p::P)↔((k,b)∈P):=by rw[fA];exact⟨λh=>h.resolve_left λe=>hk (gP Prod.fst e),.inr⟩
    simp only[this]
theorem asA(R:bR)(x y:dh):AI R y (xt R x)=kb (lh x y) R:=by
 apply qb;intro k;rw[VX];unfold kb;rw[List.getElem?_map];cases υ:R[k]?with
 |none=>rfl
 |some e=>
  rw[iT,iT];congr 1;refine AG rfl (AG rfl ?_);dsimp only;apply qb;intro b;rw[List.getElem?_mapIdx,List.getElem?_map];cases ψ:e.2.2[b]?with
  |none=>rfl
  |some q=>
   rw[iT,iT];congr 1;by_cases aC:q=some x
   ·subst aC;rw[aS (Kx.2 ⟨e,υ,ψ⟩)];simp[lh]
   ·rw[aM λh=>by
     obtain⟨cO,h1,ι⟩:=Kx.1 h;rw[υ]at h1;cases h1;rw[ψ]at ι;cases ι;exact aC rfl]
    cases q with
    |none=>rfl
    |some z=>simp[lh,show z≠x fromλe=>aC (by rw[e])]
theorem ab8{e:fF}{x:dh}:x∈pB e↔some x∈e.2.2:=by unfold pB;rw[uQ];exact⟨λ⟨a,h,e⟩=>by cases a with|none=>cases e|some y=>cases e;exact h,λh=>⟨_,h,rfl⟩⟩
theorem vJ{R:bR}{x:dh}:x∈used R↔∃e∈R,some x∈e.2.2:=by unfold used;rw[oU];exact⟨λ⟨e,h,k⟩=>⟨e,h,ab8.1 k⟩,λ⟨e,h,k⟩=>⟨e,h,ab8.2 k⟩⟩
theorem ac4{R:bR}{x:dh}:xt R x=[]↔x∉used R:=by
 constructor
 ·intro h I;obtain⟨e,he,hm⟩:=vJ.1 I;obtain⟨v,aJ⟩:=List.getElem?_of_mem he;obtain⟨b,ψ⟩:=List.getElem?_of_mem hm
  have:=Kx.2 ⟨e,aJ,ψ⟩
  rw[h]at this;cases this
 ·intro h;rw[VA];rintro⟨v,b⟩ hm;obtain⟨e,he,ψ⟩:=Kx.1 hm;exact h (vJ.2 ⟨e,eZ he,eZ ψ⟩)
theorem aqV{w:World}{B:Nat}{p:J}{n c:Nat}{P:List (Nat×Nat)}(ε:μ w B hG 2 p n c (P.flatMap vP)){j:Nat}{v b:Nat}(φ:P[j]?=some (v,b)):∃a,p=some a/\aw w (a.add (j*2)) (vP (v,b)):=by
 have e:P.flatMap vP=(P.map vP).flatten:=by rw[List.flatMap_def]
 rw[e]at ε;exact ε.cells.row (k:=2) (λr υ=>by obtain⟨q,_,rfl⟩:=gO.1 υ;rfl) (by decide) (by rw[List.getElem?_map,φ];rfl)
theorem ZG(P:List (Nat×Nat)):(P.flatMap vP).length=2*P.length:=by
 induction P with
 |nil=>rfl
 |cons a l ch=>rw[yS,fe,ch,k5];show 2+_=_;omega
theorem Si{α β:Type}{f:α->List β}{k:Nat}:∀{l:List α},(∀a∈l,(f a).length<=k)->(l.flatMap f).length<=l.length*k
 |[],_=>by simp
 |a::l,h=>by rw[yS,fe,k5,k7,Fb];have h1:=h a (by simp);have ι:=Si (l:=l) λb ψ=>h b (hW _ ψ);omega
theorem aqR{R:bR}(dr:R.length=8)(ok:∀e∈R,lz e)(x:dh):(xt R x).length<=8000:=by
 have:=Si (l:=R.zipIdx) (f:=λe=>KM e.2 e.1.2.2 x) (k:=1000) λe he=>by
  have hm:=ok e.1 (eZ (Lb.1 he))
  have:=Si (l:=e.1.2.2.zipIdx) (f:=λq=>if q.1=some x then[(e.2,q.2)]else[]) (k:=1) λq _=>by split<;>simp
  rw[List.length_zipIdx]at this;have aj:=hm.2.1;unfold KM;omega
 rw[List.length_zipIdx,dr]at this;exact this
theorem ape(f:dh->dh)(R:bR):kinds (kb f R)=kinds R:=by unfold kinds kb;rw[List.flatMap_map]
theorem fp.cell{w:World}{R:bR}{ps:aU}(h:fp w R ps){ahB:Nat}(ω:Sep ahB 8 ps){v b:Nat}{e:fF}(he:R[v]?=some e)(ψ:b<e.2.2.length){y:dh}(ah:gF y){p:J}{n c:Nat}(hp:ps[v]?=some (.slice p n c)){N:ao}
  (K:∀w',fp w' (jv R v b (some y)) ps->Kp w w' (λi=>∃x,p=some x/\x.block=i)->N w'):
  n=e.2.2.length/\∃d,p=some d/\((w.cell? (d.add (b*1))).isSome=true/\w.frozen? (d.add (b*1))=false/\∀w',w'=w.setCell (d.add (b*1)) (dO (some y))->N w'):=by
 obtain⟨aX,c2,oB,ε⟩:=h.row v e he;rw[hp]at oB;cases oB;refine⟨rfl,?_⟩;obtain⟨awy,rfl⟩:=μ.base ε (by omega);refine⟨_,rfl,?_⟩;rw[ey,dv];refine ε.da (j:=b) (v:=dO (some y)) (by omega) rfl λw' k' hD=>?_;rw[<-qX]at hD;have aJ:v<8:=by have:=(List.getElem?_eq_some_iff.1 he).1;rw[h.len]at this;exact this
 refine K w' ⟨by rw[ad6];exact h.len,h.dx,λk cO hk=>?_,λcO dG=>?_⟩ (k'.mono λi _ o=>⟨_,rfl,o.symm⟩)
 ·rw[VZ]at hk;by_cases Hd:k=v
  ·subst Hd;rw[aS rfl,he]at hk;cases hk;rw[im];exact⟨_,c,hp,hD⟩
  ·rw[aM Hd]at hk;obtain⟨bh,bI,aG,bo⟩:=h.row k cO hk;have zU:k<8:=by have:=(List.getElem?_eq_some_iff.1 hk).1;rw[h.len]at this;exact this
   exact⟨bh,bI,aG,bo.aH k' λx I o=>ω.2 k v _ _ _ _ _ _ zU aJ Hd aG hp x _ I rfl o⟩
 ·obtain⟨k,hk⟩:=List.getElem?_of_mem dG;rw[VZ]at hk;by_cases Hd:k=v
  ·subst Hd;rw[aS rfl,he]at hk;cases hk;have aB:=h.ok e (eZ he);refine⟨λq aC=>?_,by rw[im];exact aB.2.1,aB.2.2⟩;rcases pk aC with aC|rfl
   ·exact aB.1 q aC
   ·exact ah
  ·rw[aM Hd]at hk;exact h.ok cO (eZ hk)
theorem aim{w:World}{R:bR}{qs:aU}(h:h2 w R qs)(ω:lo R){x y:dh}(I:x∈used R)(ah:y∉used R)(vF:gF y):
  oP.C (bK R qs).toArray (ev (some x)) (eE (some x)) (ev (some y)) (eE (some y)) w (χ λv w'=>∃ps,v=.tuple #[.agg (bK (kb (lh x y) R) ps).toArray,.int .i64 0]/\fp w' (kb (lh x y) R) ps/\η w w'):=by
 have dr:=h.len;have NT:gF x:=q8 h.ok x I;apply oP.ok;unfold oP.main;rintro δ γ ej rfl;have ρ:=μ.new (w:=w) (bK R qs) bU;rw[<-ej,h.dU]at ρ;have ζ:=η.alloc w (.cells (bK R qs).toArray bU);have bM:=(ρ.ge rfl).2;generalize w.alloc (.cells (bK R qs).toArray bU)=γ at ρ ζ bM⊢;refine AK ζ λθ τ eu bE σ e4 ai=>?_;have ρ:=ρ.ex σ;have ca:δ≠θ:=by dsimp only at bM;omega
 clear bM ζ σ bE;refine⟨(bK R qs).toArray,by simp[h.dU],ρ.cells,?_⟩;refine κ.use (Gw (h.ex e4)) ?_;rintro _ aa ⟨rfl,ad⟩;rw[bB ω]
 try dsimp only[dE]
 refine κ.use (zu (some x) NT _) ?_;rintro _ aE ⟨rfl,h3⟩;obtain rfl:=h3.symm
 try dsimp only[dE]
 rw[cond_neg (by rfl)];refine κ.use (zu (some y) vF _) ?_;rintro _ bm ⟨rfl,qJ⟩;obtain rfl:=qJ.symm
 try dsimp only[dE]
 rw[cond_neg (by rfl)];have gJ:=e4.trans ad;have ρ:=ρ.ex ad;have ai:=ai.ex ad;refine⟨(bK R qs).toArray,by simp[h.dU],ρ.cells,?_⟩;refine κ.use (all_map (h.ex gJ)) ?_;rintro _ cn ⟨B,awz,rfl,dW,hm,c7⟩
 try dsimp only[M3]
 have Mw:=gJ.trans c7;have ρ:=ρ.ex c7;have ai:=ai.ex c7;have oA:∀y∈gm (used R),gF y:=λy ah=>q8 h.ok y ((kl _ _).1 ah);have vA:∀y,y∉gm (used R)->lA R y=[]:=λy ah=>U9 λhu=>ah ((kl _ _).2 hu);refine hm.look oA vA NT λab ay c1 U0=>?_
 try dsimp only[dY]
 rw[U8]at U0;have qN:ay=(xt R x).length:=by have:=U0.1;rw[ZG]at this;omega
 have anV:xt R x≠[]:=λe=>ac4.1 e I;have vG:0<(xt R x).length:=VD.2 anV;rw[cond_neg (by simp;omega)];have aoV:x≠y:=λe=>ah (e▸I);rw[BV NT vF aoV,cond_pos (by rfl)];refine hm.look oA vA vF λaX bu c2 U1=>?_
 try dsimp only[dY]
 rw[U8,ac4.2 ah]at U1;have aa4:bu=0:=by have:=U1.1;simp at this;omega
 subst aa4;rw[iD (by omega)];unfold oP.a1;refine⟨(bK R qs).toArray,by simp[h.dU],ρ.cells,?_⟩;refine κ.use (W2 (h.ex Mw)) ?_;rintro _ eR ⟨ps,rfl,bV,jm,Ef⟩
 try dsimp only[hx,ie]
 have A9:=Mw.trans jm;have ajd:=Mw.size;have ρ:=ρ.ex jm;have ai:=ai.ex jm;have vE:=bV.at.one;refine aW (by simp[bV.at.dU]) (ρ.put (cs:=bK R ps) bV.at.dU vE λfO yG pj=>?_);have gh:∀i,i=δ->Typed eR bU i:=λi o=>o▸(ρ.typed rfl).1;have I7:η w fO:=A9.then yG λi o=>by omega
 have abo:=bV.cB yG bU gh (by decide);have ai:=ai.aH yG λx I o=>by cases I;exact ca o.symm
 obtain⟨es,o9,_⟩:=(hm.xb (jm.aH λ_=>False) id λ_ h=>h.elim).size;have aa0:=(hm.xb (jm.aH λ_=>False) id λ_ h=>h.elim).xb yG (λψ=>by obtain⟨c,fr,aP⟩:=gh _ ψ;rw[o9]at aP;cases aP) λi o aP=>aP.ne (gh i o) (by decide) rfl
 refine aa0.look oA vA NT λbh dB bI KJ=>?_
 try dsimp only[dY]
 rw[U8]at KJ;have anR:dB=(xt R x).length:=by have:=KJ.1;rw[ZG]at this;omega
 subst anR;clear aa0 hm U0 U1 ρ yG bV jm;generalize cV:xt R x=P at KJ⊢;have js:∀v b,(v,b)∈P->∃e,R[v]?=some e/\b<e.2.2.length:=λv b hm=>by rw[<-cV]at hm;obtain⟨e,he,ψ⟩:=Kx.1 hm;exact⟨e,he,(List.getElem?_eq_some_iff.1 ψ).1⟩
 have awO:P.length<=8000:=cV▸aqR dr h.ok x;unfold oP.bd;refine⟨λq4 q3 t3 t6 PR PQ Wg t51 t52 W=>ev (some y)=q4/\eE (some y)=q3/\δ=t3/\θ=t6/\bh=PR/\P.length=PQ/\(P.length:Int)=t51/\0<=t52/\t52<=P.length/\η w W/\μ W δ bU 24 (some ⟨δ,0,none⟩) 1 1 (bK R ps)/\μ W θ bU 24 (some ⟨θ,0,none⟩) 1 1 hn/\μ W B hG 2 bh P.length bI (P.flatMap vP)/\fp W (AI R y (P.take t52.toNat)) ps,
  λ_ _ _ _ _ _ _ _ t52 _=>(P.length-t52).toNat,⟨rfl,rfl,rfl,rfl,rfl,rfl,rfl,by omega,by omega,I7,pj,ai,KJ,abo⟩,?_⟩
 clear I7 pj ai KJ abo A9 Mw gJ e4 ad c7;rintro _ _ _ _ _ _ Wg _ t52 W ⟨rfl,rfl,rfl,rfl,rfl,rfl,rfl,aD,h1,Hn,ρ,ai,OF,bV⟩;unfold oP.δ;obtain⟨j,rfl⟩:=eH aD;rw[cy]at bV;refine bz (λφ=>?_) λφ=>?_
 ·have φ:=b7 φ;have eP:j<P.length:=by omega
  obtain⟨v,b,N3⟩:∃v b,P[j]?=some (v,b):=⟨P[j].1,P[j].2,List.getElem?_eq_getElem eP⟩;obtain⟨a,rfl,kL⟩:=aqV OF N3;obtain⟨e,he,ψ⟩:=js v b (eZ N3);have TW:v<8:=by have:=(List.getElem?_eq_some_iff.1 he).1;omega
  refine aW (by omega) (aW (by omega) ?_)
  try dsimp only[bk]
  rw[cy];refine⟨(vP (v,b)).toArray,rfl,kL,?_⟩;rintro fq fE yl rfl;have bS:=μ.new (w:=W) [.int .i64 0,.int .i64 0] hG;rw[<-yl]at bS;have aI:=η.alloc W (.cells #[.int .i64 0,.int .i64 0] hG);generalize W.alloc (.cells #[.int .i64 0,.int .i64 0] hG)=fE at bS aI⊢;refine aW rfl (bS.put (cs:=vP (v,b)) rfl (λz aL=>by unfold vP at aL;simp only[fA,n1,oS]at aL;rcases aL with rfl|rfl<;>rfl) λeD Od p5=>?_);have od:η W eD:=aI.then Od λi o=>by omega
  have dT:=od.trans (η.drew eD);have p5:=p5.ex (η.drew eD);generalize eD.drew=fv at dT p5⊢;have ρ:=ρ.ex dT;have ai:=ai.ex dT;have OF:=OF.ex dT;have bV:=bV.ex dT;have yx:=bV.row v;have mL:=VX y v (P.take j) R;rw[he,iT]at mL;obtain⟨il,akn,uz,_⟩:=yx _ mL;dsimp only at uz;rw[List.length_mapIdx]at uz;refine⟨_,p5.at (j:=0) rfl,aW (by omega) (aW (by omega) ⟨il,e.2.2.length,akn,?_,(b:Int),p5.at (j:=1) rfl,?_⟩)⟩
  ·rw[cy,zw];refine ρ.at (j:=16+v) ?_;unfold bK;rw[List.getElem?_append_right (by rw[oI dr];omega),oI dr,Ia];exact uz
  rw[(ML vF).1,(ML vF).2]
  try dsimp only[bk]
  refine aW (by omega) (aW (by omega) ?_);have K:∀w',fp w' (jv (AI R y (P.take j)) v b (some y)) ps->Kp fv w' (λi=>∃x,il=some x/\x.block=i)->(ev (some y)=ev (some y)/\eE (some y)=eE (some y)/\δ=δ/\θ=θ/\some a=some a/\P.length=P.length/\(P.length:Int)=(P.length:Int)/\0<=IntKind.i64.wrap ((j:Int)+1)/\IntKind.i64.wrap ((j:Int)+1)<=P.length/\η w w'/\μ w' δ bU 24 (some ⟨δ,0,none⟩) 1 1 (bK R ps)/\μ w' θ bU 24 (some ⟨θ,0,none⟩) 1 1 hn/\μ w' B hG 2 (some a) P.length bI (P.flatMap vP)/\fp w' (AI R y (P.take (IntKind.i64.wrap ((j:Int)+1)).toNat)) ps)/\((P.length:Int)-IntKind.i64.wrap ((j:Int)+1)).toNat<((P.length:Int)-(j:Int)).toNat:=by
   intro w' nS k';have nw:∀i,(∃x,il=some x/\x.block=i)->Typed fv eo i:=λi⟨x,I,o⟩=>by obtain⟨bT,aT,D7,hD⟩:=bV.row v _ mL;rw[uz]at D7;simp only[sa,Value.slice.injEq]at D7;exact o▸(hD.typed (D7.1▸I)).1
   rw[bY (x:=(j:Int)+1) (by omega) (by omega)];have aO:((j:Int)+1).toNat=j+1:=by omega
   have qK:P.take (j+1)=P.take j++[(v,b)]:=by rw[k6 eP];congr 2;rw[List.getElem?_eq_getElem eP]at N3;exact AE N3
   rw[aO,qK,asB];refine⟨⟨rfl,rfl,rfl,rfl,rfl,rfl,rfl,by omega,by omega,(Hn.trans dT).then k' λi o=>?_,ρ.cB k' eo nw (by decide),ai.cB k' eo nw (by decide),OF.cB k' eo nw (by decide),nS⟩,by omega⟩;obtain⟨sw,lR,kX⟩:=o
   have:=Ef.1 v _ _ _ TW uz sw lR
   have:=ajd
   omega
  obtain⟨_,d,af,key⟩:=fp.cell bV Ef mL (b:=b) (by rw[List.length_mapIdx];exact ψ) vF uz K;subst af;rw[cy];exact gG rfl key
 ·have φ:=dd φ;obtain rfl:j=P.length:=by omega
  rw[AB,<-cV,asA]at bV;have hk:bK R ps=bK (kb (lh x y) R) ps:=by unfold bK;rw[ape]
  rw[hk]at ρ;refine Lr ρ ai bV.at.one λw' kw=>χ.mk ⟨ps,rfl,bV.cB kw bU (λi o=>o▸(ai.typed rfl).1) (by decide),Hn.then kw λi o=>by omega⟩
def IZ:bR->List dh->List dh->Prop
 |R,x::xs,y::ys=>x∈used R/\y∉used R/\gF y/\IZ (kb (lh x y) R) xs ys
 |_,[],[]=>True
 |_,_,_=>False
theorem acg:∀{xs ys:List dh}{R:bR},IZ R xs ys->∀{i:Nat}(h1:i<xs.length)(ι:i<ys.length),xs[i]∈used (k3 R (xs.take i) (ys.take i))/\ys[i]∉used (k3 R (xs.take i) (ys.take i))/\gF ys[i]/\kb (lh xs[i] ys[i]) (k3 R (xs.take i) (ys.take i))=k3 R (xs.take (i+1)) (ys.take (i+1))
 |x::xs,y::ys,R,h,0,h1,ι=>⟨h.1,h.2.1,h.2.2.1,rfl⟩
 |x::xs,y::ys,R,h,i+1,h1,ι=>acg h.2.2.2 (i:=i) (by simpa using h1) (by simpa using ι)
theorem asV{R:bR}(f:dh->dh)(h:lo R):lo (kb f R):=λe he=>by obtain⟨hl,aD,rfl⟩:=gO.1 he;obtain⟨s1,s2,lU,q1⟩:=h hl aD;exact⟨by show((hl.2.2.map _).length:Int)=_;rw[jV];exact s1,s2,lU,q1⟩
theorem FF:∀{xs ys:List dh}{R:bR},lo R->lo (k3 R xs ys)
 |x::xs,y::ys,R,h=>FF (xs:=xs) (ys:=ys) (R:=kb (lh x y) R) (asV _ h)
 |[],_,_,h=>h
 |_::_,[],_,h=>h
theorem ahw{w:World}{R:bR}{qs:aU}(h:fp w R qs)(ω:lo R){V T:List dh}(hm:IZ R V T){p q:J}{n c d:Nat}{nG gD:Nat}(ν:μ w nG eo 1 p n c (dx V))(uJ:μ w gD eo 1 q n d (dx T))(ax:n<=100000):
  ti.C (bK R qs).toArray p n c q n d w (χ λv w'=>∃ps,v=.tuple #[.agg (bK (k3 R V T) ps).toArray,.int .i64 0]/\fp w' (k3 R V T) ps/\η w w'):=by
 have nM:V.length=n:=by have:=ν.1;rw[yP,ey]at this;exact this
 have e2:T.length=n:=by have:=uJ.1;rw[yP,ey]at this;exact this
 apply ti.ok;unfold ti.main;rintro δ γ ej rfl;have ρ:=μ.new (w:=w) (bK R qs) bU;rw[<-ej,h.at.dU]at ρ;have ζ:=η.alloc w (.cells (bK R qs).toArray bU);have bM:=(ρ.ge rfl).2;generalize w.alloc (.cells (bK R qs).toArray bU)=γ at ρ ζ bM⊢;refine AK ζ λθ τ eu bE σ e4 ai=>?_;have ρ:=ρ.ex σ;have ca:δ≠θ:=by dsimp only at bM;omega
 clear bM ζ σ bE;rw[cond_neg (by simp)];unfold ti.bd;refine⟨λlW lV py e8 e0 fN t3 t6 t17 t18 W=>p=lW/\n=lV/\q=e8/\n=e0/\δ=t3/\θ=t6/\(n:Int)=t17/\0<=t18/\t18<=n/\η w W/\μ W θ bU 24 (some ⟨θ,0,none⟩) 1 1 hn/\∃ps,fp W (k3 R (V.take t18.toNat) (T.take t18.toNat)) ps/\μ W δ bU 24 (some ⟨δ,0,none⟩) 1 1 (bK (k3 R (V.take t18.toNat) (T.take t18.toNat)) ps),
  λ_ _ _ _ _ _ _ _ _ t18 _=>(n-t18).toNat,⟨rfl,rfl,rfl,rfl,rfl,rfl,rfl,by omega,by omega,e4,ai,qs,h.ex e4,ρ⟩,?_⟩
 clear ρ ai e4;rintro _ _ py _ _ fN _ _ _ t18 W ⟨rfl,rfl,rfl,rfl,rfl,rfl,rfl,aD,h1,I,ai,ps,bV,ρ⟩;unfold ti.δ;obtain⟨i,rfl⟩:=eH aD;rw[cy]at bV ρ;refine bz (λo=>?_) λo=>?_
 ·have o:=b7 o;have dT:=η.drew W;have Ho:=I.trans dT;have bV:=bV.ex dT;have ρ:=ρ.ex dT;have ai:=ai.ex dT;generalize W.drew=W at dT Ho bV ρ ai⊢;have aaO:i<V.length:=by omega
  have aaN:i<T.length:=by omega
  obtain⟨m1,m2,m3,m4⟩:=acg hm aaO aaN;refine⟨(bK (k3 R (V.take i) (T.take i)) ps).toArray,by rw[fh];exact bV.at.dU,ρ.cells,aW (by omega) (aW (by omega) ?_)⟩;obtain⟨a,rfl,j3⟩:=(ν.ex Ho).cells.many (j:=i) (v:=dO (some V[i])) (by unfold dx;rw[List.getElem?_map,List.getElem?_eq_getElem aaO];rfl);obtain⟨fy,rfl,VF⟩:=(uJ.ex Ho).cells.many (j:=i) (v:=dO (some T[i])) (by unfold dx;rw[List.getElem?_map,List.getElem?_eq_getElem aaN];rfl)
  try dsimp only[bk]
  rw[cy,ey];refine⟨_,_,j3,aW (by omega) (aW (by omega) ⟨_,_,VF,?_⟩)⟩;refine κ.use (aim bV.at (FF ω) m1 m2 m3) ?_;rw[m4];rintro _ az ⟨ta,rfl,nS,aA⟩
  try dsimp only[bX,cC,cD,bk,bH,hx,ie]
  have ρ:=ρ.ex aA;have ai:=ai.ex aA;refine aW (by rw[fh];exact nS.at.dU) (ρ.put (cs:=bK _ ta) nS.at.dU nS.at.one λba ec bS=>?_);rw[cond_neg (by rfl),bY (x:=(i:Int)+1) (by omega) (by omega)];have aO:((i:Int)+1).toNat=i+1:=by omega
  refine⟨⟨by trivial,by trivial,by trivial,by trivial,by trivial,by trivial,by trivial,by omega,by omega,(Ho.trans aA).then ec (λi o=>by omega),ai.aH ec (λx I o=>by cases I;exact ca o.symm),ta,?_,?_⟩,by((try dsimp only);omega)⟩
  ·rw[aO];exact nS.cB ec bU (λi o=>o▸(ρ.typed rfl).1) (by decide)
  ·rw[aO];exact bS
 ·have o:=dd o;obtain rfl:i=n:=by omega
  rw[hc (by omega),hc (by omega)]at bV ρ;exact Lr ρ ai bV.at.one λw' kw=>χ.mk ⟨ps,rfl,bV.cB kw bU (λi o=>o▸(ai.typed rfl).1) (by decide),I.then kw λi o=>by omega⟩
def uF(l:List ea)(j:Nat):List ea:=l.take j++List.replicate (l.length-j) none
theorem ab9{l:List ea}{j:Nat}(h:j<l.length):(uF l j).set j (l.getD j none)=uF l (j+1):=by
 have bJ:l.getD j none=l[j]:=by rw[List.getD_eq_getElem?_getD,List.getElem?_eq_getElem h];rfl
 unfold uF;rw[Ce _ _ (by rw[gQ];omega),gQ,qZ (by omega),v7,k6 h,show l.length-j=(l.length-(j+1))+1 by omega,E9,H7,bJ,lT];rfl
theorem apQ{l:List ea}{j:Nat}(h:j<l.length):(uF l j).set j none=uF l j:=by unfold uF;rw[Ce _ _ (by rw[gQ];omega),gQ,qZ (by omega),v7,show l.length-j=(l.length-(j+1))+1 by omega,E9,H7]
theorem apR(l:List ea):uF l 0=List.replicate l.length none:=by simp[uF]
theorem apP(l:List ea):uF l l.length=l:=by simp[uF]
structure Part(w:World)(B b1:Nat)(R:bR)(fI:List J)(i:Nat):Prop where
 ε:μ w B AT 24 (some ⟨b1,0,none⟩) 1 1 (kinds R++fI.map Value.pointer)
 jW:fI.length=8
 tb:∀(k:Nat)(e:fF)(tp:J),k<i->R[k]?=some e->fI[k]?=some tp->vk w tp e
 rest:∀k,i<=k->k<8->fI[k]?=some none
theorem Part.ex{w w':World}{B b1:Nat}{R:bR}{fI:List J}{i:Nat}(h:Part w B b1 R fI i)(x:η w w'):Part w' B b1 R fI i:=⟨h.ε.ex x,h.jW,λk e tp hk he aP=>(h.tb k e tp hk he aP).ex x,h.rest⟩
theorem Xj{w:World}{R:bR}{qs:aU}(h:h2 w R qs)(ω:lo R):k9.C (bK R qs).toArray w (χ λv w'=>∃b1,v=.tuple #[.pointer (some ⟨b1,0,none⟩),.int .i64 0]/\η w w'/\ki w' w.heap.size b1 R):=by
 have dr:=h.len;have Hc:(kinds R).length=16:=oI dr;apply k9.ok;unfold k9.main;rintro δ γ ej rfl;have ρ:=μ.new (w:=w) (bK R qs) bU;rw[<-ej]at ρ;have ζ:=η.alloc w (.cells (bK R qs).toArray bU);have vt:(bK R qs).length=24:=h.dU;rw[vt]at ρ;generalize w.alloc (.cells (bK R qs).toArray bU)=γ at ρ ζ⊢;refine⟨(bK R qs).toArray,by simp[vt],ρ.cells,?_⟩;refine κ.use (Gw (h.ex ζ)) ?_;rintro _ τ ⟨rfl,σ⟩;rw[bB ω]
 try dsimp only[dE]
 refine κ.use (aio τ) ?_;rintro _ az ⟨rfl,aA,LP,aD⟩
 try dsimp only[nc,bk]
 have c7:=ζ.trans σ;have dW:w.heap.size<=τ.heap.size:=c7.size;generalize τ.heap.size=b1 at aD dW⊢;have iQ:=c7.trans aA;have ρ:=(ρ.ex σ).ex aA;refine⟨(kinds R).toArray,by simp[Hc],?_,aW (by simp[Hc]) ?_⟩
 ·have:=a7.take (w:=az) (a:=some _) ρ.cells 16
  rw[bK,oT (by rw[Hc];exact ew _),hc (by rw[Hc];exact ew _)]at this;exact this
 have a0:(⟨b1,0,none⟩:Addr)=(⟨b1,0,none⟩:Addr).add 0:=(Addr.add_zero' _).symm;have aa8:∀k,k<8->LP[k]?=some none:=λk hk=>by
  have:=aD.tb k Gn
  cases aP:LP[k]?with
  |none=>have:=aD.jW;rw[List.getElem?_eq_none_iff]at aP;omega
  |some tp=>
   rcases aD.tb k Gn tp (by show(List.replicate 8 Gn)[k]?=_;rw[List.getElem?_replicate,aS hk]) aP with⟨aO,_⟩|⟨n,L,t1,t2,t3⟩
   ·rw[aO]
   ·have h1:=t1.len;have t3:(0:Int)=n:=t3;omega
 have key:=μ.putAt aD.ε 0 (kinds R) (by rw[Hc];omega) (Of R) (N:=λba=>∃(bZ:ag),bZ.size=8/\aw ba (⟨δ,16,none⟩:Addr) bZ.toList/\k9.bd (some ⟨b1,0,none⟩) bZ 0 ba (χ λv w'=>∃b1,v=.tuple #[.pointer (some ⟨b1,0,none⟩),.int .i64 0]/\η w w'/\ki w' w.heap.size b1 R)) λba ec bS=>?_
 ·rw[<-a0]at key;exact key
 have ks:η w ba:=iQ.then ec λi o=>by omega
 rw[E7,te,Hc,show 0+16=(kinds (cp [])).length from rfl,K8]at bS;have ρ:=ρ.cB ec AT (λi o=>o▸(aD.ε.typed rfl).1) (by decide);have cV:Part ba b1 b1 R LP 0:=⟨bS,aD.jW,λk e tp hk=>by omega,λk _ hk=>aa8 k hk⟩;have yx:(bK R qs).drop 16=qs:=h.drop;refine⟨qs.toArray,by simp[h.dx],?_,?_⟩
 ·have:=aw.drop (w:=ba) ρ.cells 16
  rw[dv,yx]at this;exact this
 clear ρ iQ aA c7 ζ σ;unfold k9.bd;refine⟨λt4 t21 t22 W=>some ⟨b1,0,none⟩=t4/\qs.toArray=t21/\0<=t22/\t22<=8/\η w W/\∃fI,Part W b1 b1 R fI t22.toNat,λ_ _ t22 _=>(8-t22).toNat,⟨rfl,rfl,by omega,by omega,ks,LP,cV⟩,?_⟩;clear cV ks ec bS aa8 aD a0 LP;rintro _ _ t22 W ⟨rfl,rfl,aD,h1,I,fI,cV⟩;unfold k9.δ;obtain⟨i,rfl⟩:=eH aD;rw[cy]at cV;have kY:IntKind.i64.wrap ((i:Int)+1)=((i+1:Nat):Int):=by rw[bY (by omega) (by omega)];rfl
 refine bz (λo=>?_) λo=>?_
 ·have o:=b7 o;obtain⟨e,he⟩:=h.get (k:=i) (by omega);obtain⟨p,c,hp,π⟩:=(h.ex I).row i e he;have ep:=ω e (eZ he);have dt:=h.ok e (eZ he);refine aW (by omega) (aW (by omega) (gG (v:=.slice p e.2.2.length c) ?_ ?_))
  ·rw[cy,ey,List.getElem?_toArray];exact hp
  try dsimp only[dY]
  rw[kY];refine bz (λaL=>?_) λaL=>?_
  ·have aL:e.2.2=[]:=by
    have:e.2.2.length=0:=by simpa using aL
    exact sb this
   refine⟨⟨by trivial,by trivial,by omega,by omega,I,fI,cV.ε,cV.jW,λk cO tp hk dG aP=>?_,λk hk zU=>cV.rest k (by have:i+1<=k:=hk;omega) zU⟩,by((try dsimp only);omega)⟩;rcases H6 k i with bM|G8
   ·exact cV.tb k cO tp bM dG aP
   ·have:k=i:=by have hk:k<i+1:=hk;omega
    subst this;rw[he]at dG;cases dG
    have:=cV.rest k (ew _) (by omega)
    rw[aP]at this;cases this;exact .inl ⟨rfl,aL⟩
  ·have aL:e.2.2.length≠0:=by simpa using aL
   obtain⟨s1,s2,lU,q1⟩:=ep;have q1:1<=e.2.1/\e.2.1<33:=q1 λhl=>by rw[lU hl]at s1;omega
   refine κ.use (zo (n:=e.2.2.length) (by omega) W) ?_;rintro _ bm ⟨hE,rfl,aV,aP⟩
   try dsimp only[bX,cC,cD,bk,bH,nc]
   unfold k9.fG;refine⟨λt4 t5 t7 t21 t22 LH LG PL t36 t37 b6=>some ⟨b1,0,none⟩=t4/\(i:Int)=t5/\qs.toArray=t21/\(i:Int)=t22/\p=LH/\e.2.2.length=LG/\(e.2.2.length:Int)=t36/\0<=t37/\t37<=e.2.2.length/\η W b6/\∃L,TabIs b6 t7 e.2.2.length L/\L.take e.2.2.length=uF e.2.2 t37.toNat,
    λ_ _ _ _ _ _ _ _ _ t37 _=>(e.2.2.length-t37).toNat,⟨rfl,rfl,rfl,rfl,rfl,rfl,rfl,by omega,by omega,aV,_,aP,by rw[Pf,Int.toNat_zero,apR];congr 1;omega⟩,?_⟩
   clear aP aV;rintro _ _ t7 _ _ _ _ PL _ t37 b6 ⟨rfl,rfl,rfl,rfl,rfl,rfl,rfl,g0,g1,JA,L,e2,lJ⟩;unfold k9.θ;obtain⟨j,rfl⟩:=eH g0;rw[cy]at lJ;refine bz (λφ=>?_) λφ=>?_
   ·have φ:=b7 φ;have eP:j<e.2.2.length:=by omega
    obtain⟨a,rfl,r⟩:=EU (π.ex JA) eP;refine aW (by omega) (aW (by omega) ?_)
    try dsimp only[bk]
    rw[cy,ey];refine⟨_,_,r,?_⟩;have aC:=dt.1 _ (hF eP);have bJ:e.2.2.getD j none=e.2.2[j]:=by rw[List.getD_eq_getElem?_getD,List.getElem?_eq_getElem eP];rfl
    rw[empty_eq aC];rw[bY (x:=(j:Int)+1) (by omega) (by omega)];cases J9:e.2.2[j]with
    |none=>
     rw[cond_neg (by rfl)];refine⟨⟨by trivial,by trivial,by trivial,by trivial,by trivial,by trivial,by trivial,by omega,by omega,JA,L,e2,?_⟩,by((try dsimp only);omega)⟩;show L.take e.2.2.length=uF e.2.2 (j+1);rw[lJ,<-ab9 eP,bJ,J9,apQ eP]
    |some x=>
     rw[J9]at aC;rw[cond_pos (by rfl)];refine κ.use (I2 e2 (j:=j) eP (x:=x) aC) ?_;rintro _ cf ⟨mQ,rfl,cm,ami⟩
     try dsimp only[bX,cC,cD,bk,bH,nc]
     refine⟨⟨by trivial,by trivial,by trivial,by trivial,by trivial,by trivial,by trivial,by omega,by omega,JA.trans cm,_,ami,?_⟩,by((try dsimp only);omega)⟩;show(L.set j (some x)).take e.2.2.length=uF e.2.2 (j+1);rw[List.take_set,lJ,<-ab9 eP,bJ,J9]
   ·have φ:=dd φ;obtain rfl:j=e.2.2.length:=by omega
    rw[apP]at lJ;unfold k9.a1
    try dsimp only[bk]
    have cV:=cV.ex JA;refine aW (by omega) (aW (by omega) ?_);simp only[dv,cy,zw];refine cV.ε.da (j:=16+i) (v:=.pointer t7) (by omega) rfl λcA yF r0=>?_;rw[Ln dr,<-qX]at r0;have yC:∀j,j=b1->¬sB b6 j:=λj φ=>VL (φ▸(cV.ε.typed rfl).1);rw[kY];refine⟨⟨by trivial,by trivial,by omega,by omega,(I.trans JA).then yF λi o=>by omega,fI.set i t7,r0,by rw[im];exact cV.jW,λk cO tp hk dG ku=>?_,λk hk zU=>?_⟩,by((try dsimp only);omega)⟩
    ·rw[List.getElem?_set]at ku;by_cases pZ:i=k
     ·subst pZ;rw[aS rfl,aS (by rw[cV.jW];omega)]at ku;cases ku;rw[he]at dG;cases dG;exact vk.aH (.inr ⟨_,L,e2,lJ.symm,s1.symm⟩) yF yC
     ·rw[aM pZ]at ku;exact(cV.tb k cO tp (by have hk:k<i+1:=hk;omega) dG ku).aH yF yC
    ·have hk:i+1<=k:=hk;rw[List.getElem?_set_ne (by omega)];exact cV.rest k (by omega) zU
 ·have o:=dd o;obtain rfl:i=8:=by omega
  refine χ.mk ⟨b1,rfl,I,fI,cV.ε.lower dW,dr,cV.jW,λk e tp he aP=>cV.tb k e tp (by have:=(List.getElem?_eq_some_iff.1 he).1;omega) he aP⟩
end Go.Proofs.YtcpdfhkhaekekaaGreat.G.eW
namespace Go.Proofs.YtcpdfhkhaekekaaGreat.G.a6
open Go.bO Go.RowKit
structure c3 where
 sure:List an
 now:List an
 loose:List (Int×an)
 after:Int
 off:Bool
def kE(s:an):Prop:=s.length=64/\∀x∈s,0<=x/\x<256
structure Good(d:c3):Prop where
 len:d.sure.length=d.now.length
 fT:d.now.length<=424
 sure:∀s∈d.sure,kE s
 now:∀s∈d.now,kE s
 loose:∀p∈d.loose,0<=p.1/\p.1<(d.now.length:Int)/\kE p.2
 after:-1<=d.after/\d.after<=9223372036854775807
def ia:an:=List.replicate 64 0
def fresh(n:Nat):c3:=⟨List.replicate n ia,List.replicate n ia,[],-1,false⟩
def kh(d:c3):c3:=if d.after=0 then{d with off:=true}else if d.after>0 then{d with after:=d.after-1}else d
theorem WW:kE ia:=⟨by simp[ia],λx I=>by have:=uN I;omega⟩
theorem adO(n:Nat):∀s∈List.replicate n ia,kE s:=λs ω=>by rw[uN ω];exact WW
theorem alP{n:Nat}(h:n<=424):Good (fresh n)where
 len:=by simp[fresh]
 fT:=by simpa[fresh]using h
 sure:=adO n
 now:=adO n
 loose:=λp hp=>by cases hp
 after:=by simp[fresh]
theorem Px(d:c3):(kh d).sure=d.sure/\(kh d).now=d.now/\(kh d).loose=d.loose:=by
 unfold kh;split
 ·exact⟨rfl,rfl,rfl⟩
 ·split<;>exact⟨rfl,rfl,rfl⟩
theorem Pw{d:c3}(h:Good d):Good (kh d):=by
 obtain⟨h1,ι,aG⟩:=Px d;refine⟨by rw[h1,ι];exact h.len,by rw[ι];exact h.fT,by rw[h1];exact h.sure,by rw[ι];exact h.now,by rw[ι,aG];exact h.loose,?_⟩
 have:=h.after
 unfold kh;split
 ·exact this
 ·split
  ·dsimp only;omega
  ·exact this
def l2(x:an):aU:=x.map (Value.int .u8)
def uS(l:List an):aU:=(l.map l2).flatten
def yJ(p:Int×an):aU:=.int .i64 p.1::l2 p.2
def Oh(l:List (Int×an)):aU:=(l.map yJ).flatten
theorem zc(x:an):(l2 x).length=x.length:=by simp[l2]
theorem P5(x:an):∀y∈l2 x,y.oneCell'=true:=IF _ _
theorem VW{l:List an}(h:∀s∈l,kE s):∀r∈l.map l2,r.length=64:=by intro r υ;obtain⟨s,ω,rfl⟩:=gO.1 υ;rw[zc];exact(h s ω).1
theorem ad2{l:List an}(h:∀s∈l,kE s):(uS l).length=l.length*64:=by unfold uS;rw[Sj _ 64 (VW h),jV]
theorem asw(l:List an):∀y∈uS l,y.oneCell'=true:=by intro y ah;obtain⟨r,υ,ah⟩:=List.mem_flatten.1 ah;obtain⟨s,_,rfl⟩:=gO.1 υ;exact P5 s y ah
theorem ad1(n:Nat):uS (List.replicate n ia)=List.replicate (n*64) (Value.int .u8 0):=by
 induction n with
 |zero=>simp[uS]
 |succ n ch=>
  unfold uS at ch⊢;rw[E9,xw,B8,ch];simp only[l2,ia,KZ,List.replicate_append_replicate];congr 1;omega
structure zm(w:World)(B pd:Nat)(d:c3)(bs bn:Nat)(pl:J)(km:Nat):Prop where
 cell:μ w B 78 5 (some ⟨pd,0,none⟩) 1 1 [.slice (some ⟨bs,0,none⟩) d.now.length d.now.length,.slice (some ⟨bn,0,none⟩) d.now.length d.now.length,.slice pl d.loose.length km,.int .i64 d.after,.bool d.off]
 FQ:μ w B 82 64 (some ⟨bs,0,none⟩) d.now.length d.now.length (uS d.sure)
 no:μ w B 82 64 (some ⟨bn,0,none⟩) d.now.length d.now.length (uS d.now)
 eT:μ w B 189 65 pl d.loose.length km (Oh d.loose)
 ne:bs≠bn
def IX(pd bs bn:Nat)(pl:J)(i:Nat):Prop:=i=pd\/i=bs\/i=bn\/∃x,pl=some x/\x.block=i
def gV(w:World)(B pd:Nat)(d:c3)(D:bf):Prop:=∃bs bn pl km,zm w B pd d bs bn pl km/\∀i,D i↔IX pd bs bn pl i
theorem zm.typed{w:World}{B pd:Nat}{d:c3}{bs bn:Nat}{pl:J}{km:Nat}(h:zm w B pd d bs bn pl km){i:Nat}(o:IX pd bs bn pl i):(Typed w 78 i\/Typed w 82 i\/Typed w 189 i)/\B<=i/\i<w.heap.size:=by
 rcases o with rfl|rfl|rfl|⟨x,I,rfl⟩
 ·exact⟨.inl (h.cell.typed rfl).1,(h.cell.typed rfl).2⟩
 ·exact⟨.inr (.inl (h.FQ.typed rfl).1),(h.FQ.typed rfl).2⟩
 ·exact⟨.inr (.inl (h.no.typed rfl).1),(h.no.typed rfl).2⟩
 ·exact⟨.inr (.inr (h.eT.typed I).1),(h.eT.typed I).2⟩
theorem zm.aH{w w':World}{S:bf}{B pd:Nat}{d:c3}{bs bn:Nat}{pl:J}{km:Nat}(h:zm w B pd d bs bn pl km)(hk:Kp w w' S)(ω:∀i,IX pd bs bn pl i->¬S i):zm w' B pd d bs bn pl km:=
 ⟨h.cell.aH hk λx I=>by cases I;exact ω _ (.inl rfl),h.FQ.aH hk λx I=>by cases I;exact ω _ (.inr (.inl rfl)),h.no.aH hk λx I=>by cases I;exact ω _ (.inr (.inr (.inl rfl))),h.eT.aH hk λx I=>ω _ (.inr (.inr (.inr ⟨x,I,rfl⟩))),h.ne⟩
theorem gV.typed{w:World}{B pd:Nat}{d:c3}{D:bf}(h:gV w B pd d D){i:Nat}(o:D i):(Typed w 78 i\/Typed w 82 i\/Typed w 189 i)/\B<=i/\i<w.heap.size:=by obtain⟨bs,bn,pl,km,h,b4⟩:=h;exact h.typed ((b4 i).1 o)
theorem gV.aH{w w':World}{S:bf}{B pd:Nat}{d:c3}{D:bf}(h:gV w B pd d D)(hk:Kp w w' S)(ω:∀i,D i->¬S i):gV w' B pd d D:=by obtain⟨bs,bn,pl,km,h,b4⟩:=h;exact⟨bs,bn,pl,km,h.aH hk λi o=>ω i ((b4 i).2 o),b4⟩
theorem gV.ex{w w':World}{B pd:Nat}{d:c3}{D:bf}(h:gV w B pd d D)(hk:η w w'):gV w' B pd d D:=h.aH hk λ_ _ h=>h
theorem KI{w w':World}{B B' pd:Nat}{d:c3}{D:bf}(h:gV w B pd d D)(hk:Kp w w' D){e:TypeId}{sz:Nat}{p:J}{n c:Nat}{xs:aU}(ε:μ w B' e sz p n c xs)(h1:e≠78)(ι:e≠82)(aG:e≠189):μ w' B' e sz p n c xs:=
 ε.aH hk λx I hm=>by
  have aP:=(ε.typed I).1;rcases(h.typed hm).1 with hm|hm|hm
  ·exact aP.ne hm h1 rfl
  ·exact aP.ne hm ι rfl
  ·exact aP.ne hm aG rfl
theorem zm.field{w w':World}{B pd:Nat}{d:c3}{bs bn:Nat}{pl:J}{km:Nat}(h:zm w B pd d bs bn pl km)(k:Kp w w' λi=>i=pd){a:Int}{f:Bool}
  (ε:μ w' B 78 5 (some ⟨pd,0,none⟩) 1 1 [.slice (some ⟨bs,0,none⟩) d.now.length d.now.length,.slice (some ⟨bn,0,none⟩) d.now.length d.now.length,.slice pl d.loose.length km,.int .i64 a,.bool f]):zm w' B pd {d with after:=a,off:=f} bs bn pl km:=by
 have t:∀i,i=pd->Typed w 78 i:=λi o=>o▸(h.cell.typed rfl).1;exact⟨ε,h.FQ.cB k 78 t (by decide),h.no.cB k 78 t (by decide),h.eT.cB k 78 t (by decide),h.ne⟩
def mY(w:World)(D:bf)(p:J)(xs:aU):Prop:=∀w',Kp w w' D->a7 w' p xs
theorem mY.now{w:World}{D:bf}{p:J}{xs:aU}(h:mY w D p xs):a7 w p xs:=h w (Kp.refl _ _)
theorem mY.step{w γ:World}{D eU:bf}{p:J}{xs:aU}(h:mY w D p xs)(k:Kp w γ D)(b4:∀i,i<w.heap.size->eU i->D i):mY γ eU p xs:=
 λw' k'=>h w' (Kp.trans k k' (λ_ _ h=>h) b4)
theorem mY.B3{w:World}{B B' pd:Nat}{d:c3}{D:bf}(h:gV w B pd d D){e:TypeId}{sz:Nat}{p:J}{n c:Nat}{xs:aU}(ε:μ w B' e sz p n c xs)(h1:e≠78)(ι:e≠82)(aG:e≠189):mY w D p xs:=λw' k=>(KI h k ε h1 ι aG).cells
theorem VH{w:World}{B pd:Nat}{d:c3}{D:bf}(h:gV w B pd d D):C7.C (some ⟨pd,0,none⟩) w (χ λv w'=>v=.int .i64 (if d.off then 10 else 0)/\w'=w):=by
 apply C7.ok;unfold C7.main;obtain⟨bs,bn,pl,km,h,b4⟩:=h
 try dsimp only[mI,bk,iY]
 simp only[dv];refine⟨_,h.cell.at (j:=4) rfl,bz (λπ=>?_) λπ=>?_⟩<;>rw[π]<;>exact χ.mk ⟨rfl,rfl⟩
theorem aek{w:World}{B pd:Nat}{d:c3}{D:bf}(h:gV w B pd d D)(bJ:Good d):C8.C (some ⟨pd,0,none⟩) w (χ λv w'=>v=.bool (kh d).off/\gV w' B pd (kh d) D/\Kp w w' D):=by
 apply C8.ok;unfold C8.main;obtain⟨bs,bn,pl,km,h,b4⟩:=h;have rN:∀i,i=pd->D i:=λi o=>(b4 i).2 (.inl o);have aQ:=bJ.after
 try dsimp only[bk]
 simp only[dv];unfold kh;refine⟨_,h.cell.at (j:=3) rfl,bz (λπ=>?_) λπ=>?_⟩
 ·have π:d.after=0:=by simpa using π
  rw[aS π];refine h.cell.da (j:=4) (by show 4<1*5;omega) rfl λγ a1 ρ=>?_;exact⟨_,ρ.at (j:=4) rfl,χ.mk ⟨rfl,⟨bs,bn,pl,km,h.field a1 ρ,b4⟩,a1.mono λi _ o=>rN i o⟩⟩
 ·have π:¬d.after=0:=by simpa using π
  rw[aM π];refine⟨_,h.cell.at (j:=3) rfl,bz (λjR=>?_) λjR=>?_⟩
  ·have jR:=b7 jR;rw[aS jR];refine⟨_,h.cell.at (j:=3) rfl,?_⟩;rw[bY (by omega) (by omega)];refine h.cell.da (j:=3) (by show 3<1*5;omega) rfl λγ a1 ρ=>?_;exact⟨_,ρ.at (j:=4) rfl,χ.mk ⟨rfl,⟨bs,bn,pl,km,h.field a1 ρ,b4⟩,a1.mono λi _ o=>rN i o⟩⟩
  ·have jR:=dd jR;rw[aM jR];exact⟨_,h.cell.at (j:=4) rfl,χ.mk ⟨rfl,⟨bs,bn,pl,km,h,b4⟩,Kp.refl _ _⟩⟩
theorem zo(n:Int)(w:World)(ax:1<=n/\n<=424):C9.C n w (χ λv w'=>∃pd D,v=.tuple #[.pointer (some ⟨pd,0,none⟩),.int .i64 0]/\η w w'/\gV w' w.heap.size pd (fresh n.toNat) D):=by
 apply C9.ok;unfold C9.main;rw[iD (by omega),iD (by omega)]
 have fin:∀(γ τ:World)(δ θ:Nat),η w γ->η γ τ->δ<γ.heap.size->δ≠θ->w.heap.size<=δ->w.heap.size<=θ->μ τ w.heap.size 82 64 (some ⟨δ,0,none⟩) n.toNat n.toNat (List.replicate (n.toNat*64) (Value.int .u8 0))->μ τ w.heap.size 82 64 (some ⟨θ,0,none⟩) n.toNat n.toNat (List.replicate (n.toNat*64) (Value.int .u8 0))->
   aN τ #[(Value.slice (some ⟨δ,0,none⟩) n.toNat n.toNat),(Value.slice (some ⟨θ,0,none⟩) n.toNat n.toNat),(Value.slice none 0 0),(Value.int .i64 (-1)),(Value.bool false)] 78 λaF aa=>χ (λv w'=>∃pd D,v=.tuple #[.pointer (some ⟨pd,0,none⟩),.int .i64 0]/\η w w'/\gV w' w.heap.size pd (fresh n.toNat) D) (.returned (Value.tuple #[(Value.pointer (some (⟨aF,0,none⟩:Addr))),(Value.int .i64 0)])) aa:=by
  intro γ τ δ θ ζ σ bM ca ej eu ρ ai;rintro aF aa rfl rfl;have bo:=μ.new (w:=τ) [.slice (some ⟨δ,0,none⟩) n.toNat n.toNat,.slice (some ⟨θ,0,none⟩) n.toNat n.toNat,.slice none 0 0,.int .i64 (-1),.bool false] 78;have ad:=η.alloc τ (.cells #[.slice (some ⟨δ,0,none⟩) n.toNat n.toNat,.slice (some ⟨θ,0,none⟩) n.toNat n.toNat,.slice none 0 0,.int .i64 (-1),.bool false] 78);refine χ.mk ⟨τ.heap.size,_,rfl,(ζ.trans σ).trans ad,δ,θ,none,0,⟨?_,?_,?_,?_,ca⟩,λi=>mR⟩
  ·have:=bo.lower (ζ.trans σ).size
   simpa[fresh]using this
  ·have:=ρ.ex ad
   simpa[fresh,ad1]using this
  ·have:=ai.ex ad
   simpa[fresh,ad1]using this
  ·exact μ.nil _ _ _ _
 have two:∀(K:Nat->Nat->ao),(∀δ θ τ,δ=w.heap.size->θ=w.heap.size+1->η w τ->μ τ w.heap.size 82 64 (some ⟨δ,0,none⟩) n.toNat n.toNat (List.replicate (n.toNat*64) (Value.int .u8 0))->μ τ w.heap.size 82 64 (some ⟨θ,0,none⟩) n.toNat n.toNat (List.replicate (n.toNat*64) (Value.int .u8 0))->K δ θ τ)->
   (ο (decide (0<=n)) (ο (decide (n<=n)) (ο (decide ((64:Int)*n<=281474976710656/\n<=9223372036854775807)) (aN w.drew (madeCells (List.replicate 64 (Value.int .u8 0)).toArray (n.toNat*64)) 82 λδ γ=>
    ο (decide (0<=n)) (ο (decide (n<=n)) (ο (decide ((64:Int)*n<=281474976710656/\n<=9223372036854775807)) (aN γ (madeCells (List.replicate 64 (Value.int .u8 0)).toArray (n.toNat*64)) 82 λθ τ=>K δ θ τ))))))):=by
  intro K iS;refine aW (by omega) (aW (by omega) (aW (by omega) ?_));rintro δ γ rfl rfl;refine aW (by omega) (aW (by omega) (aW (by omega) ?_));rintro θ τ rfl rfl;rw[Ew 64 _ _ (by decide)];have ρ:=μ.alloc (w:=w.drew) (List.replicate (n.toNat*64) (Value.int .u8 0)) 82 64 n.toNat (by simp);have ζ:η w (w.drew.alloc (.cells (List.replicate (n.toNat*64) (Value.int .u8 0)).toArray 82)):=(η.drew w).trans (η.alloc _ _);have ω:(w.drew.alloc (.cells (List.replicate (n.toNat*64) (Value.int .u8 0)).toArray 82)).heap.size=w.heap.size+1:=by show(w.heap.push _).size=_;simp
  generalize w.drew.alloc (.cells (List.replicate (n.toNat*64) (Value.int .u8 0)).toArray 82)=γ at ρ ζ ω⊢;have ai:=μ.alloc (w:=γ) (List.replicate (n.toNat*64) (Value.int .u8 0)) 82 64 n.toNat (by simp);have σ:=η.alloc γ (.cells (List.replicate (n.toNat*64) (Value.int .u8 0)).toArray 82);exact iS _ _ _ rfl ω (ζ.trans σ) (ρ.ex σ) (ai.lower (by omega))
 refine⟨two _ λδ θ τ aO bE x ρ ai=>?_,two _ λδ θ τ aO bE x ρ ai=>?_⟩
 ·exact fin τ τ δ θ x (η.refl _) (ρ.typed rfl).2.2 (by omega) (by omega) (by omega) ρ ai
 ·exact fin τ τ θ δ x (η.refl _) (ai.typed rfl).2.2 (by omega) (by omega) (by omega) ai ρ
theorem IU(p:J)(n c:Nat)(xs:aU)(w:World)(π:a7 w p xs)(aj:xs.length=n)(ax:n<=140737488351232)(h1:∀y∈xs,y.oneCell'=true):
  x9.C p n c w (χ λv w'=>∃bT aT,v=.slice bT n aT/\η w w'/\μ w' w.heap.size 5 1 bT n aT xs):=by
 apply x9.ok;unfold x9.main;cases p with
 |none=>
  have:xs=[]:=π
  subst this
  have:n=0:=by simpa using aj.symm
  subst this
  try dsimp only[Jo,Bp]
  exact χ.mk ⟨none,0,rfl,η.refl w,μ.nil _ _ _ _⟩
 |some a=>
  try dsimp only[mI,iY]
  rintro δ γ rfl rfl;have aB:=μ.alloc (w:=w) [] 5 1 0 rfl;have I:=η.alloc w (.cells #[] 5);refine lp aB (by have:=I.size;exact this) xs (a7.ex I π) (by omega) h1 rfl (by omega) (by omega) λbT aT w' jF hk=>?_;rw[mS]at jF⊢;rw[te]at jF;exact χ.mk ⟨bT,aT,rfl,I.then hk (λi⟨x,e,o⟩=>by cases e;exact HU o),jF⟩
def sT(d:c3)(i:Int):Int:=if d.off then 10 else if i<0\/(d.now.length:Int)<=i then 5 else 0
theorem xW{w:World}{B pd:Nat}{d:c3}{D:bf}(h:gV w B pd d D)(bJ:Good d)(i:Int):Bi.C (some ⟨pd,0,none⟩) i w (χ λv w'=>η w w'/\((sT d i≠0/\v=.tuple #[.slice none 0 0,.int .i64 (sT d i)])\/
  (sT d i=0/\∃p c s,d.now[i.toNat]?=some s/\v=.tuple #[.slice p 64 c,.int .i64 0]/\μ w' w.heap.size 5 1 p 64 c (l2 s)))):=by
 apply Bi.ok;unfold Bi.main;refine κ.use (VH h) ?_;rintro _ γ ⟨rfl,rfl⟩;obtain⟨bs,bn,pl,km,h,b4⟩:=h
 try dsimp only[bk,bH]
 unfold sT;cases D6:d.off with
 |true=>
  simp only[oR];rw[cond_pos (by decide)];exact χ.mk ⟨η.refl _,.inl ⟨by decide,rfl⟩⟩
 |false=>
  simp only[vV,qW];rw[cond_neg (by decide)];simp only[dv];refine bz (λπ=>?_) λπ=>?_
  ·have π:=b7 π;rw[aS (.inl π)];exact χ.mk ⟨η.refl _,.inl ⟨by decide,rfl⟩⟩
  have π:=dd π;refine⟨_,_,_,h.cell.at (j:=1) rfl,bz (λjR=>?_) λjR=>?_⟩
  ·have jR:=b7 jR;rw[aS (.inr (by omega))];exact χ.mk ⟨η.refl _,.inl ⟨by decide,rfl⟩⟩
  have jR:=dd jR;rw[aM (by omega)];refine⟨_,_,_,h.cell.at (j:=1) rfl,aW (by omega) (aW (by omega) ?_)⟩;have bM:i.toNat<d.now.length:=by omega
  have ω:=List.getElem?_eq_getElem bM;have lO:=bJ.now _ (hF bM);obtain⟨a,aQ,jT⟩:=(h.no.cells).row (rows:=d.now.map l2) (VW bJ.now) (by decide) (i:=i.toNat) (r:=l2 d.now[i.toNat]) (by rw[List.getElem?_map,ω];rfl);cases aQ;have hl:du (some ((⟨bn,0,none⟩:Addr).add (i.toNat*64))) 64 0 1=some ((⟨bn,0,none⟩:Addr).add (i.toNat*64)):=by unfold du;rw[aM (by decide),iT];exact gP some (Addr.add_zero' _)
  try dsimp only[bk]
  rw[hl];refine κ.use (IU _ 64 64 (l2 d.now[i.toNat]) _ jT (by rw[zc];exact lO.1) (by omega) (P5 _)) ?_;rintro _ aa ⟨bT,aT,rfl,ad,bo⟩
  try dsimp only[dY]
  exact χ.mk ⟨ad,.inr ⟨rfl,bT,aT,_,ω,rfl,bo⟩⟩
structure hQ where
 i:Int
 bs:an
 p:J
 n:Nat
 c:Nat
def hQ.cells(x:hQ):aU:=[.int .i64 x.i,.slice x.p x.n x.c]
structure Gy(w:World)(D:bf)(x:hQ):Prop where
 cells:mY w D x.p (l2 x.bs)
 len:x.bs.length=x.n
 wf:∀b∈x.bs,0<=b/\b<256
theorem mW{a:Int}{p:J}{n m:Nat}:∀y∈[Value.int .i64 a,.slice p n m],y.oneCell'=true:=by intro y ah;simp only[fA,n1,oS]at ah;rcases ah with rfl|rfl<;>rfl
def da(d:c3)(i:Int)(s:an):c3:={d with now:=d.now.set i.toNat s,loose:=d.loose++[(i,s)]}
def xv:c3->List (Int×an)->c3×Int
 |d,[]=>(d,0)
 |d,x::r=>if(kh d).off then(kh d,10)else xv (da (kh d) x.1 x.2) r
def wide(x:Int×an):Bool:=x.2.length !=64
def out(n:Nat)(x:Int×an):Bool:=decide (x.1<0)||decide (x.1>=(n:Int))
def zp(d:c3)(ws:List (Int×an)):c3×Int:=
 if d.off then(d,10)else if ws.any wide then(d,6)else if ws.any (out d.now.length)then(d,5)else xv d ws
def hQ.plain(x:hQ):Int×an:=(x.i,x.bs)
theorem ow{α:Type}{l:List α}{i:Nat}(h:i<l.length):∃x,l[i]?=some x/\x∈l/\l.drop i=x::l.drop (i+1):=⟨l[i],List.getElem?_eq_getElem h,hF h,HV h⟩
theorem VN{w:World}{p:J}{ws:List hQ}(h:a7 w p (ws.map hQ.cells).flatten){i:Nat}{x:hQ}(o:ws[i]?=some x):∃a,p=some a/\aw w (a.add (i*2)) x.cells:=
 h.row (λr υ=>by obtain⟨q,_,rfl⟩:=gO.1 υ;rfl) (by decide) (by rw[List.getElem?_map,o];rfl)
theorem alq(x:hQ)(w:World):C4.C x.i x.p x.n x.c w (χ λv w'=>v=.bool ((x.n:Int)!=64)/\η w w'):=by apply C4.ok;unfold C4.main;rintro δ γ rfl rfl;have ρ:=μ.new (w:=w) x.cells 130;have ζ:=η.alloc w (.cells x.cells.toArray 130);exact⟨_,_,_,ρ.at (j:=1) rfl,χ.mk ⟨rfl,ζ⟩⟩
theorem alr(x:hQ){w:World}{B B' pd q:Nat}{d:c3}{D:bf}(h:gV w B pd d D)(aC:μ w B' 23 1 (some ⟨q,0,none⟩) 1 1 [.pointer (some ⟨pd,0,none⟩)]):C5.C x.i x.p x.n x.c q w (χ λv w'=>v=.bool (out d.now.length (x.i,x.bs))/\η w w'):=by
 apply C5.ok;unfold C5.main;rintro δ γ rfl rfl;have ρ:=μ.new (w:=w) x.cells 130;have ζ:=η.alloc w (.cells x.cells.toArray 130);unfold out;refine⟨_,ρ.at (j:=0) rfl,bz (λπ a1=>?_) λπ=>?_⟩
 ·rw[π];exact χ.mk ⟨rfl,ζ.trans (η.drewN _ _)⟩
 ·rw[π];obtain⟨bs,bn,pl,km,h,b4⟩:=h.ex ζ;refine⟨_,ρ.at (j:=0) rfl,_,(aC.ex ζ).at (j:=0) rfl,?_⟩
  try dsimp only[bk]
  simp only[dv];refine⟨_,_,_,h.cell.at (j:=1) rfl,λa1=>χ.mk ⟨by rw[Bool.false_or],ζ.trans (η.drewN _ _)⟩⟩
theorem MC{α:Type}{P:α->Bool}{l:List α}{i:Nat}{x:α}(o:l[i]?=some x)(I:P x=true):l.any P=true:=OU.2 ⟨x,eZ o,I⟩
theorem any_none{α:Type}{P:α->Bool}{l:List α}(h:∀(j:Nat)x,j<l.length->l[j]?=some x->P x=false):l.any P=false:=by
 rw[HW];intro x I;obtain⟨j,φ⟩:=List.getElem?_of_mem I
 have:=h j x (List.getElem?_eq_some_iff.1 φ).1 φ
 simp[this]
theorem amw{w:World}{D:bf}{p3:J}{n c:Nat}{ws:List hQ}(ax:ws.length=n)(aj:a7 w p3 (ws.map hQ.cells).flatten)(hw:∀x∈ws,Gy w D x)(ψ:n<=1000000000000000):
  x3.C p3 n c (.func (.func 104) #[] #[]) w (χ λv w'=>v=.bool ((ws.map hQ.plain).any wide)/\η w w'):=by
 apply x3.ok;unfold x3.main;have main:tR.C p3 n c w (χ λv w'=>∃r,v=.int .i64 r/\decide (r>=0)=(ws.map hQ.plain).any wide/\η w w'):=by
  apply tR.ok;unfold tR.main;refine⟨λcb b8 ck t7 t8 w'=>p3=cb/\n=b8/\c=ck/\t7=(n:Int)/\0<=t8/\t8<=(n:Int)/\η w w'/\∀(j:Nat)x,j<t8.toNat->(ws.map hQ.plain)[j]?=some x->wide x=false,λcb b8 ck t7 t8 w'=>((n:Int)-t8).toNat,?_,?_⟩
  ·exact⟨rfl,rfl,rfl,rfl,by omega,by omega,η.refl w,λj x φ=>by simp at φ⟩
  rintro _ _ _ _ t8 γ ⟨rfl,rfl,rfl,rfl,aD,h1,ζ,nQ⟩;unfold tR.δ;refine bz (λπ=>?_) λπ=>?_
  ·have π:=b7 π;obtain⟨x,I,Ej,_⟩:=ow (l:=ws) (i:=t8.toNat) (by omega);obtain⟨a,rfl,jT⟩:=VN (aj.ex ζ) I;refine aW aD (aW π ⟨x.cells.toArray,rfl,jT,?_⟩);refine κ.use (alq x γ) ?_;rintro _ τ ⟨rfl,σ⟩
   try dsimp only[dE]
   have hp:(ws.map hQ.plain)[t8.toNat]?=some x.plain:=by rw[List.getElem?_map,I];rfl
   have he:((x.n:Int)!=64)=wide x.plain:=by unfold wide hQ.plain;rw[<-(hw x Ej).len];rw[Bool.eq_iff_iff];simp;omega
   rw[he];refine bz (λah=>?_) λah=>?_
   ·exact χ.mk ⟨t8,rfl,by rw[MC hp ah];simpa using aD,ζ.trans σ⟩
   ·rw[bY (by omega) (by omega)];refine⟨⟨rfl,rfl,rfl,rfl,by omega,by omega,ζ.trans σ,λj y φ sW=>?_⟩,by omega⟩;by_cases JY:j<t8.toNat
    ·exact nQ j y JY sW
    ·have:j=t8.toNat:=by omega
     subst this;rw[hp]at sW;cases sW;exact ah
  ·have π:=dd π;refine χ.mk ⟨-1,rfl,?_,ζ⟩;rw[any_none λj x φ I=>nQ j x (by simp at φ;omega) I];decide
 refine κ.use main ?_;rintro _ γ ⟨r,rfl,υ,ζ⟩
 try dsimp only[bH]
 rw[υ];exact χ.mk ⟨rfl,ζ⟩
theorem amx{w:World}{B B' pd q:Nat}{d:c3}{D:bf}(h:gV w B pd d D)(aC:μ w B' 23 1 (some ⟨q,0,none⟩) 1 1 [.pointer (some ⟨pd,0,none⟩)]){p3:J}{n c:Nat}{ws:List hQ}(ax:ws.length=n)(aj:a7 w p3 (ws.map hQ.cells).flatten)(ψ:n<=1000000000000000):
  x3.C p3 n c (.func (.func 105) #[] #[.pointer (some ⟨q,0,none⟩)]) w (χ λv w'=>v=.bool ((ws.map hQ.plain).any (out d.now.length))/\η w w'):=by
 apply x3.ok;unfold x3.main;have main:tS.C p3 n c q w (χ λv w'=>∃r,v=.int .i64 r/\decide (r>=0)=(ws.map hQ.plain).any (out d.now.length)/\η w w'):=by
  apply tS.ok;unfold tS.main;refine⟨λcb b8 ck t1 t7 t8 w'=>p3=cb/\n=b8/\c=ck/\q=t1/\t7=(n:Int)/\0<=t8/\t8<=(n:Int)/\η w w'/\∀(j:Nat)x,j<t8.toNat->(ws.map hQ.plain)[j]?=some x->out d.now.length x=false,λcb b8 ck t1 t7 t8 w'=>((n:Int)-t8).toNat,?_,?_⟩
  ·exact⟨rfl,rfl,rfl,rfl,rfl,by omega,by omega,η.refl w,λj x φ=>by simp at φ⟩
  rintro _ _ _ _ _ t8 γ ⟨rfl,rfl,rfl,rfl,rfl,aD,h1,ζ,nQ⟩;unfold tS.δ;refine bz (λπ=>?_) λπ=>?_
  ·have π:=b7 π;obtain⟨x,I,Ej,_⟩:=ow (l:=ws) (i:=t8.toNat) (by omega);obtain⟨a,rfl,jT⟩:=VN (aj.ex ζ) I;refine aW aD (aW π ⟨x.cells.toArray,rfl,jT,?_⟩);refine κ.use (alr x (h.ex ζ) (aC.ex ζ)) ?_;rintro _ τ ⟨rfl,σ⟩
   try dsimp only[dE]
   have hp:(ws.map hQ.plain)[t8.toNat]?=some x.plain:=by rw[List.getElem?_map,I];rfl
   refine bz (λah=>?_) λah=>?_
   ·exact χ.mk ⟨t8,rfl,by rw[MC hp ah];simpa using aD,ζ.trans σ⟩
   ·rw[bY (by omega) (by omega)];refine⟨⟨rfl,rfl,rfl,rfl,rfl,by omega,by omega,ζ.trans σ,λj y φ sW=>?_⟩,by omega⟩;by_cases JY:j<t8.toNat
    ·exact nQ j y JY sW
    ·have:j=t8.toNat:=by omega
     subst this;rw[hp]at sW;cases sW;exact ah
  ·have π:=dd π;refine χ.mk ⟨-1,rfl,?_,ζ⟩;rw[any_none λj x φ I=>nQ j x (by simp at φ;omega) I];decide
 refine κ.use main ?_;rintro _ γ ⟨r,rfl,υ,ζ⟩
 try dsimp only[bH]
 rw[υ];exact χ.mk ⟨rfl,ζ⟩
theorem Vp{d:c3}(h:Good d){i:Int}{s:an}(o:0<=i/\i<(d.now.length:Int))(ω:kE s):Good (da d i s):=by
 refine⟨?_,?_,h.sure,?_,?_,h.after⟩
 ·simp only[da,im];exact h.len
 ·simp only[da,im];exact h.fT
 ·intro t aP;rcases pk aP with aP|rfl
  ·exact h.now t aP
  ·exact ω
 ·intro p hp;simp only[da,im]at hp⊢;rcases iG.1 hp with hp|hp
  ·exact h.loose p hp
  ·simp only[lB]at hp;subst hp;exact⟨o.1,o.2,ω⟩
theorem apv(l:List (Int×an))(p:Int×an):Oh l++yJ p=Oh (l++[p]):=by simp[Oh]
theorem asx{l:List an}{i:Nat}{s:an}(h:∀s∈l,kE s)(o:i<l.length)(ω:kE s):(uS l).take (i*64)++l2 s++(uS l).drop (i*64+(l2 s).length)=uS (l.set i s):=by unfold uS;rw[ZH _ i (l2 s) (VW h) (by simpa using o) (by rw[zc];exact ω.1),qX]
theorem row_one(i:Int)(s:an):∀y∈yJ (i,s),y.oneCell'=true:=by
 intro y ah;rcases fA.1 ah with rfl|ah
 ·rfl
 ·exact P5 s y ah
theorem aiz{w:World}{B pd δ:Nat}{d:c3}{D:bf}(h:gV w B pd d D)(bJ:Good d)(dW:B<=w.heap.size)(aC:μ w 0 23 1 (some ⟨δ,0,none⟩) 1 1 [.pointer (some ⟨pd,0,none⟩)]){p3:J}{n c:Nat}{ws:List hQ}(ax:ws.length=n)(aj:mY w D p3 (ws.map hQ.cells).flatten)(ψ:n<=1000000000)(S2:d.loose.length<=1000000000){t:Int}(aP:0<=t/\t<(n:Int)){x:hQ}(I:ws[t.toNat]?=some x)(dt:Gy w D x)(o:0<=x.i/\x.i<(d.now.length:Int))(hlen:x.bs.length=64)
  {S:Value->ao}{a8:Nat->J->Nat->Nat->Int->Int->ao}
  (D6:∀w',(kh d).off=true->gV w' B pd (kh d) D->Kp w w' D->S (.int .i64 10) w')
  (TE:∀w' bb,(kh d).off=false->gV w' B pd (da (kh d) x.i x.bs) bb->Kp w w' D->(∀i,bb i->D i\/w.heap.size<=i)->a8 δ p3 n c (n:Int) (t+1) w'):
  rA.δ δ p3 n c (n:Int) t w (χ S) a8:=by
 unfold rA.δ;obtain⟨a,rfl,jT⟩:=VN aj.now I;refine bz (λ_=>?_) (λπ=>by have:=dd π;omega);refine aW aP.1 (aW aP.2 ⟨x.cells.toArray,rfl,jT,?_⟩);rintro ae b5 rfl rfl;have e6:=μ.new (w:=w) [.int .i64 0,.slice none 0 0] 130;have cg:=η.alloc w (.cells #[.int .i64 0,.slice none 0 0] 130);generalize w.alloc (.cells #[.int .i64 0,.slice none 0 0] 130)=b5 at e6 cg⊢;refine aW rfl ?_
 try dsimp only[ie]
 refine e6.put (by rfl) mW λcf iL jh=>?_;have cm:η w cf:=cg.then iL λi o=>by rw[o];exact ew _
 have jP:=h.ex cm;have jh:μ cf w.heap.size 130 2 (some ⟨w.heap.size,0,none⟩) 1 1 [.int .i64 x.i,.slice x.p x.n x.c]:=jh;refine⟨_,(aC.ex cm).at (j:=0) rfl,?_⟩;refine κ.use (aek jP bJ) ?_;rintro _ c6 ⟨rfl,pT,BQ⟩
 try dsimp only[dE]
 have CF:Kp w c6 D:=(cm.aH _).fZ BQ;refine bz (λbg=>χ.mk (D6 c6 bg pT CF)) λbg=>?_;have NW:=(KI jP BQ (aC.ex cm) (by decide) (by decide) (by decide)).ex (η.drew c6);have p4:=(KI jP BQ jh (by decide) (by decide) (by decide)).ex (η.drew c6);have CF:Kp w c6.drew D:=CF.fZ ((η.drew c6).aH _);have pT:=pT.ex (η.drew c6);generalize c6.drew=c6 at NW p4 CF pT⊢;have TP:=Px d;have oy:=Pw bJ;generalize vz:kh d=d' at pT TP oy bg TE;rw[<-TP.2.1]at o;rw[<-TP.2.2]at S2;clear D6;obtain⟨bs,bn,pl,km,pT,b4⟩:=pT;refine⟨_,NW.at (j:=0) rfl,?_⟩
 try dsimp only[bk]
 simp only[dv];refine⟨_,_,_,pT.cell.at (j:=1) rfl,_,p4.at (j:=0) rfl,_,_,_,p4.at (j:=1) rfl,?_⟩;have aa5:x.n=64:=by rw[<-dt.len];exact hlen
 rw[aa5];refine aW (by omega) ?_;have aaD:∀w',Kp w w' D->∃a3,x.p=some a3/\aw w' a3 (l2 x.bs):=λw' k=>by have π:=dt.cells w' k;obtain⟨b,aai,_⟩:=ow (l:=x.bs) (i:=0) (by omega);obtain⟨a3,JH,_⟩:=π.one (v:=.int .u8 b) (by unfold l2;rw[List.getElem?_map,aai];rfl);rw[JH]at π;exact⟨a3,JH,π⟩
 obtain⟨a3,JH,nN⟩:=aaD _ CF;have hV:kE x.bs:=⟨hlen,dt.wf⟩;refine gG JH ⟨(l2 x.bs).toArray,by simp[zc,hlen],nN,aW o.1 (aW o.2 (aW (by simp[zc,hlen]) ?_))⟩;have anx:x.i.toNat<d'.now.length:=by omega
 obtain⟨dQ,fQ,r8⟩:=pT.no.writes (x.i.toNat*64) (l2 x.bs) (by rw[zc,hlen];omega) (P5 _);refine⟨dQ,λcn abv=>?_⟩;have Dz:kQ c6 (some ⟨bn,0,none⟩) (x.i.toNat*64) (l2 x.bs)=cn:=by rw[abv,x1,I9];rfl
 rw[Dz,asx oy.now anx hV]at fQ;rw[Dz]at r8;have r8:Kp c6 cn λi=>i=bn:=r8.mono λi _⟨x,I,o⟩=>by cases I;exact o.symm
 clear Dz dQ abv;have LM:∀i,i=bn->Typed c6 82 i:=λi o=>o▸(pT.no.typed rfl).1;have NX:=(NW.cB r8 82 LM (by decide)).ex (η.drew cn);have Al:=(p4.cB r8 82 LM (by decide)).ex (η.drew cn);have Rm:=(pT.cell.cB r8 82 LM (by decide)).ex (η.drew cn);have aeA:=(pT.FQ.aH r8 λy ah hm=>by cases ah;exact pT.ne hm).ex (η.drew cn);have abV:=(pT.eT.cB r8 82 LM (by decide)).ex (η.drew cn);have acm:=fQ.ex (η.drew cn);have IY:Kp w cn.drew D:=CF.fZ ((r8.mono λi _ o=>(b4 i).2 (.inr (.inr (.inl o)))).fZ ((η.drew cn).aH _));clear fQ r8 LM NW p4 nN CF JH
 try dsimp only
 generalize cn.drew=cn at NX Al Rm aeA abV acm IY⊢;refine⟨_,NX.at (j:=0) rfl,_,NX.at (j:=0) rfl,?_⟩
 try dsimp only[bk]
 simp only[dv];refine⟨_,_,_,Rm.at (j:=2) rfl,_,Al.at (j:=0) rfl,_,_,_,Al.at (j:=1) rfl,?_⟩;rw[aa5];refine aW (by omega) ?_;obtain⟨aji,amq,amT⟩:=aaD _ IY;refine gG amq ⟨(l2 x.bs).toArray,by simp[zc,hlen],amT,gG (alA 64 _ (l2 x.bs).toArray (.int .i64 x.i) (by rfl) rfl (by simp[zc,hlen])) ?_⟩;refine gG (Sh 65 _ _ (by rw[size_madeCells]) (by simp[zc,hlen])) ?_;rintro fq dn rfl rfl;have gb:=η.alloc cn (.cells (yJ (x.i,x.bs)).toArray 189);have YF:a7 (cn.alloc (.cells (yJ (x.i,x.bs)).toArray 189)) (some ⟨cn.heap.size,0,none⟩) (yJ (x.i,x.bs)):=a7.alloc _ 189;have ald:(Value.int .i64 x.i::(l2 x.bs).toArray.toList).toArray=(yJ (x.i,x.bs)).toArray:=rfl;rw[ald];generalize cn.alloc (.cells (yJ (x.i,x.bs)).toArray 189)=dn at gb YF⊢;have YP:=Rm.ex gb;have TL:=NX.ex gb;have abW:=abV.ex gb;have al7:B<=cn.heap.size:=fY dW IY.size;refine⟨YP.at (j:=2) rfl,TL.at (j:=0) rfl,TL.at (j:=0) rfl,?_⟩;refine Bb abW (fY al7 gb.size) (yJ (x.i,x.bs)) YF (by simp[yJ,zc,hlen]) (row_one _ _) (by rfl) (by omega) (by omega) λbh bI dX r1 oG nR=>?_;have t68:∀i,(∃y,pl=some y/\y.block=i)->Typed dn 189 i:=λi⟨y,ah,o⟩=>o▸(abW.typed ah).1;have YQ:=YP.cB oG 189 t68 (by decide);have aoe:=TL.cB oG 189 t68 (by decide);have atb:=(aeA.ex gb).cB oG 189 t68 (by decide);have ap4:=(acm.ex gb).cB oG 189 t68 (by decide);have aib:Kp w dX D:=(IY.fZ (gb.aH _)).fZ (oG.mono λi _ o=>(b4 i).2 (.inr (.inr (.inr o))));refine⟨aoe.at (j:=0) rfl,?_⟩;refine YQ.da (j:=2) (by show 2<1*5;omega) rfl λeA rT ajT=>?_;have t62:∀i,i=pd->Typed dX 78 i:=λi o=>o▸(YQ.typed rfl).1;have aic:Kp w eA D:=aib.fZ (rT.mono λi _ o=>(b4 i).2 (.inl o));rw[bY (by omega) (by omega)];rw[apv]at r1;have Ta:(da d' x.i x.bs).now.length=d'.now.length:=by simp[da]
 have aaX:(da d' x.i x.bs).loose.length=d'.loose.length+1:=by simp[da]
 refine TE eA (IX pd bs bn bh) bg ⟨bs,bn,bh,bI,⟨?_,?_,?_,?_,pT.ne⟩,λi=>mR⟩ aic λi o=>?_
 ·rw[Ta,aaX];exact ajT
 ·rw[Ta];exact atb.cB rT 78 t62 (by decide)
 ·rw[Ta];exact ap4.cB rT 78 t62 (by decide)
 ·rw[aaX];exact r1.cB rT 78 t62 (by decide)
 ·rcases o with o|o|o|⟨y,ah,o⟩
  ·exact .inl ((b4 i).2 (.inl o))
  ·exact .inl ((b4 i).2 (.inr (.inl o)))
  ·exact .inl ((b4 i).2 (.inr (.inr (.inl o))))
  ·rcases nR with nR|nR
   ·rw[nR]at ah;exact .inl ((b4 i).2 (.inr (.inr (.inr ⟨y,ah,o⟩))))
   ·have:=nR y ah
    have:=IY.size
    have:=gb.size
    exact .inr (by omega)
theorem Gy.step{w γ:World}{D eU:bf}{x:hQ}(h:Gy w D x)(k:Kp w γ D)(b4:∀i,i<w.heap.size->eU i->D i):Gy γ eU x:=⟨h.cells.step k b4,h.len,h.wf⟩
theorem any_false{α:Type}{P:α->Bool}{l:List α}(h:l.any P=false){x:α}(I:x∈l):P x=false:=by
 rw[HW]at h
 have:=h x I
 simpa using this
def Cz(w:World)(B pd:Nat)(d:c3)(D:bf)(w':World):Prop:=∃bb,gV w' B pd d bb/\Good d/\Kp w w' D/\∀i,bb i->D i\/w.heap.size<=i
theorem I2{w:World}{B pd:Nat}{d:c3}{D:bf}(h:gV w B pd d D)(bJ:Good d)(dW:B<=w.heap.size){p3:J}{n c:Nat}{ws:List hQ}(ax:ws.length=n)(aj:mY w D p3 (ws.map hQ.cells).flatten)(hw:∀x∈ws,Gy w D x)(ψ:n<=100000000)(S2:d.loose.length+n<=1000000000):
  rA.C (some ⟨pd,0,none⟩) p3 n c w (χ λv w'=>v=.int .i64 (zp d (ws.map hQ.plain)).2/\Cz w B pd (zp d (ws.map hQ.plain)).1 D w'):=by
 apply rA.ok;unfold rA.main;rintro δ γ rfl rfl;have ρ:=(μ.new (w:=w) [.pointer (some ⟨pd,0,none⟩)] 23).lower (en _);have ζ:=η.alloc w (.cells #[.pointer (some ⟨pd,0,none⟩)] 23);generalize w.alloc (.cells #[.pointer (some ⟨pd,0,none⟩)] 23)=γ at ρ ζ⊢;have same:∀w',η w w'->Cz w B pd d D w':=λw' x=>⟨D,h.ex x,bJ,x.aH _,λi o=>.inl o⟩;refine⟨_,ρ.at (j:=0) rfl,?_⟩;refine κ.use (VH (h.ex ζ)) ?_;rintro _ τ ⟨rfl,rfl⟩
 try dsimp only[bH]
 unfold zp;cases D6:d.off with
 |true=>
  simp only[oR];rw[cond_pos (by decide)];exact χ.mk ⟨rfl,same _ ζ⟩
 |false=>
  simp only[vV,qW];rw[cond_neg (by decide)];refine κ.use (amw (D:=D) ax (aj.now.ex ζ) (λx I=>(hw x I).step (ζ.aH _) λi _ o=>o) (by omega)) ?_;rintro _ az ⟨rfl,aA⟩
  try dsimp only[dE]
  refine bz (λπ=>?_) λπ=>?_
  ·rw[π];exact χ.mk ⟨rfl,same _ (ζ.trans aA)⟩
  rw[π];simp only[vV,qW];have j7:=ζ.trans aA;refine κ.use (amx (h.ex j7) (ρ.ex aA) ax (aj.now.ex j7) (by omega)) ?_;rintro _ ba ⟨rfl,aI⟩
  try dsimp only[dE]
  refine bz (λjR=>?_) λjR=>?_
  ·rw[jR];exact χ.mk ⟨rfl,same _ (j7.trans aI)⟩
  rw[jR];simp only[vV,qW];have jm:=j7.trans aI;refine⟨λt2 Ly Lx PG t19 t20 w'=>t2=w.heap.size/\p3=Ly/\n=Lx/\c=PG/\t19=(n:Int)/\0<=t20/\t20<=(n:Int)/\∃d' bb,gV w' B pd d' bb/\Good d'/\Kp w w' D/\(∀i,bb i->D i\/w.heap.size<=i)/\μ w' 0 23 1 (some ⟨w.heap.size,0,none⟩) 1 1 [.pointer (some ⟨pd,0,none⟩)]/\
   xv d' ((ws.map hQ.plain).drop t20.toNat)=xv d (ws.map hQ.plain)/\(d'.loose.length:Int)<=(d.loose.length:Int)+t20/\d'.now.length=d.now.length,λt2 Ly Lx PG t19 t20 w'=>((n:Int)-t20).toNat,?_,?_⟩
  ·exact⟨rfl,rfl,rfl,rfl,rfl,by omega,by omega,d,D,h.ex jm,bJ,jm.aH _,λi o=>.inl o,(ρ.ex aA).ex aI,rfl,by omega,rfl⟩
  rintro _ _ _ _ _ t bm ⟨rfl,rfl,rfl,rfl,rfl,aD,h1,d',bb,ih,NM,tO,JE,er,zZ,fV,NR⟩;by_cases nN:t<(n:Int)
  ·obtain⟨x,I,Ej,NJ⟩:=ow (l:=ws) (i:=t.toNat) (by omega);have TJ:x.plain∈ws.map hQ.plain:=gO.2 ⟨x,Ej,rfl⟩;have abw:x.bs.length=64:=by
    have:=any_false π TJ
    simpa[wide,hQ.plain]using this
   have abe:0<=x.i/\x.i<(d'.now.length:Int):=by
    have:=any_false jR TJ
    unfold out hQ.plain at this;rw[OV,K0,K0]at this;obtain⟨cG,fM⟩:=this;dsimp only at cG fM;rw[NR];omega
   have Hk:∀i,i<w.heap.size->bb i->D i:=λi o af=>by
    rcases JE i af with af|af
    ·exact af
    ·omega
   rw[<-xx,NJ,xw]at zZ;have Nx:B<=bm.heap.size:=fY dW tO.size;refine aiz (S:=λv w'=>v=.int .i64 (xv d (ws.map hQ.plain)).2/\Cz w B pd (xv d (ws.map hQ.plain)).1 D w') ih NM Nx er ax (aj.step tO Hk) (by omega) (by omega) ⟨aD,nN⟩ I ((hw x Ej).step tO Hk) abe abw (λw' bg vz k'=>?_) λw' gj bg vz k' SH=>?_
   ·rw[<-zZ];unfold xv;rw[aS bg];exact⟨rfl,bb,vz,Pw NM,Kp.trans tO k' (λ_ _ h=>h) Hk,JE⟩
   ·have ω:=Px d';refine⟨⟨rfl,rfl,rfl,rfl,rfl,by omega,by omega,_,gj,vz,Vp (Pw NM) (by rw[ω.2.1];exact abe) ⟨abw,(hw x Ej).wf⟩,Kp.trans tO k' (λ_ _ h=>h) Hk,λi o=>?_,KI ih k' er (by decide) (by decide) (by decide),?_,?_,?_⟩,by((try dsimp only);omega)⟩
    ·rcases SH i o with o|o
     ·exact JE i o
     ·exact .inr (fY tO.size o)
    ·rw[<-zZ,show(t+1).toNat=t.toNat+1 by omega,<-xx]
     conv=>rhs;unfold xv
     rw[aM (by rw[bg];decide)];rfl
    ·simp only[da,ω.2.2,fe,k5,Fa];omega
    ·simp only[da,ω.2.1,im];exact NR
  ·unfold rA.δ;rw[iD nN];rw[qY (by rw[jV];omega)]at zZ;rw[<-zZ];exact χ.mk ⟨rfl,bb,ih,NM,tO,JE⟩
def flush(d:c3):c3×Int:=if d.off then(d,10)else if(kh d).off then(kh d,10)else({kh d with sure:=d.now,loose:=[]},0)
theorem ah4{w:World}{B pd:Nat}{d:c3}{D:bf}(h:gV w B pd d D)(bJ:Good d):C2.C (some ⟨pd,0,none⟩) w (χ λv w'=>v=.int .i64 (flush d).2/\Cz w B pd (flush d).1 D w'):=by
 apply C2.ok;unfold C2.main;refine κ.use (VH h) ?_;rintro _ γ ⟨rfl,rfl⟩
 try dsimp only[bk,bH]
 unfold flush;cases D6:d.off with
 |true=>
  simp only[oR];rw[cond_pos (by decide)];exact χ.mk ⟨rfl,D,h,bJ,Kp.refl _ _,λi o=>.inl o⟩
 |false=>
  simp only[vV,qW];rw[cond_neg (by decide)];refine κ.use (aek h bJ) ?_;rintro _ aa ⟨rfl,aG,cd⟩
  try dsimp only[dE]
  have oy:=Pw bJ;have ω:=Px d;refine bz (λbg=>?_) λbg=>?_
  ·rw[aS bg];exact χ.mk ⟨rfl,D,aG,oy,cd,λi o=>.inl o⟩
  rw[aM (by rw[bg];decide)];obtain⟨bs,bn,pl,km,aG,b4⟩:=aG.ex (η.drew aa);have cd:=cd.fZ ((η.drew aa).aH _);generalize aa.drew=aa at aG cd⊢;simp only[dv];refine⟨_,_,_,aG.cell.at (j:=0) rfl,_,_,_,aG.cell.at (j:=1) rfl,?_⟩;refine akh aG.FQ aG.no.cells (ad2 oy.now) (ew _) (asw _) λaE cu dN=>?_;have hlen:(uS (kh d).sure).drop ((kh d).now.length*64)=[]:=qY (by rw[ad2 oy.sure,oy.len];exact ew _);rw[hlen,pn]at cu;have dN:Kp aa aE λi=>i=bs:=dN.mono λi _⟨x,I,o⟩=>by cases I;exact o.symm
  have att:∀i,i=bs->Typed aa 82 i:=λi o=>o▸(aG.FQ.typed rfl).1;have iC:=aG.cell.cB dN 82 att (by decide);have rY:=aG.no.aH dN λx I hm=>by cases I;exact aG.ne hm.symm
  refine iC.da (j:=2) (by show 2<1*5;omega) rfl λba ec rD=>?_;have t62:∀i,i=pd->Typed aE 78 i:=λi o=>o▸(iC.typed rfl).1;refine χ.mk ⟨rfl,IX pd bs bn none,⟨bs,bn,none,0,⟨rD,?_,?_,μ.nil _ _ _ _,aG.ne⟩,λi=>mR⟩,?_,(cd.fZ (dN.mono λi _ o=>(b4 i).2 (.inr (.inl o)))).fZ (ec.mono λi _ o=>(b4 i).2 (.inl o)),λi o=>.inl ?_⟩
  ·have:=cu.cB ec 78 t62 (by decide)
   rw[ω.2.1]at this⊢;exact this
  ·exact rY.cB ec 78 t62 (by decide)
  ·exact⟨by rw[ω.2.1],oy.fT,by rw[<-ω.2.1];exact oy.now,oy.now,λp hp=>(by cases hp),oy.after⟩
  ·rcases o with o|o|o|⟨x,I,_⟩
   ·exact(b4 i).2 (.inl o)
   ·exact(b4 i).2 (.inr (.inl o))
   ·exact(b4 i).2 (.inr (.inr (.inl o)))
   ·cases I
theorem arw{d:c3}(h1:d.after=-1)(ι:d.off=false){i:Int}{s:an}(o:0<=i/\i<(d.now.length:Int))(ω:s.length=64):zp d [(i,s)]=(da d i s,0):=by
 have k0:kh d=d:=by unfold kh;rw[aM (by omega),aM (by omega)]
 unfold zp;rw[aM (by rw[ι];decide),aM (by simp[wide,ω]),aM (by simp[out];omega)];unfold xv;rw[k0,aM (by rw[ι];decide)];rfl
theorem alH{d:c3}(h1:d.after=-1)(ι:d.off=false):flush d=({d with sure:=d.now,loose:=[]},0):=by
 have k0:kh d=d:=by unfold kh;rw[aM (by omega),aM (by omega)]
 unfold flush;rw[k0,aM (by rw[ι];decide),aM (by rw[ι];decide)]
end Go.Proofs.YtcpdfhkhaekekaaGreat.G.a6
namespace Go.Proofs.YtcpdfhkhaekekaaGreat.G.eh
open Go.bO Go.RowKit
def cp(k:Int):Nat:=FloatKind.f64.nearest k
def qw(x:Int):Prop:=0<=x/\x<256
theorem alF:∀k:Fin 256,ek .geq (cp (k.val:Int)) 0=true/\ek .lss (cp (k.val:Int)) (FloatKind.f64.nearest 24)=decide ((k.val:Int)<24)/\ek .lss (cp (k.val:Int)) (FloatKind.f64.nearest 16)=decide ((k.val:Int)<16)/\
 (FloatKind.f64.decode (cp (k.val:Int))).toInt .zero=some (k.val:Int)/\ek .eql (cp (k.val:Int)) (cp (k.val:Int))=true/\ek .eql (cp (k.val:Int)) 0=decide ((k.val:Int)=0):=by decide+kernel
theorem Ju{x:Int}(h:qw x):ek .geq (cp x) 0=true/\ek .lss (cp x) (FloatKind.f64.nearest 24)=decide (x<24)/\ek .lss (cp x) (FloatKind.f64.nearest 16)=decide (x<16)/\
  (FloatKind.f64.decode (cp x)).toInt .zero=some x/\ek .eql (cp x) (cp x)=true/\ek .eql (cp x) 0=decide (x=0):=by
 obtain⟨aD,h1⟩:=h;obtain⟨n,rfl⟩:=eH aD;exact alF ⟨n,by omega⟩
theorem wM:cp 0=0:=by kernel_rfl
structure fx where
 k:Int
 v:Int
 ε:Int
 b:Int
 x:Int
 y:Int
def fx.cells(d:fx):aU:=[.int .i64 d.k,.int .i64 d.v,.int .i64 d.ε,.int .i64 d.b,.complex .f64 (cp d.x) (cp d.y)]
def fx.wf(d:fx):Prop:=qw d.x/\qw d.y
def nU(n a b:Int):Bool:=decide (a<=n)&&decide (n<b)
def whole(x y:Int):Bool:=decide (x<24)&&decide (y<16)
def ji(d:fx):Bool:=nU d.v 0 8&&(if d.k=1 then nU d.b 1 33 else if d.k=2 then true else if d.k=3 then nU d.ε 0 8&&decide (d.ε≠d.v)else if d.k=4 then whole d.x d.y&&nU d.b 0 32 else nU d.b 0 32)
def s0(d:fx):Int:=if d.k=3 then 0 else d.ε
def sZ(d:fx):Int:=if d.k=2\/d.k=3 then d.b else 0
def rU(d:fx):Int:=if d.k=4 then 0 else d.x
def rV(d:fx):Int:=if d.k=4 then 0 else d.y
def hS(d:fx):Int:=if nU d.k 1 6 then(if ji d then(if s0 d=0/\sZ d=0/\rU d=0/\rV d=0 then 0 else 2)else 5)else 1
theorem cells_one{a b c d:Int}{x y:Nat}:∀z∈[Value.int .i64 a,.int .i64 b,.int .i64 c,.int .i64 d,.complex .f64 x y],z.oneCell'=true:=by intro z aL;simp only[fA,n1,oS]at aL;rcases aL with rfl|rfl|rfl|rfl|rfl<;>rfl
def l4:aU:=[.int .i64 0,.int .i64 0,.int .i64 0,.int .i64 0,.complex .f64 0 0]
theorem Ma{x m:Int}(I:qw x)(hm:m=24\/m=16)(w:World):tT.C (cp x) m w (χ λv w'=>v=.bool (decide (x<m))/\w'=w):=by
 apply tT.ok;unfold tT.main;obtain⟨h1,ι,aG,cq,db,_⟩:=Ju I;rw[cond_pos h1];have aj:ek .lss (cp x) (FloatKind.f64.nearest m)=decide (x<m):=by rcases hm with rfl|rfl<;>assumption
 rw[aj];obtain⟨qG,δ⟩:=I;refine bz (λh=>?_) λh=>χ.mk ⟨by rw[h],rfl⟩;rw[cq]
 try dsimp only[bk]
 refine bL (bB (by show-9223372036854775808<=x;omega)) (bL (bB (by show x<=9223372036854775807;omega)) (χ.mk ⟨?_,rfl⟩));rw[h];exact gP Value.bool db
theorem zu{x y:Int}(I:qw x)(ah:qw y)(w:World):x6.C (cp x) (cp y) w (χ λv w'=>v=.bool (whole x y)/\w'=w):=by
 apply x6.ok;unfold x6.main;refine κ.use (Ma I (.inl rfl) w) ?_;rintro _ _ ⟨rfl,rfl⟩
 try dsimp only[dE]
 refine bz (λh=>?_) λh=>χ.mk ⟨by unfold whole;rw[h];rfl,rfl⟩;refine κ.use (Ma ah (.inr rfl) _) ?_;rintro _ _ ⟨rfl,rfl⟩
 try dsimp only[dE]
 exact χ.mk ⟨by unfold whole;rw[h];rfl,rfl⟩
theorem z8(n a b:Int)(w:World):yf.C n a b w (χ λv w'=>v=.bool (nU n a b)/\w'=w):=by
 apply yf.ok;unfold yf.main;refine bz (λh=>?_) λh=>?_
 ·have h:a<=n:=b7 h;exact χ.mk ⟨by simp[nU,h],rfl⟩
 ·have h:¬a<=n:=dd h;exact χ.mk ⟨by simp[nU,h],rfl⟩
theorem apV{w0 w:World}{nG gD δ θ:Nat}{cs ds:aU}{e:TypeId}(ρ:μ w nG e 5 (some ⟨δ,0,none⟩) 1 1 cs)(ai:μ w gD e 5 (some ⟨θ,0,none⟩) 1 1 ds)(h1:∀y∈cs,y.oneCell'=true)(I:η w0 w)(ψ:w0.heap.size<=θ){N:ag->ao}
  (eG:∀w',η w0 w'->μ w' gD e 5 (some ⟨θ,0,none⟩) 1 1 cs->N cs.toArray w'):
  ∃gA:ag,gA.size=5/\aw w (⟨δ,0,none⟩:Addr) gA.toList/\ο (decide (gA.size=5)) (hr w (⟨θ,0,none⟩:Addr) gA.toList/\∀w',w'=w.setCells (⟨θ,0,none⟩:Addr).block (⟨θ,0,none⟩:Addr).off gA.toList->
   ∃iR:ag,iR.size=5/\aw w' (⟨θ,0,none⟩:Addr) iR.toList/\N iR w'):=by
 have aj:cs.length=5:=ρ.1;refine⟨cs.toArray,by simpa using aj,ρ.cells,bL (bB (by simpa using aj)) ?_⟩;refine ai.put aj h1 λτ k ε=>?_;exact⟨cs.toArray,by simpa using aj,ε.cells,eG τ (I.then k λi o=>o▸ψ) ε⟩
theorem ar9{d:fx}(af:d.wf)(hk:nU d.k 1 6=true)(w:World):
  sN.C d.k d.v d.ε d.b (cp d.x) (cp d.y) w (χ λv w'=>v=.tuple #[.agg #[.int .i64 d.k,.int .i64 d.v,.int .i64 (s0 d),.int .i64 (sZ d),.complex .f64 (cp (rU d)) (cp (rV d))],.bool (ji d)]/\η w w'):=by
 apply sN.ok;unfold sN.main;obtain⟨k,v,ε,b,x,y⟩:=d;obtain⟨I,ah⟩:=af;dsimp only at I ah hk⊢;rintro δ γ rfl rfl θ τ rfl rfl;have ρ:=μ.new (w:=w) [.int .i64 k,.int .i64 v,.int .i64 ε,.int .i64 b,.complex .f64 (cp x) (cp y)] fk;have ζ:=η.alloc w (.cells #[.int .i64 k,.int .i64 v,.int .i64 ε,.int .i64 b,.complex .f64 (cp x) (cp y)] fk);generalize ej:w.heap.size=δ at ρ⊢;generalize w.alloc (.cells #[.int .i64 k,.int .i64 v,.int .i64 ε,.int .i64 b,.complex .f64 (cp x) (cp y)] fk)=γ at ρ ζ⊢;have ai:=μ.new (w:=γ) l4 fk;have σ:=η.alloc γ (.cells l4.toArray fk);unfold l4 at ai σ;have eu:w.heap.size<=γ.heap.size:=ζ.size;have ca:δ≠γ.heap.size:=by have:=ρ.ge rfl;dsimp only at this;omega
 generalize γ.heap.size=θ at ai eu ca⊢;generalize γ.alloc (.cells #[.int .i64 0,.int .i64 0,.int .i64 0,.int .i64 0,.complex .f64 0 0] fk)=τ at ai σ⊢;have c7:=ζ.trans σ;have ρ:=ρ.ex σ;refine⟨v,ρ.at (by rfl),?_⟩;refine κ.use (z8 v 0 8 τ) ?_;rintro _ _ ⟨rfl,rfl⟩
 try dsimp only[dE]
 refine⟨k,ρ.at (by rfl),?_⟩;have hk:k=1\/k=2\/k=3\/k=4\/k=5:=by simp only[nU,kx,po]at hk;omega
 have set:∀{w':World}{cs ds:aU}{j:Nat}{u:Value}{N:ao},μ w' δ fk 5 (some ⟨δ,0,none⟩) 1 1 cs->μ w' θ fk 5 (some ⟨θ,0,none⟩) 1 1 ds->η w w'->j<5->u.oneCell'=true->
   (∀aa,μ aa δ fk 5 (some ⟨δ,0,none⟩) 1 1 (cs.set j u)->μ aa θ fk 5 (some ⟨θ,0,none⟩) 1 1 ds->η w aa->N aa)->
   (w'.cell? (⟨δ,j,none⟩:Addr)).isSome=true/\w'.frozen? (⟨δ,j,none⟩:Addr)=false/\∀aa,aa=w'.setCell (⟨δ,j,none⟩:Addr) u->N aa:=by
  intro w' cs ds j u N ab aX HS φ hu K;refine ab.da (by omega) hu λaa k p=>K aa p (aX.aH k λx I e=>?_) (HS.then k λi o=>by omega);cases I;dsimp only at e;omega
 have fin:∀{w':World}{k' q9 hD gL:Int}{sw wo:Nat}{g:Bool},μ w' δ fk 5 (some ⟨δ,0,none⟩) 1 1 [.int .i64 k',.int .i64 q9,.int .i64 hD,.int .i64 gL,.complex .f64 sw wo]->μ w' θ fk 5 (some ⟨θ,0,none⟩) 1 1 [.int .i64 0,.int .i64 0,.int .i64 0,.int .i64 0,.complex .f64 0 0]->η w w'->
   k'=k->q9=v->hD=s0 ⟨k,v,ε,b,x,y⟩->gL=sZ ⟨k,v,ε,b,x,y⟩->sw=cp (rU ⟨k,v,ε,b,x,y⟩)->wo=cp (rV ⟨k,v,ε,b,x,y⟩)->g=ji ⟨k,v,ε,b,x,y⟩->
   ∃gA:ag,gA.size=5/\aw w' (⟨δ,0,none⟩:Addr) gA.toList/\ο (decide (gA.size=5)) (hr w' (⟨θ,0,none⟩:Addr) gA.toList/\∀aa,aa=w'.setCells (⟨θ,0,none⟩:Addr).block (⟨θ,0,none⟩:Addr).off gA.toList->
    ∃iR:ag,iR.size=5/\aw aa (⟨θ,0,none⟩:Addr) iR.toList/\χ (λWw w'=>Ww=.tuple #[.agg #[.int .i64 k,.int .i64 v,.int .i64 (s0 ⟨k,v,ε,b,x,y⟩),.int .i64 (sZ ⟨k,v,ε,b,x,y⟩),.complex .f64 (cp (rU ⟨k,v,ε,b,x,y⟩)) (cp (rV ⟨k,v,ε,b,x,y⟩))],.bool (ji ⟨k,v,ε,b,x,y⟩)]/\η w w') (.returned (.tuple #[.agg iR,.bool g])) aa):=by
  intro w' k' q9 hD gL sw wo g ab aX HS aO bE gw iZ h3 pR qJ;refine apV ab aX cells_one HS eu λaa nm _=>χ.mk ⟨?_,nm⟩;subst aO bE gw iZ h3 pR qJ;rfl
 have tail:∀{w':World}{sw wo:Nat}{g:Bool},μ w' δ fk 5 (some ⟨δ,0,none⟩) 1 1 [.int .i64 k,.int .i64 v,.int .i64 ε,.int .i64 b,.complex .f64 sw wo]->μ w' θ fk 5 (some ⟨θ,0,none⟩) 1 1 [.int .i64 0,.int .i64 0,.int .i64 0,.int .i64 0,.complex .f64 0 0]->η w w'->k=4\/k=5->
   sw=cp (rU ⟨k,v,ε,b,x,y⟩)->wo=cp (rV ⟨k,v,ε,b,x,y⟩)->(g&&nU b 0 32)=ji ⟨k,v,ε,b,x,y⟩->
   sN.a1 δ θ g w' (χ λWw w'=>Ww=.tuple #[.agg #[.int .i64 k,.int .i64 v,.int .i64 (s0 ⟨k,v,ε,b,x,y⟩),.int .i64 (sZ ⟨k,v,ε,b,x,y⟩),.complex .f64 (cp (rU ⟨k,v,ε,b,x,y⟩)) (cp (rV ⟨k,v,ε,b,x,y⟩))],.bool (ji ⟨k,v,ε,b,x,y⟩)]/\η w w'):=by
  intro w' sw wo g ab aX HS hk h3 pR qJ;unfold sN.a1;have gw:ε=s0 ⟨k,v,ε,b,x,y⟩:=by rcases hk with rfl|rfl<;>rfl
  have iZ:(0:Int)=sZ ⟨k,v,ε,b,x,y⟩:=by rcases hk with rfl|rfl<;>rfl
  refine bz (λh=>?_) λh=>?_
  ·subst h;refine⟨b,ab.at (by rfl),?_⟩;refine κ.use (z8 b 0 32 w') ?_;rintro _ _ ⟨rfl,rfl⟩
   try dsimp only[dE]
   exact set ab aX HS (by omega) rfl λaa dQ fQ qa=>fin dQ fQ qa rfl rfl gw iZ h3 pR qJ
  ·subst h;exact set ab aX HS (by omega) rfl λaa dQ fQ qa=>fin dQ fQ qa rfl rfl gw iZ h3 pR qJ
 rcases hk with rfl|rfl|rfl|rfl|rfl
 ·rw[cond_pos (by rfl)];refine bz (λh=>?_) λh=>?_
  ·refine⟨b,ρ.at (by rfl),?_⟩;refine κ.use (z8 b 1 33 _) ?_;rintro _ _ ⟨rfl,rfl⟩
   try dsimp only[dE]
   exact set ρ ai c7 (by omega) rfl λaa dQ fQ qa=>fin dQ fQ qa rfl rfl rfl rfl rfl rfl (by simp[ji,h])
  ·exact set ρ ai c7 (by omega) rfl λaa dQ fQ qa=>fin dQ fQ qa rfl rfl rfl rfl rfl rfl (by simp[ji,h])
 ·rw[cond_neg (by rfl),cond_pos (by rfl)];exact fin ρ ai c7 rfl rfl rfl rfl rfl rfl (by simp[ji])
 ·rw[cond_neg (by rfl),cond_neg (by rfl),cond_pos (by rfl)];refine bz (λh=>?_) λh=>?_
  ·refine⟨ε,ρ.at (by rfl),?_⟩;refine κ.use (z8 ε 0 8 _) ?_;rintro _ _ ⟨rfl,rfl⟩
   try dsimp only[dE]
   refine bz (λfU=>?_) λfU=>?_
   ·refine⟨ε,ρ.at (by rfl),v,ρ.at (by rfl),?_⟩;exact set ρ ai c7 (by omega) rfl λaa dQ fQ qa=>fin dQ fQ qa rfl rfl rfl rfl rfl rfl (by simp[ji,h,fU,bne];rfl)
   ·exact set ρ ai c7 (by omega) rfl λaa dQ fQ qa=>fin dQ fQ qa rfl rfl rfl rfl rfl rfl (by simp[ji,h,fU])
  ·exact set ρ ai c7 (by omega) rfl λaa dQ fQ qa=>fin dQ fQ qa rfl rfl rfl rfl rfl rfl (by simp[ji,h])
 ·rw[cond_neg (by rfl),cond_neg (by rfl),cond_neg (by rfl),cond_pos (by rfl)];refine bz (λh=>?_) λh=>?_
  ·refine⟨cp x,cp y,ρ.at (by rfl),?_⟩;refine κ.use (zu I ah _) ?_;rintro _ _ ⟨rfl,rfl⟩
   try dsimp only[dE]
   exact set ρ ai c7 (by omega) rfl λaa dQ fQ qa=>tail dQ fQ qa (.inl rfl) wM.symm wM.symm (by simp[ji,h])
  ·exact set ρ ai c7 (by omega) rfl λaa dQ fQ qa=>tail dQ fQ qa (.inl rfl) wM.symm wM.symm (by simp[ji,h])
 ·rw[cond_neg (by rfl),cond_neg (by rfl),cond_neg (by rfl),cond_neg (by rfl),cond_pos (by rfl)];exact tail ρ ai c7 (.inr rfl) rfl rfl (by simp[ji])
theorem A1{d:fx}(af:d.wf)(w:World):Du.C d.k d.v d.ε d.b (cp d.x) (cp d.y) w (χ λv w'=>v=.int .i64 (hS d)/\η w w'):=by
 apply Du.ok;unfold Du.main;rintro δ γ rfl rfl;have ρ:=μ.new (w:=w) d.cells fk;have ζ:=η.alloc w (.cells d.cells.toArray fk);unfold fx.cells at ρ ζ;generalize w.alloc (.cells #[.int .i64 d.k,.int .i64 d.v,.int .i64 d.ε,.int .i64 d.b,.complex .f64 (cp d.x) (cp d.y)] fk)=γ at ρ ζ⊢;refine⟨d.k,ρ.at (by rfl),?_⟩;refine κ.use (z8 d.k 1 6 γ) ?_;rintro _ _ ⟨rfl,rfl⟩
 try dsimp only[dE]
 refine bz (λh=>?_) λh=>?_
 ·exact χ.mk ⟨by unfold hS;rw[aM (by simpa using h)],ζ⟩
 ·have hk:nU d.k 1 6=true:=by simpa using h
  refine⟨d.cells.toArray,rfl,ρ.cells,?_⟩;refine κ.use (ar9 af hk _) ?_;rintro _ az ⟨rfl,aA⟩
  try dsimp only[bX,cC,cD,bk,dE,hx,ie]
  rintro ae ba rfl rfl;have bS:=μ.new (w:=az) l4 fk;have aI:=η.alloc az (.cells l4.toArray fk);unfold l4 at bS aI;have ψ:w.heap.size<=az.heap.size:=(ζ.trans aA).size;generalize az.heap.size=ae at bS ψ⊢;generalize az.alloc (.cells #[.int .i64 0,.int .i64 0,.int .i64 0,.int .i64 0,.complex .f64 0 0] fk)=ba at bS aI⊢;refine bL (by rfl) ?_;refine bS.put (by rfl) cells_one λbm hA er=>?_;have aV:η w bm:=(ζ.trans (aA.trans aI)).then hA λi o=>o▸ψ;have e5:qw (rU d):=by unfold rU;split;exact⟨by omega,by omega⟩;exact af.1
  have amp:qw (rV d):=by unfold rV;split;exact⟨by omega,by omega⟩;exact af.2
  unfold hS;rw[aS hk];cases aB:ji d with
  |false=>
   rw[aM (by simp)];simp only[uO,yR,r9,vX];exact χ.mk ⟨rfl,aV⟩
  |true=>
   rw[aS rfl];simp only[uO,yR,r9,vX];refine⟨s0 d,er.at (by rfl),?_⟩;refine bz (λh=>?_) λh=>?_
   ·rw[aM λc=>by simp[c.1]at h];exact χ.mk ⟨rfl,aV⟩
   have ι:s0 d=0:=by simpa using h
   refine⟨sZ d,er.at (by rfl),?_⟩;refine bz (λh=>?_) λh=>?_
   ·rw[aM λc=>by simp[c.2.1]at h];exact χ.mk ⟨rfl,aV⟩
   have aG:sZ d=0:=by simpa using h
   refine⟨cp (rU d),cp (rV d),er.at (by rfl),?_⟩;obtain⟨_,_,_,_,_,ak2⟩:=Ju e5;obtain⟨_,_,_,_,_,ak3⟩:=Ju amp;rw[ak2,ak3];refine bz (λh=>?_) λh=>?_
   ·rw[aM λc=>by simp[c.2.2.1,c.2.2.2]at h];exact χ.mk ⟨rfl,aV⟩
   ·rw[aS (by simp at h;exact⟨ι,aG,h.1,h.2⟩)];exact χ.mk ⟨rfl,aV⟩
end Go.Proofs.YtcpdfhkhaekekaaGreat.G.eh

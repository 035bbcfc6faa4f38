/- The walk of the functions, and the plain laws of the model: part of the proof. Conditions: none. -/
import Derived.Test.YtcpdfhkhaekekaaGreatA10
set_option linter.unusedVariables false
set_option linter.unusedSimpArgs false
namespace Go.Proofs.YtcpdfhkhaekekaaGreat.G.cr
open Go.bI Go.RowKit
theorem ZY{w:World}{B q:Nat}{g:Int}(γ:μ w B ck 1 (some ⟨q,0,none⟩) 1 1 [.int .i64 g]){x:Nat×Nat}(I:gS x):DK.C (eI (some x)) (eQ (some x)) q w (φ λv w'=>v=.bool ((x.1:Int)!=g)/\w'=w):=by have rK:=I.1;apply DK.ok;unfold DK.main;refine gK (Cl (n:=x.1) (by omega)).2.2.2.1 (bO (bC (by rw[HL];omega)) (bO (bC (by rw[we];omega)) ?_));exact⟨g,γ.at (j:=0) rfl,φ.mk ⟨rfl,rfl⟩⟩
theorem aiZ{w:World}{B q:Nat}{g:Int}(γ:μ w B ck 1 (some ⟨q,0,none⟩) 1 1 [.int .i64 g]){p:J}{n c:Nat}{V:List (Nat×Nat)}(π:a8 w p (dE V))(ar:V.length=n)(ω:n<=100000)(aE:∀x∈V,gS x):
  tE.C p n c q w (φ λv w'=>(∃i:Int,v=.int .i64 i/\((i=-1/\∀x∈V,(x.1:Int)=g)\/∃j:Nat,i=j/\j<n/\(∀x∈V.take j,(x.1:Int)=g)/\∀x,V[j]?=some x->(x.1:Int)≠g))/\w'=w):=by
 apply tE.ok;unfold tE.main tE.bd;refine⟨λcj cb cu t1 t7 t8 w'=>p=cj/\n=cb/\q=t1/\(n:Int)=t7/\0<=t8/\t8<=n/\w=w'/\∀x∈V.take t8.toNat,(x.1:Int)=g,λ_ _ _ _ _ t8 _=>(n-t8).toNat,⟨rfl,rfl,rfl,rfl,by omega,by omega,rfl,λx I=>by simp at I⟩,?_⟩;rintro _ _ cu _ _ t8 _ ⟨rfl,rfl,rfl,rfl,aF,h1,rfl,dM⟩;unfold tE.ε;obtain⟨j,rfl⟩:=eR aF;rw[cP]at dM;refine bA (λχ=>?_) λχ=>?_
 ·have χ:=cd χ;have e3:j<V.length:=by omega
  have aM:(dE V)[j]?=some (dT (some V[j])):=by unfold dE;rw[List.getElem?_map,List.getElem?_eq_getElem e3];rfl
  obtain⟨a,aP,r⟩:=π.many aM;refine bO (bC aF) (bO (bC χ) (gK aP ⟨eI (some V[j]),eQ (some V[j]),by rw[cP,eG];exact r,?_⟩));refine κ.use (ZY γ (aE _ (hN e3))) ?_;rintro _ δ ⟨rfl,aM⟩;obtain rfl:=aM.symm
  try dsimp only[dH]
  refine bA (λbL=>φ.mk ⟨⟨_,rfl,.inr ⟨j,rfl,by omega,dM,λx I=>by rw[List.getElem?_eq_getElem e3]at I;cases I;simpa using bL⟩⟩,rfl⟩) λbL=>?_;rw[b3 (x:=(j:Int)+1) (by omega) (by omega)];refine⟨⟨rfl,rfl,rfl,rfl,by omega,by omega,rfl,λx I=>?_⟩,by((try dsimp only);omega)⟩;have I:x∈V.take (j+1):=I;rw[lq e3]at I;rcases iI.1 I with I|I
  ·exact dM x I
  ·simp only[lp]at I;subst I;simpa using bL
 ·have χ:=dh χ
  have:V.take j=V:=hr (by omega)
  rw[this]at dM;exact φ.mk ⟨⟨-1,rfl,.inl ⟨rfl,dM⟩⟩,rfl⟩
def lk(g:Int)(x:Nat×Nat):Bool:=decide ((x.1:Int)=g)
theorem atj{α:Type}(F gs rest:List α)(v:α):(F++(gs++v::rest)).set F.length v=F++[v]++((gs++[v]).tail++rest):=by
 rw[CC _ _ (eF _),u4];cases gs with
 |nil=>simp
 |cons a l=>simp
theorem awL(m:Nat):∀y∈(Builtin.zeroCells #[Value.complex .f64 0 0] m).toList,y.oneCell'=true:=λy ag=>by
 unfold Builtin.zeroCells at ag;rw[FL,gM]at ag;obtain⟨i,_,rfl⟩:=ag
 have:i%(#[Value.complex .f64 0 0]:ah).size=0:=Nat.mod_one i
 rw[this];rfl
theorem aiI{w:World}{B ait q:Nat}{g:Int}(ti:μ w ait ck 1 (some ⟨q,0,none⟩) 1 1 [.int .i64 g]){p:J}{n c:Nat}{V:List (Nat×Nat)}(γ:μ w B eA 1 p n c (dE V))(ω:n<=100000)(aE:∀x∈V,gS x):
  pM.C p n c q w (φ λv w'=>v=.slice p (V.filter (lk g)).length c/\μ w' B eA 1 p (V.filter (lk g)).length c (dE (V.filter (lk g)))/\Kp w w' λi=>∃x,p=some x/\x.block=i):=by
 have ar:V.length=n:=by have:=γ.1;rw[zg,eG]at this;exact this
 apply pM.ok;unfold pM.main;refine κ.use (aiZ ti γ.cells ar ω aE) ?_;rintro _ δ ⟨⟨i,rfl,o⟩,aM⟩;obtain rfl:=aM.symm
 try dsimp only[bH]
 rcases o with⟨rfl,dM⟩|⟨j,rfl,χ,dM,n4⟩
 ·rw[cond_pos (by decide)];have bf:V.filter (lk g)=V:=PF.2 λx I=>bC (dM x I);rw[bf,ar];exact φ.mk ⟨rfl,γ,Kp.refl _ _⟩
 rw[cond_neg (by simp)];have jZ:=γ.2.1;obtain⟨b,rfl⟩:=eh.μ.base γ (by omega);unfold pM.bd;have an3:(V.take j).filter (lk g)=V.take j:=PF.2 λx I=>bC (dM x I);refine⟨λcj cb cu t1 t5 t6 w'=>some ⟨b,0,none⟩=cj/\n=cb/\c=cu/\q=t1/\0<=t6/\t6<=n/\t5=((V.take t6.toNat).filter (lk g)).length/\Kp w w' (λi=>i=b)/\∃gs:aU,((V.take t6.toNat).filter (lk g)).length+gs.length=t6.toNat/\μ w' B eA 1 (some ⟨b,0,none⟩) n c (dE ((V.take t6.toNat).filter (lk g))++(gs++dE (V.drop t6.toNat))),
  λ_ _ _ _ _ t6 _=>(n-t6).toNat,?_,?_⟩
 ·rw[b3 (x:=(j:Int)+1) (by omega) (by omega)];have e3:j<V.length:=by omega
  have aM:((j:Int)+1).toNat=j+1:=by omega
  dsimp only;rw[aM];have Ky:lk g V[j]=false:=iJ (n4 _ (List.getElem?_eq_getElem e3));have Ew:(V.take (j+1)).filter (lk g)=V.take j:=by rw[lq e3,Cw,an3];simp[Ky]
  rw[Ew];have an:(V.take j).length=j:=by rw[gY];omega
  refine⟨rfl,rfl,rfl,rfl,by omega,by omega,by omega,Kp.refl _ _,[dT (some V[j])],by rw[an];rfl,?_⟩
  have:dE (V.take j)++([dT (some V[j])]++dE (V.drop (j+1)))=dE V:=by
   have η:[dT (some V[j])]++dE (V.drop (j+1))=dE (V.drop j):=by rw[Ij e3];rfl
   rw[η,adL,zm]
  rw[this];exact γ
 ·rintro _ _ _ _ _ t6 w' ⟨rfl,rfl,rfl,rfl,aF,h1,rfl,hk,gs,Ex,hd⟩;unfold pM.ε;obtain⟨i,rfl⟩:=eR aF;rw[cP]at Ex hd⊢;have tb:∀i,i=b->Typed w eA i:=λi o=>o▸(γ.typed rfl).1;have ark:=ti.cI hk eA tb (by decide);have vZ:(dE ((V.take i).filter (lk g))).length=((V.take i).filter (lk g)).length:=zg _;refine bA (λo=>?_) λo=>?_
  ·have o:=cd o;have lg:i<V.length:=by omega
   have ae:dE (V.drop i)=dT (some V[i])::dE (V.drop (i+1)):=by rw[Ij lg];rfl
   rw[ae]at hd;have qU:(dE ((V.take i).filter (lk g))++(gs++dT (some V[i])::dE (V.drop (i+1))))[i]?=some (dT (some V[i])):=by rw[List.getElem?_append_right (by omega),List.getElem?_append_right (by omega),show i-(dE ((V.take i).filter (lk g))).length-gs.length=0 by omega];rfl
   refine aW (by omega) (aW (by omega) ?_)
   try dsimp only[bj]
   rw[cP,eG,dF];refine⟨eI (some V[i]),eQ (some V[i]),hd.at qU,?_⟩;refine κ.use (ZY ark (aE _ (hN lg))) ?_;rintro _ aa ⟨rfl,gw⟩;obtain rfl:=gw.symm
   try dsimp only[dH]
   rw[b3 (x:=(i:Int)+1) (by omega) (by omega)];have aM:((i:Int)+1).toNat=i+1:=by omega
   have qh:(V.take (i+1)).filter (lk g)=(V.take i).filter (lk g)++if lk g V[i]then[V[i]]else[]:=by
    rw[lq lg,Cw];congr 1;by_cases ω:lk g V[i]=true
    ·simp[ω]
    ·simp[ω]
   by_cases dg:(V[i].1:Int)=g
   ·have T0:lk g V[i]=true:=bC dg;rw[T0,aY rfl]at qh;rw[show((V[i].1:Int)!=g)=false by simp[dg],zk,sa];refine aW (by omega) (aW (by omega) ?_);rw[eG,dF];refine hd.dj (j:=((V.take i).filter (lk g)).length) (v:=dT (some V[i])) (by omega) rfl λaG ea cz=>?_;rw[<-vZ,atj]at cz;rw[b3 (x:=(((V.take i).filter (lk g)).length:Int)+1) (by omega) (by omega)];refine⟨⟨rfl,rfl,rfl,rfl,by omega,by omega,?_,hk.gr ea,(gs++[dT (some V[i])]).tail,?_,?_⟩,by((try dsimp only);omega)⟩
    ·rw[aM,qh,e9];rfl
    ·rw[aM,qh,e9,FG,e9];simp;omega
    ·rw[aM,qh,<-adL];exact cz
   ·have T0:lk g V[i]=false:=iJ dg;rw[T0,aN (by decide),pI]at qh;rw[show((V[i].1:Int)!=g)=true by simp[dg],u1,wE];refine⟨⟨rfl,rfl,rfl,rfl,by omega,by omega,?_,hk,gs++[dT (some V[i])],?_,?_⟩,by((try dsimp only);omega)⟩
    ·rw[aM,qh]
    ·rw[aM,qh,e9];simp;omega
    ·rw[aM,qh,mc];exact hd
  ·have o:=dh o;obtain rfl:i=n:=by omega
   rw[hr (by omega)]at hd Ex vZ⊢;rw[List.drop_of_length_le (by omega)]at hd;generalize ke:V.filter (lk g)=F at hd Ex vZ⊢;unfold pM.aZ;refine aW (by omega) (aW (by omega) ?_);rw[cP];have fin:∀W,Kp w W (λi=>i=b)->μ W B eA 1 (some ⟨b,0,none⟩) F.length c (dE F)->ο (decide (0<=(F.length:Int))) (ο (decide ((F.length:Int)<=((c:Nat):Int))) (φ (λv w'=>v=.slice (some ⟨b,0,none⟩) F.length c/\μ w' B eA 1 (some ⟨b,0,none⟩) F.length c (dE F)/\Kp w w' λi=>∃x,some (⟨b,0,none⟩:Addr)=some x/\x.block=i) (.returned (.slice (dA (some ⟨b,0,none⟩) c 0 1) F.length c)) W)):=by intro W apN AM;refine aW (by omega) (aW (by omega) ?_);rw[IL];exact φ.mk ⟨rfl,AM,apN.mono λi _ o=>⟨_,rfl,o.symm⟩⟩
   have cut:∀{W:World}{xs:aU},μ W B eA 1 (some ⟨b,0,none⟩) i c xs->xs.take F.length=dE F->μ W B eA 1 (some ⟨b,0,none⟩) F.length c (dE F):=by
    intro W xs AM I
    have:=AM.less (k:=F.length) (by omega)
    rw[eG,I]at this;exact this
   by_cases bL:i=F.length
   ·refine .inl ⟨.inr (by omega),fin w' hk (cut hd ?_)⟩;rw[<-vZ,PG]
   ·refine .inr ⟨⟨b,F.length,none⟩,?_,by omega,?_⟩
    ·unfold dA;rw[aN (by omega),eG,jd,dF]
    ·have aI:(Builtin.zeroCells #[Value.complex .f64 0 0] (i-F.length)).toList.length=i-F.length:=by
      rw[k0,size_zeroCells];simp
     have key:=eh.μ.putAt hd F.length (Builtin.zeroCells #[Value.complex .f64 0 0] (i-F.length)).toList (by omega) (awL _) (N:=λba=>ο (decide (0<=(F.length:Int))) (ο (decide ((F.length:Int)<=((c:Nat):Int))) (φ (λv w'=>v=.slice (some ⟨b,0,none⟩) F.length c/\μ w' B eA 1 (some ⟨b,0,none⟩) F.length c (dE F)/\Kp w w' λi=>∃x,some (⟨b,0,none⟩:Addr)=some x/\x.block=i) (.returned (.slice (dA (some ⟨b,0,none⟩) c 0 1) F.length c)) ba))) λba dP bS=>fin ba (hk.gr dP) (cut bS ?_)
     ·rw[dF]at key;exact key
     ·rw[<-vZ,PG,mc,PG]
theorem aiX{w:World}{R:bW}{ps:aU}(h:ie w R ps){s k:Int}(hw:Db s k R)(π:(gB (used R)).length<=4096){g:Nat}(bL:(g:Int)<s):
  DJ.C (bN R ps).toArray s k (g:Int) w (φ λv w'=>∃p c,v=.tuple #[.slice p ((lays (used R)).filter (lk g)).length c,.int .i64 0]/\θ w w'/\μ w' w.heap.size eA 1 p ((lays (used R)).filter (lk g)).length c (dE ((lays (used R)).filter (lk g)))):=by
 apply DJ.ok;unfold DJ.main;rintro ε δ eb rfl ι υ ee rfl aH aa jc rfl;have ρ:=μ.new (w:=w) (bN R ps) bX;rw[<-eb,h.dX]at ρ;have ζ:=θ.alloc w (.cells (bN R ps).toArray bX);generalize w.alloc (.cells (bN R ps).toArray bX)=δ at ρ ζ ee jc⊢;have az:=μ.new (w:=δ) (two s k) b5;rw[<-ee]at az;have τ:=θ.alloc δ (.cells (two s k).toArray b5);have bz:δ.alloc (.cells #[.int .i64 s,.int .i64 k] b5)=δ.alloc (.cells (two s k).toArray b5):=rfl;rw[bz]at jc⊢;generalize δ.alloc (.cells (two s k).toArray b5)=υ at az τ jc⊢;have bu:=μ.new (w:=υ) [.int .i64 (g:Int)] ck;rw[<-jc]at bu;have ab:=θ.alloc υ (.cells #[.int .i64 (g:Int)] ck);generalize υ.alloc (.cells #[.int .i64 (g:Int)] ck)=aa at bu ab⊢;have hS:=ζ.trans (τ.trans ab);have ρ:=ρ.ex (τ.trans ab);have az:=az.ex ab;refine⟨(bN R ps).toArray,by simp[h.dX],ρ.cells,(two s k).toArray,rfl,az.cells,?_⟩;refine κ.use (RI (h.ex hS) s k) ?_;rintro _ ax ⟨⟨e,rfl,he⟩,aA⟩
 try dsimp only[bH]
 obtain rfl:e=0:=he.2 hw;rw[cond_neg (by rfl)];have bu:=bu.ex aA;refine⟨_,bu.at (j:=0) rfl,?_⟩;rw[iM (by omega)];refine⟨_,bu.at (j:=0) rfl,s,(az.ex aA).at (j:=0) rfl,?_⟩;rw[iM (by omega)];refine⟨(bN R ps).toArray,by simp[h.dX],(ρ.ex aA).cells,?_⟩;have ju:=hS.trans aA;refine κ.use (X4 (h.ex ju) hw.2.1 π) ?_;rintro _ ba ⟨q,d,fO,br,c2,rfl,aJ,bS⟩
 try dsimp only[bZ,cC,cD,mY,bj,bH,er]
 have n0:=λx=>HX (x:=x) (rj h.ok);have hlen:(lays (used R)).length<=4096:=by rw[<-KW λx=>kt (used R) x,HQ (λx I=>rj h.ok x ((kt _ _).1 I)) (xR _)];exact π
 refine κ.use (aiI (bu.ex aJ) bS (by omega) λx I=>rj h.ok x ((n0 x).1 I)) ?_;rintro _ b9 ⟨rfl,ff,fN⟩
 try dsimp only[er]
 have kB:=ju.trans aJ;exact φ.mk ⟨q,d,rfl,kB.then fN λi⟨x,I,o⟩=>by have:=(bS.ge I).1;have:=ju.size;omega,ff.lower ju.size⟩
end Go.Proofs.YtcpdfhkhaekekaaGreat.G.cr
namespace Go.Proofs.YtcpdfhkhaekekaaGreat.G.eh
open Go.bI Go.RowKit cr
theorem Hb{w δ:World}{B b4:Nat}{R:bW}(h:kn w B b4 R)(I:θ w δ)(v:Int){N:Nat->ai}
  (K:∀b W,θ w W->μ W w.heap.size jq 2 (some ⟨b,0,none⟩) 1 1 (two (iu R v).1 (iu R v).2.1)->N b W):
  aR δ #[(Value.int .i64 0),(Value.int .i64 0)] jq λε aa=>ο (decide ((two (iu R v).1 (iu R v).2.1).toArray.size=2)) (
   hG aa (⟨ε,0,none⟩:Addr) (two (iu R v).1 (iu R v).2.1).toArray.toList/\∀ax,ax=aa.setCells (⟨ε,0,none⟩:Addr).block (⟨ε,0,none⟩:Addr).off (two (iu R v).1 (iu R v).2.1).toArray.toList->N ε ax):=by
 rintro ε aa rfl rfl;have ρ:=μ.new (w:=δ) (two 0 0) jq;have ζ:=θ.alloc δ (.cells (two 0 0).toArray jq);have aM:δ.alloc (.cells #[.int .i64 0,.int .i64 0] jq)=δ.alloc (.cells (two 0 0).toArray jq):=rfl;rw[aM];generalize δ.alloc (.cells (two 0 0).toArray jq)=aa at ρ ζ⊢;have ψ:=I.size;refine aW rfl (ρ.put (cs:=two (iu R v).1 (iu R v).2.1) rfl nm λax cp cm=>?_);exact K _ ax ((I.trans ζ).then cp λi o=>by omega) (cm.lower ψ)
theorem nR.Vw{w w' υ:World}{B b4:Nat}{R:bW}(x:θ w w')(h:nR w' B b4 R υ):nR w B b4 R υ:=⟨h.1,(x.aC _).gr h.2⟩
theorem aiA{w:World}{B b4:Nat}{R:bW}(h:kn w B b4 R){s:Int}(ψ:¬(1<=s/\s<=32)):zp.C (some ⟨b4,0,none⟩) s w (φ λv w'=>v=.tuple #[.int .i64 0,.int .i64 5]/\θ w w'):=by
 apply zp.ok;unfold zp.main;rw[cond_neg (by rfl)];refine κ.use (ajd ψ w) ?_;rintro _ δ ⟨rfl,aM⟩;obtain rfl:=aM.symm
 try dsimp only[bj,bZ,cC,cD,bH,mX]
 rw[cond_pos (by rfl)];exact φ.mk ⟨rfl,θ.refl _⟩
theorem aiB{w:World}{B b4:Nat}{R:bW}(h:kn w B b4 R){s:Int}(ψ:1<=s/\s<=32):zp.C (some ⟨b4,0,none⟩) s w (φ λv w'=>match ly R with
  |none=>v=.tuple #[.int .i64 0,.int .i64 7]/\θ w w'
  |some i=>v=.tuple #[.int .i64 (i:Int),.int .i64 0]/\nR w B b4 (R.set i (1,s,List.replicate s.toNat none)) w'):=by
 obtain⟨n,rfl⟩:=eR (show 0<=s by omega);apply zp.ok;unfold zp.main;rw[cond_neg (by rfl)];refine κ.use (zS (n:=n) (by omega) w) ?_;rintro _ δ ⟨hM,rfl,ζ,aO⟩
 try dsimp only[bj,bZ,cC,cD,bH,mX]
 rw[cond_neg (by rfl)];refine κ.use (aeH (h.ex ζ)) ?_;rintro _ aa ⟨rfl,ab⟩
 try dsimp only[bZ,cC,cD,bj,bH]
 have gV:=ζ.trans ab;cases mF:ly R with
 |none=>
  rw[cond_neg (by rfl)];exact φ.mk ⟨rfl,gV⟩
 |some i=>
  rw[cond_pos (by rfl)]
  try dsimp only
  have X:=gV.trans (θ.drew aa);obtain⟨fR,h⟩:=h.ex X;have o:=(P9 h.len mF).1;refine aW (by dsimp only[Option.getD];omega) (aW (by dsimp only[Option.getD];omega) ?_);have aM:(((some i).getD 0:Nat):Int).toNat=i:=cP i;rw[aM];simp only[dF];have en:vC aa.drew hM (1,(n:Int),List.replicate n none):=.inr ⟨n,_,(aO.ex ab).ex (θ.drew aa),(by show List.replicate n none=_;rw[PU,show min n (8*((n+7)/8))=n by omega]),rfl⟩;have key:=h.kb o (1,(n:Int),List.replicate n none) (tp:=hM) en (N:=λw'=>φ (λv w'=>v=.tuple #[.int .i64 (i:Int),.int .i64 0]/\nR w B b4 (R.set i (1,(n:Int),List.replicate (n:Int).toNat none)) w') (.returned (.tuple #[.int .i64 (i:Int),.int .i64 0])) w') λw' aP=>φ.mk ⟨rfl,nR.Vw X aP⟩;rw[dF]at key;refine⟨key.1,λaG OK=>?_⟩;refine aW (by dsimp only[Option.getD];omega) (aW (by dsimp only[Option.getD];omega) ?_);have η:=key.2 aG OK;have bz:(⟨b4,16,none⟩:Addr).add (i*1)=⟨b4,16+i,none⟩:=by rw[<-dF b4 16,add_add,dF,eG]
  rw[bz];exact η
theorem ajC{w:World}{B b4:Nat}{R:bW}(h:kn w B b4 R)(v:Int):FW.C (some ⟨b4,0,none⟩) v w (φ λu w'=>match gd R v with
  |none=>u=.tuple #[.int .i64 0,.int .i64 4]/\θ w w'
  |some e=>(match ly R with
   |none=>u=.tuple #[.int .i64 0,.int .i64 7]/\θ w w'
   |some i=>u=.tuple #[.int .i64 (i:Int),.int .i64 0]/\nR w B b4 (R.set i (2,e.2.1,e.2.2)) w')):=by
 apply FW.ok;unfold FW.main;refine κ.use (Bm h v) ?_;rintro _ δ ⟨rfl,ζ⟩
 try dsimp only[bj,bZ,cC,cD,bH,hz,iG]
 refine Hb h ζ v λε ax aA cm=>?_;have jL:=@Ah R v;unfold iu at cm⊢;cases he:gd R v with
 |none=>
  try dsimp only
  rw[cond_pos (by rfl)];exact φ.mk ⟨rfl,aA⟩
 |some e=>
  rw[he]at cm
  try dsimp only
  rw[cond_neg (by rfl)];obtain⟨v0,bg,σ,hk⟩:=jL he;obtain⟨k,rfl⟩:=eR v0;rw[cP]at σ;refine κ.use (aeH (h.ex aA)) ?_;rintro _ aG ⟨rfl,al⟩
  try dsimp only[bZ,cC,cD,bj,bH]
  have Ja:=aA.trans al;cases mF:ly R with
  |none=>
   rw[cond_neg (by rfl)];exact φ.mk ⟨rfl,Ja⟩
  |some i=>
   rw[cond_pos (by rfl)]
   try dsimp only
   have eH:=θ.drew aG;have X:=Ja.trans eH;obtain⟨fR,h⟩:=h.ex X;obtain⟨c6,tp,dO,kE⟩:=h.IY (k:=k) (by omega);rw[σ]at dO;cases dO;have o:=(P9 h.len mF).1;have bz:∀j,(⟨b4,16,none⟩:Addr).add (j*1)=⟨b4,16+j,none⟩:=λj=>by rw[<-dF b4 16,add_add,dF,eG]
   refine⟨e.2.1,((cm.ex al).ex eH).at (j:=1) rfl,?_⟩;simp only[dF,cP,bz];refine aW (by omega) (aW (by omega) ⟨tp,h.γ.at (h.IW kE),?_⟩);refine aW (by dsimp only[Option.getD];omega) (aW (by dsimp only[Option.getD];omega) ?_);have key:=h.kb o (2,e.2.1,e.2.2) (tp:=tp) (by
    rcases h.tb k e tp σ kE with⟨h1,η⟩|⟨n,L,h1,η⟩
    ·exact .inl ⟨h1,η⟩
    ·exact .inr ⟨n,L,h1,η⟩) (N:=λw'=>φ (λv w'=>v=.tuple #[.int .i64 (i:Int),.int .i64 0]/\nR w B b4 (R.set i (2,e.2.1,e.2.2)) w') (.returned (.tuple #[.int .i64 (i:Int),.int .i64 0])) w') λw' aP=>φ.mk ⟨rfl,nR.Vw X aP⟩
   rw[dF]at key;refine⟨key.1,λbk aps=>?_⟩;refine aW (by dsimp only[Option.getD];omega) (aW (by dsimp only[Option.getD];omega) ?_);exact key.2 bk aps
theorem aiJ{w:World}{B b4:Nat}{R:bW}(h:kn w B b4 R)(v:Int):FT.C (some ⟨b4,0,none⟩) v w (φ λu w'=>match gd R v with
  |none=>u=.int .i64 4/\θ w w'
  |some e=>u=.int .i64 0/\nR w B b4 (R.set v.toNat (0,0,[])) w'):=by
 apply FT.ok;unfold FT.main;refine κ.use (Bm h v) ?_;rintro _ δ ⟨rfl,ζ⟩
 try dsimp only[bj,bZ,cC,cD,bH,hz,iG]
 refine Hb h ζ v λε ax aA cm=>?_;have jL:=@Ah R v;unfold iu at cm⊢;cases he:gd R v with
 |none=>
  try dsimp only
  rw[cond_neg (by rfl)];exact φ.mk ⟨rfl,aA⟩
 |some e=>
  try dsimp only
  rw[cond_pos (by rfl)];obtain⟨v0,bg,σ,hk⟩:=jL he;obtain⟨k,rfl⟩:=eR v0
  skip
  have X:=aA.trans (θ.drew ax);obtain⟨fR,h⟩:=h.ex X;have bz:∀j,(⟨b4,16,none⟩:Addr).add (j*1)=⟨b4,16+j,none⟩:=λj=>by rw[<-dF b4 16,add_add,dF,eG]
  simp only[dF,cP,bz];refine aW (by omega) (aW (by omega) ?_);have key:=h.kb (i:=k) (by omega) (0,0,[]) (tp:=none) (.inl ⟨rfl,rfl⟩) (N:=λw'=>φ (λv w'=>v=.int .i64 0/\nR w B b4 (R.set k (0,0,[])) w') (.returned (.int .i64 0)) w') λw' aP=>φ.mk ⟨rfl,nR.Vw X aP⟩;rw[dF]at key;refine⟨key.1,λaG OK=>aW (by omega) (aW (by omega) (key.2 aG OK))⟩
def S7(R:bW)(v j:Int):Value:=match gd R v with
 |none=>.tuple #[.complex .f64 0 0,.bool false,.int .i64 4]
 |some e=>if 0<=j/\j<e.2.1 then Hi (e.2.2.getD j.toNat none)else .tuple #[.complex .f64 0 0,.bool false,.int .i64 5]
theorem at2{L:List eg}{n j:Nat}(h:j<n):(L.take n).getD j none=L.getD j none:=by rw[List.getD_eq_getElem?_getD,List.getD_eq_getElem?_getD,List.getElem?_take_of_lt h]
theorem aiW{w:World}{B b4:Nat}{R:bW}(h:kn w B b4 R)(ψ:lE R)(v j:Int):FV.C (some ⟨b4,0,none⟩) v j w (φ λu w'=>u=S7 R v j/\θ w w'):=by
 apply FV.ok;unfold FV.main;refine κ.use (Bm h v) ?_;rintro _ δ ⟨rfl,ζ⟩
 try dsimp only[bj,bZ,cC,cD,bH,hz,iG]
 refine Hb h ζ v λε ax aA cm=>?_;have jL:=@Ah R v;unfold iu S7 at*;cases he:gd R v with
 |none=>
  try dsimp only
  rw[cond_pos (by rfl)];exact φ.mk ⟨rfl,aA⟩
 |some e=>
  try dsimp only
  rw[cond_neg (by rfl)];obtain⟨v0,bg,σ,hk⟩:=jL he;obtain⟨k,rfl⟩:=eR v0;rw[cP]at σ;obtain⟨fR,h⟩:=h.ex aA;obtain⟨c6,tp,dO,kE⟩:=h.IY (k:=k) (by omega);rw[σ]at dO;cases dO;have bz:∀j,(⟨b4,16,none⟩:Addr).add (j*1)=⟨b4,16+j,none⟩:=λj=>by rw[<-dF b4 16,add_add,dF,eG]
  simp only[dF,cP,bz];refine aW (by omega) (aW (by omega) ⟨tp,h.γ.at (h.IW kE),?_⟩);have ed:=ψ e (eS σ);obtain⟨s1,s2,pK,si⟩:=ed;have si:=si hk;rcases h.tb k e tp σ kE with⟨h1,η⟩|⟨n,L,h1,η,au⟩
  ·rw[η]at s1;simp at s1;omega
  ·refine κ.use (Bo h1 j) ?_;rintro _ aG ⟨rfl,ig⟩;obtain rfl:=ig.symm;rw[au,η];by_cases χ:0<=j/\j<n
   ·rw[aY χ,aY χ,at2 (by omega)];cases L.getD j.toNat none with
    |none=>unfold Hi;try dsimp only[bZ,cC,cD,mY,bj,bH,dH,rH];exact φ.mk ⟨rfl,aA⟩
    |some x=>unfold Hi dT;try dsimp only[bZ,cC,cD,mY,bj,bH,dH,rH];exact φ.mk ⟨rfl,aA⟩
   ·rw[aN χ,aN χ]
    try dsimp only[bZ,cC,cD,mY,bj,bH,dH,rH]
    exact φ.mk ⟨rfl,aA⟩
def A2(R:bW)(v j:Int):Int:=match gd R v with
 |none=>4
 |some e=>if e.1=2 then 8 else if 0<=j/\j<e.2.1 then 0 else 5
theorem ajA{w0 w:World}{B b4:Nat}{R:bW}(h:kn w B b4 R)(I:θ w0 w)(ψ:lE R){k j:Nat}{e:fL}(hk:k<8)(he:R[k]?=some e)(aF:e.1≠0)(χ:(j:Int)<e.2.1)(q:eg)(ay:ki q){r m:Nat}(σ:∀x,q=some x->r=eI (some x)/\m=eQ (some x)){Z:Value->ai}(dx:∀w',nR w0 B b4 (jD R k j q) w'->Z (.int .i64 0) w'):
  pe.bP (some ⟨b4,0,none⟩) (k:Int) (j:Int) r m q.isSome w (φ Z):=by
 unfold pe.bP
 try dsimp only[bj]
 obtain⟨fR,h⟩:=h;obtain⟨c6,tp,dO,kE⟩:=h.IY (k:=k) (by omega);rw[he]at dO;cases dO;have bz:∀j,(⟨b4,16,none⟩:Addr).add (j*1)=⟨b4,16+j,none⟩:=λj=>by rw[<-dF b4 16,add_add,dF,eG]
 simp only[dF,cP,bz];refine aW (by omega) (aW (by omega) ⟨tp,h.γ.at (h.IW kE),?_⟩);obtain⟨s1,s2,pK,si⟩:=ψ e (eS he);have si:=si aF;rcases h.tb k e tp he kE with⟨h1,η⟩|⟨n,L,h1,η,au⟩
 ·rw[η]at s1;simp at s1;omega
 have lM:jD R k j q=R.set k (e.1,e.2.1,e.2.2.set j q):=by unfold jD;rw[he]
 have fin:∀W nf,θ w W->TabIs W nf n (L.set j q)->(W.cell? (⟨b4,16+k,none⟩:Addr)).isSome=true/\W.frozen? (⟨b4,16+k,none⟩:Addr)=false/\∀aa,aa=W.setCell (⟨b4,16+k,none⟩:Addr) (.pointer nf)->φ Z (.returned (.int .i64 0)) aa:=by
  intro W nf vq en;have jX:=h.ex vq;refine jX.γ.dj (j:=16+k) (by omega) rfl λaa b7 bu=>?_;rw[LX jX.len,<-q6]at bu;have y3:∀j,j=b4->¬sE W j:=λj χ=>Wg (χ▸(jX.γ.typed rfl).1);have abj:kinds (R.set k (e.1,e.2.1,e.2.2.set j q))=kinds R:=by
   have:=Wy (qs:=[]) h.len hk e.1 e.2.1 (e.2.2.set j q)
   have π:=(h.jL he).2.2;rw[pI,pI]at this;have Tf:=o0 h.len;rw[CB (by omega),pb (by rw[kI];omega)]at π;rw[<-this,<-π];have fm:(((kinds R).drop (k*2)).take 2).length=2:=by rw[gY,kI];omega
   rw[fm,<-PB,mc,zm,zm]
  refine φ.mk (dx _ ⟨⟨fR.set k nf,?_,?_,by rw[jB];exact h.j1,λi c6 WR dO kE=>?_⟩,((I.trans vq).aC _).gr b7⟩)
  ·rw[lM,abj];exact bu
  ·rw[lM,jB];exact h.len
  ·rw[lM,List.getElem?_set]at dO;rw[List.getElem?_set]at kE;by_cases qd:k=i
   ·rw[aY qd,aY (by rw[h.len];omega)]at dO;rw[aY qd,aY (by rw[h.j1];omega)]at kE;cases dO;cases kE;exact vC.aC (.inr ⟨n,L.set j q,en,by rw[η,List.take_set],au⟩) b7 y3
   ·rw[aN qd]at dO kE;exact(jX.tb i c6 WR dO kE).aC b7 y3
 cases q with
 |some x=>
  obtain⟨rfl,rfl⟩:=σ x rfl;rw[cond_pos (by rfl)];refine κ.use (Jp h1 (j:=j) (by omega) (x:=x) ay) ?_;rintro _ bk ⟨nf,rfl,aV,en⟩
  try dsimp only[bZ,cC,cD,bj,bH,mX]
  refine aW (by omega) (aW (by omega) ?_);exact fin bk nf aV en
 |none=>
  rw[cond_neg (by rfl)];refine κ.use (aiN h1 (j:=j) (by omega)) ?_;rintro _ bk ⟨nf,rfl,aV,en⟩
  try dsimp only[bZ,cC,cD,bj,bH,mX]
  refine aW (by omega) (aW (by omega) ?_);exact fin bk nf aV en
theorem Yb{w:World}{B b4:Nat}{R:bW}(h:kn w B b4 R)(ψ:lE R)(v j:Int)(q:eg)(ay:ki q){r m:Nat}(σ:∀x,q=some x->r=eI (some x)/\m=eQ (some x)):
  pe.C (some ⟨b4,0,none⟩) v j r m q.isSome w (φ λu w'=>u=.int .i64 (A2 R v j)/\(A2 R v j≠0->θ w w')/\(A2 R v j=0->nR w B b4 (jD R v.toNat j.toNat q) w')):=by
 apply pe.ok;unfold pe.main;refine κ.use (Bm h v) ?_;rintro _ δ ⟨rfl,ζ⟩
 try dsimp only[bZ,cC,cD,bj,bH,hz,iG]
 refine Hb h ζ v λε ax aA cm=>?_;have jL:=@Ah R v;unfold iu A2 at*;cases he:gd R v with
 |none=>
  try dsimp only
  rw[cond_pos (by rfl)];exact φ.mk ⟨rfl,λ_=>aA,λh=>by cases h⟩
 |some e=>
  rw[he]at cm
  try dsimp only
  rw[cond_neg (by rfl)];obtain⟨v0,bg,eP,hk⟩:=jL he;obtain⟨k,rfl⟩:=eR v0;rw[cP]at eP⊢;refine⟨e.1,cm.at (j:=0) rfl,bA (λη=>?_) λη=>?_⟩
  ·have η:e.1=2:=by simpa using η
   rw[aY η];exact φ.mk ⟨rfl,λ_=>aA,λh=>by cases h⟩
  have η:e.1≠2:=by simpa using η
  rw[aN η];refine bA (λχ=>?_) λχ=>?_
  ·have χ:=cd χ;rw[aN (by omega)];unfold pe.aZ
   try dsimp only[BM]
   exact φ.mk ⟨rfl,λ_=>aA,λh=>by cases h⟩
  have χ:=dh χ;obtain⟨i,rfl⟩:=eR (show 0<=j by omega);refine⟨e.2.1,cm.at (j:=1) rfl,?_⟩;unfold pe.aZ;refine bA (λo=>?_) λo=>?_
  ·have o:=cd o;rw[aN (by omega)];exact φ.mk ⟨rfl,λ_=>aA,λh=>by cases h⟩
  have o:=dh o;rw[aY (by omega),cP];have wrap:=λW(vq:θ w W)=>ajA (w0:=w) (h.ex vq) vq ψ (by omega) eP hk (j:=i) (by omega) q ay σ (Z:=λu w'=>u=.int .i64 0/\((0:Int)≠0->θ w w')/\((0:Int)=0->nR w B b4 (jD R k i q) w')) λw' aP=>⟨rfl,λh=>absurd rfl h,λ_=>aP⟩;have aI:(λ(u:Value)w'=>u=.int .i64 0/\((0:Int)≠0->θ w w')/\((0:Int)=0->nR w B b4 (jD R k i q) w'))=λu w'=>u=.int .i64 0/\((0:Int)≠0->θ w w')/\((0:Int)=0->nR w B b4 (jD R k i q) w'):=rfl;generalize(λ(u:Value)w'=>u=.int .i64 0/\((0:Int)≠0->θ w w')/\((0:Int)=0->nR w B b4 (jD R k i q) w'))=Z at wrap aI⊢;clear aI;generalize ω:q.isSome=b at wrap⊢;cases b with
  |false=>rw[wE];exact wrap _ aA
  |true=>
   rw[sa];obtain⟨x,rfl⟩:=Ip.1 ω;obtain⟨rfl,rfl⟩:=σ x rfl;refine κ.use (zX (some x) ay _) ?_;rintro _ aG ⟨rfl,ig⟩;obtain rfl:=ig.symm;rw[ω]
   try dsimp only[dH]
   exact wrap _ aA
theorem A3{w w0:World}(I:θ w0 w){N:Nat->ai}(K:∀b W,w0.heap.size<=b->w.heap.size=b->θ w W->θ w0 W->μ W b bX 24 (some ⟨b,0,none⟩) 1 1 hA->N b W):aR w hA.toArray bX N:=by rintro ε δ rfl rfl;have ρ:=μ.new (w:=w) hA bX;have ζ:=θ.alloc w (.cells hA.toArray bX);exact K _ _ I.size rfl ζ (I.trans ζ) ρ
theorem L0{W:World}{nS kA a b:Nat}{cs k5:aU}(oe:μ W nS bX 24 (some ⟨a,0,none⟩) 1 1 cs)(ho:μ W kA bX 24 (some ⟨b,0,none⟩) 1 1 k5)(h1:∀z∈cs,z.oneCell'=true){N:ah->ai}(K:∀w',Kp W w' (λi=>i=b)->N cs.toArray w'):
  ∃(cN:ah),cN.size=24/\aw W (⟨a,0,none⟩:Addr) cN.toList/\(ο (decide (cN.size=24)) (
   hG W (⟨b,0,none⟩:Addr) cN.toList/\∀b9,b9=W.setCells (⟨b,0,none⟩:Addr).block (⟨b,0,none⟩:Addr).off cN.toList->(∃(dU:ah),dU.size=24/\aw b9 (⟨b,0,none⟩:Addr) dU.toList/\N dU b9))):=by
 have an:cs.length=24:=oe.1;refine⟨cs.toArray,by simp[an],oe.cells,aW (by simp[an]) (ho.put (cs:=cs) an h1 λυ bP az=>⟨cs.toArray,by simp[an],az.cells,K υ bP⟩)⟩
structure Rows(w:World)(R:bW)(i:Nat)(ps:aU):Prop where
 len:ps.length=8
 one:∀z∈ps,z.oneCell'=true
 row:∀(k:Nat)(e:fL),k<i->R[k]?=some e->∃(p:J)(c:Nat),ps[k]?=some (Value.slice p e.2.2.length c)/\μ w 0 eA 1 p e.2.2.length c (e.2.2.map dT)
theorem Rows.cI{w w':World}{R:bW}{i:Nat}{ps:aU}(h:Rows w R i ps){S:a1}(k:Kp w w' S)(f:TypeId)(ψ:∀i,S i->Typed w f i)(cc:eA≠f):Rows w' R i ps:=
 ⟨h.len,h.one,λj e χ he=>by obtain⟨p,c,h1,η⟩:=h.row j e χ he;exact⟨p,c,h1,η.cI k f ψ cc⟩⟩
theorem Rows.ex{w w':World}{R:bW}{i:Nat}{ps:aU}(h:Rows w R i ps)(k:θ w w'):Rows w' R i ps:=h.cI k ck (λ_ h=>h.elim) (by decide)
theorem Rows.set{w:World}{R:bW}{i:Nat}{ps:aU}(h:Rows w R i ps)(o:i<8){e:fL}(he:R[i]?=some e){p:J}{c:Nat}(γ:μ w 0 eA 1 p e.2.2.length c (e.2.2.map dT)):Rows w R (i+1) (ps.set i (.slice p e.2.2.length c)):=by
 refine⟨by rw[jB];exact h.len,λz aI=>?_,λk c6 hk dO=>?_⟩
 ·rcases pH aI with aI|rfl
  ·exact h.one z aI
  ·rfl
 ·rw[List.getElem?_set];by_cases qd:i=k
  ·subst qd;rw[he]at dO;cases dO;rw[aY rfl,aY (by rw[h.len];exact o)];exact⟨p,c,rfl,γ⟩
  ·rw[aN qd];exact h.row k c6 (by omega) dO
theorem Rows.L2{w:World}{R:bW}{ps:aU}(h:Rows w R 8 ps)(dr:R.length=8)(ok:∀e∈R,lN e):fy w R ps:=
 ⟨dr,h.len,λk e he=>h.row k e (by have:=(List.getElem?_eq_some_iff.1 he).1;omega) he,ok⟩
theorem zZ(b j:Nat):(⟨b,16,none⟩:Addr).add (j*1)=⟨b,16+j,none⟩:=by rw[<-dF b 16,add_add,dF,eG]
theorem adk{R:bW}{ps:aU}(h:∀z∈ps,z.oneCell'=true):∀z∈kinds R++ps,z.oneCell'=true:=λz aI=>by
 rcases iI.1 aI with h1|h1
 ·exact OU _ z h1
 ·exact h z h1
theorem ajG{w:World}{B b4:Nat}{R:bW}(h:kn w B b4 R)(ok:∀e∈R,lN e):sh.C (some ⟨b4,0,none⟩) w (φ λv w'=>∃ps,v=.agg (bN R ps).toArray/\fy w' R ps/\θ w w'):=by
 obtain⟨fR,h⟩:=h;have dr:=h.len;apply sh.ok;unfold sh.main;refine A3 (θ.refl w) λε δ eb aM ζ yt ρ=>A3 yt λι υ ee bz τ fM az=>?_;have bQ:=(ρ.ge rfl).2;dsimp only at bQ;have cc:ε≠ι:=by omega
 have ρ:=ρ.ex τ
 try dsimp only[mB,bj,jb]
 have η:=h.ex fM;refine⟨(kinds R).toArray,by simp[o0 dr],?_,aW (by simp[o0 dr]) ?_⟩
 ·have:=a8.take (w:=υ) (a:=some _) η.γ.cells 16
  rw[pb (by rw[o0 dr];exact eF _),hr (by rw[o0 dr];exact eF _)]at this;exact this
 have a0:(⟨ι,0,none⟩:Addr)=(⟨ι,0,none⟩:Addr).add 0:=(Addr.add_zero' _).symm;have key:=μ.putAt az 0 (kinds R) (by rw[o0 dr];omega) (OU R) (N:=λax=>∃(bY:ah),bY.size=8/\aw ax ((⟨b4,0,none⟩:Addr).add 16) bY.toList/\sh.bd ε ι bY 0 ax (φ λv w'=>∃ps,v=.agg (bN R ps).toArray/\fy w' R ps/\θ w w')) λax cp cm=>?_
 ·rw[<-a0]at key;exact key
 have ae:hA.drop (0+(kinds R).length)=List.replicate 8 (Value.slice none 0 0):=by rw[o0 dr];rfl
 rw[FF,r9,ae]at cm;have ju:θ w ax:=fM.then cp λi o=>by omega
 have bV:=h.ex ju;have ρ:=ρ.aC cp λx I o=>by cases I;exact cc o
 refine⟨(fR.map Value.pointer).toArray,by simp[h.j1],?_,?_⟩
 ·have:=aw.drop (w:=ax) bV.γ.cells 16
  rw[CB (by rw[o0 dr];exact eF _),q7 (by rw[o0 dr];exact eF _),r9]at this;exact this
 clear ζ τ yt fM cp bQ aM bz;unfold sh.bd;refine⟨λt2 t3 t17 t18 W=>ε=t2/\ι=t3/\(fR.map Value.pointer).toArray=t17/\0<=t18/\t18<=8/\θ w W/\μ W ε bX 24 (some ⟨ε,0,none⟩) 1 1 hA/\∃ps,μ W ι bX 24 (some ⟨ι,0,none⟩) 1 1 (kinds R++ps)/\Rows W R t18.toNat ps,λ_ _ _ t18 _=>(8-t18).toNat,
  ⟨rfl,rfl,rfl,by omega,by omega,ju,ρ,List.replicate 8 (.slice none 0 0),cm,by simp,λz aI=>by rw[u0 aI];rfl,λk e hk=>by simp at hk⟩,?_⟩
 clear ρ cm ju bV;rintro _ _ _ t18 W ⟨rfl,rfl,rfl,aF,h1,I,ρ,ps,az,σ⟩;unfold sh.ε;obtain⟨k,rfl⟩:=eR aF;rw[cP]at σ;refine bA (λhk=>?_) λhk=>?_
 ·have hk:=cd hk;obtain⟨e,tp,he,aO⟩:=h.IY (k:=k) (by omega);refine aW (by omega) (aW (by omega) (gK (v:=.pointer tp) ?_ ?_))
  ·rw[cP,eG,List.getElem?_toArray,List.getElem?_map,aO];rfl
  try dsimp only[mX]
  have TC:ow.C tp W (φ λv w'=>∃q d,v=.slice q e.2.2.length d/\θ W w'/\μ w' 0 eA 1 q e.2.2.length d (e.2.2.map dT)):=by
   rcases(h.ex I).tb k e tp he aO with⟨aM,bz⟩|⟨n,L,t1,t2,t3⟩
   ·rw[aM,bz];exact(aim W).mono λiT w'⟨v,aL,gw,iS⟩=>⟨v,aL,none,0,gw,by rw[iS];exact θ.refl _,μ.nil _ _ _ _⟩
   ·have an:e.2.2.length=n:=by rw[t2,gY];have:=t1.len;omega
    rw[an,t2];exact(ain t1).mono λiT w'⟨v,aL,q,d,gw,iS,ig⟩=>⟨v,aL,q,d,gw,iS,ig.lower (da _)⟩
  refine κ.use TC ?_;rintro _ aG ⟨q,d,rfl,al,cz⟩
  try dsimp only[er]
  have ρ:=ρ.ex al;have az:=az.ex al;refine aW (by omega) (aW (by omega) ?_);rw[cP,zZ];refine az.dj (j:=16+k) (v:=.slice q e.2.2.length d) (by omega) rfl λbk hK eM=>?_;rw[LX dr]at eM;have gy:∀i,i=ι->Typed aG bX i:=λi o=>o▸(az.typed rfl).1;rw[b3 (x:=(k:Int)+1) (by omega) (by omega)];refine⟨⟨rfl,rfl,rfl,by omega,by omega,(I.trans al).then hK λi o=>by omega,ρ.aC hK λx I o=>by cases I;exact cc o,_,eM,?_⟩,by((try dsimp only);omega)⟩
  have:=(σ.ex al).cI hK bX gy (by decide)
  exact this.set (by omega) he (cz.cI hK bX gy (by decide))
 ·have hk:=dh hk;obtain rfl:k=8:=by omega
  refine L0 az ρ (adk σ.one) λw' kw=>φ.mk ⟨ps,rfl,(σ.L2 dr ok).cI kw bX (λi o=>o▸(ρ.typed rfl).1) (by decide),I.then kw λi o=>by omega⟩
def Sep(B i:Nat)(ps:aU):Prop:=(∀(a:Nat)(p:J)(n c:Nat),a<i->ps[a]?=some (.slice p n c)->∀x,p=some x->B<=x.block)/\∀(a b:Nat)(p:J)(n c:Nat)(bU:J)(fk aT:Nat),a<i->b<i->a≠b->ps[a]?=some (.slice p n c)->ps[b]?=some (.slice bU fk aT)->∀x y,p=some x->bU=some y->x.block≠y.block
theorem XC{w:World}{R:bW}{qs:aU}(h:ie w R qs):rI.C (bN R qs).toArray w (φ λv w'=>∃ps,v=.agg (bN R ps).toArray/\fy w' R ps/\θ w w'/\Sep w.heap.size 8 ps):=by
 have dr:=h.len;apply rI.ok;unfold rI.main;rintro ε δ rfl rfl;have ρ:=μ.new (w:=w) (bN R qs) bX;have ζ:=θ.alloc w (.cells (bN R qs).toArray bX);have bQ:=(ρ.ge rfl).2;have vO:(bN R qs).length=24:=h.dX;rw[vO]at ρ;generalize w.alloc (.cells (bN R qs).toArray bX)=δ at ρ ζ bQ⊢;generalize eb:w.heap.size=ε at ρ bQ⊢;have aaJ:w.heap.size<=ε:=by omega
 refine A3 ζ λι υ ee bz τ fM az=>?_;have ρ:=ρ.ex τ;have cc:ε≠ι:=by dsimp only at bQ;omega
 clear bQ bz ζ τ;unfold rI.bd;refine⟨λt1 t2 t4 W=>ε=t1/\ι=t2/\0<=t4/\t4<=8/\θ w W/\μ W ι bX 24 (some ⟨ι,0,none⟩) 1 1 hA/\∃ps,μ W ε bX 24 (some ⟨ε,0,none⟩) 1 1 (kinds R++ps)/\Rows W R t4.toNat ps/\Sep w.heap.size t4.toNat ps/\∀k,t4.toNat<=k->ps[k]?=qs[k]?,λ_ _ t4 _=>(8-t4).toNat,
  ⟨rfl,rfl,by omega,by omega,fM,az,qs,ρ,⟨h.dE,λz aI=>h.one z (iI.2 (.inr aI)),λk e hk=>by simp at hk⟩,⟨λa p n c aP=>by simp at aP,λa b p n c bU fk aT aP=>by simp at aP⟩,λ_ _=>rfl⟩,?_⟩
 clear ρ az fM;rintro _ _ t4 W ⟨rfl,rfl,aF,h1,I,az,ps,ρ,σ,EM,KF⟩;unfold rI.ε;obtain⟨k,rfl⟩:=eR aF;rw[cP]at σ EM KF;refine bA (λhk=>?_) λhk=>?_
 ·have hk:=cd hk;obtain⟨e,he⟩:=h.get (k:=k) (by omega);obtain⟨p,c,hp,π⟩:=(h.ex I).row k e he;have hlen:e.2.2.length<=1000:=(h.ok e (eS he)).2.1;refine aW (by omega) (aW (by omega) ⟨p,e.2.2.length,c,?_,?_⟩)
  ·rw[cP,zZ];refine ρ.at (j:=16+k) ?_;rw[List.getElem?_append_right (by rw[o0 dr];omega),o0 dr,Iw,KF k (eF _),hp]
  refine κ.use (XA p _ c (e.2.2.map dT) W π (by simp) (by omega) (adK _)) ?_;rintro _ aG ⟨q,d,rfl,al,cz⟩
  try dsimp only[er]
  have ρ:=ρ.ex al;have az:=az.ex al;refine aW (by omega) (aW (by omega) ?_);rw[cP,zZ];refine ρ.dj (j:=16+k) (v:=.slice q e.2.2.length d) (by omega) rfl λbk hK eM=>?_;rw[LX dr]at eM;have gy:∀i,i=ε->Typed aG bX i:=λi o=>o▸(ρ.typed rfl).1;rw[b3 (x:=(k:Int)+1) (by omega) (by omega)];refine⟨⟨rfl,rfl,by omega,by omega,(I.trans al).then hK λi o=>by omega,az.aC hK λx I o=>by cases I;exact cc o.symm,_,eM,?_,?_,λj χ=>?_⟩,by((try dsimp only);omega)⟩
  ·exact((σ.ex al).cI hK bX gy (by decide)).set (by omega) he ((cz.lower (da _)).cI hK bX gy (by decide))
  ·show Sep w.heap.size (k+1) _;have lL:∀a,a<k->∀(bU:J)(fk aT:Nat)x,ps[a]?=some (.slice bU fk aT)->bU=some x->x.block<W.heap.size:=by
    intro a aP bU fk aT x rQ l8;obtain⟨c6,dO⟩:=h.get (k:=a) (by omega);obtain⟨aX,c2,l4,q0⟩:=σ.row a c6 aP dO;rw[rQ]at l4;cases l4;exact(q0.ge l8).2
   refine⟨λa ad aD c1 aP h1 x l8=>?_,?_⟩
   ·rw[List.getElem?_set]at h1;have Ou:k<ps.length:=by rw[σ.len];omega
    by_cases J9:k=a
    ·subst J9;rw[aY rfl,aY Ou]at h1;cases h1;have g1:=(cz.ge l8).1;have g2:=I.size;omega
    ·rw[aN J9]at h1;exact EM.1 a _ _ _ (by omega) h1 x l8
   intro a b ad aD c1 aX br c2 aP ω s0 h1 η x y l8 KO;rw[List.getElem?_set]at h1 η;have Ou:k<ps.length:=by rw[σ.len];omega
   by_cases J9:k=a
   ·subst J9;rw[aY rfl,aY Ou]at h1;rw[aN s0]at η;cases h1;have g1:=(cz.ge l8).1;have g2:=lL b (by omega) _ _ _ _ η KO;omega
   ·rw[aN J9]at h1;by_cases aaU:k=b
    ·subst aaU;rw[aY rfl,aY Ou]at η;cases η;have g1:=(cz.ge KO).1;have g2:=lL a (by omega) _ _ _ _ h1 l8;omega
    ·rw[aN aaU]at η;exact EM.2 a b _ _ _ _ _ _ (by omega) (by omega) s0 h1 η x y l8 KO
  ·have χ:k+1<=j:=χ;rw[List.getElem?_set_ne (by omega)];exact KF j (by omega)
 ·have hk:=dh hk;obtain rfl:k=8:=by omega
  refine L0 ρ az (adk σ.one) λw' kw=>φ.mk ⟨ps,rfl,(σ.L2 dr h.ok).cI kw bX (λi o=>o▸(az.typed rfl).1) (by decide),I.then kw (λi o=>by omega),eb▸EM⟩
theorem XD{w:World}{R:bW}{qs:aU}(h:ie w R qs):rI.C (bN R qs).toArray w (φ λv w'=>∃ps,v=.agg (bN R ps).toArray/\fy w' R ps/\θ w w'):=
 (XC h).mono λe w'⟨v,aL,ps,h1,η,au,_⟩=>⟨v,aL,ps,h1,η,au⟩
theorem aio{w:World}{R:bW}{qs:aU}(h:ie w R qs)(ψ:lE R){p:J}{c:Nat}:sP.C (bN R qs).toArray p 0 c w (φ λv w'=>∃ps,v=.tuple #[.agg (bN R ps).toArray,.int .i64 0,.int .i64 0]/\fy w' R ps/\θ w w'):=by
 have dr:=h.len;apply sP.ok;unfold sP.main;rintro ε δ rfl rfl;have ρ:=μ.new (w:=w) (bN R qs) bX;have ζ:=θ.alloc w (.cells (bN R qs).toArray bX);have bQ:=(ρ.ge rfl).2;have vO:(bN R qs).length=24:=h.dX;rw[vO]at ρ;generalize w.alloc (.cells (bN R qs).toArray bX)=δ at ρ ζ bQ⊢;generalize eb:w.heap.size=ε at ρ bQ⊢;refine A3 ζ λι υ ee bz τ fM az=>?_;have ρ:=ρ.ex τ;have cc:ε≠ι:=by dsimp only at bQ;omega
 refine⟨(bN R qs).toArray,by simp[vO],ρ.cells,?_⟩;refine κ.use (GW (h.ex fM)) ?_;rintro _ aa ⟨rfl,ab⟩;rw[bC ψ]
 try dsimp only[dH]
 have hS:=fM.trans ab;refine⟨(bN R qs).toArray,by simp[vO],(ρ.ex ab).cells,?_⟩;refine κ.use (XD (h.ex hS)) ?_;rintro _ ba ⟨ps,rfl,b0,aJ⟩
 try dsimp only[hz,iG]
 have kB:=hS.trans aJ;have ρ:=(ρ.ex ab).ex aJ;have az:=(az.ex ab).ex aJ;have wa:=b0.at.one;refine aW (by simp[b0.at.dX]) (ρ.put (cs:=bN R ps) b0.at.dX wa λb9 fN ff=>?_);have gy:∀i,i=ε->Typed ba bX i:=λi o=>o▸(ρ.typed rfl).1;have zY:θ w b9:=kB.then fN λi o=>by omega
 have ao5:=b0.cI fN bX gy (by decide);have az:=az.aC fN λx I o=>by cases I;exact cc o.symm
 unfold sP.bd;refine⟨λt2 t4 Qh Qg WG t17 t18 W=>ε=t2/\ι=t4/\t17=0/\t18=0/\b9=W,λ_ _ _ _ _ _ _ _=>0,⟨rfl,rfl,rfl,rfl,rfl⟩,?_⟩;rintro _ _ Qh Qg WG _ _ _ ⟨rfl,rfl,rfl,rfl,rfl⟩;unfold sP.ε;rw[iM (by omega)];exact L0 ff az wa λw' kw=>φ.mk ⟨ps,rfl,ao5.cI kw bX (λi o=>o▸(az.typed rfl).1) (by decide),zY.then kw λi o=>by omega⟩
abbrev di:=Nat×Nat
def kg(f:di->di)(R:bW):bW:=R.map λe=>(e.1,e.2.1,e.2.2.map (Option.map f))
def lA(x y:di)(z:di):di:=if z=x then y else z
def ln(R:bW):List di->List di->bW
 |x::xs,y::ys=>ln (kg (lA x y) R) xs ys
 |_,_=>R
def Li(v:Nat)(l:List eg)(x:di):List (Nat×Nat):=l.zipIdx.flatMap λq=>if q.1=some x then[(v,q.2)]else[]
def xX(R:bW)(x:di):List (Nat×Nat):=R.zipIdx.flatMap λe=>Li e.2 e.1.2.2 x
def wx(p:Nat×Nat):aU:=[.int .i64 (p.1:Int),.int .i64 (p.2:Int)]
theorem arv(v:Nat)(l:List eg)(x:di):oh (v:Int) l x=(Li v l x).flatMap wx:=by
 unfold oh Li;rw[List.flatMap_assoc];congr 1
 funext q
 split<;>rfl
theorem VH(R:bW)(x:di):lO R x=(xX R x).flatMap wx:=by
 unfold lO xX;rw[List.flatMap_assoc];congr 1
 funext q
 exact arv _ _ _
theorem K2{R:bW}{x:di}{v b:Nat}:(v,b)∈xX R x↔∃e,R[v]?=some e/\e.2.2[b]?=some (some x):=by
 constructor
 ·intro h;obtain⟨⟨e,rk⟩,he,hm⟩:=pc.1 h;obtain⟨⟨q,gW⟩,ay,hm⟩:=pc.1 hm;have qc:=LM.1 he;have Us:=LM.1 ay;dsimp only at qc Us hm;split at hm
  ·rename_i I;simp only[lp,FK]at hm;obtain⟨rfl,rfl⟩:=hm;subst I;exact⟨_,qc,Us⟩
  ·cases hm
 ·rintro⟨e,he,ω⟩;exact pc.2 ⟨(e,v),LM.2 he,pc.2 ⟨(some x,b),LM.2 ω,by simp⟩⟩
def A1(R:bW)(y:di)(P:List (Nat×Nat)):bW:=P.foldl (λR p=>jD R p.1 p.2 (some y)) R
theorem ath(R:bW)(y:di)(P:List (Nat×Nat))(p:Nat×Nat):A1 R y (P++[p])=jD (A1 R y P) p.1 p.2 (some y):=by simp[A1]
theorem Wt(R:bW)(v b:Nat)(q:eg)(k:Nat):(jD R v b q)[k]?=if k=v then(R[k]?).map λe=>(e.1,e.2.1,e.2.2.set b q)else R[k]?:=by
 unfold jD;cases σ:R[v]?with
 |none=>
  by_cases h:k=v
  ·subst h;simp[σ]
  ·simp[h]
 |some e=>
  dsimp only;rw[List.getElem?_set];by_cases h:v=k
  ·subst h;rw[aY rfl,aY (List.getElem?_eq_some_iff.1 σ).1,aY rfl,σ];rfl
  ·rw[aN h,aN λe=>h e.symm]
theorem aev(R:bW)(v b:Nat)(q:eg):(jD R v b q).length=R.length:=by
 unfold jD;split
 ·rw[jB]
 ·rfl
theorem Ws(y:di)(k:Nat):∀(P:List (Nat×Nat))(R:bW),(A1 R y P)[k]?=(R[k]?).map λe=>(e.1,e.2.1,e.2.2.mapIdx λb q=>if(k,b)∈P then some y else q)
 |[],R=>by
  show R[k]?=_;cases R[k]?with
  |none=>rfl
  |some e=>
   have:(e.2.2.mapIdx λb q=>if(k,b)∈([]:List (Nat×Nat))then some y else q)=e.2.2:=by apply qp;intro i;rw[List.getElem?_mapIdx];simp
   rw[jd,this]
 |p::P,R=>by
  show(A1 (jD R p.1 p.2 (some y)) y P)[k]?=_;rw[Ws y k P,Wt];cases σ:R[k]?with
  |none=>simp
  |some e=>
   by_cases hk:k=p.1
   ·rw[aY hk,jd,jd,jd];congr 1;refine AY rfl (AY rfl ?_);dsimp only;apply qp;intro b;rw[List.getElem?_mapIdx,List.getElem?_mapIdx,List.getElem?_set];by_cases ω:p.2=b
    ·subst ω;rw[aY rfl];by_cases an:p.2<e.2.2.length
     ·rw[aY an]
      have:(k,p.2)∈p::P:=by
       have:p=(k,p.2):=AY hk.symm rfl
       rw[<-this];exact om
      rw[List.getElem?_eq_getElem an];simp[this]
     ·rw[aN an,List.getElem?_eq_none (by omega)];rfl
    ·rw[aN ω]
     have:((k,b)∈p::P)↔((k,b)∈P):=by rw[fE];exact⟨λh=>h.resolve_left λe=>ω (gN Prod.snd e).symm,.inr⟩
     simp only[this]
   ·rw[aN hk,jd,jd];congr 1;refine AY rfl (AY rfl ?_);dsimp only;congr 1
    funext b q
    have:((k,b)∈p::P)↔((k,b)∈P):=by rw[fE];exact⟨λh=>h.resolve_left λe=>hk (gN Prod.fst e),.inr⟩
    simp only[this]
theorem atg(R:bW)(x y:di):A1 R y (xX R x)=kg (lA x y) R:=by
 apply qp;intro k;rw[Ws];unfold kg;rw[List.getElem?_map];cases σ:R[k]?with
 |none=>rfl
 |some e=>
  rw[jd,jd];congr 1;refine AY rfl (AY rfl ?_);dsimp only;apply qp;intro b;rw[List.getElem?_mapIdx,List.getElem?_map];cases ω:e.2.2[b]?with
  |none=>rfl
  |some q=>
   rw[jd,jd];congr 1;by_cases ay:q=some x
   ·subst ay;rw[aY (K2.2 ⟨e,σ,ω⟩)];simp[lA]
   ·rw[aN λh=>by
     obtain⟨c6,h1,η⟩:=K2.1 h;rw[σ]at h1;cases h1;rw[ω]at η;cases η;exact ay rfl]
    cases q with
    |none=>rfl
    |some z=>simp[lA,show z≠x fromλe=>ay (by rw[e])]
theorem acy{e:fL}{x:di}:x∈pU e↔some x∈e.2.2:=by unfold pU;rw[u3];exact⟨λ⟨a,h,e⟩=>by cases a with|none=>cases e|some y=>cases e;exact h,λh=>⟨_,h,rfl⟩⟩
theorem wi{R:bW}{x:di}:x∈used R↔∃e∈R,some x∈e.2.2:=by unfold used;rw[pc];exact⟨λ⟨e,h,k⟩=>⟨e,h,acy.1 k⟩,λ⟨e,h,k⟩=>⟨e,h,acy.2 k⟩⟩
theorem adt{R:bW}{x:di}:xX R x=[]↔x∉used R:=by
 constructor
 ·intro h I;obtain⟨e,he,hm⟩:=wi.1 I;obtain⟨v,aL⟩:=List.getElem?_of_mem he;obtain⟨b,ω⟩:=List.getElem?_of_mem hm
  have:=K2.2 ⟨e,aL,ω⟩
  rw[h]at this;cases this
 ·intro h;rw[V5];rintro⟨v,b⟩ hm;obtain⟨e,he,ω⟩:=K2.1 hm;exact h (wi.2 ⟨e,eS he,eS ω⟩)
theorem arB{w:World}{B:Nat}{p:J}{n c:Nat}{P:List (Nat×Nat)}(γ:μ w B hP 2 p n c (P.flatMap wx)){j:Nat}{v b:Nat}(χ:P[j]?=some (v,b)):∃a,p=some a/\aw w (a.add (j*2)) (wx (v,b)):=by
 have e:P.flatMap wx=(P.map wx).flatten:=by rw[List.flatMap_def]
 rw[e]at γ;exact γ.cells.row (k:=2) (λr σ=>by obtain⟨q,_,rfl⟩:=gM.1 σ;rfl) (by decide) (by rw[List.getElem?_map,χ];rfl)
theorem Z8(P:List (Nat×Nat)):(P.flatMap wx).length=2*P.length:=by
 induction P with
 |nil=>rfl
 |cons a l cq=>rw[zl,e9,cq,List.length_cons];show 2+_=_;omega
theorem SY{α β:Type}{f:α->List β}{k:Nat}:∀{l:List α},(∀a∈l,(f a).length<=k)->(l.flatMap f).length<=l.length*k
 |[],_=>by simp
 |a::l,h=>by rw[zl,e9,List.length_cons,lr,FI];have h1:=h a (by simp);have η:=SY (l:=l) λb ω=>h b (h9 _ ω);omega
theorem arx{R:bW}(dr:R.length=8)(ok:∀e∈R,lN e)(x:di):(xX R x).length<=8000:=by
 have:=SY (l:=R.zipIdx) (f:=λe=>Li e.2 e.1.2.2 x) (k:=1000) λe he=>by
  have hm:=ok e.1 (eS (LM.1 he))
  have:=SY (l:=e.1.2.2.zipIdx) (f:=λq=>if q.1=some x then[(e.2,q.2)]else[]) (k:=1) λq _=>by split<;>simp
  rw[List.length_zipIdx]at this;have an:=hm.2.1;unfold Li;omega
 rw[List.length_zipIdx,dr]at this;exact this
theorem apR(f:di->di)(R:bW):kinds (kg f R)=kinds R:=by unfold kinds kg;rw[List.flatMap_map]
theorem fy.cell{w:World}{R:bW}{ps:aU}(h:fy w R ps){aiq:Nat}(ψ:Sep aiq 8 ps){v b:Nat}{e:fL}(he:R[v]?=some e)(ω:b<e.2.2.length){y:di}(ag:gS y){p:J}{n c:Nat}(hp:ps[v]?=some (.slice p n c)){N:ai}
  (K:∀w',fy w' (jD R v b (some y)) ps->Kp w w' (λi=>∃x,p=some x/\x.block=i)->N w'):
  n=e.2.2.length/\∃d,p=some d/\((w.cell? (d.add (b*1))).isSome=true/\w.frozen? (d.add (b*1))=false/\∀w',w'=w.setCell (d.add (b*1)) (dT (some y))->N w'):=by
 obtain⟨aX,c2,l4,γ⟩:=h.row v e he;rw[hp]at l4;cases l4;refine⟨rfl,?_⟩;obtain⟨aw3,rfl⟩:=μ.base γ (by omega);refine⟨_,rfl,?_⟩;rw[eG,dF];refine γ.dj (j:=b) (v:=dT (some y)) (by omega) rfl λw' k' hd=>?_;rw[<-q6]at hd;have aL:v<8:=by have:=(List.getElem?_eq_some_iff.1 he).1;rw[h.len]at this;exact this
 refine K w' ⟨by rw[aev];exact h.len,h.dE,λk c6 hk=>?_,λc6 dO=>?_⟩ (k'.mono λi _ o=>⟨_,rfl,o.symm⟩)
 ·rw[Wt]at hk;by_cases Hy:k=v
  ·subst Hy;rw[aY rfl,he]at hk;cases hk;rw[jB];exact⟨_,c,hp,hd⟩
  ·rw[aN Hy]at hk;obtain⟨bl,bJ,au,bu⟩:=h.row k c6 hk;have Aq:k<8:=by have:=(List.getElem?_eq_some_iff.1 hk).1;rw[h.len]at this;exact this
   exact⟨bl,bJ,au,bu.aC k' λx I o=>ψ.2 k v _ _ _ _ _ _ Aq aL Hy au hp x _ I rfl o⟩
 ·obtain⟨k,hk⟩:=List.getElem?_of_mem dO;rw[Wt]at hk;by_cases Hy:k=v
  ·subst Hy;rw[aY rfl,he]at hk;cases hk;have aE:=h.ok e (eS he);refine⟨λq ay=>?_,by rw[jB];exact aE.2.1,aE.2.2⟩;rcases pH ay with ay|rfl
   ·exact aE.1 q ay
   ·exact ag
  ·rw[aN Hy]at hk;exact h.ok c6 (eS hk)
theorem aja{w:World}{R:bW}{qs:aU}(h:ie w R qs)(ψ:lE R){x y:di}(I:x∈used R)(ag:y∉used R)(wb:gS y):
  o8.C (bN R qs).toArray (eI (some x)) (eQ (some x)) (eI (some y)) (eQ (some y)) w (φ λv w'=>∃ps,v=.tuple #[.agg (bN (kg (lA x y) R) ps).toArray,.int .i64 0]/\fy w' (kg (lA x y) R) ps/\θ w w'):=by
 have dr:=h.len;have Oz:gS x:=rj h.ok x I;apply o8.ok;unfold o8.main;rintro ε δ eb rfl;have ρ:=μ.new (w:=w) (bN R qs) bX;rw[<-eb,h.dX]at ρ;have ζ:=θ.alloc w (.cells (bN R qs).toArray bX);have bQ:=(ρ.ge rfl).2;generalize w.alloc (.cells (bN R qs).toArray bX)=δ at ρ ζ bQ⊢;refine A3 ζ λι υ ee bz τ fM az=>?_;have ρ:=ρ.ex τ;have cc:ε≠ι:=by dsimp only at bQ;omega
 clear bQ ζ τ bz;refine⟨(bN R qs).toArray,by simp[h.dX],ρ.cells,?_⟩;refine κ.use (GW (h.ex fM)) ?_;rintro _ aa ⟨rfl,ab⟩;rw[bC ψ]
 try dsimp only[dH]
 refine κ.use (zX (some x) Oz _) ?_;rintro _ aG ⟨rfl,ig⟩;obtain rfl:=ig.symm
 try dsimp only[dH]
 rw[cond_neg (by rfl)];refine κ.use (zX (some y) wb _) ?_;rintro _ bk ⟨rfl,BN⟩;obtain rfl:=BN.symm
 try dsimp only[dH]
 rw[cond_neg (by rfl)];have hS:=fM.trans ab;have ρ:=ρ.ex ab;have az:=az.ex ab;refine⟨(bN R qs).toArray,by simp[h.dX],ρ.cells,?_⟩;refine κ.use (all_map (h.ex hS)) ?_;rintro _ cn ⟨B,aw4,rfl,dR,hm,dG⟩
 try dsimp only[NG]
 have M7:=hS.trans dG;have ρ:=ρ.ex dG;have az:=az.ex dG;have oS:∀y∈gB (used R),gS y:=λy ag=>rj h.ok y ((kt _ _).1 ag);have vY:∀y,y∉gB (used R)->lO R y=[]:=λy ag=>VI λhu=>ag ((kt _ _).2 hu);refine hm.look oS vY Oz λad aD c1 Vz=>?_
 try dsimp only[er]
 rw[VH]at Vz;have qf:aD=(xX R x).length:=by have:=Vz.1;rw[Z8]at this;omega
 have aoy:xX R x≠[]:=λe=>adt.1 e I;have wc:0<(xX R x).length:=V8.2 aoy;rw[cond_neg (by simp;omega)];have apB:x≠y:=λe=>ag (e▸I);rw[Ch Oz wb apB,cond_pos (by rfl)];refine hm.look oS vY wb λaX br c2 VA=>?_
 try dsimp only[er]
 rw[VH,adt.2 ag]at VA;have ED:br=0:=by have:=VA.1;simp at this;omega
 subst ED;rw[iM (by omega)];unfold o8.aZ;refine⟨(bN R qs).toArray,by simp[h.dX],ρ.cells,?_⟩;refine κ.use (XC (h.ex M7)) ?_;rintro _ eO ⟨ps,rfl,b0,jR,EM⟩
 try dsimp only[hz,iG]
 have vE:=M7.trans jR;have aj1:=M7.size;have ρ:=ρ.ex jR;have az:=az.ex jR;have wa:=b0.at.one;refine aW (by simp[b0.at.dX]) (ρ.put (cs:=bN R ps) b0.at.dX wa λgj y6 pG=>?_);have gy:∀i,i=ε->Typed eO bX i:=λi o=>o▸(ρ.typed rfl).1;have Js:θ w gj:=vE.then y6 λi o=>by omega
 have abP:=b0.cI y6 bX gy (by decide);have az:=az.aC y6 λx I o=>by cases I;exact cc o.symm
 obtain⟨es,py,_⟩:=(hm.xL (jR.aC λ_=>False) id λ_ h=>h.elim).size;have abq:=(hm.xL (jR.aC λ_=>False) id λ_ h=>h.elim).xL y6 (λω=>by obtain⟨c,fr,aO⟩:=gy _ ω;rw[py]at aO;cases aO) λi o aO=>aO.ne (gy i o) (by decide) rfl
 refine abq.look oS vY Oz λbl dz bJ Lf=>?_
 try dsimp only[er]
 rw[VH]at Lf;have abv:dz=(xX R x).length:=by have:=Lf.1;rw[Z8]at this;omega
 subst abv;clear abq hm Vz VA ρ y6 b0 jR;generalize cY:xX R x=P at Lf⊢;have jy:∀v b,(v,b)∈P->∃e,R[v]?=some e/\b<e.2.2.length:=λv b hm=>by rw[<-cY]at hm;obtain⟨e,he,ω⟩:=K2.1 hm;exact⟨e,he,(List.getElem?_eq_some_iff.1 ω).1⟩
 have axj:P.length<=8000:=cY▸arx dr h.ok x;unfold o8.bd;refine⟨λre rb t3 t6 Qs Qr WK t51 t52 W=>eI (some y)=re/\eQ (some y)=rb/\ε=t3/\ι=t6/\bl=Qs/\P.length=Qr/\(P.length:Int)=t51/\0<=t52/\t52<=P.length/\θ w W/\μ W ε bX 24 (some ⟨ε,0,none⟩) 1 1 (bN R ps)/\μ W ι bX 24 (some ⟨ι,0,none⟩) 1 1 hA/\μ W B hP 2 bl P.length bJ (P.flatMap wx)/\fy W (A1 R y (P.take t52.toNat)) ps,
  λ_ _ _ _ _ _ _ _ t52 _=>(P.length-t52).toNat,⟨rfl,rfl,rfl,rfl,rfl,rfl,rfl,by omega,by omega,Js,pG,az,Lf,abP⟩,?_⟩
 clear Js pG az Lf abP vE M7 hS fM ab dG;rintro _ _ _ _ _ _ WK _ t52 W ⟨rfl,rfl,rfl,rfl,rfl,rfl,rfl,aF,h1,HI,ρ,az,Ph,b0⟩;unfold o8.ε;obtain⟨j,rfl⟩:=eR aF;rw[cP]at b0;refine bA (λχ=>?_) λχ=>?_
 ·have χ:=cd χ;have e3:j<P.length:=by omega
  obtain⟨v,b,OJ⟩:∃v b,P[j]?=some (v,b):=⟨P[j].1,P[j].2,List.getElem?_eq_getElem e3⟩;obtain⟨a,rfl,kW⟩:=arB Ph OJ;obtain⟨e,he,ω⟩:=jy v b (eS OJ);have UD:v<8:=by have:=(List.getElem?_eq_some_iff.1 he).1;omega
  refine aW (by omega) (aW (by omega) ?_)
  try dsimp only[bj]
  rw[cP];refine⟨(wx (v,b)).toArray,rfl,kW,?_⟩;rintro gb fF BY rfl;have bS:=μ.new (w:=W) [.int .i64 0,.int .i64 0] hP;rw[<-BY]at bS;have aJ:=θ.alloc W (.cells #[.int .i64 0,.int .i64 0] hP);generalize W.alloc (.cells #[.int .i64 0,.int .i64 0] hP)=fF at bS aJ⊢;refine aW rfl (bS.put (cs:=wx (v,b)) rfl (λz aI=>by unfold wx at aI;simp only[fE,oj,pa]at aI;rcases aI with rfl|rfl<;>rfl) λeK HN o4=>?_);have oA:θ W eK:=aJ.then HN λi o=>by omega
  have eH:=oA.trans (θ.drew eK);have o4:=o4.ex (θ.drew eK);generalize eK.drew=fY at eH o4⊢;have ρ:=ρ.ex eH;have az:=az.ex eH;have Ph:=Ph.ex eH;have b0:=b0.ex eH;have y0:=b0.row v;have mZ:=Ws y v (P.take j) R;rw[he,jd]at mZ;obtain⟨iC,ak7,uI,_⟩:=y0 _ mZ;dsimp only at uI;rw[List.length_mapIdx]at uI;refine⟨_,o4.at (j:=0) rfl,aW (by omega) (aW (by omega) ⟨iC,e.2.2.length,ak7,?_,(b:Int),o4.at (j:=1) rfl,?_⟩)⟩
  ·rw[cP,zZ];refine ρ.at (j:=16+v) ?_;unfold bN;rw[List.getElem?_append_right (by rw[o0 dr];omega),o0 dr,Iw];exact uI
  rw[(No wb).1,(No wb).2]
  try dsimp only[bj]
  refine aW (by omega) (aW (by omega) ?_);have K:∀w',fy w' (jD (A1 R y (P.take j)) v b (some y)) ps->Kp fY w' (λi=>∃x,iC=some x/\x.block=i)->(eI (some y)=eI (some y)/\eQ (some y)=eQ (some y)/\ε=ε/\ι=ι/\some a=some a/\P.length=P.length/\(P.length:Int)=(P.length:Int)/\0<=IntKind.i64.wrap ((j:Int)+1)/\IntKind.i64.wrap ((j:Int)+1)<=P.length/\θ w w'/\μ w' ε bX 24 (some ⟨ε,0,none⟩) 1 1 (bN R ps)/\μ w' ι bX 24 (some ⟨ι,0,none⟩) 1 1 hA/\μ w' B hP 2 (some a) P.length bJ (P.flatMap wx)/\fy w' (A1 R y (P.take (IntKind.i64.wrap ((j:Int)+1)).toNat)) ps)/\((P.length:Int)-IntKind.i64.wrap ((j:Int)+1)).toNat<((P.length:Int)-(j:Int)).toNat:=by
   intro w' n5 k';have nK:∀i,(∃x,iC=some x/\x.block=i)->Typed fY eA i:=λi⟨x,I,o⟩=>by obtain⟨bU,aT,rQ,hd⟩:=b0.row v _ mZ;rw[uI]at rQ;simp only[sb,Value.slice.injEq]at rQ;exact o▸(hd.typed (rQ.1▸I)).1
   rw[b3 (x:=(j:Int)+1) (by omega) (by omega)];have aM:((j:Int)+1).toNat=j+1:=by omega
   have sV:P.take (j+1)=P.take j++[(v,b)]:=by rw[lq e3];congr 2;rw[List.getElem?_eq_getElem e3]at OJ;exact Cz OJ
   rw[aM,sV,ath];refine⟨⟨rfl,rfl,rfl,rfl,rfl,rfl,rfl,by omega,by omega,(HI.trans eH).then k' λi o=>?_,ρ.cI k' eA nK (by decide),az.cI k' eA nK (by decide),Ph.cI k' eA nK (by decide),n5⟩,by omega⟩;obtain⟨ew,l8,lg⟩:=o
   have:=EM.1 v _ _ _ UD uI ew l8
   have:=aj1
   omega
  obtain⟨_,d,ae,key⟩:=fy.cell b0 EM mZ (b:=b) (by rw[List.length_mapIdx];exact ω) wb uI K;subst ae;rw[cP];exact gK rfl key
 ·have χ:=dh χ;obtain rfl:j=P.length:=by omega
  rw[AV,<-cY,atg]at b0;have hk:bN R ps=bN (kg (lA x y) R) ps:=by unfold bN;rw[apR]
  rw[hk]at ρ;refine L0 ρ az b0.at.one λw' kw=>φ.mk ⟨ps,rfl,b0.cI kw bX (λi o=>o▸(az.typed rfl).1) (by decide),HI.then kw λi o=>by omega⟩
def Jm:bW->List di->List di->Prop
 |R,x::xs,y::ys=>x∈used R/\y∉used R/\gS y/\Jm (kg (lA x y) R) xs ys
 |_,[],[]=>True
 |_,_,_=>False
theorem acF:∀{xs ys:List di}{R:bW},Jm R xs ys->∀{i:Nat}(h1:i<xs.length)(η:i<ys.length),xs[i]∈used (ln R (xs.take i) (ys.take i))/\ys[i]∉used (ln R (xs.take i) (ys.take i))/\gS ys[i]/\kg (lA xs[i] ys[i]) (ln R (xs.take i) (ys.take i))=ln R (xs.take (i+1)) (ys.take (i+1))
 |x::xs,y::ys,R,h,0,h1,η=>⟨h.1,h.2.1,h.2.2.1,rfl⟩
 |x::xs,y::ys,R,h,i+1,h1,η=>acF h.2.2.2 (i:=i) (by simpa using h1) (by simpa using η)
theorem atA{R:bW}(f:di->di)(h:lE R):lE (kg f R):=λe he=>by obtain⟨hI,aF,rfl⟩:=gM.1 he;obtain⟨s1,s2,pK,si⟩:=h hI aF;exact⟨by show((hI.2.2.map _).length:Int)=_;rw[jP];exact s1,s2,pK,si⟩
theorem Gb:∀{xs ys:List di}{R:bW},lE R->lE (ln R xs ys)
 |x::xs,y::ys,R,h=>Gb (xs:=xs) (ys:=ys) (R:=kg (lA x y) R) (atA _ h)
 |[],_,_,h=>h
 |_::_,[],_,h=>h
theorem ail{w:World}{R:bW}{qs:aU}(h:fy w R qs)(ψ:lE R){V T:List di}(hm:Jm R V T){p q:J}{n c d:Nat}{nS kA:Nat}(ν:μ w nS eA 1 p n c (dE V))(uV:μ w kA eA 1 q n d (dE T))(ar:n<=100000):
  ts.C (bN R qs).toArray p n c q n d w (φ λv w'=>∃ps,v=.tuple #[.agg (bN (ln R V T) ps).toArray,.int .i64 0]/\fy w' (ln R V T) ps/\θ w w'):=by
 have n0:V.length=n:=by have:=ν.1;rw[zg,eG]at this;exact this
 have en:T.length=n:=by have:=uV.1;rw[zg,eG]at this;exact this
 apply ts.ok;unfold ts.main;rintro ε δ eb rfl;have ρ:=μ.new (w:=w) (bN R qs) bX;rw[<-eb,h.at.dX]at ρ;have ζ:=θ.alloc w (.cells (bN R qs).toArray bX);have bQ:=(ρ.ge rfl).2;generalize w.alloc (.cells (bN R qs).toArray bX)=δ at ρ ζ bQ⊢;refine A3 ζ λι υ ee bz τ fM az=>?_;have ρ:=ρ.ex τ;have cc:ε≠ι:=by dsimp only at bQ;omega
 clear bQ ζ τ bz;rw[cond_neg (by simp)];unfold ts.bd;refine⟨λmg mf pR ez et eT t3 t6 t17 t18 W=>p=mg/\n=mf/\q=ez/\n=et/\ε=t3/\ι=t6/\(n:Int)=t17/\0<=t18/\t18<=n/\θ w W/\μ W ι bX 24 (some ⟨ι,0,none⟩) 1 1 hA/\∃ps,fy W (ln R (V.take t18.toNat) (T.take t18.toNat)) ps/\μ W ε bX 24 (some ⟨ε,0,none⟩) 1 1 (bN (ln R (V.take t18.toNat) (T.take t18.toNat)) ps),
  λ_ _ _ _ _ _ _ _ _ t18 _=>(n-t18).toNat,⟨rfl,rfl,rfl,rfl,rfl,rfl,rfl,by omega,by omega,fM,az,qs,h.ex fM,ρ⟩,?_⟩
 clear ρ az fM;rintro _ _ pR _ _ eT _ _ _ t18 W ⟨rfl,rfl,rfl,rfl,rfl,rfl,rfl,aF,h1,I,az,ps,b0,ρ⟩;unfold ts.ε;obtain⟨i,rfl⟩:=eR aF;rw[cP]at b0 ρ;refine bA (λo=>?_) λo=>?_
 ·have o:=cd o;have eH:=θ.drew W;have HJ:=I.trans eH;have b0:=b0.ex eH;have ρ:=ρ.ex eH;have az:=az.ex eH;generalize W.drew=W at eH HJ b0 ρ az⊢;have abe:i<V.length:=by omega
  have abd:i<T.length:=by omega
  obtain⟨m1,m2,m3,m4⟩:=acF hm abe abd;refine⟨(bN (ln R (V.take i) (T.take i)) ps).toArray,by rw[fp];exact b0.at.dX,ρ.cells,aW (by omega) (aW (by omega) ?_)⟩;obtain⟨a,rfl,jQ⟩:=(ν.ex HJ).cells.many (j:=i) (v:=dT (some V[i])) (by unfold dE;rw[List.getElem?_map,List.getElem?_eq_getElem abe];rfl);obtain⟨fz,rfl,LN⟩:=(uV.ex HJ).cells.many (j:=i) (v:=dT (some T[i])) (by unfold dE;rw[List.getElem?_map,List.getElem?_eq_getElem abd];rfl)
  try dsimp only[bj]
  rw[cP,eG];refine⟨_,_,jQ,aW (by omega) (aW (by omega) ⟨_,_,LN,?_⟩)⟩;refine κ.use (aja b0.at (Gb ψ) m1 m2 m3) ?_;rw[m4];rintro _ ax ⟨tl,rfl,n5,aA⟩
  try dsimp only[bZ,cC,cD,bj,bH,hz,iG]
  have ρ:=ρ.ex aA;have az:=az.ex aA;refine aW (by rw[fp];exact n5.at.dX) (ρ.put (cs:=bN _ tl) n5.at.dX n5.at.one λba dP bS=>?_);rw[cond_neg (by rfl),b3 (x:=(i:Int)+1) (by omega) (by omega)];have aM:((i:Int)+1).toNat=i+1:=by omega
  refine⟨⟨by trivial,by trivial,by trivial,by trivial,by trivial,by trivial,by trivial,by omega,by omega,(HJ.trans aA).then dP (λi o=>by omega),az.aC dP (λx I o=>by cases I;exact cc o.symm),tl,?_,?_⟩,by((try dsimp only);omega)⟩
  ·rw[aM];exact n5.cI dP bX (λi o=>o▸(ρ.typed rfl).1) (by decide)
  ·rw[aM];exact bS
 ·have o:=dh o;obtain rfl:i=n:=by omega
  rw[hr (by omega),hr (by omega)]at b0 ρ;exact L0 ρ az b0.at.one λw' kw=>φ.mk ⟨ps,rfl,b0.cI kw bX (λi o=>o▸(az.typed rfl).1) (by decide),I.then kw λi o=>by omega⟩
def uR(l:List eg)(j:Nat):List eg:=l.take j++List.replicate (l.length-j) none
theorem acz{l:List eg}{j:Nat}(h:j<l.length):(uR l j).set j (l.getD j none)=uR l (j+1):=by
 have bL:l.getD j none=l[j]:=by rw[List.getD_eq_getElem?_getD,List.getElem?_eq_getElem h];rfl
 unfold uR;rw[CC _ _ (by rw[gY];omega),gY,q8 (by omega),u4,lq h,show l.length-j=(l.length-(j+1))+1 by omega,FH,It,bL,mc];rfl
theorem aqs{l:List eg}{j:Nat}(h:j<l.length):(uR l j).set j none=uR l j:=by unfold uR;rw[CC _ _ (by rw[gY];omega),gY,q8 (by omega),u4,show l.length-j=(l.length-(j+1))+1 by omega,FH,It]
theorem aqt(l:List eg):uR l 0=List.replicate l.length none:=by simp[uR]
theorem aqr(l:List eg):uR l l.length=l:=by simp[uR]
structure Part(w:World)(B b4:Nat)(R:bW)(fR:List J)(i:Nat):Prop where
 γ:μ w B Bb 24 (some ⟨b4,0,none⟩) 1 1 (kinds R++fR.map Value.pointer)
 j1:fR.length=8
 tb:∀(k:Nat)(e:fL)(tp:J),k<i->R[k]?=some e->fR[k]?=some tp->vC w tp e
 rest:∀k,i<=k->k<8->fR[k]?=some none
theorem Part.ex{w w':World}{B b4:Nat}{R:bW}{fR:List J}{i:Nat}(h:Part w B b4 R fR i)(x:θ w w'):Part w' B b4 R fR i:=⟨h.γ.ex x,h.j1,λk e tp hk he aO=>(h.tb k e tp hk he aO).ex x,h.rest⟩
theorem XT{w:World}{R:bW}{qs:aU}(h:ie w R qs)(ψ:lE R):lv.C (bN R qs).toArray w (φ λv w'=>∃b4,v=.tuple #[.pointer (some ⟨b4,0,none⟩),.int .i64 0]/\θ w w'/\kn w' w.heap.size b4 R):=by
 have dr:=h.len;have Hx:(kinds R).length=16:=o0 dr;apply lv.ok;unfold lv.main;rintro ε δ eb rfl;have ρ:=μ.new (w:=w) (bN R qs) bX;rw[<-eb]at ρ;have ζ:=θ.alloc w (.cells (bN R qs).toArray bX);have vO:(bN R qs).length=24:=h.dX;rw[vO]at ρ;generalize w.alloc (.cells (bN R qs).toArray bX)=δ at ρ ζ⊢;refine⟨(bN R qs).toArray,by simp[vO],ρ.cells,?_⟩;refine κ.use (GW (h.ex ζ)) ?_;rintro _ υ ⟨rfl,τ⟩;rw[bC ψ]
 try dsimp only[dH]
 refine κ.use (ajc υ) ?_;rintro _ ax ⟨rfl,aA,Mp,aF⟩
 try dsimp only[mX,bj]
 have dG:=ζ.trans τ;have dR:w.heap.size<=υ.heap.size:=dG.size;generalize υ.heap.size=b4 at aF dR⊢;have ju:=dG.trans aA;have ρ:=(ρ.ex τ).ex aA;refine⟨(kinds R).toArray,by simp[Hx],?_,aW (by simp[Hx]) ?_⟩
 ·have:=a8.take (w:=ax) (a:=some _) ρ.cells 16
  rw[bN,pb (by rw[Hx];exact eF _),hr (by rw[Hx];exact eF _)]at this;exact this
 have a0:(⟨b4,0,none⟩:Addr)=(⟨b4,0,none⟩:Addr).add 0:=(Addr.add_zero' _).symm;have abz:∀k,k<8->Mp[k]?=some none:=λk hk=>by
  have:=aF.tb k GM
  cases aO:Mp[k]?with
  |none=>have:=aF.j1;rw[List.getElem?_eq_none_iff]at aO;omega
  |some tp=>
   rcases aF.tb k GM tp (by show(List.replicate 8 GM)[k]?=_;rw[List.getElem?_replicate,aY hk]) aO with⟨aM,_⟩|⟨n,L,t1,t2,t3⟩
   ·rw[aM]
   ·have h1:=t1.len;have t3:(0:Int)=n:=t3;omega
 have key:=μ.putAt aF.γ 0 (kinds R) (by rw[Hx];omega) (OU R) (N:=λba=>∃(b2:ah),b2.size=8/\aw ba (⟨ε,16,none⟩:Addr) b2.toList/\lv.bd (some ⟨b4,0,none⟩) b2 0 ba (φ λv w'=>∃b4,v=.tuple #[.pointer (some ⟨b4,0,none⟩),.int .i64 0]/\θ w w'/\kn w' w.heap.size b4 R)) λba dP bS=>?_
 ·rw[<-a0]at key;exact key
 have kB:θ w ba:=ju.then dP λi o=>by omega
 rw[FF,r9,Hx,show 0+16=(kinds (cw [])).length from rfl,LJ]at bS;have ρ:=ρ.cI dP Bb (λi o=>o▸(aF.γ.typed rfl).1) (by decide);have cY:Part ba b4 b4 R Mp 0:=⟨bS,aF.j1,λk e tp hk=>by omega,λk _ hk=>abz k hk⟩;have y0:(bN R qs).drop 16=qs:=h.drop;refine⟨qs.toArray,by simp[h.dE],?_,?_⟩
 ·have:=aw.drop (w:=ba) ρ.cells 16
  rw[dF,y0]at this;exact this
 clear ρ ju aA dG ζ τ;unfold lv.bd;refine⟨λt4 t21 t22 W=>some ⟨b4,0,none⟩=t4/\qs.toArray=t21/\0<=t22/\t22<=8/\θ w W/\∃fR,Part W b4 b4 R fR t22.toNat,λ_ _ t22 _=>(8-t22).toNat,⟨rfl,rfl,by omega,by omega,kB,Mp,cY⟩,?_⟩;clear cY kB dP bS abz aF a0 Mp;rintro _ _ t22 W ⟨rfl,rfl,aF,h1,I,fR,cY⟩;unfold lv.ε;obtain⟨i,rfl⟩:=eR aF;rw[cP]at cY;have lh:IntKind.i64.wrap ((i:Int)+1)=((i+1:Nat):Int):=by rw[b3 (by omega) (by omega)];rfl
 refine bA (λo=>?_) λo=>?_
 ·have o:=cd o;obtain⟨e,he⟩:=h.get (k:=i) (by omega);obtain⟨p,c,hp,π⟩:=(h.ex I).row i e he;have ed:=ψ e (eS he);have dq:=h.ok e (eS he);refine aW (by omega) (aW (by omega) (gK (v:=.slice p e.2.2.length c) ?_ ?_))
  ·rw[cP,eG,List.getElem?_toArray];exact hp
  try dsimp only[er]
  rw[lh];refine bA (λaI=>?_) λaI=>?_
  ·have aI:e.2.2=[]:=by
    have:e.2.2.length=0:=by simpa using aI
    exact q9 this
   refine⟨⟨by trivial,by trivial,by omega,by omega,I,fR,cY.γ,cY.j1,λk c6 tp hk dO aO=>?_,λk hk Aq=>cY.rest k (by have:i+1<=k:=hk;omega) Aq⟩,by((try dsimp only);omega)⟩;rcases Is k i with bQ|Ht
   ·exact cY.tb k c6 tp bQ dO aO
   ·have:k=i:=by have hk:k<i+1:=hk;omega
    subst this;rw[he]at dO;cases dO
    have:=cY.rest k (eF _) (by omega)
    rw[aO]at this;cases this;exact .inl ⟨rfl,aI⟩
  ·have aI:e.2.2.length≠0:=by simpa using aI
   obtain⟨s1,s2,pK,si⟩:=ed;have si:1<=e.2.1/\e.2.1<33:=si λhI=>by rw[pK hI]at s1;omega
   refine κ.use (zS (n:=e.2.2.length) (by omega) W) ?_;rintro _ bk ⟨hM,rfl,aV,aO⟩
   try dsimp only[bZ,cC,cD,bj,bH,mX]
   unfold lv.fm;refine⟨λt4 t5 t7 t21 t22 Mg Mf Qn t36 t37 bE=>some ⟨b4,0,none⟩=t4/\(i:Int)=t5/\qs.toArray=t21/\(i:Int)=t22/\p=Mg/\e.2.2.length=Mf/\(e.2.2.length:Int)=t36/\0<=t37/\t37<=e.2.2.length/\θ W bE/\∃L,TabIs bE t7 e.2.2.length L/\L.take e.2.2.length=uR e.2.2 t37.toNat,
    λ_ _ _ _ _ _ _ _ _ t37 _=>(e.2.2.length-t37).toNat,⟨rfl,rfl,rfl,rfl,rfl,rfl,rfl,by omega,by omega,aV,_,aO,by rw[PU,Int.toNat_zero,aqt];congr 1;omega⟩,?_⟩
   clear aO aV;rintro _ _ t7 _ _ _ _ Qn _ t37 bE ⟨rfl,rfl,rfl,rfl,rfl,rfl,rfl,g0,g1,J0,L,en,lZ⟩;unfold lv.ι;obtain⟨j,rfl⟩:=eR g0;rw[cP]at lZ;refine bA (λχ=>?_) λχ=>?_
   ·have χ:=cd χ;have e3:j<e.2.2.length:=by omega
    obtain⟨a,rfl,r⟩:=Fs (π.ex J0) e3;refine aW (by omega) (aW (by omega) ?_)
    try dsimp only[bj]
    rw[cP,eG];refine⟨_,_,r,?_⟩;have ay:=dq.1 _ (hN e3);have bL:e.2.2.getD j none=e.2.2[j]:=by rw[List.getD_eq_getElem?_getD,List.getElem?_eq_getElem e3];rfl
    rw[empty_eq ay];rw[b3 (x:=(j:Int)+1) (by omega) (by omega)];cases KA:e.2.2[j]with
    |none=>
     rw[cond_neg (by rfl)];refine⟨⟨by trivial,by trivial,by trivial,by trivial,by trivial,by trivial,by trivial,by omega,by omega,J0,L,en,?_⟩,by((try dsimp only);omega)⟩;show L.take e.2.2.length=uR e.2.2 (j+1);rw[lZ,<-acz e3,bL,KA,aqs e3]
    |some x=>
     rw[KA]at ay;rw[cond_pos (by rfl)];refine κ.use (Jp en (j:=j) e3 (x:=x) ay) ?_;rintro _ ca ⟨nf,rfl,cv,amX⟩
     try dsimp only[bZ,cC,cD,bj,bH,mX]
     refine⟨⟨by trivial,by trivial,by trivial,by trivial,by trivial,by trivial,by trivial,by omega,by omega,J0.trans cv,_,amX,?_⟩,by((try dsimp only);omega)⟩;show(L.set j (some x)).take e.2.2.length=uR e.2.2 (j+1);rw[List.take_set,lZ,<-acz e3,bL,KA]
   ·have χ:=dh χ;obtain rfl:j=e.2.2.length:=by omega
    rw[aqr]at lZ;unfold lv.aZ
    try dsimp only[bj]
    have cY:=cY.ex J0;refine aW (by omega) (aW (by omega) ?_);simp only[dF,cP,zZ];refine cY.γ.dj (j:=16+i) (v:=.pointer t7) (by omega) rfl λcH s9 r2=>?_;rw[LX dr,<-q6]at r2;have y3:∀j,j=b4->¬sE bE j:=λj χ=>Wg (χ▸(cY.γ.typed rfl).1);rw[lh];refine⟨⟨by trivial,by trivial,by omega,by omega,(I.trans J0).then s9 λi o=>by omega,fR.set i t7,r2,by rw[jB];exact cY.j1,λk c6 tp hk dO kE=>?_,λk hk Aq=>?_⟩,by((try dsimp only);omega)⟩
    ·rw[List.getElem?_set]at kE;by_cases qd:i=k
     ·subst qd;rw[aY rfl,aY (by rw[cY.j1];omega)]at kE;cases kE;rw[he]at dO;cases dO;exact vC.aC (.inr ⟨_,L,en,lZ.symm,s1.symm⟩) s9 y3
     ·rw[aN qd]at kE;exact(cY.tb k c6 tp (by have hk:k<i+1:=hk;omega) dO kE).aC s9 y3
    ·have hk:i+1<=k:=hk;rw[List.getElem?_set_ne (by omega)];exact cY.rest k (by omega) Aq
 ·have o:=dh o;obtain rfl:i=8:=by omega
  refine φ.mk ⟨b4,rfl,I,fR,cY.γ.lower dR,dr,cY.j1,λk e tp he aO=>cY.tb k e tp (by have:=(List.getElem?_eq_some_iff.1 he).1;omega) he aO⟩
end Go.Proofs.YtcpdfhkhaekekaaGreat.G.eh
namespace Go.Proofs.YtcpdfhkhaekekaaGreat.G.bh
open Go.bI Go.RowKit
structure dm where
 sure:List ao
 now:List ao
 loose:List (Int×ao)
 after:Int
 off:Bool
def kP(s:ao):Prop:=s.length=64/\∀x∈s,0<=x/\x<256
structure Good(d:dm):Prop where
 len:d.sure.length=d.now.length
 fZ:d.now.length<=424
 sure:∀s∈d.sure,kP s
 now:∀s∈d.now,kP s
 loose:∀p∈d.loose,0<=p.1/\p.1<(d.now.length:Int)/\kP p.2
 after:-1<=d.after/\d.after<=9223372036854775807
def hR:ao:=List.replicate 64 0
def fresh(n:Nat):dm:=⟨List.replicate n hR,List.replicate n hR,[],-1,false⟩
def km(d:dm):dm:=if d.after=0 then{d with off:=true}else if d.after>0 then{d with after:=d.after-1}else d
theorem Xv:kP hR:=⟨by simp[hR],λx I=>by have:=u0 I;omega⟩
theorem aeb(n:Nat):∀s∈List.replicate n hR,kP s:=λs ψ=>by rw[u0 ψ];exact Xv
theorem amw{n:Nat}(h:n<=424):Good (fresh n)where
 len:=by simp[fresh]
 fZ:=by simpa[fresh]using h
 sure:=aeb n
 now:=aeb n
 loose:=λp hp=>by cases hp
 after:=by simp[fresh]
theorem Qb(d:dm):(km d).sure=d.sure/\(km d).now=d.now/\(km d).loose=d.loose:=by
 unfold km;split
 ·exact⟨rfl,rfl,rfl⟩
 ·split<;>exact⟨rfl,rfl,rfl⟩
theorem Qa{d:dm}(h:Good d):Good (km d):=by
 obtain⟨h1,η,au⟩:=Qb d;refine⟨by rw[h1,η];exact h.len,by rw[η];exact h.fZ,by rw[h1];exact h.sure,by rw[η];exact h.now,by rw[η,au];exact h.loose,?_⟩
 have:=h.after
 unfold km;split
 ·exact this
 ·split
  ·dsimp only;omega
  ·exact this
def mR(x:ao):aU:=x.map (Value.int .u8)
def u6(l:List ao):aU:=(l.map mR).flatten
def y9(p:Int×ao):aU:=.int .i64 p.1::mR p.2
def OW(l:List (Int×ao)):aU:=(l.map y9).flatten
theorem zH(x:ao):(mR x).length=x.length:=by simp[mR]
theorem QH(x:ao):∀y∈mR x,y.oneCell'=true:=GJ _ _
theorem Wr{l:List ao}(h:∀s∈l,kP s):∀r∈l.map mR,r.length=64:=by intro r σ;obtain⟨s,ψ,rfl⟩:=gM.1 σ;rw[zH];exact(h s ψ).1
theorem aeq{l:List ao}(h:∀s∈l,kP s):(u6 l).length=l.length*64:=by unfold u6;rw[SZ _ 64 (Wr h),jP]
theorem atc(l:List ao):∀y∈u6 l,y.oneCell'=true:=by intro y ag;obtain⟨r,σ,ag⟩:=List.mem_flatten.1 ag;obtain⟨s,_,rfl⟩:=gM.1 σ;exact QH s y ag
theorem aep(n:Nat):u6 (List.replicate n hR)=List.replicate (n*64) (Value.int .u8 0):=by
 induction n with
 |zero=>simp[u6]
 |succ n cq=>
  unfold u6 at cq⊢;rw[FH,x1,Cv,cq];simp only[mR,hR,Ly,List.replicate_append_replicate];congr 1;omega
structure zP(w:World)(B pd:Nat)(d:dm)(bF bn:Nat)(pl:J)(kF:Nat):Prop where
 cell:μ w B 78 5 (some ⟨pd,0,none⟩) 1 1 [.slice (some ⟨bF,0,none⟩) d.now.length d.now.length,.slice (some ⟨bn,0,none⟩) d.now.length d.now.length,.slice pl d.loose.length kF,.int .i64 d.after,.bool d.off]
 Gn:μ w B 82 64 (some ⟨bF,0,none⟩) d.now.length d.now.length (u6 d.sure)
 no:μ w B 82 64 (some ⟨bn,0,none⟩) d.now.length d.now.length (u6 d.now)
 e6:μ w B 189 65 pl d.loose.length kF (OW d.loose)
 ne:bF≠bn
def Jk(pd bF bn:Nat)(pl:J)(i:Nat):Prop:=i=pd\/i=bF\/i=bn\/∃x,pl=some x/\x.block=i
def hZ(w:World)(B pd:Nat)(d:dm)(D:a1):Prop:=∃bF bn pl kF,zP w B pd d bF bn pl kF/\∀i,D i↔Jk pd bF bn pl i
theorem zP.typed{w:World}{B pd:Nat}{d:dm}{bF bn:Nat}{pl:J}{kF:Nat}(h:zP w B pd d bF bn pl kF){i:Nat}(o:Jk pd bF bn pl i):(Typed w 78 i\/Typed w 82 i\/Typed w 189 i)/\B<=i/\i<w.heap.size:=by
 rcases o with rfl|rfl|rfl|⟨x,I,rfl⟩
 ·exact⟨.inl (h.cell.typed rfl).1,(h.cell.typed rfl).2⟩
 ·exact⟨.inr (.inl (h.Gn.typed rfl).1),(h.Gn.typed rfl).2⟩
 ·exact⟨.inr (.inl (h.no.typed rfl).1),(h.no.typed rfl).2⟩
 ·exact⟨.inr (.inr (h.e6.typed I).1),(h.e6.typed I).2⟩
theorem zP.aC{w w':World}{S:a1}{B pd:Nat}{d:dm}{bF bn:Nat}{pl:J}{kF:Nat}(h:zP w B pd d bF bn pl kF)(hk:Kp w w' S)(ψ:∀i,Jk pd bF bn pl i->¬S i):zP w' B pd d bF bn pl kF:=
 ⟨h.cell.aC hk λx I=>by cases I;exact ψ _ (.inl rfl),h.Gn.aC hk λx I=>by cases I;exact ψ _ (.inr (.inl rfl)),h.no.aC hk λx I=>by cases I;exact ψ _ (.inr (.inr (.inl rfl))),h.e6.aC hk λx I=>ψ _ (.inr (.inr (.inr ⟨x,I,rfl⟩))),h.ne⟩
theorem hZ.typed{w:World}{B pd:Nat}{d:dm}{D:a1}(h:hZ w B pd d D){i:Nat}(o:D i):(Typed w 78 i\/Typed w 82 i\/Typed w 189 i)/\B<=i/\i<w.heap.size:=by obtain⟨bF,bn,pl,kF,h,b1⟩:=h;exact h.typed ((b1 i).1 o)
theorem hZ.aC{w w':World}{S:a1}{B pd:Nat}{d:dm}{D:a1}(h:hZ w B pd d D)(hk:Kp w w' S)(ψ:∀i,D i->¬S i):hZ w' B pd d D:=by obtain⟨bF,bn,pl,kF,h,b1⟩:=h;exact⟨bF,bn,pl,kF,h.aC hk λi o=>ψ i ((b1 i).2 o),b1⟩
theorem hZ.ex{w w':World}{B pd:Nat}{d:dm}{D:a1}(h:hZ w B pd d D)(hk:θ w w'):hZ w' B pd d D:=h.aC hk λ_ _ h=>h
theorem Le{w w':World}{B B' pd:Nat}{d:dm}{D:a1}(h:hZ w B pd d D)(hk:Kp w w' D){e:TypeId}{sz:Nat}{p:J}{n c:Nat}{xs:aU}(γ:μ w B' e sz p n c xs)(h1:e≠78)(η:e≠82)(au:e≠189):μ w' B' e sz p n c xs:=
 γ.aC hk λx I hm=>by
  have aO:=(γ.typed I).1;rcases(h.typed hm).1 with hm|hm|hm
  ·exact aO.ne hm h1 rfl
  ·exact aO.ne hm η rfl
  ·exact aO.ne hm au rfl
theorem zP.field{w w':World}{B pd:Nat}{d:dm}{bF bn:Nat}{pl:J}{kF:Nat}(h:zP w B pd d bF bn pl kF)(k:Kp w w' λi=>i=pd){a:Int}{f:Bool}
  (γ:μ w' B 78 5 (some ⟨pd,0,none⟩) 1 1 [.slice (some ⟨bF,0,none⟩) d.now.length d.now.length,.slice (some ⟨bn,0,none⟩) d.now.length d.now.length,.slice pl d.loose.length kF,.int .i64 a,.bool f]):zP w' B pd {d with after:=a,off:=f} bF bn pl kF:=by
 have t:∀i,i=pd->Typed w 78 i:=λi o=>o▸(h.cell.typed rfl).1;exact⟨γ,h.Gn.cI k 78 t (by decide),h.no.cI k 78 t (by decide),h.e6.cI k 78 t (by decide),h.ne⟩
def np(w:World)(D:a1)(p:J)(xs:aU):Prop:=∀w',Kp w w' D->a8 w' p xs
theorem np.now{w:World}{D:a1}{p:J}{xs:aU}(h:np w D p xs):a8 w p xs:=h w (Kp.refl _ _)
theorem np.step{w δ:World}{D e5:a1}{p:J}{xs:aU}(h:np w D p xs)(k:Kp w δ D)(b1:∀i,i<w.heap.size->e5 i->D i):np δ e5 p xs:=
 λw' k'=>h w' (Kp.trans k k' (λ_ _ h=>h) b1)
theorem np.Cp{w:World}{B B' pd:Nat}{d:dm}{D:a1}(h:hZ w B pd d D){e:TypeId}{sz:Nat}{p:J}{n c:Nat}{xs:aU}(γ:μ w B' e sz p n c xs)(h1:e≠78)(η:e≠82)(au:e≠189):np w D p xs:=λw' k=>(Le h k γ h1 η au).cells
theorem Wb{w:World}{B pd:Nat}{d:dm}{D:a1}(h:hZ w B pd d D):DB.C (some ⟨pd,0,none⟩) w (φ λv w'=>v=.int .i64 (if d.off then 10 else 0)/\w'=w):=by
 apply DB.ok;unfold DB.main;obtain⟨bF,bn,pl,kF,h,b1⟩:=h
 try dsimp only[mB,bj,jb]
 simp only[dF];refine⟨_,h.cell.at (j:=4) rfl,bA (λπ=>?_) λπ=>?_⟩<;>rw[π]<;>exact φ.mk ⟨rfl,rfl⟩
theorem aeI{w:World}{B pd:Nat}{d:dm}{D:a1}(h:hZ w B pd d D)(bL:Good d):DC.C (some ⟨pd,0,none⟩) w (φ λv w'=>v=.bool (km d).off/\hZ w' B pd (km d) D/\Kp w w' D):=by
 apply DC.ok;unfold DC.main;obtain⟨bF,bn,pl,kF,h,b1⟩:=h;have rR:∀i,i=pd->D i:=λi o=>(b1 i).2 (.inl o);have aP:=bL.after
 try dsimp only[bj]
 simp only[dF];unfold km;refine⟨_,h.cell.at (j:=3) rfl,bA (λπ=>?_) λπ=>?_⟩
 ·have π:d.after=0:=by simpa using π
  rw[aY π];refine h.cell.dj (j:=4) (by show 4<1*5;omega) rfl λδ aZ ρ=>?_;exact⟨_,ρ.at (j:=4) rfl,φ.mk ⟨rfl,⟨bF,bn,pl,kF,h.field aZ ρ,b1⟩,aZ.mono λi _ o=>rR i o⟩⟩
 ·have π:¬d.after=0:=by simpa using π
  rw[aN π];refine⟨_,h.cell.at (j:=3) rfl,bA (λjY=>?_) λjY=>?_⟩
  ·have jY:=cd jY;rw[aY jY];refine⟨_,h.cell.at (j:=3) rfl,?_⟩;rw[b3 (by omega) (by omega)];refine h.cell.dj (j:=3) (by show 3<1*5;omega) rfl λδ aZ ρ=>?_;exact⟨_,ρ.at (j:=4) rfl,φ.mk ⟨rfl,⟨bF,bn,pl,kF,h.field aZ ρ,b1⟩,aZ.mono λi _ o=>rR i o⟩⟩
  ·have jY:=dh jY;rw[aN jY];exact⟨_,h.cell.at (j:=4) rfl,φ.mk ⟨rfl,⟨bF,bn,pl,kF,h,b1⟩,Kp.refl _ _⟩⟩
theorem zS(n:Int)(w:World)(ar:1<=n/\n<=424):DD.C n w (φ λv w'=>∃pd D,v=.tuple #[.pointer (some ⟨pd,0,none⟩),.int .i64 0]/\θ w w'/\hZ w' w.heap.size pd (fresh n.toNat) D):=by
 apply DD.ok;unfold DD.main;rw[iM (by omega),iM (by omega)]
 have fin:∀(δ υ:World)(ε ι:Nat),θ w δ->θ δ υ->ε<δ.heap.size->ε≠ι->w.heap.size<=ε->w.heap.size<=ι->μ υ w.heap.size 82 64 (some ⟨ε,0,none⟩) n.toNat n.toNat (List.replicate (n.toNat*64) (Value.int .u8 0))->μ υ w.heap.size 82 64 (some ⟨ι,0,none⟩) n.toNat n.toNat (List.replicate (n.toNat*64) (Value.int .u8 0))->
   aR υ #[(Value.slice (some ⟨ε,0,none⟩) n.toNat n.toNat),(Value.slice (some ⟨ι,0,none⟩) n.toNat n.toNat),(Value.slice none 0 0),(Value.int .i64 (-1)),(Value.bool false)] 78 λaH aa=>φ (λv w'=>∃pd D,v=.tuple #[.pointer (some ⟨pd,0,none⟩),.int .i64 0]/\θ w w'/\hZ w' w.heap.size pd (fresh n.toNat) D) (.returned (Value.tuple #[(Value.pointer (some (⟨aH,0,none⟩:Addr))),(Value.int .i64 0)])) aa:=by
  intro δ υ ε ι ζ τ bQ cc eb ee ρ az;rintro aH aa rfl rfl;have bu:=μ.new (w:=υ) [.slice (some ⟨ε,0,none⟩) n.toNat n.toNat,.slice (some ⟨ι,0,none⟩) n.toNat n.toNat,.slice none 0 0,.int .i64 (-1),.bool false] 78;have ab:=θ.alloc υ (.cells #[.slice (some ⟨ε,0,none⟩) n.toNat n.toNat,.slice (some ⟨ι,0,none⟩) n.toNat n.toNat,.slice none 0 0,.int .i64 (-1),.bool false] 78);refine φ.mk ⟨υ.heap.size,_,rfl,(ζ.trans τ).trans ab,ε,ι,none,0,⟨?_,?_,?_,?_,cc⟩,λi=>nh⟩
  ·have:=bu.lower (ζ.trans τ).size
   simpa[fresh]using this
  ·have:=ρ.ex ab
   simpa[fresh,aep]using this
  ·have:=az.ex ab
   simpa[fresh,aep]using this
  ·exact μ.nil _ _ _ _
 have two:∀(K:Nat->Nat->ai),(∀ε ι υ,ε=w.heap.size->ι=w.heap.size+1->θ w υ->μ υ w.heap.size 82 64 (some ⟨ε,0,none⟩) n.toNat n.toNat (List.replicate (n.toNat*64) (Value.int .u8 0))->μ υ w.heap.size 82 64 (some ⟨ι,0,none⟩) n.toNat n.toNat (List.replicate (n.toNat*64) (Value.int .u8 0))->K ε ι υ)->
   (ο (decide (0<=n)) (ο (decide (n<=n)) (ο (decide ((64:Int)*n<=281474976710656/\n<=9223372036854775807)) (aR w.drew (madeCells (List.replicate 64 (Value.int .u8 0)).toArray (n.toNat*64)) 82 λε δ=>
    ο (decide (0<=n)) (ο (decide (n<=n)) (ο (decide ((64:Int)*n<=281474976710656/\n<=9223372036854775807)) (aR δ (madeCells (List.replicate 64 (Value.int .u8 0)).toArray (n.toNat*64)) 82 λι υ=>K ε ι υ))))))):=by
  intro K jW;refine aW (by omega) (aW (by omega) (aW (by omega) ?_));rintro ε δ rfl rfl;refine aW (by omega) (aW (by omega) (aW (by omega) ?_));rintro ι υ rfl rfl;rw[E4 64 _ _ (by decide)];have ρ:=μ.alloc (w:=w.drew) (List.replicate (n.toNat*64) (Value.int .u8 0)) 82 64 n.toNat (by simp);have ζ:θ w (w.drew.alloc (.cells (List.replicate (n.toNat*64) (Value.int .u8 0)).toArray 82)):=(θ.drew w).trans (θ.alloc _ _);have ψ:(w.drew.alloc (.cells (List.replicate (n.toNat*64) (Value.int .u8 0)).toArray 82)).heap.size=w.heap.size+1:=by show(w.heap.push _).size=_;simp
  generalize w.drew.alloc (.cells (List.replicate (n.toNat*64) (Value.int .u8 0)).toArray 82)=δ at ρ ζ ψ⊢;have az:=μ.alloc (w:=δ) (List.replicate (n.toNat*64) (Value.int .u8 0)) 82 64 n.toNat (by simp);have τ:=θ.alloc δ (.cells (List.replicate (n.toNat*64) (Value.int .u8 0)).toArray 82);exact jW _ _ _ rfl ψ (ζ.trans τ) (ρ.ex τ) (az.lower (by omega))
 refine⟨two _ λε ι υ aM bz x ρ az=>?_,two _ λε ι υ aM bz x ρ az=>?_⟩
 ·exact fin υ υ ε ι x (θ.refl _) (ρ.typed rfl).2.2 (by omega) (by omega) (by omega) ρ az
 ·exact fin υ υ ι ε x (θ.refl _) (az.typed rfl).2.2 (by omega) (by omega) (by omega) az ρ
theorem Jg(p:J)(n c:Nat)(xs:aU)(w:World)(π:a8 w p xs)(an:xs.length=n)(ar:n<=140737488351232)(h1:∀y∈xs,y.oneCell'=true):
  yC.C p n c w (φ λv w'=>∃bU aT,v=.slice bU n aT/\θ w w'/\μ w' w.heap.size 5 1 bU n aT xs):=by
 apply yC.ok;unfold yC.main;cases p with
 |none=>
  have:xs=[]:=π
  subst this
  have:n=0:=by simpa using an.symm
  subst this
  try dsimp only[JP,BM]
  exact φ.mk ⟨none,0,rfl,θ.refl w,μ.nil _ _ _ _⟩
 |some a=>
  try dsimp only[mB,jb]
  rintro ε δ rfl rfl;have aE:=μ.alloc (w:=w) [] 5 1 0 rfl;have I:=θ.alloc w (.cells #[] 5);refine kT aE (by have:=I.size;exact this) xs (a8.ex I π) (by omega) h1 rfl (by omega) (by omega) λbU aT w' jO hk=>?_;rw[mN]at jO⊢;rw[r9]at jO;exact φ.mk ⟨bU,aT,rfl,I.then hk (λi⟨x,e,o⟩=>by cases e;exact Ii o),jO⟩
def vT(d:dm)(i:Int):Int:=if d.off then 10 else if i<0\/(d.now.length:Int)<=i then 5 else 0
theorem Bo{w:World}{B pd:Nat}{d:dm}{D:a1}(h:hZ w B pd d D)(bL:Good d)(i:Int):BF.C (some ⟨pd,0,none⟩) i w (φ λv w'=>θ w w'/\((vT d i≠0/\v=.tuple #[.slice none 0 0,.int .i64 (vT d i)])\/
  (vT d i=0/\∃p c s,d.now[i.toNat]?=some s/\v=.tuple #[.slice p 64 c,.int .i64 0]/\μ w' w.heap.size 5 1 p 64 c (mR s)))):=by
 apply BF.ok;unfold BF.main;refine κ.use (Wb h) ?_;rintro _ δ ⟨rfl,rfl⟩;obtain⟨bF,bn,pl,kF,h,b1⟩:=h
 try dsimp only[bj,bH]
 unfold vT;cases Kw:d.off with
 |true=>
  simp only[o9];rw[cond_pos (by decide)];exact φ.mk ⟨θ.refl _,.inl ⟨by decide,rfl⟩⟩
 |false=>
  simp only[wC,q5];rw[cond_neg (by decide)];simp only[dF];refine bA (λπ=>?_) λπ=>?_
  ·have π:=cd π;rw[aY (.inl π)];exact φ.mk ⟨θ.refl _,.inl ⟨by decide,rfl⟩⟩
  have π:=dh π;refine⟨_,_,_,h.cell.at (j:=1) rfl,bA (λjY=>?_) λjY=>?_⟩
  ·have jY:=cd jY;rw[aY (.inr (by omega))];exact φ.mk ⟨θ.refl _,.inl ⟨by decide,rfl⟩⟩
  have jY:=dh jY;rw[aN (by omega)];refine⟨_,_,_,h.cell.at (j:=1) rfl,aW (by omega) (aW (by omega) ?_)⟩;have bQ:i.toNat<d.now.length:=by omega
  have ψ:=List.getElem?_eq_getElem bQ;have l5:=bL.now _ (hN bQ);obtain⟨a,aP,j0⟩:=(h.no.cells).row (rows:=d.now.map mR) (Wr bL.now) (by decide) (i:=i.toNat) (r:=mR d.now[i.toNat]) (by rw[List.getElem?_map,ψ];rfl);cases aP;have hI:dA (some ((⟨bn,0,none⟩:Addr).add (i.toNat*64))) 64 0 1=some ((⟨bn,0,none⟩:Addr).add (i.toNat*64)):=by unfold dA;rw[aN (by decide),jd];exact gN some (Addr.add_zero' _)
  try dsimp only[bj]
  rw[hI];refine κ.use (Jg _ 64 64 (mR d.now[i.toNat]) _ j0 (by rw[zH];exact l5.1) (by omega) (QH _)) ?_;rintro _ aa ⟨bU,aT,rfl,ab,bu⟩
  try dsimp only[er]
  exact φ.mk ⟨ab,.inr ⟨rfl,bU,aT,_,ψ,rfl,bu⟩⟩
structure h0 where
 i:Int
 bF:ao
 p:J
 n:Nat
 c:Nat
def h0.cells(x:h0):aU:=[.int .i64 x.i,.slice x.p x.n x.c]
structure GX(w:World)(D:a1)(x:h0):Prop where
 cells:np w D x.p (mR x.bF)
 len:x.bF.length=x.n
 wf:∀b∈x.bF,0<=b/\b<256
theorem nm{a:Int}{p:J}{n m:Nat}:∀y∈[Value.int .i64 a,.slice p n m],y.oneCell'=true:=by intro y ag;simp only[fE,oj,pa]at ag;rcases ag with rfl|rfl<;>rfl
def dj(d:dm)(i:Int)(s:ao):dm:={d with now:=d.now.set i.toNat s,loose:=d.loose++[(i,s)]}
def x0:dm->List (Int×ao)->dm×Int
 |d,[]=>(d,0)
 |d,x::r=>if(km d).off then(km d,10)else x0 (dj (km d) x.1 x.2) r
def wide(x:Int×ao):Bool:=x.2.length !=64
def out(n:Nat)(x:Int×ao):Bool:=decide (x.1<0)||decide (x.1>=(n:Int))
def zT(d:dm)(ws:List (Int×ao)):dm×Int:=
 if d.off then(d,10)else if ws.any wide then(d,6)else if ws.any (out d.now.length)then(d,5)else x0 d ws
def h0.plain(x:h0):Int×ao:=(x.i,x.bF)
theorem oO{α:Type}{l:List α}{i:Nat}(h:i<l.length):∃x,l[i]?=some x/\x∈l/\l.drop i=x::l.drop (i+1):=⟨l[i],List.getElem?_eq_getElem h,hN h,Ij h⟩
theorem Wi{w:World}{p:J}{ws:List h0}(h:a8 w p (ws.map h0.cells).flatten){i:Nat}{x:h0}(o:ws[i]?=some x):∃a,p=some a/\aw w (a.add (i*2)) x.cells:=
 h.row (λr σ=>by obtain⟨q,_,rfl⟩:=gM.1 σ;rfl) (by decide) (by rw[List.getElem?_map,o];rfl)
theorem al8(x:h0)(w:World):Dy.C x.i x.p x.n x.c w (φ λv w'=>v=.bool ((x.n:Int)!=64)/\θ w w'):=by apply Dy.ok;unfold Dy.main;rintro ε δ rfl rfl;have ρ:=μ.new (w:=w) x.cells 130;have ζ:=θ.alloc w (.cells x.cells.toArray 130);exact⟨_,_,_,ρ.at (j:=1) rfl,φ.mk ⟨rfl,ζ⟩⟩
theorem al9(x:h0){w:World}{B B' pd q:Nat}{d:dm}{D:a1}(h:hZ w B pd d D)(ay:μ w B' 23 1 (some ⟨q,0,none⟩) 1 1 [.pointer (some ⟨pd,0,none⟩)]):Dz.C x.i x.p x.n x.c q w (φ λv w'=>v=.bool (out d.now.length (x.i,x.bF))/\θ w w'):=by
 apply Dz.ok;unfold Dz.main;rintro ε δ rfl rfl;have ρ:=μ.new (w:=w) x.cells 130;have ζ:=θ.alloc w (.cells x.cells.toArray 130);unfold out;refine⟨_,ρ.at (j:=0) rfl,bA (λπ aZ=>?_) λπ=>?_⟩
 ·rw[π];exact φ.mk ⟨rfl,ζ.trans (θ.drewN _ _)⟩
 ·rw[π];obtain⟨bF,bn,pl,kF,h,b1⟩:=h.ex ζ;refine⟨_,ρ.at (j:=0) rfl,_,(ay.ex ζ).at (j:=0) rfl,?_⟩
  try dsimp only[bj]
  simp only[dF];refine⟨_,_,_,h.cell.at (j:=1) rfl,λaZ=>φ.mk ⟨by rw[Bool.false_or],ζ.trans (θ.drewN _ _)⟩⟩
theorem Nc{α:Type}{P:α->Bool}{l:List α}{i:Nat}{x:α}(o:l[i]?=some x)(I:P x=true):l.any P=true:=Py.2 ⟨x,eS o,I⟩
theorem any_none{α:Type}{P:α->Bool}{l:List α}(h:∀(j:Nat)x,j<l.length->l[j]?=some x->P x=false):l.any P=false:=by
 rw[Ik];intro x I;obtain⟨j,χ⟩:=List.getElem?_of_mem I
 have:=h j x (List.getElem?_eq_some_iff.1 χ).1 χ
 simp[this]
theorem anc{w:World}{D:a1}{mL:J}{n c:Nat}{ws:List h0}(ar:ws.length=n)(an:a8 w mL (ws.map h0.cells).flatten)(hw:∀x∈ws,GX w D x)(ω:n<=1000000000000000):
  yx.C mL n c (.func (.func 104) #[] #[]) w (φ λv w'=>v=.bool ((ws.map h0.plain).any wide)/\θ w w'):=by
 apply yx.ok;unfold yx.main;have main:ua.C mL n c w (φ λv w'=>∃r,v=.int .i64 r/\decide (r>=0)=(ws.map h0.plain).any wide/\θ w w'):=by
  apply ua.ok;unfold ua.main;refine⟨λcj cb cu t7 t8 w'=>mL=cj/\n=cb/\c=cu/\t7=(n:Int)/\0<=t8/\t8<=(n:Int)/\θ w w'/\∀(j:Nat)x,j<t8.toNat->(ws.map h0.plain)[j]?=some x->wide x=false,λcj cb cu t7 t8 w'=>((n:Int)-t8).toNat,?_,?_⟩
  ·exact⟨rfl,rfl,rfl,rfl,by omega,by omega,θ.refl w,λj x χ=>by simp at χ⟩
  rintro _ _ _ _ t8 δ ⟨rfl,rfl,rfl,rfl,aF,h1,ζ,n4⟩;unfold ua.ε;refine bA (λπ=>?_) λπ=>?_
  ·have π:=cd π;obtain⟨x,I,ER,_⟩:=oO (l:=ws) (i:=t8.toNat) (by omega);obtain⟨a,rfl,j0⟩:=Wi (an.ex ζ) I;refine aW aF (aW π ⟨x.cells.toArray,rfl,j0,?_⟩);refine κ.use (al8 x δ) ?_;rintro _ υ ⟨rfl,τ⟩
   try dsimp only[dH]
   have hp:(ws.map h0.plain)[t8.toNat]?=some x.plain:=by rw[List.getElem?_map,I];rfl
   have he:((x.n:Int)!=64)=wide x.plain:=by unfold wide h0.plain;rw[<-(hw x ER).len];rw[Bool.eq_iff_iff];simp;omega
   rw[he];refine bA (λag=>?_) λag=>?_
   ·exact φ.mk ⟨t8,rfl,by rw[Nc hp ag];simpa using aF,ζ.trans τ⟩
   ·rw[b3 (by omega) (by omega)];refine⟨⟨rfl,rfl,rfl,rfl,by omega,by omega,ζ.trans τ,λj y χ s6=>?_⟩,by omega⟩;by_cases Kn:j<t8.toNat
    ·exact n4 j y Kn s6
    ·have:j=t8.toNat:=by omega
     subst this;rw[hp]at s6;cases s6;exact ag
  ·have π:=dh π;refine φ.mk ⟨-1,rfl,?_,ζ⟩;rw[any_none λj x χ I=>n4 j x (by simp at χ;omega) I];decide
 refine κ.use main ?_;rintro _ δ ⟨r,rfl,σ,ζ⟩
 try dsimp only[bH]
 rw[σ];exact φ.mk ⟨rfl,ζ⟩
theorem ane{w:World}{B B' pd q:Nat}{d:dm}{D:a1}(h:hZ w B pd d D)(ay:μ w B' 23 1 (some ⟨q,0,none⟩) 1 1 [.pointer (some ⟨pd,0,none⟩)]){mL:J}{n c:Nat}{ws:List h0}(ar:ws.length=n)(an:a8 w mL (ws.map h0.cells).flatten)(ω:n<=1000000000000000):
  yx.C mL n c (.func (.func 105) #[] #[.pointer (some ⟨q,0,none⟩)]) w (φ λv w'=>v=.bool ((ws.map h0.plain).any (out d.now.length))/\θ w w'):=by
 apply yx.ok;unfold yx.main;have main:ub.C mL n c q w (φ λv w'=>∃r,v=.int .i64 r/\decide (r>=0)=(ws.map h0.plain).any (out d.now.length)/\θ w w'):=by
  apply ub.ok;unfold ub.main;refine⟨λcj cb cu t1 t7 t8 w'=>mL=cj/\n=cb/\c=cu/\q=t1/\t7=(n:Int)/\0<=t8/\t8<=(n:Int)/\θ w w'/\∀(j:Nat)x,j<t8.toNat->(ws.map h0.plain)[j]?=some x->out d.now.length x=false,λcj cb cu t1 t7 t8 w'=>((n:Int)-t8).toNat,?_,?_⟩
  ·exact⟨rfl,rfl,rfl,rfl,rfl,by omega,by omega,θ.refl w,λj x χ=>by simp at χ⟩
  rintro _ _ _ _ _ t8 δ ⟨rfl,rfl,rfl,rfl,rfl,aF,h1,ζ,n4⟩;unfold ub.ε;refine bA (λπ=>?_) λπ=>?_
  ·have π:=cd π;obtain⟨x,I,ER,_⟩:=oO (l:=ws) (i:=t8.toNat) (by omega);obtain⟨a,rfl,j0⟩:=Wi (an.ex ζ) I;refine aW aF (aW π ⟨x.cells.toArray,rfl,j0,?_⟩);refine κ.use (al9 x (h.ex ζ) (ay.ex ζ)) ?_;rintro _ υ ⟨rfl,τ⟩
   try dsimp only[dH]
   have hp:(ws.map h0.plain)[t8.toNat]?=some x.plain:=by rw[List.getElem?_map,I];rfl
   refine bA (λag=>?_) λag=>?_
   ·exact φ.mk ⟨t8,rfl,by rw[Nc hp ag];simpa using aF,ζ.trans τ⟩
   ·rw[b3 (by omega) (by omega)];refine⟨⟨rfl,rfl,rfl,rfl,rfl,by omega,by omega,ζ.trans τ,λj y χ s6=>?_⟩,by omega⟩;by_cases Kn:j<t8.toNat
    ·exact n4 j y Kn s6
    ·have:j=t8.toNat:=by omega
     subst this;rw[hp]at s6;cases s6;exact ag
  ·have π:=dh π;refine φ.mk ⟨-1,rfl,?_,ζ⟩;rw[any_none λj x χ I=>n4 j x (by simp at χ;omega) I];decide
 refine κ.use main ?_;rintro _ δ ⟨r,rfl,σ,ζ⟩
 try dsimp only[bH]
 rw[σ];exact φ.mk ⟨rfl,ζ⟩
theorem VV{d:dm}(h:Good d){i:Int}{s:ao}(o:0<=i/\i<(d.now.length:Int))(ψ:kP s):Good (dj d i s):=by
 refine⟨?_,?_,h.sure,?_,?_,h.after⟩
 ·simp only[dj,jB];exact h.len
 ·simp only[dj,jB];exact h.fZ
 ·intro t aO;rcases pH aO with aO|rfl
  ·exact h.now t aO
  ·exact ψ
 ·intro p hp;simp only[dj,jB]at hp⊢;rcases iI.1 hp with hp|hp
  ·exact h.loose p hp
  ·simp only[lp]at hp;subst hp;exact⟨o.1,o.2,ψ⟩
theorem ap6(l:List (Int×ao))(p:Int×ao):OW l++y9 p=OW (l++[p]):=by simp[OW]
theorem atd{l:List ao}{i:Nat}{s:ao}(h:∀s∈l,kP s)(o:i<l.length)(ψ:kP s):(u6 l).take (i*64)++mR s++(u6 l).drop (i*64+(mR s).length)=u6 (l.set i s):=by unfold u6;rw[Z9 _ i (mR s) (Wr h) (by simpa using o) (by rw[zH];exact ψ.1),q6]
theorem row_one(i:Int)(s:ao):∀y∈y9 (i,s),y.oneCell'=true:=by
 intro y ag;rcases fE.1 ag with rfl|ag
 ·rfl
 ·exact QH s y ag
theorem ajo{w:World}{B pd ε:Nat}{d:dm}{D:a1}(h:hZ w B pd d D)(bL:Good d)(dR:B<=w.heap.size)(ay:μ w 0 23 1 (some ⟨ε,0,none⟩) 1 1 [.pointer (some ⟨pd,0,none⟩)]){mL:J}{n c:Nat}{ws:List h0}(ar:ws.length=n)(an:np w D mL (ws.map h0.cells).flatten)(ω:n<=1000000000)(TD:d.loose.length<=1000000000){t:Int}(aO:0<=t/\t<(n:Int)){x:h0}(I:ws[t.toNat]?=some x)(dq:GX w D x)(o:0<=x.i/\x.i<(d.now.length:Int))(hlen:x.bF.length=64)
  {S:Value->ai}{aS:Nat->J->Nat->Nat->Int->Int->ai}
  (Kw:∀w',(km d).off=true->hZ w' B pd (km d) D->Kp w w' D->S (.int .i64 10) w')
  (Ui:∀w' bb,(km d).off=false->hZ w' B pd (dj (km d) x.i x.bF) bb->Kp w w' D->(∀i,bb i->D i\/w.heap.size<=i)->aS ε mL n c (n:Int) (t+1) w'):
  rE.ε ε mL n c (n:Int) t w (φ S) aS:=by
 unfold rE.ε;obtain⟨a,rfl,j0⟩:=Wi an.now I;refine bA (λ_=>?_) (λπ=>by have:=dh π;omega);refine aW aO.1 (aW aO.2 ⟨x.cells.toArray,rfl,j0,?_⟩);rintro af b9 rfl rfl;have ff:=μ.new (w:=w) [.int .i64 0,.slice none 0 0] 130;have ct:=θ.alloc w (.cells #[.int .i64 0,.slice none 0 0] 130);generalize w.alloc (.cells #[.int .i64 0,.slice none 0 0] 130)=b9 at ff ct⊢;refine aW rfl ?_
 try dsimp only[iG]
 refine ff.put (by rfl) nm λca hU jm=>?_;have cv:θ w ca:=ct.then hU λi o=>by rw[o];exact eF _
 have kD:=h.ex cv;have jm:μ ca w.heap.size 130 2 (some ⟨w.heap.size,0,none⟩) 1 1 [.int .i64 x.i,.slice x.p x.n x.c]:=jm;refine⟨_,(ay.ex cv).at (j:=0) rfl,?_⟩;refine κ.use (aeI kD bL) ?_;rintro _ dk ⟨rfl,p8,uM⟩
 try dsimp only[dH]
 have C7:Kp w dk D:=(cv.aC _).gr uM;refine bA (λbf=>φ.mk (Kw dk bf p8 C7)) λbf=>?_;have OC:=(Le kD uM (ay.ex cv) (by decide) (by decide) (by decide)).ex (θ.drew dk);have qk:=(Le kD uM jm (by decide) (by decide) (by decide)).ex (θ.drew dk);have C7:Kp w dk.drew D:=C7.gr ((θ.drew dk).aC _);have p8:=p8.ex (θ.drew dk);generalize dk.drew=dk at OC qk C7 p8⊢;have Ux:=Qb d;have oR:=Qa bL;generalize vX:km d=d' at p8 Ux oR bf Ui;rw[<-Ux.2.1]at o;rw[<-Ux.2.2]at TD;clear Kw;obtain⟨bF,bn,pl,kF,p8,b1⟩:=p8;refine⟨_,OC.at (j:=0) rfl,?_⟩
 try dsimp only[bj]
 simp only[dF];refine⟨_,_,_,p8.cell.at (j:=1) rfl,_,qk.at (j:=0) rfl,_,_,_,qk.at (j:=1) rfl,?_⟩;have abw:x.n=64:=by rw[<-dq.len];exact hlen
 rw[abw];refine aW (by omega) ?_;have aa3:∀w',Kp w w' D->∃a3,x.p=some a3/\aw w' a3 (mR x.bF):=λw' k=>by have π:=dq.cells w' k;obtain⟨b,s3,_⟩:=oO (l:=x.bF) (i:=0) (by omega);obtain⟨a3,J8,_⟩:=π.one (v:=.int .u8 b) (by unfold mR;rw[List.getElem?_map,s3];rfl);rw[J8]at π;exact⟨a3,J8,π⟩
 obtain⟨a3,J8,n1⟩:=aa3 _ C7;have h8:kP x.bF:=⟨hlen,dq.wf⟩;refine gK J8 ⟨(mR x.bF).toArray,by simp[zH,hlen],n1,aW o.1 (aW o.2 (aW (by simp[zH,hlen]) ?_))⟩;have aod:x.i.toNat<d'.now.length:=by omega
 obtain⟨cW,fO,lP⟩:=p8.no.writes (x.i.toNat*64) (mR x.bF) (by rw[zH,hlen];omega) (QH _);refine⟨cW,λcn abV=>?_⟩;have D3:k1 dk (some ⟨bn,0,none⟩) (x.i.toNat*64) (mR x.bF)=cn:=by rw[abV,yv,Ju];rfl
 rw[D3,atd oR.now aod h8]at fO;rw[D3]at lP;have lP:Kp dk cn λi=>i=bn:=lP.mono λi _⟨x,I,o⟩=>by cases I;exact o.symm
 clear D3 cW abV;have Ml:∀i,i=bn->Typed dk 82 i:=λi o=>o▸(p8.no.typed rfl).1;have OD:=(OC.cI lP 82 Ml (by decide)).ex (θ.drew cn);have AK:=(qk.cI lP 82 Ml (by decide)).ex (θ.drew cn);have R4:=(p8.cell.cI lP 82 Ml (by decide)).ex (θ.drew cn);have aeY:=(p8.Gn.aC lP λy ag hm=>by cases ag;exact p8.ne hm).ex (θ.drew cn);have acj:=(p8.e6.cI lP 82 Ml (by decide)).ex (θ.drew cn);have acK:=fO.ex (θ.drew cn);have Jl:Kp w cn.drew D:=C7.gr ((lP.mono λi _ o=>(b1 i).2 (.inr (.inr (.inl o)))).gr ((θ.drew cn).aC _));clear fO lP Ml OC qk n1 C7 J8
 try dsimp only
 generalize cn.drew=cn at OD AK R4 aeY acj acK Jl⊢;refine⟨_,OD.at (j:=0) rfl,_,OD.at (j:=0) rfl,?_⟩
 try dsimp only[bj]
 simp only[dF];refine⟨_,_,_,R4.at (j:=2) rfl,_,AK.at (j:=0) rfl,_,_,_,AK.at (j:=1) rfl,?_⟩;rw[abw];refine aW (by omega) ?_;obtain⟨aj5,am6,anB⟩:=aa3 _ Jl;refine gK am6 ⟨(mR x.bF).toArray,by simp[zH,hlen],anB,gK (amh 64 _ (mR x.bF).toArray (.int .i64 x.i) (by rfl) rfl (by simp[zH,hlen])) ?_⟩;refine gK (NS 65 _ _ (by rw[size_madeCells]) (by simp[zH,hlen])) ?_;rintro gb de rfl rfl;have gV:=θ.alloc cn (.cells (y9 (x.i,x.bF)).toArray 189);have Zb:a8 (cn.alloc (.cells (y9 (x.i,x.bF)).toArray 189)) (some ⟨cn.heap.size,0,none⟩) (y9 (x.i,x.bF)):=a8.alloc _ 189;have alW:(Value.int .i64 x.i::(mR x.bF).toArray.toList).toArray=(y9 (x.i,x.bF)).toArray:=rfl;rw[alW];generalize cn.alloc (.cells (y9 (x.i,x.bF)).toArray 189)=de at gV Zb⊢;have Zl:=R4.ex gV;have Ur:=OD.ex gV;have ack:=acj.ex gV;have amM:B<=cn.heap.size:=fo dR Jl.size;refine⟨Zl.at (j:=2) rfl,Ur.at (j:=0) rfl,Ur.at (j:=0) rfl,?_⟩;refine By ack (fo amM gV.size) (y9 (x.i,x.bF)) Zb (by simp[y9,zH,hlen]) (row_one _ _) (by rfl) (by omega) (by omega) λbl bJ dJ r3 oY na=>?_;have t68:∀i,(∃y,pl=some y/\y.block=i)->Typed de 189 i:=λi⟨y,ag,o⟩=>o▸(ack.typed ag).1;have Zm:=Zl.cI oY 189 t68 (by decide);have aoQ:=Ur.cI oY 189 t68 (by decide);have atN:=(aeY.ex gV).cI oY 189 t68 (by decide);have aqG:=(acK.ex gV).cI oY 189 t68 (by decide);have ai1:Kp w dJ D:=(Jl.gr (gV.aC _)).gr (oY.mono λi _ o=>(b1 i).2 (.inr (.inr (.inr o))));refine⟨aoQ.at (j:=0) rfl,?_⟩;refine Zm.dj (j:=2) (by show 2<1*5;omega) rfl λep rW akF=>?_;have t62:∀i,i=pd->Typed dJ 78 i:=λi o=>o▸(Zm.typed rfl).1;have ai2:Kp w ep D:=ai1.gr (rW.mono λi _ o=>(b1 i).2 (.inl o));rw[b3 (by omega) (by omega)];rw[ap6]at r3;have TL:(dj d' x.i x.bF).now.length=d'.now.length:=by simp[dj]
 have abn:(dj d' x.i x.bF).loose.length=d'.loose.length+1:=by simp[dj]
 refine Ui ep (Jk pd bF bn bl) bf ⟨bF,bn,bl,bJ,⟨?_,?_,?_,?_,p8.ne⟩,λi=>nh⟩ ai2 λi o=>?_
 ·rw[TL,abn];exact akF
 ·rw[TL];exact atN.cI rW 78 t62 (by decide)
 ·rw[TL];exact aqG.cI rW 78 t62 (by decide)
 ·rw[abn];exact r3.cI rW 78 t62 (by decide)
 ·rcases o with o|o|o|⟨y,ag,o⟩
  ·exact .inl ((b1 i).2 (.inl o))
  ·exact .inl ((b1 i).2 (.inr (.inl o)))
  ·exact .inl ((b1 i).2 (.inr (.inr (.inl o))))
  ·rcases na with na|na
   ·rw[na]at ag;exact .inl ((b1 i).2 (.inr (.inr (.inr ⟨y,ag,o⟩))))
   ·have:=na y ag
    have:=Jl.size
    have:=gV.size
    exact .inr (by omega)
theorem GX.step{w δ:World}{D e5:a1}{x:h0}(h:GX w D x)(k:Kp w δ D)(b1:∀i,i<w.heap.size->e5 i->D i):GX δ e5 x:=⟨h.cells.step k b1,h.len,h.wf⟩
theorem any_false{α:Type}{P:α->Bool}{l:List α}(h:l.any P=false){x:α}(I:x∈l):P x=false:=by
 rw[Ik]at h
 have:=h x I
 simpa using this
def C1(w:World)(B pd:Nat)(d:dm)(D:a1)(w':World):Prop:=∃bb,hZ w' B pd d bb/\Good d/\Kp w w' D/\∀i,bb i->D i\/w.heap.size<=i
theorem Jp{w:World}{B pd:Nat}{d:dm}{D:a1}(h:hZ w B pd d D)(bL:Good d)(dR:B<=w.heap.size){mL:J}{n c:Nat}{ws:List h0}(ar:ws.length=n)(an:np w D mL (ws.map h0.cells).flatten)(hw:∀x∈ws,GX w D x)(ω:n<=100000000)(TD:d.loose.length+n<=1000000000):
  rE.C (some ⟨pd,0,none⟩) mL n c w (φ λv w'=>v=.int .i64 (zT d (ws.map h0.plain)).2/\C1 w B pd (zT d (ws.map h0.plain)).1 D w'):=by
 apply rE.ok;unfold rE.main;rintro ε δ rfl rfl;have ρ:=(μ.new (w:=w) [.pointer (some ⟨pd,0,none⟩)] 23).lower (da _);have ζ:=θ.alloc w (.cells #[.pointer (some ⟨pd,0,none⟩)] 23);generalize w.alloc (.cells #[.pointer (some ⟨pd,0,none⟩)] 23)=δ at ρ ζ⊢;have same:∀w',θ w w'->C1 w B pd d D w':=λw' x=>⟨D,h.ex x,bL,x.aC _,λi o=>.inl o⟩;refine⟨_,ρ.at (j:=0) rfl,?_⟩;refine κ.use (Wb (h.ex ζ)) ?_;rintro _ υ ⟨rfl,rfl⟩
 try dsimp only[bH]
 unfold zT;cases Kw:d.off with
 |true=>
  simp only[o9];rw[cond_pos (by decide)];exact φ.mk ⟨rfl,same _ ζ⟩
 |false=>
  simp only[wC,q5];rw[cond_neg (by decide)];refine κ.use (anc (D:=D) ar (an.now.ex ζ) (λx I=>(hw x I).step (ζ.aC _) λi _ o=>o) (by omega)) ?_;rintro _ ax ⟨rfl,aA⟩
  try dsimp only[dH]
  refine bA (λπ=>?_) λπ=>?_
  ·rw[π];exact φ.mk ⟨rfl,same _ (ζ.trans aA)⟩
  rw[π];simp only[wC,q5];have js:=ζ.trans aA;refine κ.use (ane (h.ex js) (ρ.ex aA) ar (an.now.ex js) (by omega)) ?_;rintro _ ba ⟨rfl,aJ⟩
  try dsimp only[dH]
  refine bA (λjY=>?_) λjY=>?_
  ·rw[jY];exact φ.mk ⟨rfl,same _ (js.trans aJ)⟩
  rw[jY];simp only[wC,q5];have jR:=js.trans aJ;refine⟨λt2 L8 L7 Qi t19 t20 w'=>t2=w.heap.size/\mL=L8/\n=L7/\c=Qi/\t19=(n:Int)/\0<=t20/\t20<=(n:Int)/\∃d' bb,hZ w' B pd d' bb/\Good d'/\Kp w w' D/\(∀i,bb i->D i\/w.heap.size<=i)/\μ w' 0 23 1 (some ⟨w.heap.size,0,none⟩) 1 1 [.pointer (some ⟨pd,0,none⟩)]/\
   x0 d' ((ws.map h0.plain).drop t20.toNat)=x0 d (ws.map h0.plain)/\(d'.loose.length:Int)<=(d.loose.length:Int)+t20/\d'.now.length=d.now.length,λt2 L8 L7 Qi t19 t20 w'=>((n:Int)-t20).toNat,?_,?_⟩
  ·exact⟨rfl,rfl,rfl,rfl,rfl,by omega,by omega,d,D,h.ex jR,bL,jR.aC _,λi o=>.inl o,(ρ.ex aA).ex aJ,rfl,by omega,rfl⟩
  rintro _ _ _ _ _ t bk ⟨rfl,rfl,rfl,rfl,rfl,aF,h1,d',bb,h7,Oo,tW,J4,eM,Au,gg,Ox⟩;by_cases n1:t<(n:Int)
  ·obtain⟨x,I,ER,Ol⟩:=oO (l:=ws) (i:=t.toNat) (by omega);have Uo:x.plain∈ws.map h0.plain:=gM.2 ⟨x,ER,rfl⟩;have abW:x.bF.length=64:=by
    have:=any_false π Uo
    simpa[wide,h0.plain]using this
   have abG:0<=x.i/\x.i<(d'.now.length:Int):=by
    have:=any_false jY Uo
    unfold out h0.plain at this;rw[Pz,Lz,Lz]at this;obtain⟨cS,fX⟩:=this;dsimp only at cS fX;rw[Ox];omega
   have HG:∀i,i<w.heap.size->bb i->D i:=λi o ae=>by
    rcases J4 i ae with ae|ae
    ·exact ae
    ·omega
   rw[<-x2,Ol,x1]at Au;have N9:B<=bk.heap.size:=fo dR tW.size;refine ajo (S:=λv w'=>v=.int .i64 (x0 d (ws.map h0.plain)).2/\C1 w B pd (x0 d (ws.map h0.plain)).1 D w') h7 Oo N9 eM ar (an.step tW HG) (by omega) (by omega) ⟨aF,n1⟩ I ((hw x ER).step tW HG) abG abW (λw' bf vX k'=>?_) λw' cM bf vX k' Tj=>?_
   ·rw[<-Au];unfold x0;rw[aY bf];exact⟨rfl,bb,vX,Qa Oo,Kp.trans tW k' (λ_ _ h=>h) HG,J4⟩
   ·have ψ:=Qb d';refine⟨⟨rfl,rfl,rfl,rfl,rfl,by omega,by omega,_,cM,vX,VV (Qa Oo) (by rw[ψ.2.1];exact abG) ⟨abW,(hw x ER).wf⟩,Kp.trans tW k' (λ_ _ h=>h) HG,λi o=>?_,Le h7 k' eM (by decide) (by decide) (by decide),?_,?_,?_⟩,by((try dsimp only);omega)⟩
    ·rcases Tj i o with o|o
     ·exact J4 i o
     ·exact .inr (fo tW.size o)
    ·rw[<-Au,show(t+1).toNat=t.toNat+1 by omega,<-x2]
     conv=>rhs;unfold x0
     rw[aN (by rw[bf];decide)];rfl
    ·simp only[dj,ψ.2.2,e9,List.length_cons,List.length_nil];omega
    ·simp only[dj,ψ.2.1,jB];exact Ox
  ·unfold rE.ε;rw[iM n1];rw[q7 (by rw[jP];omega)]at Au;rw[<-Au];exact φ.mk ⟨rfl,bb,h7,Oo,tW,J4⟩
def flush(d:dm):dm×Int:=if d.off then(d,10)else if(km d).off then(km d,10)else({km d with sure:=d.now,loose:=[]},0)
theorem aiT{w:World}{B pd:Nat}{d:dm}{D:a1}(h:hZ w B pd d D)(bL:Good d):Dx.C (some ⟨pd,0,none⟩) w (φ λv w'=>v=.int .i64 (flush d).2/\C1 w B pd (flush d).1 D w'):=by
 apply Dx.ok;unfold Dx.main;refine κ.use (Wb h) ?_;rintro _ δ ⟨rfl,rfl⟩
 try dsimp only[bj,bH]
 unfold flush;cases Kw:d.off with
 |true=>
  simp only[o9];rw[cond_pos (by decide)];exact φ.mk ⟨rfl,D,h,bL,Kp.refl _ _,λi o=>.inl o⟩
 |false=>
  simp only[wC,q5];rw[cond_neg (by decide)];refine κ.use (aeI h bL) ?_;rintro _ aa ⟨rfl,au,b7⟩
  try dsimp only[dH]
  have oR:=Qa bL;have ψ:=Qb d;refine bA (λbf=>?_) λbf=>?_
  ·rw[aY bf];exact φ.mk ⟨rfl,D,au,oR,b7,λi o=>.inl o⟩
  rw[aN (by rw[bf];decide)];obtain⟨bF,bn,pl,kF,au,b1⟩:=au.ex (θ.drew aa);have b7:=b7.gr ((θ.drew aa).aC _);generalize aa.drew=aa at au b7⊢;simp only[dF];refine⟨_,_,_,au.cell.at (j:=0) rfl,_,_,_,au.cell.at (j:=1) rfl,?_⟩;refine ak1 au.Gn au.no.cells (aeq oR.now) (eF _) (atc _) λaG cz ea=>?_;have hlen:(u6 (km d).sure).drop ((km d).now.length*64)=[]:=q7 (by rw[aeq oR.sure,oR.len];exact eF _);rw[hlen,pI]at cz;have ea:Kp aa aG λi=>i=bF:=ea.mono λi _⟨x,I,o⟩=>by cases I;exact o.symm
  have at5:∀i,i=bF->Typed aa 82 i:=λi o=>o▸(au.Gn.typed rfl).1;have h2:=au.cell.cI ea 82 at5 (by decide);have pF:=au.no.aC ea λx I hm=>by cases I;exact au.ne hm.symm
  refine h2.dj (j:=2) (by show 2<1*5;omega) rfl λba dP nt=>?_;have t62:∀i,i=pd->Typed aG 78 i:=λi o=>o▸(h2.typed rfl).1;refine φ.mk ⟨rfl,Jk pd bF bn none,⟨bF,bn,none,0,⟨nt,?_,?_,μ.nil _ _ _ _,au.ne⟩,λi=>nh⟩,?_,(b7.gr (ea.mono λi _ o=>(b1 i).2 (.inr (.inl o)))).gr (dP.mono λi _ o=>(b1 i).2 (.inl o)),λi o=>.inl ?_⟩
  ·have:=cz.cI dP 78 t62 (by decide)
   rw[ψ.2.1]at this⊢;exact this
  ·exact pF.cI dP 78 t62 (by decide)
  ·exact⟨by rw[ψ.2.1],oR.fZ,by rw[<-ψ.2.1];exact oR.now,oR.now,λp hp=>(by cases hp),oR.after⟩
  ·rcases o with o|o|o|⟨x,I,_⟩
   ·exact(b1 i).2 (.inl o)
   ·exact(b1 i).2 (.inr (.inl o))
   ·exact(b1 i).2 (.inr (.inr (.inl o)))
   ·cases I
theorem ar8{d:dm}(h1:d.after=-1)(η:d.off=false){i:Int}{s:ao}(o:0<=i/\i<(d.now.length:Int))(ψ:s.length=64):zT d [(i,s)]=(dj d i s,0):=by
 have mF:km d=d:=by unfold km;rw[aN (by omega),aN (by omega)]
 unfold zT;rw[aN (by rw[η];decide),aN (by simp[wide,ψ]),aN (by simp[out];omega)];unfold x0;rw[mF,aN (by rw[η];decide)];rfl
theorem amo{d:dm}(h1:d.after=-1)(η:d.off=false):flush d=({d with sure:=d.now,loose:=[]},0):=by
 have mF:km d=d:=by unfold km;rw[aN (by omega),aN (by omega)]
 unfold flush;rw[mF,aN (by rw[η];decide),aN (by rw[η];decide)]
end Go.Proofs.YtcpdfhkhaekekaaGreat.G.bh
namespace Go.Proofs.YtcpdfhkhaekekaaGreat.G.dB
open Go.bI Go.RowKit
def cw(k:Int):Nat:=FloatKind.f64.nearest k
def qJ(x:Int):Prop:=0<=x/\x<256
theorem amm:∀k:Fin 256,ey .geq (cw (k.val:Int)) 0=true/\ey .lss (cw (k.val:Int)) (FloatKind.f64.nearest 24)=decide ((k.val:Int)<24)/\ey .lss (cw (k.val:Int)) (FloatKind.f64.nearest 16)=decide ((k.val:Int)<16)/\
 (FloatKind.f64.decode (cw (k.val:Int))).toInt .zero=some (k.val:Int)/\ey .eql (cw (k.val:Int)) (cw (k.val:Int))=true/\ey .eql (cw (k.val:Int)) 0=decide ((k.val:Int)=0):=by decide+kernel
theorem JU{x:Int}(h:qJ x):ey .geq (cw x) 0=true/\ey .lss (cw x) (FloatKind.f64.nearest 24)=decide (x<24)/\ey .lss (cw x) (FloatKind.f64.nearest 16)=decide (x<16)/\
  (FloatKind.f64.decode (cw x)).toInt .zero=some x/\ey .eql (cw x) (cw x)=true/\ey .eql (cw x) 0=decide (x=0):=by
 obtain⟨aF,h1⟩:=h;obtain⟨n,rfl⟩:=eR aF;exact amm ⟨n,by omega⟩
theorem xo:cw 0=0:=by kernel_rfl
structure fC where
 k:Int
 v:Int
 γ:Int
 b:Int
 x:Int
 y:Int
def fC.cells(d:fC):aU:=[.int .i64 d.k,.int .i64 d.v,.int .i64 d.γ,.int .i64 d.b,.complex .f64 (cw d.x) (cw d.y)]
def fC.wf(d:fC):Prop:=qJ d.x/\qJ d.y
def oa(n a b:Int):Bool:=decide (a<=n)&&decide (n<b)
def whole(x y:Int):Bool:=decide (x<24)&&decide (y<16)
def jn(d:fC):Bool:=oa d.v 0 8&&(if d.k=1 then oa d.b 1 33 else if d.k=2 then true else if d.k=3 then oa d.γ 0 8&&decide (d.γ≠d.v)else if d.k=4 then whole d.x d.y&&oa d.b 0 32 else oa d.b 0 32)
def td(d:fC):Int:=if d.k=3 then 0 else d.γ
def tc(d:fC):Int:=if d.k=2\/d.k=3 then d.b else 0
def rX(d:fC):Int:=if d.k=4 then 0 else d.x
def rY(d:fC):Int:=if d.k=4 then 0 else d.y
def h4(d:fC):Int:=if oa d.k 1 6 then(if jn d then(if td d=0/\tc d=0/\rX d=0/\rY d=0 then 0 else 2)else 5)else 1
theorem cells_one{a b c d:Int}{x y:Nat}:∀z∈[Value.int .i64 a,.int .i64 b,.int .i64 c,.int .i64 d,.complex .f64 x y],z.oneCell'=true:=by intro z aI;simp only[fE,oj,pa]at aI;rcases aI with rfl|rfl|rfl|rfl|rfl<;>rfl
def mo:aU:=[.int .i64 0,.int .i64 0,.int .i64 0,.int .i64 0,.complex .f64 0 0]
theorem MK{x m:Int}(I:qJ x)(hm:m=24\/m=16)(w:World):uc.C (cw x) m w (φ λv w'=>v=.bool (decide (x<m))/\w'=w):=by
 apply uc.ok;unfold uc.main;obtain⟨h1,η,au,bV,c9,_⟩:=JU I;rw[cond_pos h1];have an:ey .lss (cw x) (FloatKind.f64.nearest m)=decide (x<m):=by rcases hm with rfl|rfl<;>assumption
 rw[an];obtain⟨qP,ε⟩:=I;refine bA (λh=>?_) λh=>φ.mk ⟨by rw[h],rfl⟩;rw[bV]
 try dsimp only[bj]
 refine bO (bC (by show-9223372036854775808<=x;omega)) (bO (bC (by show x<=9223372036854775807;omega)) (φ.mk ⟨?_,rfl⟩));rw[h];exact gN Value.bool c9
theorem zX{x y:Int}(I:qJ x)(ag:qJ y)(w:World):yz.C (cw x) (cw y) w (φ λv w'=>v=.bool (whole x y)/\w'=w):=by
 apply yz.ok;unfold yz.main;refine κ.use (MK I (.inl rfl) w) ?_;rintro _ _ ⟨rfl,rfl⟩
 try dsimp only[dH]
 refine bA (λh=>?_) λh=>φ.mk ⟨by unfold whole;rw[h];rfl,rfl⟩;refine κ.use (MK ag (.inr rfl) _) ?_;rintro _ _ ⟨rfl,rfl⟩
 try dsimp only[dH]
 exact φ.mk ⟨by unfold whole;rw[h];rfl,rfl⟩
theorem Ay(n a b:Int)(w:World):yI.C n a b w (φ λv w'=>v=.bool (oa n a b)/\w'=w):=by
 apply yI.ok;unfold yI.main;refine bA (λh=>?_) λh=>?_
 ·have h:a<=n:=cd h;exact φ.mk ⟨by simp[oa,h],rfl⟩
 ·have h:¬a<=n:=dh h;exact φ.mk ⟨by simp[oa,h],rfl⟩
theorem aqx{w0 w:World}{nS kA ε ι:Nat}{cs ds:aU}{e:TypeId}(ρ:μ w nS e 5 (some ⟨ε,0,none⟩) 1 1 cs)(az:μ w kA e 5 (some ⟨ι,0,none⟩) 1 1 ds)(h1:∀y∈cs,y.oneCell'=true)(I:θ w0 w)(ω:w0.heap.size<=ι){N:ah->ai}
  (eB:∀w',θ w0 w'->μ w' kA e 5 (some ⟨ι,0,none⟩) 1 1 cs->N cs.toArray w'):
  ∃gF:ah,gF.size=5/\aw w (⟨ε,0,none⟩:Addr) gF.toList/\ο (decide (gF.size=5)) (hG w (⟨ι,0,none⟩:Addr) gF.toList/\∀w',w'=w.setCells (⟨ι,0,none⟩:Addr).block (⟨ι,0,none⟩:Addr).off gF.toList->
   ∃ja:ah,ja.size=5/\aw w' (⟨ι,0,none⟩:Addr) ja.toList/\N ja w'):=by
 have an:cs.length=5:=ρ.1;refine⟨cs.toArray,by simpa using an,ρ.cells,bO (bC (by simpa using an)) ?_⟩;refine az.put an h1 λυ k γ=>?_;exact⟨cs.toArray,by simpa using an,γ.cells,eB υ (I.then k λi o=>o▸ω) γ⟩
theorem asN{d:fC}(ae:d.wf)(hk:oa d.k 1 6=true)(w:World):
  sR.C d.k d.v d.γ d.b (cw d.x) (cw d.y) w (φ λv w'=>v=.tuple #[.agg #[.int .i64 d.k,.int .i64 d.v,.int .i64 (td d),.int .i64 (tc d),.complex .f64 (cw (rX d)) (cw (rY d))],.bool (jn d)]/\θ w w'):=by
 apply sR.ok;unfold sR.main;obtain⟨k,v,γ,b,x,y⟩:=d;obtain⟨I,ag⟩:=ae;dsimp only at I ag hk⊢;rintro ε δ rfl rfl ι υ rfl rfl;have ρ:=μ.new (w:=w) [.int .i64 k,.int .i64 v,.int .i64 γ,.int .i64 b,.complex .f64 (cw x) (cw y)] ft;have ζ:=θ.alloc w (.cells #[.int .i64 k,.int .i64 v,.int .i64 γ,.int .i64 b,.complex .f64 (cw x) (cw y)] ft);generalize eb:w.heap.size=ε at ρ⊢;generalize w.alloc (.cells #[.int .i64 k,.int .i64 v,.int .i64 γ,.int .i64 b,.complex .f64 (cw x) (cw y)] ft)=δ at ρ ζ⊢;have az:=μ.new (w:=δ) mo ft;have τ:=θ.alloc δ (.cells mo.toArray ft);unfold mo at az τ;have ee:w.heap.size<=δ.heap.size:=ζ.size;have cc:ε≠δ.heap.size:=by have:=ρ.ge rfl;dsimp only at this;omega
 generalize δ.heap.size=ι at az ee cc⊢;generalize δ.alloc (.cells #[.int .i64 0,.int .i64 0,.int .i64 0,.int .i64 0,.complex .f64 0 0] ft)=υ at az τ⊢;have dG:=ζ.trans τ;have ρ:=ρ.ex τ;refine⟨v,ρ.at (by rfl),?_⟩;refine κ.use (Ay v 0 8 υ) ?_;rintro _ _ ⟨rfl,rfl⟩
 try dsimp only[dH]
 refine⟨k,ρ.at (by rfl),?_⟩;have hk:k=1\/k=2\/k=3\/k=4\/k=5:=by simp only[oa,kH,pJ]at hk;omega
 have set:∀{w':World}{cs ds:aU}{j:Nat}{u:Value}{N:ai},μ w' ε ft 5 (some ⟨ε,0,none⟩) 1 1 cs->μ w' ι ft 5 (some ⟨ι,0,none⟩) 1 1 ds->θ w w'->j<5->u.oneCell'=true->
   (∀aa,μ aa ε ft 5 (some ⟨ε,0,none⟩) 1 1 (cs.set j u)->μ aa ι ft 5 (some ⟨ι,0,none⟩) 1 1 ds->θ w aa->N aa)->
   (w'.cell? (⟨ε,j,none⟩:Addr)).isSome=true/\w'.frozen? (⟨ε,j,none⟩:Addr)=false/\∀aa,aa=w'.setCell (⟨ε,j,none⟩:Addr) u->N aa:=by
  intro w' cs ds j u N ad aX Ih χ hu K;refine ad.dj (by omega) hu λaa k p=>K aa p (aX.aC k λx I e=>?_) (Ih.then k λi o=>by omega);cases I;dsimp only at e;omega
 have fin:∀{w':World}{k' rk hd gW:Int}{ew jt:Nat}{g:Bool},μ w' ε ft 5 (some ⟨ε,0,none⟩) 1 1 [.int .i64 k',.int .i64 rk,.int .i64 hd,.int .i64 gW,.complex .f64 ew jt]->μ w' ι ft 5 (some ⟨ι,0,none⟩) 1 1 [.int .i64 0,.int .i64 0,.int .i64 0,.int .i64 0,.complex .f64 0 0]->θ w w'->
   k'=k->rk=v->hd=td ⟨k,v,γ,b,x,y⟩->gW=tc ⟨k,v,γ,b,x,y⟩->ew=cw (rX ⟨k,v,γ,b,x,y⟩)->jt=cw (rY ⟨k,v,γ,b,x,y⟩)->g=jn ⟨k,v,γ,b,x,y⟩->
   ∃gF:ah,gF.size=5/\aw w' (⟨ε,0,none⟩:Addr) gF.toList/\ο (decide (gF.size=5)) (hG w' (⟨ι,0,none⟩:Addr) gF.toList/\∀aa,aa=w'.setCells (⟨ι,0,none⟩:Addr).block (⟨ι,0,none⟩:Addr).off gF.toList->
    ∃ja:ah,ja.size=5/\aw aa (⟨ι,0,none⟩:Addr) ja.toList/\φ (λW4 w'=>W4=.tuple #[.agg #[.int .i64 k,.int .i64 v,.int .i64 (td ⟨k,v,γ,b,x,y⟩),.int .i64 (tc ⟨k,v,γ,b,x,y⟩),.complex .f64 (cw (rX ⟨k,v,γ,b,x,y⟩)) (cw (rY ⟨k,v,γ,b,x,y⟩))],.bool (jn ⟨k,v,γ,b,x,y⟩)]/\θ w w') (.returned (.tuple #[.agg ja,.bool g])) aa):=by
  intro w' k' rk hd gW ew jt g ad aX Ih aM bz gw iS ig nY BN;refine aqx ad aX cells_one Ih ee λaa nz _=>φ.mk ⟨?_,nz⟩;subst aM bz gw iS ig nY BN;rfl
 have tail:∀{w':World}{ew jt:Nat}{g:Bool},μ w' ε ft 5 (some ⟨ε,0,none⟩) 1 1 [.int .i64 k,.int .i64 v,.int .i64 γ,.int .i64 b,.complex .f64 ew jt]->μ w' ι ft 5 (some ⟨ι,0,none⟩) 1 1 [.int .i64 0,.int .i64 0,.int .i64 0,.int .i64 0,.complex .f64 0 0]->θ w w'->k=4\/k=5->
   ew=cw (rX ⟨k,v,γ,b,x,y⟩)->jt=cw (rY ⟨k,v,γ,b,x,y⟩)->(g&&oa b 0 32)=jn ⟨k,v,γ,b,x,y⟩->
   sR.aZ ε ι g w' (φ λW4 w'=>W4=.tuple #[.agg #[.int .i64 k,.int .i64 v,.int .i64 (td ⟨k,v,γ,b,x,y⟩),.int .i64 (tc ⟨k,v,γ,b,x,y⟩),.complex .f64 (cw (rX ⟨k,v,γ,b,x,y⟩)) (cw (rY ⟨k,v,γ,b,x,y⟩))],.bool (jn ⟨k,v,γ,b,x,y⟩)]/\θ w w'):=by
  intro w' ew jt g ad aX Ih hk ig nY BN;unfold sR.aZ;have gw:γ=td ⟨k,v,γ,b,x,y⟩:=by rcases hk with rfl|rfl<;>rfl
  have iS:(0:Int)=tc ⟨k,v,γ,b,x,y⟩:=by rcases hk with rfl|rfl<;>rfl
  refine bA (λh=>?_) λh=>?_
  ·subst h;refine⟨b,ad.at (by rfl),?_⟩;refine κ.use (Ay b 0 32 w') ?_;rintro _ _ ⟨rfl,rfl⟩
   try dsimp only[dH]
   exact set ad aX Ih (by omega) rfl λaa cW fO qo=>fin cW fO qo rfl rfl gw iS ig nY BN
  ·subst h;exact set ad aX Ih (by omega) rfl λaa cW fO qo=>fin cW fO qo rfl rfl gw iS ig nY BN
 rcases hk with rfl|rfl|rfl|rfl|rfl
 ·rw[cond_pos (by rfl)];refine bA (λh=>?_) λh=>?_
  ·refine⟨b,ρ.at (by rfl),?_⟩;refine κ.use (Ay b 1 33 _) ?_;rintro _ _ ⟨rfl,rfl⟩
   try dsimp only[dH]
   exact set ρ az dG (by omega) rfl λaa cW fO qo=>fin cW fO qo rfl rfl rfl rfl rfl rfl (by simp[jn,h])
  ·exact set ρ az dG (by omega) rfl λaa cW fO qo=>fin cW fO qo rfl rfl rfl rfl rfl rfl (by simp[jn,h])
 ·rw[cond_neg (by rfl),cond_pos (by rfl)];exact fin ρ az dG rfl rfl rfl rfl rfl rfl (by simp[jn])
 ·rw[cond_neg (by rfl),cond_neg (by rfl),cond_pos (by rfl)];refine bA (λh=>?_) λh=>?_
  ·refine⟨γ,ρ.at (by rfl),?_⟩;refine κ.use (Ay γ 0 8 _) ?_;rintro _ _ ⟨rfl,rfl⟩
   try dsimp only[dH]
   refine bA (λeX=>?_) λeX=>?_
   ·refine⟨γ,ρ.at (by rfl),v,ρ.at (by rfl),?_⟩;exact set ρ az dG (by omega) rfl λaa cW fO qo=>fin cW fO qo rfl rfl rfl rfl rfl rfl (by simp[jn,h,eX,bne];rfl)
   ·exact set ρ az dG (by omega) rfl λaa cW fO qo=>fin cW fO qo rfl rfl rfl rfl rfl rfl (by simp[jn,h,eX])
  ·exact set ρ az dG (by omega) rfl λaa cW fO qo=>fin cW fO qo rfl rfl rfl rfl rfl rfl (by simp[jn,h])
 ·rw[cond_neg (by rfl),cond_neg (by rfl),cond_neg (by rfl),cond_pos (by rfl)];refine bA (λh=>?_) λh=>?_
  ·refine⟨cw x,cw y,ρ.at (by rfl),?_⟩;refine κ.use (zX I ag _) ?_;rintro _ _ ⟨rfl,rfl⟩
   try dsimp only[dH]
   exact set ρ az dG (by omega) rfl λaa cW fO qo=>tail cW fO qo (.inl rfl) xo.symm xo.symm (by simp[jn,h])
  ·exact set ρ az dG (by omega) rfl λaa cW fO qo=>tail cW fO qo (.inl rfl) xo.symm xo.symm (by simp[jn,h])
 ·rw[cond_neg (by rfl),cond_neg (by rfl),cond_neg (by rfl),cond_neg (by rfl),cond_pos (by rfl)];exact tail ρ az dG (.inr rfl) rfl rfl (by simp[jn])
theorem Bj{d:fC}(ae:d.wf)(w:World):DY.C d.k d.v d.γ d.b (cw d.x) (cw d.y) w (φ λv w'=>v=.int .i64 (h4 d)/\θ w w'):=by
 apply DY.ok;unfold DY.main;rintro ε δ rfl rfl;have ρ:=μ.new (w:=w) d.cells ft;have ζ:=θ.alloc w (.cells d.cells.toArray ft);unfold fC.cells at ρ ζ;generalize w.alloc (.cells #[.int .i64 d.k,.int .i64 d.v,.int .i64 d.γ,.int .i64 d.b,.complex .f64 (cw d.x) (cw d.y)] ft)=δ at ρ ζ⊢;refine⟨d.k,ρ.at (by rfl),?_⟩;refine κ.use (Ay d.k 1 6 δ) ?_;rintro _ _ ⟨rfl,rfl⟩
 try dsimp only[dH]
 refine bA (λh=>?_) λh=>?_
 ·exact φ.mk ⟨by unfold h4;rw[aN (by simpa using h)],ζ⟩
 ·have hk:oa d.k 1 6=true:=by simpa using h
  refine⟨d.cells.toArray,rfl,ρ.cells,?_⟩;refine κ.use (asN ae hk _) ?_;rintro _ ax ⟨rfl,aA⟩
  try dsimp only[bZ,cC,cD,bj,dH,hz,iG]
  rintro af ba rfl rfl;have bS:=μ.new (w:=ax) mo ft;have aJ:=θ.alloc ax (.cells mo.toArray ft);unfold mo at bS aJ;have ω:w.heap.size<=ax.heap.size:=(ζ.trans aA).size;generalize ax.heap.size=af at bS ω⊢;generalize ax.alloc (.cells #[.int .i64 0,.int .i64 0,.int .i64 0,.int .i64 0,.complex .f64 0 0] ft)=ba at bS aJ⊢;refine bO (by rfl) ?_;refine bS.put (by rfl) cells_one λbk hK eM=>?_;have aV:θ w bk:=(ζ.trans (aA.trans aJ)).then hK λi o=>o▸ω;have eE:qJ (rX d):=by unfold rX;split;exact⟨by omega,by omega⟩;exact ae.1
  have am5:qJ (rY d):=by unfold rY;split;exact⟨by omega,by omega⟩;exact ae.2
  unfold h4;rw[aY hk];cases aE:jn d with
  |false=>
   rw[aN (by simp)];simp only[u1,zk,sa,wE];exact φ.mk ⟨rfl,aV⟩
  |true=>
   rw[aY rfl];simp only[u1,zk,sa,wE];refine⟨td d,eM.at (by rfl),?_⟩;refine bA (λh=>?_) λh=>?_
   ·rw[aN λc=>by simp[c.1]at h];exact φ.mk ⟨rfl,aV⟩
   have η:td d=0:=by simpa using h
   refine⟨tc d,eM.at (by rfl),?_⟩;refine bA (λh=>?_) λh=>?_
   ·rw[aN λc=>by simp[c.2.1]at h];exact φ.mk ⟨rfl,aV⟩
   have au:tc d=0:=by simpa using h
   refine⟨cw (rX d),cw (rY d),eM.at (by rfl),?_⟩;obtain⟨_,_,_,_,_,alL⟩:=JU eE;obtain⟨_,_,_,_,_,alM⟩:=JU am5;rw[alL,alM];refine bA (λh=>?_) λh=>?_
   ·rw[aN λc=>by simp[c.2.2.1,c.2.2.2]at h];exact φ.mk ⟨rfl,aV⟩
   ·rw[aY (by simp at h;exact⟨η,au,h.1,h.2⟩)];exact φ.mk ⟨rfl,aV⟩
end Go.Proofs.YtcpdfhkhaekekaaGreat.G.dB

/- The walk of the functions, and the plain laws of the model: part of the proof. Conditions: none. -/
import Derived.Test.YtcpdfhkhaekekaaGreatA10
set_option linter.unusedVariables false
set_option linter.unusedSimpArgs false
namespace Go.Proofs.YtcpdfhkhaekekaaGreat.G.cF
open Go.bJ Go.RowKit
theorem abR{w:World}{B q:Nat}{g:Int}(o:μ w B cz 1 (some ⟨q,0,none⟩) 1 1 [.int .i64 g]){x:Nat×Nat}(J:hg x):E4.C (eX (some x)) (e5 (some x)) q w (ω λv w'=>v=.bool ((x.1:Int)!=g)/\w'=w):=by have o7:=J.1;apply E4.ok;unfold E4.main;refine hh (DF (n:=x.1) (by omega)).2.2.2.1 (bU (bI (by rw[Jh];omega)) (bU (bI (by rw[yx];omega)) ?_));exact⟨g,o.at (j:=0) rfl,ω.mk ⟨rfl,rfl⟩⟩
theorem akq{w:World}{B q:Nat}{g:Int}(o:μ w B cz 1 (some ⟨q,0,none⟩) 1 1 [.int .i64 g]){p:γ}{n c:Nat}{V:List (Nat×Nat)}(π:bd w p (dN V))(ar:V.length=n)(τ:n<=100000)(aG:∀x∈V,hg x):
  uY.C p n c q w (ω λv w'=>(∃i:Int,v=.int .i64 i/\((i=-1/\∀x∈V,(x.1:Int)=g)\/∃j:Nat,i=j/\j<n/\(∀x∈V.take j,(x.1:Int)=g)/\∀x,V[j]?=some x->(x.1:Int)≠g))/\w'=w):=by
 apply uY.ok;unfold uY.main uY.bb;refine⟨λcy cp cG t1 t7 t8 w'=>p=cy/\n=cp/\q=t1/\(n:Int)=t7/\0<=t8/\t8<=n/\w=w'/\∀x∈V.take t8.toNat,(x.1:Int)=g,λ_ _ _ _ _ t8 _=>(n-t8).toNat,⟨rfl,rfl,rfl,rfl,by omega,by omega,rfl,λx J=>by simp at J⟩,?_⟩;rintro _ _ cG _ _ t8 _ ⟨rfl,rfl,rfl,rfl,aF,h1,rfl,ew⟩;unfold uY.δ;obtain⟨j,rfl⟩:=eF aF;rw[ch]at ew;refine bt (λψ=>?_) (λψ=>?_)
 ·have ψ:=b6 ψ;have ff:j<V.length:=by omega
  have aP:(dN V)[j]?=some (et (some V[j])):=by unfold dN;rw[List.getElem?_map,List.getElem?_eq_getElem ff];rfl
  obtain⟨a,aR,r⟩:=π.many aP;refine bU (bI aF) (bU (bI ψ) (hh aR ⟨eX (some V[j]),e5 (some V[j]),by rw[ch,eS];exact r,?_⟩));refine κ.use (abR o (aG _ (hP ff))) ?_;rintro _ ε ⟨rfl,aP⟩;obtain rfl:=aP.symm
  try dsimp only[dX]
  refine bt (λbH=>ω.mk ⟨⟨_,rfl,.inr ⟨j,rfl,by omega,ew,λx J=>by rw[List.getElem?_eq_getElem ff]at J;cases J;simpa using bH⟩⟩,rfl⟩) (λbH=>?_);rw[bS (x:=(j:Int)+1) (by omega) (by omega)];refine⟨⟨rfl,rfl,rfl,rfl,by omega,by omega,rfl,λx J=>?_⟩,by((try dsimp only);omega)⟩;have J:x∈V.take (j+1):=J;rw[mb ff]at J;rcases iC.1 J with J|J
  ·exact ew x J
  ·simp only[ma]at J;subst J;simpa using bH
 ·have ψ:=dn ψ
  have:V.take j=V:=hR (by omega)
  rw[this]at ew;exact ω.mk ⟨⟨-1,rfl,.inl ⟨rfl,ew⟩⟩,rfl⟩
def l5(g:Int)(x:Nat×Nat):Bool:=decide ((x.1:Int)=g)
theorem au8{α:Type}(F gs rest:List α)(v:α):(F++(gs++v::rest)).set F.length v=F++[v]++((gs++[v]).tail++rest):=by
 rw[Cf _ _ (dO _),tv];cases gs with
 |nil=>simp
 |cons a l=>simp
theorem ayD(m:Nat):∀y∈(Builtin.zeroCells #[Value.complex .f64 0 0] m).toList,y.oneCell'=true:=λy ag=>by
 unfold Builtin.zeroCells at ag;rw[G1,gx]at ag;obtain⟨i,_,rfl⟩:=ag
 have:i%(#[Value.complex .f64 0 0]:aj).size=0:=Nat.mod_one i
 rw[this];rfl
theorem aka{w:World}{B ajV q:Nat}{g:Int}(uC:μ w ajV cz 1 (some ⟨q,0,none⟩) 1 1 [.int .i64 g]){p:γ}{n c:Nat}{V:List (Nat×Nat)}(o:μ w B eT 1 p n c (dN V))(τ:n<=100000)(aG:∀x∈V,hg x):
  qO.C p n c q w (ω λv w'=>v=.slice p (V.filter (l5 g)).length c/\μ w' B eT 1 p (V.filter (l5 g)).length c (dN (V.filter (l5 g)))/\Kp w w' λi=>∃x,p=some x/\x.block=i):=by
 have ar:V.length=n:=by have:=o.1;rw[Ap,eS]at this;exact this
 apply qO.ok;unfold qO.main;refine κ.use (akq uC o.cells ar τ aG) ?_;rintro _ ε ⟨⟨i,rfl,I⟩,aP⟩;obtain rfl:=aP.symm
 try dsimp only[bL]
 rcases I with⟨rfl,ew⟩|⟨j,rfl,ψ,ew,pg⟩
 ·rw[cond_pos (by decide)];have bm:V.filter (l5 g)=V:=Rr.2 λx J=>bI (ew x J);rw[bm,ar];exact ω.mk ⟨rfl,o,Kp.refl _ _⟩
 rw[cond_neg (by simp)];have jG:=o.2.1;obtain⟨b,rfl⟩:=eI.μ.base o (by omega);unfold qO.bb;have apP:(V.take j).filter (l5 g)=V.take j:=Rr.2 λx J=>bI (ew x J);refine⟨λcy cp cG t1 t5 t6 w'=>some ⟨b,0,none⟩=cy/\n=cp/\c=cG/\q=t1/\0<=t6/\t6<=n/\t5=((V.take t6.toNat).filter (l5 g)).length/\Kp w w' (λi=>i=b)/\∃gs:aY,((V.take t6.toNat).filter (l5 g)).length+gs.length=t6.toNat/\μ w' B eT 1 (some ⟨b,0,none⟩) n c (dN ((V.take t6.toNat).filter (l5 g))++(gs++dN (V.drop t6.toNat))),
  λ_ _ _ _ _ t6 _=>(n-t6).toNat,?_,?_⟩
 ·rw[bS (x:=(j:Int)+1) (by omega) (by omega)];have ff:j<V.length:=by omega
  have aP:((j:Int)+1).toNat=j+1:=by omega
  dsimp only;rw[aP];have Me:l5 g V[j]=false:=iX (pg _ (List.getElem?_eq_getElem ff));have FZ:(V.take (j+1)).filter (l5 g)=V.take j:=by rw[mb ff,DQ,apP];simp[Me]
  rw[FZ];have ak:(V.take j).length=j:=by rw[hs];omega
  refine⟨rfl,rfl,rfl,rfl,by omega,by omega,by omega,Kp.refl _ _,[et (some V[j])],by rw[ak];rfl,?_⟩
  have:dN (V.take j)++([et (some V[j])]++dN (V.drop (j+1)))=dN V:=by
   have ι:[et (some V[j])]++dN (V.drop (j+1))=dN (V.drop j):=by rw[JL ff];rfl
   rw[ι,afB,Au]
  rw[this];exact o
 ·rintro _ _ _ _ _ t6 w' ⟨rfl,rfl,rfl,rfl,aF,h1,rfl,hk,gs,F0,ib⟩;unfold qO.δ;obtain⟨i,rfl⟩:=eF aF;rw[ch]at F0 ib⊢;have tb:∀i,i=b->Typed w eT i:=λi I=>I▸(o.typed rfl).1;have atj:=uC.cV hk eT tb (by decide);have w8:(dN ((V.take i).filter (l5 g))).length=((V.take i).filter (l5 g)).length:=Ap _;refine bt (λI=>?_) (λI=>?_)
  ·have I:=b6 I;have lZ:i<V.length:=by omega
   have ah:dN (V.drop i)=et (some V[i])::dN (V.drop (i+1)):=by rw[JL lZ];rfl
   rw[ah]at ib;have lF:(dN ((V.take i).filter (l5 g))++(gs++et (some V[i])::dN (V.drop (i+1))))[i]?=some (et (some V[i])):=by rw[List.getElem?_append_right (by omega),List.getElem?_append_right (by omega),show i-(dN ((V.take i).filter (l5 g))).length-gs.length=0 by omega];rfl
   refine aT (by omega) (aT (by omega) ?_)
   try dsimp only[bo]
   rw[ch,eS,dG];refine⟨eX (some V[i]),e5 (some V[i]),ib.at lF,?_⟩;refine κ.use (abR atj (aG _ (hP lZ))) ?_;rintro _ χ ⟨rfl,gA⟩;obtain rfl:=gA.symm
   try dsimp only[dX]
   rw[bS (x:=(i:Int)+1) (by omega) (by omega)];have aP:((i:Int)+1).toNat=i+1:=by omega
   have z8:(V.take (i+1)).filter (l5 g)=(V.take i).filter (l5 g)++if l5 g V[i]then[V[i]]else[]:=by
    rw[mb lZ,DQ];congr 1;by_cases τ:l5 g V[i]=true
    ·simp[τ]
    ·simp[τ]
   by_cases c8:(V[i].1:Int)=g
   ·have VU:l5 g V[i]=true:=bI c8;rw[VU,aN rfl]at z8;rw[show((V[i].1:Int)!=g)=false by simp[c8],Ar,ts];refine aT (by omega) (aT (by omega) ?_);rw[eS,dG];refine ib.dv (j:=((V.take i).filter (l5 g)).length) (v:=et (some V[i])) (by omega) rfl λan dT cB=>?_;rw[<-w8,au8]at cB;rw[bS (x:=(((V.take i).filter (l5 g)).length:Int)+1) (by omega) (by omega)];refine⟨⟨rfl,rfl,rfl,rfl,by omega,by omega,?_,hk.gL dT,(gs++[et (some V[i])]).tail,?_,?_⟩,by((try dsimp only);omega)⟩
    ·rw[aP,z8,fw];rfl
    ·rw[aP,z8,fw,G6,fw];simp;omega
    ·rw[aP,z8,<-afB];exact cB
   ·have VU:l5 g V[i]=false:=iX c8;rw[VU,aL (by decide),qi]at z8;rw[show((V[i].1:Int)!=g)=true by simp[c8],v7,xz];refine⟨⟨rfl,rfl,rfl,rfl,by omega,by omega,?_,hk,gs++[et (some V[i])],?_,?_⟩,by((try dsimp only);omega)⟩
    ·rw[aP,z8]
    ·rw[aP,z8,fw];simp;omega
    ·rw[aP,z8,nc];exact ib
  ·have I:=dn I;obtain rfl:i=n:=by omega
   rw[hR (by omega)]at ib F0 w8⊢;rw[List.drop_of_length_le (by omega)]at ib;generalize kE:V.filter (l5 g)=F at ib F0 w8⊢;unfold qO.aV;refine aT (by omega) (aT (by omega) ?_);rw[ch];have fin:∀W,Kp w W (λi=>i=b)->μ W B eT 1 (some ⟨b,0,none⟩) F.length c (dN F)->ν (decide (0<=(F.length:Int))) (ν (decide ((F.length:Int)<=((c:Nat):Int))) (ω (λv w'=>v=.slice (some ⟨b,0,none⟩) F.length c/\μ w' B eT 1 (some ⟨b,0,none⟩) F.length c (dN F)/\Kp w w' λi=>∃x,some (⟨b,0,none⟩:Addr)=some x/\x.block=i) (.returned (.slice (dL (some ⟨b,0,none⟩) c 0 1) F.length c)) W)):=by intro W arH B0;refine aT (by omega) (aT (by omega) ?_);rw[J9];exact ω.mk ⟨rfl,B0,arH.mono λi _ I=>⟨_,rfl,I.symm⟩⟩
   have cut:∀{W:World}{xs:aY},μ W B eT 1 (some ⟨b,0,none⟩) i c xs->xs.take F.length=dN F->μ W B eT 1 (some ⟨b,0,none⟩) F.length c (dN F):=by
    intro W xs B0 J
    have:=B0.less (k:=F.length) (by omega)
    rw[eS,J]at this;exact this
   by_cases bH:i=F.length
   ·refine .inl ⟨.inr (by omega),fin w' hk (cut ib ?_)⟩;rw[<-w8,Rs]
   ·refine .inr ⟨⟨b,F.length,none⟩,?_,by omega,?_⟩
    ·unfold dL;rw[aL (by omega),eS,jB,dG]
    ·have aI:(Builtin.zeroCells #[Value.complex .f64 0 0] (i-F.length)).toList.length=i-F.length:=by
      rw[lL,size_zeroCells];simp
     have key:=eI.μ.putAt ib F.length (Builtin.zeroCells #[Value.complex .f64 0 0] (i-F.length)).toList (by omega) (ayD _) (N:=λaZ=>ν (decide (0<=(F.length:Int))) (ν (decide ((F.length:Int)<=((c:Nat):Int))) (ω (λv w'=>v=.slice (some ⟨b,0,none⟩) F.length c/\μ w' B eT 1 (some ⟨b,0,none⟩) F.length c (dN F)/\Kp w w' λi=>∃x,some (⟨b,0,none⟩:Addr)=some x/\x.block=i) (.returned (.slice (dL (some ⟨b,0,none⟩) c 0 1) F.length c)) aZ))) λaZ eD bY=>fin aZ (hk.gL eD) (cut bY ?_)
     ·rw[dG]at key;exact key
     ·rw[<-w8,Rs,nc,Rs]
theorem ako{w:World}{R:bZ}{ps:aY}(h:iE w R ps){s k:Int}(hw:Ey s k R)(π:(gK (used R)).length<=4096){g:Nat}(bH:(g:Int)<s):
  E3.C (bT R ps).toArray s k (g:Int) w (ω λv w'=>∃p c,v=.tuple #[.slice p ((lays (used R)).filter (l5 g)).length c,.int .i64 0]/\η w w'/\μ w' w.heap.size eT 1 p ((lays (used R)).filter (l5 g)).length c (dN ((lays (used R)).filter (l5 g)))):=by
 apply E3.ok;unfold E3.main;rintro δ ε eL rfl ζ υ eG rfl ax χ jm rfl;have σ:=μ.new (w:=w) (bT R ps) b3;rw[<-eL,h.eA]at σ;have θ:=η.alloc w (.cells (bT R ps).toArray b3);generalize w.alloc (.cells (bT R ps).toArray b3)=ε at σ θ eG jm⊢;have af:=μ.new (w:=ε) (two s k) b2;rw[<-eG]at af;have ρ:=η.alloc ε (.cells (two s k).toArray b2);have bM:ε.alloc (.cells #[.int .i64 s,.int .i64 k] b2)=ε.alloc (.cells (two s k).toArray b2):=rfl;rw[bM]at jm⊢;generalize ε.alloc (.cells (two s k).toArray b2)=υ at af ρ jm⊢;have bh:=μ.new (w:=υ) [.int .i64 (g:Int)] cz;rw[<-jm]at bh;have ad:=η.alloc υ (.cells #[.int .i64 (g:Int)] cz);generalize υ.alloc (.cells #[.int .i64 (g:Int)] cz)=χ at bh ad⊢;have ha:=θ.trans (ρ.trans ad);have σ:=σ.ex (ρ.trans ad);have af:=af.ex ad;refine⟨(bT R ps).toArray,by simp[h.eA],σ.cells,(two s k).toArray,rfl,af.cells,?_⟩;refine κ.use (Tz (h.ex ha) s k) ?_;rintro _ ao ⟨⟨e,rfl,he⟩,aC⟩
 try dsimp only[bL]
 obtain rfl:e=0:=he.2 hw;rw[cond_neg (by rfl)];have bh:=bh.ex aC;refine⟨_,bh.at (j:=0) rfl,?_⟩;rw[jl (by omega)];refine⟨_,bh.at (j:=0) rfl,s,(af.ex aC).at (j:=0) rfl,?_⟩;rw[jl (by omega)];refine⟨(bT R ps).toArray,by simp[h.eA],(σ.ex aC).cells,?_⟩;have iF:=ha.trans aC;refine κ.use (ZQ (h.ex iF) hw.2.1 π) ?_;rintro _ aZ ⟨q,d,fp,bu,c2,rfl,aM,bY⟩
 try dsimp only[ca,cT,cU,n1,bo,bL,ee]
 have k7:=λx=>Js (x:=x) (sB h.ok);have hlen:(lays (used R)).length<=4096:=by rw[<-MD (λx=>kv (used R) x),Jl (λx J=>sB h.ok x ((kv _ _).1 J)) (xk _)];exact π
 refine κ.use (aka (bh.ex aM) bY (by omega) λx J=>sB h.ok x ((k7 x).1 J)) ?_;rintro _ bV ⟨rfl,e4,fO⟩
 try dsimp only[ee]
 have k4:=iF.trans aM;exact ω.mk ⟨q,d,rfl,k4.then fO λi⟨x,J,I⟩=>by have:=(bY.ge J).1;have:=iF.size;omega,e4.lower iF.size⟩
end Go.Proofs.YtcpdfhkhaekekaaGreat.G.cF
namespace Go.Proofs.YtcpdfhkhaekekaaGreat.G.eI
open Go.bJ Go.RowKit cF
theorem IH{w ε:World}{B cf:Nat}{R:bZ}(h:kM w B cf R)(J:η w ε)(v:Int){N:Nat->al}
  (K:∀b W,η w W->μ W w.heap.size jR 2 (some ⟨b,0,none⟩) 1 1 (two (iT R v).1 (iT R v).2.1)->N b W):
  aK ε #[(Value.int .i64 0),(Value.int .i64 0)] jR λδ χ=>ν (decide ((two (iT R v).1 (iT R v).2.1).toArray.size=2)) (
   a6 χ (⟨δ,0,none⟩:Addr) (two (iT R v).1 (iT R v).2.1).toArray.toList/\∀ao,ao=χ.setCells (⟨δ,0,none⟩:Addr).block (⟨δ,0,none⟩:Addr).off (two (iT R v).1 (iT R v).2.1).toArray.toList->N δ ao):=by
 rintro δ χ rfl rfl;have σ:=μ.new (w:=ε) (two 0 0) jR;have θ:=η.alloc ε (.cells (two 0 0).toArray jR);have aP:ε.alloc (.cells #[.int .i64 0,.int .i64 0] jR)=ε.alloc (.cells (two 0 0).toArray jR):=rfl;rw[aP];generalize ε.alloc (.cells (two 0 0).toArray jR)=χ at σ θ⊢;have ab:=J.size;refine aT rfl (σ.put (cs:=two (iT R v).1 (iT R v).2.1) rfl nP λao cI cJ=>?_);exact K _ ao ((J.trans θ).then cI λi I=>by omega) (cJ.lower ab)
theorem oZ.Xo{w w' υ:World}{B cf:Nat}{R:bZ}(x:η w w')(h:oZ w' B cf R υ):oZ w B cf R υ:=⟨h.1,(x.aO _).gL h.2⟩
theorem aj2{w:World}{B cf:Nat}{R:bZ}(h:kM w B cf R){s:Int}(ab:¬(1<=s/\s<=32)):Av.C (some ⟨cf,0,none⟩) s w (ω λv w'=>v=.tuple #[.int .i64 0,.int .i64 5]/\η w w'):=by
 apply Av.ok;unfold Av.main;rw[cond_neg (by rfl)];refine κ.use (akG ab w) ?_;rintro _ ε ⟨rfl,aP⟩;obtain rfl:=aP.symm
 try dsimp only[bo,ca,cT,cU,bL,n0]
 rw[cond_pos (by rfl)];exact ω.mk ⟨rfl,η.refl _⟩
theorem aj3{w:World}{B cf:Nat}{R:bZ}(h:kM w B cf R){s:Int}(ab:1<=s/\s<=32):Av.C (some ⟨cf,0,none⟩) s w (ω λv w'=>match mi R with
  |none=>v=.tuple #[.int .i64 0,.int .i64 7]/\η w w'
  |some i=>v=.tuple #[.int .i64 (i:Int),.int .i64 0]/\oZ w B cf (R.set i (1,s,List.replicate s.toNat none)) w'):=by
 obtain⟨n,rfl⟩:=eF (show 0<=s by omega);apply Av.ok;unfold Av.main;rw[cond_neg (by rfl)];refine κ.use (A3 (n:=n) (by omega) w) ?_;rintro _ ε ⟨ic,rfl,θ,aS⟩
 try dsimp only[bo,ca,cT,cU,bL,n0]
 rw[cond_neg (by rfl)];refine κ.use (agz (h.ex θ)) ?_;rintro _ χ ⟨rfl,ad⟩
 try dsimp only[ca,cT,cU,bo,bL]
 have gb:=θ.trans ad;cases k8:mi R with
 |none=>
  rw[cond_neg (by rfl)];exact ω.mk ⟨rfl,gb⟩
 |some i=>
  rw[cond_pos (by rfl)]
  try dsimp only
  have X:=gb.trans (η.drew χ);obtain⟨gq,h⟩:=h.ex X;have I:=(RZ h.len k8).1;refine aT (by dsimp only[Option.getD];omega) (aT (by dsimp only[Option.getD];omega) ?_);have aP:(((some i).getD 0:Nat):Int).toNat=i:=ch i;rw[aP];simp only[dG];have fe:wL χ.drew ic (1,(n:Int),List.replicate n none):=.inr ⟨n,_,(aS.ex ad).ex (η.drew χ),(by show List.replicate n none=_;rw[RF,show min n (8*((n+7)/8))=n by omega]),rfl⟩;have key:=h.kz I (1,(n:Int),List.replicate n none) (tp:=ic) fe (N:=λw'=>ω (λv w'=>v=.tuple #[.int .i64 (i:Int),.int .i64 0]/\oZ w B cf (R.set i (1,(n:Int),List.replicate (n:Int).toNat none)) w') (.returned (.tuple #[.int .i64 (i:Int),.int .i64 0])) w') λw' aR=>ω.mk ⟨rfl,oZ.Xo X aR⟩;rw[dG]at key;refine⟨key.1,λan Qv=>?_⟩;refine aT (by dsimp only[Option.getD];omega) (aT (by dsimp only[Option.getD];omega) ?_);have ι:=key.2 an Qv;have bM:(⟨cf,16,none⟩:Addr).add (i*1)=⟨cf,16+i,none⟩:=by rw[<-dG cf 16,add_add,dG,eS]
  rw[bM];exact ι
theorem alb{w:World}{B cf:Nat}{R:bZ}(h:kM w B cf R)(v:Int):Hl.C (some ⟨cf,0,none⟩) v w (ω λu w'=>match gB R v with
  |none=>u=.tuple #[.int .i64 0,.int .i64 4]/\η w w'
  |some e=>(match mi R with
   |none=>u=.tuple #[.int .i64 0,.int .i64 7]/\η w w'
   |some i=>u=.tuple #[.int .i64 (i:Int),.int .i64 0]/\oZ w B cf (R.set i (2,e.2.1,e.2.2)) w')):=by
 apply Hl.ok;unfold Hl.main;refine κ.use (CE h v) ?_;rintro _ ε ⟨rfl,θ⟩
 try dsimp only[bo,ca,cT,cU,bL,hA,h7]
 refine IH h θ v λδ ao aC cJ=>?_;have oA:=@Bm R v;unfold iT at cJ⊢;cases he:gB R v with
 |none=>
  try dsimp only
  rw[cond_pos (by rfl)];exact ω.mk ⟨rfl,aC⟩
 |some e=>
  rw[he]at cJ
  try dsimp only
  rw[cond_neg (by rfl)];obtain⟨v0,a7,φ,hk⟩:=oA he;obtain⟨k,rfl⟩:=eF v0;rw[ch]at φ;refine κ.use (agz (h.ex aC)) ?_;rintro _ an ⟨rfl,ay⟩
  try dsimp only[ca,cT,cU,bo,bL]
  have Kx:=aC.trans ay;cases k8:mi R with
  |none=>
   rw[cond_neg (by rfl)];exact ω.mk ⟨rfl,Kx⟩
  |some i=>
   rw[cond_pos (by rfl)]
   try dsimp only
   have eb:=η.drew an;have X:=Kx.trans eb;obtain⟨gq,h⟩:=h.ex X;obtain⟨db,tp,ej,k9⟩:=h.Kk (k:=k) (by omega);rw[φ]at ej;cases ej;have I:=(RZ h.len k8).1;have bM:∀j,(⟨cf,16,none⟩:Addr).add (j*1)=⟨cf,16+j,none⟩:=λj=>by rw[<-dG cf 16,add_add,dG,eS]
   refine⟨e.2.1,((cJ.ex ay).ex eb).at (j:=1) rfl,?_⟩;simp only[dG,ch,bM];refine aT (by omega) (aT (by omega) ⟨tp,h.o.at (h.Ki k9),?_⟩);refine aT (by dsimp only[Option.getD];omega) (aT (by dsimp only[Option.getD];omega) ?_);have key:=h.kz I (2,e.2.1,e.2.2) (tp:=tp) (by
    rcases h.tb k e tp φ k9 with⟨h1,ι⟩|⟨n,L,h1,ι⟩
    ·exact .inl ⟨h1,ι⟩
    ·exact .inr ⟨n,L,h1,ι⟩) (N:=λw'=>ω (λv w'=>v=.tuple #[.int .i64 (i:Int),.int .i64 0]/\oZ w B cf (R.set i (2,e.2.1,e.2.2)) w') (.returned (.tuple #[.int .i64 (i:Int),.int .i64 0])) w') λw' aR=>ω.mk ⟨rfl,oZ.Xo X aR⟩
   rw[dG]at key;refine⟨key.1,λa8 arj=>?_⟩;refine aT (by dsimp only[Option.getD];omega) (aT (by dsimp only[Option.getD];omega) ?_);exact key.2 a8 arj
theorem akb{w:World}{B cf:Nat}{R:bZ}(h:kM w B cf R)(v:Int):Hi.C (some ⟨cf,0,none⟩) v w (ω λu w'=>match gB R v with
  |none=>u=.int .i64 4/\η w w'
  |some e=>u=.int .i64 0/\oZ w B cf (R.set v.toNat (0,0,[])) w'):=by
 apply Hi.ok;unfold Hi.main;refine κ.use (CE h v) ?_;rintro _ ε ⟨rfl,θ⟩
 try dsimp only[bo,ca,cT,cU,bL,hA,h7]
 refine IH h θ v λδ ao aC cJ=>?_;have oA:=@Bm R v;unfold iT at cJ⊢;cases he:gB R v with
 |none=>
  try dsimp only
  rw[cond_neg (by rfl)];exact ω.mk ⟨rfl,aC⟩
 |some e=>
  try dsimp only
  rw[cond_pos (by rfl)];obtain⟨v0,a7,φ,hk⟩:=oA he;obtain⟨k,rfl⟩:=eF v0
  skip
  have X:=aC.trans (η.drew ao);obtain⟨gq,h⟩:=h.ex X;have bM:∀j,(⟨cf,16,none⟩:Addr).add (j*1)=⟨cf,16+j,none⟩:=λj=>by rw[<-dG cf 16,add_add,dG,eS]
  simp only[dG,ch,bM];refine aT (by omega) (aT (by omega) ?_);have key:=h.kz (i:=k) (by omega) (0,0,[]) (tp:=none) (.inl ⟨rfl,rfl⟩) (N:=λw'=>ω (λv w'=>v=.int .i64 0/\oZ w B cf (R.set k (0,0,[])) w') (.returned (.int .i64 0)) w') λw' aR=>ω.mk ⟨rfl,oZ.Xo X aR⟩;rw[dG]at key;refine⟨key.1,λan Qv=>aT (by omega) (aT (by omega) (key.2 an Qv))⟩
def UZ(R:bZ)(v j:Int):Value:=match gB R v with
 |none=>.tuple #[.complex .f64 0 0,.bool false,.int .i64 4]
 |some e=>if 0<=j/\j<e.2.1 then IN (e.2.2.getD j.toNat none)else .tuple #[.complex .f64 0 0,.bool false,.int .i64 5]
theorem avX{L:List eK}{n j:Nat}(h:j<n):(L.take n).getD j none=L.getD j none:=by rw[List.getD_eq_getElem?_getD,List.getD_eq_getElem?_getD,List.getElem?_take_of_lt h]
theorem akn{w:World}{B cf:Nat}{R:bZ}(h:kM w B cf R)(ab:mv R)(v j:Int):Hk.C (some ⟨cf,0,none⟩) v j w (ω λu w'=>u=UZ R v j/\η w w'):=by
 apply Hk.ok;unfold Hk.main;refine κ.use (CE h v) ?_;rintro _ ε ⟨rfl,θ⟩
 try dsimp only[bo,ca,cT,cU,bL,hA,h7]
 refine IH h θ v λδ ao aC cJ=>?_;have oA:=@Bm R v;unfold iT UZ at*;cases he:gB R v with
 |none=>
  try dsimp only
  rw[cond_pos (by rfl)];exact ω.mk ⟨rfl,aC⟩
 |some e=>
  try dsimp only
  rw[cond_neg (by rfl)];obtain⟨v0,a7,φ,hk⟩:=oA he;obtain⟨k,rfl⟩:=eF v0;rw[ch]at φ;obtain⟨gq,h⟩:=h.ex aC;obtain⟨db,tp,ej,k9⟩:=h.Kk (k:=k) (by omega);rw[φ]at ej;cases ej;have bM:∀j,(⟨cf,16,none⟩:Addr).add (j*1)=⟨cf,16+j,none⟩:=λj=>by rw[<-dG cf 16,add_add,dG,eS]
  simp only[dG,ch,bM];refine aT (by omega) (aT (by omega) ⟨tp,h.o.at (h.Ki k9),?_⟩);have eU:=ab e (fa φ);obtain⟨s1,s2,jO,mI⟩:=eU;have mI:=mI hk;rcases h.tb k e tp φ k9 with⟨h1,ι⟩|⟨n,L,h1,ι,aJ⟩
  ·rw[ι]at s1;simp at s1;omega
  ·refine κ.use (zn h1 j) ?_;rintro _ an ⟨rfl,iJ⟩;obtain rfl:=iJ.symm;rw[aJ,ι];by_cases ψ:0<=j/\j<n
   ·rw[aN ψ,aN ψ,avX (by omega)];cases L.getD j.toNat none with
    |none=>unfold IN;try dsimp only[ca,cT,cU,n1,bo,bL,dX,sV];exact ω.mk ⟨rfl,aC⟩
    |some x=>unfold IN et;try dsimp only[ca,cT,cU,n1,bo,bL,dX,sV];exact ω.mk ⟨rfl,aC⟩
   ·rw[aL ψ,aL ψ]
    try dsimp only[ca,cT,cU,n1,bo,bL,dX,sV]
    exact ω.mk ⟨rfl,aC⟩
def Ck(R:bZ)(v j:Int):Int:=match gB R v with
 |none=>4
 |some e=>if e.1=2 then 8 else if 0<=j/\j<e.2.1 then 0 else 5
theorem ak5{w0 w:World}{B cf:Nat}{R:bZ}(h:kM w B cf R)(J:η w0 w)(ab:mv R){k j:Nat}{e:gn}(hk:k<8)(he:R[k]?=some e)(aF:e.1≠0)(ψ:(j:Int)<e.2.1)(q:eK)(aH:kH q){r m:Nat}(φ:∀x,q=some x->r=eX (some x)/\m=e5 (some x)){Z:Value->al}(dZ:∀w',oZ w0 B cf (j5 R k j q) w'->Z (.int .i64 0) w'):
  ql.bK (some ⟨cf,0,none⟩) (k:Int) (j:Int) r m q.isSome w (ω Z):=by
 unfold ql.bK
 try dsimp only[bo]
 obtain⟨gq,h⟩:=h;obtain⟨db,tp,ej,k9⟩:=h.Kk (k:=k) (by omega);rw[he]at ej;cases ej;have bM:∀j,(⟨cf,16,none⟩:Addr).add (j*1)=⟨cf,16+j,none⟩:=λj=>by rw[<-dG cf 16,add_add,dG,eS]
 simp only[dG,ch,bM];refine aT (by omega) (aT (by omega) ⟨tp,h.o.at (h.Ki k9),?_⟩);obtain⟨s1,s2,jO,mI⟩:=ab e (fa he);have mI:=mI aF;rcases h.tb k e tp he k9 with⟨h1,ι⟩|⟨n,L,h1,ι,aJ⟩
 ·rw[ι]at s1;simp at s1;omega
 have kF:j5 R k j q=R.set k (e.1,e.2.1,e.2.2.set j q):=by unfold j5;rw[he]
 have fin:∀W oe,η w W->TabIs W oe n (L.set j q)->(W.cell? (⟨cf,16+k,none⟩:Addr)).isSome=true/\W.frozen? (⟨cf,16+k,none⟩:Addr)=false/\∀χ,χ=W.setCell (⟨cf,16+k,none⟩:Addr) (.pointer oe)->ω Z (.returned (.int .i64 0)) χ:=by
  intro W oe wA fe;have fX:=h.ex wA;refine fX.o.dv (j:=16+k) (by omega) rfl λχ b4 bh=>?_;rw[NJ fX.len,<-rK]at bh;have Ab:∀j,j=cf->¬tR W j:=λj ψ=>Yc (ψ▸(fX.o.typed rfl).1);have adi:kinds (R.set k (e.1,e.2.1,e.2.2.set j q))=kinds R:=by
   have:=Yt (qs:=[]) h.len hk e.1 e.2.1 (e.2.2.set j q)
   have π:=(h.oA he).2.2;rw[qi,qi]at this;have Bq:=p6 h.len;rw[DT (by omega),qj (by rw[lg];omega)]at π;rw[<-this,<-π];have eZ:(((kinds R).drop (k*2)).take 2).length=2:=by rw[hs,lg];omega
   rw[eZ,<-Rm,nc,Au,Au]
  refine ω.mk (dZ _ ⟨⟨gq.set k oe,?_,?_,by rw[hQ];exact h.jQ,λi db YJ ej k9=>?_⟩,((J.trans wA).aO _).gL b4⟩)
  ·rw[kF,adi];exact bh
  ·rw[kF,hQ];exact h.len
  ·rw[kF,List.getElem?_set]at ej;rw[List.getElem?_set]at k9;by_cases rq:k=i
   ·rw[aN rq,aN (by rw[h.len];omega)]at ej;rw[aN rq,aN (by rw[h.jQ];omega)]at k9;cases ej;cases k9;exact wL.aO (.inr ⟨n,L.set j q,fe,by rw[ι,List.take_set],aJ⟩) b4 Ab
   ·rw[aL rq]at ej k9;exact(fX.tb i db YJ ej k9).aO b4 Ab
 cases q with
 |some x=>
  obtain⟨rfl,rfl⟩:=φ x rfl;rw[cond_pos (by rfl)];refine κ.use (KL h1 (j:=j) (by omega) (x:=x) aH) ?_;rintro _ a8 ⟨oe,rfl,aU,fe⟩
  try dsimp only[ca,cT,cU,bo,bL,n0]
  refine aT (by omega) (aT (by omega) ?_);exact fin a8 oe aU fe
 |none=>
  rw[cond_neg (by rfl)];refine κ.use (akf h1 (j:=j) (by omega)) ?_;rintro _ a8 ⟨oe,rfl,aU,fe⟩
  try dsimp only[ca,cT,cU,bo,bL,n0]
  refine aT (by omega) (aT (by omega) ?_);exact fin a8 oe aU fe
theorem ZX{w:World}{B cf:Nat}{R:bZ}(h:kM w B cf R)(ab:mv R)(v j:Int)(q:eK)(aH:kH q){r m:Nat}(φ:∀x,q=some x->r=eX (some x)/\m=e5 (some x)):
  ql.C (some ⟨cf,0,none⟩) v j r m q.isSome w (ω λu w'=>u=.int .i64 (Ck R v j)/\(Ck R v j≠0->η w w')/\(Ck R v j=0->oZ w B cf (j5 R v.toNat j.toNat q) w')):=by
 apply ql.ok;unfold ql.main;refine κ.use (CE h v) ?_;rintro _ ε ⟨rfl,θ⟩
 try dsimp only[ca,cT,cU,bo,bL,hA,h7]
 refine IH h θ v λδ ao aC cJ=>?_;have oA:=@Bm R v;unfold iT Ck at*;cases he:gB R v with
 |none=>
  try dsimp only
  rw[cond_pos (by rfl)];exact ω.mk ⟨rfl,λ_=>aC,λh=>by cases h⟩
 |some e=>
  rw[he]at cJ
  try dsimp only
  rw[cond_neg (by rfl)];obtain⟨v0,a7,e3,hk⟩:=oA he;obtain⟨k,rfl⟩:=eF v0;rw[ch]at e3⊢;refine⟨e.1,cJ.at (j:=0) rfl,bt (λι=>?_) (λι=>?_)⟩
  ·have ι:e.1=2:=by simpa using ι
   rw[aN ι];exact ω.mk ⟨rfl,λ_=>aC,λh=>by cases h⟩
  have ι:e.1≠2:=by simpa using ι
  rw[aL ι];refine bt (λψ=>?_) (λψ=>?_)
  ·have ψ:=b6 ψ;rw[aL (by omega)];unfold ql.aV
   try dsimp only[C0]
   exact ω.mk ⟨rfl,λ_=>aC,λh=>by cases h⟩
  have ψ:=dn ψ;obtain⟨i,rfl⟩:=eF (show 0<=j by omega);refine⟨e.2.1,cJ.at (j:=1) rfl,?_⟩;unfold ql.aV;refine bt (λI=>?_) (λI=>?_)
  ·have I:=b6 I;rw[aL (by omega)];exact ω.mk ⟨rfl,λ_=>aC,λh=>by cases h⟩
  have I:=dn I;rw[aN (by omega),ch];have wrap:=λW(wA:η w W)=>ak5 (w0:=w) (h.ex wA) wA ab (by omega) e3 hk (j:=i) (by omega) q aH φ (Z:=λu w'=>u=.int .i64 0/\((0:Int)≠0->η w w')/\((0:Int)=0->oZ w B cf (j5 R k i q) w')) λw' aR=>⟨rfl,λh=>absurd rfl h,λ_=>aR⟩;have aI:(λ(u:Value)w'=>u=.int .i64 0/\((0:Int)≠0->η w w')/\((0:Int)=0->oZ w B cf (j5 R k i q) w'))=λu w'=>u=.int .i64 0/\((0:Int)≠0->η w w')/\((0:Int)=0->oZ w B cf (j5 R k i q) w'):=rfl;generalize(λ(u:Value)w'=>u=.int .i64 0/\((0:Int)≠0->η w w')/\((0:Int)=0->oZ w B cf (j5 R k i q) w'))=Z at wrap aI⊢;clear aI;generalize τ:q.isSome=b at wrap⊢;cases b with
  |false=>rw[xz];exact wrap _ aC
  |true=>
   rw[ts];obtain⟨x,rfl⟩:=JQ.1 τ;obtain⟨rfl,rfl⟩:=φ x rfl;refine κ.use (A8 (some x) aH _) ?_;rintro _ an ⟨rfl,iJ⟩;obtain rfl:=iJ.symm;rw[τ]
   try dsimp only[dX]
   exact wrap _ aC
theorem Cm{w w0:World}(J:η w0 w){N:Nat->al}(K:∀b W,w0.heap.size<=b->w.heap.size=b->η w W->η w0 W->μ W b b3 24 (some ⟨b,0,none⟩) 1 1 hX->N b W):aK w hX.toArray b3 N:=by rintro δ ε rfl rfl;have σ:=μ.new (w:=w) hX b3;have θ:=η.alloc w (.cells hX.toArray b3);exact K _ _ J.size rfl θ (J.trans θ) σ
theorem NO{W:World}{o0 fs a b:Nat}{cs lR:aY}(rD:μ W o0 b3 24 (some ⟨a,0,none⟩) 1 1 cs)(en:μ W fs b3 24 (some ⟨b,0,none⟩) 1 1 lR)(h1:∀z∈cs,z.oneCell'=true){N:aj->al}(K:∀w',Kp W w' (λi=>i=b)->N cs.toArray w'):
  ∃(b0:aj),b0.size=24/\aB W (⟨a,0,none⟩:Addr) b0.toList/\(ν (decide (b0.size=24)) (
   a6 W (⟨b,0,none⟩:Addr) b0.toList/\∀bV,bV=W.setCells (⟨b,0,none⟩:Addr).block (⟨b,0,none⟩:Addr).off b0.toList->(∃(dr:aj),dr.size=24/\aB bV (⟨b,0,none⟩:Addr) dr.toList/\N dr bV))):=by
 have ak:cs.length=24:=rD.1;refine⟨cs.toArray,by simp[ak],rD.cells,aT (by simp[ak]) (en.put (cs:=cs) ak h1 λυ bK af=>⟨cs.toArray,by simp[ak],af.cells,K υ bK⟩)⟩
structure Rows(w:World)(R:bZ)(i:Nat)(ps:aY):Prop where
 len:ps.length=8
 one:∀z∈ps,z.oneCell'=true
 row:∀(k:Nat)(e:gn),k<i->R[k]?=some e->∃(p:γ)(c:Nat),ps[k]?=some (Value.slice p e.2.2.length c)/\μ w 0 eT 1 p e.2.2.length c (e.2.2.map et)
theorem Rows.cV{w w':World}{R:bZ}{i:Nat}{ps:aY}(h:Rows w R i ps){S:bl}(k:Kp w w' S)(f:TypeId)(ab:∀i,S i->Typed w f i)(b1:eT≠f):Rows w' R i ps:=
 ⟨h.len,h.one,λj e ψ he=>by obtain⟨p,c,h1,ι⟩:=h.row j e ψ he;exact⟨p,c,h1,ι.cV k f ab b1⟩⟩
theorem Rows.ex{w w':World}{R:bZ}{i:Nat}{ps:aY}(h:Rows w R i ps)(k:η w w'):Rows w' R i ps:=h.cV k cz (λ_ h=>h.elim) (by decide)
theorem Rows.set{w:World}{R:bZ}{i:Nat}{ps:aY}(h:Rows w R i ps)(I:i<8){e:gn}(he:R[i]?=some e){p:γ}{c:Nat}(o:μ w 0 eT 1 p e.2.2.length c (e.2.2.map et)):Rows w R (i+1) (ps.set i (.slice p e.2.2.length c)):=by
 refine⟨by rw[hQ];exact h.len,λz aI=>?_,λk db hk ej=>?_⟩
 ·rcases qh aI with aI|rfl
  ·exact h.one z aI
  ·rfl
 ·rw[List.getElem?_set];by_cases rq:i=k
  ·subst rq;rw[he]at ej;cases ej;rw[aN rfl,aN (by rw[h.len];exact I)];exact⟨p,c,rfl,o⟩
  ·rw[aL rq];exact h.row k db (by omega) ej
theorem Rows.NR{w:World}{R:bZ}{ps:aY}(h:Rows w R 8 ps)(dD:R.length=8)(ok:∀e∈R,mG e):fV w R ps:=
 ⟨dD,h.len,λk e he=>h.row k e (by have:=(List.getElem?_eq_some_iff.1 he).1;omega) he,ok⟩
theorem Ba(b j:Nat):(⟨b,16,none⟩:Addr).add (j*1)=⟨b,16+j,none⟩:=by rw[<-dG b 16,add_add,dG,eS]
theorem afa{R:bZ}{ps:aY}(h:∀z∈ps,z.oneCell'=true):∀z∈kinds R++ps,z.oneCell'=true:=λz aI=>by
 rcases iC.1 aI with h1|h1
 ·exact QI _ z h1
 ·exact h z h1
theorem ali{w:World}{B cf:Nat}{R:bZ}(h:kM w B cf R)(ok:∀e∈R,mG e):tw.C (some ⟨cf,0,none⟩) w (ω λv w'=>∃ps,v=.agg (bT R ps).toArray/\fV w' R ps/\η w w'):=by
 obtain⟨gq,h⟩:=h;have dD:=h.len;apply tw.ok;unfold tw.main;refine Cm (η.refl w) λδ ε eL aP θ qz σ=>Cm qz λζ υ eG bM ρ ft af=>?_;have bQ:=(σ.ge rfl).2;dsimp only at bQ;have b1:δ≠ζ:=by omega
 have σ:=σ.ex ρ
 try dsimp only[nD,bo,jz]
 have ι:=h.ex ft;refine⟨(kinds R).toArray,by simp[p6 dD],?_,aT (by simp[p6 dD]) ?_⟩
 ·have:=bd.take (w:=υ) (a:=some _) ι.o.cells 16
  rw[qj (by rw[p6 dD];exact dO _),hR (by rw[p6 dD];exact dO _)]at this;exact this
 have a0:(⟨ζ,0,none⟩:Addr)=(⟨ζ,0,none⟩:Addr).add 0:=(Addr.add_zero' _).symm;have key:=μ.putAt af 0 (kinds R) (by rw[p6 dD];omega) (QI R) (N:=λao=>∃(bC:aj),bC.size=8/\aB ao ((⟨cf,0,none⟩:Addr).add 16) bC.toList/\tw.bb δ ζ bC 0 ao (ω λv w'=>∃ps,v=.agg (bT R ps).toArray/\fV w' R ps/\η w w')) λao cI cJ=>?_
 ·rw[<-a0]at key;exact key
 have ah:hX.drop (0+(kinds R).length)=List.replicate 8 (Value.slice none 0 0):=by rw[p6 dD];rfl
 rw[G3,uJ,ah]at cJ;have iF:η w ao:=ft.then cI λi I=>by omega
 have cK:=h.ex iF;have σ:=σ.aO cI λx J I=>by cases J;exact b1 I
 refine⟨(gq.map Value.pointer).toArray,by simp[h.jQ],?_,?_⟩
 ·have:=aB.drop (w:=ao) cK.o.cells 16
  rw[DT (by rw[p6 dD];exact dO _),sq (by rw[p6 dD];exact dO _),uJ]at this;exact this
 clear θ ρ qz ft cI bQ aP bM;unfold tw.bb;refine⟨λt2 t3 t17 t18 W=>δ=t2/\ζ=t3/\(gq.map Value.pointer).toArray=t17/\0<=t18/\t18<=8/\η w W/\μ W δ b3 24 (some ⟨δ,0,none⟩) 1 1 hX/\∃ps,μ W ζ b3 24 (some ⟨ζ,0,none⟩) 1 1 (kinds R++ps)/\Rows W R t18.toNat ps,λ_ _ _ t18 _=>(8-t18).toNat,
  ⟨rfl,rfl,rfl,by omega,by omega,iF,σ,List.replicate 8 (.slice none 0 0),cJ,by simp,λz aI=>by rw[nb aI];rfl,λk e hk=>by simp at hk⟩,?_⟩
 clear σ cJ iF cK;rintro _ _ _ t18 W ⟨rfl,rfl,rfl,aF,h1,J,σ,ps,af,φ⟩;unfold tw.δ;obtain⟨k,rfl⟩:=eF aF;rw[ch]at φ;refine bt (λhk=>?_) (λhk=>?_)
 ·have hk:=b6 hk;obtain⟨e,tp,he,aS⟩:=h.Kk (k:=k) (by omega);refine aT (by omega) (aT (by omega) (hh (v:=.pointer tp) ?_ ?_))
  ·rw[ch,eS,List.getElem?_toArray,List.getElem?_map,aS];rfl
  try dsimp only[n0]
  have Vx:pD.C tp W (ω λv w'=>∃q d,v=.slice q e.2.2.length d/\η W w'/\μ w' 0 eT 1 q e.2.2.length d (e.2.2.map et)):=by
   rcases(h.ex J).tb k e tp he aS with⟨aP,bM⟩|⟨n,L,t1,t2,t3⟩
   ·rw[aP,bM];exact(ajO W).mono λiK w'⟨v,az,gA,jE⟩=>⟨v,az,none,0,gA,by rw[jE];exact η.refl _,μ.nil _ _ _ _⟩
   ·have ak:e.2.2.length=n:=by rw[t2,hs];have:=t1.len;omega
    rw[ak,t2];exact(ajP t1).mono λiK w'⟨v,az,q,d,gA,jE,iJ⟩=>⟨v,az,q,d,gA,jE,iJ.lower (eR _)⟩
  refine κ.use Vx ?_;rintro _ an ⟨q,d,rfl,ay,cB⟩
  try dsimp only[ee]
  have σ:=σ.ex ay;have af:=af.ex ay;refine aT (by omega) (aT (by omega) ?_);rw[ch,Ba];refine af.dv (j:=16+k) (v:=.slice q e.2.2.length d) (by omega) rfl λa8 hW eN=>?_;rw[NJ dD]at eN;have gR:∀i,i=ζ->Typed an b3 i:=λi I=>I▸(af.typed rfl).1;rw[bS (x:=(k:Int)+1) (by omega) (by omega)];refine⟨⟨rfl,rfl,rfl,by omega,by omega,(J.trans ay).then hW λi I=>by omega,σ.aO hW λx J I=>by cases J;exact b1 I,_,eN,?_⟩,by((try dsimp only);omega)⟩
  have:=(φ.ex ay).cV hW b3 gR (by decide)
  exact this.set (by omega) he (cB.cV hW b3 gR (by decide))
 ·have hk:=dn hk;obtain rfl:k=8:=by omega
  refine NO af σ (afa φ.one) λw' kw=>ω.mk ⟨ps,rfl,(φ.NR dD ok).cV kw b3 (λi I=>I▸(σ.typed rfl).1) (by decide),J.then kw λi I=>by omega⟩
def Sep(B i:Nat)(ps:aY):Prop:=(∀(a:Nat)(p:γ)(n c:Nat),a<i->ps[a]?=some (.slice p n c)->∀x,p=some x->B<=x.block)/\∀(a b:Nat)(p:γ)(n c:Nat)(b5:γ)(fG aW:Nat),a<i->b<i->a≠b->ps[a]?=some (.slice p n c)->ps[b]?=some (.slice b5 fG aW)->∀x y,p=some x->b5=some y->x.block≠y.block
theorem Zm{w:World}{R:bZ}{qs:aY}(h:iE w R qs):sW.C (bT R qs).toArray w (ω λv w'=>∃ps,v=.agg (bT R ps).toArray/\fV w' R ps/\η w w'/\Sep w.heap.size 8 ps):=by
 have dD:=h.len;apply sW.ok;unfold sW.main;rintro δ ε rfl rfl;have σ:=μ.new (w:=w) (bT R qs) b3;have θ:=η.alloc w (.cells (bT R qs).toArray b3);have bQ:=(σ.ge rfl).2;have wV:(bT R qs).length=24:=h.eA;rw[wV]at σ;generalize w.alloc (.cells (bT R qs).toArray b3)=ε at σ θ bQ⊢;generalize eL:w.heap.size=δ at σ bQ⊢;have acF:w.heap.size<=δ:=by omega
 refine Cm θ λζ υ eG bM ρ ft af=>?_;have σ:=σ.ex ρ;have b1:δ≠ζ:=by dsimp only at bQ;omega
 clear bQ bM θ ρ;unfold sW.bb;refine⟨λt1 t2 t4 W=>δ=t1/\ζ=t2/\0<=t4/\t4<=8/\η w W/\μ W ζ b3 24 (some ⟨ζ,0,none⟩) 1 1 hX/\∃ps,μ W δ b3 24 (some ⟨δ,0,none⟩) 1 1 (kinds R++ps)/\Rows W R t4.toNat ps/\Sep w.heap.size t4.toNat ps/\∀k,t4.toNat<=k->ps[k]?=qs[k]?,λ_ _ t4 _=>(8-t4).toNat,
  ⟨rfl,rfl,by omega,by omega,ft,af,qs,σ,⟨h.dN,λz aI=>h.one z (iC.2 (.inr aI)),λk e hk=>by simp at hk⟩,⟨λa p n c aR=>by simp at aR,λa b p n c b5 fG aW aR=>by simp at aR⟩,λ_ _=>rfl⟩,?_⟩
 clear σ af ft;rintro _ _ t4 W ⟨rfl,rfl,aF,h1,J,af,ps,σ,φ,Gd,Ml⟩;unfold sW.δ;obtain⟨k,rfl⟩:=eF aF;rw[ch]at φ Gd Ml;refine bt (λhk=>?_) (λhk=>?_)
 ·have hk:=b6 hk;obtain⟨e,he⟩:=h.get (k:=k) (by omega);obtain⟨p,c,hp,π⟩:=(h.ex J).row k e he;have hlen:e.2.2.length<=1000:=(h.ok e (fa he)).2.1;refine aT (by omega) (aT (by omega) ⟨p,e.2.2.length,c,?_,?_⟩)
  ·rw[ch,Ba];refine σ.at (j:=16+k) ?_;rw[List.getElem?_append_right (by rw[p6 dD];omega),p6 dD,JW,Ml k (dO _),hp]
  refine κ.use (Zk p _ c (e.2.2.map et) W π (by simp) (by omega) (afA _)) ?_;rintro _ an ⟨q,d,rfl,ay,cB⟩
  try dsimp only[ee]
  have σ:=σ.ex ay;have af:=af.ex ay;refine aT (by omega) (aT (by omega) ?_);rw[ch,Ba];refine σ.dv (j:=16+k) (v:=.slice q e.2.2.length d) (by omega) rfl λa8 hW eN=>?_;rw[NJ dD]at eN;have gR:∀i,i=δ->Typed an b3 i:=λi I=>I▸(σ.typed rfl).1;rw[bS (x:=(k:Int)+1) (by omega) (by omega)];refine⟨⟨rfl,rfl,by omega,by omega,(J.trans ay).then hW λi I=>by omega,af.aO hW λx J I=>by cases J;exact b1 I.symm,_,eN,?_,?_,λj ψ=>?_⟩,by((try dsimp only);omega)⟩
  ·exact((φ.ex ay).cV hW b3 gR (by decide)).set (by omega) he ((cB.lower (eR _)).cV hW b3 gR (by decide))
  ·show Sep w.heap.size (k+1) _;have l4:∀a,a<k->∀(b5:γ)(fG aW:Nat)x,ps[a]?=some (.slice b5 fG aW)->b5=some x->x.block<W.heap.size:=by
    intro a aR b5 fG aW x F5 mX;obtain⟨db,ej⟩:=h.get (k:=a) (by omega);obtain⟨aX,c2,p0,sl⟩:=φ.row a db aR ej;rw[F5]at p0;cases p0;exact(sl.ge mX).2
   refine⟨λa ae aD c1 aR h1 x mX=>?_,?_⟩
   ·rw[List.getElem?_set]at h1;have Qe:k<ps.length:=by rw[φ.len];omega
    by_cases LI:k=a
    ·subst LI;rw[aN rfl,aN Qe]at h1;cases h1;have g1:=(cB.ge mX).1;have g2:=J.size;omega
    ·rw[aL LI]at h1;exact Gd.1 a _ _ _ (by omega) h1 x mX
   intro a b ae aD c1 aX bu c2 aR τ um h1 ι x y mX Mt;rw[List.getElem?_set]at h1 ι;have Qe:k<ps.length:=by rw[φ.len];omega
   by_cases LI:k=a
   ·subst LI;rw[aN rfl,aN Qe]at h1;rw[aL um]at ι;cases h1;have g1:=(cB.ge mX).1;have g2:=l4 b (by omega) _ _ _ _ ι Mt;omega
   ·rw[aL LI]at h1;by_cases yl:k=b
    ·subst yl;rw[aN rfl,aN Qe]at ι;cases ι;have g1:=(cB.ge Mt).1;have g2:=l4 a (by omega) _ _ _ _ h1 mX;omega
    ·rw[aL yl]at ι;exact Gd.2 a b _ _ _ _ _ _ (by omega) (by omega) um h1 ι x y mX Mt
  ·have ψ:k+1<=j:=ψ;rw[List.getElem?_set_ne (by omega)];exact Ml j (by omega)
 ·have hk:=dn hk;obtain rfl:k=8:=by omega
  refine NO σ af (afa φ.one) λw' kw=>ω.mk ⟨ps,rfl,(φ.NR dD h.ok).cV kw b3 (λi I=>I▸(af.typed rfl).1) (by decide),J.then kw (λi I=>by omega),eL▸Gd⟩
theorem Zn{w:World}{R:bZ}{qs:aY}(h:iE w R qs):sW.C (bT R qs).toArray w (ω λv w'=>∃ps,v=.agg (bT R ps).toArray/\fV w' R ps/\η w w'):=
 (Zm h).mono λe w'⟨v,az,ps,h1,ι,aJ,_⟩=>⟨v,az,ps,h1,ι,aJ⟩
theorem ajQ{w:World}{R:bZ}{qs:aY}(h:iE w R qs)(ab:mv R){p:γ}{c:Nat}:uc.C (bT R qs).toArray p 0 c w (ω λv w'=>∃ps,v=.tuple #[.agg (bT R ps).toArray,.int .i64 0,.int .i64 0]/\fV w' R ps/\η w w'):=by
 have dD:=h.len;apply uc.ok;unfold uc.main;rintro δ ε rfl rfl;have σ:=μ.new (w:=w) (bT R qs) b3;have θ:=η.alloc w (.cells (bT R qs).toArray b3);have bQ:=(σ.ge rfl).2;have wV:(bT R qs).length=24:=h.eA;rw[wV]at σ;generalize w.alloc (.cells (bT R qs).toArray b3)=ε at σ θ bQ⊢;generalize eL:w.heap.size=δ at σ bQ⊢;refine Cm θ λζ υ eG bM ρ ft af=>?_;have σ:=σ.ex ρ;have b1:δ≠ζ:=by dsimp only at bQ;omega
 refine⟨(bT R qs).toArray,by simp[wV],σ.cells,?_⟩;refine κ.use (Iv (h.ex ft)) ?_;rintro _ χ ⟨rfl,ad⟩;rw[bI ab]
 try dsimp only[dX]
 have ha:=ft.trans ad;refine⟨(bT R qs).toArray,by simp[wV],(σ.ex ad).cells,?_⟩;refine κ.use (Zn (h.ex ha)) ?_;rintro _ aZ ⟨ps,rfl,cb,aM⟩
 try dsimp only[hA,h7]
 have k4:=ha.trans aM;have σ:=(σ.ex ad).ex aM;have af:=(af.ex ad).ex aM;have xb:=cb.at.one;refine aT (by simp[cb.at.eA]) (σ.put (cs:=bT R ps) cb.at.eA xb λbV fO e4=>?_);have gR:∀i,i=δ->Typed aZ b3 i:=λi I=>I▸(σ.typed rfl).1;have A9:η w bV:=k4.then fO λi I=>by omega
 have aqX:=cb.cV fO b3 gR (by decide);have af:=af.aO fO λx J I=>by cases J;exact b1 I.symm
 unfold uc.bb;refine⟨λt2 t4 R9 R8 Yz t17 t18 W=>δ=t2/\ζ=t4/\t17=0/\t18=0/\bV=W,λ_ _ _ _ _ _ _ _=>0,⟨rfl,rfl,rfl,rfl,rfl⟩,?_⟩;rintro _ _ R9 R8 Yz _ _ _ ⟨rfl,rfl,rfl,rfl,rfl⟩;unfold uc.δ;rw[jl (by omega)];exact NO e4 af xb λw' kw=>ω.mk ⟨ps,rfl,aqX.cV kw b3 (λi I=>I▸(af.typed rfl).1) (by decide),A9.then kw λi I=>by omega⟩
abbrev dB:=Nat×Nat
def kG(f:dB->dB)(R:bZ):bZ:=R.map λe=>(e.1,e.2.1,e.2.2.map (Option.map f))
def ml(x y:dB)(z:dB):dB:=if z=x then y else z
def l8(R:bZ):List dB->List dB->bZ
 |x::xs,y::ys=>l8 (kG (ml x y) R) xs ys
 |_,_=>R
def MY(v:Nat)(l:List eK)(x:dB):List (Nat×Nat):=l.zipIdx.flatMap λq=>if q.1=some x then[(v,q.2)]else[]
def yT(R:bZ)(x:dB):List (Nat×Nat):=R.zipIdx.flatMap λe=>MY e.2 e.1.2.2 x
def xq(p:Nat×Nat):aY:=[.int .i64 (p.1:Int),.int .i64 (p.2:Int)]
theorem atu(v:Nat)(l:List eK)(x:dB):pv (v:Int) l x=(MY v l x).flatMap xq:=by
 unfold pv MY;rw[List.flatMap_assoc];congr 1
 funext q
 split<;>rfl
theorem Xz(R:bZ)(x:dB):mH R x=(yT R x).flatMap xq:=by
 unfold mH yT;rw[List.flatMap_assoc];congr 1
 funext q
 exact atu _ _ _
theorem MG{R:bZ}{x:dB}{v b:Nat}:(v,b)∈yT R x↔∃e,R[v]?=some e/\e.2.2[b]?=some (some x):=by
 constructor
 ·intro h;obtain⟨⟨e,qv⟩,he,hm⟩:=qk.1 h;obtain⟨⟨q,gg⟩,aH,hm⟩:=qk.1 hm;have mD:=Nv.1 he;have Ja:=Nv.1 aH;dsimp only at mD Ja hm;split at hm
  ·rename_i J;simp only[ma,G0]at hm;obtain⟨rfl,rfl⟩:=hm;subst J;exact⟨_,mD,Ja⟩
  ·cases hm
 ·rintro⟨e,he,τ⟩;exact qk.2 ⟨(e,v),Nv.2 he,qk.2 ⟨(some x,b),Nv.2 τ,by simp⟩⟩
def Cj(R:bZ)(y:dB)(P:List (Nat×Nat)):bZ:=P.foldl (λR p=>j5 R p.1 p.2 (some y)) R
theorem au5(R:bZ)(y:dB)(P:List (Nat×Nat))(p:Nat×Nat):Cj R y (P++[p])=j5 (Cj R y P) p.1 p.2 (some y):=by simp[Cj]
theorem Ym(R:bZ)(v b:Nat)(q:eK)(k:Nat):(j5 R v b q)[k]?=if k=v then(R[k]?).map λe=>(e.1,e.2.1,e.2.2.set b q)else R[k]?:=by
 unfold j5;cases φ:R[v]?with
 |none=>
  by_cases h:k=v
  ·subst h;simp[φ]
  ·simp[h]
 |some e=>
  dsimp only;rw[List.getElem?_set];by_cases h:v=k
  ·subst h;rw[aN rfl,aN (List.getElem?_eq_some_iff.1 φ).1,aN rfl,φ];rfl
  ·rw[aL h,aL λe=>h e.symm]
theorem agl(R:bZ)(v b:Nat)(q:eK):(j5 R v b q).length=R.length:=by
 unfold j5;split
 ·rw[hQ]
 ·rfl
theorem Yl(y:dB)(k:Nat):∀(P:List (Nat×Nat))(R:bZ),(Cj R y P)[k]?=(R[k]?).map λe=>(e.1,e.2.1,e.2.2.mapIdx λb q=>if(k,b)∈P then some y else q)
 |[],R=>by
  show R[k]?=_;cases R[k]?with
  |none=>rfl
  |some e=>
   have:(e.2.2.mapIdx λb q=>if(k,b)∈([]:List (Nat×Nat))then some y else q)=e.2.2:=by apply rL;intro i;rw[List.getElem?_mapIdx];simp
   rw[jB,this]
 |p::P,R=>by
  show(Cj (j5 R p.1 p.2 (some y)) y P)[k]?=_;rw[Yl y k P,Ym];cases φ:R[k]?with
  |none=>simp
  |some e=>
   by_cases hk:k=p.1
   ·rw[aN hk,jB,jB,jB];congr 1;refine Cg rfl (Cg rfl ?_);dsimp only;apply rL;intro b;rw[List.getElem?_mapIdx,List.getElem?_mapIdx,List.getElem?_set];by_cases τ:p.2=b
    ·subst τ;rw[aN rfl];by_cases ak:p.2<e.2.2.length
     ·rw[aN ak]
      have:(k,p.2)∈p::P:=by
       have:p=(k,p.2):=Cg hk.symm rfl
       rw[<-this];exact oj
      rw[List.getElem?_eq_getElem ak];simp[this]
     ·rw[aL ak,List.getElem?_eq_none (by omega)];rfl
    ·rw[aL τ]
     have:((k,b)∈p::P)↔((k,b)∈P):=by rw[fB];exact⟨λh=>h.resolve_left λe=>τ (hr Prod.snd e).symm,.inr⟩
     simp only[this]
   ·rw[aL hk,jB,jB];congr 1;refine Cg rfl (Cg rfl ?_);dsimp only;congr 1
    funext b q
    have:((k,b)∈p::P)↔((k,b)∈P):=by rw[fB];exact⟨λh=>h.resolve_left λe=>hk (hr Prod.fst e),.inr⟩
    simp only[this]
theorem au4(R:bZ)(x y:dB):Cj R y (yT R x)=kG (ml x y) R:=by
 apply rL;intro k;rw[Yl];unfold kG;rw[List.getElem?_map];cases φ:R[k]?with
 |none=>rfl
 |some e=>
  rw[jB,jB];congr 1;refine Cg rfl (Cg rfl ?_);dsimp only;apply rL;intro b;rw[List.getElem?_mapIdx,List.getElem?_map];cases τ:e.2.2[b]?with
  |none=>rfl
  |some q=>
   rw[jB,jB];congr 1;by_cases aH:q=some x
   ·subst aH;rw[aN (MG.2 ⟨e,φ,τ⟩)];simp[ml]
   ·rw[aL λh=>by
     obtain⟨db,h1,ι⟩:=MG.1 h;rw[φ]at h1;cases h1;rw[τ]at ι;cases ι;exact aH rfl]
    cases q with
    |none=>rfl
    |some z=>simp[ml,show z≠x fromλe=>aH (by rw[e])]
theorem aet{e:gn}{x:dB}:x∈qW e↔some x∈e.2.2:=by unfold qW;rw[wa];exact⟨λ⟨a,h,e⟩=>by cases a with|none=>cases e|some y=>cases e;exact h,λh=>⟨_,h,rfl⟩⟩
theorem xh{R:bZ}{x:dB}:x∈used R↔∃e∈R,some x∈e.2.2:=by unfold used;rw[qk];exact⟨λ⟨e,h,k⟩=>⟨e,h,aet.1 k⟩,λ⟨e,h,k⟩=>⟨e,h,aet.2 k⟩⟩
theorem afk{R:bZ}{x:dB}:yT R x=[]↔x∉used R:=by
 constructor
 ·intro h J;obtain⟨e,he,hm⟩:=xh.1 J;obtain⟨v,az⟩:=List.getElem?_of_mem he;obtain⟨b,τ⟩:=List.getElem?_of_mem hm
  have:=MG.2 ⟨e,az,τ⟩
  rw[h]at this;cases this
 ·intro h;rw[X1];rintro⟨v,b⟩ hm;obtain⟨e,he,τ⟩:=MG.1 hm;exact h (xh.2 ⟨e,fa he,fa τ⟩)
theorem atA{w:World}{B:Nat}{p:γ}{n c:Nat}{P:List (Nat×Nat)}(o:μ w B ig 2 p n c (P.flatMap xq)){j:Nat}{v b:Nat}(ψ:P[j]?=some (v,b)):∃a,p=some a/\aB w (a.add (j*2)) (xq (v,b)):=by
 have e:P.flatMap xq=(P.map xq).flatten:=by rw[List.flatMap_def]
 rw[e]at o;exact o.cells.row (k:=2) (λr φ=>by obtain⟨q,_,rfl⟩:=gx.1 φ;rfl) (by decide) (by rw[List.getElem?_map,ψ];rfl)
theorem ab3(P:List (Nat×Nat)):(P.flatMap xq).length=2*P.length:=by
 induction P with
 |nil=>rfl
 |cons a l cw=>rw[As,fw,cw,kU];show 2+_=_;omega
theorem UP{α β:Type}{f:α->List β}{k:Nat}:∀{l:List α},(∀a∈l,(f a).length<=k)->(l.flatMap f).length<=l.length*k
 |[],_=>by simp
 |a::l,h=>by rw[As,fw,kU,mc,G9];have h1:=h a (by simp);have ι:=UP (l:=l) λb τ=>h b (ie _ τ);omega
theorem atw{R:bZ}(dD:R.length=8)(ok:∀e∈R,mG e)(x:dB):(yT R x).length<=8000:=by
 have:=UP (l:=R.zipIdx) (f:=λe=>MY e.2 e.1.2.2 x) (k:=1000) λe he=>by
  have hm:=ok e.1 (fa (Nv.1 he))
  have:=UP (l:=e.1.2.2.zipIdx) (f:=λq=>if q.1=some x then[(e.2,q.2)]else[]) (k:=1) λq _=>by split<;>simp
  rw[List.length_zipIdx]at this;have ak:=hm.2.1;unfold MY;omega
 rw[List.length_zipIdx,dD]at this;exact this
theorem arM(f:dB->dB)(R:bZ):kinds (kG f R)=kinds R:=by unfold kinds kG;rw[List.flatMap_map]
theorem fV.cell{w:World}{R:bZ}{ps:aY}(h:fV w R ps){ajS:Nat}(ab:Sep ajS 8 ps){v b:Nat}{e:gn}(he:R[v]?=some e)(τ:b<e.2.2.length){y:dB}(ag:hg y){p:γ}{n c:Nat}(hp:ps[v]?=some (.slice p n c)){N:al}
  (K:∀w',fV w' (j5 R v b (some y)) ps->Kp w w' (λi=>∃x,p=some x/\x.block=i)->N w'):
  n=e.2.2.length/\∃d,p=some d/\((w.cell? (d.add (b*1))).isSome=true/\w.frozen? (d.add (b*1))=false/\∀w',w'=w.setCell (d.add (b*1)) (et (some y))->N w'):=by
 obtain⟨aX,c2,p0,o⟩:=h.row v e he;rw[hp]at p0;cases p0;refine⟨rfl,?_⟩;obtain⟨ayU,rfl⟩:=μ.base o (by omega);refine⟨_,rfl,?_⟩;rw[eS,dG];refine o.dv (j:=b) (v:=et (some y)) (by omega) rfl λw' k' ib=>?_;rw[<-rK]at ib;have az:v<8:=by have:=(List.getElem?_eq_some_iff.1 he).1;rw[h.len]at this;exact this
 refine K w' ⟨by rw[agl];exact h.len,h.dN,λk db hk=>?_,λdb ej=>?_⟩ (k'.mono λi _ I=>⟨_,rfl,I.symm⟩)
 ·rw[Ym]at hk;by_cases I6:k=v
  ·subst I6;rw[aN rfl,he]at hk;cases hk;rw[hQ];exact⟨_,c,hp,ib⟩
  ·rw[aL I6]at hk;obtain⟨bj,bP,aJ,bh⟩:=h.row k db hk;have BA:k<8:=by have:=(List.getElem?_eq_some_iff.1 hk).1;rw[h.len]at this;exact this
   exact⟨bj,bP,aJ,bh.aO k' λx J I=>ab.2 k v _ _ _ _ _ _ BA az I6 aJ hp x _ J rfl I⟩
 ·obtain⟨k,hk⟩:=List.getElem?_of_mem ej;rw[Ym]at hk;by_cases I6:k=v
  ·subst I6;rw[aN rfl,he]at hk;cases hk;have aG:=h.ok e (fa he);refine⟨λq aH=>?_,by rw[hQ];exact aG.2.1,aG.2.2⟩;rcases qh aH with aH|rfl
   ·exact aG.1 q aH
   ·exact ag
  ·rw[aL I6]at hk;exact h.ok db (fa hk)
theorem akD{w:World}{R:bZ}{qs:aY}(h:iE w R qs)(ab:mv R){x y:dB}(J:x∈used R)(ag:y∉used R)(xc:hg y):
  qe.C (bT R qs).toArray (eX (some x)) (e5 (some x)) (eX (some y)) (e5 (some y)) w (ω λv w'=>∃ps,v=.tuple #[.agg (bT (kG (ml x y) R) ps).toArray,.int .i64 0]/\fV w' (kG (ml x y) R) ps/\η w w'):=by
 have dD:=h.len;have Qj:hg x:=sB h.ok x J;apply qe.ok;unfold qe.main;rintro δ ε eL rfl;have σ:=μ.new (w:=w) (bT R qs) b3;rw[<-eL,h.eA]at σ;have θ:=η.alloc w (.cells (bT R qs).toArray b3);have bQ:=(σ.ge rfl).2;generalize w.alloc (.cells (bT R qs).toArray b3)=ε at σ θ bQ⊢;refine Cm θ λζ υ eG bM ρ ft af=>?_;have σ:=σ.ex ρ;have b1:δ≠ζ:=by dsimp only at bQ;omega
 clear bQ θ ρ bM;refine⟨(bT R qs).toArray,by simp[h.eA],σ.cells,?_⟩;refine κ.use (Iv (h.ex ft)) ?_;rintro _ χ ⟨rfl,ad⟩;rw[bI ab]
 try dsimp only[dX]
 refine κ.use (A8 (some x) Qj _) ?_;rintro _ an ⟨rfl,iJ⟩;obtain rfl:=iJ.symm
 try dsimp only[dX]
 rw[cond_neg (by rfl)];refine κ.use (A8 (some y) xc _) ?_;rintro _ a8 ⟨rfl,sa⟩;obtain rfl:=sa.symm
 try dsimp only[dX]
 rw[cond_neg (by rfl)];have ha:=ft.trans ad;have σ:=σ.ex ad;have af:=af.ex ad;refine⟨(bT R qs).toArray,by simp[h.eA],σ.cells,?_⟩;refine κ.use (all_map (h.ex ha)) ?_;rintro _ cm ⟨B,ayV,rfl,eh,hm,df⟩
 try dsimp only[Px]
 have O3:=ha.trans df;have σ:=σ.ex df;have af:=af.ex df;have pZ:∀y∈gK (used R),hg y:=λy ag=>sB h.ok y ((kv _ _).1 ag);have w7:∀y,y∉gK (used R)->mH R y=[]:=λy ag=>XA λhu=>ag ((kv _ _).2 hu);refine hm.look pZ w7 Qj λae aD c1 Xr=>?_
 try dsimp only[ee]
 rw[Xz]at Xr;have se:aD=(yT R x).length:=by have:=Xr.1;rw[ab3]at this;omega
 have aqo:yT R x≠[]:=λe=>afk.1 e J;have xd:0<(yT R x).length:=X4.2 aqo;rw[cond_neg (by simp;omega)];have aru:x≠y:=λe=>ag (e▸J);rw[Dz Qj xc aru,cond_pos (by rfl)];refine hm.look pZ w7 xc λaX bu c2 Xs=>?_
 try dsimp only[ee]
 rw[Xz,afk.2 ag]at Xs;have adt:bu=0:=by have:=Xs.1;simp at this;omega
 subst adt;rw[jl (by omega)];unfold qe.aV;refine⟨(bT R qs).toArray,by simp[h.eA],σ.cells,?_⟩;refine κ.use (Zm (h.ex O3)) ?_;rintro _ ed ⟨ps,rfl,cb,jb,Gd⟩
 try dsimp only[hA,h7]
 have CK:=O3.trans jb;have alK:=O3.size;have σ:=σ.ex jb;have af:=af.ex jb;have xb:=cb.at.one;refine aT (by simp[cb.at.eA]) (σ.put (cs:=bT R ps) cb.at.eA xb λeO Ad oJ=>?_);have gR:∀i,i=δ->Typed ed b3 i:=λi I=>I▸(σ.typed rfl).1;have KR:η w eO:=CK.then Ad λi I=>by omega
 have adM:=cb.cV Ad b3 gR (by decide);have af:=af.aO Ad λx J I=>by cases J;exact b1 I.symm
 obtain⟨es,qC,_⟩:=(hm.yF (jb.aO λ_=>False) id λ_ h=>h.elim).size;have adp:=(hm.yF (jb.aO λ_=>False) id λ_ h=>h.elim).yF Ad (λτ=>by obtain⟨c,fr,aS⟩:=gR _ τ;rw[qC]at aS;cases aS) λi I aS=>aS.ne (gR i I) (by decide) rfl
 refine adp.look pZ w7 Qj λbj dU bP MV=>?_
 try dsimp only[ee]
 rw[Xz]at MV;have aqk:dU=(yT R x).length:=by have:=MV.1;rw[ab3]at this;omega
 subst aqk;clear adp hm Xr Xs σ Ad cb jb;generalize dd:yT R x=P at MV⊢;have j0:∀v b,(v,b)∈P->∃e,R[v]?=some e/\b<e.2.2.length:=λv b hm=>by rw[<-dd]at hm;obtain⟨e,he,τ⟩:=MG.1 hm;exact⟨e,he,(List.getElem?_eq_some_iff.1 τ).1⟩
 have aze:P.length<=8000:=dd▸atw dD h.ok x;unfold qe.bb;refine⟨λsw sv t3 t6 Sl Sk YD t51 t52 W=>eX (some y)=sw/\e5 (some y)=sv/\δ=t3/\ζ=t6/\bj=Sl/\P.length=Sk/\(P.length:Int)=t51/\0<=t52/\t52<=P.length/\η w W/\μ W δ b3 24 (some ⟨δ,0,none⟩) 1 1 (bT R ps)/\μ W ζ b3 24 (some ⟨ζ,0,none⟩) 1 1 hX/\μ W B ig 2 bj P.length bP (P.flatMap xq)/\fV W (Cj R y (P.take t52.toNat)) ps,
  λ_ _ _ _ _ _ _ _ t52 _=>(P.length-t52).toNat,⟨rfl,rfl,rfl,rfl,rfl,rfl,rfl,by omega,by omega,KR,oJ,af,MV,adM⟩,?_⟩
 clear KR oJ af MV adM CK O3 ha ft ad df;rintro _ _ _ _ _ _ YD _ t52 W ⟨rfl,rfl,rfl,rfl,rfl,rfl,rfl,aF,h1,Jf,σ,af,rE,cb⟩;unfold qe.δ;obtain⟨j,rfl⟩:=eF aF;rw[ch]at cb;refine bt (λψ=>?_) (λψ=>?_)
 ·have ψ:=b6 ψ;have ff:j<P.length:=by omega
  obtain⟨v,b,Qu⟩:∃v b,P[j]?=some (v,b):=⟨P[j].1,P[j].2,List.getElem?_eq_getElem ff⟩;obtain⟨a,rfl,lG⟩:=atA rE Qu;obtain⟨e,he,τ⟩:=j0 v b (fa Qu);have Wo:v<8:=by have:=(List.getElem?_eq_some_iff.1 he).1;omega
  refine aT (by omega) (aT (by omega) ?_)
  try dsimp only[bo]
  rw[ch];refine⟨(xq (v,b)).toArray,rfl,lG,?_⟩;rintro dR eE w4 rfl;have bY:=μ.new (w:=W) [.int .i64 0,.int .i64 0] ig;rw[<-w4]at bY;have aM:=η.alloc W (.cells #[.int .i64 0,.int .i64 0] ig);generalize W.alloc (.cells #[.int .i64 0,.int .i64 0] ig)=eE at bY aM⊢;refine aT rfl (bY.put (cs:=xq (v,b)) rfl (λz aI=>by unfold xq at aI;simp only[fB,oi,py]at aI;rcases aI with rfl|rfl<;>rfl) λey QF rC=>?_);have pH:η W ey:=aM.then QF λi I=>by omega
  have eb:=pH.trans (η.drew ey);have rC:=rC.ex (η.drew ey);generalize ey.drew=dM at eb rC⊢;have σ:=σ.ex eb;have af:=af.ex eb;have rE:=rE.ex eb;have cb:=cb.ex eb;have z6:=cb.row v;have n2:=Yl y v (P.take j) R;rw[he,jB]at n2;obtain⟨iW,amT,vK,_⟩:=z6 _ n2;dsimp only at vK;rw[List.length_mapIdx]at vK;refine⟨_,rC.at (j:=0) rfl,aT (by omega) (aT (by omega) ⟨iW,e.2.2.length,amT,?_,(b:Int),rC.at (j:=1) rfl,?_⟩)⟩
  ·rw[ch,Ba];refine σ.at (j:=16+v) ?_;unfold bT;rw[List.getElem?_append_right (by rw[p6 dD];omega),p6 dD,JW];exact vK
  rw[(Ph xc).1,(Ph xc).2]
  try dsimp only[bo]
  refine aT (by omega) (aT (by omega) ?_);have K:∀w',fV w' (j5 (Cj R y (P.take j)) v b (some y)) ps->Kp dM w' (λi=>∃x,iW=some x/\x.block=i)->(eX (some y)=eX (some y)/\e5 (some y)=e5 (some y)/\δ=δ/\ζ=ζ/\some a=some a/\P.length=P.length/\(P.length:Int)=(P.length:Int)/\0<=IntKind.i64.wrap ((j:Int)+1)/\IntKind.i64.wrap ((j:Int)+1)<=P.length/\η w w'/\μ w' δ b3 24 (some ⟨δ,0,none⟩) 1 1 (bT R ps)/\μ w' ζ b3 24 (some ⟨ζ,0,none⟩) 1 1 hX/\μ w' B ig 2 (some a) P.length bP (P.flatMap xq)/\fV w' (Cj R y (P.take (IntKind.i64.wrap ((j:Int)+1)).toNat)) ps)/\((P.length:Int)-IntKind.i64.wrap ((j:Int)+1)).toNat<((P.length:Int)-(j:Int)).toNat:=by
   intro w' pj k';have oP:∀i,(∃x,iW=some x/\x.block=i)->Typed dM eT i:=λi⟨x,J,I⟩=>by obtain⟨b5,aW,F5,ib⟩:=cb.row v _ n2;rw[vK]at F5;simp only[tt,Value.slice.injEq]at F5;exact I▸(ib.typed (F5.1▸J)).1
   rw[bS (x:=(j:Int)+1) (by omega) (by omega)];have aP:((j:Int)+1).toNat=j+1:=by omega
   have sb:P.take (j+1)=P.take j++[(v,b)]:=by rw[mb ff];congr 2;rw[List.getElem?_eq_getElem ff]at Qu;exact Cd Qu
   rw[aP,sb,au5];refine⟨⟨rfl,rfl,rfl,rfl,rfl,rfl,rfl,by omega,by omega,(Jf.trans eb).then k' λi I=>?_,σ.cV k' eT oP (by decide),af.cV k' eT oP (by decide),rE.cV k' eT oP (by decide),pj⟩,by omega⟩;obtain⟨tK,mX,lZ⟩:=I
   have:=Gd.1 v _ _ _ Wo vK tK mX
   have:=alK
   omega
  obtain⟨_,d,ah,key⟩:=fV.cell cb Gd n2 (b:=b) (by rw[List.length_mapIdx];exact τ) xc vK K;subst ah;rw[ch];exact hh rfl key
 ·have ψ:=dn ψ;obtain rfl:j=P.length:=by omega
  rw[Cb,<-dd,au4]at cb;have hk:bT R ps=bT (kG (ml x y) R) ps:=by unfold bT;rw[arM]
  rw[hk]at σ;refine NO σ af cb.at.one λw' kw=>ω.mk ⟨ps,rfl,cb.cV kw b3 (λi I=>I▸(af.typed rfl).1) (by decide),Jf.then kw λi I=>by omega⟩
def KI:bZ->List dB->List dB->Prop
 |R,x::xs,y::ys=>x∈used R/\y∉used R/\hg y/\KI (kG (ml x y) R) xs ys
 |_,[],[]=>True
 |_,_,_=>False
theorem aeA:∀{xs ys:List dB}{R:bZ},KI R xs ys->∀{i:Nat}(h1:i<xs.length)(ι:i<ys.length),xs[i]∈used (l8 R (xs.take i) (ys.take i))/\ys[i]∉used (l8 R (xs.take i) (ys.take i))/\hg ys[i]/\kG (ml xs[i] ys[i]) (l8 R (xs.take i) (ys.take i))=l8 R (xs.take (i+1)) (ys.take (i+1))
 |x::xs,y::ys,R,h,0,h1,ι=>⟨h.1,h.2.1,h.2.2.1,rfl⟩
 |x::xs,y::ys,R,h,i+1,h1,ι=>aeA h.2.2.2 (i:=i) (by simpa using h1) (by simpa using ι)
theorem avs{R:bZ}(f:dB->dB)(h:mv R):mv (kG f R):=λe he=>by obtain⟨hB,aF,rfl⟩:=gx.1 he;obtain⟨s1,s2,jO,mI⟩:=h hB aF;exact⟨by show((hB.2.2.map _).length:Int)=_;rw[jM];exact s1,s2,jO,mI⟩
theorem HA:∀{xs ys:List dB}{R:bZ},mv R->mv (l8 R xs ys)
 |x::xs,y::ys,R,h=>HA (xs:=xs) (ys:=ys) (R:=kG (ml x y) R) (avs _ h)
 |[],_,_,h=>h
 |_::_,[],_,h=>h
theorem ajN{w:World}{R:bZ}{qs:aY}(h:fV w R qs)(ab:mv R){V T:List dB}(hm:KI R V T){p q:γ}{n c d:Nat}{o0 fs:Nat}(ο:μ w o0 eT 1 p n c (dN V))(vW:μ w fs eT 1 q n d (dN T))(ar:n<=100000):
  uN.C (bT R qs).toArray p n c q n d w (ω λv w'=>∃ps,v=.tuple #[.agg (bT (l8 R V T) ps).toArray,.int .i64 0]/\fV w' (l8 R V T) ps/\η w w'):=by
 have k7:V.length=n:=by have:=ο.1;rw[Ap,eS]at this;exact this
 have fe:T.length=n:=by have:=vW.1;rw[Ap,eS]at this;exact this
 apply uN.ok;unfold uN.main;rintro δ ε eL rfl;have σ:=μ.new (w:=w) (bT R qs) b3;rw[<-eL,h.at.eA]at σ;have θ:=η.alloc w (.cells (bT R qs).toArray b3);have bQ:=(σ.ge rfl).2;generalize w.alloc (.cells (bT R qs).toArray b3)=ε at σ θ bQ⊢;refine Cm θ λζ υ eG bM ρ ft af=>?_;have σ:=σ.ex ρ;have b1:δ≠ζ:=by dsimp only at bQ;omega
 clear bQ θ ρ bM;rw[cond_neg (by simp)];unfold uN.bb;refine⟨λnh ng qT dw dh ef t3 t6 t17 t18 W=>p=nh/\n=ng/\q=dw/\n=dh/\δ=t3/\ζ=t6/\(n:Int)=t17/\0<=t18/\t18<=n/\η w W/\μ W ζ b3 24 (some ⟨ζ,0,none⟩) 1 1 hX/\∃ps,fV W (l8 R (V.take t18.toNat) (T.take t18.toNat)) ps/\μ W δ b3 24 (some ⟨δ,0,none⟩) 1 1 (bT (l8 R (V.take t18.toNat) (T.take t18.toNat)) ps),
  λ_ _ _ _ _ _ _ _ _ t18 _=>(n-t18).toNat,⟨rfl,rfl,rfl,rfl,rfl,rfl,rfl,by omega,by omega,ft,af,qs,h.ex ft,σ⟩,?_⟩
 clear σ af ft;rintro _ _ qT _ _ ef _ _ _ t18 W ⟨rfl,rfl,rfl,rfl,rfl,rfl,rfl,aF,h1,J,af,ps,cb,σ⟩;unfold uN.δ;obtain⟨i,rfl⟩:=eF aF;rw[ch]at cb σ;refine bt (λI=>?_) (λI=>?_)
 ·have I:=b6 I;have eb:=η.drew W;have Jg:=J.trans eb;have cb:=cb.ex eb;have σ:=σ.ex eb;have af:=af.ex eb;generalize W.drew=W at eb Jg cb σ af⊢;have adb:i<V.length:=by omega
  have ada:i<T.length:=by omega
  obtain⟨m1,m2,m3,m4⟩:=aeA hm adb ada;refine⟨(bT (l8 R (V.take i) (T.take i)) ps).toArray,by rw[fP];exact cb.at.eA,σ.cells,aT (by omega) (aT (by omega) ?_)⟩;obtain⟨a,rfl,jN⟩:=(ο.ex Jg).cells.many (j:=i) (v:=et (some V[i])) (by unfold dN;rw[List.getElem?_map,List.getElem?_eq_getElem adb];rfl);obtain⟨fL,rfl,X6⟩:=(vW.ex Jg).cells.many (j:=i) (v:=et (some T[i])) (by unfold dN;rw[List.getElem?_map,List.getElem?_eq_getElem ada];rfl)
  try dsimp only[bo]
  rw[ch,eS];refine⟨_,_,jN,aT (by omega) (aT (by omega) ⟨_,_,X6,?_⟩)⟩;refine κ.use (akD cb.at (HA ab) m1 m2 m3) ?_;rw[m4];rintro _ ao ⟨uG,rfl,pj,aC⟩
  try dsimp only[ca,cT,cU,bo,bL,hA,h7]
  have σ:=σ.ex aC;have af:=af.ex aC;refine aT (by rw[fP];exact pj.at.eA) (σ.put (cs:=bT _ uG) pj.at.eA pj.at.one λaZ eD bY=>?_);rw[cond_neg (by rfl),bS (x:=(i:Int)+1) (by omega) (by omega)];have aP:((i:Int)+1).toNat=i+1:=by omega
  refine⟨⟨by trivial,by trivial,by trivial,by trivial,by trivial,by trivial,by trivial,by omega,by omega,(Jg.trans aC).then eD (λi I=>by omega),af.aO eD (λx J I=>by cases J;exact b1 I.symm),uG,?_,?_⟩,by((try dsimp only);omega)⟩
  ·rw[aP];exact pj.cV eD b3 (λi I=>I▸(σ.typed rfl).1) (by decide)
  ·rw[aP];exact bY
 ·have I:=dn I;obtain rfl:i=n:=by omega
  rw[hR (by omega),hR (by omega)]at cb σ;exact NO σ af cb.at.one λw' kw=>ω.mk ⟨ps,rfl,cb.cV kw b3 (λi I=>I▸(af.typed rfl).1) (by decide),J.then kw λi I=>by omega⟩
def vR(l:List eK)(j:Nat):List eK:=l.take j++List.replicate (l.length-j) none
theorem aeu{l:List eK}{j:Nat}(h:j<l.length):(vR l j).set j (l.getD j none)=vR l (j+1):=by
 have bH:l.getD j none=l[j]:=by rw[List.getD_eq_getElem?_getD,List.getElem?_eq_getElem h];rfl
 unfold vR;rw[Cf _ _ (by rw[hs];omega),hs,sr (by omega),tv,mb h,show l.length-j=(l.length-(j+1))+1 by omega,DO,G4,bH,nc];rfl
theorem asp{l:List eK}{j:Nat}(h:j<l.length):(vR l j).set j none=vR l j:=by unfold vR;rw[Cf _ _ (by rw[hs];omega),hs,sr (by omega),tv,show l.length-j=(l.length-(j+1))+1 by omega,DO,G4]
theorem asq(l:List eK):vR l 0=List.replicate l.length none:=by simp[vR]
theorem aso(l:List eK):vR l l.length=l:=by simp[vR]
structure Part(w:World)(B cf:Nat)(R:bZ)(gq:List γ)(i:Nat):Prop where
 o:μ w B Cu 24 (some ⟨cf,0,none⟩) 1 1 (kinds R++gq.map Value.pointer)
 jQ:gq.length=8
 tb:∀(k:Nat)(e:gn)(tp:γ),k<i->R[k]?=some e->gq[k]?=some tp->wL w tp e
 rest:∀k,i<=k->k<8->gq[k]?=some none
theorem Part.ex{w w':World}{B cf:Nat}{R:bZ}{gq:List γ}{i:Nat}(h:Part w B cf R gq i)(x:η w w'):Part w' B cf R gq i:=⟨h.o.ex x,h.jQ,λk e tp hk he aS=>(h.tb k e tp hk he aS).ex x,h.rest⟩
theorem ZD{w:World}{R:bZ}{qs:aY}(h:iE w R qs)(ab:mv R):mg.C (bT R qs).toArray w (ω λv w'=>∃cf,v=.tuple #[.pointer (some ⟨cf,0,none⟩),.int .i64 0]/\η w w'/\kM w' w.heap.size cf R):=by
 have dD:=h.len;have I5:(kinds R).length=16:=p6 dD;apply mg.ok;unfold mg.main;rintro δ ε eL rfl;have σ:=μ.new (w:=w) (bT R qs) b3;rw[<-eL]at σ;have θ:=η.alloc w (.cells (bT R qs).toArray b3);have wV:(bT R qs).length=24:=h.eA;rw[wV]at σ;generalize w.alloc (.cells (bT R qs).toArray b3)=ε at σ θ⊢;refine⟨(bT R qs).toArray,by simp[wV],σ.cells,?_⟩;refine κ.use (Iv (h.ex θ)) ?_;rintro _ υ ⟨rfl,ρ⟩;rw[bI ab]
 try dsimp only[dX]
 refine κ.use (akF υ) ?_;rintro _ ao ⟨rfl,aC,Ob,aF⟩
 try dsimp only[n0,bo]
 have df:=θ.trans ρ;have eh:w.heap.size<=υ.heap.size:=df.size;generalize υ.heap.size=cf at aF eh⊢;have iF:=df.trans aC;have σ:=(σ.ex ρ).ex aC;refine⟨(kinds R).toArray,by simp[I5],?_,aT (by simp[I5]) ?_⟩
 ·have:=bd.take (w:=ao) (a:=some _) σ.cells 16
  rw[bT,qj (by rw[I5];exact dO _),hR (by rw[I5];exact dO _)]at this;exact this
 have a0:(⟨cf,0,none⟩:Addr)=(⟨cf,0,none⟩:Addr).add 0:=(Addr.add_zero' _).symm;have adx:∀k,k<8->Ob[k]?=some none:=λk hk=>by
  have:=aF.tb k Ik
  cases aS:Ob[k]?with
  |none=>have:=aF.jQ;rw[List.getElem?_eq_none_iff]at aS;omega
  |some tp=>
   rcases aF.tb k Ik tp (by show(List.replicate 8 Ik)[k]?=_;rw[List.getElem?_replicate,aN hk]) aS with⟨aP,_⟩|⟨n,L,t1,t2,t3⟩
   ·rw[aP]
   ·have h1:=t1.len;have t3:(0:Int)=n:=t3;omega
 have key:=μ.putAt aF.o 0 (kinds R) (by rw[I5];omega) (QI R) (N:=λaZ=>∃(bO:aj),bO.size=8/\aB aZ (⟨δ,16,none⟩:Addr) bO.toList/\mg.bb (some ⟨cf,0,none⟩) bO 0 aZ (ω λv w'=>∃cf,v=.tuple #[.pointer (some ⟨cf,0,none⟩),.int .i64 0]/\η w w'/\kM w' w.heap.size cf R)) λaZ eD bY=>?_
 ·rw[<-a0]at key;exact key
 have k4:η w aZ:=iF.then eD λi I=>by omega
 rw[G3,uJ,I5,show 0+16=(kinds (cH [])).length from rfl,Nr]at bY;have σ:=σ.cV eD Cu (λi I=>I▸(aF.o.typed rfl).1) (by decide);have dd:Part aZ cf cf R Ob 0:=⟨bY,aF.jQ,λk e tp hk=>by omega,λk _ hk=>adx k hk⟩;have z6:(bT R qs).drop 16=qs:=h.drop;refine⟨qs.toArray,by simp[h.dN],?_,?_⟩
 ·have:=aB.drop (w:=aZ) σ.cells 16
  rw[dG,z6]at this;exact this
 clear σ iF aC df θ ρ;unfold mg.bb;refine⟨λt4 t21 t22 W=>some ⟨cf,0,none⟩=t4/\qs.toArray=t21/\0<=t22/\t22<=8/\η w W/\∃gq,Part W cf cf R gq t22.toNat,λ_ _ t22 _=>(8-t22).toNat,⟨rfl,rfl,by omega,by omega,k4,Ob,dd⟩,?_⟩;clear dd k4 eD bY adx aF a0 Ob;rintro _ _ t22 W ⟨rfl,rfl,aF,h1,J,gq,dd⟩;unfold mg.δ;obtain⟨i,rfl⟩:=eF aF;rw[ch]at dd;have l2:IntKind.i64.wrap ((i:Int)+1)=((i+1:Nat):Int):=by rw[bS (by omega) (by omega)];rfl
 refine bt (λI=>?_) (λI=>?_)
 ·have I:=b6 I;obtain⟨e,he⟩:=h.get (k:=i) (by omega);obtain⟨p,c,hp,π⟩:=(h.ex J).row i e he;have eU:=ab e (fa he);have dJ:=h.ok e (fa he);refine aT (by omega) (aT (by omega) (hh (v:=.slice p e.2.2.length c) ?_ ?_))
  ·rw[ch,eS,List.getElem?_toArray];exact hp
  try dsimp only[ee]
  rw[l2];refine bt (λaI=>?_) (λaI=>?_)
  ·have aI:e.2.2=[]:=by
    have:e.2.2.length=0:=by simpa using aI
    exact tu this
   refine⟨⟨by trivial,by trivial,by omega,by omega,J,gq,dd.o,dd.jQ,λk db tp hk ej aS=>?_,λk hk BA=>dd.rest k (by have:i+1<=k:=hk;omega) BA⟩,by((try dsimp only);omega)⟩;rcases JU k i with bQ|I1
   ·exact dd.tb k db tp bQ ej aS
   ·have:k=i:=by have hk:k<i+1:=hk;omega
    subst this;rw[he]at ej;cases ej
    have:=dd.rest k (dO _) (by omega)
    rw[aS]at this;cases this;exact .inl ⟨rfl,aI⟩
  ·have aI:e.2.2.length≠0:=by simpa using aI
   obtain⟨s1,s2,jO,mI⟩:=eU;have mI:1<=e.2.1/\e.2.1<33:=mI λhB=>by rw[jO hB]at s1;omega
   refine κ.use (A3 (n:=e.2.2.length) (by omega) W) ?_;rintro _ a8 ⟨ic,rfl,aU,aS⟩
   try dsimp only[ca,cT,cU,bo,bL,n0]
   unfold mg.eZ;refine⟨λt4 t5 t7 t21 t22 N3 N2 Sg t36 t37 bq=>some ⟨cf,0,none⟩=t4/\(i:Int)=t5/\qs.toArray=t21/\(i:Int)=t22/\p=N3/\e.2.2.length=N2/\(e.2.2.length:Int)=t36/\0<=t37/\t37<=e.2.2.length/\η W bq/\∃L,TabIs bq t7 e.2.2.length L/\L.take e.2.2.length=vR e.2.2 t37.toNat,
    λ_ _ _ _ _ _ _ _ _ t37 _=>(e.2.2.length-t37).toNat,⟨rfl,rfl,rfl,rfl,rfl,rfl,rfl,by omega,by omega,aU,_,aS,by rw[RF,Int.toNat_zero,asq];congr 1;omega⟩,?_⟩
   clear aS aU;rintro _ _ t7 _ _ _ _ Sg _ t37 bq ⟨rfl,rfl,rfl,rfl,rfl,rfl,rfl,g0,g1,Lu,L,fe,gy⟩;unfold mg.ζ;obtain⟨j,rfl⟩:=eF g0;rw[ch]at gy;refine bt (λψ=>?_) (λψ=>?_)
   ·have ψ:=b6 ψ;have ff:j<e.2.2.length:=by omega
    obtain⟨a,rfl,r⟩:=GO (π.ex Lu) ff;refine aT (by omega) (aT (by omega) ?_)
    try dsimp only[bo]
    rw[ch,eS];refine⟨_,_,r,?_⟩;have aH:=dJ.1 _ (hP ff);have bH:e.2.2.getD j none=e.2.2[j]:=by rw[List.getD_eq_getElem?_getD,List.getElem?_eq_getElem ff];rfl
    rw[empty_eq aH];rw[bS (x:=(j:Int)+1) (by omega) (by omega)];cases Mg:e.2.2[j]with
    |none=>
     rw[cond_neg (by rfl)];refine⟨⟨by trivial,by trivial,by trivial,by trivial,by trivial,by trivial,by trivial,by omega,by omega,Lu,L,fe,?_⟩,by((try dsimp only);omega)⟩;show L.take e.2.2.length=vR e.2.2 (j+1);rw[gy,<-aeu ff,bH,Mg,asp ff]
    |some x=>
     rw[Mg]at aH;rw[cond_pos (by rfl)];refine κ.use (KL fe (j:=j) ff (x:=x) aH) ?_;rintro _ bW ⟨oe,rfl,ct,aoN⟩
     try dsimp only[ca,cT,cU,bo,bL,n0]
     refine⟨⟨by trivial,by trivial,by trivial,by trivial,by trivial,by trivial,by trivial,by omega,by omega,Lu.trans ct,_,aoN,?_⟩,by((try dsimp only);omega)⟩;show(L.set j (some x)).take e.2.2.length=vR e.2.2 (j+1);rw[List.take_set,gy,<-aeu ff,bH,Mg]
   ·have ψ:=dn ψ;obtain rfl:j=e.2.2.length:=by omega
    rw[aso]at gy;unfold mg.aV
    try dsimp only[bo]
    have dd:=dd.ex Lu;refine aT (by omega) (aT (by omega) ?_);simp only[dG,ch,Ba];refine dd.o.dv (j:=16+i) (v:=.pointer t7) (by omega) rfl λcd yz tk=>?_;rw[NJ dD,<-rK]at tk;have Ab:∀j,j=cf->¬tR bq j:=λj ψ=>Yc (ψ▸(dd.o.typed rfl).1);rw[l2];refine⟨⟨by trivial,by trivial,by omega,by omega,(J.trans Lu).then yz λi I=>by omega,gq.set i t7,tk,by rw[hQ];exact dd.jQ,λk db tp hk ej k9=>?_,λk hk BA=>?_⟩,by((try dsimp only);omega)⟩
    ·rw[List.getElem?_set]at k9;by_cases rq:i=k
     ·subst rq;rw[aN rfl,aN (by rw[dd.jQ];omega)]at k9;cases k9;rw[he]at ej;cases ej;exact wL.aO (.inr ⟨_,L,fe,gy.symm,s1.symm⟩) yz Ab
     ·rw[aL rq]at k9;exact(dd.tb k db tp (by have hk:k<i+1:=hk;omega) ej k9).aO yz Ab
    ·have hk:i+1<=k:=hk;rw[List.getElem?_set_ne (by omega)];exact dd.rest k (by omega) BA
 ·have I:=dn I;obtain rfl:i=8:=by omega
  refine ω.mk ⟨cf,rfl,J,gq,dd.o.lower eh,dD,dd.jQ,λk e tp he aS=>dd.tb k e tp (by have:=(List.getElem?_eq_some_iff.1 he).1;omega) he aS⟩
end Go.Proofs.YtcpdfhkhaekekaaGreat.G.eI
namespace Go.Proofs.YtcpdfhkhaekekaaGreat.G.ba
open Go.bJ Go.RowKit
structure du where
 sure:List aq
 now:List aq
 loose:List (Int×aq)
 after:Int
 off:Bool
def lx(s:aq):Prop:=s.length=64/\∀x∈s,0<=x/\x<256
structure Good(d:du):Prop where
 len:d.sure.length=d.now.length
 gC:d.now.length<=424
 sure:∀s∈d.sure,lx s
 now:∀s∈d.now,lx s
 loose:∀p∈d.loose,0<=p.1/\p.1<(d.now.length:Int)/\lx p.2
 after:-1<=d.after/\d.after<=9223372036854775807
def gN:aq:=List.replicate 64 0
def fresh(n:Nat):du:=⟨List.replicate n gN,List.replicate n gN,[],-1,false⟩
def kL(d:du):du:=if d.after=0 then{d with off:=true}else if d.after>0 then{d with after:=d.after-1}else d
theorem Zg:lx gN:=⟨by simp[gN],λx J=>by have:=nb J;omega⟩
theorem af1(n:Nat):∀s∈List.replicate n gN,lx s:=λs ab=>by rw[nb ab];exact Zg
theorem aom{n:Nat}(h:n<=424):Good (fresh n)where
 len:=by simp[fresh]
 gC:=by simpa[fresh]using h
 sure:=af1 n
 now:=af1 n
 loose:=λp hp=>by cases hp
 after:=by simp[fresh]
theorem R1(d:du):(kL d).sure=d.sure/\(kL d).now=d.now/\(kL d).loose=d.loose:=by
 unfold kL;split
 ·exact⟨rfl,rfl,rfl⟩
 ·split<;>exact⟨rfl,rfl,rfl⟩
theorem R0{d:du}(h:Good d):Good (kL d):=by
 obtain⟨h1,ι,aJ⟩:=R1 d;refine⟨by rw[h1,ι];exact h.len,by rw[ι];exact h.gC,by rw[h1];exact h.sure,by rw[ι];exact h.now,by rw[ι,aJ];exact h.loose,?_⟩
 have:=h.after
 unfold kL;split
 ·exact this
 ·split
  ·dsimp only;omega
  ·exact this
def np(x:aq):aY:=x.map (Value.int .u8)
def wc(l:List aq):aY:=(l.map np).flatten
def Ag(p:Int×aq):aY:=.int .i64 p.1::np p.2
def QL(l:List (Int×aq)):aY:=(l.map Ag).flatten
theorem AL(x:aq):(np x).length=x.length:=by simp[np]
theorem SB(x:aq):∀y∈np x,y.oneCell'=true:=Kr _ _
theorem Yk{l:List aq}(h:∀s∈l,lx s):∀r∈l.map np,r.length=64:=by intro r φ;obtain⟨s,ab,rfl⟩:=gx.1 φ;rw[AL];exact(h s ab).1
theorem agh{l:List aq}(h:∀s∈l,lx s):(wc l).length=l.length*64:=by unfold wc;rw[UQ _ 64 (Yk h),jM]
theorem au0(l:List aq):∀y∈wc l,y.oneCell'=true:=by intro y ag;obtain⟨r,φ,ag⟩:=List.mem_flatten.1 ag;obtain⟨s,_,rfl⟩:=gx.1 φ;exact SB s y ag
theorem agf(n:Nat):wc (List.replicate n gN)=List.replicate (n*64) (Value.int .u8 0):=by
 induction n with
 |zero=>simp[wc]
 |succ n cw=>
  unfold wc at cw⊢;rw[DO,yW,DP,cw];simp only[np,gN,JJ,List.replicate_append_replicate];congr 1;omega
structure A1(w:World)(B pd:Nat)(d:du)(bs bn:Nat)(pl:γ)(kT:Nat):Prop where
 cell:μ w B 78 5 (some ⟨pd,0,none⟩) 1 1 [.slice (some ⟨bs,0,none⟩) d.now.length d.now.length,.slice (some ⟨bn,0,none⟩) d.now.length d.now.length,.slice pl d.loose.length kT,.int .i64 d.after,.bool d.off]
 HL:μ w B 82 64 (some ⟨bs,0,none⟩) d.now.length d.now.length (wc d.sure)
 no:μ w B 82 64 (some ⟨bn,0,none⟩) d.now.length d.now.length (wc d.now)
 fk:μ w B 189 65 pl d.loose.length kT (QL d.loose)
 ne:bs≠bn
def KG(pd bs bn:Nat)(pl:γ)(i:Nat):Prop:=i=pd\/i=bs\/i=bn\/∃x,pl=some x/\x.block=i
def hF(w:World)(B pd:Nat)(d:du)(D:bl):Prop:=∃bs bn pl kT,A1 w B pd d bs bn pl kT/\∀i,D i↔KG pd bs bn pl i
theorem A1.typed{w:World}{B pd:Nat}{d:du}{bs bn:Nat}{pl:γ}{kT:Nat}(h:A1 w B pd d bs bn pl kT){i:Nat}(I:KG pd bs bn pl i):(Typed w 78 i\/Typed w 82 i\/Typed w 189 i)/\B<=i/\i<w.heap.size:=by
 rcases I with rfl|rfl|rfl|⟨x,J,rfl⟩
 ·exact⟨.inl (h.cell.typed rfl).1,(h.cell.typed rfl).2⟩
 ·exact⟨.inr (.inl (h.HL.typed rfl).1),(h.HL.typed rfl).2⟩
 ·exact⟨.inr (.inl (h.no.typed rfl).1),(h.no.typed rfl).2⟩
 ·exact⟨.inr (.inr (h.fk.typed J).1),(h.fk.typed J).2⟩
theorem A1.aO{w w':World}{S:bl}{B pd:Nat}{d:du}{bs bn:Nat}{pl:γ}{kT:Nat}(h:A1 w B pd d bs bn pl kT)(hk:Kp w w' S)(ab:∀i,KG pd bs bn pl i->¬S i):A1 w' B pd d bs bn pl kT:=
 ⟨h.cell.aO hk λx J=>by cases J;exact ab _ (.inl rfl),h.HL.aO hk λx J=>by cases J;exact ab _ (.inr (.inl rfl)),h.no.aO hk λx J=>by cases J;exact ab _ (.inr (.inr (.inl rfl))),h.fk.aO hk λx J=>ab _ (.inr (.inr (.inr ⟨x,J,rfl⟩))),h.ne⟩
theorem hF.typed{w:World}{B pd:Nat}{d:du}{D:bl}(h:hF w B pd d D){i:Nat}(I:D i):(Typed w 78 i\/Typed w 82 i\/Typed w 189 i)/\B<=i/\i<w.heap.size:=by obtain⟨bs,bn,pl,kT,h,cn⟩:=h;exact h.typed ((cn i).1 I)
theorem hF.aO{w w':World}{S:bl}{B pd:Nat}{d:du}{D:bl}(h:hF w B pd d D)(hk:Kp w w' S)(ab:∀i,D i->¬S i):hF w' B pd d D:=by obtain⟨bs,bn,pl,kT,h,cn⟩:=h;exact⟨bs,bn,pl,kT,h.aO hk λi I=>ab i ((cn i).2 I),cn⟩
theorem hF.ex{w w':World}{B pd:Nat}{d:du}{D:bl}(h:hF w B pd d D)(hk:η w w'):hF w' B pd d D:=h.aO hk λ_ _ h=>h
theorem MU{w w':World}{B B' pd:Nat}{d:du}{D:bl}(h:hF w B pd d D)(hk:Kp w w' D){e:TypeId}{sz:Nat}{p:γ}{n c:Nat}{xs:aY}(o:μ w B' e sz p n c xs)(h1:e≠78)(ι:e≠82)(aJ:e≠189):μ w' B' e sz p n c xs:=
 o.aO hk λx J hm=>by
  have aS:=(o.typed J).1;rcases(h.typed hm).1 with hm|hm|hm
  ·exact aS.ne hm h1 rfl
  ·exact aS.ne hm ι rfl
  ·exact aS.ne hm aJ rfl
theorem A1.field{w w':World}{B pd:Nat}{d:du}{bs bn:Nat}{pl:γ}{kT:Nat}(h:A1 w B pd d bs bn pl kT)(k:Kp w w' λi=>i=pd){a:Int}{f:Bool}
  (o:μ w' B 78 5 (some ⟨pd,0,none⟩) 1 1 [.slice (some ⟨bs,0,none⟩) d.now.length d.now.length,.slice (some ⟨bn,0,none⟩) d.now.length d.now.length,.slice pl d.loose.length kT,.int .i64 a,.bool f]):A1 w' B pd {d with after:=a,off:=f} bs bn pl kT:=by
 have t:∀i,i=pd->Typed w 78 i:=λi I=>I▸(h.cell.typed rfl).1;exact⟨o,h.HL.cV k 78 t (by decide),h.no.cV k 78 t (by decide),h.fk.cV k 78 t (by decide),h.ne⟩
def ou(w:World)(D:bl)(p:γ)(xs:aY):Prop:=∀w',Kp w w' D->bd w' p xs
theorem ou.now{w:World}{D:bl}{p:γ}{xs:aY}(h:ou w D p xs):bd w p xs:=h w (Kp.refl _ _)
theorem ou.step{w ε:World}{D fx:bl}{p:γ}{xs:aY}(h:ou w D p xs)(k:Kp w ε D)(cn:∀i,i<w.heap.size->fx i->D i):ou ε fx p xs:=
 λw' k'=>h w' (Kp.trans k k' (λ_ _ h=>h) cn)
theorem ou.DI{w:World}{B B' pd:Nat}{d:du}{D:bl}(h:hF w B pd d D){e:TypeId}{sz:Nat}{p:γ}{n c:Nat}{xs:aY}(o:μ w B' e sz p n c xs)(h1:e≠78)(ι:e≠82)(aJ:e≠189):ou w D p xs:=λw' k=>(MU h k o h1 ι aJ).cells
theorem X9{w:World}{B pd:Nat}{d:du}{D:bl}(h:hF w B pd d D):EW.C (some ⟨pd,0,none⟩) w (ω λv w'=>v=.int .i64 (if d.off then 10 else 0)/\w'=w):=by
 apply EW.ok;unfold EW.main;obtain⟨bs,bn,pl,kT,h,cn⟩:=h
 try dsimp only[nD,bo,jz]
 simp only[dG];refine⟨_,h.cell.at (j:=4) rfl,bt (λπ=>?_) (λπ=>?_)⟩<;>rw[π]<;>exact ω.mk ⟨rfl,rfl⟩
theorem agA{w:World}{B pd:Nat}{d:du}{D:bl}(h:hF w B pd d D)(bH:Good d):EX.C (some ⟨pd,0,none⟩) w (ω λv w'=>v=.bool (kL d).off/\hF w' B pd (kL d) D/\Kp w w' D):=by
 apply EX.ok;unfold EX.main;obtain⟨bs,bn,pl,kT,h,cn⟩:=h;have s7:∀i,i=pd->D i:=λi I=>(cn i).2 (.inl I);have aR:=bH.after
 try dsimp only[bo]
 simp only[dG];unfold kL;refine⟨_,h.cell.at (j:=3) rfl,bt (λπ=>?_) (λπ=>?_)⟩
 ·have π:d.after=0:=by simpa using π
  rw[aN π];refine h.cell.dv (j:=4) (by show 4<1*5;omega) rfl λε aV σ=>?_;exact⟨_,σ.at (j:=4) rfl,ω.mk ⟨rfl,⟨bs,bn,pl,kT,h.field aV σ,cn⟩,aV.mono λi _ I=>s7 i I⟩⟩
 ·have π:¬d.after=0:=by simpa using π
  rw[aL π];refine⟨_,h.cell.at (j:=3) rfl,bt (λjX=>?_) (λjX=>?_)⟩
  ·have jX:=b6 jX;rw[aN jX];refine⟨_,h.cell.at (j:=3) rfl,?_⟩;rw[bS (by omega) (by omega)];refine h.cell.dv (j:=3) (by show 3<1*5;omega) rfl λε aV σ=>?_;exact⟨_,σ.at (j:=4) rfl,ω.mk ⟨rfl,⟨bs,bn,pl,kT,h.field aV σ,cn⟩,aV.mono λi _ I=>s7 i I⟩⟩
  ·have jX:=dn jX;rw[aL jX];exact⟨_,h.cell.at (j:=4) rfl,ω.mk ⟨rfl,⟨bs,bn,pl,kT,h,cn⟩,Kp.refl _ _⟩⟩
theorem A3(n:Int)(w:World)(ar:1<=n/\n<=424):EY.C n w (ω λv w'=>∃pd D,v=.tuple #[.pointer (some ⟨pd,0,none⟩),.int .i64 0]/\η w w'/\hF w' w.heap.size pd (fresh n.toNat) D):=by
 apply EY.ok;unfold EY.main;rw[jl (by omega),jl (by omega)]
 have fin:∀(ε υ:World)(δ ζ:Nat),η w ε->η ε υ->δ<ε.heap.size->δ≠ζ->w.heap.size<=δ->w.heap.size<=ζ->μ υ w.heap.size 82 64 (some ⟨δ,0,none⟩) n.toNat n.toNat (List.replicate (n.toNat*64) (Value.int .u8 0))->μ υ w.heap.size 82 64 (some ⟨ζ,0,none⟩) n.toNat n.toNat (List.replicate (n.toNat*64) (Value.int .u8 0))->
   aK υ #[(Value.slice (some ⟨δ,0,none⟩) n.toNat n.toNat),(Value.slice (some ⟨ζ,0,none⟩) n.toNat n.toNat),(Value.slice none 0 0),(Value.int .i64 (-1)),(Value.bool false)] 78 λax χ=>ω (λv w'=>∃pd D,v=.tuple #[.pointer (some ⟨pd,0,none⟩),.int .i64 0]/\η w w'/\hF w' w.heap.size pd (fresh n.toNat) D) (.returned (Value.tuple #[(Value.pointer (some (⟨ax,0,none⟩:Addr))),(Value.int .i64 0)])) χ:=by
  intro ε υ δ ζ θ ρ bQ b1 eL eG σ af;rintro ax χ rfl rfl;have bh:=μ.new (w:=υ) [.slice (some ⟨δ,0,none⟩) n.toNat n.toNat,.slice (some ⟨ζ,0,none⟩) n.toNat n.toNat,.slice none 0 0,.int .i64 (-1),.bool false] 78;have ad:=η.alloc υ (.cells #[.slice (some ⟨δ,0,none⟩) n.toNat n.toNat,.slice (some ⟨ζ,0,none⟩) n.toNat n.toNat,.slice none 0 0,.int .i64 (-1),.bool false] 78);refine ω.mk ⟨υ.heap.size,_,rfl,(θ.trans ρ).trans ad,δ,ζ,none,0,⟨?_,?_,?_,?_,b1⟩,λi=>og⟩
  ·have:=bh.lower (θ.trans ρ).size
   simpa[fresh]using this
  ·have:=σ.ex ad
   simpa[fresh,agf]using this
  ·have:=af.ex ad
   simpa[fresh,agf]using this
  ·exact μ.nil _ _ _ _
 have two:∀(K:Nat->Nat->al),(∀δ ζ υ,δ=w.heap.size->ζ=w.heap.size+1->η w υ->μ υ w.heap.size 82 64 (some ⟨δ,0,none⟩) n.toNat n.toNat (List.replicate (n.toNat*64) (Value.int .u8 0))->μ υ w.heap.size 82 64 (some ⟨ζ,0,none⟩) n.toNat n.toNat (List.replicate (n.toNat*64) (Value.int .u8 0))->K δ ζ υ)->
   (ν (decide (0<=n)) (ν (decide (n<=n)) (ν (decide ((64:Int)*n<=281474976710656/\n<=9223372036854775807)) (aK w.drew (madeCells (List.replicate 64 (Value.int .u8 0)).toArray (n.toNat*64)) 82 λδ ε=>
    ν (decide (0<=n)) (ν (decide (n<=n)) (ν (decide ((64:Int)*n<=281474976710656/\n<=9223372036854775807)) (aK ε (madeCells (List.replicate 64 (Value.int .u8 0)).toArray (n.toNat*64)) 82 λζ υ=>K δ ζ υ))))))):=by
  intro K jA;refine aT (by omega) (aT (by omega) (aT (by omega) ?_));rintro δ ε rfl rfl;refine aT (by omega) (aT (by omega) (aT (by omega) ?_));rintro ζ υ rfl rfl;rw[DD 64 _ _ (by decide)];have σ:=μ.alloc (w:=w.drew) (List.replicate (n.toNat*64) (Value.int .u8 0)) 82 64 n.toNat (by simp);have θ:η w (w.drew.alloc (.cells (List.replicate (n.toNat*64) (Value.int .u8 0)).toArray 82)):=(η.drew w).trans (η.alloc _ _);have ab:(w.drew.alloc (.cells (List.replicate (n.toNat*64) (Value.int .u8 0)).toArray 82)).heap.size=w.heap.size+1:=by show(w.heap.push _).size=_;simp
  generalize w.drew.alloc (.cells (List.replicate (n.toNat*64) (Value.int .u8 0)).toArray 82)=ε at σ θ ab⊢;have af:=μ.alloc (w:=ε) (List.replicate (n.toNat*64) (Value.int .u8 0)) 82 64 n.toNat (by simp);have ρ:=η.alloc ε (.cells (List.replicate (n.toNat*64) (Value.int .u8 0)).toArray 82);exact jA _ _ _ rfl ab (θ.trans ρ) (σ.ex ρ) (af.lower (by omega))
 refine⟨two _ λδ ζ υ aP bM x σ af=>?_,two _ λδ ζ υ aP bM x σ af=>?_⟩
 ·exact fin υ υ δ ζ x (η.refl _) (σ.typed rfl).2.2 (by omega) (by omega) (by omega) σ af
 ·exact fin υ υ ζ δ x (η.refl _) (af.typed rfl).2.2 (by omega) (by omega) (by omega) af σ
theorem KC(p:γ)(n c:Nat)(xs:aY)(w:World)(π:bd w p xs)(ak:xs.length=n)(ar:n<=140737488351232)(h1:∀y∈xs,y.oneCell'=true):
  zB.C p n c w (ω λv w'=>∃b5 aW,v=.slice b5 n aW/\η w w'/\μ w' w.heap.size 5 1 b5 n aW xs):=by
 apply zB.ok;unfold zB.main;cases p with
 |none=>
  have:xs=[]:=π
  subst this
  have:n=0:=by simpa using ak.symm
  subst this
  try dsimp only[Lh,C0]
  exact ω.mk ⟨none,0,rfl,η.refl w,μ.nil _ _ _ _⟩
 |some a=>
  try dsimp only[nD,jz]
  rintro δ ε rfl rfl;have aG:=μ.alloc (w:=w) [] 5 1 0 rfl;have J:=η.alloc w (.cells #[] 5);refine mx aG (by have:=J.size;exact this) xs (bd.ex J π) (by omega) h1 rfl (by omega) (by omega) (λb5 aW w' kf hk=>?_);rw[oh]at kf⊢;rw[uJ]at kf;exact ω.mk ⟨b5,aW,rfl,J.then hk (λi⟨x,e,I⟩=>by cases e;exact JK I),kf⟩
def uk(d:du)(i:Int):Int:=if d.off then 10 else if i<0\/(d.now.length:Int)<=i then 5 else 0
theorem zn{w:World}{B pd:Nat}{d:du}{D:bl}(h:hF w B pd d D)(bH:Good d)(i:Int):CT.C (some ⟨pd,0,none⟩) i w (ω λv w'=>η w w'/\((uk d i≠0/\v=.tuple #[.slice none 0 0,.int .i64 (uk d i)])\/
  (uk d i=0/\∃p c s,d.now[i.toNat]?=some s/\v=.tuple #[.slice p 64 c,.int .i64 0]/\μ w' w.heap.size 5 1 p 64 c (np s)))):=by
 apply CT.ok;unfold CT.main;refine κ.use (X9 h) ?_;rintro _ ε ⟨rfl,rfl⟩;obtain⟨bs,bn,pl,kT,h,cn⟩:=h
 try dsimp only[bo,bL]
 unfold uk;cases F4:d.off with
 |true=>
  simp only[qg];rw[cond_pos (by decide)];exact ω.mk ⟨η.refl _,.inl ⟨by decide,rfl⟩⟩
 |false=>
  simp only[xx,so];rw[cond_neg (by decide)];simp only[dG];refine bt (λπ=>?_) (λπ=>?_)
  ·have π:=b6 π;rw[aN (.inl π)];exact ω.mk ⟨η.refl _,.inl ⟨by decide,rfl⟩⟩
  have π:=dn π;refine⟨_,_,_,h.cell.at (j:=1) rfl,bt (λjX=>?_) (λjX=>?_)⟩
  ·have jX:=b6 jX;rw[aN (.inr (by omega))];exact ω.mk ⟨η.refl _,.inl ⟨by decide,rfl⟩⟩
  have jX:=dn jX;rw[aL (by omega)];refine⟨_,_,_,h.cell.at (j:=1) rfl,aT (by omega) (aT (by omega) ?_)⟩;have bQ:i.toNat<d.now.length:=by omega
  have ab:=List.getElem?_eq_getElem bQ;have mU:=bH.now _ (hP bQ);obtain⟨a,aR,kq⟩:=(h.no.cells).row (rows:=d.now.map np) (Yk bH.now) (by decide) (i:=i.toNat) (r:=np d.now[i.toNat]) (by rw[List.getElem?_map,ab];rfl);cases aR;have hB:dL (some ((⟨bn,0,none⟩:Addr).add (i.toNat*64))) 64 0 1=some ((⟨bn,0,none⟩:Addr).add (i.toNat*64)):=by unfold dL;rw[aL (by decide),jB];exact hr some (Addr.add_zero' _)
  try dsimp only[bo]
  rw[hB];refine κ.use (KC _ 64 64 (np d.now[i.toNat]) _ kq (by rw[AL];exact mU.1) (by omega) (SB _)) ?_;rintro _ χ ⟨b5,aW,rfl,ad,bh⟩
  try dsimp only[ee]
  exact ω.mk ⟨ad,.inr ⟨rfl,b5,aW,_,ab,rfl,bh⟩⟩
structure iv where
 i:Int
 bs:aq
 p:γ
 n:Nat
 c:Nat
def iv.cells(x:iv):aY:=[.int .i64 x.i,.slice x.p x.n x.c]
structure Ix(w:World)(D:bl)(x:iv):Prop where
 cells:ou w D x.p (np x.bs)
 len:x.bs.length=x.n
 wf:∀b∈x.bs,0<=b/\b<256
theorem nP{a:Int}{p:γ}{n m:Nat}:∀y∈[Value.int .i64 a,.slice p n m],y.oneCell'=true:=by intro y ag;simp only[fB,oi,py]at ag;rcases ag with rfl|rfl<;>rfl
def dv(d:du)(i:Int)(s:aq):du:={d with now:=d.now.set i.toNat s,loose:=d.loose++[(i,s)]}
def yV:du->List (Int×aq)->du×Int
 |d,[]=>(d,0)
 |d,x::r=>if(kL d).off then(kL d,10)else yV (dv (kL d) x.1 x.2) r
def wide(x:Int×aq):Bool:=x.2.length !=64
def out(n:Nat)(x:Int×aq):Bool:=decide (x.1<0)||decide (x.1>=(n:Int))
def A4(d:du)(ws:List (Int×aq)):du×Int:=
 if d.off then(d,10)else if ws.any wide then(d,6)else if ws.any (out d.now.length)then(d,5)else yV d ws
def iv.plain(x:iv):Int×aq:=(x.i,x.bs)
theorem pU{α:Type}{l:List α}{i:Nat}(h:i<l.length):∃x,l[i]?=some x/\x∈l/\l.drop i=x::l.drop (i+1):=⟨l[i],List.getElem?_eq_getElem h,hP h,JL h⟩
theorem Ye{w:World}{p:γ}{ws:List iv}(h:bd w p (ws.map iv.cells).flatten){i:Nat}{x:iv}(I:ws[i]?=some x):∃a,p=some a/\aB w (a.add (i*2)) x.cells:=
 h.row (λr φ=>by obtain⟨q,_,rfl⟩:=gx.1 φ;rfl) (by decide) (by rw[List.getElem?_map,I];rfl)
theorem anY(x:iv)(w:World):ET.C x.i x.p x.n x.c w (ω λv w'=>v=.bool ((x.n:Int)!=64)/\η w w'):=by apply ET.ok;unfold ET.main;rintro δ ε rfl rfl;have σ:=μ.new (w:=w) x.cells 130;have θ:=η.alloc w (.cells x.cells.toArray 130);exact⟨_,_,_,σ.at (j:=1) rfl,ω.mk ⟨rfl,θ⟩⟩
theorem anZ(x:iv){w:World}{B B' pd q:Nat}{d:du}{D:bl}(h:hF w B pd d D)(aH:μ w B' 23 1 (some ⟨q,0,none⟩) 1 1 [.pointer (some ⟨pd,0,none⟩)]):EU.C x.i x.p x.n x.c q w (ω λv w'=>v=.bool (out d.now.length (x.i,x.bs))/\η w w'):=by
 apply EU.ok;unfold EU.main;rintro δ ε rfl rfl;have σ:=μ.new (w:=w) x.cells 130;have θ:=η.alloc w (.cells x.cells.toArray 130);unfold out;refine⟨_,σ.at (j:=0) rfl,bt (λπ aV=>?_) (λπ=>?_)⟩
 ·rw[π];exact ω.mk ⟨rfl,θ.trans (η.drewN _ _)⟩
 ·rw[π];obtain⟨bs,bn,pl,kT,h,cn⟩:=h.ex θ;refine⟨_,σ.at (j:=0) rfl,_,(aH.ex θ).at (j:=0) rfl,?_⟩
  try dsimp only[bo]
  simp only[dG];refine⟨_,_,_,h.cell.at (j:=1) rfl,λaV=>ω.mk ⟨by rw[Bool.false_or],θ.trans (η.drewN _ _)⟩⟩
theorem O9{α:Type}{P:α->Bool}{l:List α}{i:Nat}{x:α}(I:l[i]?=some x)(J:P x=true):l.any P=true:=Rk.2 ⟨x,fa I,J⟩
theorem any_none{α:Type}{P:α->Bool}{l:List α}(h:∀(j:Nat)x,j<l.length->l[j]?=some x->P x=false):l.any P=false:=by
 rw[JM];intro x J;obtain⟨j,ψ⟩:=List.getElem?_of_mem J
 have:=h j x (List.getElem?_eq_some_iff.1 ψ).1 ψ
 simp[this]
theorem ao0{w:World}{D:bl}{rz:γ}{n c:Nat}{ws:List iv}(ar:ws.length=n)(ak:bd w rz (ws.map iv.cells).flatten)(hw:∀x∈ws,Ix w D x)(τ:n<=1000000000000000):
  zx.C rz n c (.func (.func 104) #[] #[]) w (ω λv w'=>v=.bool ((ws.map iv.plain).any wide)/\η w w'):=by
 apply zx.ok;unfold zx.main;have main:vj.C rz n c w (ω λv w'=>∃r,v=.int .i64 r/\decide (r>=0)=(ws.map iv.plain).any wide/\η w w'):=by
  apply vj.ok;unfold vj.main;refine⟨λcy cp cG t7 t8 w'=>rz=cy/\n=cp/\c=cG/\t7=(n:Int)/\0<=t8/\t8<=(n:Int)/\η w w'/\∀(j:Nat)x,j<t8.toNat->(ws.map iv.plain)[j]?=some x->wide x=false,λcy cp cG t7 t8 w'=>((n:Int)-t8).toNat,?_,?_⟩
  ·exact⟨rfl,rfl,rfl,rfl,by omega,by omega,η.refl w,λj x ψ=>by simp at ψ⟩
  rintro _ _ _ _ t8 ε ⟨rfl,rfl,rfl,rfl,aF,h1,θ,pg⟩;unfold vj.δ;refine bt (λπ=>?_) (λπ=>?_)
  ·have π:=b6 π;obtain⟨x,J,Gh,_⟩:=pU (l:=ws) (i:=t8.toNat) (by omega);obtain⟨a,rfl,kq⟩:=Ye (ak.ex θ) J;refine aT aF (aT π ⟨x.cells.toArray,rfl,kq,?_⟩);refine κ.use (anY x ε) ?_;rintro _ υ ⟨rfl,ρ⟩
   try dsimp only[dX]
   have hp:(ws.map iv.plain)[t8.toNat]?=some x.plain:=by rw[List.getElem?_map,J];rfl
   have he:((x.n:Int)!=64)=wide x.plain:=by unfold wide iv.plain;rw[<-(hw x Gh).len];rw[Bool.eq_iff_iff];simp;omega
   rw[he];refine bt (λag=>?_) (λag=>?_)
   ·exact ω.mk ⟨t8,rfl,by rw[O9 hp ag];simpa using aF,θ.trans ρ⟩
   ·rw[bS (by omega) (by omega)];refine⟨⟨rfl,rfl,rfl,rfl,by omega,by omega,θ.trans ρ,λj y ψ uo=>?_⟩,by omega⟩;by_cases L3:j<t8.toNat
    ·exact pg j y L3 uo
    ·have:j=t8.toNat:=by omega
     subst this;rw[hp]at uo;cases uo;exact ag
  ·have π:=dn π;refine ω.mk ⟨-1,rfl,?_,θ⟩;rw[any_none λj x ψ J=>pg j x (by simp at ψ;omega) J];decide
 refine κ.use main ?_;rintro _ ε ⟨r,rfl,φ,θ⟩
 try dsimp only[bL]
 rw[φ];exact ω.mk ⟨rfl,θ⟩
theorem ao1{w:World}{B B' pd q:Nat}{d:du}{D:bl}(h:hF w B pd d D)(aH:μ w B' 23 1 (some ⟨q,0,none⟩) 1 1 [.pointer (some ⟨pd,0,none⟩)]){rz:γ}{n c:Nat}{ws:List iv}(ar:ws.length=n)(ak:bd w rz (ws.map iv.cells).flatten)(τ:n<=1000000000000000):
  zx.C rz n c (.func (.func 105) #[] #[.pointer (some ⟨q,0,none⟩)]) w (ω λv w'=>v=.bool ((ws.map iv.plain).any (out d.now.length))/\η w w'):=by
 apply zx.ok;unfold zx.main;have main:vk.C rz n c q w (ω λv w'=>∃r,v=.int .i64 r/\decide (r>=0)=(ws.map iv.plain).any (out d.now.length)/\η w w'):=by
  apply vk.ok;unfold vk.main;refine⟨λcy cp cG t1 t7 t8 w'=>rz=cy/\n=cp/\c=cG/\q=t1/\t7=(n:Int)/\0<=t8/\t8<=(n:Int)/\η w w'/\∀(j:Nat)x,j<t8.toNat->(ws.map iv.plain)[j]?=some x->out d.now.length x=false,λcy cp cG t1 t7 t8 w'=>((n:Int)-t8).toNat,?_,?_⟩
  ·exact⟨rfl,rfl,rfl,rfl,rfl,by omega,by omega,η.refl w,λj x ψ=>by simp at ψ⟩
  rintro _ _ _ _ _ t8 ε ⟨rfl,rfl,rfl,rfl,rfl,aF,h1,θ,pg⟩;unfold vk.δ;refine bt (λπ=>?_) (λπ=>?_)
  ·have π:=b6 π;obtain⟨x,J,Gh,_⟩:=pU (l:=ws) (i:=t8.toNat) (by omega);obtain⟨a,rfl,kq⟩:=Ye (ak.ex θ) J;refine aT aF (aT π ⟨x.cells.toArray,rfl,kq,?_⟩);refine κ.use (anZ x (h.ex θ) (aH.ex θ)) ?_;rintro _ υ ⟨rfl,ρ⟩
   try dsimp only[dX]
   have hp:(ws.map iv.plain)[t8.toNat]?=some x.plain:=by rw[List.getElem?_map,J];rfl
   refine bt (λag=>?_) (λag=>?_)
   ·exact ω.mk ⟨t8,rfl,by rw[O9 hp ag];simpa using aF,θ.trans ρ⟩
   ·rw[bS (by omega) (by omega)];refine⟨⟨rfl,rfl,rfl,rfl,rfl,by omega,by omega,θ.trans ρ,λj y ψ uo=>?_⟩,by omega⟩;by_cases L3:j<t8.toNat
    ·exact pg j y L3 uo
    ·have:j=t8.toNat:=by omega
     subst this;rw[hp]at uo;cases uo;exact ag
  ·have π:=dn π;refine ω.mk ⟨-1,rfl,?_,θ⟩;rw[any_none λj x ψ J=>pg j x (by simp at ψ;omega) J];decide
 refine κ.use main ?_;rintro _ ε ⟨r,rfl,φ,θ⟩
 try dsimp only[bL]
 rw[φ];exact ω.mk ⟨rfl,θ⟩
theorem XQ{d:du}(h:Good d){i:Int}{s:aq}(I:0<=i/\i<(d.now.length:Int))(ab:lx s):Good (dv d i s):=by
 refine⟨?_,?_,h.sure,?_,?_,h.after⟩
 ·simp only[dv,hQ];exact h.len
 ·simp only[dv,hQ];exact h.gC
 ·intro t aS;rcases qh aS with aS|rfl
  ·exact h.now t aS
  ·exact ab
 ·intro p hp;simp only[dv,hQ]at hp⊢;rcases iC.1 hp with hp|hp
  ·exact h.loose p hp
  ·simp only[ma]at hp;subst hp;exact⟨I.1,I.2,ab⟩
theorem ar2(l:List (Int×aq))(p:Int×aq):QL l++Ag p=QL (l++[p]):=by simp[QL]
theorem au1{l:List aq}{i:Nat}{s:aq}(h:∀s∈l,lx s)(I:i<l.length)(ab:lx s):(wc l).take (i*64)++np s++(wc l).drop (i*64+(np s).length)=wc (l.set i s):=by unfold wc;rw[ab4 _ i (np s) (Yk h) (by simpa using I) (by rw[AL];exact ab.1),rK]
theorem row_one(i:Int)(s:aq):∀y∈Ag (i,s),y.oneCell'=true:=by
 intro y ag;rcases fB.1 ag with rfl|ag
 ·rfl
 ·exact SB s y ag
theorem akT{w:World}{B pd δ:Nat}{d:du}{D:bl}(h:hF w B pd d D)(bH:Good d)(eh:B<=w.heap.size)(aH:μ w 0 23 1 (some ⟨δ,0,none⟩) 1 1 [.pointer (some ⟨pd,0,none⟩)]){rz:γ}{n c:Nat}{ws:List iv}(ar:ws.length=n)(ak:ou w D rz (ws.map iv.cells).flatten)(τ:n<=1000000000)(Vz:d.loose.length<=1000000000){t:Int}(aS:0<=t/\t<(n:Int)){x:iv}(J:ws[t.toNat]?=some x)(dJ:Ix w D x)(I:0<=x.i/\x.i<(d.now.length:Int))(hlen:x.bs.length=64)
  {S:Value->al}{a1:Nat->γ->Nat->Nat->Int->Int->al}
  (F4:∀w',(kL d).off=true->hF w' B pd (kL d) D->Kp w w' D->S (.int .i64 10) w')
  (V8:∀w' bk,(kL d).off=false->hF w' B pd (dv (kL d) x.i x.bs) bk->Kp w w' D->(∀i,bk i->D i\/w.heap.size<=i)->a1 δ rz n c (n:Int) (t+1) w'):
  sP.δ δ rz n c (n:Int) t w (ω S) a1:=by
 unfold sP.δ;obtain⟨a,rfl,kq⟩:=Ye ak.now J;refine bt (λ_=>?_) (λπ=>by have:=dn π;omega);refine aT aS.1 (aT aS.2 ⟨x.cells.toArray,rfl,kq,?_⟩);rintro aa bV rfl rfl;have e4:=μ.new (w:=w) [.int .i64 0,.slice none 0 0] 130;have cj:=η.alloc w (.cells #[.int .i64 0,.slice none 0 0] 130);generalize w.alloc (.cells #[.int .i64 0,.slice none 0 0] 130)=bV at e4 cj⊢;refine aT rfl ?_
 try dsimp only[h7]
 refine e4.put (by rfl) nP λbW iq iV=>?_;have ct:η w bW:=cj.then iq λi I=>by rw[I];exact dO _
 have hD:=h.ex ct;have iV:μ bW w.heap.size 130 2 (some ⟨w.heap.size,0,none⟩) 1 1 [.int .i64 x.i,.slice x.p x.n x.c]:=iV;refine⟨_,(aH.ex ct).at (j:=0) rfl,?_⟩;refine κ.use (agA hD bH) ?_;rintro _ c4 ⟨rfl,rj,Dx⟩
 try dsimp only[dX]
 have Eu:Kp w c4 D:=(ct.aO _).gL Dx;refine bt (λbm=>ω.mk (F4 c4 bm rj Eu)) (λbm=>?_);have Qm:=(MU hD Dx (aH.ex ct) (by decide) (by decide) (by decide)).ex (η.drew c4);have rA:=(MU hD Dx iV (by decide) (by decide) (by decide)).ex (η.drew c4);have Eu:Kp w c4.drew D:=Eu.gL ((η.drew c4).aO _);have rj:=rj.ex (η.drew c4);generalize c4.drew=c4 at Qm rA Eu rj⊢;have Wi:=R1 d;have pY:=R0 bH;generalize w6:kL d=d' at rj Wi pY bm V8;rw[<-Wi.2.1]at I;rw[<-Wi.2.2]at Vz;clear F4;obtain⟨bs,bn,pl,kT,rj,cn⟩:=rj;refine⟨_,Qm.at (j:=0) rfl,?_⟩
 try dsimp only[bo]
 simp only[dG];refine⟨_,_,_,rj.cell.at (j:=1) rfl,_,rA.at (j:=0) rfl,_,_,_,rA.at (j:=1) rfl,?_⟩;have adu:x.n=64:=by rw[<-dJ.len];exact hlen
 rw[adu];refine aT (by omega) ?_;have ac0:∀w',Kp w w' D->∃a3,x.p=some a3/\aB w' a3 (np x.bs):=λw' k=>by have π:=dJ.cells w' k;obtain⟨b,acE,_⟩:=pU (l:=x.bs) (i:=0) (by omega);obtain⟨a3,LH,_⟩:=π.one (v:=.int .u8 b) (by unfold np;rw[List.getElem?_map,acE];rfl);rw[LH]at π;exact⟨a3,LH,π⟩
 obtain⟨a3,LH,pa⟩:=ac0 _ Eu;have iB:lx x.bs:=⟨hlen,dJ.wf⟩;refine hh LH ⟨(np x.bs).toArray,by simp[AL,hlen],pa,aT I.1 (aT I.2 (aT (by simp[AL,hlen]) ?_))⟩;have apZ:x.i.toNat<d'.now.length:=by omega
 obtain⟨dK,fp,na⟩:=rj.no.writes (x.i.toNat*64) (np x.bs) (by rw[AL,hlen];omega) (SB _);refine⟨dK,λcm adS=>?_⟩;have Fu:lM c4 (some ⟨bn,0,none⟩) (x.i.toNat*64) (np x.bs)=cm:=by rw[adS,zv,KT];rfl
 rw[Fu,au1 pY.now apZ iB]at fp;rw[Fu]at na;have na:Kp c4 cm λi=>i=bn:=na.mono λi _⟨x,J,I⟩=>by cases J;exact I.symm
 clear Fu dK adS;have N8:∀i,i=bn->Typed c4 82 i:=λi I=>I▸(rj.no.typed rfl).1;have Qn:=(Qm.cV na 82 N8 (by decide)).ex (η.drew cm);have BU:=(rA.cV na 82 N8 (by decide)).ex (η.drew cm);have TQ:=(rj.cell.cV na 82 N8 (by decide)).ex (η.drew cm);have agQ:=(rj.HL.aO na λy ag hm=>by cases ag;exact rj.ne hm).ex (η.drew cm);have aeg:=(rj.fk.cV na 82 N8 (by decide)).ex (η.drew cm);have aeD:=fp.ex (η.drew cm);have KH:Kp w cm.drew D:=Eu.gL ((na.mono λi _ I=>(cn i).2 (.inr (.inr (.inl I)))).gL ((η.drew cm).aO _));clear fp na N8 Qm rA pa Eu LH;generalize cm.drew=cm at Qn BU TQ agQ aeg aeD KH⊢;refine⟨_,Qn.at (j:=0) rfl,_,Qn.at (j:=0) rfl,?_⟩
 try dsimp only[bo]
 simp only[dG];refine⟨_,_,_,TQ.at (j:=2) rfl,_,BU.at (j:=0) rfl,_,_,_,BU.at (j:=1) rfl,?_⟩;rw[adu];refine aT (by omega) ?_;obtain⟨alQ,aoU,apm⟩:=ac0 _ KH;refine hh aoU ⟨(np x.bs).toArray,by simp[AL,hlen],apm,hh (an7 64 _ (np x.bs).toArray (.int .i64 x.i) (by rfl) rfl (by simp[AL,hlen])) ?_⟩;refine hh (UO 65 _ _ (by rw[size_madeCells]) (by simp[AL,hlen])) ?_;rintro dR cE rfl rfl;have gb:=η.alloc cm (.cells (Ag (x.i,x.bs)).toArray 189);have aa4:bd (cm.alloc (.cells (Ag (x.i,x.bs)).toArray 189)) (some ⟨cm.heap.size,0,none⟩) (Ag (x.i,x.bs)):=bd.alloc _ 189;have anL:(Value.int .i64 x.i::(np x.bs).toArray.toList).toArray=(Ag (x.i,x.bs)).toArray:=rfl;rw[anL];generalize cm.alloc (.cells (Ag (x.i,x.bs)).toArray 189)=cE at gb aa4⊢;have abe:=TQ.ex gb;have Wf:=Qn.ex gb;have aeh:=aeg.ex gb;have aoC:B<=cm.heap.size:=gE eh KH.size;refine⟨abe.at (j:=2) rfl,Wf.at (j:=0) rfl,Wf.at (j:=0) rfl,?_⟩;refine CM aeh (gE aoC gb.size) (Ag (x.i,x.bs)) aa4 (by simp[Ag,AL,hlen]) (row_one _ _) (by rfl) (by omega) (by omega) (λbj bP da qa oa ph=>?_);have t68:∀i,(∃y,pl=some y/\y.block=i)->Typed cE 189 i:=λi⟨y,ag,I⟩=>I▸(aeh.typed ag).1;have abf:=abe.cV oa 189 t68 (by decide);have aqI:=Wf.cV oa 189 t68 (by decide);have avI:=(agQ.ex gb).cV oa 189 t68 (by decide);have asG:=(aeD.ex gb).cV oa 189 t68 (by decide);have aks:Kp w da D:=(KH.gL (gb.aO _)).gL (oa.mono λi _ I=>(cn i).2 (.inr (.inr (.inr I))));refine⟨aqI.at (j:=0) rfl,?_⟩;refine abf.dv (j:=2) (by show 2<1*5;omega) rfl λdp oH amq=>?_;have t62:∀i,i=pd->Typed da 78 i:=λi I=>I▸(abf.typed rfl).1;have akt:Kp w dp D:=aks.gL (oH.mono λi _ I=>(cn i).2 (.inl I));rw[bS (by omega) (by omega)];rw[ar2]at qa;have VG:(dv d' x.i x.bs).now.length=d'.now.length:=by simp[dv]
 have adm:(dv d' x.i x.bs).loose.length=d'.loose.length+1:=by simp[dv]
 refine V8 dp (KG pd bs bn bj) bm ⟨bs,bn,bj,bP,⟨?_,?_,?_,?_,rj.ne⟩,λi=>og⟩ akt λi I=>?_
 ·rw[VG,adm];exact amq
 ·rw[VG];exact avI.cV oH 78 t62 (by decide)
 ·rw[VG];exact asG.cV oH 78 t62 (by decide)
 ·rw[adm];exact qa.cV oH 78 t62 (by decide)
 ·rcases I with I|I|I|⟨y,ag,I⟩
  ·exact .inl ((cn i).2 (.inl I))
  ·exact .inl ((cn i).2 (.inr (.inl I)))
  ·exact .inl ((cn i).2 (.inr (.inr (.inl I))))
  ·rcases ph with ph|ph
   ·rw[ph]at ag;exact .inl ((cn i).2 (.inr (.inr (.inr ⟨y,ag,I⟩))))
   ·have:=ph y ag
    have:=KH.size
    have:=gb.size
    exact .inr (by omega)
theorem Ix.step{w ε:World}{D fx:bl}{x:iv}(h:Ix w D x)(k:Kp w ε D)(cn:∀i,i<w.heap.size->fx i->D i):Ix ε fx x:=⟨h.cells.step k cn,h.len,h.wf⟩
theorem any_false{α:Type}{P:α->Bool}{l:List α}(h:l.any P=false){x:α}(J:x∈l):P x=false:=by
 rw[JM]at h
 have:=h x J
 simpa using this
def Ep(w:World)(B pd:Nat)(d:du)(D:bl)(w':World):Prop:=∃bk,hF w' B pd d bk/\Good d/\Kp w w' D/\∀i,bk i->D i\/w.heap.size<=i
theorem KL{w:World}{B pd:Nat}{d:du}{D:bl}(h:hF w B pd d D)(bH:Good d)(eh:B<=w.heap.size){rz:γ}{n c:Nat}{ws:List iv}(ar:ws.length=n)(ak:ou w D rz (ws.map iv.cells).flatten)(hw:∀x∈ws,Ix w D x)(τ:n<=100000000)(Vz:d.loose.length+n<=1000000000):
  sP.C (some ⟨pd,0,none⟩) rz n c w (ω λv w'=>v=.int .i64 (A4 d (ws.map iv.plain)).2/\Ep w B pd (A4 d (ws.map iv.plain)).1 D w'):=by
 apply sP.ok;unfold sP.main;rintro δ ε rfl rfl;have σ:=(μ.new (w:=w) [.pointer (some ⟨pd,0,none⟩)] 23).lower (eR _);have θ:=η.alloc w (.cells #[.pointer (some ⟨pd,0,none⟩)] 23);generalize w.alloc (.cells #[.pointer (some ⟨pd,0,none⟩)] 23)=ε at σ θ⊢;have same:∀w',η w w'->Ep w B pd d D w':=λw' x=>⟨D,h.ex x,bH,x.aO _,λi I=>.inl I⟩;refine⟨_,σ.at (j:=0) rfl,?_⟩;refine κ.use (X9 (h.ex θ)) ?_;rintro _ υ ⟨rfl,rfl⟩
 try dsimp only[bL]
 unfold A4;cases F4:d.off with
 |true=>
  simp only[qg];rw[cond_pos (by decide)];exact ω.mk ⟨rfl,same _ θ⟩
 |false=>
  simp only[xx,so];rw[cond_neg (by decide)];refine κ.use (ao0 (D:=D) ar (ak.now.ex θ) (λx J=>(hw x J).step (θ.aO _) λi _ I=>I) (by omega)) ?_;rintro _ ao ⟨rfl,aC⟩
  try dsimp only[dX]
  refine bt (λπ=>?_) (λπ=>?_)
  ·rw[π];exact ω.mk ⟨rfl,same _ (θ.trans aC)⟩
  rw[π];simp only[xx,so];have jo:=θ.trans aC;refine κ.use (ao1 (h.ex jo) (σ.ex aC) ar (ak.now.ex jo) (by omega)) ?_;rintro _ aZ ⟨rfl,aM⟩
  try dsimp only[dX]
  refine bt (λjX=>?_) (λjX=>?_)
  ·rw[jX];exact ω.mk ⟨rfl,same _ (jo.trans aM)⟩
  rw[jX];simp only[xx,so];have jb:=jo.trans aM;refine⟨λt2 NV NU Sb t19 t20 w'=>t2=w.heap.size/\rz=NV/\n=NU/\c=Sb/\t19=(n:Int)/\0<=t20/\t20<=(n:Int)/\∃d' bk,hF w' B pd d' bk/\Good d'/\Kp w w' D/\(∀i,bk i->D i\/w.heap.size<=i)/\μ w' 0 23 1 (some ⟨w.heap.size,0,none⟩) 1 1 [.pointer (some ⟨pd,0,none⟩)]/\
   yV d' ((ws.map iv.plain).drop t20.toNat)=yV d (ws.map iv.plain)/\(d'.loose.length:Int)<=(d.loose.length:Int)+t20/\d'.now.length=d.now.length,λt2 NV NU Sb t19 t20 w'=>((n:Int)-t20).toNat,?_,?_⟩
  ·exact⟨rfl,rfl,rfl,rfl,rfl,by omega,by omega,d,D,h.ex jb,bH,jb.aO _,λi I=>.inl I,(σ.ex aC).ex aM,rfl,by omega,rfl⟩
  rintro _ _ _ _ _ t a8 ⟨rfl,rfl,rfl,rfl,rfl,aF,h1,d',bk,hq,Qc,vf,LC,eN,BF,gD,Qh⟩;by_cases pa:t<(n:Int)
  ·obtain⟨x,J,Gh,P9⟩:=pU (l:=ws) (i:=t.toNat) (by omega);have Wd:x.plain∈ws.map iv.plain:=gx.2 ⟨x,Gh,rfl⟩;have adT:x.bs.length=64:=by
    have:=any_false π Wd
    simpa[wide,iv.plain]using this
   have adD:0<=x.i/\x.i<(d'.now.length:Int):=by
    have:=any_false jX Wd
    unfold out iv.plain at this;rw[Rl,Ni,Ni]at this;obtain⟨cM,fC⟩:=this;dsimp only at cM fC;rw[Qh];omega
   have Jc:∀i,i<w.heap.size->bk i->D i:=λi I ah=>by
    rcases LC i ah with ah|ah
    ·exact ah
    ·omega
   rw[<-yX,P9,yW]at BF;have PY:B<=a8.heap.size:=gE eh vf.size;refine akT (S:=λv w'=>v=.int .i64 (yV d (ws.map iv.plain)).2/\Ep w B pd (yV d (ws.map iv.plain)).1 D w') hq Qc PY eN ar (ak.step vf Jc) (by omega) (by omega) ⟨aF,pa⟩ J ((hw x Gh).step vf Jc) adD adT (λw' bm w6 k'=>?_) (λw' gO bm w6 k' U9=>?_)
   ·rw[<-BF];unfold yV;rw[aN bm];exact⟨rfl,bk,w6,R0 Qc,Kp.trans vf k' (λ_ _ h=>h) Jc,LC⟩
   ·have ab:=R1 d';refine⟨⟨rfl,rfl,rfl,rfl,rfl,by omega,by omega,_,gO,w6,XQ (R0 Qc) (by rw[ab.2.1];exact adD) ⟨adT,(hw x Gh).wf⟩,Kp.trans vf k' (λ_ _ h=>h) Jc,λi I=>?_,MU hq k' eN (by decide) (by decide) (by decide),?_,?_,?_⟩,by((try dsimp only);omega)⟩
    ·rcases U9 i I with I|I
     ·exact LC i I
     ·exact .inr (gE vf.size I)
    ·rw[<-BF,show(t+1).toNat=t.toNat+1 by omega,<-yX]
     conv=>rhs;unfold yV
     rw[aL (by rw[bm];decide)];rfl
    ·simp only[dv,ab.2.2,fw,kU,G8];omega
    ·simp only[dv,ab.2.1,hQ];exact Qh
  ·unfold sP.δ;rw[jl pa];rw[sq (by rw[jM];omega)]at BF;rw[<-BF];exact ω.mk ⟨rfl,bk,hq,Qc,vf,LC⟩
def flush(d:du):du×Int:=if d.off then(d,10)else if(kL d).off then(kL d,10)else({kL d with sure:=d.now,loose:=[]},0)
theorem akl{w:World}{B pd:Nat}{d:du}{D:bl}(h:hF w B pd d D)(bH:Good d):ER.C (some ⟨pd,0,none⟩) w (ω λv w'=>v=.int .i64 (flush d).2/\Ep w B pd (flush d).1 D w'):=by
 apply ER.ok;unfold ER.main;refine κ.use (X9 h) ?_;rintro _ ε ⟨rfl,rfl⟩
 try dsimp only[bo,bL]
 unfold flush;cases F4:d.off with
 |true=>
  simp only[qg];rw[cond_pos (by decide)];exact ω.mk ⟨rfl,D,h,bH,Kp.refl _ _,λi I=>.inl I⟩
 |false=>
  simp only[xx,so];rw[cond_neg (by decide)];refine κ.use (agA h bH) ?_;rintro _ χ ⟨rfl,aJ,b4⟩
  try dsimp only[dX]
  have pY:=R0 bH;have ab:=R1 d;refine bt (λbm=>?_) (λbm=>?_)
  ·rw[aN bm];exact ω.mk ⟨rfl,D,aJ,pY,b4,λi I=>.inl I⟩
  rw[aL (by rw[bm];decide)];obtain⟨bs,bn,pl,kT,aJ,cn⟩:=aJ.ex (η.drew χ);have b4:=b4.gL ((η.drew χ).aO _);generalize χ.drew=χ at aJ b4⊢;simp only[dG];refine⟨_,_,_,aJ.cell.at (j:=0) rfl,_,_,_,aJ.cell.at (j:=1) rfl,?_⟩;refine amM aJ.HL aJ.no.cells (agh pY.now) (dO _) (au0 _) (λan cB dT=>?_);have hlen:(wc (kL d).sure).drop ((kL d).now.length*64)=[]:=sq (by rw[agh pY.sure,pY.len];exact dO _);rw[hlen,qi]at cB;have dT:Kp χ an λi=>i=bs:=dT.mono λi _⟨x,J,I⟩=>by cases J;exact I.symm
  have av0:∀i,i=bs->Typed χ 82 i:=λi I=>I▸(aJ.HL.typed rfl).1;have jk:=aJ.cell.cV dT 82 av0 (by decide);have ti:=aJ.no.aO dT λx J hm=>by cases J;exact aJ.ne hm.symm
  refine jk.dv (j:=2) (by show 2<1*5;omega) rfl λaZ eD sS=>?_;have t62:∀i,i=pd->Typed an 78 i:=λi I=>I▸(jk.typed rfl).1;refine ω.mk ⟨rfl,KG pd bs bn none,⟨bs,bn,none,0,⟨sS,?_,?_,μ.nil _ _ _ _,aJ.ne⟩,λi=>og⟩,?_,(b4.gL (dT.mono λi _ I=>(cn i).2 (.inr (.inl I)))).gL (eD.mono λi _ I=>(cn i).2 (.inl I)),λi I=>.inl ?_⟩
  ·have:=cB.cV eD 78 t62 (by decide)
   rw[ab.2.1]at this⊢;exact this
  ·exact ti.cV eD 78 t62 (by decide)
  ·exact⟨by rw[ab.2.1],pY.gC,by rw[<-ab.2.1];exact pY.now,pY.now,λp hp=>(by cases hp),pY.after⟩
  ·rcases I with I|I|I|⟨x,J,_⟩
   ·exact(cn i).2 (.inl I)
   ·exact(cn i).2 (.inr (.inl I))
   ·exact(cn i).2 (.inr (.inr (.inl I)))
   ·cases J
theorem at7{d:du}(h1:d.after=-1)(ι:d.off=false){i:Int}{s:aq}(I:0<=i/\i<(d.now.length:Int))(ab:s.length=64):A4 d [(i,s)]=(dv d i s,0):=by
 have k8:kL d=d:=by unfold kL;rw[aL (by omega),aL (by omega)]
 unfold A4;rw[aL (by rw[ι];decide),aL (by simp[wide,ab]),aL (by simp[out];omega)];unfold yV;rw[k8,aL (by rw[ι];decide)];rfl
theorem aoe{d:du}(h1:d.after=-1)(ι:d.off=false):flush d=({d with sure:=d.now,loose:=[]},0):=by
 have k8:kL d=d:=by unfold kL;rw[aL (by omega),aL (by omega)]
 unfold flush;rw[k8,aL (by rw[ι];decide),aL (by rw[ι];decide)]
end Go.Proofs.YtcpdfhkhaekekaaGreat.G.ba
namespace Go.Proofs.YtcpdfhkhaekekaaGreat.G.dI
open Go.bJ Go.RowKit
def cH(k:Int):Nat:=FloatKind.f64.nearest k
def rY(x:Int):Prop:=0<=x/\x<256
theorem aoc:∀k:Fin 256,eQ .geq (cH (k.val:Int)) 0=true/\eQ .lss (cH (k.val:Int)) (FloatKind.f64.nearest 24)=decide ((k.val:Int)<24)/\eQ .lss (cH (k.val:Int)) (FloatKind.f64.nearest 16)=decide ((k.val:Int)<16)/\
 (FloatKind.f64.decode (cH (k.val:Int))).toInt .zero=some (k.val:Int)/\eQ .eql (cH (k.val:Int)) (cH (k.val:Int))=true/\eQ .eql (cH (k.val:Int)) 0=decide ((k.val:Int)=0):=by decide+kernel
theorem Ln{x:Int}(h:rY x):eQ .geq (cH x) 0=true/\eQ .lss (cH x) (FloatKind.f64.nearest 24)=decide (x<24)/\eQ .lss (cH x) (FloatKind.f64.nearest 16)=decide (x<16)/\
  (FloatKind.f64.decode (cH x)).toInt .zero=some x/\eQ .eql (cH x) (cH x)=true/\eQ .eql (cH x) 0=decide (x=0):=by
 obtain⟨aF,h1⟩:=h;obtain⟨n,rfl⟩:=eF aF;exact aoc ⟨n,by omega⟩
theorem yc:cH 0=0:=by kernel_rfl
structure gd where
 k:Int
 v:Int
 o:Int
 b:Int
 x:Int
 y:Int
def gd.cells(d:gd):aY:=[.int .i64 d.k,.int .i64 d.v,.int .i64 d.o,.int .i64 d.b,.complex .f64 (cH d.x) (cH d.y)]
def gd.wf(d:gd):Prop:=rY d.x/\rY d.y
def pk(n a b:Int):Bool:=decide (a<=n)&&decide (n<b)
def whole(x y:Int):Bool:=decide (x<24)&&decide (y<16)
def jL(d:gd):Bool:=pk d.v 0 8&&(if d.k=1 then pk d.b 1 33 else if d.k=2 then true else if d.k=3 then pk d.o 0 8&&decide (d.o≠d.v)else if d.k=4 then whole d.x d.y&&pk d.b 0 32 else pk d.b 0 32)
def uw(d:gd):Int:=if d.k=3 then 0 else d.o
def uv(d:gd):Int:=if d.k=2\/d.k=3 then d.b else 0
def tf(d:gd):Int:=if d.k=4 then 0 else d.x
def tg(d:gd):Int:=if d.k=4 then 0 else d.y
def ix(d:gd):Int:=if pk d.k 1 6 then(if jL d then(if uw d=0/\uv d=0/\tf d=0/\tg d=0 then 0 else 2)else 5)else 1
theorem cells_one{a b c d:Int}{x y:Nat}:∀z∈[Value.int .i64 a,.int .i64 b,.int .i64 c,.int .i64 d,.complex .f64 x y],z.oneCell'=true:=by intro z aI;simp only[fB,oi,py]at aI;rcases aI with rfl|rfl|rfl|rfl|rfl<;>rfl
def nw:aY:=[.int .i64 0,.int .i64 0,.int .i64 0,.int .i64 0,.complex .f64 0 0]
theorem OF{x m:Int}(J:rY x)(hm:m=24\/m=16)(w:World):vl.C (cH x) m w (ω λv w'=>v=.bool (decide (x<m))/\w'=w):=by
 apply vl.ok;unfold vl.main;obtain⟨h1,ι,aJ,cK,dx,_⟩:=Ln J;rw[cond_pos h1];have ak:eQ .lss (cH x) (FloatKind.f64.nearest m)=decide (x<m):=by rcases hm with rfl|rfl<;>assumption
 rw[ak];obtain⟨r7,δ⟩:=J;refine bt (λh=>?_) (λh=>ω.mk ⟨by rw[h],rfl⟩);rw[cK]
 try dsimp only[bo]
 refine bU (bI (by show-9223372036854775808<=x;omega)) (bU (bI (by show x<=9223372036854775807;omega)) (ω.mk ⟨?_,rfl⟩));rw[h];exact hr Value.bool dx
theorem A8{x y:Int}(J:rY x)(ag:rY y)(w:World):zz.C (cH x) (cH y) w (ω λv w'=>v=.bool (whole x y)/\w'=w):=by
 apply zz.ok;unfold zz.main;refine κ.use (OF J (.inl rfl) w) ?_;rintro _ _ ⟨rfl,rfl⟩
 try dsimp only[dX]
 refine bt (λh=>?_) (λh=>ω.mk ⟨by unfold whole;rw[h];rfl,rfl⟩);refine κ.use (OF ag (.inr rfl) _) ?_;rintro _ _ ⟨rfl,rfl⟩
 try dsimp only[dX]
 exact ω.mk ⟨by unfold whole;rw[h];rfl,rfl⟩
theorem BK(n a b:Int)(w:World):zG.C n a b w (ω λv w'=>v=.bool (pk n a b)/\w'=w):=by
 apply zG.ok;unfold zG.main;refine bt (λh=>?_) (λh=>?_)
 ·have h:a<=n:=b6 h;exact ω.mk ⟨by simp[pk,h],rfl⟩
 ·have h:¬a<=n:=dn h;exact ω.mk ⟨by simp[pk,h],rfl⟩
theorem asu{w0 w:World}{o0 fs δ ζ:Nat}{cs ds:aY}{e:TypeId}(σ:μ w o0 e 5 (some ⟨δ,0,none⟩) 1 1 cs)(af:μ w fs e 5 (some ⟨ζ,0,none⟩) 1 1 ds)(h1:∀y∈cs,y.oneCell'=true)(J:η w0 w)(τ:w0.heap.size<=ζ){N:aj->al}
  (ek:∀w',η w0 w'->μ w' fs e 5 (some ⟨ζ,0,none⟩) 1 1 cs->N cs.toArray w'):
  ∃gX:aj,gX.size=5/\aB w (⟨δ,0,none⟩:Addr) gX.toList/\ν (decide (gX.size=5)) (a6 w (⟨ζ,0,none⟩:Addr) gX.toList/\∀w',w'=w.setCells (⟨ζ,0,none⟩:Addr).block (⟨ζ,0,none⟩:Addr).off gX.toList->
   ∃js:aj,js.size=5/\aB w' (⟨ζ,0,none⟩:Addr) js.toList/\N js w'):=by
 have ak:cs.length=5:=σ.1;refine⟨cs.toArray,by simpa using ak,σ.cells,bU (bI (by simpa using ak)) ?_⟩;refine af.put ak h1 λυ k o=>?_;exact⟨cs.toArray,by simpa using ak,o.cells,ek υ (J.then k λi I=>I▸τ) o⟩
theorem auG{d:gd}(ah:d.wf)(hk:pk d.k 1 6=true)(w:World):
  ue.C d.k d.v d.o d.b (cH d.x) (cH d.y) w (ω λv w'=>v=.tuple #[.agg #[.int .i64 d.k,.int .i64 d.v,.int .i64 (uw d),.int .i64 (uv d),.complex .f64 (cH (tf d)) (cH (tg d))],.bool (jL d)]/\η w w'):=by
 apply ue.ok;unfold ue.main;obtain⟨k,v,o,b,x,y⟩:=d;obtain⟨J,ag⟩:=ah;dsimp only at J ag hk⊢;rintro δ ε rfl rfl ζ υ rfl rfl;have σ:=μ.new (w:=w) [.int .i64 k,.int .i64 v,.int .i64 o,.int .i64 b,.complex .f64 (cH x) (cH y)] fS;have θ:=η.alloc w (.cells #[.int .i64 k,.int .i64 v,.int .i64 o,.int .i64 b,.complex .f64 (cH x) (cH y)] fS);generalize eL:w.heap.size=δ at σ⊢;generalize w.alloc (.cells #[.int .i64 k,.int .i64 v,.int .i64 o,.int .i64 b,.complex .f64 (cH x) (cH y)] fS)=ε at σ θ⊢;have af:=μ.new (w:=ε) nw fS;have ρ:=η.alloc ε (.cells nw.toArray fS);unfold nw at af ρ;have eG:w.heap.size<=ε.heap.size:=θ.size;have b1:δ≠ε.heap.size:=by have:=σ.ge rfl;dsimp only at this;omega
 generalize ε.heap.size=ζ at af eG b1⊢;generalize ε.alloc (.cells #[.int .i64 0,.int .i64 0,.int .i64 0,.int .i64 0,.complex .f64 0 0] fS)=υ at af ρ⊢;have df:=θ.trans ρ;have σ:=σ.ex ρ;refine⟨v,σ.at (by rfl),?_⟩;refine κ.use (BK v 0 8 υ) ?_;rintro _ _ ⟨rfl,rfl⟩
 try dsimp only[dX]
 refine⟨k,σ.at (by rfl),?_⟩;have hk:k=1\/k=2\/k=3\/k=4\/k=5:=by simp only[pk,lf,qI]at hk;omega
 have set:∀{w':World}{cs ds:aY}{j:Nat}{u:Value}{N:al},μ w' δ fS 5 (some ⟨δ,0,none⟩) 1 1 cs->μ w' ζ fS 5 (some ⟨ζ,0,none⟩) 1 1 ds->η w w'->j<5->u.oneCell'=true->
   (∀χ,μ χ δ fS 5 (some ⟨δ,0,none⟩) 1 1 (cs.set j u)->μ χ ζ fS 5 (some ⟨ζ,0,none⟩) 1 1 ds->η w χ->N χ)->
   (w'.cell? (⟨δ,j,none⟩:Addr)).isSome=true/\w'.frozen? (⟨δ,j,none⟩:Addr)=false/\∀χ,χ=w'.setCell (⟨δ,j,none⟩:Addr) u->N χ:=by
  intro w' cs ds j u N ae aX JI ψ hu K;refine ae.dv (by omega) hu λχ k p=>K χ p (aX.aO k λx J e=>?_) (JI.then k λi I=>by omega);cases J;dsimp only at e;omega
 have fin:∀{w':World}{k' qv ib gg:Int}{tK xP:Nat}{g:Bool},μ w' δ fS 5 (some ⟨δ,0,none⟩) 1 1 [.int .i64 k',.int .i64 qv,.int .i64 ib,.int .i64 gg,.complex .f64 tK xP]->μ w' ζ fS 5 (some ⟨ζ,0,none⟩) 1 1 [.int .i64 0,.int .i64 0,.int .i64 0,.int .i64 0,.complex .f64 0 0]->η w w'->
   k'=k->qv=v->ib=uw ⟨k,v,o,b,x,y⟩->gg=uv ⟨k,v,o,b,x,y⟩->tK=cH (tf ⟨k,v,o,b,x,y⟩)->xP=cH (tg ⟨k,v,o,b,x,y⟩)->g=jL ⟨k,v,o,b,x,y⟩->
   ∃gX:aj,gX.size=5/\aB w' (⟨δ,0,none⟩:Addr) gX.toList/\ν (decide (gX.size=5)) (a6 w' (⟨ζ,0,none⟩:Addr) gX.toList/\∀χ,χ=w'.setCells (⟨ζ,0,none⟩:Addr).block (⟨ζ,0,none⟩:Addr).off gX.toList->
    ∃js:aj,js.size=5/\aB χ (⟨ζ,0,none⟩:Addr) js.toList/\ω (λYS w'=>YS=.tuple #[.agg #[.int .i64 k,.int .i64 v,.int .i64 (uw ⟨k,v,o,b,x,y⟩),.int .i64 (uv ⟨k,v,o,b,x,y⟩),.complex .f64 (cH (tf ⟨k,v,o,b,x,y⟩)) (cH (tg ⟨k,v,o,b,x,y⟩))],.bool (jL ⟨k,v,o,b,x,y⟩)]/\η w w') (.returned (.tuple #[.agg js,.bool g])) χ):=by
  intro w' k' qv ib gg tK xP g ae aX JI aP bM gA jE iJ rh sa;refine asu ae aX cells_one JI eG λχ oG _=>ω.mk ⟨?_,oG⟩;subst aP bM gA jE iJ rh sa;rfl
 have tail:∀{w':World}{tK xP:Nat}{g:Bool},μ w' δ fS 5 (some ⟨δ,0,none⟩) 1 1 [.int .i64 k,.int .i64 v,.int .i64 o,.int .i64 b,.complex .f64 tK xP]->μ w' ζ fS 5 (some ⟨ζ,0,none⟩) 1 1 [.int .i64 0,.int .i64 0,.int .i64 0,.int .i64 0,.complex .f64 0 0]->η w w'->k=4\/k=5->
   tK=cH (tf ⟨k,v,o,b,x,y⟩)->xP=cH (tg ⟨k,v,o,b,x,y⟩)->(g&&pk b 0 32)=jL ⟨k,v,o,b,x,y⟩->
   ue.aV δ ζ g w' (ω λYS w'=>YS=.tuple #[.agg #[.int .i64 k,.int .i64 v,.int .i64 (uw ⟨k,v,o,b,x,y⟩),.int .i64 (uv ⟨k,v,o,b,x,y⟩),.complex .f64 (cH (tf ⟨k,v,o,b,x,y⟩)) (cH (tg ⟨k,v,o,b,x,y⟩))],.bool (jL ⟨k,v,o,b,x,y⟩)]/\η w w'):=by
  intro w' tK xP g ae aX JI hk iJ rh sa;unfold ue.aV;have gA:o=uw ⟨k,v,o,b,x,y⟩:=by rcases hk with rfl|rfl<;>rfl
  have jE:(0:Int)=uv ⟨k,v,o,b,x,y⟩:=by rcases hk with rfl|rfl<;>rfl
  refine bt (λh=>?_) (λh=>?_)
  ·subst h;refine⟨b,ae.at (by rfl),?_⟩;refine κ.use (BK b 0 32 w') ?_;rintro _ _ ⟨rfl,rfl⟩
   try dsimp only[dX]
   exact set ae aX JI (by omega) rfl λχ dK fp rJ=>fin dK fp rJ rfl rfl gA jE iJ rh sa
  ·subst h;exact set ae aX JI (by omega) rfl λχ dK fp rJ=>fin dK fp rJ rfl rfl gA jE iJ rh sa
 rcases hk with rfl|rfl|rfl|rfl|rfl
 ·rw[cond_pos (by rfl)];refine bt (λh=>?_) (λh=>?_)
  ·refine⟨b,σ.at (by rfl),?_⟩;refine κ.use (BK b 1 33 _) ?_;rintro _ _ ⟨rfl,rfl⟩
   try dsimp only[dX]
   exact set σ af df (by omega) rfl λχ dK fp rJ=>fin dK fp rJ rfl rfl rfl rfl rfl rfl (by simp[jL,h])
  ·exact set σ af df (by omega) rfl λχ dK fp rJ=>fin dK fp rJ rfl rfl rfl rfl rfl rfl (by simp[jL,h])
 ·rw[cond_neg (by rfl),cond_pos (by rfl)];exact fin σ af df rfl rfl rfl rfl rfl rfl (by simp[jL])
 ·rw[cond_neg (by rfl),cond_neg (by rfl),cond_pos (by rfl)];refine bt (λh=>?_) (λh=>?_)
  ·refine⟨o,σ.at (by rfl),?_⟩;refine κ.use (BK o 0 8 _) ?_;rintro _ _ ⟨rfl,rfl⟩
   try dsimp only[dX]
   refine bt (λe2=>?_) (λe2=>?_)
   ·refine⟨o,σ.at (by rfl),v,σ.at (by rfl),?_⟩;exact set σ af df (by omega) rfl λχ dK fp rJ=>fin dK fp rJ rfl rfl rfl rfl rfl rfl (by simp[jL,h,e2,bne];rfl)
   ·exact set σ af df (by omega) rfl λχ dK fp rJ=>fin dK fp rJ rfl rfl rfl rfl rfl rfl (by simp[jL,h,e2])
  ·exact set σ af df (by omega) rfl λχ dK fp rJ=>fin dK fp rJ rfl rfl rfl rfl rfl rfl (by simp[jL,h])
 ·rw[cond_neg (by rfl),cond_neg (by rfl),cond_neg (by rfl),cond_pos (by rfl)];refine bt (λh=>?_) (λh=>?_)
  ·refine⟨cH x,cH y,σ.at (by rfl),?_⟩;refine κ.use (A8 J ag _) ?_;rintro _ _ ⟨rfl,rfl⟩
   try dsimp only[dX]
   exact set σ af df (by omega) rfl λχ dK fp rJ=>tail dK fp rJ (.inl rfl) yc.symm yc.symm (by simp[jL,h])
  ·exact set σ af df (by omega) rfl λχ dK fp rJ=>tail dK fp rJ (.inl rfl) yc.symm yc.symm (by simp[jL,h])
 ·rw[cond_neg (by rfl),cond_neg (by rfl),cond_neg (by rfl),cond_neg (by rfl),cond_pos (by rfl)];exact tail σ af df (.inr rfl) rfl rfl (by simp[jL])
theorem CB{d:gd}(ah:d.wf)(w:World):Fo.C d.k d.v d.o d.b (cH d.x) (cH d.y) w (ω λv w'=>v=.int .i64 (ix d)/\η w w'):=by
 apply Fo.ok;unfold Fo.main;rintro δ ε rfl rfl;have σ:=μ.new (w:=w) d.cells fS;have θ:=η.alloc w (.cells d.cells.toArray fS);unfold gd.cells at σ θ;generalize w.alloc (.cells #[.int .i64 d.k,.int .i64 d.v,.int .i64 d.o,.int .i64 d.b,.complex .f64 (cH d.x) (cH d.y)] fS)=ε at σ θ⊢;refine⟨d.k,σ.at (by rfl),?_⟩;refine κ.use (BK d.k 1 6 ε) ?_;rintro _ _ ⟨rfl,rfl⟩
 try dsimp only[dX]
 refine bt (λh=>?_) (λh=>?_)
 ·exact ω.mk ⟨by unfold ix;rw[aL (by simpa using h)],θ⟩
 ·have hk:pk d.k 1 6=true:=by simpa using h
  refine⟨d.cells.toArray,rfl,σ.cells,?_⟩;refine κ.use (auG ah hk _) ?_;rintro _ ao ⟨rfl,aC⟩
  try dsimp only[ca,cT,cU,bo,dX,hA,h7]
  rintro aa aZ rfl rfl;have bY:=μ.new (w:=ao) nw fS;have aM:=η.alloc ao (.cells nw.toArray fS);unfold nw at bY aM;have τ:w.heap.size<=ao.heap.size:=(θ.trans aC).size;generalize ao.heap.size=aa at bY τ⊢;generalize ao.alloc (.cells #[.int .i64 0,.int .i64 0,.int .i64 0,.int .i64 0,.complex .f64 0 0] fS)=aZ at bY aM⊢;refine bU (by rfl) ?_;refine bY.put (by rfl) cells_one λa8 hW eN=>?_;have aU:η w a8:=(θ.trans (aC.trans aM)).then hW λi I=>I▸τ;have fF:rY (tf d):=by unfold tf;split;exact⟨by omega,by omega⟩;exact ah.1
  have Vi:rY (tg d):=by unfold tg;split;exact⟨by omega,by omega⟩;exact ah.2
  unfold ix;rw[aN hk];cases aG:jL d with
  |false=>
   rw[aL (by simp)];simp only[v7,Ar,ts,xz];exact ω.mk ⟨rfl,aU⟩
  |true=>
   rw[aN rfl];simp only[v7,Ar,ts,xz];refine⟨uw d,eN.at (by rfl),?_⟩;refine bt (λh=>?_) (λh=>?_)
   ·rw[aL (λc=>by simp[c.1]at h)];exact ω.mk ⟨rfl,aU⟩
   have ι:uw d=0:=by simpa using h
   refine⟨uv d,eN.at (by rfl),?_⟩;refine bt (λh=>?_) (λh=>?_)
   ·rw[aL (λc=>by simp[c.2.1]at h)];exact ω.mk ⟨rfl,aU⟩
   have aJ:uv d=0:=by simpa using h
   refine⟨cH (tf d),cH (tg d),eN.at (by rfl),?_⟩;obtain⟨_,_,_,_,_,anA⟩:=Ln fF;obtain⟨_,_,_,_,_,anB⟩:=Ln Vi;rw[anA,anB];refine bt (λh=>?_) (λh=>?_)
   ·rw[aL (λc=>by simp[c.2.2.1,c.2.2.2]at h)];exact ω.mk ⟨rfl,aU⟩
   ·rw[aN (by simp at h;exact⟨ι,aJ,h.1,h.2⟩)];exact ω.mk ⟨rfl,aU⟩
end Go.Proofs.YtcpdfhkhaekekaaGreat.G.dI

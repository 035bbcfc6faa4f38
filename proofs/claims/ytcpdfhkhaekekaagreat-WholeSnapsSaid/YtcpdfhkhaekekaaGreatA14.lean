/- The walk of the functions, and the plain laws of the model: part of the proof. Conditions: none. -/
import Derived.Tactics
import Derived.Tactics2
import Derived.Defers
import Derived.Recover
import Derived.Orders
import Derived.Laws.Pointers
import Derived.Test.YtcpdfhkhaekekaaGreatA13
set_option linter.unusedVariables false
set_option linter.unusedSimpArgs false
namespace Go.Proofs.YtcpdfhkhaekekaaGreat.G.eb
open Go.bO Go.RowKit cL eh eW c5 aR
theorem YY(x:dh):∀(l:List dh)(m:aR),hK m (l++[x])=((fP (hK m l).1 (hf (hK m l).1.k (hK m l).1.d x) 0).1,(hK m l).2++[(fP (hK m l).1 (hf (hK m l).1.k (hK m l).1.d x) 0).2])
 |[],m=>rfl
 |y::l,m=>by show((hK (fP m (hf m.k m.d y) 0).1 (l++[x])).1,(fP m (hf m.k m.d y) 0).2::(hK (fP m (hf m.k m.d y) 0).1 (l++[x])).2)=_;rw[YY x l];rfl
structure QA(m:aR)(g:Nat):Prop where
 apW:IZ m.R (e3 m g) (hK m (e3 m g)).2
 vK:wy {(hK m (e3 m g)).1 with R:=k3 m.R (e3 m g) (hK m (e3 m g)).2}
 len:(e3 m g).length<16
 sub:∀x∈e3 m g,x∈used m.R
 dj:∀j,QB m (hK m ((e3 m g).take j)).1 ((e3 m g).take j) (hK m ((e3 m g).take j)).2 (used m.R)
theorem aj3{m:aR}(h:Inv m)(aD:0<=m.clock){g:Nat}(hp:r6 m.k (hU m.s.toNat (lays (used m.R))) (om m) m.st.head=some g):QA m g:=by
 have ω:=Lp h.base;have bJ:=h.gx;obtain⟨f1,f2,f3⟩:=(lu bJ).1 h.fit;obtain⟨g1,g2,g3,g4⟩:=Vj hp;have Tx:∀x,x∈lays (used m.R)↔x∈used m.R:=λx=>HC h.ok;have hV:∀x,x∈e3 m g↔x∈used m.R/\x.1=g:=λx=>by unfold e3;rw[mv,Tx,po];exact⟨λ⟨a,b⟩=>⟨a,by omega⟩,λ⟨a,b⟩=>⟨a,by omega⟩⟩
 have Kl:(e3 m g).Nodup:=(Kw _).filter _;have oD:(e3 m g).length=pO (lays (used m.R)) g:=by
  unfold e3 pO;congr 1;apply List.filter_congr;intro x _;by_cases e:x.1=g
  ·rw[bB (by omega)];symm;simpa using e
  ·rw[iy (by omega)];symm;simpa using e
 have YZ:∀j,QB m (hK m ((e3 m g).take j)).1 ((e3 m g).take j) (hK m ((e3 m g).take j)).2 (used m.R):=λj=>
  Rx _ m (used m.R) h.base h.wK h.Ir (λx I=>((hV x).1 (vW I)).1) f2 (.inl ⟨h.two,by rw[gQ];omega⟩)
 have dj:=YZ (e3 m g).length;rw[AB]at dj;have vF:∀y∈(hK m (e3 m g)).2,y∉used m.R/\gF y:=λy ah=>⟨dj.new y ah,by have:=dj.lt y ah;unfold gF;omega⟩;obtain⟨aa3,f,aO,bE,gw,iZ⟩:=UE _ _ m.R Kl dj.k4 dj.len (λx I=>((hV x).1 I).1) vF;have NK:∀x∈e3 m g,f x∈(hK m (e3 m g)).2:=λx I=>by rw[gw];exact gO.2 ⟨x,I,rfl⟩
 have TU:∀z,z∈used (k3 m.R (e3 m g) (hK m (e3 m g)).2)↔∃w∈used m.R,f w=z:=λz=>by rw[aO,P8,gO]
 have mN:∀z∈used (k3 m.R (e3 m g) (hK m (e3 m g)).2),z∈(hK m (e3 m g)).2\/(z∈used m.R/\z∉e3 m g):=λz aL=>by
  obtain⟨w,hw,rfl⟩:=(TU z).1 aL;by_cases I:w∈e3 m g
  ·exact .inl (NK w I)
  ·rw[bE w hw I];exact .inr ⟨hw,I⟩
 refine⟨aa3,?_,by omega,λx I=>((hV x).1 I).1,YZ⟩;refine⟨⟨dj.base.gx,dj.base.fa,dj.base.gH,dj.base.blocks⟩,⟨dj.dev.dev,dj.dev.off,dj.dev.after,dj.dev.me⟩,?_,?_,?_,?_,?_,?_,?_,?_,?_⟩
 ·dsimp only;rw[aO];unfold kb;rw[jV];exact h.len
 ·dsimp only;intro e he;refine OE (λq aC=>?_) (FF f1 e he);cases q with
  |none=>trivial
  |some z=>
   rcases mN z (vJ.2 ⟨e,he,aC⟩)with aL|aL
   ·exact(vF z aL).2
   ·exact q8 h.ok z aL.1
 ·dsimp only;rw[dj.s,dj.k];refine(lu bJ).2 ⟨FF f1,λz aL=>?_,by rw[aO,abU iZ];exact f3⟩;rcases mN z aL with aL|aL
  ·exact dj.lt z aL
  ·exact f2 z aL.1
 ·dsimp only;refine⟨λz aL=>dj.ok.free z ?_,λz aL=>dj.ok.head z ?_⟩
  ·rcases mN z aL with aL|aL
   ·exact iG.2 (.inl aL)
   ·exact iG.2 (.inr aL.1)
  ·rcases mN z aL with aL|aL
   ·exact iG.2 (.inl aL)
   ·exact iG.2 (.inr aL.1)
 ·dsimp only;rw[dj.n5,dj.s];exact h.n5
 ·dsimp only;rw[dj.clock];exact dj.qi h.qi aD
 ·dsimp only;rw[dj.dl];exact h.dl
 ·dsimp only;rw[dj.mX];exact h.mX
 ·dsimp only;rw[dj.seq];exact h.seq
theorem apg{w γ τ:World}{T:List Nat}{S:bf}(h:Kp w γ (hv w T))(k:Kp γ τ S)(ep:∀i,S i->hv γ T i\/w.heap.size<=i):Kp w τ (hv w T):=by
 refine Kp.trans h k (λ_ _ h=>h) λi o ω=>?_;rcases ep i ω with⟨e,he,c,fr,aP⟩|h1
 ·by_cases e2:hv w T i
  ·exact e2
  ·exact⟨e,he,c,fr,by rw[<-h.block i o e2];exact aP⟩
 ·omega
section
variable{w:World}{pp pd:Nat}{m:aR}{xs:List (b9.cP×Int)}{al:Int}{D:bf}
def x2(m:aR)(n j:Nat):an:=(om m).take j++List.replicate (n-j) 0
theorem ajl{m:aR}{n j:Nat}(ax:m.stamps.length=n)(φ:j<n):(x2 m n j).set j (min2 (m.clock-m.stamps[j]'(by omega)) 65535)=x2 m n (j+1):=by
 have aj:(om m).length=n:=by simp[om,ax]
 have bJ:(om m)[j]'(by omega)=min2 (m.clock-m.stamps[j]'(by omega)) 65535:=by simp[om]
 unfold x2;rw[Ce _ _ (by rw[gQ];omega),gQ,qZ (by omega),v7,show n-j=(n-(j+1))+1 by omega,E9,H7,k6 (by omega),bJ,lT];rfl
theorem dL.loc{w0 w':World}{dV:bf}(h:dL w0 dV w pp pd m xs al D){b:Nat}(k:Kp w w' λi=>i=b)(ψ:¬D b)(aD:w0.heap.size<=b){e:TypeId}(aP:Typed w e b)(e2:e∉Gx)(dr:e≠dk):dL w0 dV w' pp pd m xs al D:=
 ⟨h.is.aH k (λi af e=>ψ (e▸af)) (λi o Bx=>(F7.1 Bx).off (o▸aP) e2) λi o ku=>(o▸aP:Typed w e i).ne ku dr rfl,Kp.trans h.aH k (λ_ _ h=>h) (λi o ω=>by omega),h.sub⟩
theorem aj1{w0:World}{dV:bf}{g:Nat}(o:Inv m)(vp:QA m g)(aC:m.seq+1<=1073741824)(aj:m.d.loose.length<=900000){W:World}{eU:bf}(h:dL w0 dV W pp pd (hK m (e3 m g)).1 xs al eU){δ nG gD CA:Nat}{ps:aU}(Bw:w0.heap.size<=nG)(ha:μ W nG bU 24 (some ⟨δ,0,none⟩) 1 1 (bK m.R ps))(bV:fp W m.R ps)
  {p oQ:J}{n c d:Nat}(of:μ W gD eo 1 p n c (dx (e3 m g)))(uJ:μ W CA eo 1 oQ n d (dx (hK m (e3 m g)).2)){Z:Value->ao}
  (dF:∀w' bb,dL w0 dV w' pp pd (qI {(hK m (e3 m g)).1 with R:=k3 m.R (e3 m g) (hK m (e3 m g)).2}) xs al bb->Z (.tuple #[]) w'):
  iN.cd (some ⟨pp,0,none⟩) δ p n c oQ n d W (χ Z):=by
 have dj:=vp.dj (e3 m g).length;rw[AB]at dj;obtain⟨f1,f2,f3⟩:=(lu o.gx).1 o.fit;have ax:n<=1000:=by have h1:=of.1;rw[yP]at h1;have:=vp.len;omega
 unfold iN.cd;refine⟨(bK m.R ps).toArray,by rw[fh];exact bV.at.dU,ha.cells,?_⟩;refine κ.use (ahw bV f1 vp.apW of uJ (by omega)) ?_;rintro _ j6 ⟨ta,rfl,nS,xT⟩
 try dsimp only[bk,bX,cC,cD,bH,hx,ie]
 have ha:=ha.ex xT;refine aW (by rw[fh];exact nS.at.dU) (ha.put (cs:=bK _ ta) nS.at.dU nS.at.one λiz Ae r3=>?_);have nS:=nS.cB Ae bU (λi o=>o▸(ha.typed rfl).1) (by decide);have Nu:=h.ex xT;have anU:¬hv j6 o5 δ:=λaP=>aP.off (ha.typed rfl).1 (by decide);have KW:=Nu.loc Ae (λaf=>anU (Nu.is.hL af).1) (fY Bw (ha.ge rfl).1) (ha.typed rfl).1 (by decide) (by decide);refine jt (λ_=>?_) λh=>absurd rfl h
 try dsimp only[bX]
 refine⟨(bK _ ta).toArray,by rw[fh];exact nS.at.dU,r3.cells,?_⟩;refine κ.use (Xj nS.at (FF f1)) ?_;rintro _ ra ⟨adq,rfl,IM,υ⟩
 try dsimp only[bX,cC,cD,bk,bH,nc]
 have arF:=KW.ex IM;obtain⟨q,cZ,dp,c0,Z9,b4⟩:=arF.at_;simp only[dv];refine Z9.put 4 (by omega) rfl λmA ao6 EF=>?_;rw[ard]at EF;obtain⟨fI,υ⟩:=υ;have BJ:ki ra 0 adq (k3 m.R (e3 m g) (hK m (e3 m g)).2):=⟨fI,⟨υ.ε.lower (en _),υ.len,υ.jW,υ.tb⟩⟩;have nj:iz.heap.size<=adq:=(υ.ε.ge rfl).1;obtain⟨al1,yI⟩:=Z9.as6 BJ ao6 EF;have arG:dL iz eU mA pp pd _ xs al _:=⟨⟨_,_,_,_,al1,λi=>mR⟩,(IM.aH eU).fZ (yI.mono λi _ o=>(b4 i).2 o),λi o=>by
  rcases o with o|o|o|o|o
  ·exact .inl ((b4 i).2 (.inl o))
  ·exact .inl ((b4 i).2 (.inr (.inl o)))
  ·exact .inl ((b4 i).2 (.inr (.inr (.inl o))))
  ·exact .inr (o▸nj)
  ·exact .inl ((b4 i).2 (.inr (.inr (.inr (.inr o)))))⟩
 have adC:=KW.trans arG;refine κ.use (MM adC.is vp.vK (by dsimp only;rw[dj.seq];exact aC) (by dsimp only;rw[dj.loose];have:=vp.len;omega)) ?_;rintro _ qp ⟨rfl,bb,hp⟩
 try dsimp only[bX]
 exact χ.mk (dF _ bb (adC.trans hp))
theorem aj2{w0:World}{dV:bf}{g:Nat}(o:Inv m)(vp:QA m g)(aC:m.seq+1<=1073741824)(aj:m.d.loose.length<=900000){na:World}{eU:bf}(h:dL w0 dV na pp pd m xs al eU){δ nG gD:Nat}{ps:aU}(Bw:w0.heap.size<=nG)(ha:μ na nG bU 24 (some ⟨δ,0,none⟩) 1 1 (bK m.R ps))(bV:fp na m.R ps)
  {p:J}{n c:Nat}(of:μ na gD eo 1 p n c (dx (e3 m g))){Z:Value->ao}
  (dF:∀w' bb,dL w0 dV w' pp pd (qI {(hK m (e3 m g)).1 with R:=k3 m.R (e3 m g) (hK m (e3 m g)).2}) xs al bb->Z (.tuple #[]) w'):
  iN.fG (some ⟨pp,0,none⟩) δ p n c none 0 0 p n c (n:Int) 0 na (χ Z):=by
 have nM:(e3 m g).length=n:=by have:=of.1;rw[yP,ey]at this;exact this
 have axj:=vp.len;obtain⟨f1,f2,f3⟩:=(lu o.gx).1 o.fit;unfold iN.fG;refine⟨λt0 t2 hM fu h8 Cm y1 F0 PV PU Wi t97 t98 W=>some ⟨pp,0,none⟩=t0/\δ=t2/\p=hM/\n=fu/\c=h8/\p=PV/\n=PU/\(n:Int)=t97/\0<=t98/\t98<=n/\t98=y1/\Kp na W (hv na o5)/\μ W na.heap.size eo 1 Cm y1 F0 (dx (hK m ((e3 m g).take t98.toNat)).2)/\∃bb,dL w0 dV W pp pd (hK m ((e3 m g).take t98.toNat)).1 xs al bb,
  λ_ _ _ _ _ _ _ _ _ _ _ _ t98 _=>(n-t98).toNat,⟨rfl,rfl,rfl,rfl,rfl,rfl,rfl,rfl,by omega,by omega,rfl,Kp.refl _ _,μ.nil _ _ _ _,eU,h⟩,?_⟩
 rintro _ _ _ _ _ Cm y1 F0 _ _ Wi _ t98 W ⟨rfl,rfl,rfl,rfl,rfl,rfl,rfl,rfl,aD,h1,Nr,K,uJ,bb,uz⟩;unfold iN.θ;obtain⟨j,rfl⟩:=eH aD;rw[cy]at uJ uz;obtain rfl:j=y1:=by omega
 have To:∀i,hv na o5 i->hv na o5 i:=λ_ h=>h;have acO:=gU K To of (by decide);have aqs:=gU K To ha (by decide);have wa:=V6 K To bV (by decide);refine bz (λφ=>?_) λφ=>?_
 ·have φ:=b7 φ;have eP:j<(e3 m g).length:=by omega
  have dj:=vp.dj j;have p0:=YY (e3 m g)[j] ((e3 m g).take j) m;have qK:(e3 m g).take (j+1)=(e3 m g).take j++[(e3 m g)[j]]:=k6 eP;rw[<-qK]at p0;have BN:=vp.sub _ (hF eP);have oD:=f2 _ BN;have qM:(dx (e3 m g))[j]?=some (dO (some (e3 m g)[j])):=by unfold dx;rw[List.getElem?_map,List.getElem?_eq_getElem eP];rfl
  generalize(e3 m g)[j]=x at p0 BN oD qM;generalize BE:(hK m ((e3 m g).take j)).1=m1 at dj uz p0;generalize El:(hK m ((e3 m g).take j)).2=ys at dj uJ p0;obtain⟨a,rfl,j3⟩:=acO.cells.many qM;refine aW (by omega) (aW (by omega) ?_)
  try dsimp only[bk]
  rw[cy,ey];refine⟨_,_,j3,?_⟩;obtain⟨q,cZ,dp,c0,cV,b4⟩:=uz.at_
  try simp only[dv]
  have JW:=dj.base.gx;have T2:(x.1:Int)<m1.s/\(x.2:Int)<m1.k:=by rw[dj.s,dj.k];exact oD
  refine⟨(two m1.s m1.k).toArray,rfl,cV.vT,?_⟩;refine κ.use (Qv JW T2 W) ?_;rintro _ eD ⟨rfl,od⟩
  try dsimp only[bX,cC,cD,bk,bH]
  have GY:=cV.ex od;refine⟨_,GY.at (j:=1) rfl,?_⟩;obtain⟨Th,aaJ⟩:=VU dj.base dj.dev T2;have axz:=Fw JW T2;have wX:=dj.dev.me;refine κ.use (a6.xW GY.dev dj.dev.dev (mT m1.k x)) ?_;rintro _ eJ ⟨nA,υ⟩;have pY:a6.sT m1.d (mT m1.k x)=0:=by unfold a6.sT;rw[aM (by rw[dj.dev.off];simp),aM (by omega)]
  obtain⟨_,bh,bI,lU,BK,rfl,bo⟩:=υ.resolve_left λh=>h.1 pY
  try dsimp only[bX,cC,cD,bk,bH,dY]
  refine jt (λ_=>?_) λh=>absurd rfl h
  try dsimp only[bX]
  rw[Th]at BK;cases BK;have CK:=od.trans nA;have HQ:=uz.ex CK;have amj:A7 m1.st (ys++used m.R):=dj.ok;have pb:m1.d.loose.length<=1000000:=by rw[dj.loose,gQ];omega
  have aov:m1.stamps.length=m1.s.toNat:=by rw[dj.n5,dj.s];exact o.n5
  refine κ.use (B6 HQ.is dj.base dj.dev amj (Int.le_refl 0) (adT (.inl dj.fT)) aov pb bo aaJ) ?_;rintro _ gi ⟨rfl,gj,oB⟩;unfold dO
  try dsimp only[rE]
  have arD:=HQ.trans oB;have aid:Kp na eJ (hv na o5):=K.fZ (CK.aH _);have aie:Kp na gi (hv na o5):=apg aid oB.aH λi af=>.inl (HQ.is.hL af).1;have acZ:=oB.dA HQ.is (uJ.ex CK) (by decide);rintro ae hP mg rfl;have rh:=η.alloc gi (.cells #[dO (some (fP m1 (hf m1.k m1.d x) 0).2)] eo);have GD:a7 (gi.alloc (.cells #[dO (some (fP m1 (hf m1.k m1.d x) 0).2)] eo)) (some ⟨gi.heap.size,0,none⟩) [dO (some (fP m1 (hf m1.k m1.d x) 0).2)]:=a7.alloc _ eo;rw[<-mg]at GD;have akY:gi.alloc (.cells #[.complex .f64 (ev (some (fP m1 (hf m1.k m1.d x) 0).2)) (eE (some (fP m1 (hf m1.k m1.d x) 0).2))] eo)=gi.alloc (.cells #[dO (some (fP m1 (hf m1.k m1.d x) 0).2)] eo):=rfl;rw[akY];generalize gi.alloc (.cells #[dO (some (fP m1 (hf m1.k m1.d x) 0).2)] eo)=hP at rh GD⊢;have Xn:Kp na hP (hv na o5):=aie.fZ (rh.aH _);refine lp (acZ.ex rh) Xn.size [dO (some (fP m1 (hf m1.k m1.d x) 0).2)] GD rfl (λy ah=>by simp only[lB]at ah;subst ah;rfl) rfl (by omega) (by omega) λiM l9 kR e6 fL=>?_;have OR:=arD.ex rh;have low:∀i,(∃y,Cm=some y/\y.block=i)->na.heap.size<=i/\Typed hP eo i:=λi⟨y,ah,ψ⟩=>⟨ψ▸(uJ.ge ah).1,ψ▸((acZ.ex rh).typed ah).1⟩;have axB:=h.aH.size;have arE:dL w0 dV kR pp pd (fP m1 (hf m1.k m1.d x) 0).1 xs al gj:=⟨OR.is.aH fL (λi af ω=>(OR.is.hL af).1.off (low i ω).2 (by decide)) (λi ω e2=>(F7.1 e2).off (low i ω).2 (by decide)) λi ω aP=>(low i ω).2.ne aP (by decide) rfl,Kp.trans OR.aH fL (λ_ _ h=>h) (λi o ω=>by have:=(low i ω).1;omega),OR.sub⟩;rw[bY (x:=(j:Int)+1) (by omega) (by omega)];have aO:((j:Int)+1).toNat=j+1:=by omega
  refine⟨⟨by trivial,by trivial,by trivial,by trivial,by trivial,by trivial,by trivial,by trivial,by omega,by omega,by omega,?_,?_,gj,?_⟩,by((try dsimp only);omega)⟩
  ·exact Kp.trans Xn fL (λ_ _ h=>h) λi o ω=>by have:=(low i ω).1;omega
  ·rw[aO,p0]
   have:dx (ys++[(fP m1 (hf m1.k m1.d x) 0).2])=dx ys++[dO (some (fP m1 (hf m1.k m1.d x) 0).2)]:=by simp[dx]
   dsimp only;rw[this];exact e6
  ·rw[aO,p0];exact arE
 ·have φ:=dd φ;obtain rfl:j=n:=by omega
  rw[hc (by omega)]at uJ uz;exact aj1 o vp aC aj uz Bw aqs wa acO uJ dF
end
section
variable{w:World}{pp pd:Nat}{m:aR}{xs:List (b9.cP×Int)}{al:Int}{D:bf}
theorem ajm{m:aR}{n:Nat}:x2 m n 0=List.replicate n 0:=by simp[x2]
theorem ajk{m:aR}{n:Nat}(ax:m.stamps.length=n):x2 m n n=om m:=by unfold x2;rw[v7,hc (by simp[om,ax])];simp
theorem aj0(o:Inv m)(aC:m.seq+1<=1073741824)(aj:m.d.loose.length<=900000)(JO:0<=m.clock){W:World}(aD:ho w pp pd m xs al D)(h:dL w D W pp pd m xs al D){δ nG:Nat}{ps:aU}(Bw:w.heap.size<=nG)(ha:μ W nG bU 24 (some ⟨δ,0,none⟩) 1 1 (bK m.R ps))(bV:fp W m.R ps)
  {p oQ:J}{n c d:Nat}(ax:m.s.toNat=n){gD CA:Nat}(ol:μ W gD cj 1 p n c (bw.cI (hU n (lays (used m.R)))))(p6:μ W CA cj 1 oQ n d (bw.cI (om m))):
  iN.a1 (some ⟨pp,0,none⟩) δ p n c oQ n d W (χ λv w'=>v=.tuple #[]/\∃bb,dL w D w' pp pd (pN m) xs al bb):=by
 have ω:=Lp o.base;have bJ:=o.gx;have anL:=ab6 bJ;unfold iN.a1;obtain⟨q,cZ,dp,c0,cV,b4⟩:=h.at_
 try dsimp only[bk]
 simp only[dv];refine⟨_,cV.at (j:=5) rfl,?_⟩;refine κ.use (bw.Xi cV.st o.fa) ?_;rintro _ cf ⟨cm,eg,hs,rfl,_⟩
 try dsimp only[bX,cC,cD,bk,bH,dY]
 have jP:=cV.ex cm;refine⟨(two m.s m.k).toArray,rfl,jP.vT,?_⟩;rintro aF cA jd rfl;have bo:=μ.new (w:=cf) [.int .i64 m.st.head] cj;rw[<-jd]at bo;have fl:=η.alloc cf (.cells #[.int .i64 m.st.head] cj);generalize cf.alloc (.cells #[.int .i64 m.st.head] cj)=cA at bo fl⊢;have Mv:=cm.trans fl;have JZ:∀x∈hU n (lays (used m.R)),0<=x/\x<=m.k:=λx I=>by
  unfold hU at I;obtain⟨i,kX,rfl⟩:=gO.1 I;refine⟨by omega,?_⟩;have nk:=(Kw (used m.R)).filter λx:dh=>x.1==i
  have:=rW (((lays (used m.R)).filter λx=>x.1==i).map Prod.snd) (List.range m.k.toNat) (by
   refine Pc (S:=λa b=>a≠b) (R:=λa b=>a.2≠b.2) _ (λa b h=>h) ?_;refine VE (λ{a b}aQ ψ sU e=>sU ?_) nk;have h1:=(mv.1 aQ).2;have ι:=(mv.1 ψ).2
   exact AG (by have h1:a.1=i:=by simpa using h1
                have ι:b.1=i:=by simpa using ι
                rw[h1,ι]) e) λz aL=>by
   obtain⟨x,I,rfl⟩:=gO.1 aL
   have:=((lu bJ).1 o.fit).2.1 x ((HC o.ok).1 (mv.1 I).1)
   exact ns.2 (by omega)
  rw[jV,Cc]at this;omega
 have JK:∀x∈om m,0<=x/\x<65536:=λx I=>by
  unfold om at I;obtain⟨t,aP,rfl⟩:=gO.1 I
  have:=o.qi t aP
  unfold min2;split<;>omega
 have aaW:(hU n (lays (used m.R))).length=n:=Dl _ _;have amt:(om m).length=n:=by simp[om];rw[o.n5,ax]
 have hp:∀r,r=r6 m.k (hU m.s.toNat (lays (used m.R))) (om m) m.st.head->r6 m.k (hU n (lays (used m.R))) (om m) m.st.head=r:=λr e=>by rw[e,ax]
 refine κ.use (aiy (s:=m.s) anL (ol.ex Mv).cells (p6.ex Mv).cells bo.cells aaW amt (by omega) JZ JK) ?_;rintro _ cn ⟨rfl,c7⟩;have OQ:=h.ex (Mv.trans c7);unfold pN;cases NU:r6 m.k (hU m.s.toNat (lays (used m.R))) (om m) m.st.head with
 |none=>
  rw[hp _ NU.symm]
  try dsimp only[bX,cC,cD,bk,bH]
  rw[cond_pos (by rfl)];refine κ.use (MM OQ.is o.vK aC (by omega)) ?_;rintro _ dX ⟨rfl,bb,π⟩
  try dsimp only[bX]
  exact χ.mk ⟨rfl,bb,OQ.trans π⟩
 |some g=>
  rw[hp _ NU.symm]
  try dsimp only[bX,cC,cD,bk,bH]
  rw[cond_neg (by rfl)];have vp:=aj3 o JO NU;obtain⟨g1,g2,g3,g4⟩:=Vj NU;obtain⟨fQ,awr,awp,awt,Nz,SH⟩:=OQ.at_
  try simp only[dv]
  refine⟨_,Nz.at (j:=6) rfl,?_⟩;rw[cond_neg (by simp;omega)];unfold iN.bP;have dT:=η.drew cn;have r7:=OQ.ex dT;have rq:=(Mv.trans c7).trans dT;have ha:=ha.ex rq;have bV:=bV.ex rq;have vx:=Nz.ex dT;generalize cn.drew=dn at r7 ha bV vx⊢;refine⟨(bK m.R ps).toArray,by rw[fh];exact bV.at.dU,ha.cells,?_⟩
  try dsimp only[bk]
  try simp only[dv]
  refine⟨(two m.s m.k).toArray,rfl,vx.vT,?_⟩;have zW:(gm (used m.R)).length<=4096:=by
   have h1:=((lu bJ).1 o.fit).2.2
   have:(m.s-4)*m.k<=20*16:=sd (by omega) (by omega) (by omega) (by omega)
   have ι:(gm (used m.R)).length=iF m.R:=rfl;omega
  refine κ.use (ah7 bV.at o.fit.1 zW (g:=g) (by omega)) ?_;rintro _ fO ⟨fH,iC,rfl,wj,pj⟩
  try dsimp only[bX,cC,cD,bk,bH,dY]
  exact aj2 o vp aC aj (r7.ex wj) Bw (ha.ex wj) (bV.ex wj) pj λw' bb aJ=>⟨rfl,bb,aJ⟩
theorem aj4(h:ho w pp pd m xs al D)(o:Inv m)(aC:m.seq+1<=1073741824)(aj:m.d.loose.length<=900000)(JO:0<=m.clock/\m.clock<=1000000000):iN.C (some ⟨pp,0,none⟩) w (χ λv w'=>v=.tuple #[]/\∃bb,dL w D w' pp pd (pN m) xs al bb):=by
 have ω:=Lp o.base;have bJ:=o.gx;obtain⟨n,ax⟩:∃n,m.s.toNat=n:=⟨_,rfl⟩;apply iN.ok;unfold iN.main;refine κ.use (Mr h o.ok) ?_;rintro _ γ ⟨ps,rfl,bV,ζ⟩
 try dsimp only[bk,hx,ie]
 refine AK ζ λδ aa ej gw ad gJ bo=>?_;have bV:=bV.ex ad;refine aW (by rw[fh];exact bV.at.dU) (bo.put (cs:=bK m.R ps) bV.at.dU bV.at.one λaz cz cx=>?_);have bV:=bV.cB cz bU (λi o=>o▸(bo.typed rfl).1) (by decide);have iQ:η w az:=gJ.then cz λi o=>by omega
 have dT:=η.drew az;have l8:=iQ.trans dT;have cu:=cx.ex dT;have Py:=bV.ex dT;clear bo cx bV cz iQ ad gJ ζ;generalize az.drew=aE at dT l8 cu Py⊢;refine⟨(bK m.R ps).toArray,by rw[fh];exact Py.at.dU,cu.cells,?_⟩;obtain⟨q,cZ,dp,c0,cV,b4⟩:=h;have aD:ho w pp pd m xs al D:=⟨q,cZ,dp,c0,cV,b4⟩;simp only[dv];refine⟨(two m.s m.k).toArray,rfl,(cV.ex l8).vT,?_⟩;have zW:(gm (used m.R)).length<=4096:=by
  have h1:=((lu bJ).1 o.fit).2.2
  have:(m.s-4)*m.k<=20*16:=sd (by omega) (by omega) (by omega) (by omega)
  have ι:(gm (used m.R)).length=iF m.R:=rfl;omega
 refine κ.use (W6 Py.at o.fit.1 zW) ?_;rintro _ ba ⟨pl,dl,rfl,aI,ol⟩
 try dsimp only[bX,cC,cD,bk,bH,dY]
 rw[ax]at ol⊢;refine aW (by omega) (aW (by omega) (aW (by omega) ?_));rintro θ bm eu rfl;have em:madeCells #[Value.int .i64 0] (n*1)=(bw.cI (List.replicate n 0)).toArray:=by
  have:=Ew 1 (n*1) (Value.int .i64 0) (by decide)
  rw[ey]at this⊢;rw[show(#[Value.int .i64 0]:ag)=(List.replicate 1 (Value.int .i64 0)).toArray from rfl,this];unfold bw.cI;rw[KZ]
 rw[em];have p6:=μ.alloc (w:=ba) (bw.cI (List.replicate n 0)) cj 1 n (by simp[bw.cI]);rw[<-eu]at p6;have aV:=η.alloc ba (.cells (bw.cI (List.replicate n 0)).toArray cj);generalize ba.alloc (.cells (bw.cI (List.replicate n 0)).toArray cj)=bm at p6 aV⊢;have I8:=(l8.trans aI).trans aV;have yQ:=(dL.start aD).ex I8;have er:=(cu.ex aI).ex aV;have Pz:=(Py.ex aI).ex aV;have aqB:=ol.ex aV;have awU:w.heap.size<=θ:=by have:=(l8.trans aI).size;omega
 have amH:¬D θ:=λaf=>by have:=(aD.hL af).2;omega
 have NQ:∀x,pl=some x->x.block≠θ:=λx I e=>by have:=(ol.ge I).2;omega
 have ih:=cV.ex I8
 try simp only[dv]
 refine⟨_,_,_,ih.at (j:=11) rfl,?_⟩;have p0:m.stamps.length=n:=by rw[o.n5,ax]
 rw[p0];unfold iN.bd;refine⟨λt0 t2 cR cM de lD lY lX PN PM We t39 t40 W=>some ⟨pp,0,none⟩=t0/\δ=t2/\pl=cR/\n=cM/\dl=de/\some ⟨θ,0,none⟩=lD/\n=lY/\n=lX/\some ⟨q.kp,0,none⟩=PN/\n=PM/\(n:Int)=t39/\0<=t40/\t40<=n/\Kp bm W (λi=>i=θ)/\e9 W pp pd q cZ dp c0 m xs al/\μ W θ cj 1 (some ⟨θ,0,none⟩) n n (bw.cI (x2 m n t40.toNat)),
  λ_ _ _ _ _ _ _ _ _ _ _ _ t40 _=>(n-t40).toNat,⟨rfl,rfl,rfl,rfl,rfl,rfl,rfl,rfl,rfl,rfl,rfl,by omega,by omega,Kp.refl _ _,ih,by rw[Int.toNat_zero,ajm];exact p6⟩,?_⟩
 have aqr:Typed bm cj θ:=(p6.typed rfl).1;have amB:δ≠θ:=λe=>by have h1:=(cu.ge rfl).2;have ι:=aI.size;dsimp only at h1;omega
 clear p6 ih;rintro _ _ _ _ _ _ _ _ _ _ We _ t40 W ⟨rfl,rfl,rfl,rfl,rfl,rfl,rfl,rfl,rfl,rfl,rfl,g0,g1,K,jQ,p6⟩;unfold iN.δ;obtain⟨j,rfl⟩:=eH g0;rw[cy]at p6;refine bz (λφ=>?_) λφ=>?_
 ·have φ:=b7 φ;have eP:j<m.stamps.length:=by omega
  refine aW (by omega) (aW (by omega) ?_)
  try dsimp only[bk]
  try simp only[dv]
  rw[cy,ey];have axA:=o.qi m.stamps[j] (hF eP);have TQ:=jQ.stamps.at (bw.uC (List.getElem?_eq_getElem eP));refine⟨_,TQ,_,jQ.at (j:=10) rfl,aW (by omega) (aW (by omega) ?_)⟩;rw[bY (x:=m.clock-m.stamps[j]) (by omega) (by omega)]
  try rw[dv]
  refine p6.da (j:=j) (v:=.int .i64 (min2 (m.clock-m.stamps[j]) 65535)) (by omega) rfl λb5 fL e6=>?_;have zJ:(bw.cI (x2 m n j)).set j (.int .i64 (min2 (m.clock-m.stamps[j]) 65535))=bw.cI (x2 m n (j+1)):=by rw[<-ajl p0 (by omega)];unfold bw.cI;rw[qX]
  rw[zJ]at e6;rw[bY (x:=(j:Int)+1) (by omega) (by omega)];have aO:((j:Int)+1).toNat=j+1:=by omega
  refine⟨⟨by trivial,by trivial,by trivial,by trivial,by trivial,by trivial,by trivial,by trivial,by trivial,by trivial,by trivial,by omega,by omega,K.fZ fL,?_,by rw[aO];exact e6⟩,by((try dsimp only);omega)⟩;exact jQ.aH fL (λi bg e=>amH (e▸(b4 i).2 bg)) (λi e e2=>(F7.1 e2).off (e▸(p6.typed rfl).1) (by decide)) λi e aP=>(e▸(p6.typed rfl).1:Typed W cj i).ne aP (by decide) rfl
 ·have φ:=dd φ;obtain rfl:j=n:=by omega
  rw[ajk p0]at p6;have ha:=er.aH K λx I e=>by cases I;exact amB e
  have bV:=Pz.aH K λi aP _ e=>by subst e;exact aqr.ne aP (by decide) rfl
  have aqC:=aqB.aH K λx I e=>NQ x I e;have KX:dL w D W pp pd m xs al D:=⟨⟨q,cZ,dp,c0,jQ,b4⟩,Kp.trans (I8.aH D) K (λ_ _ h=>h) (λi o e=>by omega),λi h=>.inl h⟩;exact aj0 o aC aj JO.1 aD KX ej ha bV ax aqC p6
end
open Tryz
section
variable{w:World}{pp pd:Nat}{m:aR}{xs:List (b9.cP×Int)}{al:Int}{D:bf}
def qE(a:aR.Ask)(p:J)(n c:Nat):aU:=[.int .i64 a.k,.int .i64 a.v,.int .i64 a.b,.int .i64 a.s,.slice p n c]
theorem asC{R:bR}{v b:Int}{e:fF}(he:fS R v=some e)(hk:e.1≠2)(ψ:0<=b/\b<e.2.1):AJ R v b=0:=by unfold AJ;rw[he];dsimp only;rw[aM hk,aS ψ]
theorem av6(o:Inv m)(ax:m.dl.length<=100000000)(aj:m.d.loose.length<=1000000)(aD:ho w pp pd m xs al D){W:World}(x:η w W){a:aR.Ask}{δ B CB:Nat}{p:J}{c:Nat}(ha:μ W B ff 5 (some ⟨δ,0,none⟩) 1 1 (qE a p 64 c))(e6:μ W CB dk 1 p 64 c (bj a.bs))(ω:a6.kE a.bs)
  {e:fF}(he:fS m.R a.v=some e)(hk:e.1≠2)(ψ:0<=a.b/\a.b<e.2.1)(Hf:(iF m.R:Int)+1<=m.cap)(υ:bw.room m.st 2=true){R:aq}
  (dF:∀w' bb,dL w D w' pp pd (oK {(fP m a.bs 2).1 with R:=jv m.R a.v.toNat a.b.toNat (some (fP m a.bs 2).2)} ⟨4,a.v,0,a.b,(fP m a.bs 2).2.1,(fP m a.bs 2).2.2⟩) xs al bb->R (.returned (.tuple #[])) w'):
  kf.cd (some ⟨pp,0,none⟩) δ W R:=by
 have dC:=OP o.base o.Ir (show(0:Int)<=2 by decide) υ a.bs;have ep:=((lu o.gx).1 o.fit).1;have KX:=(dL.start aD).ex x;unfold kf.cd;refine⟨_,_,_,ha.at (j:=4) rfl,?_⟩;refine κ.use (B6 KX.is o.base o.wK o.Ir (show(0:Int)<=2 by decide) υ o.n5 aj e6 ω) ?_;rintro _ j6 ⟨rfl,gj,oB⟩;have ha:=oB.dA KX.is ha (by decide);have I:=dC.lt;have aa1:(fP m a.bs 2).1.R=m.R:=rfl;have aa2:(fP m a.bs 2).1.dl=m.dl:=rfl;generalize BE:(fP m a.bs 2).1=m1 at oB aa1 aa2 dF;generalize(fP m a.bs 2).2=y at I dF⊢;unfold dO
 try dsimp only[bk,rE]
 have dT:=η.drew j6;have Vt:=(KX.trans oB).ex dT;have ha:=ha.ex dT;generalize j6.drew=zg at Vt ha⊢;obtain⟨q,cZ,dp,c0,cV,b4⟩:=Vt.at_;simp only[dv];refine⟨_,cV.at (j:=4) rfl,_,ha.at (j:=1) rfl,_,ha.at (j:=2) rfl,?_⟩;have abf:=cV.k8;rw[aa1]at abf;have JW:=o.gx;have dt:kc (some y):=⟨by omega,by omega⟩;have ka:=asC he hk ψ;refine κ.use (XB abf ep a.v a.b (some y) dt (r:=ev (some y)) (m:=eE (some y)) λx h=>by cases h;exact⟨rfl,rfl⟩) ?_;rintro _ iz ⟨rfl,_,aQ⟩;have aQ:=aQ ka;rw[ka]
 try dsimp only[bH]
 obtain⟨Nz,bP⟩:=cV.Lt aQ;have KW:=Vt.trans (e9.il b4 Nz bP λi o=>.inl o);have ha:=gU bP (λi o=>(cV.hL o).1) ha (by decide);refine jt (λ_=>?_) λh=>absurd rfl h
 try dsimp only[bX]
 refine⟨_,ha.at (j:=1) rfl,_,ha.at (j:=2) rfl,?_⟩;refine κ.use (KB KW.is ⟨4,a.v,0,a.b,y.1,y.2⟩ (by dsimp only;rw[aa2];exact ax)) ?_;rintro _ o2 ⟨rfl,IV,nR⟩
 try dsimp only[bX]
 exact dF _ _ (KW.trans nR)
theorem ahm(o:Inv m)(ax:m.dl.length<=100000000)(aj:m.d.loose.length<=1000000)(aD:ho w pp pd m xs al D){W:World}(x:η w W){a:aR.Ask}{δ θ B gD CB n:Nat}{p:J}{c:Nat}(ha:μ W B ff 5 (some ⟨δ,0,none⟩) 1 1 (qE a p n c))(uH:μ W gD jl 2 (some ⟨θ,0,none⟩) 1 1 (two (ig m.R a.v).1 (ig m.R a.v).2.1))(e6:μ W CB dk 1 p n c (bj a.bs))(ω:∀x∈a.bs,0<=x/\x<256)(yv:a.k=5){R:aq}
  (dF:∀w' bb,dL w D w' pp pd (eS m a).1 xs al bb->(eS m a).2=hd->R (.returned (.tuple #[])) w')
  (e5:∀e w',η w w'->e≠0->eS m a=fail m e->R (.panicked (yh e)) w'):
  kf.a1 (some ⟨pp,0,none⟩) δ θ (ig m.R a.v).2.2 W R:=by
 have ik:eS m a=IL m a:=by unfold eS;rw[aM (by omega),aM (by omega),aM (by omega),aM (by omega),aS yv]
 rw[ik]at dF e5;have zV:a.bs.length=n:=by have:=e6.1;rw[sn,ey]at this;exact this
 unfold IL at dF e5;have ep:=((lu o.gx).1 o.fit).1;unfold kf.a1;unfold ig at uH⊢;cases he:fS m.R a.v with
 |none=>
  rw[he]at e5;exact jt (λh=>by cases h) λh=>e5 4 _ x h rfl
 |some e=>
  rw[he]at e5 dF uH;dsimp only at e5 dF uH⊢;refine jt (λ_=>?_) λh=>absurd rfl h
  try dsimp only[bk,bX]
  refine κ.use (Mr (aD.ex x) o.ok) ?_;rintro _ cn ⟨ps,rfl,bV,c7⟩
  try dsimp only[hx]
  refine κ.use (Xq bV.at ep) ?_;rintro _ dX ⟨rfl,j7⟩
  try dsimp only[bX,cC,cD,bk,bH]
  have X:=(x.trans c7).trans j7;obtain⟨q,cZ,dp,c0,cV,b4⟩:=aD.ex X;simp only[dv];refine⟨(two m.s m.k).toArray,rfl,cV.vT,?_⟩;refine κ.use (Qx m.s m.k o.gx dX) ?_;rintro _ eR ⟨rfl,jm⟩
  try dsimp only[bX,cC,cD,bk,bH]
  have A9:=X.trans jm;have ha:=((ha.ex c7).ex j7).ex jm;have uH:=((uH.ex c7).ex j7).ex jm;have e6:=((e6.ex c7).ex j7).ex jm;have cV:=cV.ex jm;refine⟨e.1,uH.at (j:=0) rfl,bz (λι=>?_) λι=>?_⟩
  ·have ι:e.1=2:=by simpa using ι
   exact jt (λh=>by cases h) λh=>e5 8 _ A9 h (by rw[aS ι])
  have ι:e.1≠2:=by simpa using ι
  simp only[aM ι]at e5 dF;have bad:(a.b<0\/e.2.1<=a.b)->kf.bP (some ⟨pp,0,none⟩) δ ((gm (used m.R)).length:Int) ((m.s-4)*m.k) true eR R:=λψ=>by unfold kf.bP;rw[r9];exact jt (λh=>by cases h) λh=>e5 5 _ A9 h (by rw[aS ψ])
  refine⟨a.b,ha.at (j:=2) rfl,bz (λψ=>bad (.inl (b7 ψ))) λψ=>⟨a.b,ha.at (j:=2) rfl,e.2.1,uH.at (j:=1) rfl,?_⟩⟩;have ψ:=dd ψ;by_cases eu:e.2.1<=a.b
  ·rw[bB eu];exact bad (.inr eu)
  rw[iy eu];have wV:¬(a.b<0\/e.2.1<=a.b):=by omega
  simp only[aM wV,zV]at e5 dF;unfold kf.bP;rw[vX];refine⟨p,n,c,ha.at (j:=4) rfl,bz (λpU=>?_) λpU=>?_⟩
  ·have pU:(n:Int)≠64:=by simpa using pU
   exact jt (λh=>by cases h) λh=>e5 6 _ A9 h (by rw[aS (by omega)])
  have pU:(n:Int)=64:=by simpa using pU
  obtain rfl:n=64:=by omega
  simp only[ne_eq,not_true_eq_false,qW]at e5 dF;have NR:(gm (used m.R)).length=iF m.R:=rfl;have aaW:(iF m.R:Int)<=400:=by
   have h1:=((lu o.gx).1 o.fit).2.2;have bJ:=o.gx
   have:(m.s-4)*m.k<=20*16:=sd (by omega) (by omega) (by omega) (by omega)
   omega
  rw[NR,bY (x:=(iF m.R:Int)+1) (by omega) (by omega)];refine bz (λjP=>?_) λjP=>?_
  ·have jP:m.cap<(iF m.R:Int)+1:=b7 jP;exact jt (λh=>by cases h) λh=>e5 9 _ A9 h (by rw[aS jP])
  have jP:¬m.cap<(iF m.R:Int)+1:=dd jP;simp only[aM jP]at e5 dF
  try dsimp only[bk]
  simp only[dv];refine⟨_,cV.at (j:=5) rfl,?_⟩;refine κ.use (bw.Xw cV.st 2) ?_;rintro _ gi ⟨rfl,qu⟩
  try dsimp only[dE]
  have XY:=A9.trans qu;cases υ:bw.room m.st 2 with
  |false=>
   rw[cond_pos (by rfl)];exact jt (λh=>by cases h) λh=>e5 12 _ XY h (by rw[aS υ])
  |true=>
   rw[cond_neg (by rfl)];refine av6 o ax aj aD XY (ha.ex qu) (e6.ex qu) ⟨zV,ω⟩ he ι (by omega) (by omega) υ λw' bb hp=>?_;rw[aM (by rw[υ];decide)]at dF;exact dF w' bb hp rfl
theorem av7(o:Inv m)(ax:m.dl.length<=100000000)(aj:m.d.loose.length<=1000000)(aD:ho w pp pd m xs al D)(a:aR.Ask){CB n:Nat}{p:J}{c:Nat}(e6:μ w CB dk 1 p n c (bj a.bs))(ω:∀x∈a.bs,0<=x/\x<256)(yv:a.k=5){Z:Value->ao}{X:List PanicEntry->ao}
  (dF:∀w' bb,dL w D w' pp pd (eS m a).1 xs al bb->(eS m a).2=hd->Z (.tuple #[]) w')
  (e5:∀e w',η w w'->e≠0->eS m a=fail m e->X (yh e) w'):
  κ prog 79 #[.pointer (some ⟨pp,0,none⟩),.agg (qE a p n c).toArray] w Z X:=by
 obtain⟨q,cZ,dp,c0,h,b4⟩:=id aD;show kf.C (some ⟨pp,0,none⟩) a.k a.v a.b a.s p n c w _;apply kf.ok;unfold kf.main;rintro δ γ ej rfl;have ρ:=μ.new (w:=w) (qE a p n c) ff;rw[<-ej]at ρ;have ζ:=η.alloc w (.cells (qE a p n c).toArray ff);have aO:w.alloc (.cells #[.int .i64 a.k,.int .i64 a.v,.int .i64 a.b,.int .i64 a.s,.slice p n c] ff)=w.alloc (.cells (qE a p n c).toArray ff):=rfl;rw[aO];generalize w.alloc (.cells (qE a p n c).toArray ff)=γ at ρ ζ⊢
 try dsimp only[bk]
 have dT:=ζ.trans (η.drew γ);have ρ:=ρ.ex (η.drew γ);generalize γ.drew=τ at dT ρ⊢;simp only[dv];refine⟨_,(h.ex dT).at (j:=4) rfl,_,ρ.at (j:=1) rfl,?_,?_⟩
 ·refine κ.use (A4 (h.ex dT).k8 a.v) ?_;rintro _ aa ⟨rfl,ad⟩
  try dsimp only[bX,cC,cD,bk,bH,hx,ie]
  refine GO ((h.ex dT).ex ad).k8 (η.refl aa) a.v λθ W va Ap=>?_;have X:=(dT.trans ad).trans va;exact ahm o ax aj aD X ((ρ.ex ad).ex va) Ap (e6.ex X) ω yv dF e5
 ·rintro aF ba rfl rfl;have bo:=μ.new (w:=τ) (two 0 0) jl;have aI:=η.alloc τ (.cells (two 0 0).toArray jl);have pR:τ.alloc (.cells #[.int .i64 0,.int .i64 0] jl)=τ.alloc (.cells (two 0 0).toArray jl):=rfl;rw[pR];generalize τ.alloc (.cells (two 0 0).toArray jl)=ba at bo aI⊢;have rZ:=ρ.ex aI;have ks:=dT.trans aI;refine⟨rZ.at (j:=1) rfl,(h.ex ks).at (j:=4) rfl,?_⟩;refine κ.use (A4 (h.ex ks).k8 a.v) ?_;rintro _ bm ⟨rfl,aV⟩
  try dsimp only[bX,cC,cD,bk,bH,hx,ie]
  have Kd:=dT.size;refine aW rfl ((bo.ex aV).put (cs:=two (ig m.R a.v).1 (ig m.R a.v).2.1) rfl mW λcf iL jh=>?_);have ajh:=aI.trans aV;have sC:=ajh.then iL λi o=>by omega
  have X:=dT.trans sC;exact ahm o ax aj aD X (ρ.ex sC) jh (e6.ex X) ω yv dF e5
end
structure l7(w:World)(D:bf)(gu:Nat)(w':World)(pp pd:Nat)(m:aR)(xs:List (b9.cP×Int))(al:Int)(bb:bf):Prop where
 is:ho w' pp pd m xs al bb
 aH:Kp w w' λi=>D i\/i=gu
 sub:∀i,bb i->D i\/w.heap.size<=i
structure aiB(w:World)(gu:Nat)(al:Int)(r:gS)(dz:J)(cU dc:Nat)(dD:J)(dH dJ:Nat):Prop where
 cell:μ w 0 dm 5 (some ⟨gu,0,none⟩) 1 1 [.int .i64 al,.int .i64 r.e,.int .i64 r.id,.slice dz cU dc,.slice dD dH dJ]
 bs:μ w 0 dk 1 dz cU dc (bj r.bs)
 qR:μ w 0 cj 1 dD dH dJ (bw.cI r.qR)
def CG(w:World)(D:bf)(gu:Nat)(al:Int)(r:gS):Prop:=∃dz cU dc dD dH dJ,aiB w gu al r dz cU dc dD dH dJ/\∀x,dD=some x->¬D x.block
section
variable{w:World}{pp pd:Nat}{m:aR}{xs:List (b9.cP×Int)}{al:Int}{D:bf}{gu:Nat}
theorem dL.b1{w':World}{bb:bf}{m':aR}{tK:List (b9.cP×Int)}{o1:Int}(h:dL w D w' pp pd m' tK o1 bb):l7 w D gu w' pp pd m' tK o1 bb:=⟨h.is,h.aH.mono λ_ _ h=>.inl h,h.sub⟩
theorem l7.il{γ w':World}{eU bb:bf}{m1 m':aR}{wm tK:List (b9.cP×Int)}{wc o1:Int}(h:l7 w D gu γ pp pd m1 wm wc eU)(k:dL γ eU w' pp pd m' tK o1 bb):l7 w D gu w' pp pd m' tK o1 bb:=
 ⟨k.is,Kp.trans h.aH k.aH (λ_ _ h=>h) (λi o af=>by rcases h.sub i af with h|h;exact .inl h;omega),λi o=>by
  rcases k.sub i o with h1|h1
  ·exact h.sub i h1
  ·exact .inr (fY h.aH.size h1)⟩
theorem l7.ex{γ w':World}{eU:bf}{m1:aR}{wm:List (b9.cP×Int)}{wc:Int}(h:l7 w D gu γ pp pd m1 wm wc eU)(x:η γ w'):l7 w D gu w' pp pd m1 wm wc eU:=⟨h.is.ex x,h.aH.fZ (x.aH _),h.sub⟩
theorem l7.put{γ w':World}{eU:bf}{m1:aR}{wm:List (b9.cP×Int)}{wc:Int}(h:l7 w D gu γ pp pd m1 wm wc eU){B:Nat}{cs:aU}(ε:μ γ B dm 5 (some ⟨gu,0,none⟩) 1 1 cs)(k:Kp γ w' λi=>i=gu):l7 w D gu w' pp pd m1 wm wc eU:=
 ⟨h.is.aH k (λi af o=>(h.is.hL af).1.off (o▸(ε.typed rfl).1) (by decide)) (λi o e2=>(F7.1 e2).off (o▸(ε.typed rfl).1) (by decide)) λi o aP=>aP.ne (o▸(ε.typed rfl).1) (by decide) rfl,h.aH.fZ (k.mono λ_ _ h=>.inr h),h.sub⟩
theorem akB{a:aR.Ask}(h:a.k=1):eS m a=(if 1<=a.s/\a.s<=32 then(match lf m.R with
 |none=>fail m 7
 |some i=>(oK {m with R:=m.R.set i (1,a.s,List.replicate a.s.toNat none)} ⟨1,i,0,a.s,0,0⟩,{hd with id:=i}))else fail m 5):=by unfold eS;rw[aS h];all_goals rfl
theorem akC{a:aR.Ask}(h:a.k=2):eS m a=(match fS m.R a.v with
 |none=>fail m 4
 |some _=>(oK {m with R:=m.R.set a.v.toNat (0,0,[])} ⟨2,a.v,0,0,0,0⟩,hd)):=by unfold eS;rw[aM (by omega),aS h];all_goals rfl
theorem akD{a:aR.Ask}(h:a.k=3):eS m a=(match fS m.R a.v with
 |none=>fail m 4
 |some e=>(match lf m.R with
  |none=>fail m 7
  |some i=>(oK {m with R:=m.R.set i (2,e.2.1,e.2.2)} ⟨3,a.v,i,0,0,0⟩,{hd with id:=i}))):=by unfold eS;rw[aM (by omega),aM (by omega),aS h];all_goals rfl
theorem Zf{a:aR.Ask}(h:a.k=4):eS m a=(match fS m.R a.v with
 |none=>fail m 4
 |some e=>if a.b<0\/e.2.1<=a.b then fail m 5 else(match(e.2.2[a.b.toNat]?).join with
  |none=>(m,{hd with bs:=a6.ia})
  |some x=>(m,{hd with bs:=hf m.k m.d x}))):=by unfold eS;rw[aM (by omega),aM (by omega),aM (by omega),aS h];all_goals rfl
theorem akE{a:aR.Ask}(h:a.k=6):eS m a=(match fS m.R a.v with
 |none=>fail m 4
 |some e=>if e.1=2 then fail m 8 else if a.b<0\/e.2.1<=a.b then fail m 5
  else(oK {m with R:=jv m.R a.v.toNat a.b.toNat none} ⟨5,a.v,0,a.b,0,0⟩,hd)):=by unfold eS;rw[aM (by omega),aM (by omega),aM (by omega),aM (by omega),aM (by omega),aS h];all_goals rfl
theorem akF{a:aR.Ask}(h:a.k=7):eS m a=(xF m,hd):=by unfold eS;rw[aM (by omega),aM (by omega),aM (by omega),aM (by omega),aM (by omega),aM (by omega),aS h];all_goals rfl
theorem akG{a:aR.Ask}(h:a.k=8):eS m a=(m,{hd with qR:=[(iF m.R:Int),m.cap]}):=by unfold eS;rw[aM (by omega),aM (by omega),aM (by omega),aM (by omega),aM (by omega),aM (by omega),aM (by omega),aS h];all_goals rfl
theorem akH{a:aR.Ask}(h:a.k=9):eS m a=(match fS m.R a.v with
 |none=>fail m 4
 |some e=>(m,{hd with qR:=[e.1,e.2.1]})):=by unfold eS;rw[aM (by omega),aM (by omega),aM (by omega),aM (by omega),aM (by omega),aM (by omega),aM (by omega),aM (by omega)];all_goals rfl
def fD(i:Int)(x y:Value):aU:=[.int .i64 0,.int .i64 0,.int .i64 i,x,y]
abbrev ct:Value:=.slice none 0 0
theorem Ic{i:Int}{B:Nat}(ε:μ w B dm 5 (some ⟨gu,0,none⟩) 1 1 (fD i ct ct)):CG w D gu 0 {hd with id:=i}:=⟨none,0,0,none,0,0,⟨ε.lower (en _),μ.nil _ _ _ _,μ.nil _ _ _ _⟩,λ_ h=>by cases h⟩
theorem ar4{bs:an}{B:Nat}{q:J}{n c:Nat}(ε:μ w B dm 5 (some ⟨gu,0,none⟩) 1 1 (fD 0 (.slice q n c) ct))(h:μ w 0 dk 1 q n c (bj bs)):CG w D gu 0 {hd with bs:=bs}:=⟨q,n,c,none,0,0,⟨ε.lower (en _),h,μ.nil _ _ _ _⟩,λ_ h=>by cases h⟩
theorem ar5{l:an}{B:Nat}{q:J}{n c:Nat}(ε:μ w B dm 5 (some ⟨gu,0,none⟩) 1 1 (fD 0 ct (.slice q n c)))(h:μ w 0 cj 1 q n c (bw.cI l))(b4:∀x,q=some x->¬D x.block):CG w D gu 0 {hd with qR:=l}:=⟨none,0,0,q,n,c,⟨ε.lower (en _),μ.nil _ _ _ _,h⟩,b4⟩
theorem acv{γ:World}{eU:bf}{m1:aR}{wm:List (b9.cP×Int)}{wc:Int}(h:l7 w D gu γ pp pd m1 wm wc eU){B:Nat}(ε:μ γ B dm 5 (some ⟨gu,0,none⟩) 1 1 (fD 0 ct ct))(x y:Int){N:ao}
  (K:∀w',l7 w D gu w' pp pd m1 wm wc eU->CG w' (λi=>eU i\/i<w.heap.size) gu 0 {hd with qR:=[x,y]}->N w'):
  aN γ #[.int .i64 x,.int .i64 y] cj λc8 u6=>(u6.cell? (⟨gu,4,none⟩:Addr)).isSome=true/\u6.frozen? (⟨gu,4,none⟩:Addr)=false/\∀nz,nz=u6.setCell (⟨gu,4,none⟩:Addr) (Value.slice (some ⟨c8,0,none⟩) 2 2)->N nz:=by
 rintro c8 u6 ψ rfl;have cu:=μ.alloc (w:=γ) (bw.cI [x,y]) cj 1 2 rfl;rw[<-ψ]at cu;have ak:=η.alloc γ (.cells (bw.cI [x,y]).toArray cj);have h3:γ.alloc (.cells #[.int .i64 x,.int .i64 y] cj)=γ.alloc (.cells (bw.cI [x,y]).toArray cj):=rfl;rw[h3];generalize γ.alloc (.cells (bw.cI [x,y]).toArray cj)=u6 at cu ak⊢;have ε:=ε.ex ak;refine ε.da (j:=4) (by omega) rfl λnz k aql=>?_;refine K nz ((h.ex ak).put ε k) (ar5 (D:=λi=>eU i\/i<w.heap.size) aql ((cu.aH k λx I o=>(cu.typed I).1.ne (o▸(ε.typed rfl).1) (by decide) rfl).lower (en _)) λx I af=>?_);cases I;have ft:=h.aH.size;have af:eU c8\/c8<w.heap.size:=af;rcases af with af|af
 ·have:=(h.is.hL af).2
  omega
 ·omega
end
section
variable{w:World}{pp pd:Nat}{m:aR}{xs:List (b9.cP×Int)}{al:Int}{D:bf}{gu:Nat}
structure QF(m:aR)(a:aR.Ask):Prop where
 inv:Inv m
 seq:m.seq+1<=1073741824
 dl:m.dl.length<=900000
 loose:m.d.loose.length<=900000
 bytes:∀x∈a.bs,0<=x/\x<256
 kind:1<=a.k/\a.k<=9
theorem Zg(o:Inv m)(aD:ho w pp pd m xs al D){W:World}{eU:bf}(h:l7 w D gu W pp pd m xs al eU){a:aR.Ask}{δ B gD:Nat}(uH:μ W gD jl 2 (some ⟨δ,0,none⟩) 1 1 (two (ig m.R a.v).1 (ig m.R a.v).2.1))(or:μ W B dm 5 (some ⟨gu,0,none⟩) 1 1 (fD 0 ct ct))(Tu:a.k=9){R:aq}
  (dF:∀w' bb,l7 w D gu w' pp pd (eS m a).1 xs al bb->CG w' (λi=>bb i\/i<w.heap.size) gu 0 (eS m a).2->(eS m a).2.e=0->R (.returned (.tuple #[])) w')
  (e5:∀e w' bb cs,l7 w D gu w' pp pd m xs al bb->μ w' 0 dm 5 (some ⟨gu,0,none⟩) 1 1 cs->e≠0->eS m a=fail m e->R (.panicked (yh e)) w'):
  uL.a1 (some ⟨gu,0,none⟩) δ (ig m.R a.v).2.2 W R:=by
 rw[akH Tu]at dF e5;unfold uL.a1;unfold ig at uH⊢;cases he:fS m.R a.v with
 |none=>
  rw[he]at e5;exact jt (λh=>by cases h) λax=>e5 4 _ _ _ h (or.lower (en _)) ax rfl
 |some e=>
  rw[he]at e5 dF uH;dsimp only at e5 dF uH⊢;refine jt (λ_=>?_) λh=>absurd rfl h
  try dsimp only[bk,bX]
  refine⟨_,uH.at (j:=0) rfl,_,uH.at (j:=1) rfl,?_⟩
  try simp only[dv]
  exact acv h or e.1 e.2.1 λw' hp υ=>dF w' _ hp υ rfl
set_option maxHeartbeats 1000000 in
theorem akM{a:aR.Ask}(af:QF m a)(aD:ho w pp pd m xs al D){CB n:Nat}{p:J}{c:Nat}(e6:μ w CB dk 1 p n c (bj a.bs)){B:Nat}(or:μ w B dm 5 (some ⟨gu,0,none⟩) 1 1 (fD 0 ct ct)){Z:Value->ao}{X:List PanicEntry->ao}
  (dF:∀w' bb,l7 w D gu w' pp pd (eS m a).1 xs al bb->CG w' (λi=>bb i\/i<w.heap.size) gu 0 (eS m a).2->(eS m a).2.e=0->Z (.tuple #[]) w')
  (e5:∀e w' bb cs,l7 w D gu w' pp pd m xs al bb->μ w' 0 dm 5 (some ⟨gu,0,none⟩) 1 1 cs->e≠0->eS m a=fail m e->X (yh e) w'):
  κ prog 46 #[.pointer (some ⟨pp,0,none⟩),.agg (qE a p n c).toArray,.pointer (some ⟨gu,0,none⟩)] w Z X:=by
 have o:=af.inv;have ep:=((lu o.gx).1 o.fit).1;show uL.C (some ⟨pp,0,none⟩) a.k a.v a.b a.s p n c (some ⟨gu,0,none⟩) w _;apply uL.ok;unfold uL.main;rintro δ γ ej rfl;have ρ:=μ.new (w:=w) (qE a p n c) ff;rw[<-ej]at ρ;have ζ:=η.alloc w (.cells (qE a p n c).toArray ff);have aO:w.alloc (.cells #[.int .i64 a.k,.int .i64 a.v,.int .i64 a.b,.int .i64 a.s,.slice p n c] ff)=w.alloc (.cells (qE a p n c).toArray ff):=rfl;rw[aO];generalize w.alloc (.cells (qE a p n c).toArray ff)=γ at ρ ζ⊢
 try dsimp only[bk]
 have ab:l7 w D gu γ pp pd m xs al D:=((dL.start aD).ex ζ).b1;have EN:=or.ex ζ;have dT:=ζ.trans (η.drew γ);have ai:=ρ.ex (η.drew γ);have p7:=EN.ex (η.drew γ);have aX:=ab.ex (η.drew γ);generalize γ.drew=τ at dT ai p7 aX⊢;simp only[dv];have ι:=aD.ex dT;have Bs:∀{e:Int}{w'}{bb}{B:Nat}{cs:aU},l7 w D gu w' pp pd m xs al bb->μ w' B dm 5 (some ⟨gu,0,none⟩) 1 1 cs->e≠0->eS m a=fail m e->X (yh e) w':=λh ε he af=>e5 _ _ _ _ h (ε.lower (en _)) he af;refine⟨_,ρ.at (j:=0) rfl,bz (λhk=>?_) λvC=>bz (λhk=>?_) λni=>bz (λhk=>?_) λTt=>bz (λhk=>?_) λux=>bz (λhk=>?_) λyv=>bz (λhk=>?_) λanB=>bz (λhk=>?_) λanC=>bz (λhk=>?_) λzU=>bz (λhk=>?_) λTu=>?_⟩
 ·have hk:a.k=1:=by simpa using hk
  have ik:=akB (m:=m) hk;obtain⟨q,cZ,dp,c0,cV,b4⟩:=aX.is;refine⟨_,cV.at (j:=4) rfl,_,ai.at (j:=3) rfl,?_⟩;by_cases ω:1<=a.s/\a.s<=32
  ·rw[aS ω]at ik;refine κ.use (ahM cV.k8 ω) ?_;rintro _ aa υ;cases k0:lf m.R with
   |none=>
    rw[k0]at ik υ;obtain⟨rfl,ad⟩:=υ
    try dsimp only[bX,cC,cD,bk,bH]
    try simp only[dv]
    refine(p7.ex ad).da (j:=2) (v:=.int .i64 0) (by omega) rfl λaz cz oO=>?_;exact jt (λh=>by cases h) λh=>Bs ((aX.ex ad).put (p7.ex ad) cz) oO h ik
   |some i=>
    rw[k0]at ik υ;obtain⟨rfl,aQ⟩:=υ
    try dsimp only[bX,cC,cD,bk,bH]
    try simp only[dv]
    obtain⟨vx,cd⟩:=cV.Lt aQ;have bh:=aX.il (e9.il b4 vx cd λi o=>.inl o);have r4:=gU cd (λi o=>(cV.hL o).1) p7 (by decide);have bo:=gU cd (λi o=>(cV.hL o).1) ai (by decide);refine r4.da (j:=2) (v:=.int .i64 i) (by omega) rfl λaz cz oO=>?_;have eg:=bh.put r4 cz;have cx:=bo.aH cz λx I o=>(bo.typed I).1.ne (o▸(r4.typed rfl).1) (by decide) rfl;refine jt (λ_=>?_) λh=>absurd rfl h
    try dsimp only[bX]
    have eg:=eg.ex (η.drew az);have oO:=oO.ex (η.drew az);have cx:=cx.ex (η.drew az);generalize az.drew=aE at eg oO cx⊢
    try simp only[dv]
    refine⟨_,oO.at (j:=2) rfl,_,cx.at (j:=3) rfl,?_⟩;have bg:=eh.wM;have key:=KB eg.is ⟨1,i,0,a.s,0,0⟩ (by have:=af.dl;dsimp only;omega);dsimp only at key;rw[bg]at key;refine κ.use key ?_;rintro _ bm ⟨rfl,bb,hp⟩
    try dsimp only[bX]
    rw[ik]at dF;exact dF bm bb (eg.il hp) (Ic (hp.dA eg.is oO (by decide))) rfl
  ·rw[aM ω]at ik;refine κ.use (ahL cV.k8 ω) ?_;rintro _ aa ⟨rfl,ad⟩
   try dsimp only[bX,cC,cD,bk,bH]
   try simp only[dv]
   refine(p7.ex ad).da (j:=2) (v:=.int .i64 0) (by omega) rfl λaz cz oO=>?_;exact jt (λh=>by cases h) λh=>Bs ((aX.ex ad).put (p7.ex ad) cz) oO h ik
 ·have hk:a.k=2:=by simpa using hk
  have ik:=akC (m:=m) hk;obtain⟨q,cZ,dp,c0,cV,b4⟩:=aX.is;refine⟨_,cV.at (j:=4) rfl,_,ai.at (j:=1) rfl,?_⟩;refine κ.use (ahU cV.k8 a.v) ?_;rintro _ aa υ;cases he:fS m.R a.v with
  |none=>
   rw[he]at ik υ;obtain⟨rfl,ad⟩:=υ
   try dsimp only[bH]
   exact jt (λh=>by cases h) λh=>Bs (aX.ex ad) (p7.ex ad) h ik
  |some e=>
   rw[he]at ik υ;obtain⟨rfl,aQ⟩:=υ
   try dsimp only[bH]
   obtain⟨vx,cd⟩:=cV.Lt aQ;have bh:=aX.il (e9.il b4 vx cd λi o=>.inl o);have r4:=gU cd (λi o=>(cV.hL o).1) p7 (by decide);have bo:=gU cd (λi o=>(cV.hL o).1) ai (by decide);refine jt (λ_=>?_) λh=>absurd rfl h
   try dsimp only[bX]
   refine⟨_,bo.at (j:=1) rfl,?_⟩;have bg:=eh.wM;have key:=KB bh.is ⟨2,a.v,0,0,0,0⟩ (by have:=af.dl;dsimp only;omega);dsimp only at key;rw[bg]at key;refine κ.use key ?_;rintro _ bm ⟨rfl,bb,hp⟩
   try dsimp only[bX]
   rw[ik]at dF;exact dF bm bb (bh.il hp) (Ic (i:=0) (hp.dA bh.is r4 (by decide))) rfl
 ·have hk:a.k=3:=by simpa using hk
  have ik:=akD (m:=m) hk;obtain⟨q,cZ,dp,c0,cV,b4⟩:=aX.is;refine⟨_,cV.at (j:=4) rfl,_,ai.at (j:=1) rfl,?_⟩;refine κ.use (aiL cV.k8 a.v) ?_;rintro _ aa υ;cases he:fS m.R a.v with
  |none=>
   rw[he]at ik υ;obtain⟨rfl,ad⟩:=υ
   try dsimp only[bX,cC,cD,bk,bH]
   try simp only[dv]
   refine(p7.ex ad).da (j:=2) (v:=.int .i64 0) (by omega) rfl λaz cz oO=>?_;exact jt (λh=>by cases h) λh=>Bs ((aX.ex ad).put (p7.ex ad) cz) oO h ik
  |some e=>
   rw[he]at ik υ;dsimp only at ik υ;cases k0:lf m.R with
   |none=>
    rw[k0]at ik υ;obtain⟨rfl,ad⟩:=υ
    try dsimp only[bX,cC,cD,bk,bH]
    try simp only[dv]
    refine(p7.ex ad).da (j:=2) (v:=.int .i64 0) (by omega) rfl λaz cz oO=>?_;exact jt (λh=>by cases h) λh=>Bs ((aX.ex ad).put (p7.ex ad) cz) oO h ik
   |some i=>
    rw[k0]at ik υ;obtain⟨rfl,aQ⟩:=υ
    try dsimp only[bX,cC,cD,bk,bH]
    try simp only[dv]
    obtain⟨vx,cd⟩:=cV.Lt aQ;have bh:=aX.il (e9.il b4 vx cd λi o=>.inl o);have r4:=gU cd (λi o=>(cV.hL o).1) p7 (by decide);have bo:=gU cd (λi o=>(cV.hL o).1) ai (by decide);refine r4.da (j:=2) (v:=.int .i64 i) (by omega) rfl λaz cz oO=>?_;have eg:=bh.put r4 cz;have cx:=bo.aH cz λx I o=>(bo.typed I).1.ne (o▸(r4.typed rfl).1) (by decide) rfl;refine jt (λ_=>?_) λh=>absurd rfl h
    try dsimp only[bX]
    have eg:=eg.ex (η.drew az);have oO:=oO.ex (η.drew az);have cx:=cx.ex (η.drew az);generalize az.drew=aE at eg oO cx⊢
    try simp only[dv]
    refine⟨_,cx.at (j:=1) rfl,_,oO.at (j:=2) rfl,?_⟩;have bg:=eh.wM;have key:=KB eg.is ⟨3,a.v,i,0,0,0⟩ (by have:=af.dl;dsimp only;omega);dsimp only at key;rw[bg]at key;refine κ.use key ?_;rintro _ bm ⟨rfl,bb,hp⟩
    try dsimp only[bX]
    rw[ik]at dF;exact dF bm bb (eg.il hp) (Ic (hp.dA eg.is oO (by decide))) rfl
 ·have hk:a.k=4:=by simpa using hk
  refine⟨(qE a p n c).toArray,rfl,ρ.cells,?_⟩;refine Ib ab.is o a.v a.b a.k a.s p n c (λbs w' q aT x ha bg=>?_) λe w' x he bg=>?_
  ·try dsimp only[dY]
   obtain⟨e,he,aai,ej,amR⟩:=bg;have ik:eS m a=(m,{hd with bs:=bs}):=by rw[Zf hk,he];dsimp only;rw[aM (by omega),amR];cases(e.2.2[a.b.toNat]?).join<;>rfl
   rw[ik]at dF;have r4:=EN.ex x;refine r4.da (j:=3) (by omega) rfl λaz k cx=>?_;exact dF az _ ((ab.ex x).put r4 k) (ar4 cx (ha.aH k λx I o=>(ha.typed I).1.ne (o▸(r4.typed rfl).1) (by decide) rfl)) rfl
  ·refine Bs (ab.ex x) (EN.ex x) he ?_;rw[Zf hk];rcases bg with⟨h1,rfl⟩|⟨cO,h1,ι,rfl⟩
   ·rw[h1]
   ·rw[h1];dsimp only;rw[aS ι]
 ·have hk:a.k=5:=by simpa using hk
  refine⟨(qE a p n c).toArray,rfl,ρ.cells,?_⟩;have wX:=af.dl;have pb:=af.loose;refine av7 o (by omega) (by omega) ab.is a (e6.ex ζ) af.bytes hk (λw' bb hp υ=>?_) λe w' x he bg=>Bs (ab.ex x) (EN.ex x) he bg
  try dsimp only[bX]
  refine dF w' bb (ab.il hp) ?_ (by rw[υ];rfl);rw[υ];exact Ic (i:=0) (hp.dA ab.is EN (by decide))
 ·have hk:a.k=6:=by simpa using hk
  have ik:=akE (m:=m) hk;obtain⟨q,cZ,dp,c0,cV,b4⟩:=aX.is;refine⟨_,cV.at (j:=4) rfl,_,ai.at (j:=1) rfl,_,ai.at (j:=2) rfl,?_⟩;refine κ.use (XB cV.k8 ep a.v a.b none trivial (r:=0) (m:=0) λx h=>by cases h) ?_;rintro _ aa ⟨rfl,G4,Tj⟩
  try dsimp only[bH]
  by_cases mM:AJ m.R a.v a.b=0
  ·have aQ:=Tj mM;rw[mM];have ik:eS m a=(oK {m with R:=jv m.R a.v.toNat a.b.toNat none} ⟨5,a.v,0,a.b,0,0⟩,hd):=by
    unfold AJ at mM;rw[ik];cases he:fS m.R a.v with
    |none=>rw[he]at mM;cases mM
    |some e=>
     rw[he]at mM;dsimp only at mM⊢;by_cases ι:e.1=2
     ·rw[aS ι]at mM;cases mM
     rw[aM ι]at mM⊢;by_cases ψ:0<=a.b/\a.b<e.2.1
     ·rw[aM (by omega)]
     ·rw[aM ψ]at mM;cases mM
   obtain⟨vx,cd⟩:=cV.Lt aQ;have bh:=aX.il (e9.il b4 vx cd λi o=>.inl o);have r4:=gU cd (λi o=>(cV.hL o).1) p7 (by decide);have bo:=gU cd (λi o=>(cV.hL o).1) ai (by decide);refine jt (λ_=>?_) λh=>absurd rfl h
   try dsimp only[bX]
   refine⟨_,bo.at (j:=1) rfl,_,bo.at (j:=2) rfl,?_⟩;have bg:=eh.wM;have key:=KB bh.is ⟨5,a.v,0,a.b,0,0⟩ (by have:=af.dl;dsimp only;omega);dsimp only at key;rw[bg]at key;refine κ.use key ?_;rintro _ bm ⟨rfl,bb,hp⟩
   try dsimp only[bX]
   rw[ik]at dF;exact dF bm bb (bh.il hp) (Ic (i:=0) (hp.dA bh.is r4 (by decide))) rfl
  ·refine jt (λh=>absurd h mM) λh=>Bs (aX.ex (G4 h)) (p7.ex (G4 h)) h ?_;unfold AJ at mM⊢;rw[ik];cases he:fS m.R a.v with
   |none=>rfl
   |some e=>
    rw[he]at mM;dsimp only at mM⊢;by_cases ι:e.1=2
    ·rw[aS ι,aS ι]
    rw[aM ι]at mM;rw[aM ι,aM ι];by_cases ψ:0<=a.b/\a.b<e.2.1
    ·rw[aS ψ]at mM;exact absurd rfl mM
    ·rw[aM ψ,aS (by omega)]
 ·have hk:a.k=7:=by simpa using hk
  refine κ.use (atf ab.is o af.seq af.loose af.dl) ?_;rintro _ w' ⟨rfl,bb,hp⟩
  try dsimp only[bX]
  rw[akF hk]at dF;exact dF w' bb (ab.il hp) (Ic (i:=0) (hp.dA ab.is EN (by decide))) rfl
 ·have hk:a.k=8:=by simpa using hk
  refine κ.use (Mr ab.is o.ok) ?_;rintro _ cn ⟨ps,rfl,bV,c7⟩
  try dsimp only[hx]
  refine κ.use (Xq bV.at ep) ?_;rintro _ dX ⟨rfl,j7⟩
  try dsimp only[bX,cC,cD,bk,bH]
  have X:=(ζ.trans c7).trans j7;obtain⟨q,cZ,dp,c0,cV,b4⟩:=aD.ex X
  try simp only[dv]
  refine⟨(two m.s m.k).toArray,rfl,cV.vT,?_⟩;refine κ.use (Qx m.s m.k o.gx dX) ?_;rintro _ eR ⟨rfl,jm⟩
  try dsimp only[bX,cC,cD,bk,bH]
  try simp only[dv]
  rw[akG hk]at dF;exact acv (((ab.ex c7).ex j7).ex jm) (((EN.ex c7).ex j7).ex jm) _ _ λw' hp υ=>dF w' _ hp υ rfl
 ·have hk:a.k=9:=by simpa using hk
  obtain⟨q,cZ,dp,c0,cV,b4⟩:=aX.is;refine⟨_,cV.at (j:=4) rfl,_,ai.at (j:=1) rfl,?_,?_⟩
  ·refine κ.use (A4 cV.k8 a.v) ?_;rintro _ aa ⟨rfl,ad⟩
   try dsimp only[bX,cC,cD,bk,bH,hx,ie]
   refine GO (cV.ex ad).k8 (η.refl aa) a.v λθ W va Ap=>?_;exact Zg o aD ((aX.ex ad).ex va) Ap ((p7.ex ad).ex va) hk dF e5
  ·rintro aF ba rfl rfl;have bo:=μ.new (w:=τ) (two 0 0) jl;have aI:=η.alloc τ (.cells (two 0 0).toArray jl);have pR:τ.alloc (.cells #[.int .i64 0,.int .i64 0] jl)=τ.alloc (.cells (two 0 0).toArray jl):=rfl;rw[pR];generalize τ.alloc (.cells (two 0 0).toArray jl)=ba at bo aI⊢;refine⟨(ai.ex aI).at (j:=1) rfl,(cV.ex aI).at (j:=4) rfl,?_⟩;refine κ.use (A4 (cV.ex aI).k8 a.v) ?_;rintro _ bm ⟨rfl,aV⟩
   try dsimp only[bX,cC,cD,bk,bH,hx,ie]
   refine aW rfl ((bo.ex aV).put (cs:=two (ig m.R a.v).1 (ig m.R a.v).2.1) rfl mW λcf iL jh=>?_);have sC:=(aI.trans aV).then iL λi o=>by omega
   exact Zg o aD (aX.ex sC) jh (p7.ex sC) hk dF e5
 ·exfalso
  have:=af.kind
  simp only[beq_eq_false_iff_ne]at vC ni Tt ux yv anB anC zU Tu;omega
end
open Go
theorem agB(a b v:Value):(#[a,b]++((Array.replicate 12 undef).setIfInBounds 1 v).setIfInBounds 0 v:ag)=#[a,b,v,v,undef,undef,undef,undef,undef,undef,undef,undef,undef,undef]:=rfl
theorem avg(v:Value)(w:World):(Instr.typeAssert (.iface 104 v) 20 104 false).run prog w=.ok v w:=by simp[Instr.typeAssert,go_sem]
theorem avj(e:Int)(w:World):(Instr.field 104 (.agg #[.int .i64 e]) 0).run prog w=.ok (.int .i64 e) w:=by simp[Instr.field,go_sem,part,typeInfo];rfl
theorem ajS(δ θ pp:Nat)(e:Int)(w:World)(π:(w.cell? (⟨θ,0,none⟩:Addr)).isSome=true)(aL:w.frozen? (⟨θ,0,none⟩:Addr)=false)(hp:w.cell? (⟨δ,0,none⟩:Addr)=some (.pointer (some ⟨pp,0,none⟩)))(ca:δ≠θ)(Hh:pp≠θ)
  (af:(w.cell? (⟨pp,12,none⟩:Addr)).isSome=true)(ana:w.frozen? (⟨pp,12,none⟩:Addr)=false):
  CallsD prog 47 #[.pointer (some ⟨θ,0,none⟩),.pointer (some ⟨δ,0,none⟩)] (.panicking (yh e)) w λcO LR w'=>
   cO=.returned (.tuple #[])/\settle LR=.returning/\w'=(w.setCell (⟨θ,0,none⟩:Addr) (.int .i64 e)).setCell (⟨pp,12,none⟩:Addr) (.bool (e==10)):=by
 obtain⟨x,I⟩:=H0.1 π;refine callsD_of_wpS func47 rfl λY1 cs hu=>?_;apply wpS_seq;apply wpS_region;simp[wpOpsS,go_sem,recoverD,hu,yh,ntmps47,Exit.thenS];rw[agB];apply wpS_seq;apply wpS_region;simp[wpOpsS,go_sem,Exit.thenS];refine wpS_cond (t:=true) (by simp[Act.eval,Ws]) ?_;simp only[oR];apply wpS_seq;apply wpS_region;simp[wpOpsS,go_sem,Exit.thenS,Ws,avg,avj,I,aL];have h1:(w.setCell (⟨θ,0,none⟩:Addr) (.int .i64 e)).cell? (⟨δ,0,none⟩:Addr)=some (.pointer (some ⟨pp,0,none⟩)):=by rw[World.cell?_setCell_other _ (⟨θ,0,none⟩:Addr) (⟨δ,0,none⟩:Addr) _ λh=>ca (by cases h;rfl)];exact hp
 have ι:(w.setCell (⟨θ,0,none⟩:Addr) (.int .i64 e)).cell? (⟨θ,0,none⟩:Addr)=some (.int .i64 e):=World.cell?_setCell_same' _ _ _ π;have aG:(w.setCell (⟨θ,0,none⟩:Addr) (.int .i64 e)).cell? (⟨pp,12,none⟩:Addr)=w.cell? (⟨pp,12,none⟩:Addr):=World.cell?_setCell_other _ (⟨θ,0,none⟩:Addr) (⟨pp,12,none⟩:Addr) _ (λh=>by cases h);obtain⟨y,ah⟩:=H0.1 af
 try rw[ah]at aG
 have cq:(w.setCell (⟨θ,0,none⟩:Addr) (.int .i64 e)).frozen? (⟨pp,12,none⟩:Addr)=false:=by rw[World.frozen?_setCell];exact ana
 generalize w.setCell (⟨θ,0,none⟩:Addr) (.int .i64 e)=γ at h1 ι aG cq⊢;apply wpS_region;simp[wpOpsS,go_sem,h1,ι,aG,cq];refine⟨rfl,_,rfl,.tuple #[],?_,rfl,rfl,rfl⟩;simp[results,results47,go_sem]
theorem ajR(δ θ:Nat)(w:World):
  CallsD prog 47 #[.pointer (some ⟨θ,0,none⟩),.pointer (some ⟨δ,0,none⟩)] .returning w λe LR w'=>e=.returned (.tuple #[])/\LR=.returning/\w'=w:=by
 refine callsD_of_wpS func47 rfl λY1 cs hu=>?_;apply wpS_seq;apply wpS_region;simp[wpOpsS,go_sem,recoverD,hu,ntmps47,Exit.thenS];rw[agB];apply wpS_seq;apply wpS_region;simp[wpOpsS,go_sem,Exit.thenS];refine wpS_cond (t:=false) (by simp[Act.eval]) ?_;simp only[vV,qW];refine wpS_of_wp (wp_skip ?_);cases Y1
 simp_all[bodyPostS,results,results47,go_sem]
def yL(P:Program)(ops:Array Oper)(Q:Exit->Act->ao):List Nat->Act->ao
 |[],a,w=>Q .normal a w
 |i::rest,a,w=>match ops[i]?with
  |none=>yL P ops Q rest a w
  |some ε=>if Region.wanted ε (yielded ops a.tmps)=true then ε.upon P a (yL P ops Q rest) Q ((execOp a.eval ε).run P w)else yL P ops Q rest (a.put ε.dst undef) w
theorem Cv{P:Program}{ops:Array Oper}{Q:Exit->Act->ao}:∀(l:List Nat)(a:Act)(w:World),yL P ops Q l a w->wpOps P ops Q l a w
 |[],a,w,h=>h
 |i::rest,a,w,h=>by
  unfold yL at h;unfold wpOps;cases aB:ops[i]?with
  |none=>rw[aB]at h;exact Cv rest a w h
  |some ε=>
   rw[aB]at h;dsimp only at h⊢;by_cases hw:Region.wanted ε (yielded ops a.tmps)=true
   ·rw[aS hw]at h;simp only[hw,oR];exact .inl (Oper.wp_mono (λa w h=>Cv rest a w h) h)
   ·rw[aM hw]at h;simp only[hw,qW];exact Cv rest _ w h
theorem agH{w:World}{pp F:Nat}{first cap:ag}{R:aq}(am7:w.cell? (⟨pp,12,none⟩:Addr)=some (.bool false))(c4:∀γ:World,(callFunc F (first++cap)).run prog γ=.ok (.enter F (first++cap)) γ)
  (S1:∀γ δ θ,η w γ->μ γ w.heap.size AS 1 (some ⟨δ,0,none⟩) 1 1 [.pointer (some ⟨pp,0,none⟩)]->μ γ w.heap.size Cr 1 (some ⟨θ,0,none⟩) 1 1 [.int .i64 0]->δ≠θ->
   κ prog F (first++cap) γ (λv τ=>(τ.cell? (⟨θ,0,none⟩:Addr)).isSome=true/\τ.frozen? (⟨θ,0,none⟩:Addr)=false/\R (.returned (.int .i64 0)) (τ.setCell (⟨θ,0,none⟩:Addr) (.int .i64 0)))
    λcQ τ=>∃e,cQ=yh e/\(τ.cell? (⟨θ,0,none⟩:Addr)).isSome=true/\τ.frozen? (⟨θ,0,none⟩:Addr)=false/\τ.cell? (⟨δ,0,none⟩:Addr)=some (.pointer (some ⟨pp,0,none⟩))/\pp≠θ/\(τ.cell? (⟨pp,12,none⟩:Addr)).isSome=true/\τ.frozen? (⟨pp,12,none⟩:Addr)=false/\
     R (.returned (.int .i64 e)) ((τ.setCell (⟨θ,0,none⟩:Addr) (.int .i64 e)).setCell (⟨pp,12,none⟩:Addr) (.bool (e==10)))):
  Calls prog 30 #[.pointer (some ⟨pp,0,none⟩),.func (.func F) first cap] w R:=by
 refine calls_of_wp_defers func30 rfl ?_;have akZ:(#[.pointer (some ⟨pp,0,none⟩),.func (.func F) first cap]++Array.replicate (f30.ntmps-(#[.pointer (some ⟨pp,0,none⟩),.func (.func F) first cap]:ag).size) undef:ag)=#[.pointer (some ⟨pp,0,none⟩),.func (.func F) first cap,undef,undef,undef,undef,undef,undef,undef,undef,undef,undef]:=rfl;rw[akZ];apply wp_seq;apply wp_region;apply Cv;simp[yL,Oper.upon,go_sem,Exit.then];have ζ:=η.alloc w (.cells #[.pointer (some ⟨pp,0,none⟩)] 24);have ρ:μ (w.alloc (.cells #[.pointer (some ⟨pp,0,none⟩)] 24)) w.heap.size AS 1 (some ⟨w.heap.size,0,none⟩) 1 1 [.pointer (some ⟨pp,0,none⟩)]:=μ.new _ _;have Ed:(w.alloc (.cells #[.pointer (some ⟨pp,0,none⟩)] 24)).heap.size=w.heap.size+1:=by simp
 generalize w.alloc (.cells #[.pointer (some ⟨pp,0,none⟩)] 24)=γ at ζ ρ Ed⊢;have σ:=η.alloc γ (.cells #[.int .i64 0] 33);have ai:μ (γ.alloc (.cells #[.int .i64 0] 33)) γ.heap.size Cr 1 (some ⟨γ.heap.size,0,none⟩) 1 1 [.int .i64 0]:=μ.new _ _;rw[Ed]at ai;have ρ:=ρ.ex σ;generalize γ.alloc (.cells #[.int .i64 0] 33)=τ at σ ρ ai⊢;have X:=ζ.trans σ;have hp:=X.cell am7 λh=>h;have ej:=ρ.at (j:=0) rfl;have eu:=ai.at (j:=0) rfl;have ca:w.heap.size≠w.heap.size+1:=by omega
 have key:=S1 τ w.heap.size (w.heap.size+1) X ρ (ai.lower (by omega)) ca;generalize w.heap.size+1=θ at key ai eu ca⊢;generalize w.heap.size=δ at key ρ ai ej ca⊢;apply wp_seq;apply wp_seq;apply wp_region;apply Cv;simp[yL,Oper.upon,go_sem,Exit.then,ej,hp];refine wp_cond (t:=false) (by simp[Act.eval]) ?_;simp only[vV,qW];refine wp_skip ?_;show Code.wp _ _ _ _ _;apply wp_seq;apply wp_region;apply Cv;have anN:∀(fn:Fn)(first cap:ag)(w:World),(Instr.makeFunc fn first cap).run prog w=.ok (.func fn first cap) w:=λ_ _ _ _=>rfl;simp[yL,Oper.upon,go_sem,Exit.then,anN];apply wp_seq;apply wp_region;apply Cv;simp[yL,Oper.upon,go_sem,Exit.then,c4];refine Calls.mono key λiI aa h=>?_;cases iI with
 |outgrown=>exact h.elim
 |returned v=>
  obtain⟨c1,c2,ij⟩:=h;obtain⟨y,ah⟩:=H0.1 c1;have bI:(aa.setCell (⟨θ,0,none⟩:Addr) (.int .i64 0)).cell? (⟨θ,0,none⟩:Addr)=some (.int .i64 0):=World.cell?_setCell_same' _ _ _ c1;dsimp only;apply wp_seq;apply wp_region;apply Cv;simp[yL,Oper.upon,go_sem,Exit.then,ah,c2];generalize aa.setCell (⟨θ,0,none⟩:Addr) (.int .i64 0)=az at ij bI⊢;refine wp_ret ?_;refine leaves_cons (f:=47) (args:=#[.pointer (some ⟨θ,0,none⟩),.pointer (some ⟨δ,0,none⟩)]) (by simp) (by simp[go_sem]) ?_;refine(ajR δ θ _).mono ?_;rintro e LR hN ⟨rfl,rfl,rfl⟩;refine⟨_,?_,ij⟩;simp[results,results30,go_sem,bI]
 |panicked cQ=>
  obtain⟨e,rfl,c1,c2,bI,hs,iC,rD,ij⟩:=h;have nb:((aa.setCell (⟨θ,0,none⟩:Addr) (.int .i64 e)).setCell (⟨pp,12,none⟩:Addr) (.bool (e==10))).cell? (⟨θ,0,none⟩:Addr)=some (.int .i64 e):=by rw[World.cell?_setCell_other _ (⟨pp,12,none⟩:Addr) (⟨θ,0,none⟩:Addr) _ λh=>by cases h];exact World.cell?_setCell_same' _ _ _ c1
  dsimp only;refine leaves_cons (f:=47) (args:=#[.pointer (some ⟨θ,0,none⟩),.pointer (some ⟨δ,0,none⟩)]) (by simp) (by simp[go_sem]) ?_;refine(ajS δ θ pp e _ c1 c2 bI ca hs iC rD).mono ?_;rintro cO LR hN ⟨rfl,hu,rfl⟩;dsimp only;rw[hu];refine⟨_,?_,ij⟩;simp[results,results30,go_sem,nb]
theorem p2{c:Prop}[Decidable c]{r s:aR×gS}(h:r.2.e≠10)(k:s.2.e≠10):(if c then r else s).2.e≠10:=by
 by_cases π:c
 ·rw[aS π];exact h
 ·rw[aM π];exact k
theorem akJ{m:aR}{a:aR.Ask}:(eS m a).2.e≠10:=by
 have f4:(fail m 4).2.e≠10:=(by decide:(4:Int)≠10);have f5:(fail m 5).2.e≠10:=(by decide:(5:Int)≠10);have f6:(fail m 6).2.e≠10:=(by decide:(6:Int)≠10);have f7:(fail m 7).2.e≠10:=(by decide:(7:Int)≠10);have f8:(fail m 8).2.e≠10:=(by decide:(8:Int)≠10);have f9:(fail m 9).2.e≠10:=(by decide:(9:Int)≠10);have f12:(fail m 12).2.e≠10:=(by decide:(12:Int)≠10);have f0:(0:Int)≠10:=by decide
 unfold eS IL;refine p2 (p2 ?_ f5) (p2 ?_ (p2 ?_ (p2 ?_ (p2 ?_ (p2 ?_ (p2 f0 (p2 f0 ?_)))))))
 ·cases lf m.R with
  |none=>exact f7
  |some i=>exact f0
 ·cases fS m.R a.v with
  |none=>exact f4
  |some i=>exact f0
 ·cases fS m.R a.v with
  |none=>exact f4
  |some i=>cases lf m.R with
   |none=>exact f7
   |some i=>exact f0
 ·cases fS m.R a.v with
  |none=>exact f4
  |some e=>
   refine p2 f5 ?_;cases(e.2.2[a.b.toNat]?).join with
   |none=>exact f0
   |some x=>exact f0
 ·cases fS m.R a.v with
  |none=>exact f4
  |some e=>exact p2 f8 (p2 f5 (p2 f6 (p2 f9 (p2 f12 f0))))
 ·cases fS m.R a.v with
  |none=>exact f4
  |some e=>exact p2 f8 (p2 f5 f0)
 ·cases fS m.R a.v with
  |none=>exact f4
  |some i=>exact f0
theorem akL{m:aR}{a:aR.Ask}{e:Int}(h:eS m a=fail m e):e≠10:=by
 have:=@akJ m a
 rw[h]at this;exact this
section
variable{w:World}{pp pd:Nat}{m:aR}{xs:List (b9.cP×Int)}{al:Int}{D:bf}{gu:Nat}
theorem l7.dA{m0:aR}{Mf:List (b9.cP×Int)}{LN:Int}{w':World}{bb:bf}(h:l7 w D gu w' pp pd m xs al bb)(aD:ho w pp pd m0 Mf LN D)(aP:Typed w dm gu){B:Nat}{e:TypeId}{sz:Nat}{p:J}{n c:Nat}{vs:aU}(ε:μ w B e sz p n c vs)(ax:e∉o5)(υ:e≠dm):μ w' B e sz p n c vs:=
 ε.aH h.aH λx I o=>by
  rcases o with o|o
  ·exact(aD.hL o).1.off (ε.typed I).1 ax
  ·exact(o▸(ε.typed I).1:Typed w e gu).ne aP υ rfl
theorem l7.agE{w0:World}{dV:bf}{m0:aR}{Mf:List (b9.cP×Int)}{LN:Int}{w':World}{bb:bf}(h:l7 w D gu w' pp pd m xs al bb)(p:dL w0 dV w pp pd m0 Mf LN D)(ψ:w0.heap.size<=gu):dL w0 dV w' pp pd m xs al bb:=
 ⟨h.is,Kp.trans p.aH h.aH (λ_ _ h=>h) (λi o af=>by
  rcases af with af|rfl
  ·rcases p.sub i af with h1|h1
   ·exact h1
   ·omega
  ·omega),λi o=>by
  rcases h.sub i o with h1|h1
  ·exact p.sub i h1
  ·exact .inr (fY p.aH.size h1)⟩
def vi(w:World)(D:bf)(v:Value)(al:Int)(r:gS):Prop:=∃dz cU dc dD dH dJ,v=.agg #[.int .i64 al,.int .i64 r.e,.int .i64 r.id,.slice dz cU dc,.slice dD dH dJ]/\μ w 0 dk 1 dz cU dc (bj r.bs)/\μ w 0 cj 1 dD dH dJ (bw.cI r.qR)/\∀x,dD=some x->¬D x.block
theorem sf{a b c:Int}{p q:J}{n k eX k':Nat}:∀y∈[Value.int .i64 a,.int .i64 b,.int .i64 c,.slice p n k,.slice q eX k'],y.oneCell'=true:=by intro y ah;simp only[fA,n1,oS]at ah;rcases ah with rfl|rfl|rfl|rfl|rfl<;>rfl
def jj(t:Int)(r:gS)(dz:J)(cU dc:Nat)(dD:J)(dH dJ:Nat):aU:=[.int .i64 t,.int .i64 r.e,.int .i64 r.id,.slice dz cU dc,.slice dD dH dJ]
theorem ad5{w0:World}{dV:bf}{x:b9.cP×Int}{W:World}{eU:bf}(h:dL w0 dV W pp pd m (x::xs) al eU){δ θ ae nG gD:Nat}{z:aU}(oC:w0.heap.size<=θ)(sX:w0.heap.size<=ae)(ca:θ≠ae)(ρ:μ W nG AS 1 (some ⟨δ,0,none⟩) 1 1 [.pointer (some ⟨pp,0,none⟩)])(ai:μ W gD dm 5 (some ⟨θ,0,none⟩) 1 1 z){r:gS}{t0 e:Int}(υ:CG W (λi=>eU i\/i<w0.heap.size) ae t0 r)(Kc:r.e=e){R:aq}
  (dF:∀w' bb v,dL w0 dV w' pp pd m (if r.e=12 then x::xs else xs) al bb->vi w' (λi=>bb i\/i<w0.heap.size) v x.2 r->R (.returned (.tuple #[v,.bool true])) w'):
  qU.a1 δ θ x.2 e ae W R:=by
 subst Kc;obtain⟨dz,cU,dc,dD,dH,dJ,⟨cx,mr,on⟩,nk⟩:=υ;unfold qU.a1;refine cx.da (j:=0) (by omega) rfl λdn rS xm=>?_;have t4:=(cx.typed rfl).1;have r7:=h.loc rS (λaf=>(h.is.hL af).1.off t4 (by decide)) sX t4 (by decide) (by decide);have ρ:=ρ.aH rS λy ah o=>(ρ.typed ah).1.ne (o▸t4) (by decide) rfl;have ai:=ai.aH rS λy ah o=>by cases ah;exact ca o
 have mr:=mr.aH rS λy ah o=>(mr.typed ah).1.ne (o▸t4) (by decide) rfl;have on:=on.aH rS λy ah o=>(on.typed ah).1.ne (o▸t4) (by decide) rfl
 have wZ:∀(wB:World)(gj:bf),dL w0 dV wB pp pd m (if r.e=12 then x::xs else xs) al gj->μ wB 0 dm 5 (some ⟨ae,0,none⟩) 1 1 (jj x.2 r dz cU dc dD dH dJ)->μ wB gD dm 5 (some ⟨θ,0,none⟩) 1 1 z->μ wB 0 dk 1 dz cU dc (bj r.bs)->μ wB 0 cj 1 dD dH dJ (bw.cI r.qR)->(∀x,dD=some x->¬(gj x.block\/x.block<w0.heap.size))->
   ∃(bZ:ag),bZ.size=5/\aw wB (⟨ae,0,none⟩:Addr) bZ.toList/\(ο (decide (bZ.size=5)) (hr wB (⟨θ,0,none⟩:Addr) bZ.toList/\∀eR,eR=wB.setCells (⟨θ,0,none⟩:Addr).block (⟨θ,0,none⟩:Addr).off bZ.toList->(∃(bW:ag),bW.size=5/\aw eR (⟨θ,0,none⟩:Addr) bW.toList/\(R (.returned (Value.tuple #[(Value.agg bW),(Value.bool true)])) eR)))):=by
  intro wB gj il cx ai mr on nk;refine⟨(jj x.2 r dz cU dc dD dH dJ).toArray,rfl,cx.cells,aW rfl (ai.put rfl sf λeR xa uG=>⟨_,rfl,uG.cells,?_⟩)⟩;have t2:=(ai.typed rfl).1;exact dF eR gj _ (il.loc xa (λaf=>(il.is.hL af).1.off t2 (by decide)) oC t2 (by decide) (by decide)) ⟨dz,cU,dc,dD,dH,dJ,rfl,mr.aH xa λy ah o=>(mr.typed ah).1.ne (o▸t2) (by decide) rfl,on.aH xa λy ah o=>(on.typed ah).1.ne (o▸t2) (by decide) rfl,nk⟩
 by_cases he:r.e=12
 ·rw[aS he]at wZ;rw[cond_neg (by rw[he];rfl)];exact wZ dn _ r7 xm ai mr on nk
 ·rw[aM he]at wZ;rw[cond_pos (by simpa using he)];refine⟨_,ρ.at (j:=0) rfl,?_⟩
  try dsimp only[bk]
  obtain⟨q,cZ,dp,c0,cV,b4⟩:=r7.at_;refine⟨_,cV.at (j:=0) rfl,?_⟩;refine κ.use (b9.ahX cV.gate) ?_;rintro _ dX ⟨rfl,aQ⟩
  try dsimp only[bH]
  obtain⟨rj,Nr,oG,asn⟩:=cV.aew aQ;have key:dL dn eU dX pp pd m xs al (jK pp q rj dp c0):=e9.il b4 Nr oG asn;have c4:∀i,jK pp q cZ dp c0 i->hv dn o5 i:=λi o=>(cV.hL o).1;have Af:=aQ;obtain⟨_,_,apd,_⟩:=Af;have anr:=Jy cV.gate;refine wZ dX _ (r7.trans key) (gU oG c4 xm (by decide)) (gU oG c4 ai (by decide)) (gU oG c4 mr (by decide)) (gU apd anr on (by decide)) λy ah af=>?_;rcases af with af|af
  ·rcases key.sub _ af with h1|h1
   ·exact nk y ah (.inl h1)
   ·have:=(on.typed ah).2.2
    omega
  ·exact nk y ah (.inr af)
def ef(r:b9.cP):aR.Ask:=⟨r.k,r.v,r.b,r.s,r.bs⟩
theorem asz{x:b9.cP×Int}(h:ho w pp pd m (x::xs) al D)(af:QF m (ef x.1)){R:aq}
  (dF:∀w' bb v,dL w D w' pp pd (eS m (ef x.1)).1 (if(eS m (ef x.1)).2.e=12 then x::xs else xs) al bb->vi w' (λi=>bb i\/i<w.heap.size) v x.2 (eS m (ef x.1)).2->R (.returned (.tuple #[v,.bool true])) w'):qU.C (some ⟨pp,0,none⟩) w R:=by
 obtain⟨q,cZ,dp,c0,cV,b4⟩:=id h;apply qU.ok;unfold qU.main;rintro δ γ ej rfl;have ρ:=μ.new (w:=w) [.pointer (some ⟨pp,0,none⟩)] AS;rw[<-ej]at ρ;have ζ:=η.alloc w (.cells #[.pointer (some ⟨pp,0,none⟩)] AS);generalize w.alloc (.cells #[.pointer (some ⟨pp,0,none⟩)] AS)=γ at ρ ζ⊢;rintro θ τ eu rfl;have ai:=μ.new (w:=γ) (fD 0 ct ct) dm;rw[<-eu]at ai;have σ:=η.alloc γ (.cells (fD 0 ct ct).toArray dm);have bE:γ.alloc (.cells #[.int .i64 0,.int .i64 0,.int .i64 0,.slice none 0 0,.slice none 0 0] dm)=γ.alloc (.cells (fD 0 ct ct).toArray dm):=rfl;rw[bE];generalize γ.alloc (.cells (fD 0 ct ct).toArray dm)=τ at ai σ⊢;have ρ:=ρ.ex σ;have e4:=ζ.trans σ;refine⟨_,ρ.at (j:=0) rfl,?_⟩
 try dsimp only[bk]
 refine⟨_,(cV.ex e4).at (j:=0) rfl,?_⟩;refine κ.use (b9.Xe (cV.ex e4).gate) ?_;rintro _ aa ⟨bT,aT,rfl,ad,of⟩;unfold b9.cP.cells
 try dsimp only[bX,cC,cD,mK,bk,bH,hx,ie]
 have gJ:=e4.trans ad;rintro aF aE jd rfl;have bo:=μ.new (w:=aa) b9.lF ff;rw[<-jd]at bo;have ak:=η.alloc aa (.cells b9.lF.toArray ff);have h3:aa.alloc (.cells #[.int .i64 0,.int .i64 0,.int .i64 0,.int .i64 0,.slice none 0 0] ff)=aa.alloc (.cells b9.lF.toArray ff):=rfl;rw[h3];generalize aa.alloc (.cells b9.lF.toArray ff)=aE at bo ak⊢;have ρ:=(ρ.ex ad).ex ak;have ai:=(ai.ex ad).ex ak;have of:=of.ex ak;refine aW rfl (bo.put (cs:=qE (ef x.1) bT x.1.n aT) rfl b9.GS λba ec bS=>?_);have t3:=(bo.typed rfl).1;have ks:η w ba:=(gJ.trans ak).then ec λi o=>by have:=gJ.size;omega
 have ρ:=ρ.aH ec λy ah o=>(ρ.typed ah).1.ne (o▸t3) (by decide) rfl;have ai:=ai.aH ec λy ah o=>(ai.typed ah).1.ne (o▸t3) (by decide) rfl;have of:=of.aH ec λy ah o=>(of.typed ah).1.ne (o▸t3) (by decide) rfl;rw[cond_neg (by rfl)];have anH:θ<ba.heap.size:=(ai.typed rfl).2.2;rintro ae b5 mg rfl;have cx:=μ.new (w:=ba) (fD 0 ct ct) dm;rw[<-mg]at cx;have cg:=η.alloc ba (.cells (fD 0 ct ct).toArray dm);have zJ:ba.alloc (.cells #[.int .i64 0,.int .i64 0,.int .i64 0,.slice none 0 0,.slice none 0 0] dm)=ba.alloc (.cells (fD 0 ct ct).toArray dm):=rfl;rw[zJ];generalize ba.alloc (.cells (fD 0 ct ct).toArray dm)=b5 at cx cg⊢;have ρ:=ρ.ex cg;have ai:=ai.ex cg;have bS:=bS.ex cg;have of:=of.ex cg;have DS:θ≠ae:=by omega
 refine cx.put (cs:=fD 0 ct ct) rfl sf λcf iL jh=>?_;have t4:=(cx.typed rfl).1;have sC:η w cf:=(ks.trans cg).then iL λi o=>by have:=ks.size;omega
 have ρ:=ρ.aH iL λy ah o=>(ρ.typed ah).1.ne (o▸t4) (by decide) rfl;have ai:=ai.aH iL λy ah o=>by cases ah;exact DS o
 have bS:=bS.aH iL λy ah o=>(bS.typed ah).1.ne (o▸t4) (by decide) rfl;have of:=of.aH iL λy ah o=>(of.typed ah).1.ne (o▸t4) (by decide) rfl;have oC:w.heap.size<=θ:=by have:=ζ.size;omega
 have sX:w.heap.size<=ae:=by have:=ks.size;omega
 refine⟨_,ρ.at (j:=0) rfl,?_⟩;clear bo cx;refine agH ((cV.ex sC).at (j:=12) rfl) (λγ=>by simp[go_sem]) λAX c1 c2 AZ acM EK rI=>?_;have X0:=sC.trans AZ;have ρ:=ρ.ex AZ;have ai:=ai.ex AZ;have bS:=bS.ex AZ;have jh:=jh.ex AZ;have of:=of.ex AZ;have t9:=(jh.typed rfl).1;have Vu:=(dL.start h).ex X0;have fb:=Vu.is;show E2.C δ aF ae AX _;apply E2.ok;unfold E2.main;refine⟨_,ρ.at (j:=0) rfl,(qE (ef x.1) bT x.1.n aT).toArray,rfl,bS.cells,?_⟩;refine akM af fb of jh (λzj bb hp υ he=>?_) λe zj bb cs hp υ he bg=>?_
 ·try dsimp only[bH,bX]
  have yK:=hp.dA fb t9 EK (by decide) (by decide);have HH:=hp.dA fb t9 ρ (by decide) (by decide);have HI:μ zj _ dm 5 (some ⟨θ,0,none⟩) 1 1 (fD 0 ct ct):=ai.aH hp.aH λy ah o=>by
   cases ah;rcases o with o|o
   ·exact(fb.hL o).1.off (ai.typed rfl).1 (by decide)
   ·exact DS o
  have Az:=hp.agE Vu sX;have S0:w.heap.size<=c2:=fY sC.size (EK.ge rfl).1;obtain⟨ar,a2,a3⟩:=yK.da (N:=λw'=>Kp zj w' (λi=>i=c2)/\μ w' _ Cr 1 (some ⟨c2,0,none⟩) 1 1 [.int .i64 0]) (j:=0) (v:=.int .i64 0) (by omega) rfl λ_ k ε=>⟨k,ε⟩;obtain⟨qP,UW⟩:=a3 _ rfl;refine⟨ar,a2,?_⟩;clear ar a2 a3;generalize zj.setCell (⟨c2,0,none⟩:Addr) (.int .i64 0)=L8 at qP UW⊢;have nw:=(yK.typed rfl).1;have OT:=Az.loc qP (λaf=>(Az.is.hL af).1.off nw (by decide)) S0 nw (by decide) (by decide)
  try dsimp only
  skip
  rw[cond_neg (by rfl)];obtain⟨dz,cU,dc,dD,dH,dJ,⟨cG,fM,iU⟩,qd⟩:=υ;refine ad5 OT oC sX DS (HH.aH qP λy ah o=>(HH.typed ah).1.ne (o▸nw) (by decide) rfl) (HI.aH qP λy ah o=>(HI.typed ah).1.ne (o▸nw) (by decide) rfl) ⟨dz,cU,dc,dD,dH,dJ,⟨cG.aH qP λy ah o=>(cG.typed ah).1.ne (o▸nw) (by decide) rfl,fM.aH qP λy ah o=>(fM.typed ah).1.ne (o▸nw) (by decide) rfl,iU.aH qP λy ah o=>(iU.typed ah).1.ne (o▸nw) (by decide) rfl⟩,λx I af=>qd x I (af.imp_right λh=>H5 h X0.size)⟩ he λw' bb v aJ υ=>?_;exact dF w' bb v aJ υ
 ·have acN:=hp.dA fb t9 acM (by decide) (by decide);have yK:=hp.dA fb t9 EK (by decide) (by decide);have HH:=hp.dA fb t9 ρ (by decide) (by decide);have HI:μ zj _ dm 5 (some ⟨θ,0,none⟩) 1 1 (fD 0 ct ct):=ai.aH hp.aH λy ah o=>by
   cases ah;rcases o with o|o
   ·exact(fb.hL o).1.off (ai.typed rfl).1 (by decide)
   ·exact DS o
  have Az:=hp.agE Vu sX;have S0:w.heap.size<=c2:=fY sC.size (EK.ge rfl).1;have nw:=(yK.typed rfl).1;obtain⟨oQ,rj,pC,tN,SL,awM⟩:=Az.at_;have an8:pp≠c2:=λh=>(SL.cell.typed rfl).1.ne (h▸nw) (by decide) rfl;have KN:=SL.put (N:=λ_=>True) 12 (by omega) (v:=.bool false) rfl λ_ _ _=>trivial;have Vg:=yK.da (N:=λ_=>True) (j:=0) (v:=.int .i64 0) (by omega) rfl λ_ _ _=>trivial;refine⟨e,rfl,Vg.1,Vg.2.1,acN.at (j:=0) rfl,an8,KN.1,KN.2.1,?_⟩;have anW:=akL bg;rw[show(e==10)=false by simpa using anW];obtain⟨ar,a2,a3⟩:=yK.da (N:=λw'=>Kp zj w' (λi=>i=c2)/\μ w' _ Cr 1 (some ⟨c2,0,none⟩) 1 1 [.int .i64 e]) (j:=0) (v:=.int .i64 e) (by omega) rfl λ_ k ε=>⟨k,ε⟩;obtain⟨qP,UW⟩:=a3 _ rfl;clear ar a2 a3;generalize zj.setCell (⟨c2,0,none⟩:Addr) (.int .i64 e)=L8 at qP UW⊢;have OT:=Az.loc qP (λaf=>(Az.is.hL af).1.off nw (by decide)) S0 nw (by decide) (by decide);have acx:=HH.aH qP λy ah o=>(HH.typed ah).1.ne (o▸nw) (by decide) rfl;have acD:=HI.aH qP λy ah o=>(HI.typed ah).1.ne (o▸nw) (by decide) rfl;have acG:=υ.aH qP λy ah o=>(υ.typed ah).1.ne (o▸nw) (by decide) rfl;clear acN yK HH HI Vg KN υ SL;obtain⟨oQ,rj,pC,tN,SM,amb⟩:=OT.at_;obtain⟨oH,acK⟩:=(SM.put (N:=λw'=>Kp L8 w' (λi=>i=pp)/\μ w' 0 q6 13 (some ⟨pp,0,none⟩) 1 1 ((lS pd oQ m).set 12 (.bool false))) 12 (by omega) (v:=.bool false) rfl λ_ k ε=>⟨k,ε⟩).2.2 _ rfl;generalize L8.setCell (⟨pp,12,none⟩:Addr) (.bool false)=avW at oH acK⊢;have Wn:=(SM.cell.typed rfl).1;obtain⟨amf,yI⟩:=SM.aev oH acK rfl rfl rfl rfl rfl;have adB:dL w D avW pp pd m (x::xs) al _:=OT.trans (e9.il amb amf yI λi o=>.inl o);have acy:=acx.aH oH λy ah o=>(acx.typed ah).1.ne (o▸Wn) (by decide) rfl;have aqj:=acD.aH oH λy ah o=>(acD.typed ah).1.ne (o▸Wn) (by decide) rfl;have acH:=acG.aH oH λy ah o=>(acG.typed ah).1.ne (o▸Wn) (by decide) rfl
  try dsimp only
  try dsimp only[bH]
  rw[cond_pos (by simpa using he)];refine acH.put (cs:=[.int .i64 0,.int .i64 e,.int .i64 0,.slice none 0 0,.slice none 0 0]) rfl sf λax4 Uk aqp=>?_;have Wf:=(acH.typed rfl).1;have arI:=adB.loc Uk (λaf=>(adB.is.hL af).1.off Wf (by decide)) sX Wf (by decide) (by decide);refine ad5 (r:=⟨e,0,[],[]⟩) arI oC sX DS (acy.aH Uk λy ah o=>(acy.typed ah).1.ne (o▸Wf) (by decide) rfl) (aqj.aH Uk λy ah o=>by cases ah;exact DS o) ⟨none,0,0,none,0,0,⟨aqp.lower (en _),μ.nil _ _ _ _,μ.nil _ _ _ _⟩,λ_ h=>by cases h⟩ rfl λw' bb v aJ υ=>?_;rw[bg]at dF;exact dF w' bb v aJ υ
end
section
variable{w:World}{pp pd:Nat}{m:aR}{xs:List (b9.cP×Int)}{al:Int}{D:bf}
theorem agG{F:Nat}{first cap:ag}{m':aR}(h:ho w pp pd m xs al D)(c4:∀γ:World,(callFunc F (first++cap)).run prog γ=.ok (.enter F (first++cap)) γ)
  (π:∀AX,ho AX pp pd m xs al D->Calls prog F (first++cap) AX (χ λv w'=>v=.tuple #[]/\∃bb,dL AX D w' pp pd m' xs al bb)){N:Value->ao}{X:List PanicEntry->ao}
  (eG:∀w' bb,dL w D w' pp pd m' xs al bb->N (.int .i64 0) w'):κ prog 30 #[.pointer (some ⟨pp,0,none⟩),.func (.func F) first cap] w N X:=by
 obtain⟨q,cZ,dp,c0,cV,b4⟩:=id h;refine agH (cV.at (j:=12) rfl) c4 λAX c1 c2 AZ acM EK rI=>?_;have fb:=h.ex AZ;refine κ.use (π AX fb) ?_;rintro _ zj ⟨rfl,bb,hp⟩;have yK:=hp.dA fb EK (by decide);have Az:=((dL.start h).ex AZ).trans hp;obtain⟨ar,a2,a3⟩:=yK.da (N:=λw'=>Kp zj w' λi=>i=c2) (j:=0) (v:=.int .i64 0) (by omega) rfl λ_ k ε=>k;have qP:=a3 _ rfl;refine⟨ar,a2,?_⟩;clear ar a2 a3;generalize zj.setCell (⟨c2,0,none⟩:Addr) (.int .i64 0)=L8 at qP⊢;have nw:=(yK.typed rfl).1;exact eG L8 _ (Az.loc qP (λaf=>(Az.is.hL af).1.off nw (by decide)) (EK.ge rfl).1 nw (by decide) (by decide))
theorem avi(h:ho w pp pd m xs al D){A:eL}{n:Nat}(hm:aR.Ok m A n)(ax:n<=900000){N:Value->ao}{X:List PanicEntry->ao}
  (eG:∀w' bb,dL w D w' pp pd (pN m) xs al bb->N (.int .i64 0) w'):κ prog 30 #[.pointer (some ⟨pp,0,none⟩),.func (.func 31) #[.pointer (some ⟨pp,0,none⟩)] #[]] w N X:=by
 have h1:=hm.fT.seq;have ι:=hm.fT.clock;have aG:=hm.fT.loose;refine agG h (λγ=>by simp[go_sem]) (λAX fb=>?_) eG;exact aj4 fb hm.inv (by omega) (by omega) (by omega)
theorem avh(h:ho w pp pd m xs al D){A:eL}{n:Nat}(hm:aR.Ok m A n)(ax:n<=900000){N:Value->ao}{X:List PanicEntry->ao}
  (eG:∀w' bb,dL w D w' pp pd (qI m) xs al bb->N (.int .i64 0) w'):κ prog 30 #[.pointer (some ⟨pp,0,none⟩),.func (.func 32) #[.pointer (some ⟨pp,0,none⟩)] #[]] w N X:=by
 have h1:=hm.fT.seq;have ι:=hm.fT.clock;have aG:=hm.fT.loose;refine agG h (λγ=>by simp[go_sem]) (λAX fb=>?_) eG;exact MM fb hm.inv.vK (by omega) (by omega)
theorem asy(h:ho w pp pd m [] al D){R:aq}(dF:∀w' bb,dL w D w' pp pd m [] al bb->R (.returned (.tuple #[.agg (fD 0 ct ct).toArray,.bool false])) w'):qU.C (some ⟨pp,0,none⟩) w R:=by
 obtain⟨q,cZ,dp,c0,cV,b4⟩:=id h;apply qU.ok;unfold qU.main;rintro δ γ ej rfl;have ρ:=μ.new (w:=w) [.pointer (some ⟨pp,0,none⟩)] AS;rw[<-ej]at ρ;have ζ:=η.alloc w (.cells #[.pointer (some ⟨pp,0,none⟩)] AS);generalize w.alloc (.cells #[.pointer (some ⟨pp,0,none⟩)] AS)=γ at ρ ζ⊢;rintro θ τ eu rfl;have ai:=μ.new (w:=γ) (fD 0 ct ct) dm;rw[<-eu]at ai;have σ:=η.alloc γ (.cells (fD 0 ct ct).toArray dm);have bE:γ.alloc (.cells #[.int .i64 0,.int .i64 0,.int .i64 0,.slice none 0 0,.slice none 0 0] dm)=γ.alloc (.cells (fD 0 ct ct).toArray dm):=rfl;rw[bE];generalize γ.alloc (.cells (fD 0 ct ct).toArray dm)=τ at ai σ⊢;have ρ:=ρ.ex σ;have e4:=ζ.trans σ;refine⟨_,ρ.at (j:=0) rfl,?_⟩
 try dsimp only[bk]
 refine⟨_,(cV.ex e4).at (j:=0) rfl,?_⟩;refine κ.use (b9.ah3 (cV.ex e4).gate) ?_;rintro _ aa ⟨rfl,ad⟩;unfold b9.lF
 try dsimp only[bX,cC,cD,mK,bk,bH,hx,ie]
 have gJ:=e4.trans ad;rintro aF aE jd rfl;have bo:=μ.new (w:=aa) b9.lF ff;rw[<-jd]at bo;have ak:=η.alloc aa (.cells b9.lF.toArray ff);have h3:aa.alloc (.cells #[.int .i64 0,.int .i64 0,.int .i64 0,.int .i64 0,.slice none 0 0] ff)=aa.alloc (.cells b9.lF.toArray ff):=rfl;rw[h3];generalize aa.alloc (.cells b9.lF.toArray ff)=aE at bo ak⊢;have ai:=(ai.ex ad).ex ak;refine aW rfl (bo.put (cs:=b9.lF) rfl b9.GS λba ec bS=>?_);have t3:=(bo.typed rfl).1;have ks:η w ba:=(gJ.trans ak).then ec λi o=>by have:=gJ.size;omega
 have ai:=ai.aH ec λy ah o=>(ai.typed ah).1.ne (o▸t3) (by decide) rfl;rw[cond_pos (by rfl)];refine ai.put (cs:=fD 0 ct ct) rfl sf λbm hA er=>?_;have I8:η w bm:=ks.then hA λi o=>by have:=ζ.size;omega
 exact⟨_,rfl,er.cells,dF bm _ ((dL.start h).ex I8)⟩
def Mk(r:b9.cP):Prop:=b9.fa r.k/\∀x∈r.bs,0<=x/\x<256
theorem Mk.akI{r:b9.cP}(h:Mk r){A:eL}{n:Nat}(hm:aR.Ok m A n)(ax:n<=900000):QF m (ef r):=by have h1:=hm.fT.seq;have ι:=hm.fT.dl;have aG:=hm.fT.loose;exact⟨hm.inv,by omega,by omega,by omega,h.2,h.1⟩
abbrev Mh(b:Bool):Ending:=.returned (.tuple #[.agg (fD 0 ct ct).toArray,.bool b])
def aiI(w:World)(D:bf)(pp pd:Nat)(m:aR)(al:Int)(R:aq):List (b9.cP×Int)->Prop
 |[]=>∀w' bb,dL w D w' pp pd m [] al bb->R (Mh false) w'
 |x::xs=>Mk x.1/\∀w' bb v,dL w D w' pp pd (eS m (ef x.1)).1 (if(eS m (ef x.1)).2.e=12 then x::xs else xs) al bb->vi w' (λi=>bb i\/i<w.heap.size) v x.2 (eS m (ef x.1)).2->R (.returned (.tuple #[v,.bool true])) w'
theorem Iq(h:ho w pp pd m xs al D){A:eL}{n:Nat}(hm:aR.Ok m A n)(ax:n<=800000){pick:Int}(hp:1<=pick/\pick<=4){R:aq}
  (h1:pick=1->aiI w D pp pd (aR.tick m) al R xs)
  (ι:pick=2->∀w' bb,dL w D w' pp pd (pN (aR.tick m)) xs al bb->R (Mh false) w')
  (aG:pick=3->∀w' bb,dL w D w' pp pd (qI (aR.tick m)) xs al bb->R (Mh false) w')
  (cq:pick=4->∀w' bb,dL w D w' pp pd (aR.tick m) xs al bb->R (Mh false) w'):Aw.C (some ⟨pp,0,none⟩) pick w R:=by
 have Ty:=hm.tick;have π:=hm.fT.clock;obtain⟨q,cZ,dp,c0,cV,b4⟩:=id h;apply Aw.ok;unfold Aw.main;rintro δ γ ej rfl;have ρ:=μ.new (w:=w) (fD 0 ct ct) dm;rw[<-ej]at ρ;have SZ:w.heap.size<=δ:=by omega
 have ζ:=η.alloc w (.cells (fD 0 ct ct).toArray dm);have aO:w.alloc (.cells #[.int .i64 0,.int .i64 0,.int .i64 0,.slice none 0 0,.slice none 0 0] dm)=w.alloc (.cells (fD 0 ct ct).toArray dm):=rfl;rw[aO];generalize w.alloc (.cells (fD 0 ct ct).toArray dm)=γ at ρ ζ⊢;rw[cond_neg (by rfl)]
 try dsimp only[bk]
 simp only[dv];have vw:=cV.ex ζ;refine⟨_,vw.at (j:=10) rfl,?_⟩;rw[bY (x:=m.clock+1) (by omega) (by omega)];refine vw.put 10 (by omega) (v:=.int .i64 (m.clock+1)) rfl λaa cd bo=>?_;rw[arc]at bo;obtain⟨vx,yI⟩:=vw.aev (m':=aR.tick m) cd bo rfl rfl rfl rfl rfl;have qV:dL w D aa pp pd (aR.tick m) xs al _:=((dL.start h).ex ζ).trans (e9.il b4 vx yI λi o=>.inl o);have ρ:=gU yI (λi o=>(vw.hL o).1) ρ (by decide);have t1:=(ρ.typed rfl).1
 have fin:∀(b:Bool)(W:World)(bb:bf)(m':aR),dL w D W pp pd m' xs al bb->μ W δ dm 5 (some ⟨δ,0,none⟩) 1 1 (fD 0 ct ct)->(∀w' bb,dL w D w' pp pd m' xs al bb->R (Mh b) w')->
   hr W (⟨δ,0,none⟩:Addr) [(Value.int .i64 0),(Value.int .i64 0),(Value.int .i64 0),.slice none 0 0,.slice none 0 0]/\∀cn,cn=W.setCells (⟨δ,0,none⟩:Addr).block (⟨δ,0,none⟩:Addr).off [(Value.int .i64 0),(Value.int .i64 0),(Value.int .i64 0),.slice none 0 0,.slice none 0 0]->
   (∃(cE:ag),cE.size=5/\aw cn (⟨δ,0,none⟩:Addr) cE.toList/\(R (.returned (Value.tuple #[(Value.agg cE),(Value.bool b)])) cn)):=by
  intro b W bb m' il ε ij;refine ε.put (cs:=fD 0 ct ct) rfl sf λbm hA er=>?_;have t:=(ε.typed rfl).1;exact⟨_,rfl,er.cells,ij bm _ (il.loc hA (λaf=>(il.is.hL af).1.off t (by decide)) SZ t (by decide) (by decide))⟩
 refine bz (λhk=>?_) λvC=>bz (λhk=>?_) λni=>bz (λhk=>?_) λTt=>bz (λhk=>?_) λux=>?_
 ·have hk:pick=1:=by simpa using hk
  have h1:=h1 hk;cases xs with
  |nil=>
   refine asy qV.is λaz bb aJ=>?_
   try dsimp only
   try dsimp only[bX,cC,cD,bk,dE,hx,ie]
   have cx:=aJ.dA qV.is ρ (by decide);have t4:=(cx.typed rfl).1;have B7:=qV.trans aJ;refine aW rfl (cx.put (cs:=fD 0 ct ct) rfl sf λba ec bS=>⟨_,rfl,bS.cells,?_⟩);exact h1 ba _ (B7.loc ec (λaf=>(B7.is.hL af).1.off t4 (by decide)) SZ t4 (by decide) (by decide))
  |cons x xs=>
   obtain⟨aQ,ij⟩:=h1;refine asz qV.is (aQ.akI Ty (by omega)) λaz bb v aJ υ=>?_;obtain⟨dz,cU,dc,dD,dH,dJ,rfl,fM,iU,qd⟩:=υ
   try dsimp only
   try dsimp only[bX,cC,cD,bk,dE,hx,ie]
   have cx:=aJ.dA qV.is ρ (by decide);have t4:=(cx.typed rfl).1;have B7:=qV.trans aJ;refine aW rfl (cx.put (cs:=jj x.2 (eS (aR.tick m) (ef x.1)).2 dz cU dc dD dH dJ) rfl sf λba ec bS=>⟨_,rfl,bS.cells,?_⟩);refine ij ba _ _ (B7.loc ec (λaf=>(B7.is.hL af).1.off t4 (by decide)) SZ t4 (by decide) (by decide)) ⟨dz,cU,dc,dD,dH,dJ,rfl,fM.aH ec λy ah o=>(fM.typed ah).1.ne (o▸t4) (by decide) rfl,iU.aH ec λy ah o=>(iU.typed ah).1.ne (o▸t4) (by decide) rfl,λx I af=>qd x I (af.imp_right λh=>H5 h qV.aH.size)⟩
 ·have hk:pick=2:=by simpa using hk
  refine avi qV.is Ty (by omega) λw' bb aJ=>?_
  try dsimp only[bH]
  exact fin false w' _ _ (qV.trans aJ) (aJ.dA qV.is ρ (by decide)) (ι hk)
 ·have hk:pick=3:=by simpa using hk
  refine avh qV.is Ty (by omega) λw' bb aJ=>?_
  try dsimp only[bH]
  exact fin false w' _ _ (qV.trans aJ) (aJ.dA qV.is ρ (by decide)) (aG hk)
 ·have hk:pick=4:=by simpa using hk
  exact fin false aa _ _ qV ρ (cq hk)
 ·exfalso;simp only[beq_eq_false_iff_ne]at vC ni Tt ux;omega
theorem atc(h:ho w pp pd m xs al D)(r:b9.cP){B:Nat}(υ:μ w B dk 1 r.p r.n r.c (b9.bytesOf r))(ω:b9.Small r)(aP:0<=al/\al<1000000):
  EY.C (some ⟨pp,0,none⟩) r.k r.v r.b r.s r.p r.n r.c w (χ λv w'=>
   (¬b9.fa r.k/\v=.tuple #[.int .i64 0,.int .i64 1]/\dL w D w' pp pd m xs al D)\/(b9.fa r.k/\16<=xs.length/\v=.tuple #[.int .i64 0,.int .i64 12]/\dL w D w' pp pd m xs al D)\/
   (b9.fa r.k/\xs.length<16/\v=.tuple #[.int .i64 (al+1),.int .i64 0]/\∃bT aT bb,dL w D w' pp pd m (xs++[({r with p:=bT,c:=aT},al+1)]) (al+1) bb)):=by
 obtain⟨q,cZ,dp,c0,cV,b4⟩:=id h;apply EY.ok;unfold EY.main;rintro δ γ ej rfl;have ρ:=μ.new (w:=w) r.cells ff;rw[<-ej]at ρ;have ζ:=η.alloc w (.cells r.cells.toArray ff);have aO:w.alloc (.cells #[.int .i64 r.k,.int .i64 r.v,.int .i64 r.b,.int .i64 r.s,.slice r.p r.n r.c] ff)=w.alloc (.cells r.cells.toArray ff):=rfl;rw[aO];generalize w.alloc (.cells r.cells.toArray ff)=γ at ρ ζ⊢;rw[cond_neg (by rfl)]
 try dsimp only[bk]
 have dT:=ζ.trans (η.drew γ);have ρ:=ρ.ex (η.drew γ);generalize γ.drew=τ at dT ρ⊢;have ι:=cV.ex dT;have uM:=(dL.start h).ex dT;refine⟨_,ι.at (j:=0) rfl,r.cells.toArray,rfl,ρ.cells,?_⟩;have abh:=υ.ex dT;refine κ.use (b9.aiT ι.gate (en _) r ⟨abh.cells,ω⟩ (λw' k=>(gU k (Jy ι.gate) abh (by decide)).cells) aP) ?_;rintro _ aa (⟨g,rfl,ad⟩|⟨g,yk,rfl,ad⟩|⟨g,yk,rfl,bT,aT,aQ⟩)
 ·try dsimp only[bX,cC,cD,bk,bH]
  exact χ.mk (.inl ⟨g,rfl,uM.ex ad⟩)
 ·try dsimp only[bX,cC,cD,bk,bH]
  exact χ.mk (.inr (.inl ⟨g,yk,rfl,uM.ex ad⟩))
 ·try dsimp only[bX,cC,cD,bk,bH]
  obtain⟨rj,aG,cd,lU⟩:=ι.aew aQ;exact χ.mk (.inr (.inr ⟨g,yk,rfl,bT,aT,_,uM.trans (e9.il b4 aG cd lU)⟩))
end
section
variable{w:World}{pp pd:Nat}{m:aR}{al:Int}{D:bf}
def ko(m:aR)(a:aR.Ask):aR×gS:=if 1<=a.k/\a.k<=9 then uj m a else(m,⟨1,0,[],[]⟩)
def xC(al:Int)(a:aR.Ask):Int:=if 1<=a.k/\a.k<=9 then al+1 else al
def fB(A:eL)(a:aR.Ask):eL×gS:=if 1<=a.k/\a.k<=9 then lI A a else(A,⟨1,0,[],[]⟩)
theorem ahV{w0:World}{dV eU:bf}{x:b9.cP×Int}{A:eL}{n:Nat}(hm:aR.Ok m A n)(ax:n<=700000)(aQ:Mk x.1)(h:dL w0 dV w pp pd m [x] al eU){θ gD:Nat}{z:aU}(ai:μ w gD dm 5 (some ⟨θ,0,none⟩) 1 1 z)(oC:w0.heap.size<=θ){R:aq}
  (dF:∀w' bb v,dL w0 dV w' pp pd (uj m (ef x.1)).1 [] al bb->vi w' (λi=>bb i\/i<w0.heap.size) v x.2 (uj m (ef x.1)).2->R (.returned v) w'):nZ.bd (some ⟨pp,0,none⟩) θ w R:=by
 classical
 have yu:=hm.full (by omega) (a:=ef x.1) aQ.2;unfold nZ.bd
 let P:aR->ao:=λm W=>(∃eU,dL w0 dV W pp pd m [x] al eU)/\∃B z,μ W B dm 5 (some ⟨θ,0,none⟩) 1 1 z
 let mZ:ao:=λW=>(eS (aR.tick m) (ef x.1)).2.e=12/\P (pN (aR.tick (aR.tick m))) W
 refine⟨λt0 t4 W=>some ⟨pp,0,none⟩=t0/\θ=t4/\(P m W\/mZ W),λt0 t4 W=>if mZ W then 0 else 1,⟨rfl,rfl,.inl ⟨⟨eU,h⟩,_,_,ai⟩⟩,?_⟩;rintro _ _ W ⟨rfl,rfl,jQ⟩
 have main:∀(m1:aR)(Qt:eL)(ay:Nat),aR.Ok m1 Qt ay->ay<=790000->P m1 W->
   ((eS (aR.tick m1) (ef x.1)).2.e≠12->eS (aR.tick m1) (ef x.1)=uj m (ef x.1))->
   ((eS (aR.tick m1) (ef x.1)).2.e=12->m1=m/\¬mZ W)->
   nZ.δ (some ⟨pp,0,none⟩) θ W R λatg xH w'=>(some ⟨pp,0,none⟩=atg/\θ=xH/\(P m w'\/mZ w'))/\(if mZ w' then 0 else 1)<(if mZ W then 0 else 1):=by
  rintro m1 Qt ay BE qN ⟨⟨gj,hp⟩,B,z,ai⟩ ant ams;unfold nZ.δ;refine Iq hp.is BE (by omega) (pick:=1) (by omega) (λ_=>⟨aQ,λaz bb v aJ υ=>?_⟩) (λh=>by omega) (λh=>by omega) (λh=>by omega);obtain⟨dz,cU,dc,dD,dH,dJ,rfl,fM,iU,qd⟩:=υ
  try dsimp only
  try dsimp only[bk,bX,cC,cD,dE,hx,ie]
  have ai:=aJ.dA hp.is ai (by decide);have B7:=hp.trans aJ;rintro ae cn mg rfl;have cx:=μ.new (w:=az) (fD 0 ct ct) dm;rw[<-mg]at cx;have c7:=η.alloc az (.cells (fD 0 ct ct).toArray dm);have Dz:az.alloc (.cells #[.int .i64 0,.int .i64 0,.int .i64 0,.slice none 0 0,.slice none 0 0] dm)=az.alloc (.cells (fD 0 ct ct).toArray dm):=rfl;rw[Dz];have anH:θ<az.heap.size:=(ai.typed rfl).2.2;have DS:θ≠ae:=by omega
  have sX:w0.heap.size<=ae:=by have:=B7.aH.size;omega
  generalize az.alloc (.cells (fD 0 ct ct).toArray dm)=cn at cx c7⊢;refine aW rfl (cx.put (cs:=jj x.2 (eS (aR.tick m1) (ef x.1)).2 dz cU dc dD dH dJ) rfl sf λdn rS xm=>?_);have t4:=(cx.typed rfl).1;have Mx:η az dn:=c7.then rS λi o=>by omega
  have r7:=B7.ex Mx;have ai:=ai.ex Mx;refine⟨_,xm.at (j:=1) rfl,?_⟩;refine bz (λhe=>?_) λhe=>?_
  ·have he:(eS (aR.tick m1) (ef x.1)).2.e≠12:=by simpa using he
   rw[ant he]at r7 xm fM iU;rw[aM yu.1]at r7;refine⟨(jj x.2 (uj m (ef x.1)).2 dz cU dc dD dH dJ).toArray,rfl,xm.cells,aW rfl (ai.put (cs:=jj x.2 (uj m (ef x.1)).2 dz cU dc dD dH dJ) rfl sf λdX oG r1=>⟨_,rfl,r1.cells,?_⟩)⟩;have t2:=(ai.typed rfl).1;have fM:=fM.ex Mx;have iU:=iU.ex Mx;exact dF dX _ _ (r7.loc oG (λaf=>(r7.is.hL af).1.off t2 (by decide)) oC t2 (by decide) (by decide)) ⟨dz,cU,dc,dD,dH,dJ,rfl,fM.aH oG λy ah o=>(fM.typed ah).1.ne (o▸t2) (by decide) rfl,iU.aH oG λy ah o=>(iU.typed ah).1.ne (o▸t2) (by decide) rfl,λx I af=>qd x I (af.imp_right λh=>H5 h hp.aH.size)⟩
  ·have he:(eS (aR.tick m1) (ef x.1)).2.e=12:=by simpa using he
   obtain⟨rfl,anT⟩:=ams he;have yo:(eS (aR.tick m1) (ef x.1)).1=aR.tick m1:=by
    rcases BE.tick.do (by omega) (a:=ef x.1) aQ.2 with⟨_,ι,_⟩|⟨h1,_⟩
    ·exact ι
    ·exact absurd he h1
   rw[he,aS rfl,yo]at r7;refine Iq r7.is BE.tick (by omega) (pick:=2) (by omega) (λh=>by omega) (λ_ eA IV abu=>?_) (λh=>by omega) (λh=>by omega)
   try dsimp only
   try dsimp only[bX,cC,cD,bk,dE,iY,hx,ie]
   have ai:=abu.dA r7.is ai (by decide);have arB:=r7.trans abu;rintro fq ga yl rfl;have bS:=μ.new (w:=eA) (fD 0 ct ct) dm;rw[<-yl]at bS;have re:=η.alloc eA (.cells (fD 0 ct ct).toArray dm);have akX:eA.alloc (.cells #[.int .i64 0,.int .i64 0,.int .i64 0,.slice none 0 0,.slice none 0 0] dm)=eA.alloc (.cells (fD 0 ct ct).toArray dm):=rfl;rw[akX];generalize eA.alloc (.cells (fD 0 ct ct).toArray dm)=ga at bS re⊢;refine aW rfl (bS.put (cs:=fD 0 ct ct) rfl sf λfO yG pj=>?_);have I7:η eA fO:=re.then yG λi o=>by omega
   have vw:mZ fO:=⟨he,⟨_,arB.ex I7⟩,_,_,ai.ex I7⟩;refine⟨⟨rfl,rfl,.inr vw⟩,?_⟩;rw[aS vw,aM anT];omega
 by_cases vw:mZ W
 ·have h1:=vw.1;have aaI:uj m (ef x.1)=eS (aR.tick (pN (aR.tick (aR.tick m)))) (ef x.1):=by unfold uj;rw[aS h1]
  refine main _ A (n+3) (hm.tick.tick.clean (by omega)) (by omega) vw.2 (λ_=>aaI.symm) λh=>?_;rw[<-aaI]at h;exact absurd h yu.1
 ·refine main m A n hm (by omega) (jQ.resolve_right vw) (λh=>by unfold uj;rw[aM h]) λh=>⟨rfl,vw⟩
theorem ar7{A:eL}{n:Nat}(hm:aR.Ok m A n)(ax:n<=800000){a:aR.Ask}(aQ:∀x∈a.bs,0<=x/\x<256):(ko m a).2=(fB A a).2/\aR.Ok (ko m a).1 (fB A a).1 (n+5):=by
 unfold ko fB;by_cases bJ:1<=a.k/\a.k<=9
 ·rw[aS bJ,aS bJ];exact⟨(hm.full ax aQ).2.1,(hm.full ax aQ).2.2⟩
 ·rw[aM bJ,aM bJ];exact⟨rfl,hm.more (by omega)⟩
theorem ahW{A:eL}{n:Nat}(h:ho w pp pd m [] al D)(hm:aR.Ok m A n)(ax:n<=700000)(r:b9.cP){B:Nat}(υ:μ w B dk 1 r.p r.n r.c (b9.bytesOf r))(ω:b9.Small r)(aP:0<=al/\al<1000000){R:aq}
  (dF:∀w' bb v,dL w D w' pp pd (ko m (ef r)).1 [] (xC al (ef r)) bb->vi w' (λi=>bb i\/i<w.heap.size) v (if 1<=r.k/\r.k<=9 then al+1 else 0) (ko m (ef r)).2->R (.returned v) w'):nZ.C (some ⟨pp,0,none⟩) r.k r.v r.b r.s r.p r.n r.c w R:=by
 obtain⟨q,cZ,dp,c0,cV,b4⟩:=id h;apply nZ.ok;unfold nZ.main;rintro δ γ ej rfl;have ρ:=μ.new (w:=w) r.cells ff;rw[<-ej]at ρ;have ζ:=η.alloc w (.cells r.cells.toArray ff);have aO:w.alloc (.cells #[.int .i64 r.k,.int .i64 r.v,.int .i64 r.b,.int .i64 r.s,.slice r.p r.n r.c] ff)=w.alloc (.cells r.cells.toArray ff):=rfl;rw[aO];generalize w.alloc (.cells r.cells.toArray ff)=γ at ρ ζ⊢;rintro θ τ eu rfl;have ai:=μ.new (w:=γ) (fD 0 ct ct) dm;rw[<-eu]at ai;have σ:=η.alloc γ (.cells (fD 0 ct ct).toArray dm);have bE:γ.alloc (.cells #[.int .i64 0,.int .i64 0,.int .i64 0,.slice none 0 0,.slice none 0 0] dm)=γ.alloc (.cells (fD 0 ct ct).toArray dm):=rfl;rw[bE];have oC:w.heap.size<=θ:=by have:=ζ.size;omega
 generalize γ.alloc (.cells (fD 0 ct ct).toArray dm)=τ at ai σ⊢;have ρ:=ρ.ex σ;have e4:=ζ.trans σ;have ι:=cV.ex e4;have uM:=(dL.start h).ex e4;rw[cond_neg (by rfl)]
 try dsimp only[bk]
 refine⟨_,ι.at (j:=0) rfl,?_⟩;refine κ.use (b9.aij ι.gate) ?_;rintro _ _ ⟨rfl,rfl⟩
 try dsimp only[bH]
 rw[cond_neg (by rfl)];refine⟨r.cells.toArray,rfl,ρ.cells,?_⟩;refine κ.use (atc uM.is r (υ.ex e4) ω aP) ?_;rintro _ bm (⟨g,rfl,aJ⟩|⟨g,yk,rfl,aJ⟩|⟨g,yk,rfl,bT,aT,bb,aJ⟩)
 ·try dsimp only[bX,cC,cD,bk,bH]
  rw[cond_pos (by rfl)];have aa7:¬(1<=(ef r).k/\(ef r).k<=9):=g;have ai:=aJ.dA uM.is ai (by decide);have t2:=(ai.typed rfl).1;have yQ:=uM.trans aJ;refine ai.put (cs:=[.int .i64 0,.int .i64 1,.int .i64 0,.slice none 0 0,.slice none 0 0]) rfl sf λcf iL jh=>⟨_,rfl,jh.cells,?_⟩;unfold ko xC at dF;rw[aM aa7,aM aa7,aM (show¬(1<=r.k/\r.k<=9)from g)]at dF;exact dF cf _ _ (yQ.loc iL (λaf=>(yQ.is.hL af).1.off t2 (by decide)) oC t2 (by decide) (by decide)) ⟨none,0,0,none,0,0,rfl,μ.nil _ _ _ _,μ.nil _ _ _ _,λ_ h=>by cases h⟩
 ·simp at yk
 ·try dsimp only[bX,cC,cD,bk,bH]
  rw[cond_neg (by rfl)];have bJ:1<=(ef r).k/\(ef r).k<=9:=g;have ai:=aJ.dA uM.is ai (by decide);unfold ko xC at dF;rw[aS bJ,aS bJ,aS (show 1<=r.k/\r.k<=9 from g)]at dF;exact ahV (x:=({r with p:=bT,c:=aT},al+1)) hm ax ⟨g,ω.wf⟩ (uM.trans aJ) ai oC dF
end
theorem arx{d:a6.c3}(h1:d.after=-1)(ι:d.off=false){i j:Int}{s:an}(o:0<=i/\i<(d.now.length:Int))(φ:0<=j/\j<(d.now.length:Int))(ω:s.length=64):a6.zp d [(i,s),(j,s)]=(a6.da (a6.da d i s) j s,0):=by
 have k0:a6.kh d=d:=by unfold a6.kh;rw[aM (by omega),aM (by omega)]
 have aO:(a6.da d i s).after=-1:=h1;have bE:(a6.da d i s).off=false:=ι;have aon:a6.kh (a6.da d i s)=a6.da d i s:=by unfold a6.kh;rw[aM (by omega),aM (by omega)]
 unfold a6.zp;rw[aM (by rw[ι];decide),aM (by simp[a6.wide,ω]),aM (by simp[a6.out];omega)];unfold a6.xv;rw[k0,aM (by rw[ι];decide)];unfold a6.xv;rw[aon,aM (by rw[bE];decide)];rfl
theorem akV{w0 w:World}{dV:bf}{B pd:Nat}{d:a6.c3}{D:bf}{k:Nat}(h:gW w0 dV w B pd d D k)(hk:k<=90000000){i j:Int}(o:0<=i/\i<(d.now.length:Int))(φ:0<=j/\j<(d.now.length:Int)){p:J}{c:Nat}{s:an}(π:a6.mY w D p (bj s))(ω:a6.kE s){N:Value->ao}{X:List PanicEntry->ao}
  (K:∀w' bb,gW w0 dV w' B pd (a6.da (a6.da d i s) j s) bb (k+2)->Kp w w' D->N (.int .i64 0) w'):
  aN w #[.int .i64 i,.slice p 64 c,.int .i64 j,.slice p 64 c] Cs λδ aa=>κ prog 63 #[.pointer (some ⟨pd,0,none⟩),.slice (some ⟨δ,0,none⟩) 2 2] aa N X:=by
 rintro b γ rfl rfl;have ε:=μ.alloc (w:=w) [.int .i64 i,.slice p 64 c,.int .i64 j,.slice p 64 c] Cs 2 2 rfl;have x:=η.alloc w (.cells [Value.int .i64 i,.slice p 64 c,.int .i64 j,.slice p 64 c].toArray Cs);generalize w.heap.size=b at ε⊢;generalize w.alloc (.cells #[.int .i64 i,.slice p 64 c,.int .i64 j,.slice p 64 c] Cs)=γ at ε x⊢;have h1:=h.ex x;refine κ.use (a6.I2 h1.dev h1.fa (fY h1.low h1.aH.size) (ws:=[⟨i,s,p,64,c⟩,⟨j,s,p,64,c⟩]) rfl (a6.mY.B3 h1.dev ε (by decide) (by decide) (by decide)) (λsw lR=>by
  simp only[fA,n1,oS]at lR;rcases lR with rfl|rfl
  ·exact⟨π.step (x.aH _) λi _ h=>h,ω.1,ω.2⟩
  ·exact⟨π.step (x.aH _) λi _ h=>h,ω.1,ω.2⟩) (by omega) (by have:=h1.fT;omega)) ?_
 have uy:a6.zp d ([(⟨i,s,p,64,c⟩:a6.hQ),⟨j,s,p,64,c⟩].map a6.hQ.plain)=(a6.da (a6.da d i s) j s,0):=arx h1.after h1.off o φ ω.1;rw[uy];rintro _ τ ⟨rfl,aQ⟩;obtain⟨bb,b4,oH⟩:=h1.Rb aQ rfl rfl (by show((d.now.set _ _).set _ _).length=_;rw[im,im]) (k':=k+2) (by show((d.loose++[(i,s)])++[(j,s)]).length<=k+2;rw[fe,fe];have:=h.fT;simp only[AA];omega);exact K τ bb b4 (Kp.trans (x.aH D) oH (λ_ _ h=>h) λ_ _ h=>h)
theorem I5{w:World}{B pd:Nat}{d:a6.c3}{D:bf}(h:a6.gV w B pd d D):C6.C (some ⟨pd,0,none⟩) w (χ λv w'=>v=.int .i64 (d.now.length:Int)/\w'=w):=by
 apply C6.ok;unfold C6.main;obtain⟨bs,bn,pl,km,h,b4⟩:=h
 try dsimp only[mI,bk,iY]
 simp only[dv];exact⟨_,_,_,h.cell.at (j:=1) rfl,χ.mk ⟨rfl,rfl⟩⟩
theorem XA{s k:Int}(dS:6<=s/\s<=24/\2<=k/\k<=16)(w:World):EW.C s k w (χ λv w'=>v=.tuple #[.int .i64 (40+s*k),.int .i64 0]/\η w w'):=by
 apply EW.ok;unfold EW.main;rintro δ γ rfl rfl;have ε:=μ.new (w:=w) (two s k) b2;have w8:=η.alloc w (.cells (two s k).toArray b2);have aO:w.alloc (.cells #[.int .i64 s,.int .i64 k] b2)=w.alloc (.cells (two s k).toArray b2):=rfl;rw[aO];generalize w.alloc (.cells (two s k).toArray b2)=γ at ε w8⊢;refine⟨(two s k).toArray,rfl,ε.cells,?_⟩;refine κ.use (IT s k _) ?_;rintro _ τ ⟨rfl,ι⟩;rw[uE.2 dS]
 try dsimp only[bH]
 rw[cond_neg (by decide)];have hp:=KS dS;refine⟨s,(ε.ex ι).at (by rfl),k,(ε.ex ι).at (by rfl),?_⟩;rw[bY (x:=s*k) (by omega) (by omega),bY (by omega) (by omega)];exact χ.mk ⟨rfl,w8.trans ι⟩
theorem ah5{w:World}{pd:Nat}{D:bf}{s k:Int}(g:pD s k)(h:a6.gV w 0 pd (a6.fresh (40+s*k).toNat) D):
  mw.C (some ⟨pd,0,none⟩) s k w (χ λv w'=>v=.int .i64 0/\∃bb,gW w D w' 0 pd (sS (40+s*k).toNat s k) bb 0):=by
 have hp:=g.prod;have hw:=g.wide;obtain⟨n,ax⟩:∃n,(40+s*k).toNat=n:=⟨_,rfl⟩;have J3:(n:Int)=40+s*k:=by omega
 rw[ax]at h⊢;have hlen:(a6.fresh n).now.length=n:=by simp[a6.fresh]
 have sP:gW w D w 0 pd (a6.fresh n) D 0:=gW.start h (a6.alP (by omega)) rfl rfl (by rw[hlen];omega) (ew _) (en _);apply mw.ok;unfold mw.main;rintro δ γ ej rfl;have ρ:=μ.new (w:=w) (two s k) b2;rw[<-ej]at ρ;have ζ:=η.alloc w (.cells (two s k).toArray b2);have aO:w.alloc (.cells #[.int .i64 s,.int .i64 k] b2)=w.alloc (.cells (two s k).toArray b2):=rfl;rw[aO];generalize w.alloc (.cells (two s k).toArray b2)=γ at ρ ζ⊢;refine⟨(two s k).toArray,rfl,ρ.cells,?_⟩;refine κ.use (XA hw γ) ?_;rintro _ τ ⟨rfl,σ⟩
 try dsimp only[mI,bX,cC,cD,bk,bH]
 rw[cond_neg (by rfl)];unfold mw.a1;rw[cond_neg (by rfl)];have Zl:=(sP.ex ζ).ex σ;have ρ:=ρ.ex σ;refine κ.use (I5 Zl.dev) ?_;rintro _ ax2 ⟨rfl,bE⟩;obtain rfl:=bE.symm
 try dsimp only[bH]
 rw[hlen,iD (by omega)];rintro θ ba eu rfl;have em:madeCells #[Value.int .u8 0] (64*1)=(bj a6.ia).toArray:=Ew 1 64 (Value.int .u8 0) (by decide);rw[em];have bS:=μ.alloc (w:=τ) (bj a6.ia) dk 1 64 rfl;rw[<-eu]at bS;have aI:=η.alloc τ (.cells (bj a6.ia).toArray dk);generalize τ.alloc (.cells (bj a6.ia).toArray dk)=ba at bS aI⊢;have M7:=Zl.ex aI;have ρ:=ρ.ex aI;refine akV M7 (by omega) (by rw[hlen];omega) (by rw[hlen];omega) (a6.mY.B3 M7.dev bS (by decide) (by decide) (by decide)) a6.WW λb5 ahQ RX fL=>?_
 try dsimp only[bH]
 rw[cond_neg (by rfl)];have bS:=M7.dA fL bS (by decide) (by decide) (by decide);have ρ:=M7.dA fL ρ (by decide) (by decide) (by decide);refine RX.flush λc6 QC RW BQ=>?_
 try dsimp only[bH]
 rw[cond_neg (by rfl)];have bS:=RX.dA BQ bS (by decide) (by decide) (by decide);have ρ:=RX.dA BQ ρ (by decide) (by decide) (by decide);change gW w D c6 0 pd (DB n) QC 0 at RW;unfold mw.bd;refine⟨λt0 t3 nv mV oY t45 W=>some ⟨pd,0,none⟩=t0/\δ=t3/\some ⟨θ,0,none⟩=nv/\64=mV/\64=oY/\0<=t45/\t45<=16/\(∃bb,gW w D W 0 pd (mu (DB n) 24 (List.replicate t45.toNat a6.ia)) bb t45.toNat)/\μ W δ b2 2 (some ⟨δ,0,none⟩) 1 1 (two s k)/\μ W θ dk 1 (some ⟨θ,0,none⟩) 64 64 (bj a6.ia),λ_ _ _ _ _ t45 _=>(16-t45).toNat,⟨rfl,rfl,rfl,rfl,rfl,by omega,by omega,⟨QC,RW⟩,ρ,bS⟩,?_⟩;clear ρ bS RW;rintro _ _ _ _ _ t45 W ⟨rfl,rfl,rfl,rfl,rfl,g0,g1,⟨bb,GM⟩,ρ,bS⟩;unfold mw.δ;obtain⟨t,rfl⟩:=eH g0;rw[cy]at GM;have BI:(mu (DB n) 24 (List.replicate t a6.ia)).now=sy n:=Vs n t _ _ (ZK n);have zV:(mu (DB n) 24 (List.replicate t a6.ia)).now.length=n:=by rw[BI,sy,se]
 refine bz (λaP=>?_) λaP=>?_
 ·have aP:=b7 aP;rw[bY (x:=24+(t:Int)) (by omega) (by omega)];refine GM.put (by omega) (i:=24+(t:Int)) (by rw[zV];omega) (a6.mY.B3 GM.dev bS (by decide) (by decide) (by decide)) a6.WW λdn W8 akT rS=>?_
  try dsimp only[bH]
  rw[cond_neg (by rfl),bY (x:=(t:Int)+1) (by omega) (by omega)];have aO:((t:Int)+1).toNat=t+1:=by omega
  refine⟨⟨by trivial,by trivial,by trivial,by trivial,by trivial,by omega,by omega,⟨W8,?_⟩,GM.dA rS ρ (by decide) (by decide) (by decide),GM.dA rS bS (by decide) (by decide) (by decide)⟩,by((try dsimp only);omega)⟩;rw[aO,List.replicate_succ',Vr,se];exact akT
 ·have aP:=dd aP;obtain rfl:t=16:=by omega
  unfold mw.bP;refine⟨(two s k).toArray,rfl,ρ.cells,?_⟩;refine κ.use (Xz (q:=1) GM (by omega) (fp.zero W).at seq1 (GU hw)) ?_;rintro _ eA ⟨rfl,QD,akU⟩
  try dsimp only[bH]
  exact χ.mk ⟨rfl,QD,akU⟩
theorem aiA{w:World}{pd:Nat}{d:a6.c3}{D:bf}(aj:Live w 0 pd d D){s k q:Int}{R:bR}{n:Nat}(aQ:vm d 2=(R,s,k,q))(aC:1<=q/\q<=1073741824)(dS:6<=s/\s<=24/\2<=k/\k<=16)(bg:lG s k R)(hlen:40+s*k<=(d.now.length:Int))(pb:pg q d.now 16 0=([],n))(jr:2<=(kt s.toNat (lays (used R)) []).length):
  Fj.C (some ⟨pd,0,none⟩) w (χ λv w'=>∃ps,v=.tuple #[.agg (bK R ps).toArray,.agg (two s k).toArray,.int .i64 q,.int .i64 0,.int .i64 0]/\fp w' R ps/\η w w'):=by
 obtain⟨f1,f2,f3⟩:=(lu dS).1 bg;apply Fj.ok;unfold Fj.main;rintro δ γ ej rfl θ τ eu rfl;rw[Gp,Gg];rw[Gp]at eu;have ρ:=μ.new (w:=w) hn bU;rw[<-ej]at ρ;have ζ:=η.alloc w (.cells hn.toArray bU);generalize w.alloc (.cells hn.toArray bU)=γ at ρ ζ eu⊢;have ai:=μ.new (w:=γ) (two 0 0) b2;rw[<-eu]at ai;have σ:=η.alloc γ (.cells (two 0 0).toArray b2);generalize γ.alloc (.cells (two 0 0).toArray b2)=τ at ai σ⊢;have e4:=ζ.trans σ;have oC:w.heap.size<=θ:=by have:=ζ.size;omega
 have ρ:=ρ.ex σ;refine κ.use (QO (aj.ex e4)) ?_;rw[aQ];rintro _ aa ⟨⟨ps,rfl,bV⟩,ad⟩;rw[aM (by dsimp only;omega)]
 try dsimp only[bX,cC,cD,mK,Sr,bk,bH,hx,ie]
 have ρ:=ρ.ex ad;have ai:=ai.ex ad;have gJ:=e4.trans ad;refine aW (by rw[fh];exact bV.at.dU) (ρ.put (cs:=bK R ps) bV.at.dU bV.at.one λaE dN cu=>?_);have t1:∀i,i=δ->Typed aa bU i:=λi o=>o▸(ρ.typed rfl).1;have ai:=ai.cB dN bU t1 (by decide);have bV:=bV.cB dN bU t1 (by decide);have l8:η w aE:=gJ.then dN λi o=>by omega
 refine aW rfl (ai.put (cs:=two s k) rfl mW λba ec bS=>?_);have t2:∀i,i=θ->Typed aE b2 i:=λi o=>o▸(ai.typed rfl).1;have cu:=cu.cB ec b2 t2 (by decide);have bV:=bV.cB ec b2 t2 (by decide);have ks:η w ba:=l8.then ec λi o=>by omega
 rw[cond_neg (by rfl)];refine⟨(two s k).toArray,rfl,bS.cells,?_⟩;refine κ.use (XA dS ba) ?_;rintro _ cf ⟨rfl,cm⟩
 try dsimp only[bX,cC,cD,bk,bH]
 have sC:=ks.trans cm;have cu:=cu.ex cm;have bS:=bS.ex cm;have bV:=bV.ex cm;refine κ.use (I5 (aj.ex sC).dev) ?_;rintro _ ax3 ⟨rfl,ak0⟩;obtain rfl:=ak0.symm
 try dsimp only[bH]
 rw[iD (by omega)];refine κ.use (eh.QO (aj.ex sC).dev aj.fa aj.off aj.len q aC) ?_;rw[pb];rintro _ eA ⟨p,c,rfl,ol,l3⟩
 try dsimp only[bX,cC,cD,mK,bk,bH,dY]
 rw[cond_neg (by rfl)];have aje:=sC.trans l3;have cu:=cu.ex l3;have bS:=bS.ex l3;have bV:=bV.ex l3;refine⟨(bK R ps).toArray,by rw[fh];exact bV.at.dU,cu.cells,?_⟩;refine κ.use (ahz bV.at f1) ?_;rintro _ fE ⟨E5,rfl,lP,sx⟩
 try dsimp only[bX,cC,cD,mK,bk,bH,hx,ie]
 have Q5:=aje.trans sx;have cu:=cu.ex sx;have bS:=bS.ex sx;refine aW (by rw[fh];exact lP.at.dU) (cu.put (cs:=bK R E5) lP.at.dU lP.at.one λfv BR kn=>?_);have t5:∀i,i=δ->Typed fE bU i:=λi o=>o▸(cu.typed rfl).1;have bS:=bS.cB BR bU t5 (by decide);have lP:=lP.cB BR bU t5 (by decide);have ajf:η w fv:=Q5.then BR λi o=>by omega
 rw[cond_neg (by rfl)];refine⟨(bK R E5).toArray,by rw[fh];exact lP.at.dU,kn.cells,(two s k).toArray,rfl,bS.cells,?_⟩;refine κ.use (Xf lP.at s k) ?_;rintro _ eJ ⟨⟨e,rfl,he⟩,nA⟩;obtain rfl:=he.2 bg
 try dsimp only[bH]
 rw[cond_neg (by rfl)];have CK:=ajf.trans nA;have kn:=kn.ex nA;have bS:=bS.ex nA;have lP:=lP.ex nA;refine⟨(bK R E5).toArray,by rw[fh];exact lP.at.dU,kn.cells,(two s k).toArray,rfl,bS.cells,?_⟩;have zW:(gm (used R)).length<=4096:=by
  have:(s-4)*k<=20*16:=sd (by omega) (by omega) (by omega) (by omega)
  have ι:(gm (used R)).length=iF R:=rfl;omega
 refine κ.use (QI lP.at bg.1 zW (but:=[]) (bp:=none) (bn:=0) (bc:=0) (μ.nil eJ 0 cj 1).cells rfl (by omega)) ?_;rintro _ hP ⟨aX,c2,rfl,rh,_⟩
 try dsimp only[bX,cC,cD,bk,bH,dY]
 rw[iD (by omega)];have XZ:=(CK.trans rh).trans (η.drew hP);have kn:=(kn.ex rh).ex (η.drew hP);have bS:=(bS.ex rh).ex (η.drew hP);have lP:=(lP.ex rh).ex (η.drew hP);generalize hP.drew=kR at XZ kn bS lP⊢;refine⟨(bK R E5).toArray,by rw[fh];exact lP.at.dU,kn.cells,(two s k).toArray,rfl,bS.cells,aW (by rw[fh];exact lP.at.dU) (kn.put (cs:=bK R E5) lP.at.dU lP.at.one λiz Ae r3=>?_)⟩;have t7:∀i,i=δ->Typed kR bU i:=λi o=>o▸(kn.typed rfl).1;have bS:=bS.cB Ae bU t7 (by decide);have lP:=lP.cB Ae bU t7 (by decide);have ajg:η w iz:=XZ.then Ae λi o=>by omega
 refine aW rfl ⟨bS.cells,aW rfl (bS.put (cs:=two s k) rfl mW λsr Oe ED=>?_)⟩;have t8:∀i,i=θ->Typed iz b2 i:=λi o=>o▸(bS.typed rfl).1;have r3:=r3.cB Oe b2 t8 (by decide);have lP:=lP.cB Oe b2 t8 (by decide);refine⟨(bK R E5).toArray,by rw[fh];exact lP.at.dU,r3.cells,(two s k).toArray,rfl,ED.cells,?_⟩;exact χ.mk ⟨E5,rfl,lP,ajg.then Oe λi o=>by omega⟩
end Go.Proofs.YtcpdfhkhaekekaaGreat.G.eb

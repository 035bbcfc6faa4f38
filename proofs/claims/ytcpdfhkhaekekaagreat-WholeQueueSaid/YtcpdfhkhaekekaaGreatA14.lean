/- The walk of the functions, and the plain laws of the model: part of the proof. Conditions: none. -/
import Derived.Tactics
import Derived.Tactics2
import Derived.Defers
import Derived.Recover
import Derived.Orders
import Derived.Laws.Pointers
import Derived.Test.YtcpdfhkhaekekaaGreatA13
set_option linter.unusedVariables false
set_option linter.unusedSimpArgs false
namespace Go.Proofs.YtcpdfhkhaekekaaGreat.G.cV
open Go.bI Go.RowKit cr dB eh cQ aK
theorem Zt(x:di):∀(l:List di)(m:aK),hT m (l++[x])=((ga (hT m l).1 (gO (hT m l).1.k (hT m l).1.d x) 0).1,(hT m l).2++[(ga (hT m l).1 (gO (hT m l).1.k (hT m l).1.d x) 0).2])
 |[],m=>rfl
 |y::l,m=>by show((hT (ga m (gO m.k m.d y) 0).1 (l++[x])).1,(ga m (gO m.k m.d y) 0).2::(hT (ga m (gO m.k m.d y) 0).1 (l++[x])).2)=_;rw[Zt x l];rfl
structure Rb(m:aK)(g:Nat):Prop where
 aqy:Jm m.R (fe m g) (hT m (fe m g)).2
 wj:xb {(hT m (fe m g)).1 with R:=ln m.R (fe m g) (hT m (fe m g)).2}
 len:(fe m g).length<16
 sub:∀x∈fe m g,x∈used m.R
 dw:∀j,Rc m (hT m ((fe m g).take j)).1 ((fe m g).take j) (hT m ((fe m g).take j)).2 (used m.R)
theorem akO{m:aK}(h:Inv m)(aF:0<=m.clock){g:Nat}(hp:r7 m.k (h6 m.s.toNat (lays (used m.R))) (oG m) m.st.head=some g):Rb m g:=by
 have ψ:=LY h.base;have bL:=h.gG;obtain⟨f1,f2,f3⟩:=(lJ bL).1 h.fit;obtain⟨g1,g2,g3,g4⟩:=VQ hp;have T8:∀x,x∈lays (used m.R)↔x∈used m.R:=λx=>HY h.ok;have h8:∀x,x∈fe m g↔x∈used m.R/\x.1=g:=λx=>by unfold fe;rw[mO,T8,pJ];exact⟨λ⟨a,b⟩=>⟨a,by omega⟩,λ⟨a,b⟩=>⟨a,by omega⟩⟩
 have KN:(fe m g).Nodup:=(KX _).filter _;have oV:(fe m g).length=p4 (lays (used m.R)) g:=by
  unfold fe p4;congr 1;apply List.filter_congr;intro x _;by_cases e:x.1=g
  ·rw[bC (by omega)];symm;simpa using e
  ·rw[iJ (by omega)];symm;simpa using e
 have Zu:∀j,Rc m (hT m ((fe m g).take j)).1 ((fe m g).take j) (hT m ((fe m g).take j)).2 (used m.R):=λj=>
  Sf _ m (used m.R) h.base h.xl h.IN (λx I=>((h8 x).1 (wD I)).1) f2 (.inl ⟨h.two,by rw[gY];omega⟩)
 have dw:=Zu (fe m g).length;rw[AV]at dw;have wb:∀y∈(hT m (fe m g)).2,y∉used m.R/\gS y:=λy ag=>⟨dw.new y ag,by have:=dw.lt y ag;unfold gS;omega⟩;obtain⟨abu,f,aM,bz,gw,iS⟩:=Vj _ _ m.R KN dw.lo dw.len (λx I=>((h8 x).1 I).1) wb;have Om:∀x∈fe m g,f x∈(hT m (fe m g)).2:=λx I=>by rw[gw];exact gM.2 ⟨x,I,rfl⟩
 have UB:∀z,z∈used (ln m.R (fe m g) (hT m (fe m g)).2)↔∃w∈used m.R,f w=z:=λz=>by rw[aM,QK,gM]
 have nc:∀z∈used (ln m.R (fe m g) (hT m (fe m g)).2),z∈(hT m (fe m g)).2\/(z∈used m.R/\z∉fe m g):=λz aI=>by
  obtain⟨w,hw,rfl⟩:=(UB z).1 aI;by_cases I:w∈fe m g
  ·exact .inl (Om w I)
  ·rw[bz w hw I];exact .inr ⟨hw,I⟩
 refine⟨abu,?_,by omega,λx I=>((h8 x).1 I).1,Zu⟩;refine⟨⟨dw.base.gG,dw.base.e8,dw.base.gT,dw.base.blocks⟩,⟨dw.dev.dev,dw.dev.off,dw.dev.after,dw.dev.mA⟩,?_,?_,?_,?_,?_,?_,?_,?_,?_⟩
 ·dsimp only;rw[aM];unfold kg;rw[jP];exact h.len
 ·dsimp only;intro e he;refine Pg (λq ay=>?_) (Gb f1 e he);cases q with
  |none=>trivial
  |some z=>
   rcases nc z (wi.2 ⟨e,he,ay⟩)with aI|aI
   ·exact(wb z aI).2
   ·exact rj h.ok z aI.1
 ·dsimp only;rw[dw.s,dw.k];refine(lJ bL).2 ⟨Gb f1,λz aI=>?_,by rw[aM,aci iS];exact f3⟩;rcases nc z aI with aI|aI
  ·exact dw.lt z aI
  ·exact f2 z aI.1
 ·dsimp only;refine⟨λz aI=>dw.ok.free z ?_,λz aI=>dw.ok.head z ?_⟩
  ·rcases nc z aI with aI|aI
   ·exact iI.2 (.inl aI)
   ·exact iI.2 (.inr aI.1)
  ·rcases nc z aI with aI|aI
   ·exact iI.2 (.inl aI)
   ·exact iI.2 (.inr aI.1)
 ·dsimp only;rw[dw.ot,dw.s];exact h.ot
 ·dsimp only;rw[dw.clock];exact dw.qz h.qz aF
 ·dsimp only;rw[dw.dl];exact h.dl
 ·dsimp only;rw[dw.nn];exact h.nn
 ·dsimp only;rw[dw.seq];exact h.seq
theorem apT{w δ υ:World}{T:List Nat}{S:a1}(h:Kp w δ (hF w T))(k:Kp δ υ S)(ed:∀i,S i->hF δ T i\/w.heap.size<=i):Kp w υ (hF w T):=by
 refine Kp.trans h k (λ_ _ h=>h) λi o ψ=>?_;rcases ed i ψ with⟨e,he,c,fr,aO⟩|h1
 ·by_cases en:hF w T i
  ·exact en
  ·exact⟨e,he,c,fr,by rw[<-h.block i o en];exact aO⟩
 ·omega
section
variable{w:World}{pp pd:Nat}{m:aK}{xs:List (bG.cg×Int)}{aj:Int}{D:a1}
def yw(m:aK)(n j:Nat):ao:=(oG m).take j++List.replicate (n-j) 0
theorem aj8{m:aK}{n j:Nat}(ar:m.stamps.length=n)(χ:j<n):(yw m n j).set j (min2 (m.clock-m.stamps[j]'(by omega)) 65535)=yw m n (j+1):=by
 have an:(oG m).length=n:=by simp[oG,ar]
 have bL:(oG m)[j]'(by omega)=min2 (m.clock-m.stamps[j]'(by omega)) 65535:=by simp[oG]
 unfold yw;rw[CC _ _ (by rw[gY];omega),gY,q8 (by omega),u4,show n-j=(n-(j+1))+1 by omega,FH,It,lq (by omega),bL,mc];rfl
theorem dQ.loc{w0 w':World}{dY:a1}(h:dQ w0 dY w pp pd m xs aj D){b:Nat}(k:Kp w w' λi=>i=b)(ω:¬D b)(aF:w0.heap.size<=b){e:TypeId}(aO:Typed w e b)(en:e∉Bw)(dr:e≠cG):dQ w0 dY w' pp pd m xs aj D:=
 ⟨h.is.aC k (λi ae e=>ω (e▸ae)) (λi o sZ=>(yb.1 sZ).off (o▸aO) en) λi o kE=>(o▸aO:Typed w e i).ne kE dr rfl,Kp.trans h.aC k (λ_ _ h=>h) (λi o ψ=>by omega),h.sub⟩
theorem akM{w0:World}{dY:a1}{g:Nat}(o:Inv m)(vK:Rb m g)(ay:m.seq+1<=1073741824)(an:m.d.loose.length<=900000){W:World}{e5:a1}(h:dQ w0 dY W pp pd (hT m (fe m g)).1 xs aj e5){ε nS kA Q6:Nat}{ps:aU}(BW:w0.heap.size<=nS)(ho:μ W nS bX 24 (some ⟨ε,0,none⟩) 1 1 (bN m.R ps))(b0:fy W m.R ps)
  {p ng:J}{n c d:Nat}(of:μ W kA eA 1 p n c (dE (fe m g)))(uV:μ W Q6 eA 1 ng n d (dE (hT m (fe m g)).2)){Z:Value->ai}
  (dx:∀w' bb,dQ w0 dY w' pp pd (qS {(hT m (fe m g)).1 with R:=ln m.R (fe m g) (hT m (fe m g)).2}) xs aj bb->Z (.tuple #[]) w'):
  iV.b7 (some ⟨pp,0,none⟩) ε p n c ng n d W (φ Z):=by
 have dw:=vK.dw (fe m g).length;rw[AV]at dw;obtain⟨f1,f2,f3⟩:=(lJ o.gG).1 o.fit;have ar:n<=1000:=by have h1:=of.1;rw[zg]at h1;have:=vK.len;omega
 unfold iV.b7;refine⟨(bN m.R ps).toArray,by rw[fp];exact b0.at.dX,ho.cells,?_⟩;refine κ.use (ail b0 f1 vK.aqy of uV (by omega)) ?_;rintro _ k3 ⟨tl,rfl,n5,ym⟩
 try dsimp only[bj,bZ,cC,cD,bH,hz,iG]
 have ho:=ho.ex ym;refine aW (by rw[fp];exact n5.at.dX) (ho.put (cs:=bN _ tl) n5.at.dX n5.at.one λjr AD wo=>?_);have n5:=n5.cI AD bX (λi o=>o▸(ho.typed rfl).1) (by decide);have aay:=h.ex ym;have aox:¬hF k3 nV ε:=λaO=>aO.off (ho.typed rfl).1 (by decide);have Lv:=aay.loc AD (λae=>aox (aay.is.fV ae).1) (fo BW (ho.ge rfl).1) (ho.typed rfl).1 (by decide) (by decide);refine jz (λ_=>?_) λh=>absurd rfl h
 try dsimp only[bZ]
 refine⟨(bN _ tl).toArray,by rw[fp];exact n5.at.dX,wo.cells,?_⟩;refine κ.use (XT n5.at (Gb f1)) ?_;rintro _ tQ ⟨adO,rfl,I9,σ⟩
 try dsimp only[bZ,cC,cD,bj,bH,mX]
 have ash:=Lv.ex I9;obtain⟨q,c8,dy,db,aaz,b1⟩:=ash.at_;simp only[dF];refine aaz.put 4 (by omega) rfl λnM apK Fa=>?_;rw[arS]at Fa;obtain⟨fR,σ⟩:=σ;have B9:kn tQ 0 adO (ln m.R (fe m g) (hT m (fe m g)).2):=⟨fR,⟨σ.γ.lower (da _),σ.len,σ.j1,σ.tb⟩⟩;have ny:jr.heap.size<=adO:=(σ.γ.ge rfl).1;obtain⟨amH,uN⟩:=aaz.atI B9 apK Fa;have asi:dQ jr e5 nM pp pd _ xs aj _:=⟨⟨_,_,_,_,amH,λi=>nh⟩,(I9.aC e5).gr (uN.mono λi _ o=>(b1 i).2 o),λi o=>by
  rcases o with o|o|o|o|o
  ·exact .inl ((b1 i).2 (.inl o))
  ·exact .inl ((b1 i).2 (.inr (.inl o)))
  ·exact .inl ((b1 i).2 (.inr (.inr (.inl o))))
  ·exact .inr (o▸ny)
  ·exact .inl ((b1 i).2 (.inr (.inr (.inr (.inr o)))))⟩
 have ad0:=Lv.trans asi;refine κ.use (Np ad0.is vK.wj (by dsimp only;rw[dw.seq];exact ay) (by dsimp only;rw[dw.loose];have:=vK.len;omega)) ?_;rintro _ ox ⟨rfl,bb,hp⟩
 try dsimp only[bZ]
 exact φ.mk (dx _ bb (ad0.trans hp))
theorem akN{w0:World}{dY:a1}{g:Nat}(o:Inv m)(vK:Rb m g)(ay:m.seq+1<=1073741824)(an:m.d.loose.length<=900000){pZ:World}{e5:a1}(h:dQ w0 dY pZ pp pd m xs aj e5){ε nS kA:Nat}{ps:aU}(BW:w0.heap.size<=nS)(ho:μ pZ nS bX 24 (some ⟨ε,0,none⟩) 1 1 (bN m.R ps))(b0:fy pZ m.R ps)
  {p:J}{n c:Nat}(of:μ pZ kA eA 1 p n c (dE (fe m g))){Z:Value->ai}
  (dx:∀w' bb,dQ w0 dY w' pp pd (qS {(hT m (fe m g)).1 with R:=ln m.R (fe m g) (hT m (fe m g)).2}) xs aj bb->Z (.tuple #[]) w'):
  iV.fm (some ⟨pp,0,none⟩) ε p n c none 0 0 p n c (n:Int) 0 pZ (φ Z):=by
 have n0:(fe m g).length=n:=by have:=of.1;rw[zg,eG]at this;exact this
 have axO:=vK.len;obtain⟨f1,f2,f3⟩:=(lJ o.gG).1 o.fit;unfold iV.fm;refine⟨λt0 t2 hX fB ir CL zs Gu Qw Qv WM t97 t98 W=>some ⟨pp,0,none⟩=t0/\ε=t2/\p=hX/\n=fB/\c=ir/\p=Qw/\n=Qv/\(n:Int)=t97/\0<=t98/\t98<=n/\t98=zs/\Kp pZ W (hF pZ nV)/\μ W pZ.heap.size eA 1 CL zs Gu (dE (hT m ((fe m g).take t98.toNat)).2)/\∃bb,dQ w0 dY W pp pd (hT m ((fe m g).take t98.toNat)).1 xs aj bb,
  λ_ _ _ _ _ _ _ _ _ _ _ _ t98 _=>(n-t98).toNat,⟨rfl,rfl,rfl,rfl,rfl,rfl,rfl,rfl,by omega,by omega,rfl,Kp.refl _ _,μ.nil _ _ _ _,e5,h⟩,?_⟩
 rintro _ _ _ _ _ CL zs Gu _ _ WM _ t98 W ⟨rfl,rfl,rfl,rfl,rfl,rfl,rfl,rfl,aF,h1,N4,K,uV,bb,uI⟩;unfold iV.ι;obtain⟨j,rfl⟩:=eR aF;rw[cP]at uV uI;obtain rfl:j=zs:=by omega
 have TZ:∀i,hF pZ nV i->hF pZ nV i:=λ_ h=>h;have adb:=gX K TZ of (by decide);have aq5:=gX K TZ ho (by decide);have wI:=WA K TZ b0 (by decide);refine bA (λχ=>?_) λχ=>?_
 ·have χ:=cd χ;have e3:j<(fe m g).length:=by omega
  have dw:=vK.dw j;have qg:=Zt (fe m g)[j] ((fe m g).take j) m;have sV:(fe m g).take (j+1)=(fe m g).take j++[(fe m g)[j]]:=lq e3;rw[<-sV]at qg;have Cd:=vK.sub _ (hN e3);have oV:=f2 _ Cd;have qU:(dE (fe m g))[j]?=some (dT (some (fe m g)[j])):=by unfold dE;rw[List.getElem?_map,List.getElem?_eq_getElem e3];rfl
  generalize(fe m g)[j]=x at qg Cd oV qU;generalize B4:(hT m ((fe m g).take j)).1=m1 at dw uI qg;generalize ET:(hT m ((fe m g).take j)).2=ys at dw uV qg;obtain⟨a,rfl,jQ⟩:=adb.cells.many qU;refine aW (by omega) (aW (by omega) ?_)
  try dsimp only[bj]
  rw[cP,eG];refine⟨_,_,jQ,?_⟩;obtain⟨q,c8,dy,db,cY,b1⟩:=uI.at_
  try simp only[dF]
  have Kl:=dw.base.gG;have UI:(x.1:Int)<m1.s/\(x.2:Int)<m1.k:=by rw[dw.s,dw.k];exact oV
  refine⟨(two m1.s m1.k).toArray,rfl,cY.wA,?_⟩;refine κ.use (Q5 Kl UI W) ?_;rintro _ eK ⟨rfl,oA⟩
  try dsimp only[bZ,cC,cD,bj,bH]
  have BU:=cY.ex oA;refine⟨_,BU.at (j:=1) rfl,?_⟩;obtain⟨TS,aa9⟩:=Wo dw.base dw.dev UI;have ax5:=F1 Kl UI;have xz:=dw.dev.mA;refine κ.use (bh.Bo BU.dev dw.dev.dev (me m1.k x)) ?_;rintro _ fb ⟨nN,σ⟩;have s4:bh.vT m1.d (me m1.k x)=0:=by unfold bh.vT;rw[aN (by rw[dw.dev.off];simp),aN (by omega)]
  obtain⟨_,bl,bJ,pK,HF,rfl,bu⟩:=σ.resolve_left λh=>h.1 s4
  try dsimp only[bZ,cC,cD,bj,bH,er]
  refine jz (λ_=>?_) λh=>absurd rfl h
  try dsimp only[bZ]
  rw[TS]at HF;cases HF;have Dd:=oA.trans nN;have Ie:=uI.ex Dd;have amY:Bu m1.st (ys++used m.R):=dw.ok;have pz:m1.d.loose.length<=1000000:=by rw[dw.loose,gY];omega
  have ao7:m1.stamps.length=m1.s.toNat:=by rw[dw.ot,dw.s];exact o.ot
  refine κ.use (Ct Ie.is dw.base dw.dev amY (Int.le_refl 0) (aeh (.inl dw.fZ)) ao7 pz bu aa9) ?_;rintro _ hg ⟨rfl,cM,l4⟩;unfold dT
  try dsimp only[rH]
  have asf:=Ie.trans l4;have ai3:Kp pZ fb (hF pZ nV):=K.gr (Dd.aC _);have ai4:Kp pZ hg (hF pZ nV):=apT ai3 l4.aC λi ae=>.inl (Ie.is.fV ae).1;have ado:=l4.c0 Ie.is (uV.ex Dd) (by decide);rintro af jf mC rfl;have rn:=θ.alloc hg (.cells #[dT (some (ga m1 (gO m1.k m1.d x) 0).2)] eA);have G1:a8 (hg.alloc (.cells #[dT (some (ga m1 (gO m1.k m1.d x) 0).2)] eA)) (some ⟨hg.heap.size,0,none⟩) [dT (some (ga m1 (gO m1.k m1.d x) 0).2)]:=a8.alloc _ eA;rw[<-mC]at G1;have alH:hg.alloc (.cells #[.complex .f64 (eI (some (ga m1 (gO m1.k m1.d x) 0).2)) (eQ (some (ga m1 (gO m1.k m1.d x) 0).2))] eA)=hg.alloc (.cells #[dT (some (ga m1 (gO m1.k m1.d x) 0).2)] eA):=rfl;rw[alH];generalize hg.alloc (.cells #[dT (some (ga m1 (gO m1.k m1.d x) 0).2)] eA)=jf at rn G1⊢;have XV:Kp pZ jf (hF pZ nV):=ai4.gr (rn.aC _);refine kT (ado.ex rn) XV.size [dT (some (ga m1 (gO m1.k m1.d x) 0).2)] G1 rfl (λy ag=>by simp only[lp]at ag;subst ag;rfl) rfl (by omega) (by omega) λiq mw kx ff fN=>?_;have Pu:=asf.ex rn;have low:∀i,(∃y,CL=some y/\y.block=i)->pZ.heap.size<=i/\Typed jf eA i:=λi⟨y,ag,ω⟩=>⟨ω▸(uV.ge ag).1,ω▸((ado.ex rn).typed ag).1⟩;have apo:=h.aC.size;have asg:dQ w0 dY kx pp pd (ga m1 (gO m1.k m1.d x) 0).1 xs aj cM:=⟨Pu.is.aC fN (λi ae ψ=>(Pu.is.fV ae).1.off (low i ψ).2 (by decide)) (λi ψ en=>(yb.1 en).off (low i ψ).2 (by decide)) λi ψ aO=>(low i ψ).2.ne aO (by decide) rfl,Kp.trans Pu.aC fN (λ_ _ h=>h) (λi o ψ=>by have:=(low i ψ).1;omega),Pu.sub⟩;rw[b3 (x:=(j:Int)+1) (by omega) (by omega)];have aM:((j:Int)+1).toNat=j+1:=by omega
  refine⟨⟨by trivial,by trivial,by trivial,by trivial,by trivial,by trivial,by trivial,by trivial,by omega,by omega,by omega,?_,?_,cM,?_⟩,by((try dsimp only);omega)⟩
  ·exact Kp.trans XV fN (λ_ _ h=>h) λi o ψ=>by have:=(low i ψ).1;omega
  ·rw[aM,qg]
   have:dE (ys++[(ga m1 (gO m1.k m1.d x) 0).2])=dE ys++[dT (some (ga m1 (gO m1.k m1.d x) 0).2)]:=by simp[dE]
   dsimp only;rw[this];exact ff
  ·rw[aM,qg];exact asg
 ·have χ:=dh χ;obtain rfl:j=n:=by omega
  rw[hr (by omega)]at uV uI;exact akM o vK ay an uI BW aq5 wI adb uV dx
end
section
variable{w:World}{pp pd:Nat}{m:aK}{xs:List (bG.cg×Int)}{aj:Int}{D:a1}
theorem aj9{m:aK}{n:Nat}:yw m n 0=List.replicate n 0:=by simp[yw]
theorem aj7{m:aK}{n:Nat}(ar:m.stamps.length=n):yw m n n=oG m:=by unfold yw;rw[u4,hr (by simp[oG,ar])];simp
theorem akL(o:Inv m)(ay:m.seq+1<=1073741824)(an:m.d.loose.length<=900000)(Ke:0<=m.clock){W:World}(aF:hj w pp pd m xs aj D)(h:dQ w D W pp pd m xs aj D){ε nS:Nat}{ps:aU}(BW:w.heap.size<=nS)(ho:μ W nS bX 24 (some ⟨ε,0,none⟩) 1 1 (bN m.R ps))(b0:fy W m.R ps)
  {p ng:J}{n c d:Nat}(ar:m.s.toNat=n){kA Q6:Nat}(ol:μ W kA ck 1 p n c (bs.cK (h6 n (lays (used m.R)))))(oe:μ W Q6 ck 1 ng n d (bs.cK (oG m))):
  iV.aZ (some ⟨pp,0,none⟩) ε p n c ng n d W (φ λv w'=>v=.tuple #[]/\∃bb,dQ w D w' pp pd (pv m) xs aj bb):=by
 have ψ:=LY o.base;have bL:=o.gG;have aoq:=acw bL;unfold iV.aZ;obtain⟨q,c8,dy,db,cY,b1⟩:=h.at_
 try dsimp only[bj]
 simp only[dF];refine⟨_,cY.at (j:=5) rfl,?_⟩;refine κ.use (bs.XS cY.st o.e8) ?_;rintro _ ca ⟨cv,ej,fU,rfl,_⟩
 try dsimp only[bZ,cC,cD,bj,bH,er]
 have kD:=cY.ex cv;refine⟨(two m.s m.k).toArray,rfl,kD.wA,?_⟩;rintro aH cH jc rfl;have bu:=μ.new (w:=ca) [.int .i64 m.st.head] ck;rw[<-jc]at bu;have fu:=θ.alloc ca (.cells #[.int .i64 m.st.head] ck);generalize ca.alloc (.cells #[.int .i64 m.st.head] ck)=cH at bu fu⊢;have M6:=cv.trans fu;have Ko:∀x∈h6 n (lays (used m.R)),0<=x/\x<=m.k:=λx I=>by
  unfold h6 at I;obtain⟨i,lg,rfl⟩:=gM.1 I;refine⟨by omega,?_⟩;have oT:=(KX (used m.R)).filter λx:di=>x.1==i
  have:=rZ (((lays (used m.R)).filter λx=>x.1==i).map Prod.snd) (List.range m.k.toNat) (by
   refine PR (S:=λa b=>a≠b) (R:=λa b=>a.2≠b.2) _ (λa b h=>h) ?_;refine V9 (λ{a b}aP ω s0 e=>s0 ?_) oT;have h1:=(mO.1 aP).2;have η:=(mO.1 ω).2
   exact AY (by have h1:a.1=i:=by simpa using h1
                have η:b.1=i:=by simpa using η
                rw[h1,η]) e) λz aI=>by
   obtain⟨x,I,rfl⟩:=gM.1 aI
   have:=((lJ bL).1 o.fit).2.1 x ((HY o.ok).1 (mO.1 I).1)
   exact nF.2 (by omega)
  rw[jP,CA]at this;omega
 have Ka:∀x∈oG m,0<=x/\x<65536:=λx I=>by
  unfold oG at I;obtain⟨t,aO,rfl⟩:=gM.1 I
  have:=o.qz t aO
  unfold min2;split<;>omega
 have abm:(h6 n (lays (used m.R))).length=n:=DQ _ _;have am9:(oG m).length=n:=by simp[oG];rw[o.ot,ar]
 have hp:∀r,r=r7 m.k (h6 m.s.toNat (lays (used m.R))) (oG m) m.st.head->r7 m.k (h6 n (lays (used m.R))) (oG m) m.st.head=r:=λr e=>by rw[e,ar]
 refine κ.use (ajn (s:=m.s) aoq (ol.ex M6).cells (oe.ex M6).cells bu.cells abm am9 (by omega) Ko Ka) ?_;rintro _ cn ⟨rfl,dG⟩;have Pt:=h.ex (M6.trans dG);unfold pv;cases OA:r7 m.k (h6 m.s.toNat (lays (used m.R))) (oG m) m.st.head with
 |none=>
  rw[hp _ OA.symm]
  try dsimp only[bZ,cC,cD,bj,bH]
  rw[cond_pos (by rfl)];refine κ.use (Np Pt.is o.wj ay (by omega)) ?_;rintro _ dJ ⟨rfl,bb,π⟩
  try dsimp only[bZ]
  exact φ.mk ⟨rfl,bb,Pt.trans π⟩
 |some g=>
  rw[hp _ OA.symm]
  try dsimp only[bZ,cC,cD,bj,bH]
  rw[cond_neg (by rfl)];have vK:=akO o Ke OA;obtain⟨g1,g2,g3,g4⟩:=VQ OA;obtain⟨fO,awU,awS,awW,Ob,Tj⟩:=Pt.at_
  try simp only[dF]
  refine⟨_,Ob.at (j:=6) rfl,?_⟩;rw[cond_neg (by simp;omega)];unfold iV.bP;have eH:=θ.drew cn;have r8:=Pt.ex eH;have rv:=(M6.trans dG).trans eH;have ho:=ho.ex rv;have b0:=b0.ex rv;have vV:=Ob.ex eH;generalize cn.drew=de at r8 ho b0 vV⊢;refine⟨(bN m.R ps).toArray,by rw[fp];exact b0.at.dX,ho.cells,?_⟩
  try dsimp only[bj]
  try simp only[dF]
  refine⟨(two m.s m.k).toArray,rfl,vV.wA,?_⟩;have Ar:(gB (used m.R)).length<=4096:=by
   have h1:=((lJ bL).1 o.fit).2.2
   have:(m.s-4)*m.k<=20*16:=se (by omega) (by omega) (by omega) (by omega)
   have η:(gB (used m.R)).length=iP m.R:=rfl;omega
  refine κ.use (aiX b0.at o.fit.1 Ar (g:=g) (by omega)) ?_;rintro _ gj ⟨fD,h2,rfl,w4,pG⟩
  try dsimp only[bZ,cC,cD,bj,bH,er]
  exact akN o vK ay an (r8.ex w4) BW (ho.ex w4) (b0.ex w4) pG λw' bb aL=>⟨rfl,bb,aL⟩
theorem akP(h:hj w pp pd m xs aj D)(o:Inv m)(ay:m.seq+1<=1073741824)(an:m.d.loose.length<=900000)(Ke:0<=m.clock/\m.clock<=1000000000):iV.C (some ⟨pp,0,none⟩) w (φ λv w'=>v=.tuple #[]/\∃bb,dQ w D w' pp pd (pv m) xs aj bb):=by
 have ψ:=LY o.base;have bL:=o.gG;obtain⟨n,ar⟩:∃n,m.s.toNat=n:=⟨_,rfl⟩;apply iV.ok;unfold iV.main;refine κ.use (M1 h o.ok) ?_;rintro _ δ ⟨ps,rfl,b0,ζ⟩
 try dsimp only[bj,hz,iG]
 refine A3 ζ λε aa eb gw ab hS bu=>?_;have b0:=b0.ex ab;refine aW (by rw[fp];exact b0.at.dX) (bu.put (cs:=bN m.R ps) b0.at.dX b0.at.one λax cp cm=>?_);have b0:=b0.cI cp bX (λi o=>o▸(bu.typed rfl).1) (by decide);have ju:θ w ax:=hS.then cp λi o=>by omega
 have eH:=θ.drew ax;have ns:=ju.trans eH;have cz:=cm.ex eH;have Qc:=b0.ex eH;clear bu cm b0 cp ju ab hS ζ;generalize ax.drew=aG at eH ns cz Qc⊢;refine⟨(bN m.R ps).toArray,by rw[fp];exact Qc.at.dX,cz.cells,?_⟩;obtain⟨q,c8,dy,db,cY,b1⟩:=h;have aF:hj w pp pd m xs aj D:=⟨q,c8,dy,db,cY,b1⟩;simp only[dF];refine⟨(two m.s m.k).toArray,rfl,(cY.ex ns).wA,?_⟩;have Ar:(gB (used m.R)).length<=4096:=by
  have h1:=((lJ bL).1 o.fit).2.2
  have:(m.s-4)*m.k<=20*16:=se (by omega) (by omega) (by omega) (by omega)
  have η:(gB (used m.R)).length=iP m.R:=rfl;omega
 refine κ.use (XG Qc.at o.fit.1 Ar) ?_;rintro _ ba ⟨pl,dl,rfl,aJ,ol⟩
 try dsimp only[bZ,cC,cD,bj,bH,er]
 rw[ar]at ol⊢;refine aW (by omega) (aW (by omega) (aW (by omega) ?_));rintro ι bk ee rfl;have em:madeCells #[Value.int .i64 0] (n*1)=(bs.cK (List.replicate n 0)).toArray:=by
  have:=E4 1 (n*1) (Value.int .i64 0) (by decide)
  rw[eG]at this⊢;rw[show(#[Value.int .i64 0]:ah)=(List.replicate 1 (Value.int .i64 0)).toArray from rfl,this];unfold bs.cK;rw[Ly]
 rw[em];have oe:=μ.alloc (w:=ba) (bs.cK (List.replicate n 0)) ck 1 n (by simp[bs.cK]);rw[<-ee]at oe;have aV:=θ.alloc ba (.cells (bs.cK (List.replicate n 0)).toArray ck);generalize ba.alloc (.cells (bs.cK (List.replicate n 0)).toArray ck)=bk at oe aV⊢;have Jt:=(ns.trans aJ).trans aV;have zj:=(dQ.start aF).ex Jt;have eM:=(cz.ex aJ).ex aV;have Qd:=(Qc.ex aJ).ex aV;have are:=ol.ex aV;have axp:w.heap.size<=ι:=by have:=(ns.trans aJ).size;omega
 have anp:¬D ι:=λae=>by have:=(aF.fV ae).2;omega
 have Ow:∀x,pl=some x->x.block≠ι:=λx I e=>by have:=(ol.ge I).2;omega
 have h7:=cY.ex Jt
 try simp only[dF]
 refine⟨_,_,_,h7.at (j:=11) rfl,?_⟩;have qg:m.stamps.length=n:=by rw[o.ot,ar]
 rw[qg];unfold iV.bd;refine⟨λt0 t2 dW dL ec lR mi mh Qp Qo WI t39 t40 W=>some ⟨pp,0,none⟩=t0/\ε=t2/\pl=dW/\n=dL/\dl=ec/\some ⟨ι,0,none⟩=lR/\n=mi/\n=mh/\some ⟨q.kv,0,none⟩=Qp/\n=Qo/\(n:Int)=t39/\0<=t40/\t40<=n/\Kp bk W (λi=>i=ι)/\fi W pp pd q c8 dy db m xs aj/\μ W ι ck 1 (some ⟨ι,0,none⟩) n n (bs.cK (yw m n t40.toNat)),
  λ_ _ _ _ _ _ _ _ _ _ _ _ t40 _=>(n-t40).toNat,⟨rfl,rfl,rfl,rfl,rfl,rfl,rfl,rfl,rfl,rfl,rfl,by omega,by omega,Kp.refl _ _,h7,by rw[Int.toNat_zero,aj9];exact oe⟩,?_⟩
 have aq4:Typed bk ck ι:=(oe.typed rfl).1;have ani:ε≠ι:=λe=>by have h1:=(cz.ge rfl).2;have η:=aJ.size;dsimp only at h1;omega
 clear oe h7;rintro _ _ _ _ _ _ _ _ _ _ WI _ t40 W ⟨rfl,rfl,rfl,rfl,rfl,rfl,rfl,rfl,rfl,rfl,rfl,g0,g1,K,jX,oe⟩;unfold iV.ε;obtain⟨j,rfl⟩:=eR g0;rw[cP]at oe;refine bA (λχ=>?_) λχ=>?_
 ·have χ:=cd χ;have e3:j<m.stamps.length:=by omega
  refine aW (by omega) (aW (by omega) ?_)
  try dsimp only[bj]
  try simp only[dF]
  rw[cP,eG];have ax6:=o.qz m.stamps[j] (hN e3);have Uy:=jX.stamps.at (bs.uL (List.getElem?_eq_getElem e3));refine⟨_,Uy,_,jX.at (j:=10) rfl,aW (by omega) (aW (by omega) ?_)⟩;rw[b3 (x:=m.clock-m.stamps[j]) (by omega) (by omega)]
  try rw[dF]
  refine oe.dj (j:=j) (v:=.int .i64 (min2 (m.clock-m.stamps[j]) 65535)) (by omega) rfl λb9 fN ff=>?_;have ux:(bs.cK (yw m n j)).set j (.int .i64 (min2 (m.clock-m.stamps[j]) 65535))=bs.cK (yw m n (j+1)):=by rw[<-aj8 qg (by omega)];unfold bs.cK;rw[q6]
  rw[ux]at ff;rw[b3 (x:=(j:Int)+1) (by omega) (by omega)];have aM:((j:Int)+1).toNat=j+1:=by omega
  refine⟨⟨by trivial,by trivial,by trivial,by trivial,by trivial,by trivial,by trivial,by trivial,by trivial,by trivial,by trivial,by omega,by omega,K.gr fN,?_,by rw[aM];exact ff⟩,by((try dsimp only);omega)⟩;exact jX.aC fN (λi bf e=>anp (e▸(b1 i).2 bf)) (λi e en=>(yb.1 en).off (e▸(oe.typed rfl).1) (by decide)) λi e aO=>(e▸(oe.typed rfl).1:Typed W ck i).ne aO (by decide) rfl
 ·have χ:=dh χ;obtain rfl:j=n:=by omega
  rw[aj7 qg]at oe;have ho:=eM.aC K λx I e=>by cases I;exact ani e
  have b0:=Qd.aC K λi aO _ e=>by subst e;exact aq4.ne aO (by decide) rfl
  have arf:=are.aC K λx I e=>Ow x I e;have Lw:dQ w D W pp pd m xs aj D:=⟨⟨q,c8,dy,db,jX,b1⟩,Kp.trans (Jt.aC D) K (λ_ _ h=>h) (λi o e=>by omega),λi h=>.inl h⟩;exact akL o ay an Ke.1 aF Lw eb ho b0 ar arf oe
end
open Tryz
section
variable{w:World}{pp pd:Nat}{m:aK}{xs:List (bG.cg×Int)}{aj:Int}{D:a1}
def qO(a:aK.Ask)(p:J)(n c:Nat):aU:=[.int .i64 a.k,.int .i64 a.v,.int .i64 a.b,.int .i64 a.s,.slice p n c]
theorem ati{R:bW}{v b:Int}{e:fL}(he:gd R v=some e)(hk:e.1≠2)(ω:0<=b/\b<e.2.1):A2 R v b=0:=by unfold A2;rw[he];dsimp only;rw[aN hk,aY ω]
theorem awC(o:Inv m)(ar:m.dl.length<=100000000)(an:m.d.loose.length<=1000000)(aF:hj w pp pd m xs aj D){W:World}(x:θ w W){a:aK.Ask}{ε B C2:Nat}{p:J}{c:Nat}(ho:μ W B ev 5 (some ⟨ε,0,none⟩) 1 1 (qO a p 64 c))(ff:μ W C2 cG 1 p 64 c (bg a.bF))(ψ:bh.kP a.bF)
  {e:fL}(he:gd m.R a.v=some e)(hk:e.1≠2)(ω:0<=a.b/\a.b<e.2.1)(HA:(iP m.R:Int)+1<=m.cap)(σ:bs.room m.st 2=true){R:ak}
  (dx:∀w' bb,dQ w D w' pp pd (o2 {(ga m a.bF 2).1 with R:=jD m.R a.v.toNat a.b.toNat (some (ga m a.bF 2).2)} ⟨4,a.v,0,a.b,(ga m a.bF 2).2.1,(ga m a.bF 2).2.2⟩) xs aj bb->R (.returned (.tuple #[])) w'):
  kl.b7 (some ⟨pp,0,none⟩) ε W R:=by
 have dI:=Ps o.base o.IN (show(0:Int)<=2 by decide) σ a.bF;have ed:=((lJ o.gG).1 o.fit).1;have Lw:=(dQ.start aF).ex x;unfold kl.b7;refine⟨_,_,_,ho.at (j:=4) rfl,?_⟩;refine κ.use (Ct Lw.is o.base o.xl o.IN (show(0:Int)<=2 by decide) σ o.ot an ff ψ) ?_;rintro _ k3 ⟨rfl,cM,l4⟩;have ho:=l4.c0 Lw.is ho (by decide);have I:=dI.lt;have abr:(ga m a.bF 2).1.R=m.R:=rfl;have abt:(ga m a.bF 2).1.dl=m.dl:=rfl;generalize B4:(ga m a.bF 2).1=m1 at l4 abr abt dx;generalize(ga m a.bF 2).2=y at I dx⊢;unfold dT
 try dsimp only[bj,rH]
 have eH:=θ.drew k3;have VZ:=(Lw.trans l4).ex eH;have ho:=ho.ex eH;generalize k3.drew=CT at VZ ho⊢;obtain⟨q,c8,dy,db,cY,b1⟩:=VZ.at_;simp only[dF];refine⟨_,cY.at (j:=4) rfl,_,ho.at (j:=1) rfl,_,ho.at (j:=2) rfl,?_⟩;have abH:=cY.lu;rw[abr]at abH;have Kl:=o.gG;have dq:ki (some y):=⟨by omega,by omega⟩;have lM:=ati he hk ω;refine κ.use (Yb abH ed a.v a.b (some y) dq (r:=eI (some y)) (m:=eQ (some y)) λx h=>by cases h;exact⟨rfl,rfl⟩) ?_;rintro _ jr ⟨rfl,_,aP⟩;have aP:=aP lM;rw[lM]
 try dsimp only[bH]
 obtain⟨Ob,bP⟩:=cY.L1 aP;have Lv:=VZ.trans (fi.iC b1 Ob bP λi o=>.inl o);have ho:=gX bP (λi o=>(cY.fV o).1) ho (by decide);refine jz (λ_=>?_) λh=>absurd rfl h
 try dsimp only[bZ]
 refine⟨_,ho.at (j:=1) rfl,_,ho.at (j:=2) rfl,?_⟩;refine κ.use (K6 Lv.is ⟨4,a.v,0,a.b,y.1,y.2⟩ (by dsimp only;rw[abt];exact ar)) ?_;rintro _ ss ⟨rfl,Jh,na⟩
 try dsimp only[bZ]
 exact dx _ _ (Lv.trans na)
theorem aia(o:Inv m)(ar:m.dl.length<=100000000)(an:m.d.loose.length<=1000000)(aF:hj w pp pd m xs aj D){W:World}(x:θ w W){a:aK.Ask}{ε ι B kA C2 n:Nat}{p:J}{c:Nat}(ho:μ W B ev 5 (some ⟨ε,0,none⟩) 1 1 (qO a p n c))(uT:μ W kA jq 2 (some ⟨ι,0,none⟩) 1 1 (two (iu m.R a.v).1 (iu m.R a.v).2.1))(ff:μ W C2 cG 1 p n c (bg a.bF))(ψ:∀x∈a.bF,0<=x/\x<256)(yX:a.k=5){R:ak}
  (dx:∀w' bb,dQ w D w' pp pd (eN m a).1 xs aj bb->(eN m a).2=hW->R (.returned (.tuple #[])) w')
  (eE:∀e w',θ w w'->e≠0->eN m a=fail m e->R (.panicked (yK e)) w'):
  kl.aZ (some ⟨pp,0,none⟩) ε ι (iu m.R a.v).2.2 W R:=by
 have kf:eN m a=I8 m a:=by unfold eN;rw[aN (by omega),aN (by omega),aN (by omega),aN (by omega),aY yX]
 rw[kf]at dx eE;have xG:a.bF.length=n:=by have:=ff.1;rw[rl,eG]at this;exact this
 unfold I8 at dx eE;have ed:=((lJ o.gG).1 o.fit).1;unfold kl.aZ;unfold iu at uT⊢;cases he:gd m.R a.v with
 |none=>
  rw[he]at eE;exact jz (λh=>by cases h) λh=>eE 4 _ x h rfl
 |some e=>
  rw[he]at eE dx uT;dsimp only at eE dx uT⊢;refine jz (λ_=>?_) λh=>absurd rfl h
  try dsimp only[bj,bZ]
  refine κ.use (M1 (aF.ex x) o.ok) ?_;rintro _ cn ⟨ps,rfl,b0,dG⟩
  try dsimp only[hz]
  refine κ.use (XZ b0.at ed) ?_;rintro _ dJ ⟨rfl,js⟩
  try dsimp only[bZ,cC,cD,bj,bH]
  have X:=(x.trans dG).trans js;obtain⟨q,c8,dy,db,cY,b1⟩:=aF.ex X;simp only[dF];refine⟨(two m.s m.k).toArray,rfl,cY.wA,?_⟩;refine κ.use (Q8 m.s m.k o.gG dJ) ?_;rintro _ eO ⟨rfl,jR⟩
  try dsimp only[bZ,cC,cD,bj,bH]
  have vE:=X.trans jR;have ho:=((ho.ex dG).ex js).ex jR;have uT:=((uT.ex dG).ex js).ex jR;have ff:=((ff.ex dG).ex js).ex jR;have cY:=cY.ex jR;refine⟨e.1,uT.at (j:=0) rfl,bA (λη=>?_) λη=>?_⟩
  ·have η:e.1=2:=by simpa using η
   exact jz (λh=>by cases h) λh=>eE 8 _ vE h (by rw[aY η])
  have η:e.1≠2:=by simpa using η
  simp only[aN η]at eE dx;have bad:(a.b<0\/e.2.1<=a.b)->kl.bP (some ⟨pp,0,none⟩) ε ((gB (used m.R)).length:Int) ((m.s-4)*m.k) true eO R:=λω=>by unfold kl.bP;rw[sa];exact jz (λh=>by cases h) λh=>eE 5 _ vE h (by rw[aY ω])
  refine⟨a.b,ho.at (j:=2) rfl,bA (λω=>bad (.inl (cd ω))) λω=>⟨a.b,ho.at (j:=2) rfl,e.2.1,uT.at (j:=1) rfl,?_⟩⟩;have ω:=dh ω;by_cases ee:e.2.1<=a.b
  ·rw[bC ee];exact bad (.inr ee)
  rw[iJ ee];have BZ:¬(a.b<0\/e.2.1<=a.b):=by omega
  simp only[aN BZ,xG]at eE dx;unfold kl.bP;rw[wE];refine⟨p,n,c,ho.at (j:=4) rfl,bA (λuD=>?_) λuD=>?_⟩
  ·have uD:(n:Int)≠64:=by simpa using uD
   exact jz (λh=>by cases h) λh=>eE 6 _ vE h (by rw[aY (by omega)])
  have uD:(n:Int)=64:=by simpa using uD
  obtain rfl:n=64:=by omega
  simp only[ne_eq,not_true_eq_false,q5]at eE dx;have Ox:(gB (used m.R)).length=iP m.R:=rfl;have abm:(iP m.R:Int)<=400:=by
   have h1:=((lJ o.gG).1 o.fit).2.2;have bL:=o.gG
   have:(m.s-4)*m.k<=20*16:=se (by omega) (by omega) (by omega) (by omega)
   omega
  rw[Ox,b3 (x:=(iP m.R:Int)+1) (by omega) (by omega)];refine bA (λkD=>?_) λkD=>?_
  ·have kD:m.cap<(iP m.R:Int)+1:=cd kD;exact jz (λh=>by cases h) λh=>eE 9 _ vE h (by rw[aY kD])
  have kD:¬m.cap<(iP m.R:Int)+1:=dh kD;simp only[aN kD]at eE dx
  try dsimp only[bj]
  simp only[dF];refine⟨_,cY.at (j:=5) rfl,?_⟩;refine κ.use (bs.X7 cY.st 2) ?_;rintro _ hg ⟨rfl,tU⟩
  try dsimp only[dH]
  have Yx:=vE.trans tU;cases σ:bs.room m.st 2 with
  |false=>
   rw[cond_pos (by rfl)];exact jz (λh=>by cases h) λh=>eE 12 _ Yx h (by rw[aY σ])
  |true=>
   rw[cond_neg (by rfl)];refine awC o ar an aF Yx (ho.ex tU) (ff.ex tU) ⟨xG,ψ⟩ he η (by omega) (by omega) σ λw' bb hp=>?_;rw[aN (by rw[σ];decide)]at dx;exact dx w' bb hp rfl
theorem awD(o:Inv m)(ar:m.dl.length<=100000000)(an:m.d.loose.length<=1000000)(aF:hj w pp pd m xs aj D)(a:aK.Ask){C2 n:Nat}{p:J}{c:Nat}(ff:μ w C2 cG 1 p n c (bg a.bF))(ψ:∀x∈a.bF,0<=x/\x<256)(yX:a.k=5){Z:Value->ai}{X:List PanicEntry->ai}
  (dx:∀w' bb,dQ w D w' pp pd (eN m a).1 xs aj bb->(eN m a).2=hW->Z (.tuple #[]) w')
  (eE:∀e w',θ w w'->e≠0->eN m a=fail m e->X (yK e) w'):
  κ prog 79 #[.pointer (some ⟨pp,0,none⟩),.agg (qO a p n c).toArray] w Z X:=by
 obtain⟨q,c8,dy,db,h,b1⟩:=id aF;show kl.C (some ⟨pp,0,none⟩) a.k a.v a.b a.s p n c w _;apply kl.ok;unfold kl.main;rintro ε δ eb rfl;have ρ:=μ.new (w:=w) (qO a p n c) ev;rw[<-eb]at ρ;have ζ:=θ.alloc w (.cells (qO a p n c).toArray ev);have aM:w.alloc (.cells #[.int .i64 a.k,.int .i64 a.v,.int .i64 a.b,.int .i64 a.s,.slice p n c] ev)=w.alloc (.cells (qO a p n c).toArray ev):=rfl;rw[aM];generalize w.alloc (.cells (qO a p n c).toArray ev)=δ at ρ ζ⊢
 try dsimp only[bj]
 have eH:=ζ.trans (θ.drew δ);have ρ:=ρ.ex (θ.drew δ);generalize δ.drew=υ at eH ρ⊢;simp only[dF];refine⟨_,(h.ex eH).at (j:=4) rfl,_,ρ.at (j:=1) rfl,?_,?_⟩
 ·refine κ.use (Bm (h.ex eH).lu a.v) ?_;rintro _ aa ⟨rfl,ab⟩
  try dsimp only[bZ,cC,cD,bj,bH,hz,iG]
  refine Hb ((h.ex eH).ex ab).lu (θ.refl aa) a.v λι W vq AM=>?_;have X:=(eH.trans ab).trans vq;exact aia o ar an aF X ((ρ.ex ab).ex vq) AM (ff.ex X) ψ yX dx eE
 ·rintro aH ba rfl rfl;have bu:=μ.new (w:=υ) (two 0 0) jq;have aJ:=θ.alloc υ (.cells (two 0 0).toArray jq);have nY:υ.alloc (.cells #[.int .i64 0,.int .i64 0] jq)=υ.alloc (.cells (two 0 0).toArray jq):=rfl;rw[nY];generalize υ.alloc (.cells (two 0 0).toArray jq)=ba at bu aJ⊢;have r1:=ρ.ex aJ;have kB:=eH.trans aJ;refine⟨r1.at (j:=1) rfl,(h.ex kB).at (j:=4) rfl,?_⟩;refine κ.use (Bm (h.ex kB).lu a.v) ?_;rintro _ bk ⟨rfl,aV⟩
  try dsimp only[bZ,cC,cD,bj,bH,hz,iG]
  have KE:=eH.size;refine aW rfl ((bu.ex aV).put (cs:=two (iu m.R a.v).1 (iu m.R a.v).2.1) rfl nm λca hU jm=>?_);have aj4:=aJ.trans aV;have sF:=aj4.then hU λi o=>by omega
  have X:=eH.trans sF;exact aia o ar an aF X (ρ.ex sF) jm (ff.ex X) ψ yX dx eE
end
structure mv(w:World)(D:a1)(gE:Nat)(w':World)(pp pd:Nat)(m:aK)(xs:List (bG.cg×Int))(aj:Int)(bb:a1):Prop where
 is:hj w' pp pd m xs aj bb
 aC:Kp w w' λi=>D i\/i=gE
 sub:∀i,bb i->D i\/w.heap.size<=i
structure aju(w:World)(gE:Nat)(aj:Int)(r:gQ)(cJ:J)(ch dc:Nat)(cy:J)(dd cE:Nat):Prop where
 cell:μ w 0 eu 5 (some ⟨gE,0,none⟩) 1 1 [.int .i64 aj,.int .i64 r.e,.int .i64 r.id,.slice cJ ch dc,.slice cy dd cE]
 bF:μ w 0 cG 1 cJ ch dc (bg r.bF)
 j8:μ w 0 ck 1 cy dd cE (bs.cK r.j8)
def C9(w:World)(D:a1)(gE:Nat)(aj:Int)(r:gQ):Prop:=∃cJ ch dc cy dd cE,aju w gE aj r cJ ch dc cy dd cE/\∀x,cy=some x->¬D x.block
section
variable{w:World}{pp pd:Nat}{m:aK}{xs:List (bG.cg×Int)}{aj:Int}{D:a1}{gE:Nat}
theorem dQ.b4{w':World}{bb:a1}{m':aK}{mS:List (bG.cg×Int)}{po:Int}(h:dQ w D w' pp pd m' mS po bb):mv w D gE w' pp pd m' mS po bb:=⟨h.is,h.aC.mono λ_ _ h=>.inl h,h.sub⟩
theorem mv.iC{δ w':World}{e5 bb:a1}{m1 m':aK}{w6 mS:List (bG.cg×Int)}{wY po:Int}(h:mv w D gE δ pp pd m1 w6 wY e5)(k:dQ δ e5 w' pp pd m' mS po bb):mv w D gE w' pp pd m' mS po bb:=
 ⟨k.is,Kp.trans h.aC k.aC (λ_ _ h=>h) (λi o ae=>by rcases h.sub i ae with h|h;exact .inl h;omega),λi o=>by
  rcases k.sub i o with h1|h1
  ·exact h.sub i h1
  ·exact .inr (fo h.aC.size h1)⟩
theorem mv.ex{δ w':World}{e5:a1}{m1:aK}{w6:List (bG.cg×Int)}{wY:Int}(h:mv w D gE δ pp pd m1 w6 wY e5)(x:θ δ w'):mv w D gE w' pp pd m1 w6 wY e5:=⟨h.is.ex x,h.aC.gr (x.aC _),h.sub⟩
theorem mv.put{δ w':World}{e5:a1}{m1:aK}{w6:List (bG.cg×Int)}{wY:Int}(h:mv w D gE δ pp pd m1 w6 wY e5){B:Nat}{cs:aU}(γ:μ δ B eu 5 (some ⟨gE,0,none⟩) 1 1 cs)(k:Kp δ w' λi=>i=gE):mv w D gE w' pp pd m1 w6 wY e5:=
 ⟨h.is.aC k (λi ae o=>(h.is.fV ae).1.off (o▸(γ.typed rfl).1) (by decide)) (λi o en=>(yb.1 en).off (o▸(γ.typed rfl).1) (by decide)) λi o aO=>aO.ne (o▸(γ.typed rfl).1) (by decide) rfl,h.aC.gr (k.mono λ_ _ h=>.inr h),h.sub⟩
theorem alj{a:aK.Ask}(h:a.k=1):eN m a=(if 1<=a.s/\a.s<=32 then(match ly m.R with
 |none=>fail m 7
 |some i=>(o2 {m with R:=m.R.set i (1,a.s,List.replicate a.s.toNat none)} ⟨1,i,0,a.s,0,0⟩,{hW with id:=i}))else fail m 5):=by unfold eN;rw[aY h];all_goals rfl
theorem alk{a:aK.Ask}(h:a.k=2):eN m a=(match gd m.R a.v with
 |none=>fail m 4
 |some _=>(o2 {m with R:=m.R.set a.v.toNat (0,0,[])} ⟨2,a.v,0,0,0,0⟩,hW)):=by unfold eN;rw[aN (by omega),aY h];all_goals rfl
theorem alm{a:aK.Ask}(h:a.k=3):eN m a=(match gd m.R a.v with
 |none=>fail m 4
 |some e=>(match ly m.R with
  |none=>fail m 7
  |some i=>(o2 {m with R:=m.R.set i (2,e.2.1,e.2.2)} ⟨3,a.v,i,0,0,0⟩,{hW with id:=i}))):=by unfold eN;rw[aN (by omega),aN (by omega),aY h];all_goals rfl
theorem ZJ{a:aK.Ask}(h:a.k=4):eN m a=(match gd m.R a.v with
 |none=>fail m 4
 |some e=>if a.b<0\/e.2.1<=a.b then fail m 5 else(match(e.2.2[a.b.toNat]?).join with
  |none=>(m,{hW with bF:=bh.hR})
  |some x=>(m,{hW with bF:=gO m.k m.d x}))):=by unfold eN;rw[aN (by omega),aN (by omega),aN (by omega),aY h];all_goals rfl
theorem aln{a:aK.Ask}(h:a.k=6):eN m a=(match gd m.R a.v with
 |none=>fail m 4
 |some e=>if e.1=2 then fail m 8 else if a.b<0\/e.2.1<=a.b then fail m 5
  else(o2 {m with R:=jD m.R a.v.toNat a.b.toNat none} ⟨5,a.v,0,a.b,0,0⟩,hW)):=by unfold eN;rw[aN (by omega),aN (by omega),aN (by omega),aN (by omega),aN (by omega),aY h];all_goals rfl
theorem alo{a:aK.Ask}(h:a.k=7):eN m a=(x9 m,hW):=by unfold eN;rw[aN (by omega),aN (by omega),aN (by omega),aN (by omega),aN (by omega),aN (by omega),aY h];all_goals rfl
theorem alp{a:aK.Ask}(h:a.k=8):eN m a=(m,{hW with j8:=[(iP m.R:Int),m.cap]}):=by unfold eN;rw[aN (by omega),aN (by omega),aN (by omega),aN (by omega),aN (by omega),aN (by omega),aN (by omega),aY h];all_goals rfl
theorem alq{a:aK.Ask}(h:a.k=9):eN m a=(match gd m.R a.v with
 |none=>fail m 4
 |some e=>(m,{hW with j8:=[e.1,e.2.1]})):=by unfold eN;rw[aN (by omega),aN (by omega),aN (by omega),aN (by omega),aN (by omega),aN (by omega),aN (by omega),aN (by omega)];all_goals rfl
def fP(i:Int)(x y:Value):aU:=[.int .i64 0,.int .i64 0,.int .i64 i,x,y]
abbrev cO:Value:=.slice none 0 0
theorem Iz{i:Int}{B:Nat}(γ:μ w B eu 5 (some ⟨gE,0,none⟩) 1 1 (fP i cO cO)):C9 w D gE 0 {hW with id:=i}:=⟨none,0,0,none,0,0,⟨γ.lower (da _),μ.nil _ _ _ _,μ.nil _ _ _ _⟩,λ_ h=>by cases h⟩
theorem asI{bF:ao}{B:Nat}{q:J}{n c:Nat}(γ:μ w B eu 5 (some ⟨gE,0,none⟩) 1 1 (fP 0 (.slice q n c) cO))(h:μ w 0 cG 1 q n c (bg bF)):C9 w D gE 0 {hW with bF:=bF}:=⟨q,n,c,none,0,0,⟨γ.lower (da _),h,μ.nil _ _ _ _⟩,λ_ h=>by cases h⟩
theorem asJ{l:ao}{B:Nat}{q:J}{n c:Nat}(γ:μ w B eu 5 (some ⟨gE,0,none⟩) 1 1 (fP 0 cO (.slice q n c)))(h:μ w 0 ck 1 q n c (bs.cK l))(b1:∀x,q=some x->¬D x.block):C9 w D gE 0 {hW with j8:=l}:=⟨none,0,0,q,n,c,⟨γ.lower (da _),μ.nil _ _ _ _,h⟩,b1⟩
theorem acS{δ:World}{e5:a1}{m1:aK}{w6:List (bG.cg×Int)}{wY:Int}(h:mv w D gE δ pp pd m1 w6 wY e5){B:Nat}(γ:μ δ B eu 5 (some ⟨gE,0,none⟩) 1 1 (fP 0 cO cO))(x y:Int){N:ai}
  (K:∀w',mv w D gE w' pp pd m1 w6 wY e5->C9 w' (λi=>e5 i\/i<w.heap.size) gE 0 {hW with j8:=[x,y]}->N w'):
  aR δ #[.int .i64 x,.int .i64 y] ck λdC vn=>(vn.cell? (⟨gE,4,none⟩:Addr)).isSome=true/\vn.frozen? (⟨gE,4,none⟩:Addr)=false/\∀pr,pr=vn.setCell (⟨gE,4,none⟩:Addr) (Value.slice (some ⟨dC,0,none⟩) 2 2)->N pr:=by
 rintro dC vn ω rfl;have cz:=μ.alloc (w:=δ) (bs.cK [x,y]) ck 1 2 rfl;rw[<-ω]at cz;have al:=θ.alloc δ (.cells (bs.cK [x,y]).toArray ck);have ig:δ.alloc (.cells #[.int .i64 x,.int .i64 y] ck)=δ.alloc (.cells (bs.cK [x,y]).toArray ck):=rfl;rw[ig];generalize δ.alloc (.cells (bs.cK [x,y]).toArray ck)=vn at cz al⊢;have γ:=γ.ex al;refine γ.dj (j:=4) (by omega) rfl λpr k aqY=>?_;refine K pr ((h.ex al).put γ k) (asJ (D:=λi=>e5 i\/i<w.heap.size) aqY ((cz.aC k λx I o=>(cz.typed I).1.ne (o▸(γ.typed rfl).1) (by decide) rfl).lower (da _)) λx I ae=>?_);cases I;have fj:=h.aC.size;have ae:e5 dC\/dC<w.heap.size:=ae;rcases ae with ae|ae
 ·have:=(h.is.fV ae).2
  omega
 ·omega
end
section
variable{w:World}{pp pd:Nat}{m:aK}{xs:List (bG.cg×Int)}{aj:Int}{D:a1}{gE:Nat}
structure Ri(m:aK)(a:aK.Ask):Prop where
 inv:Inv m
 seq:m.seq+1<=1073741824
 dl:m.dl.length<=900000
 loose:m.d.loose.length<=900000
 bytes:∀x∈a.bF,0<=x/\x<256
 kind:1<=a.k/\a.k<=9
theorem ZK(o:Inv m)(aF:hj w pp pd m xs aj D){W:World}{e5:a1}(h:mv w D gE W pp pd m xs aj e5){a:aK.Ask}{ε B kA:Nat}(uT:μ W kA jq 2 (some ⟨ε,0,none⟩) 1 1 (two (iu m.R a.v).1 (iu m.R a.v).2.1))(or:μ W B eu 5 (some ⟨gE,0,none⟩) 1 1 (fP 0 cO cO))(T5:a.k=9){R:ak}
  (dx:∀w' bb,mv w D gE w' pp pd (eN m a).1 xs aj bb->C9 w' (λi=>bb i\/i<w.heap.size) gE 0 (eN m a).2->(eN m a).2.e=0->R (.returned (.tuple #[])) w')
  (eE:∀e w' bb cs,mv w D gE w' pp pd m xs aj bb->μ w' 0 eu 5 (some ⟨gE,0,none⟩) 1 1 cs->e≠0->eN m a=fail m e->R (.panicked (yK e)) w'):
  uX.aZ (some ⟨gE,0,none⟩) ε (iu m.R a.v).2.2 W R:=by
 rw[alq T5]at dx eE;unfold uX.aZ;unfold iu at uT⊢;cases he:gd m.R a.v with
 |none=>
  rw[he]at eE;exact jz (λh=>by cases h) λar=>eE 4 _ _ _ h (or.lower (da _)) ar rfl
 |some e=>
  rw[he]at eE dx uT;dsimp only at eE dx uT⊢;refine jz (λ_=>?_) λh=>absurd rfl h
  try dsimp only[bj,bZ]
  refine⟨_,uT.at (j:=0) rfl,_,uT.at (j:=1) rfl,?_⟩
  try simp only[dF]
  exact acS h or e.1 e.2.1 λw' hp σ=>dx w' _ hp σ rfl
set_option maxHeartbeats 1000000 in
theorem alw{a:aK.Ask}(ae:Ri m a)(aF:hj w pp pd m xs aj D){C2 n:Nat}{p:J}{c:Nat}(ff:μ w C2 cG 1 p n c (bg a.bF)){B:Nat}(or:μ w B eu 5 (some ⟨gE,0,none⟩) 1 1 (fP 0 cO cO)){Z:Value->ai}{X:List PanicEntry->ai}
  (dx:∀w' bb,mv w D gE w' pp pd (eN m a).1 xs aj bb->C9 w' (λi=>bb i\/i<w.heap.size) gE 0 (eN m a).2->(eN m a).2.e=0->Z (.tuple #[]) w')
  (eE:∀e w' bb cs,mv w D gE w' pp pd m xs aj bb->μ w' 0 eu 5 (some ⟨gE,0,none⟩) 1 1 cs->e≠0->eN m a=fail m e->X (yK e) w'):
  κ prog 46 #[.pointer (some ⟨pp,0,none⟩),.agg (qO a p n c).toArray,.pointer (some ⟨gE,0,none⟩)] w Z X:=by
 have o:=ae.inv;have ed:=((lJ o.gG).1 o.fit).1;show uX.C (some ⟨pp,0,none⟩) a.k a.v a.b a.s p n c (some ⟨gE,0,none⟩) w _;apply uX.ok;unfold uX.main;rintro ε δ eb rfl;have ρ:=μ.new (w:=w) (qO a p n c) ev;rw[<-eb]at ρ;have ζ:=θ.alloc w (.cells (qO a p n c).toArray ev);have aM:w.alloc (.cells #[.int .i64 a.k,.int .i64 a.v,.int .i64 a.b,.int .i64 a.s,.slice p n c] ev)=w.alloc (.cells (qO a p n c).toArray ev):=rfl;rw[aM];generalize w.alloc (.cells (qO a p n c).toArray ev)=δ at ρ ζ⊢
 try dsimp only[bj]
 have ad:mv w D gE δ pp pd m xs aj D:=((dQ.start aF).ex ζ).b4;have Fk:=or.ex ζ;have eH:=ζ.trans (θ.drew δ);have az:=ρ.ex (θ.drew δ);have qm:=Fk.ex (θ.drew δ);have aX:=ad.ex (θ.drew δ);generalize δ.drew=υ at eH az qm aX⊢;simp only[dF];have η:=aF.ex eH;have BP:∀{e:Int}{w'}{bb}{B:Nat}{cs:aU},mv w D gE w' pp pd m xs aj bb->μ w' B eu 5 (some ⟨gE,0,none⟩) 1 1 cs->e≠0->eN m a=fail m e->X (yK e) w':=λh γ he ae=>eE _ _ _ _ h (γ.lower (da _)) he ae;refine⟨_,ρ.at (j:=0) rfl,bA (λhk=>?_) λv7=>bA (λhk=>?_) λqe=>bA (λhk=>?_) λT4=>bA (λhk=>?_) λuG=>bA (λhk=>?_) λyX=>bA (λhk=>?_) λaog=>bA (λhk=>?_) λaoh=>bA (λhk=>?_) λAq=>bA (λhk=>?_) λT5=>?_⟩
 ·have hk:a.k=1:=by simpa using hk
  have kf:=alj (m:=m) hk;obtain⟨q,c8,dy,db,cY,b1⟩:=aX.is;refine⟨_,cY.at (j:=4) rfl,_,az.at (j:=3) rfl,?_⟩;by_cases ψ:1<=a.s/\a.s<=32
  ·rw[aY ψ]at kf;refine κ.use (aiB cY.lu ψ) ?_;rintro _ aa σ;cases mF:ly m.R with
   |none=>
    rw[mF]at kf σ;obtain⟨rfl,ab⟩:=σ
    try dsimp only[bZ,cC,cD,bj,bH]
    try simp only[dF]
    refine(qm.ex ab).dj (j:=2) (v:=.int .i64 0) (by omega) rfl λax cp o7=>?_;exact jz (λh=>by cases h) λh=>BP ((aX.ex ab).put (qm.ex ab) cp) o7 h kf
   |some i=>
    rw[mF]at kf σ;obtain⟨rfl,aP⟩:=σ
    try dsimp only[bZ,cC,cD,bj,bH]
    try simp only[dF]
    obtain⟨vV,b7⟩:=cY.L1 aP;have bl:=aX.iC (fi.iC b1 vV b7 λi o=>.inl o);have r5:=gX b7 (λi o=>(cY.fV o).1) qm (by decide);have bu:=gX b7 (λi o=>(cY.fV o).1) az (by decide);refine r5.dj (j:=2) (v:=.int .i64 i) (by omega) rfl λax cp o7=>?_;have ej:=bl.put r5 cp;have cm:=bu.aC cp λx I o=>(bu.typed I).1.ne (o▸(r5.typed rfl).1) (by decide) rfl;refine jz (λ_=>?_) λh=>absurd rfl h
    try dsimp only[bZ]
    have ej:=ej.ex (θ.drew ax);have o7:=o7.ex (θ.drew ax);have cm:=cm.ex (θ.drew ax);generalize ax.drew=aG at ej o7 cm⊢
    try simp only[dF]
    refine⟨_,o7.at (j:=2) rfl,_,cm.at (j:=3) rfl,?_⟩;have bf:=dB.xo;have key:=K6 ej.is ⟨1,i,0,a.s,0,0⟩ (by have:=ae.dl;dsimp only;omega);dsimp only at key;rw[bf]at key;refine κ.use key ?_;rintro _ bk ⟨rfl,bb,hp⟩
    try dsimp only[bZ]
    rw[kf]at dx;exact dx bk bb (ej.iC hp) (Iz (hp.c0 ej.is o7 (by decide))) rfl
  ·rw[aN ψ]at kf;refine κ.use (aiA cY.lu ψ) ?_;rintro _ aa ⟨rfl,ab⟩
   try dsimp only[bZ,cC,cD,bj,bH]
   try simp only[dF]
   refine(qm.ex ab).dj (j:=2) (v:=.int .i64 0) (by omega) rfl λax cp o7=>?_;exact jz (λh=>by cases h) λh=>BP ((aX.ex ab).put (qm.ex ab) cp) o7 h kf
 ·have hk:a.k=2:=by simpa using hk
  have kf:=alk (m:=m) hk;obtain⟨q,c8,dy,db,cY,b1⟩:=aX.is;refine⟨_,cY.at (j:=4) rfl,_,az.at (j:=1) rfl,?_⟩;refine κ.use (aiJ cY.lu a.v) ?_;rintro _ aa σ;cases he:gd m.R a.v with
  |none=>
   rw[he]at kf σ;obtain⟨rfl,ab⟩:=σ
   try dsimp only[bH]
   exact jz (λh=>by cases h) λh=>BP (aX.ex ab) (qm.ex ab) h kf
  |some e=>
   rw[he]at kf σ;obtain⟨rfl,aP⟩:=σ
   try dsimp only[bH]
   obtain⟨vV,b7⟩:=cY.L1 aP;have bl:=aX.iC (fi.iC b1 vV b7 λi o=>.inl o);have r5:=gX b7 (λi o=>(cY.fV o).1) qm (by decide);have bu:=gX b7 (λi o=>(cY.fV o).1) az (by decide);refine jz (λ_=>?_) λh=>absurd rfl h
   try dsimp only[bZ]
   refine⟨_,bu.at (j:=1) rfl,?_⟩;have bf:=dB.xo;have key:=K6 bl.is ⟨2,a.v,0,0,0,0⟩ (by have:=ae.dl;dsimp only;omega);dsimp only at key;rw[bf]at key;refine κ.use key ?_;rintro _ bk ⟨rfl,bb,hp⟩
   try dsimp only[bZ]
   rw[kf]at dx;exact dx bk bb (bl.iC hp) (Iz (i:=0) (hp.c0 bl.is r5 (by decide))) rfl
 ·have hk:a.k=3:=by simpa using hk
  have kf:=alm (m:=m) hk;obtain⟨q,c8,dy,db,cY,b1⟩:=aX.is;refine⟨_,cY.at (j:=4) rfl,_,az.at (j:=1) rfl,?_⟩;refine κ.use (ajC cY.lu a.v) ?_;rintro _ aa σ;cases he:gd m.R a.v with
  |none=>
   rw[he]at kf σ;obtain⟨rfl,ab⟩:=σ
   try dsimp only[bZ,cC,cD,bj,bH]
   try simp only[dF]
   refine(qm.ex ab).dj (j:=2) (v:=.int .i64 0) (by omega) rfl λax cp o7=>?_;exact jz (λh=>by cases h) λh=>BP ((aX.ex ab).put (qm.ex ab) cp) o7 h kf
  |some e=>
   rw[he]at kf σ;dsimp only at kf σ;cases mF:ly m.R with
   |none=>
    rw[mF]at kf σ;obtain⟨rfl,ab⟩:=σ
    try dsimp only[bZ,cC,cD,bj,bH]
    try simp only[dF]
    refine(qm.ex ab).dj (j:=2) (v:=.int .i64 0) (by omega) rfl λax cp o7=>?_;exact jz (λh=>by cases h) λh=>BP ((aX.ex ab).put (qm.ex ab) cp) o7 h kf
   |some i=>
    rw[mF]at kf σ;obtain⟨rfl,aP⟩:=σ
    try dsimp only[bZ,cC,cD,bj,bH]
    try simp only[dF]
    obtain⟨vV,b7⟩:=cY.L1 aP;have bl:=aX.iC (fi.iC b1 vV b7 λi o=>.inl o);have r5:=gX b7 (λi o=>(cY.fV o).1) qm (by decide);have bu:=gX b7 (λi o=>(cY.fV o).1) az (by decide);refine r5.dj (j:=2) (v:=.int .i64 i) (by omega) rfl λax cp o7=>?_;have ej:=bl.put r5 cp;have cm:=bu.aC cp λx I o=>(bu.typed I).1.ne (o▸(r5.typed rfl).1) (by decide) rfl;refine jz (λ_=>?_) λh=>absurd rfl h
    try dsimp only[bZ]
    have ej:=ej.ex (θ.drew ax);have o7:=o7.ex (θ.drew ax);have cm:=cm.ex (θ.drew ax);generalize ax.drew=aG at ej o7 cm⊢
    try simp only[dF]
    refine⟨_,cm.at (j:=1) rfl,_,o7.at (j:=2) rfl,?_⟩;have bf:=dB.xo;have key:=K6 ej.is ⟨3,a.v,i,0,0,0⟩ (by have:=ae.dl;dsimp only;omega);dsimp only at key;rw[bf]at key;refine κ.use key ?_;rintro _ bk ⟨rfl,bb,hp⟩
    try dsimp only[bZ]
    rw[kf]at dx;exact dx bk bb (ej.iC hp) (Iz (hp.c0 ej.is o7 (by decide))) rfl
 ·have hk:a.k=4:=by simpa using hk
  refine⟨(qO a p n c).toArray,rfl,ρ.cells,?_⟩;refine Iy ad.is o a.v a.b a.k a.s p n c (λbF w' q aT x ho bf=>?_) λe w' x he bf=>?_
  ·try dsimp only[er]
   obtain⟨e,he,s3,eb,anz⟩:=bf;have kf:eN m a=(m,{hW with bF:=bF}):=by rw[ZJ hk,he];dsimp only;rw[aN (by omega),anz];cases(e.2.2[a.b.toNat]?).join<;>rfl
   rw[kf]at dx;have r5:=Fk.ex x;refine r5.dj (j:=3) (by omega) rfl λax k cm=>?_;exact dx ax _ ((ad.ex x).put r5 k) (asI cm (ho.aC k λx I o=>(ho.typed I).1.ne (o▸(r5.typed rfl).1) (by decide) rfl)) rfl
  ·refine BP (ad.ex x) (Fk.ex x) he ?_;rw[ZJ hk];rcases bf with⟨h1,rfl⟩|⟨c6,h1,η,rfl⟩
   ·rw[h1]
   ·rw[h1];dsimp only;rw[aY η]
 ·have hk:a.k=5:=by simpa using hk
  refine⟨(qO a p n c).toArray,rfl,ρ.cells,?_⟩;have xz:=ae.dl;have pz:=ae.loose;refine awD o (by omega) (by omega) ad.is a (ff.ex ζ) ae.bytes hk (λw' bb hp σ=>?_) λe w' x he bf=>BP (ad.ex x) (Fk.ex x) he bf
  try dsimp only[bZ]
  refine dx w' bb (ad.iC hp) ?_ (by rw[σ];rfl);rw[σ];exact Iz (i:=0) (hp.c0 ad.is Fk (by decide))
 ·have hk:a.k=6:=by simpa using hk
  have kf:=aln (m:=m) hk;obtain⟨q,c8,dy,db,cY,b1⟩:=aX.is;refine⟨_,cY.at (j:=4) rfl,_,az.at (j:=1) rfl,_,az.at (j:=2) rfl,?_⟩;refine κ.use (Yb cY.lu ed a.v a.b none trivial (r:=0) (m:=0) λx h=>by cases h) ?_;rintro _ aa ⟨rfl,Ho,TU⟩
  try dsimp only[bH]
  by_cases nb:A2 m.R a.v a.b=0
  ·have aP:=TU nb;rw[nb];have kf:eN m a=(o2 {m with R:=jD m.R a.v.toNat a.b.toNat none} ⟨5,a.v,0,a.b,0,0⟩,hW):=by
    unfold A2 at nb;rw[kf];cases he:gd m.R a.v with
    |none=>rw[he]at nb;cases nb
    |some e=>
     rw[he]at nb;dsimp only at nb⊢;by_cases η:e.1=2
     ·rw[aY η]at nb;cases nb
     rw[aN η]at nb⊢;by_cases ω:0<=a.b/\a.b<e.2.1
     ·rw[aN (by omega)]
     ·rw[aN ω]at nb;cases nb
   obtain⟨vV,b7⟩:=cY.L1 aP;have bl:=aX.iC (fi.iC b1 vV b7 λi o=>.inl o);have r5:=gX b7 (λi o=>(cY.fV o).1) qm (by decide);have bu:=gX b7 (λi o=>(cY.fV o).1) az (by decide);refine jz (λ_=>?_) λh=>absurd rfl h
   try dsimp only[bZ]
   refine⟨_,bu.at (j:=1) rfl,_,bu.at (j:=2) rfl,?_⟩;have bf:=dB.xo;have key:=K6 bl.is ⟨5,a.v,0,a.b,0,0⟩ (by have:=ae.dl;dsimp only;omega);dsimp only at key;rw[bf]at key;refine κ.use key ?_;rintro _ bk ⟨rfl,bb,hp⟩
   try dsimp only[bZ]
   rw[kf]at dx;exact dx bk bb (bl.iC hp) (Iz (i:=0) (hp.c0 bl.is r5 (by decide))) rfl
  ·refine jz (λh=>absurd h nb) λh=>BP (aX.ex (Ho h)) (qm.ex (Ho h)) h ?_;unfold A2 at nb⊢;rw[kf];cases he:gd m.R a.v with
   |none=>rfl
   |some e=>
    rw[he]at nb;dsimp only at nb⊢;by_cases η:e.1=2
    ·rw[aY η,aY η]
    rw[aN η]at nb;rw[aN η,aN η];by_cases ω:0<=a.b/\a.b<e.2.1
    ·rw[aY ω]at nb;exact absurd rfl nb
    ·rw[aN ω,aY (by omega)]
 ·have hk:a.k=7:=by simpa using hk
  refine κ.use (atQ ad.is o ae.seq ae.loose ae.dl) ?_;rintro _ w' ⟨rfl,bb,hp⟩
  try dsimp only[bZ]
  rw[alo hk]at dx;exact dx w' bb (ad.iC hp) (Iz (i:=0) (hp.c0 ad.is Fk (by decide))) rfl
 ·have hk:a.k=8:=by simpa using hk
  refine κ.use (M1 ad.is o.ok) ?_;rintro _ cn ⟨ps,rfl,b0,dG⟩
  try dsimp only[hz]
  refine κ.use (XZ b0.at ed) ?_;rintro _ dJ ⟨rfl,js⟩
  try dsimp only[bZ,cC,cD,bj,bH]
  have X:=(ζ.trans dG).trans js;obtain⟨q,c8,dy,db,cY,b1⟩:=aF.ex X
  try simp only[dF]
  refine⟨(two m.s m.k).toArray,rfl,cY.wA,?_⟩;refine κ.use (Q8 m.s m.k o.gG dJ) ?_;rintro _ eO ⟨rfl,jR⟩
  try dsimp only[bZ,cC,cD,bj,bH]
  try simp only[dF]
  rw[alp hk]at dx;exact acS (((ad.ex dG).ex js).ex jR) (((Fk.ex dG).ex js).ex jR) _ _ λw' hp σ=>dx w' _ hp σ rfl
 ·have hk:a.k=9:=by simpa using hk
  obtain⟨q,c8,dy,db,cY,b1⟩:=aX.is;refine⟨_,cY.at (j:=4) rfl,_,az.at (j:=1) rfl,?_,?_⟩
  ·refine κ.use (Bm cY.lu a.v) ?_;rintro _ aa ⟨rfl,ab⟩
   try dsimp only[bZ,cC,cD,bj,bH,hz,iG]
   refine Hb (cY.ex ab).lu (θ.refl aa) a.v λι W vq AM=>?_;exact ZK o aF ((aX.ex ab).ex vq) AM ((qm.ex ab).ex vq) hk dx eE
  ·rintro aH ba rfl rfl;have bu:=μ.new (w:=υ) (two 0 0) jq;have aJ:=θ.alloc υ (.cells (two 0 0).toArray jq);have nY:υ.alloc (.cells #[.int .i64 0,.int .i64 0] jq)=υ.alloc (.cells (two 0 0).toArray jq):=rfl;rw[nY];generalize υ.alloc (.cells (two 0 0).toArray jq)=ba at bu aJ⊢;refine⟨(az.ex aJ).at (j:=1) rfl,(cY.ex aJ).at (j:=4) rfl,?_⟩;refine κ.use (Bm (cY.ex aJ).lu a.v) ?_;rintro _ bk ⟨rfl,aV⟩
   try dsimp only[bZ,cC,cD,bj,bH,hz,iG]
   refine aW rfl ((bu.ex aV).put (cs:=two (iu m.R a.v).1 (iu m.R a.v).2.1) rfl nm λca hU jm=>?_);have sF:=(aJ.trans aV).then hU λi o=>by omega
   exact ZK o aF (aX.ex sF) jm (qm.ex sF) hk dx eE
 ·exfalso
  have:=ae.kind
  simp only[beq_eq_false_iff_ne]at v7 qe T4 uG yX aog aoh Aq T5;omega
end
open Go
theorem aht(a b v:Value):(#[a,b]++((Array.replicate 12 undef).setIfInBounds 1 v).setIfInBounds 0 v:ah)=#[a,b,v,v,undef,undef,undef,undef,undef,undef,undef,undef,undef,undef]:=rfl
theorem avQ(v:Value)(w:World):(Instr.typeAssert (.iface 104 v) 20 104 false).run prog w=.ok v w:=by simp[Instr.typeAssert,go_sem]
theorem avT(e:Int)(w:World):(Instr.field 104 (.agg #[.int .i64 e]) 0).run prog w=.ok (.int .i64 e) w:=by simp[Instr.field,go_sem,part,typeInfo];rfl
theorem akE(ε ι pp:Nat)(e:Int)(w:World)(π:(w.cell? (⟨ι,0,none⟩:Addr)).isSome=true)(aI:w.frozen? (⟨ι,0,none⟩:Addr)=false)(hp:w.cell? (⟨ε,0,none⟩:Addr)=some (.pointer (some ⟨pp,0,none⟩)))(cc:ε≠ι)(HC:pp≠ι)
  (ae:(w.cell? (⟨pp,12,none⟩:Addr)).isSome=true)(anR:w.frozen? (⟨pp,12,none⟩:Addr)=false):
  CallsD prog 47 #[.pointer (some ⟨ι,0,none⟩),.pointer (some ⟨ε,0,none⟩)] (.panicking (yK e)) w λc6 Mr w'=>
   c6=.returned (.tuple #[])/\settle Mr=.returning/\w'=(w.setCell (⟨ι,0,none⟩:Addr) (.int .i64 e)).setCell (⟨pp,12,none⟩:Addr) (.bool (e==10)):=by
 obtain⟨x,I⟩:=Ip.1 π;refine callsD_of_wpS func47 rfl λZw cs hu=>?_;apply wpS_seq;apply wpS_region;simp[wpOpsS,go_sem,recoverD,hu,yK,ntmps47,Exit.thenS];rw[aht];apply wpS_seq;apply wpS_region;simp[wpOpsS,go_sem,Exit.thenS];refine wpS_cond (t:=true) (by simp[Act.eval,W0]) ?_;simp only[o9];apply wpS_seq;apply wpS_region;simp[wpOpsS,go_sem,Exit.thenS,W0,avQ,avT,I,aI];have h1:(w.setCell (⟨ι,0,none⟩:Addr) (.int .i64 e)).cell? (⟨ε,0,none⟩:Addr)=some (.pointer (some ⟨pp,0,none⟩)):=by rw[World.cell?_setCell_other _ (⟨ι,0,none⟩:Addr) (⟨ε,0,none⟩:Addr) _ λh=>cc (by cases h;rfl)];exact hp
 have η:(w.setCell (⟨ι,0,none⟩:Addr) (.int .i64 e)).cell? (⟨ι,0,none⟩:Addr)=some (.int .i64 e):=World.cell?_setCell_same' _ _ _ π;have au:(w.setCell (⟨ι,0,none⟩:Addr) (.int .i64 e)).cell? (⟨pp,12,none⟩:Addr)=w.cell? (⟨pp,12,none⟩:Addr):=World.cell?_setCell_other _ (⟨ι,0,none⟩:Addr) (⟨pp,12,none⟩:Addr) _ (λh=>by cases h);obtain⟨y,ag⟩:=Ip.1 ae
 try rw[ag]at au
 have bV:(w.setCell (⟨ι,0,none⟩:Addr) (.int .i64 e)).frozen? (⟨pp,12,none⟩:Addr)=false:=by rw[World.frozen?_setCell];exact anR
 generalize w.setCell (⟨ι,0,none⟩:Addr) (.int .i64 e)=δ at h1 η au bV⊢;apply wpS_region;simp[wpOpsS,go_sem,h1,η,au,bV];refine⟨rfl,_,rfl,.tuple #[],?_,rfl,rfl,rfl⟩;simp[results,results47,go_sem]
theorem akD(ε ι:Nat)(w:World):
  CallsD prog 47 #[.pointer (some ⟨ι,0,none⟩),.pointer (some ⟨ε,0,none⟩)] .returning w λe Mr w'=>e=.returned (.tuple #[])/\Mr=.returning/\w'=w:=by
 refine callsD_of_wpS func47 rfl λZw cs hu=>?_;apply wpS_seq;apply wpS_region;simp[wpOpsS,go_sem,recoverD,hu,ntmps47,Exit.thenS];rw[aht];apply wpS_seq;apply wpS_region;simp[wpOpsS,go_sem,Exit.thenS];refine wpS_cond (t:=false) (by simp[Act.eval]) ?_;simp only[wC,q5];refine wpS_of_wp (wp_skip ?_);cases Zw
 simp_all[bodyPostS,results,results47,go_sem]
def zc(P:Program)(ops:Array Oper)(Q:Exit->Act->ai):List Nat->Act->ai
 |[],a,w=>Q .normal a w
 |i::rest,a,w=>match ops[i]?with
  |none=>zc P ops Q rest a w
  |some γ=>if Region.wanted γ (yielded ops a.tmps)=true then γ.upon P a (zc P ops Q rest) Q ((execOp a.eval γ).run P w)else zc P ops Q rest (a.put γ.dst undef) w
theorem CX{P:Program}{ops:Array Oper}{Q:Exit->Act->ai}:∀(l:List Nat)(a:Act)(w:World),zc P ops Q l a w->wpOps P ops Q l a w
 |[],a,w,h=>h
 |i::rest,a,w,h=>by
  unfold zc at h;unfold wpOps;cases aE:ops[i]?with
  |none=>rw[aE]at h;exact CX rest a w h
  |some γ=>
   rw[aE]at h;dsimp only at h⊢;by_cases hw:Region.wanted γ (yielded ops a.tmps)=true
   ·rw[aY hw]at h;simp only[hw,o9];exact .inl (Oper.wp_mono (λa w h=>CX rest a w h) h)
   ·rw[aN hw]at h;simp only[hw,q5];exact CX rest _ w h
theorem ahz{w:World}{pp F:Nat}{first cap:ah}{R:ak}(anO:w.cell? (⟨pp,12,none⟩:Addr)=some (.bool false))(dg:∀δ:World,(callFunc F (first++cap)).run prog δ=.ok (.enter F (first++cap)) δ)
  (TC:∀δ ε ι,θ w δ->μ δ w.heap.size Ba 1 (some ⟨ε,0,none⟩) 1 1 [.pointer (some ⟨pp,0,none⟩)]->μ δ w.heap.size CQ 1 (some ⟨ι,0,none⟩) 1 1 [.int .i64 0]->ε≠ι->
   κ prog F (first++cap) δ (λv υ=>(υ.cell? (⟨ι,0,none⟩:Addr)).isSome=true/\υ.frozen? (⟨ι,0,none⟩:Addr)=false/\R (.returned (.int .i64 0)) (υ.setCell (⟨ι,0,none⟩:Addr) (.int .i64 0)))
    λcX υ=>∃e,cX=yK e/\(υ.cell? (⟨ι,0,none⟩:Addr)).isSome=true/\υ.frozen? (⟨ι,0,none⟩:Addr)=false/\υ.cell? (⟨ε,0,none⟩:Addr)=some (.pointer (some ⟨pp,0,none⟩))/\pp≠ι/\(υ.cell? (⟨pp,12,none⟩:Addr)).isSome=true/\υ.frozen? (⟨pp,12,none⟩:Addr)=false/\
     R (.returned (.int .i64 e)) ((υ.setCell (⟨ι,0,none⟩:Addr) (.int .i64 e)).setCell (⟨pp,12,none⟩:Addr) (.bool (e==10)))):
  Calls prog 30 #[.pointer (some ⟨pp,0,none⟩),.func (.func F) first cap] w R:=by
 refine calls_of_wp_defers func30 rfl ?_;have alI:(#[.pointer (some ⟨pp,0,none⟩),.func (.func F) first cap]++Array.replicate (f30.ntmps-(#[.pointer (some ⟨pp,0,none⟩),.func (.func F) first cap]:ah).size) undef:ah)=#[.pointer (some ⟨pp,0,none⟩),.func (.func F) first cap,undef,undef,undef,undef,undef,undef,undef,undef,undef,undef]:=rfl;rw[alI];apply wp_seq;apply wp_region;apply CX;simp[zc,Oper.upon,go_sem,Exit.then];have ζ:=θ.alloc w (.cells #[.pointer (some ⟨pp,0,none⟩)] 24);have ρ:μ (w.alloc (.cells #[.pointer (some ⟨pp,0,none⟩)] 24)) w.heap.size Ba 1 (some ⟨w.heap.size,0,none⟩) 1 1 [.pointer (some ⟨pp,0,none⟩)]:=μ.new _ _;have EK:(w.alloc (.cells #[.pointer (some ⟨pp,0,none⟩)] 24)).heap.size=w.heap.size+1:=by simp
 generalize w.alloc (.cells #[.pointer (some ⟨pp,0,none⟩)] 24)=δ at ζ ρ EK⊢;have τ:=θ.alloc δ (.cells #[.int .i64 0] 33);have az:μ (δ.alloc (.cells #[.int .i64 0] 33)) δ.heap.size CQ 1 (some ⟨δ.heap.size,0,none⟩) 1 1 [.int .i64 0]:=μ.new _ _;rw[EK]at az;have ρ:=ρ.ex τ;generalize δ.alloc (.cells #[.int .i64 0] 33)=υ at τ ρ az⊢;have X:=ζ.trans τ;have hp:=X.cell anO λh=>h;have eb:=ρ.at (j:=0) rfl;have ee:=az.at (j:=0) rfl;have cc:w.heap.size≠w.heap.size+1:=by omega
 have key:=TC υ w.heap.size (w.heap.size+1) X ρ (az.lower (by omega)) cc;generalize w.heap.size+1=ι at key az ee cc⊢;generalize w.heap.size=ε at key ρ az eb cc⊢;apply wp_seq;apply wp_seq;apply wp_region;apply CX;simp[zc,Oper.upon,go_sem,Exit.then,eb,hp];refine wp_cond (t:=false) (by simp[Act.eval]) ?_;simp only[wC,q5];refine wp_skip ?_;show Code.wp _ _ _ _ _;apply wp_seq;apply wp_region;apply CX;have aos:∀(fn:Fn)(first cap:ah)(w:World),(Instr.makeFunc fn first cap).run prog w=.ok (.func fn first cap) w:=λ_ _ _ _=>rfl;simp[zc,Oper.upon,go_sem,Exit.then,aos];apply wp_seq;apply wp_region;apply CX;simp[zc,Oper.upon,go_sem,Exit.then,dg];refine Calls.mono key λiT aa h=>?_;cases iT with
 |outgrown=>exact h.elim
 |returned v=>
  obtain⟨c1,c2,ix⟩:=h;obtain⟨y,ag⟩:=Ip.1 c1;have bJ:(aa.setCell (⟨ι,0,none⟩:Addr) (.int .i64 0)).cell? (⟨ι,0,none⟩:Addr)=some (.int .i64 0):=World.cell?_setCell_same' _ _ _ c1;dsimp only;apply wp_seq;apply wp_region;apply CX;simp[zc,Oper.upon,go_sem,Exit.then,ag,c2];generalize aa.setCell (⟨ι,0,none⟩:Addr) (.int .i64 0)=ax at ix bJ⊢;refine wp_ret ?_;refine leaves_cons (f:=47) (args:=#[.pointer (some ⟨ι,0,none⟩),.pointer (some ⟨ε,0,none⟩)]) (by simp) (by simp[go_sem]) ?_;refine(akD ε ι _).mono ?_;rintro e Mr hY ⟨rfl,rfl,rfl⟩;refine⟨_,?_,ix⟩;simp[results,results30,go_sem,bJ]
 |panicked cX=>
  obtain⟨e,rfl,c1,c2,bJ,fU,h2,nt,ix⟩:=h;have lX:((aa.setCell (⟨ι,0,none⟩:Addr) (.int .i64 e)).setCell (⟨pp,12,none⟩:Addr) (.bool (e==10))).cell? (⟨ι,0,none⟩:Addr)=some (.int .i64 e):=by rw[World.cell?_setCell_other _ (⟨pp,12,none⟩:Addr) (⟨ι,0,none⟩:Addr) _ λh=>by cases h];exact World.cell?_setCell_same' _ _ _ c1
  dsimp only;refine leaves_cons (f:=47) (args:=#[.pointer (some ⟨ι,0,none⟩),.pointer (some ⟨ε,0,none⟩)]) (by simp) (by simp[go_sem]) ?_;refine(akE ε ι pp e _ c1 c2 bJ cc fU h2 nt).mono ?_;rintro c6 Mr hY ⟨rfl,hu,rfl⟩;dsimp only;rw[hu];refine⟨_,?_,ix⟩;simp[results,results30,go_sem,lX]
theorem qj{c:Prop}[Decidable c]{r s:aK×gQ}(h:r.2.e≠10)(k:s.2.e≠10):(if c then r else s).2.e≠10:=by
 by_cases π:c
 ·rw[aY π];exact h
 ·rw[aN π];exact k
theorem als{m:aK}{a:aK.Ask}:(eN m a).2.e≠10:=by
 have f4:(fail m 4).2.e≠10:=(by decide:(4:Int)≠10);have f5:(fail m 5).2.e≠10:=(by decide:(5:Int)≠10);have f6:(fail m 6).2.e≠10:=(by decide:(6:Int)≠10);have f7:(fail m 7).2.e≠10:=(by decide:(7:Int)≠10);have f8:(fail m 8).2.e≠10:=(by decide:(8:Int)≠10);have f9:(fail m 9).2.e≠10:=(by decide:(9:Int)≠10);have f12:(fail m 12).2.e≠10:=(by decide:(12:Int)≠10);have f0:(0:Int)≠10:=by decide
 unfold eN I8;refine qj (qj ?_ f5) (qj ?_ (qj ?_ (qj ?_ (qj ?_ (qj ?_ (qj f0 (qj f0 ?_)))))))
 ·cases ly m.R with
  |none=>exact f7
  |some i=>exact f0
 ·cases gd m.R a.v with
  |none=>exact f4
  |some i=>exact f0
 ·cases gd m.R a.v with
  |none=>exact f4
  |some i=>cases ly m.R with
   |none=>exact f7
   |some i=>exact f0
 ·cases gd m.R a.v with
  |none=>exact f4
  |some e=>
   refine qj f5 ?_;cases(e.2.2[a.b.toNat]?).join with
   |none=>exact f0
   |some x=>exact f0
 ·cases gd m.R a.v with
  |none=>exact f4
  |some e=>exact qj f8 (qj f5 (qj f6 (qj f9 (qj f12 f0))))
 ·cases gd m.R a.v with
  |none=>exact f4
  |some e=>exact qj f8 (qj f5 f0)
 ·cases gd m.R a.v with
  |none=>exact f4
  |some i=>exact f0
theorem alv{m:aK}{a:aK.Ask}{e:Int}(h:eN m a=fail m e):e≠10:=by
 have:=@als m a
 rw[h]at this;exact this
section
variable{w:World}{pp pd:Nat}{m:aK}{xs:List (bG.cg×Int)}{aj:Int}{D:a1}{gE:Nat}
theorem mv.c0{m0:aK}{MP:List (bG.cg×Int)}{Mm:Int}{w':World}{bb:a1}(h:mv w D gE w' pp pd m xs aj bb)(aF:hj w pp pd m0 MP Mm D)(aO:Typed w eu gE){B:Nat}{e:TypeId}{sz:Nat}{p:J}{n c:Nat}{vs:aU}(γ:μ w B e sz p n c vs)(ar:e∉nV)(σ:e≠eu):μ w' B e sz p n c vs:=
 γ.aC h.aC λx I o=>by
  rcases o with o|o
  ·exact(aF.fV o).1.off (γ.typed I).1 ar
  ·exact(o▸(γ.typed I).1:Typed w e gE).ne aO σ rfl
theorem mv.ahw{w0:World}{dY:a1}{m0:aK}{MP:List (bG.cg×Int)}{Mm:Int}{w':World}{bb:a1}(h:mv w D gE w' pp pd m xs aj bb)(p:dQ w0 dY w pp pd m0 MP Mm D)(ω:w0.heap.size<=gE):dQ w0 dY w' pp pd m xs aj bb:=
 ⟨h.is,Kp.trans p.aC h.aC (λ_ _ h=>h) (λi o ae=>by
  rcases ae with ae|rfl
  ·rcases p.sub i ae with h1|h1
   ·exact h1
   ·omega
  ·omega),λi o=>by
  rcases h.sub i o with h1|h1
  ·exact p.sub i h1
  ·exact .inr (fo p.aC.size h1)⟩
def vB(w:World)(D:a1)(v:Value)(aj:Int)(r:gQ):Prop:=∃cJ ch dc cy dd cE,v=.agg #[.int .i64 aj,.int .i64 r.e,.int .i64 r.id,.slice cJ ch dc,.slice cy dd cE]/\μ w 0 cG 1 cJ ch dc (bg r.bF)/\μ w 0 ck 1 cy dd cE (bs.cK r.j8)/\∀x,cy=some x->¬D x.block
theorem qw{a b c:Int}{p q:J}{n k fk k':Nat}:∀y∈[Value.int .i64 a,.int .i64 b,.int .i64 c,.slice p n k,.slice q fk k'],y.oneCell'=true:=by intro y ag;simp only[fE,oj,pa]at ag;rcases ag with rfl|rfl|rfl|rfl|rfl<;>rfl
def nG(t:Int)(r:gQ)(cJ:J)(ch dc:Nat)(cy:J)(dd cE:Nat):aU:=[.int .i64 t,.int .i64 r.e,.int .i64 r.id,.slice cJ ch dc,.slice cy dd cE]
theorem aet{w0:World}{dY:a1}{x:bG.cg×Int}{W:World}{e5:a1}(h:dQ w0 dY W pp pd m (x::xs) aj e5){ε ι af nS kA:Nat}{z:aU}(oU:w0.heap.size<=ι)(s7:w0.heap.size<=af)(cc:ι≠af)(ρ:μ W nS Ba 1 (some ⟨ε,0,none⟩) 1 1 [.pointer (some ⟨pp,0,none⟩)])(az:μ W kA eu 5 (some ⟨ι,0,none⟩) 1 1 z){r:gQ}{t0 e:Int}(σ:C9 W (λi=>e5 i\/i<w0.heap.size) af t0 r)(KD:r.e=e){R:ak}
  (dx:∀w' bb v,dQ w0 dY w' pp pd m (if r.e=12 then x::xs else xs) aj bb->vB w' (λi=>bb i\/i<w0.heap.size) v x.2 r->R (.returned (.tuple #[v,.bool true])) w'):
  q2.aZ ε ι x.2 e af W R:=by
 subst KD;obtain⟨cJ,ch,dc,cy,dd,cE,⟨cm,hV,on⟩,oT⟩:=σ;unfold q2.aZ;refine cm.dj (j:=0) (by omega) rfl λde qX o3=>?_;have t4:=(cm.typed rfl).1;have r8:=h.loc qX (λae=>(h.is.fV ae).1.off t4 (by decide)) s7 t4 (by decide) (by decide);have ρ:=ρ.aC qX λy ag o=>(ρ.typed ag).1.ne (o▸t4) (by decide) rfl;have az:=az.aC qX λy ag o=>by cases ag;exact cc o
 have hV:=hV.aC qX λy ag o=>(hV.typed ag).1.ne (o▸t4) (by decide) rfl;have on:=on.aC qX λy ag o=>(on.typed ag).1.ne (o▸t4) (by decide) rfl
 have xB:∀(xd:World)(cM:a1),dQ w0 dY xd pp pd m (if r.e=12 then x::xs else xs) aj cM->μ xd 0 eu 5 (some ⟨af,0,none⟩) 1 1 (nG x.2 r cJ ch dc cy dd cE)->μ xd kA eu 5 (some ⟨ι,0,none⟩) 1 1 z->μ xd 0 cG 1 cJ ch dc (bg r.bF)->μ xd 0 ck 1 cy dd cE (bs.cK r.j8)->(∀x,cy=some x->¬(cM x.block\/x.block<w0.heap.size))->
   ∃(b2:ah),b2.size=5/\aw xd (⟨af,0,none⟩:Addr) b2.toList/\(ο (decide (b2.size=5)) (hG xd (⟨ι,0,none⟩:Addr) b2.toList/\∀eO,eO=xd.setCells (⟨ι,0,none⟩:Addr).block (⟨ι,0,none⟩:Addr).off b2.toList->(∃(bY:ah),bY.size=5/\aw eO (⟨ι,0,none⟩:Addr) bY.toList/\(R (.returned (Value.tuple #[(Value.agg bY),(Value.bool true)])) eO)))):=by
  intro xd cM iC cm az hV on oT;refine⟨(nG x.2 r cJ ch dc cy dd cE).toArray,rfl,cm.cells,aW rfl (az.put rfl qw λeO ta r4=>⟨_,rfl,r4.cells,?_⟩)⟩;have t2:=(az.typed rfl).1;exact dx eO cM _ (iC.loc ta (λae=>(iC.is.fV ae).1.off t2 (by decide)) oU t2 (by decide) (by decide)) ⟨cJ,ch,dc,cy,dd,cE,rfl,hV.aC ta λy ag o=>(hV.typed ag).1.ne (o▸t2) (by decide) rfl,on.aC ta λy ag o=>(on.typed ag).1.ne (o▸t2) (by decide) rfl,oT⟩
 by_cases he:r.e=12
 ·rw[aY he]at xB;rw[cond_neg (by rw[he];rfl)];exact xB de _ r8 o3 az hV on oT
 ·rw[aN he]at xB;rw[cond_pos (by simpa using he)];refine⟨_,ρ.at (j:=0) rfl,?_⟩
  try dsimp only[bj]
  obtain⟨q,c8,dy,db,cY,b1⟩:=r8.at_;refine⟨_,cY.at (j:=0) rfl,?_⟩;refine κ.use (bG.aiM cY.gate) ?_;rintro _ dJ ⟨rfl,aP⟩
  try dsimp only[bH]
  obtain⟨sB,N4,oY,as3⟩:=cY.aeU aP;have key:dQ de e5 dJ pp pd m xs aj (jS pp q sB dy db):=fi.iC b1 N4 oY as3;have dg:∀i,jS pp q c8 dy db i->hF de nV i:=λi o=>(cY.fV o).1;have AE:=aP;obtain⟨_,_,apQ,_⟩:=AE;have an7:=JY cY.gate;refine xB dJ _ (r8.trans key) (gX oY dg o3 (by decide)) (gX oY dg az (by decide)) (gX oY dg hV (by decide)) (gX apQ an7 on (by decide)) λy ag ae=>?_;rcases ae with ae|ae
  ·rcases key.sub _ ae with h1|h1
   ·exact oT y ag (.inl h1)
   ·have:=(on.typed ag).2.2
    omega
  ·exact oT y ag (.inr ae)
def dp(r:bG.cg):aK.Ask:=⟨r.k,r.v,r.b,r.s,r.bF⟩
theorem atf{x:bG.cg×Int}(h:hj w pp pd m (x::xs) aj D)(ae:Ri m (dp x.1)){R:ak}
  (dx:∀w' bb v,dQ w D w' pp pd (eN m (dp x.1)).1 (if(eN m (dp x.1)).2.e=12 then x::xs else xs) aj bb->vB w' (λi=>bb i\/i<w.heap.size) v x.2 (eN m (dp x.1)).2->R (.returned (.tuple #[v,.bool true])) w'):q2.C (some ⟨pp,0,none⟩) w R:=by
 obtain⟨q,c8,dy,db,cY,b1⟩:=id h;apply q2.ok;unfold q2.main;rintro ε δ eb rfl;have ρ:=μ.new (w:=w) [.pointer (some ⟨pp,0,none⟩)] Ba;rw[<-eb]at ρ;have ζ:=θ.alloc w (.cells #[.pointer (some ⟨pp,0,none⟩)] Ba);generalize w.alloc (.cells #[.pointer (some ⟨pp,0,none⟩)] Ba)=δ at ρ ζ⊢;rintro ι υ ee rfl;have az:=μ.new (w:=δ) (fP 0 cO cO) eu;rw[<-ee]at az;have τ:=θ.alloc δ (.cells (fP 0 cO cO).toArray eu);have bz:δ.alloc (.cells #[.int .i64 0,.int .i64 0,.int .i64 0,.slice none 0 0,.slice none 0 0] eu)=δ.alloc (.cells (fP 0 cO cO).toArray eu):=rfl;rw[bz];generalize δ.alloc (.cells (fP 0 cO cO).toArray eu)=υ at az τ⊢;have ρ:=ρ.ex τ;have fM:=ζ.trans τ;refine⟨_,ρ.at (j:=0) rfl,?_⟩
 try dsimp only[bj]
 refine⟨_,(cY.ex fM).at (j:=0) rfl,?_⟩;refine κ.use (bG.XO (cY.ex fM).gate) ?_;rintro _ aa ⟨bU,aT,rfl,ab,of⟩;unfold bG.cg.cells
 try dsimp only[bZ,cC,cD,mY,bj,bH,hz,iG]
 have hS:=fM.trans ab;rintro aH aG jc rfl;have bu:=μ.new (w:=aa) bG.k4 ev;rw[<-jc]at bu;have al:=θ.alloc aa (.cells bG.k4.toArray ev);have ig:aa.alloc (.cells #[.int .i64 0,.int .i64 0,.int .i64 0,.int .i64 0,.slice none 0 0] ev)=aa.alloc (.cells bG.k4.toArray ev):=rfl;rw[ig];generalize aa.alloc (.cells bG.k4.toArray ev)=aG at bu al⊢;have ρ:=(ρ.ex ab).ex al;have az:=(az.ex ab).ex al;have of:=of.ex al;refine aW rfl (bu.put (cs:=qO (dp x.1) bU x.1.n aT) rfl bG.BQ λba dP bS=>?_);have t3:=(bu.typed rfl).1;have kB:θ w ba:=(hS.trans al).then dP λi o=>by have:=hS.size;omega
 have ρ:=ρ.aC dP λy ag o=>(ρ.typed ag).1.ne (o▸t3) (by decide) rfl;have az:=az.aC dP λy ag o=>(az.typed ag).1.ne (o▸t3) (by decide) rfl;have of:=of.aC dP λy ag o=>(of.typed ag).1.ne (o▸t3) (by decide) rfl;rw[cond_neg (by rfl)];have aom:ι<ba.heap.size:=(az.typed rfl).2.2;rintro af b9 mC rfl;have cm:=μ.new (w:=ba) (fP 0 cO cO) eu;rw[<-mC]at cm;have ct:=θ.alloc ba (.cells (fP 0 cO cO).toArray eu);have ux:ba.alloc (.cells #[.int .i64 0,.int .i64 0,.int .i64 0,.slice none 0 0,.slice none 0 0] eu)=ba.alloc (.cells (fP 0 cO cO).toArray eu):=rfl;rw[ux];generalize ba.alloc (.cells (fP 0 cO cO).toArray eu)=b9 at cm ct⊢;have ρ:=ρ.ex ct;have az:=az.ex ct;have bS:=bS.ex ct;have of:=of.ex ct;have En:ι≠af:=by omega
 refine cm.put (cs:=fP 0 cO cO) rfl qw λca hU jm=>?_;have t4:=(cm.typed rfl).1;have sF:θ w ca:=(kB.trans ct).then hU λi o=>by have:=kB.size;omega
 have ρ:=ρ.aC hU λy ag o=>(ρ.typed ag).1.ne (o▸t4) (by decide) rfl;have az:=az.aC hU λy ag o=>by cases ag;exact En o
 have bS:=bS.aC hU λy ag o=>(bS.typed ag).1.ne (o▸t4) (by decide) rfl;have of:=of.aC hU λy ag o=>(of.typed ag).1.ne (o▸t4) (by decide) rfl;have oU:w.heap.size<=ι:=by have:=ζ.size;omega
 have s7:w.heap.size<=af:=by have:=kB.size;omega
 refine⟨_,ρ.at (j:=0) rfl,?_⟩;clear bu cm;refine ahz ((cY.ex sF).at (j:=12) rfl) (λδ=>by simp[go_sem]) λBf c1 c2 Bh ac9 Fg rL=>?_;have Yz:=sF.trans Bh;have ρ:=ρ.ex Bh;have az:=az.ex Bh;have bS:=bS.ex Bh;have jm:=jm.ex Bh;have of:=of.ex Bh;have t9:=(jm.typed rfl).1;have V0:=(dQ.start h).ex Yz;have eY:=V0.is;show FB.C ε aH af Bf _;apply FB.ok;unfold FB.main;refine⟨_,ρ.at (j:=0) rfl,(qO (dp x.1) bU x.1.n aT).toArray,rfl,bS.cells,?_⟩;refine alw ae eY of jm (λzM bb hp σ he=>?_) λe zM bb cs hp σ he bf=>?_
 ·try dsimp only[bH,bZ]
  have zb:=hp.c0 eY t9 Fg (by decide) (by decide);have H3:=hp.c0 eY t9 ρ (by decide) (by decide);have H4:μ zM _ eu 5 (some ⟨ι,0,none⟩) 1 1 (fP 0 cO cO):=az.aC hp.aC λy ag o=>by
   cases ag;rcases o with o|o
   ·exact(eY.fV o).1.off (az.typed rfl).1 (by decide)
   ·exact En o
  have AT:=hp.ahw V0 s7;have TB:w.heap.size<=c2:=fo sF.size (Fg.ge rfl).1;obtain⟨aq,a2,a3⟩:=zb.dj (N:=λw'=>Kp zM w' (λi=>i=c2)/\μ w' _ CQ 1 (some ⟨c2,0,none⟩) 1 1 [.int .i64 0]) (j:=0) (v:=.int .i64 0) (by omega) rfl λ_ k γ=>⟨k,γ⟩;obtain⟨qY,Vv⟩:=a3 _ rfl;refine⟨aq,a2,?_⟩;clear aq a2 a3;generalize zM.setCell (⟨c2,0,none⟩:Addr) (.int .i64 0)=MI at qY Vv⊢;have nK:=(zb.typed rfl).1;have Pw:=AT.loc qY (λae=>(AT.is.fV ae).1.off nK (by decide)) TB nK (by decide) (by decide)
  try dsimp only
  skip
  rw[cond_neg (by rfl)];obtain⟨cJ,ch,dc,cy,dd,cE,⟨cS,fX,jC⟩,qu⟩:=σ;refine aet Pw oU s7 En (H3.aC qY λy ag o=>(H3.typed ag).1.ne (o▸nK) (by decide) rfl) (H4.aC qY λy ag o=>(H4.typed ag).1.ne (o▸nK) (by decide) rfl) ⟨cJ,ch,dc,cy,dd,cE,⟨cS.aC qY λy ag o=>(cS.typed ag).1.ne (o▸nK) (by decide) rfl,fX.aC qY λy ag o=>(fX.typed ag).1.ne (o▸nK) (by decide) rfl,jC.aC qY λy ag o=>(jC.typed ag).1.ne (o▸nK) (by decide) rfl⟩,λx I ae=>qu x I (ae.imp_right λh=>sd h Yz.size)⟩ he λw' bb v aL σ=>?_;exact dx w' bb v aL σ
 ·have ada:=hp.c0 eY t9 ac9 (by decide) (by decide);have zb:=hp.c0 eY t9 Fg (by decide) (by decide);have H3:=hp.c0 eY t9 ρ (by decide) (by decide);have H4:μ zM _ eu 5 (some ⟨ι,0,none⟩) 1 1 (fP 0 cO cO):=az.aC hp.aC λy ag o=>by
   cases ag;rcases o with o|o
   ·exact(eY.fV o).1.off (az.typed rfl).1 (by decide)
   ·exact En o
  have AT:=hp.ahw V0 s7;have TB:w.heap.size<=c2:=fo sF.size (Fg.ge rfl).1;have nK:=(zb.typed rfl).1;obtain⟨ng,sB,qK,vu,Tn,axh⟩:=AT.at_;have aoL:pp≠c2:=λh=>(Tn.cell.typed rfl).1.ne (h▸nK) (by decide) rfl;have Lj:=Tn.put (N:=λ_=>True) 12 (by omega) (v:=.bool false) rfl λ_ _ _=>trivial;have VO:=zb.dj (N:=λ_=>True) (j:=0) (v:=.int .i64 0) (by omega) rfl λ_ _ _=>trivial;refine⟨e,rfl,VO.1,VO.2.1,ada.at (j:=0) rfl,aoL,Lj.1,Lj.2.1,?_⟩;have aoz:=alv bf;rw[show(e==10)=false by simpa using aoz];obtain⟨aq,a2,a3⟩:=zb.dj (N:=λw'=>Kp zM w' (λi=>i=c2)/\μ w' _ CQ 1 (some ⟨c2,0,none⟩) 1 1 [.int .i64 e]) (j:=0) (v:=.int .i64 e) (by omega) rfl λ_ k γ=>⟨k,γ⟩;obtain⟨qY,Vv⟩:=a3 _ rfl;clear aq a2 a3;generalize zM.setCell (⟨c2,0,none⟩:Addr) (.int .i64 e)=MI at qY Vv⊢;have Pw:=AT.loc qY (λae=>(AT.is.fV ae).1.off nK (by decide)) TB nK (by decide) (by decide);have acU:=H3.aC qY λy ag o=>(H3.typed ag).1.ne (o▸nK) (by decide) rfl;have ac0:=H4.aC qY λy ag o=>(H4.typed ag).1.ne (o▸nK) (by decide) rfl;have ac3:=σ.aC qY λy ag o=>(σ.typed ag).1.ne (o▸nK) (by decide) rfl;clear ada zb H3 H4 VO Lj σ Tn;obtain⟨ng,sB,qK,vu,To,amQ⟩:=Pw.at_;obtain⟨oZ,ac7⟩:=(To.put (N:=λw'=>Kp MI w' (λi=>i=pp)/\μ w' 0 rh 13 (some ⟨pp,0,none⟩) 1 1 ((ma pd ng m).set 12 (.bool false))) 12 (by omega) (v:=.bool false) rfl λ_ k γ=>⟨k,γ⟩).2.2 _ rfl;generalize MI.setCell (⟨pp,12,none⟩:Addr) (.bool false)=aws at oZ ac7⊢;have WS:=(To.cell.typed rfl).1;obtain⟨amV,uN⟩:=To.aeT oZ ac7 rfl rfl rfl rfl rfl;have adZ:dQ w D aws pp pd m (x::xs) aj _:=Pw.trans (fi.iC amQ amV uN λi o=>.inl o);have acV:=acU.aC oZ λy ag o=>(acU.typed ag).1.ne (o▸WS) (by decide) rfl;have aqW:=ac0.aC oZ λy ag o=>(ac0.typed ag).1.ne (o▸WS) (by decide) rfl;have ac4:=ac3.aC oZ λy ag o=>(ac3.typed ag).1.ne (o▸WS) (by decide) rfl
  try dsimp only
  try dsimp only[bH]
  rw[cond_pos (by simpa using he)];refine ac4.put (cs:=[.int .i64 0,.int .i64 e,.int .i64 0,.slice none 0 0,.slice none 0 0]) rfl qw λayu U1 aq2=>?_;have WJ:=(ac4.typed rfl).1;have asl:=adZ.loc U1 (λae=>(adZ.is.fV ae).1.off WJ (by decide)) s7 WJ (by decide) (by decide);refine aet (r:=⟨e,0,[],[]⟩) asl oU s7 En (acV.aC U1 λy ag o=>(acV.typed ag).1.ne (o▸WJ) (by decide) rfl) (aqW.aC U1 λy ag o=>by cases ag;exact En o) ⟨none,0,0,none,0,0,⟨aq2.lower (da _),μ.nil _ _ _ _,μ.nil _ _ _ _⟩,λ_ h=>by cases h⟩ rfl λw' bb v aL σ=>?_;rw[bf]at dx;exact dx w' bb v aL σ
end
section
variable{w:World}{pp pd:Nat}{m:aK}{xs:List (bG.cg×Int)}{aj:Int}{D:a1}
theorem ahy{F:Nat}{first cap:ah}{m':aK}(h:hj w pp pd m xs aj D)(dg:∀δ:World,(callFunc F (first++cap)).run prog δ=.ok (.enter F (first++cap)) δ)
  (π:∀Bf,hj Bf pp pd m xs aj D->Calls prog F (first++cap) Bf (φ λv w'=>v=.tuple #[]/\∃bb,dQ Bf D w' pp pd m' xs aj bb)){N:Value->ai}{X:List PanicEntry->ai}
  (eB:∀w' bb,dQ w D w' pp pd m' xs aj bb->N (.int .i64 0) w'):κ prog 30 #[.pointer (some ⟨pp,0,none⟩),.func (.func F) first cap] w N X:=by
 obtain⟨q,c8,dy,db,cY,b1⟩:=id h;refine ahz (cY.at (j:=12) rfl) dg λBf c1 c2 Bh ac9 Fg rL=>?_;have eY:=h.ex Bh;refine κ.use (π Bf eY) ?_;rintro _ zM ⟨rfl,bb,hp⟩;have zb:=hp.c0 eY Fg (by decide);have AT:=((dQ.start h).ex Bh).trans hp;obtain⟨aq,a2,a3⟩:=zb.dj (N:=λw'=>Kp zM w' λi=>i=c2) (j:=0) (v:=.int .i64 0) (by omega) rfl λ_ k γ=>k;have qY:=a3 _ rfl;refine⟨aq,a2,?_⟩;clear aq a2 a3;generalize zM.setCell (⟨c2,0,none⟩:Addr) (.int .i64 0)=MI at qY⊢;have nK:=(zb.typed rfl).1;exact eB MI _ (AT.loc qY (λae=>(AT.is.fV ae).1.off nK (by decide)) (Fg.ge rfl).1 nK (by decide) (by decide))
theorem avS(h:hj w pp pd m xs aj D){A:eC}{n:Nat}(hm:aK.Ok m A n)(ar:n<=900000){N:Value->ai}{X:List PanicEntry->ai}
  (eB:∀w' bb,dQ w D w' pp pd (pv m) xs aj bb->N (.int .i64 0) w'):κ prog 30 #[.pointer (some ⟨pp,0,none⟩),.func (.func 31) #[.pointer (some ⟨pp,0,none⟩)] #[]] w N X:=by
 have h1:=hm.fZ.seq;have η:=hm.fZ.clock;have au:=hm.fZ.loose;refine ahy h (λδ=>by simp[go_sem]) (λBf eY=>?_) eB;exact akP eY hm.inv (by omega) (by omega) (by omega)
theorem avR(h:hj w pp pd m xs aj D){A:eC}{n:Nat}(hm:aK.Ok m A n)(ar:n<=900000){N:Value->ai}{X:List PanicEntry->ai}
  (eB:∀w' bb,dQ w D w' pp pd (qS m) xs aj bb->N (.int .i64 0) w'):κ prog 30 #[.pointer (some ⟨pp,0,none⟩),.func (.func 32) #[.pointer (some ⟨pp,0,none⟩)] #[]] w N X:=by
 have h1:=hm.fZ.seq;have η:=hm.fZ.clock;have au:=hm.fZ.loose;refine ahy h (λδ=>by simp[go_sem]) (λBf eY=>?_) eB;exact Np eY hm.inv.wj (by omega) (by omega)
theorem ate(h:hj w pp pd m [] aj D){R:ak}(dx:∀w' bb,dQ w D w' pp pd m [] aj bb->R (.returned (.tuple #[.agg (fP 0 cO cO).toArray,.bool false])) w'):q2.C (some ⟨pp,0,none⟩) w R:=by
 obtain⟨q,c8,dy,db,cY,b1⟩:=id h;apply q2.ok;unfold q2.main;rintro ε δ eb rfl;have ρ:=μ.new (w:=w) [.pointer (some ⟨pp,0,none⟩)] Ba;rw[<-eb]at ρ;have ζ:=θ.alloc w (.cells #[.pointer (some ⟨pp,0,none⟩)] Ba);generalize w.alloc (.cells #[.pointer (some ⟨pp,0,none⟩)] Ba)=δ at ρ ζ⊢;rintro ι υ ee rfl;have az:=μ.new (w:=δ) (fP 0 cO cO) eu;rw[<-ee]at az;have τ:=θ.alloc δ (.cells (fP 0 cO cO).toArray eu);have bz:δ.alloc (.cells #[.int .i64 0,.int .i64 0,.int .i64 0,.slice none 0 0,.slice none 0 0] eu)=δ.alloc (.cells (fP 0 cO cO).toArray eu):=rfl;rw[bz];generalize δ.alloc (.cells (fP 0 cO cO).toArray eu)=υ at az τ⊢;have ρ:=ρ.ex τ;have fM:=ζ.trans τ;refine⟨_,ρ.at (j:=0) rfl,?_⟩
 try dsimp only[bj]
 refine⟨_,(cY.ex fM).at (j:=0) rfl,?_⟩;refine κ.use (bG.aiS (cY.ex fM).gate) ?_;rintro _ aa ⟨rfl,ab⟩;unfold bG.k4
 try dsimp only[bZ,cC,cD,mY,bj,bH,hz,iG]
 have hS:=fM.trans ab;rintro aH aG jc rfl;have bu:=μ.new (w:=aa) bG.k4 ev;rw[<-jc]at bu;have al:=θ.alloc aa (.cells bG.k4.toArray ev);have ig:aa.alloc (.cells #[.int .i64 0,.int .i64 0,.int .i64 0,.int .i64 0,.slice none 0 0] ev)=aa.alloc (.cells bG.k4.toArray ev):=rfl;rw[ig];generalize aa.alloc (.cells bG.k4.toArray ev)=aG at bu al⊢;have az:=(az.ex ab).ex al;refine aW rfl (bu.put (cs:=bG.k4) rfl bG.BQ λba dP bS=>?_);have t3:=(bu.typed rfl).1;have kB:θ w ba:=(hS.trans al).then dP λi o=>by have:=hS.size;omega
 have az:=az.aC dP λy ag o=>(az.typed ag).1.ne (o▸t3) (by decide) rfl;rw[cond_pos (by rfl)];refine az.put (cs:=fP 0 cO cO) rfl qw λbk hK eM=>?_;have Jt:θ w bk:=kB.then hK λi o=>by have:=ζ.size;omega
 exact⟨_,rfl,eM.cells,dx bk _ ((dQ.start h).ex Jt)⟩
def Bi(r:bG.cg):Prop:=bG.e8 r.k/\∀x∈r.bF,0<=x/\x<256
theorem Bi.alr{r:bG.cg}(h:Bi r){A:eC}{n:Nat}(hm:aK.Ok m A n)(ar:n<=900000):Ri m (dp r):=by have h1:=hm.fZ.seq;have η:=hm.fZ.dl;have au:=hm.fZ.loose;exact⟨hm.inv,by omega,by omega,by omega,h.2,h.1⟩
abbrev MR(b:Bool):Ending:=.returned (.tuple #[.agg (fP 0 cO cO).toArray,.bool b])
def ajz(w:World)(D:a1)(pp pd:Nat)(m:aK)(aj:Int)(R:ak):List (bG.cg×Int)->Prop
 |[]=>∀w' bb,dQ w D w' pp pd m [] aj bb->R (MR false) w'
 |x::xs=>Bi x.1/\∀w' bb v,dQ w D w' pp pd (eN m (dp x.1)).1 (if(eN m (dp x.1)).2.e=12 then x::xs else xs) aj bb->vB w' (λi=>bb i\/i<w.heap.size) v x.2 (eN m (dp x.1)).2->R (.returned (.tuple #[v,.bool true])) w'
theorem Gd(h:hj w pp pd m xs aj D){A:eC}{n:Nat}(hm:aK.Ok m A n)(ar:n<=800000){pick:Int}(hp:1<=pick/\pick<=4){R:ak}
  (h1:pick=1->ajz w D pp pd (aK.tick m) aj R xs)
  (η:pick=2->∀w' bb,dQ w D w' pp pd (pv (aK.tick m)) xs aj bb->R (MR false) w')
  (au:pick=3->∀w' bb,dQ w D w' pp pd (qS (aK.tick m)) xs aj bb->R (MR false) w')
  (bV:pick=4->∀w' bb,dQ w D w' pp pd (aK.tick m) xs aj bb->R (MR false) w'):zh.C (some ⟨pp,0,none⟩) pick w R:=by
 have T9:=hm.tick;have π:=hm.fZ.clock;obtain⟨q,c8,dy,db,cY,b1⟩:=id h;apply zh.ok;unfold zh.main;rintro ε δ eb rfl;have ρ:=μ.new (w:=w) (fP 0 cO cO) eu;rw[<-eb]at ρ;have TA:w.heap.size<=ε:=by omega
 have ζ:=θ.alloc w (.cells (fP 0 cO cO).toArray eu);have aM:w.alloc (.cells #[.int .i64 0,.int .i64 0,.int .i64 0,.slice none 0 0,.slice none 0 0] eu)=w.alloc (.cells (fP 0 cO cO).toArray eu):=rfl;rw[aM];generalize w.alloc (.cells (fP 0 cO cO).toArray eu)=δ at ρ ζ⊢;rw[cond_neg (by rfl)]
 try dsimp only[bj]
 simp only[dF];have vU:=cY.ex ζ;refine⟨_,vU.at (j:=10) rfl,?_⟩;rw[b3 (x:=m.clock+1) (by omega) (by omega)];refine vU.put 10 (by omega) (v:=.int .i64 (m.clock+1)) rfl λaa b7 bu=>?_;rw[arR]at bu;obtain⟨vV,uN⟩:=vU.aeT (m':=aK.tick m) b7 bu rfl rfl rfl rfl rfl;have q4:dQ w D aa pp pd (aK.tick m) xs aj _:=((dQ.start h).ex ζ).trans (fi.iC b1 vV uN λi o=>.inl o);have ρ:=gX uN (λi o=>(vU.fV o).1) ρ (by decide);have t1:=(ρ.typed rfl).1
 have fin:∀(b:Bool)(W:World)(bb:a1)(m':aK),dQ w D W pp pd m' xs aj bb->μ W ε eu 5 (some ⟨ε,0,none⟩) 1 1 (fP 0 cO cO)->(∀w' bb,dQ w D w' pp pd m' xs aj bb->R (MR b) w')->
   hG W (⟨ε,0,none⟩:Addr) [(Value.int .i64 0),(Value.int .i64 0),(Value.int .i64 0),.slice none 0 0,.slice none 0 0]/\∀cn,cn=W.setCells (⟨ε,0,none⟩:Addr).block (⟨ε,0,none⟩:Addr).off [(Value.int .i64 0),(Value.int .i64 0),(Value.int .i64 0),.slice none 0 0,.slice none 0 0]->
   (∃(cN:ah),cN.size=5/\aw cn (⟨ε,0,none⟩:Addr) cN.toList/\(R (.returned (Value.tuple #[(Value.agg cN),(Value.bool b)])) cn)):=by
  intro b W bb m' iC γ ix;refine γ.put (cs:=fP 0 cO cO) rfl qw λbk hK eM=>?_;have t:=(γ.typed rfl).1;exact⟨_,rfl,eM.cells,ix bk _ (iC.loc hK (λae=>(iC.is.fV ae).1.off t (by decide)) TA t (by decide) (by decide))⟩
 refine bA (λhk=>?_) λv7=>bA (λhk=>?_) λqe=>bA (λhk=>?_) λT4=>bA (λhk=>?_) λuG=>?_
 ·have hk:pick=1:=by simpa using hk
  have h1:=h1 hk;cases xs with
  |nil=>
   refine ate q4.is λax bb aL=>?_
   try dsimp only
   try dsimp only[bZ,cC,cD,bj,dH,hz,iG]
   have cm:=aL.c0 q4.is ρ (by decide);have t4:=(cm.typed rfl).1;have Cu:=q4.trans aL;refine aW rfl (cm.put (cs:=fP 0 cO cO) rfl qw λba dP bS=>⟨_,rfl,bS.cells,?_⟩);exact h1 ba _ (Cu.loc dP (λae=>(Cu.is.fV ae).1.off t4 (by decide)) TA t4 (by decide) (by decide))
  |cons x xs=>
   obtain⟨aP,ix⟩:=h1;refine atf q4.is (aP.alr T9 (by omega)) λax bb v aL σ=>?_;obtain⟨cJ,ch,dc,cy,dd,cE,rfl,fX,jC,qu⟩:=σ
   try dsimp only
   try dsimp only[bZ,cC,cD,bj,dH,hz,iG]
   have cm:=aL.c0 q4.is ρ (by decide);have t4:=(cm.typed rfl).1;have Cu:=q4.trans aL;refine aW rfl (cm.put (cs:=nG x.2 (eN (aK.tick m) (dp x.1)).2 cJ ch dc cy dd cE) rfl qw λba dP bS=>⟨_,rfl,bS.cells,?_⟩);refine ix ba _ _ (Cu.loc dP (λae=>(Cu.is.fV ae).1.off t4 (by decide)) TA t4 (by decide) (by decide)) ⟨cJ,ch,dc,cy,dd,cE,rfl,fX.aC dP λy ag o=>(fX.typed ag).1.ne (o▸t4) (by decide) rfl,jC.aC dP λy ag o=>(jC.typed ag).1.ne (o▸t4) (by decide) rfl,λx I ae=>qu x I (ae.imp_right λh=>sd h q4.aC.size)⟩
 ·have hk:pick=2:=by simpa using hk
  refine avS q4.is T9 (by omega) λw' bb aL=>?_
  try dsimp only[bH]
  exact fin false w' _ _ (q4.trans aL) (aL.c0 q4.is ρ (by decide)) (η hk)
 ·have hk:pick=3:=by simpa using hk
  refine avR q4.is T9 (by omega) λw' bb aL=>?_
  try dsimp only[bH]
  exact fin false w' _ _ (q4.trans aL) (aL.c0 q4.is ρ (by decide)) (au hk)
 ·have hk:pick=4:=by simpa using hk
  exact fin false aa _ _ q4 ρ (bV hk)
 ·exfalso;simp only[beq_eq_false_iff_ne]at v7 qe T4 uG;omega
theorem awu(h:hj w pp pd m xs aj D):Fx.C (some ⟨pp,0,none⟩) w (φ λv w'=>v=.int .i64 (xs.length:Int)/\w'=w):=by
 obtain⟨q,c8,dy,db,cY,b1⟩:=id h;apply Fx.ok;unfold Fx.main;rw[cond_neg (by rfl)]
 try dsimp only[bj]
 refine⟨_,cY.at (j:=0) rfl,?_⟩;refine κ.use (bG.XY cY.gate) ?_;rintro _ _ ⟨rfl,rfl⟩
 try dsimp only[bH]
 exact φ.mk ⟨rfl,rfl⟩
theorem aeZ(h:hj w pp pd m xs aj D)(r:bG.cg){B:Nat}(σ:μ w B cG 1 r.p r.n r.c (bG.bytesOf r))(ψ:bG.Small r)(aO:0<=aj/\aj<1000000):
  Fw.C (some ⟨pp,0,none⟩) r.k r.v r.b r.s r.p r.n r.c w (φ λv w'=>
   (¬bG.e8 r.k/\v=.tuple #[.int .i64 0,.int .i64 1]/\dQ w D w' pp pd m xs aj D)\/(bG.e8 r.k/\16<=xs.length/\v=.tuple #[.int .i64 0,.int .i64 12]/\dQ w D w' pp pd m xs aj D)\/
   (bG.e8 r.k/\xs.length<16/\v=.tuple #[.int .i64 (aj+1),.int .i64 0]/\∃bU aT bb,dQ w D w' pp pd m (xs++[({r with p:=bU,c:=aT},aj+1)]) (aj+1) bb)):=by
 obtain⟨q,c8,dy,db,cY,b1⟩:=id h;apply Fw.ok;unfold Fw.main;rintro ε δ eb rfl;have ρ:=μ.new (w:=w) r.cells ev;rw[<-eb]at ρ;have ζ:=θ.alloc w (.cells r.cells.toArray ev);have aM:w.alloc (.cells #[.int .i64 r.k,.int .i64 r.v,.int .i64 r.b,.int .i64 r.s,.slice r.p r.n r.c] ev)=w.alloc (.cells r.cells.toArray ev):=rfl;rw[aM];generalize w.alloc (.cells r.cells.toArray ev)=δ at ρ ζ⊢;rw[cond_neg (by rfl)]
 try dsimp only[bj]
 have eH:=ζ.trans (θ.drew δ);have ρ:=ρ.ex (θ.drew δ);generalize δ.drew=υ at eH ρ⊢;have η:=cY.ex eH;have uZ:=(dQ.start h).ex eH;refine⟨_,η.at (j:=0) rfl,r.cells.toArray,rfl,ρ.cells,?_⟩;have abJ:=σ.ex eH;refine κ.use (bG.ajH η.gate (da _) r ⟨abJ.cells,ψ⟩ (λw' k=>(gX k (JY η.gate) abJ (by decide)).cells) aO) ?_;rintro _ aa (⟨g,rfl,ab⟩|⟨g,vS,rfl,ab⟩|⟨g,vS,rfl,bU,aT,aP⟩)
 ·try dsimp only[bZ,cC,cD,bj,bH]
  exact φ.mk (.inl ⟨g,rfl,uZ.ex ab⟩)
 ·try dsimp only[bZ,cC,cD,bj,bH]
  exact φ.mk (.inr (.inl ⟨g,vS,rfl,uZ.ex ab⟩))
 ·try dsimp only[bZ,cC,cD,bj,bH]
  obtain⟨sB,au,b7,pK⟩:=η.aeU aP;exact φ.mk (.inr (.inr ⟨g,vS,rfl,bU,aT,_,uZ.trans (fi.iC b1 au b7 pK)⟩))
end
section
variable{w:World}{pp pd:Nat}{m:aK}{aj:Int}{D:a1}
def ni(m:aK)(a:aK.Ask):aK×gQ:=if 1<=a.k/\a.k<=9 then sT m a else(m,⟨1,0,[],[]⟩)
def zo(aj:Int)(a:aK.Ask):Int:=if 1<=a.k/\a.k<=9 then aj+1 else aj
def gh(A:eC)(a:aK.Ask):eC×gQ:=if 1<=a.k/\a.k<=9 then kc A a else(A,⟨1,0,[],[]⟩)
theorem aiK{w0:World}{dY e5:a1}{x:bG.cg×Int}{A:eC}{n:Nat}(hm:aK.Ok m A n)(ar:n<=700000)(aP:Bi x.1)(h:dQ w0 dY w pp pd m [x] aj e5){ι kA:Nat}{z:aU}(az:μ w kA eu 5 (some ⟨ι,0,none⟩) 1 1 z)(oU:w0.heap.size<=ι){R:ak}
  (dx:∀w' bb v,dQ w0 dY w' pp pd (sT m (dp x.1)).1 [] aj bb->vB w' (λi=>bb i\/i<w0.heap.size) v x.2 (sT m (dp x.1)).2->R (.returned v) w'):mb.bd (some ⟨pp,0,none⟩) ι w R:=by
 classical
 have yV:=hm.full (by omega) (a:=dp x.1) aP.2;unfold mb.bd
 let P:aK->ai:=λm W=>(∃e5,dQ w0 dY W pp pd m [x] aj e5)/\∃B z,μ W B eu 5 (some ⟨ι,0,none⟩) 1 1 z
 let nr:ai:=λW=>(eN (aK.tick m) (dp x.1)).2.e=12/\P (pv (aK.tick (aK.tick m))) W
 refine⟨λt0 t4 W=>some ⟨pp,0,none⟩=t0/\ι=t4/\(P m W\/nr W),λt0 t4 W=>if nr W then 0 else 1,⟨rfl,rfl,.inl ⟨⟨e5,h⟩,_,_,az⟩⟩,?_⟩;rintro _ _ W ⟨rfl,rfl,jX⟩
 have main:∀(m1:aK)(Xw:eC)(aD:Nat),aK.Ok m1 Xw aD->aD<=790000->P m1 W->
   ((eN (aK.tick m1) (dp x.1)).2.e≠12->eN (aK.tick m1) (dp x.1)=sT m (dp x.1))->
   ((eN (aK.tick m1) (dp x.1)).2.e=12->m1=m/\¬nr W)->
   mb.ε (some ⟨pp,0,none⟩) ι W R λatS ya w'=>(some ⟨pp,0,none⟩=atS/\ι=ya/\(P m w'\/nr w'))/\(if nr w' then 0 else 1)<(if nr W then 0 else 1):=by
  rintro m1 Xw aD B4 qf ⟨⟨cM,hp⟩,B,z,az⟩ an9 am8;unfold mb.ε;refine Gd hp.is B4 (by omega) (pick:=1) (by omega) (λ_=>⟨aP,λax bb v aL σ=>?_⟩) (λh=>by omega) (λh=>by omega) (λh=>by omega);obtain⟨cJ,ch,dc,cy,dd,cE,rfl,fX,jC,qu⟩:=σ
  try dsimp only
  try dsimp only[bj,bZ,cC,cD,dH,hz,iG]
  have az:=aL.c0 hp.is az (by decide);have Cu:=hp.trans aL;rintro af cn mC rfl;have cm:=μ.new (w:=ax) (fP 0 cO cO) eu;rw[<-mC]at cm;have dG:=θ.alloc ax (.cells (fP 0 cO cO).toArray eu);have D3:ax.alloc (.cells #[.int .i64 0,.int .i64 0,.int .i64 0,.slice none 0 0,.slice none 0 0] eu)=ax.alloc (.cells (fP 0 cO cO).toArray eu):=rfl;rw[D3];have aom:ι<ax.heap.size:=(az.typed rfl).2.2;have En:ι≠af:=by omega
  have s7:w0.heap.size<=af:=by have:=Cu.aC.size;omega
  generalize ax.alloc (.cells (fP 0 cO cO).toArray eu)=cn at cm dG⊢;refine aW rfl (cm.put (cs:=nG x.2 (eN (aK.tick m1) (dp x.1)).2 cJ ch dc cy dd cE) rfl qw λde qX o3=>?_);have t4:=(cm.typed rfl).1;have Dc:θ ax de:=dG.then qX λi o=>by omega
  have r8:=Cu.ex Dc;have az:=az.ex Dc;refine⟨_,o3.at (j:=1) rfl,?_⟩;refine bA (λhe=>?_) λhe=>?_
  ·have he:(eN (aK.tick m1) (dp x.1)).2.e≠12:=by simpa using he
   rw[an9 he]at r8 o3 fX jC;rw[aN yV.1]at r8;refine⟨(nG x.2 (sT m (dp x.1)).2 cJ ch dc cy dd cE).toArray,rfl,o3.cells,aW rfl (az.put (cs:=nG x.2 (sT m (dp x.1)).2 cJ ch dc cy dd cE) rfl qw λdJ oY r3=>⟨_,rfl,r3.cells,?_⟩)⟩;have t2:=(az.typed rfl).1;have fX:=fX.ex Dc;have jC:=jC.ex Dc;exact dx dJ _ _ (r8.loc oY (λae=>(r8.is.fV ae).1.off t2 (by decide)) oU t2 (by decide) (by decide)) ⟨cJ,ch,dc,cy,dd,cE,rfl,fX.aC oY λy ag o=>(fX.typed ag).1.ne (o▸t2) (by decide) rfl,jC.aC oY λy ag o=>(jC.typed ag).1.ne (o▸t2) (by decide) rfl,λx I ae=>qu x I (ae.imp_right λh=>sd h hp.aC.size)⟩
  ·have he:(eN (aK.tick m1) (dp x.1)).2.e=12:=by simpa using he
   obtain⟨rfl,aow⟩:=am8 he;have yQ:(eN (aK.tick m1) (dp x.1)).1=aK.tick m1:=by
    rcases B4.tick.do (by omega) (a:=dp x.1) aP.2 with⟨_,η,_⟩|⟨h1,_⟩
    ·exact η
    ·exact absurd he h1
   rw[he,aY rfl,yQ]at r8;refine Gd r8.is B4.tick (by omega) (pick:=2) (by omega) (λh=>by omega) (λ_ ep Jh abU=>?_) (λh=>by omega) (λh=>by omega)
   try dsimp only
   try dsimp only[bZ,cC,cD,bj,dH,jb,hz,iG]
   have az:=abU.c0 r8.is az (by decide);have asd:=r8.trans abU;rintro gb gP BY rfl;have bS:=μ.new (w:=ep) (fP 0 cO cO) eu;rw[<-BY]at bS;have rm:=θ.alloc ep (.cells (fP 0 cO cO).toArray eu);have alG:ep.alloc (.cells #[.int .i64 0,.int .i64 0,.int .i64 0,.slice none 0 0,.slice none 0 0] eu)=ep.alloc (.cells (fP 0 cO cO).toArray eu):=rfl;rw[alG];generalize ep.alloc (.cells (fP 0 cO cO).toArray eu)=gP at bS rm⊢;refine aW rfl (bS.put (cs:=fP 0 cO cO) rfl qw λgj y6 pG=>?_);have Js:θ ep gj:=rm.then y6 λi o=>by omega
   have vU:nr gj:=⟨he,⟨_,asd.ex Js⟩,_,_,az.ex Js⟩;refine⟨⟨rfl,rfl,.inr vU⟩,?_⟩;rw[aY vU,aN aow];omega
 by_cases vU:nr W
 ·have h1:=vU.1;have aa8:sT m (dp x.1)=eN (aK.tick (pv (aK.tick (aK.tick m)))) (dp x.1):=by unfold sT;rw[aY h1]
  refine main _ A (n+3) (hm.tick.tick.clean (by omega)) (by omega) vU.2 (λ_=>aa8.symm) λh=>?_;rw[<-aa8]at h;exact absurd h yV.1
 ·refine main m A n hm (by omega) (jX.resolve_right vU) (λh=>by unfold sT;rw[aN h]) λh=>⟨rfl,vU⟩
theorem asL{A:eC}{n:Nat}(hm:aK.Ok m A n)(ar:n<=800000){a:aK.Ask}(aP:∀x∈a.bF,0<=x/\x<256):(ni m a).2=(gh A a).2/\aK.Ok (ni m a).1 (gh A a).1 (n+5):=by
 unfold ni gh;by_cases bL:1<=a.k/\a.k<=9
 ·rw[aY bL,aY bL];exact⟨(hm.full ar aP).2.1,(hm.full ar aP).2.2⟩
 ·rw[aN bL,aN bL];exact⟨rfl,hm.more (by omega)⟩
theorem aiL{A:eC}{n:Nat}(h:hj w pp pd m [] aj D)(hm:aK.Ok m A n)(ar:n<=700000)(r:bG.cg){B:Nat}(σ:μ w B cG 1 r.p r.n r.c (bG.bytesOf r))(ψ:bG.Small r)(aO:0<=aj/\aj<1000000){R:ak}
  (dx:∀w' bb v,dQ w D w' pp pd (ni m (dp r)).1 [] (zo aj (dp r)) bb->vB w' (λi=>bb i\/i<w.heap.size) v (if 1<=r.k/\r.k<=9 then aj+1 else 0) (ni m (dp r)).2->R (.returned v) w'):mb.C (some ⟨pp,0,none⟩) r.k r.v r.b r.s r.p r.n r.c w R:=by
 obtain⟨q,c8,dy,db,cY,b1⟩:=id h;apply mb.ok;unfold mb.main;rintro ε δ eb rfl;have ρ:=μ.new (w:=w) r.cells ev;rw[<-eb]at ρ;have ζ:=θ.alloc w (.cells r.cells.toArray ev);have aM:w.alloc (.cells #[.int .i64 r.k,.int .i64 r.v,.int .i64 r.b,.int .i64 r.s,.slice r.p r.n r.c] ev)=w.alloc (.cells r.cells.toArray ev):=rfl;rw[aM];generalize w.alloc (.cells r.cells.toArray ev)=δ at ρ ζ⊢;rintro ι υ ee rfl;have az:=μ.new (w:=δ) (fP 0 cO cO) eu;rw[<-ee]at az;have τ:=θ.alloc δ (.cells (fP 0 cO cO).toArray eu);have bz:δ.alloc (.cells #[.int .i64 0,.int .i64 0,.int .i64 0,.slice none 0 0,.slice none 0 0] eu)=δ.alloc (.cells (fP 0 cO cO).toArray eu):=rfl;rw[bz];have oU:w.heap.size<=ι:=by have:=ζ.size;omega
 generalize δ.alloc (.cells (fP 0 cO cO).toArray eu)=υ at az τ⊢;have ρ:=ρ.ex τ;have fM:=ζ.trans τ;have η:=cY.ex fM;have uZ:=(dQ.start h).ex fM;rw[cond_neg (by rfl)]
 try dsimp only[bj]
 refine⟨_,η.at (j:=0) rfl,?_⟩;refine κ.use (bG.XY η.gate) ?_;rintro _ _ ⟨rfl,rfl⟩
 try dsimp only[bH]
 rw[cond_neg (by rfl)];refine⟨r.cells.toArray,rfl,ρ.cells,?_⟩;refine κ.use (aeZ uZ.is r (σ.ex fM) ψ aO) ?_;rintro _ bk (⟨g,rfl,aL⟩|⟨g,vS,rfl,aL⟩|⟨g,vS,rfl,bU,aT,bb,aL⟩)
 ·try dsimp only[bZ,cC,cD,bj,bH]
  rw[cond_pos (by rfl)];have aby:¬(1<=(dp r).k/\(dp r).k<=9):=g;have az:=aL.c0 uZ.is az (by decide);have t2:=(az.typed rfl).1;have zj:=uZ.trans aL;refine az.put (cs:=[.int .i64 0,.int .i64 1,.int .i64 0,.slice none 0 0,.slice none 0 0]) rfl qw λca hU jm=>⟨_,rfl,jm.cells,?_⟩;unfold ni zo at dx;rw[aN aby,aN aby,aN (show¬(1<=r.k/\r.k<=9)from g)]at dx;exact dx ca _ _ (zj.loc hU (λae=>(zj.is.fV ae).1.off t2 (by decide)) oU t2 (by decide) (by decide)) ⟨none,0,0,none,0,0,rfl,μ.nil _ _ _ _,μ.nil _ _ _ _,λ_ h=>by cases h⟩
 ·simp at vS
 ·try dsimp only[bZ,cC,cD,bj,bH]
  rw[cond_neg (by rfl)];have bL:1<=(dp r).k/\(dp r).k<=9:=g;have az:=aL.c0 uZ.is az (by decide);unfold ni zo at dx;rw[aY bL,aY bL,aY (show 1<=r.k/\r.k<=9 from g)]at dx;exact aiK (x:=({r with p:=bU,c:=aT},aj+1)) hm ar ⟨g,ψ.wf⟩ (uZ.trans aL) az oU dx
end
theorem ar9{d:bh.dm}(h1:d.after=-1)(η:d.off=false){i j:Int}{s:ao}(o:0<=i/\i<(d.now.length:Int))(χ:0<=j/\j<(d.now.length:Int))(ψ:s.length=64):bh.zT d [(i,s),(j,s)]=(bh.dj (bh.dj d i s) j s,0):=by
 have mF:bh.km d=d:=by unfold bh.km;rw[aN (by omega),aN (by omega)]
 have aM:(bh.dj d i s).after=-1:=h1;have bz:(bh.dj d i s).off=false:=η;have ao0:bh.km (bh.dj d i s)=bh.dj d i s:=by unfold bh.km;rw[aN (by omega),aN (by omega)]
 unfold bh.zT;rw[aN (by rw[η];decide),aN (by simp[bh.wide,ψ]),aN (by simp[bh.out];omega)];unfold bh.x0;rw[mF,aN (by rw[η];decide)];unfold bh.x0;rw[ao0,aN (by rw[bz];decide)];rfl
theorem alD{w0 w:World}{dY:a1}{B pd:Nat}{d:bh.dm}{D:a1}{k:Nat}(h:hi w0 dY w B pd d D k)(hk:k<=90000000){i j:Int}(o:0<=i/\i<(d.now.length:Int))(χ:0<=j/\j<(d.now.length:Int)){p:J}{c:Nat}{s:ao}(π:bh.np w D p (bg s))(ψ:bh.kP s){N:Value->ai}{X:List PanicEntry->ai}
  (K:∀w' bb,hi w0 dY w' B pd (bh.dj (bh.dj d i s) j s) bb (k+2)->Kp w w' D->N (.int .i64 0) w'):
  aR w #[.int .i64 i,.slice p 64 c,.int .i64 j,.slice p 64 c] CR λε aa=>κ prog 63 #[.pointer (some ⟨pd,0,none⟩),.slice (some ⟨ε,0,none⟩) 2 2] aa N X:=by
 rintro b δ rfl rfl;have γ:=μ.alloc (w:=w) [.int .i64 i,.slice p 64 c,.int .i64 j,.slice p 64 c] CR 2 2 rfl;have x:=θ.alloc w (.cells [Value.int .i64 i,.slice p 64 c,.int .i64 j,.slice p 64 c].toArray CR);generalize w.heap.size=b at γ⊢;generalize w.alloc (.cells #[.int .i64 i,.slice p 64 c,.int .i64 j,.slice p 64 c] CR)=δ at γ x⊢;have h1:=h.ex x;refine κ.use (bh.Jp h1.dev h1.e8 (fo h1.low h1.aC.size) (ws:=[⟨i,s,p,64,c⟩,⟨j,s,p,64,c⟩]) rfl (bh.np.Cp h1.dev γ (by decide) (by decide) (by decide)) (λew l8=>by
  simp only[fE,oj,pa]at l8;rcases l8 with rfl|rfl
  ·exact⟨π.step (x.aC _) λi _ h=>h,ψ.1,ψ.2⟩
  ·exact⟨π.step (x.aC _) λi _ h=>h,ψ.1,ψ.2⟩) (by omega) (by have:=h1.fZ;omega)) ?_
 have uH:bh.zT d ([(⟨i,s,p,64,c⟩:bh.h0),⟨j,s,p,64,c⟩].map bh.h0.plain)=(bh.dj (bh.dj d i s) j s,0):=ar9 h1.after h1.off o χ ψ.1;rw[uH];rintro _ υ ⟨rfl,aP⟩;obtain⟨bb,b1,oZ⟩:=h1.RQ aP rfl rfl (by show((d.now.set _ _).set _ _).length=_;rw[jB,jB]) (k':=k+2) (by show((d.loose++[(i,s)])++[(j,s)]).length<=k+2;rw[e9,e9];have:=h.fZ;simp only[AU];omega);exact K υ bb b1 (Kp.trans (x.aC D) oZ (λ_ _ h=>h) λ_ _ h=>h)
theorem M0{w:World}{B pd:Nat}{d:bh.dm}{D:a1}(h:bh.hZ w B pd d D):DA.C (some ⟨pd,0,none⟩) w (φ λv w'=>v=.int .i64 (d.now.length:Int)/\w'=w):=by
 apply DA.ok;unfold DA.main;obtain⟨bF,bn,pl,kF,h,b1⟩:=h
 try dsimp only[mB,bj,jb]
 simp only[dF];exact⟨_,_,_,h.cell.at (j:=1) rfl,φ.mk ⟨rfl,rfl⟩⟩
theorem Ya{s k:Int}(eo:6<=s/\s<=24/\2<=k/\k<=16)(w:World):Fu.C s k w (φ λv w'=>v=.tuple #[.int .i64 (40+s*k),.int .i64 0]/\θ w w'):=by
 apply Fu.ok;unfold Fu.main;rintro ε δ rfl rfl;have γ:=μ.new (w:=w) (two s k) b5;have xJ:=θ.alloc w (.cells (two s k).toArray b5);have aM:w.alloc (.cells #[.int .i64 s,.int .i64 k] b5)=w.alloc (.cells (two s k).toArray b5):=rfl;rw[aM];generalize w.alloc (.cells (two s k).toArray b5)=δ at γ xJ⊢;refine⟨(two s k).toArray,rfl,γ.cells,?_⟩;refine κ.use (Jf s k _) ?_;rintro _ υ ⟨rfl,η⟩;rw[uQ.2 eo]
 try dsimp only[bH]
 rw[cond_neg (by decide)];have hp:=Lr eo;refine⟨s,(γ.ex η).at (by rfl),k,(γ.ex η).at (by rfl),?_⟩;rw[b3 (x:=s*k) (by omega) (by omega),b3 (by omega) (by omega)];exact φ.mk ⟨rfl,xJ.trans η⟩
theorem aiU{w:World}{pd:Nat}{D:a1}{s k:Int}(g:pW s k)(h:bh.hZ w 0 pd (bh.fresh (40+s*k).toNat) D):
  mP.C (some ⟨pd,0,none⟩) s k w (φ λv w'=>v=.int .i64 0/\∃bb,hi w D w' 0 pd (sY (40+s*k).toNat s k) bb 0):=by
 have hp:=g.prod;have hw:=g.wide;obtain⟨n,ar⟩:∃n,(40+s*k).toNat=n:=⟨_,rfl⟩;have EC:(n:Int)=40+s*k:=by omega
 rw[ar]at h⊢;have hlen:(bh.fresh n).now.length=n:=by simp[bh.fresh]
 have sU:hi w D w 0 pd (bh.fresh n) D 0:=hi.start h (bh.amw (by omega)) rfl rfl (by rw[hlen];omega) (eF _) (da _);apply mP.ok;unfold mP.main;rintro ε δ eb rfl;have ρ:=μ.new (w:=w) (two s k) b5;rw[<-eb]at ρ;have ζ:=θ.alloc w (.cells (two s k).toArray b5);have aM:w.alloc (.cells #[.int .i64 s,.int .i64 k] b5)=w.alloc (.cells (two s k).toArray b5):=rfl;rw[aM];generalize w.alloc (.cells (two s k).toArray b5)=δ at ρ ζ⊢;refine⟨(two s k).toArray,rfl,ρ.cells,?_⟩;refine κ.use (Ya hw δ) ?_;rintro _ υ ⟨rfl,τ⟩
 try dsimp only[mB,bZ,cC,cD,bj,bH]
 rw[cond_neg (by rfl)];unfold mP.aZ;rw[cond_neg (by rfl)];have ZO:=(sU.ex ζ).ex τ;have ρ:=ρ.ex τ;refine κ.use (M0 ZO.dev) ?_;rintro _ ays ⟨rfl,bz⟩;obtain rfl:=bz.symm
 try dsimp only[bH]
 rw[hlen,iM (by omega)];rintro ι ba ee rfl;have em:madeCells #[Value.int .u8 0] (64*1)=(bg bh.hR).toArray:=E4 1 64 (Value.int .u8 0) (by decide);rw[em];have bS:=μ.alloc (w:=υ) (bg bh.hR) cG 1 64 rfl;rw[<-ee]at bS;have aJ:=θ.alloc υ (.cells (bg bh.hR).toArray cG);generalize υ.alloc (.cells (bg bh.hR).toArray cG)=ba at bS aJ⊢;have NK:=ZO.ex aJ;have ρ:=ρ.ex aJ;refine alD NK (by omega) (by rw[hlen];omega) (by rw[hlen];omega) (bh.np.Cp NK.dev bS (by decide) (by decide) (by decide)) bh.Xv λb9 aiF SD fN=>?_
 try dsimp only[bH]
 rw[cond_neg (by rfl)];have bS:=NK.c0 fN bS (by decide) (by decide) (by decide);have ρ:=NK.c0 fN ρ (by decide) (by decide) (by decide);refine SD.flush λdk Re SC uM=>?_
 try dsimp only[bH]
 rw[cond_neg (by rfl)];have bS:=SD.c0 uM bS (by decide) (by decide) (by decide);have ρ:=SD.c0 uM ρ (by decide) (by decide) (by decide);change hi w D dk 0 pd (D5 n) Re 0 at SC;unfold mP.bd;refine⟨λt0 t3 nJ nk pj t45 W=>some ⟨pd,0,none⟩=t0/\ε=t3/\some ⟨ι,0,none⟩=nJ/\64=nk/\64=pj/\0<=t45/\t45<=16/\(∃bb,hi w D W 0 pd (mM (D5 n) 24 (List.replicate t45.toNat bh.hR)) bb t45.toNat)/\μ W ε b5 2 (some ⟨ε,0,none⟩) 1 1 (two s k)/\μ W ι cG 1 (some ⟨ι,0,none⟩) 64 64 (bg bh.hR),λ_ _ _ _ _ t45 _=>(16-t45).toNat,⟨rfl,rfl,rfl,rfl,rfl,by omega,by omega,⟨Re,SC⟩,ρ,bS⟩,?_⟩;clear ρ bS SC;rintro _ _ _ _ _ t45 W ⟨rfl,rfl,rfl,rfl,rfl,g0,g1,⟨bb,G9⟩,ρ,bS⟩;unfold mP.ε;obtain⟨t,rfl⟩:=eR g0;rw[cP]at G9;have B8:(mM (D5 n) 24 (List.replicate t bh.hR)).now=sA n:=VY n t _ _ (aac n);have xG:(mM (D5 n) 24 (List.replicate t bh.hR)).now.length=n:=by rw[B8,sA,sf]
 refine bA (λaO=>?_) λaO=>?_
 ·have aO:=cd aO;rw[b3 (x:=24+(t:Int)) (by omega) (by omega)];refine G9.put (by omega) (i:=24+(t:Int)) (by rw[xG];omega) (bh.np.Cp G9.dev bS (by decide) (by decide) (by decide)) bh.Xv λde XI alB qX=>?_
  try dsimp only[bH]
  rw[cond_neg (by rfl),b3 (x:=(t:Int)+1) (by omega) (by omega)];have aM:((t:Int)+1).toNat=t+1:=by omega
  refine⟨⟨by trivial,by trivial,by trivial,by trivial,by trivial,by omega,by omega,⟨XI,?_⟩,G9.c0 qX ρ (by decide) (by decide) (by decide),G9.c0 qX bS (by decide) (by decide) (by decide)⟩,by((try dsimp only);omega)⟩;rw[aM,List.replicate_succ',VX,sf];exact alB
 ·have aO:=dh aO;obtain rfl:t=16:=by omega
  unfold mP.bP;refine⟨(two s k).toArray,rfl,ρ.cells,?_⟩;refine κ.use (X9 (q:=1) G9 (by omega) (fy.zero W).at seq1 (Hg hw)) ?_;rintro _ ep ⟨rfl,Rf,alC⟩
  try dsimp only[bH]
  exact φ.mk ⟨rfl,Rf,alC⟩
theorem ajt{w:World}{pd:Nat}{d:bh.dm}{D:a1}(an:Live w 0 pd d D){s k q:Int}{R:bW}{n:Nat}(aP:vH d 2=(R,s,k,q))(ay:1<=q/\q<=1073741824)(eo:6<=s/\s<=24/\2<=k/\k<=16)(bf:lV s k R)(hlen:40+s*k<=(d.now.length:Int))(pz:pC q d.now 16 0=([],n))(jx:2<=(kC s.toNat (lays (used R)) []).length):
  FP.C (some ⟨pd,0,none⟩) w (φ λv w'=>∃ps,v=.tuple #[.agg (bN R ps).toArray,.agg (two s k).toArray,.int .i64 q,.int .i64 0,.int .i64 0]/\fy w' R ps/\θ w w'):=by
 obtain⟨f1,f2,f3⟩:=(lJ eo).1 bf;apply FP.ok;unfold FP.main;rintro ε δ eb rfl ι υ ee rfl;rw[GN,GI];rw[GN]at ee;have ρ:=μ.new (w:=w) hA bX;rw[<-eb]at ρ;have ζ:=θ.alloc w (.cells hA.toArray bX);generalize w.alloc (.cells hA.toArray bX)=δ at ρ ζ ee⊢;have az:=μ.new (w:=δ) (two 0 0) b5;rw[<-ee]at az;have τ:=θ.alloc δ (.cells (two 0 0).toArray b5);generalize δ.alloc (.cells (two 0 0).toArray b5)=υ at az τ⊢;have fM:=ζ.trans τ;have oU:w.heap.size<=ι:=by have:=ζ.size;omega
 have ρ:=ρ.ex τ;refine κ.use (Rs (an.ex fM)) ?_;rw[aP];rintro _ aa ⟨⟨ps,rfl,b0⟩,ab⟩;rw[aN (by dsimp only;omega)]
 try dsimp only[bZ,cC,cD,mY,S5,bj,bH,hz,iG]
 have ρ:=ρ.ex ab;have az:=az.ex ab;have hS:=fM.trans ab;refine aW (by rw[fp];exact b0.at.dX) (ρ.put (cs:=bN R ps) b0.at.dX b0.at.one λaG ea cz=>?_);have t1:∀i,i=ε->Typed aa bX i:=λi o=>o▸(ρ.typed rfl).1;have az:=az.cI ea bX t1 (by decide);have b0:=b0.cI ea bX t1 (by decide);have ns:θ w aG:=hS.then ea λi o=>by omega
 refine aW rfl (az.put (cs:=two s k) rfl nm λba dP bS=>?_);have t2:∀i,i=ι->Typed aG b5 i:=λi o=>o▸(az.typed rfl).1;have cz:=cz.cI dP b5 t2 (by decide);have b0:=b0.cI dP b5 t2 (by decide);have kB:θ w ba:=ns.then dP λi o=>by omega
 rw[cond_neg (by rfl)];refine⟨(two s k).toArray,rfl,bS.cells,?_⟩;refine κ.use (Ya eo ba) ?_;rintro _ ca ⟨rfl,cv⟩
 try dsimp only[bZ,cC,cD,bj,bH]
 have sF:=kB.trans cv;have cz:=cz.ex cv;have bS:=bS.ex cv;have b0:=b0.ex cv;refine κ.use (M0 (an.ex sF).dev) ?_;rintro _ ayt ⟨rfl,alJ⟩;obtain rfl:=alJ.symm
 try dsimp only[bH]
 rw[iM (by omega)];refine κ.use (dB.Rs (an.ex sF).dev an.e8 an.off an.len q ay) ?_;rw[pz];rintro _ ep ⟨p,c,rfl,ol,mn⟩
 try dsimp only[bZ,cC,cD,mY,bj,bH,er]
 rw[cond_neg (by rfl)];have RJ:=sF.trans mn;have cz:=cz.ex mn;have bS:=bS.ex mn;have b0:=b0.ex mn;refine⟨(bN R ps).toArray,by rw[fp];exact b0.at.dX,cz.cells,?_⟩;refine κ.use (aio b0.at f1) ?_;rintro _ fF ⟨FD,rfl,l6,oz⟩
 try dsimp only[bZ,cC,cD,mY,bj,bH,hz,iG]
 have RK:=RJ.trans oz;have cz:=cz.ex oz;have bS:=bS.ex oz;refine aW (by rw[fp];exact l6.at.dX) (cz.put (cs:=bN R FD) l6.at.dX l6.at.one λfY Cf l9=>?_);have t5:∀i,i=ε->Typed fF bX i:=λi o=>o▸(cz.typed rfl).1;have bS:=bS.cI Cf bX t5 (by decide);have l6:=l6.cI Cf bX t5 (by decide);have aj2:θ w fY:=RK.then Cf λi o=>by omega
 rw[cond_neg (by rfl)];refine⟨(bN R FD).toArray,by rw[fp];exact l6.at.dX,l9.cells,(two s k).toArray,rfl,bS.cells,?_⟩;refine κ.use (XP l6.at s k) ?_;rintro _ fb ⟨⟨e,rfl,he⟩,nN⟩;obtain rfl:=he.2 bf
 try dsimp only[bH]
 rw[cond_neg (by rfl)];have Dd:=aj2.trans nN;have l9:=l9.ex nN;have bS:=bS.ex nN;have l6:=l6.ex nN;refine⟨(bN R FD).toArray,by rw[fp];exact l6.at.dX,l9.cells,(two s k).toArray,rfl,bS.cells,?_⟩;have Ar:(gB (used R)).length<=4096:=by
  have:(s-4)*k<=20*16:=se (by omega) (by omega) (by omega) (by omega)
  have η:(gB (used R)).length=iP R:=rfl;omega
 refine κ.use (Rk l6.at bf.1 Ar (but:=[]) (bp:=none) (bn:=0) (bc:=0) (μ.nil fb 0 ck 1).cells rfl (by omega)) ?_;rintro _ jf ⟨aX,c2,rfl,rn,_⟩
 try dsimp only[bZ,cC,cD,bj,bH,er]
 rw[iM (by omega)];have Yy:=(Dd.trans rn).trans (θ.drew jf);have l9:=(l9.ex rn).ex (θ.drew jf);have bS:=(bS.ex rn).ex (θ.drew jf);have l6:=(l6.ex rn).ex (θ.drew jf);generalize jf.drew=kx at Yy l9 bS l6⊢;refine⟨(bN R FD).toArray,by rw[fp];exact l6.at.dX,l9.cells,(two s k).toArray,rfl,bS.cells,aW (by rw[fp];exact l6.at.dX) (l9.put (cs:=bN R FD) l6.at.dX l6.at.one λjr AD wo=>?_)⟩;have t7:∀i,i=ε->Typed kx bX i:=λi o=>o▸(l9.typed rfl).1;have bS:=bS.cI AD bX t7 (by decide);have l6:=l6.cI AD bX t7 (by decide);have aj3:θ w jr:=Yy.then AD λi o=>by omega
 refine aW rfl ⟨bS.cells,aW rfl (bS.put (cs:=two s k) rfl nm λkN UW E8=>?_)⟩;have t8:∀i,i=ι->Typed jr b5 i:=λi o=>o▸(bS.typed rfl).1;have wo:=wo.cI UW b5 t8 (by decide);have l6:=l6.cI UW b5 t8 (by decide);refine⟨(bN R FD).toArray,by rw[fp];exact l6.at.dX,wo.cells,(two s k).toArray,rfl,E8.cells,?_⟩;exact φ.mk ⟨FD,rfl,l6,aj3.then UW λi o=>by omega⟩
end Go.Proofs.YtcpdfhkhaekekaaGreat.G.cV

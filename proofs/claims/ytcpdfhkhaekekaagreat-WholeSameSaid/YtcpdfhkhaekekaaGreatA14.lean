/- The walk of the functions, and the plain laws of the model: part of the proof. Conditions: none. -/
import Derived.Tactics
import Derived.Tactics2
import Derived.Defers
import Derived.Recover
import Derived.Orders
import Derived.Laws.Pointers
import Derived.Test.YtcpdfhkhaekekaaGreatA13
set_option linter.unusedVariables false
set_option linter.unusedSimpArgs false
namespace Go.Proofs.YtcpdfhkhaekekaaGreat.G.cY
open Go.bJ Go.RowKit cF dI eI cS aQ
theorem abn(x:dB):∀(l:List dB)(m:aQ),ik m (l++[x])=((gz (ik m l).1 (hS (ik m l).1.k (ik m l).1.d x) 0).1,(ik m l).2++[(gz (ik m l).1 (hS (ik m l).1.k (ik m l).1.d x) 0).2])
 |[],m=>rfl
 |y::l,m=>by show((ik (gz m (hS m.k m.d y) 0).1 (l++[x])).1,(gz m (hS m.k m.d y) 0).2::(ik (gz m (hS m.k m.d y) 0).1 (l++[x])).2)=_;rw[abn x l];rfl
structure S4(m:aQ)(g:Nat):Prop where
 asv:KI m.R (fA m g) (ik m (fA m g)).2
 xi:xV {(ik m (fA m g)).1 with R:=l8 m.R (fA m g) (ik m (fA m g)).2}
 len:(fA m g).length<16
 sub:∀x∈fA m g,x∈used m.R
 dE:∀j,S5 m (ik m ((fA m g).take j)).1 ((fA m g).take j) (ik m ((fA m g).take j)).2 (used m.R)
theorem amz{m:aQ}(h:Inv m)(aF:0<=m.clock){g:Nat}(hp:tn m.k (iz m.s.toNat (lays (used m.R))) (pN m) m.st.head=some g):S4 m g:=by
 have ab:=NM h.base;have bH:=h.gY;obtain⟨f1,f2,f3⟩:=(mC bH).1 h.fit;obtain⟨g1,g2,g3,g4⟩:=XK hp;have V2:∀x,x∈lays (used m.R)↔x∈used m.R:=λx=>Jt h.ok;have iB:∀x,x∈fA m g↔x∈used m.R/\x.1=g:=λx=>by unfold fA;rw[nN,V2,qI];exact⟨λ⟨a,b⟩=>⟨a,by omega⟩,λ⟨a,b⟩=>⟨a,by omega⟩⟩
 have Ms:(fA m g).Nodup:=(ME _).filter _;have p2:(fA m g).length=rb (lays (used m.R)) g:=by
  unfold fA rb;congr 1;apply List.filter_congr;intro x _;by_cases e:x.1=g
  ·rw[bI (by omega)];symm;simpa using e
  ·rw[iX (by omega)];symm;simpa using e
 have abo:∀j,S5 m (ik m ((fA m g).take j)).1 ((fA m g).take j) (ik m ((fA m g).take j)).2 (used m.R):=λj=>
  T1 _ m (used m.R) h.base h.x8 h.Kc (λx J=>((iB x).1 (xy J)).1) f2 (.inl ⟨h.two,by rw[hs];omega⟩)
 have dE:=abo (fA m g).length;rw[Cb]at dE;have xc:∀y∈(ik m (fA m g)).2,y∉used m.R/\hg y:=λy ag=>⟨dE.new y ag,by have:=dE.lt y ag;unfold hg;omega⟩;obtain⟨ads,f,aP,bM,gA,jE⟩:=W7 _ _ m.R Ms dE.l9 dE.len (λx J=>((iB x).1 J).1) xc;have Qa:∀x∈fA m g,f x∈(ik m (fA m g)).2:=λx J=>by rw[gA];exact gx.2 ⟨x,J,rfl⟩
 have Wm:∀z,z∈used (l8 m.R (fA m g) (ik m (fA m g)).2)↔∃w∈used m.R,f w=z:=λz=>by rw[aP,SE,gx]
 have n4:∀z∈used (l8 m.R (fA m g) (ik m (fA m g)).2),z∈(ik m (fA m g)).2\/(z∈used m.R/\z∉fA m g):=λz aI=>by
  obtain⟨w,hw,rfl⟩:=(Wm z).1 aI;by_cases J:w∈fA m g
  ·exact .inl (Qa w J)
  ·rw[bM w hw J];exact .inr ⟨hw,J⟩
 refine⟨ads,?_,by omega,λx J=>((iB x).1 J).1,abo⟩;refine⟨⟨dE.base.gY,dE.base.fz,dE.base.hi,dE.base.blocks⟩,⟨dE.dev.dev,dE.dev.off,dE.dev.after,dE.dev.nC⟩,?_,?_,?_,?_,?_,?_,?_,?_,?_⟩
 ·dsimp only;rw[aP];unfold kG;rw[jM];exact h.len
 ·dsimp only;intro e he;refine Q4 (λq aH=>?_) (HA f1 e he);cases q with
  |none=>trivial
  |some z=>
   rcases n4 z (xh.2 ⟨e,he,aH⟩)with aI|aI
   ·exact(xc z aI).2
   ·exact sB h.ok z aI.1
 ·dsimp only;rw[dE.s,dE.k];refine(mC bH).2 ⟨HA f1,λz aI=>?_,by rw[aP,aef jE];exact f3⟩;rcases n4 z aI with aI|aI
  ·exact dE.lt z aI
  ·exact f2 z aI.1
 ·dsimp only;refine⟨λz aI=>dE.ok.free z ?_,λz aI=>dE.ok.head z ?_⟩
  ·rcases n4 z aI with aI|aI
   ·exact iC.2 (.inl aI)
   ·exact iC.2 (.inr aI.1)
  ·rcases n4 z aI with aI|aI
   ·exact iC.2 (.inl aI)
   ·exact iC.2 (.inr aI.1)
 ·dsimp only;rw[dE.pA,dE.s];exact h.pA
 ·dsimp only;rw[dE.clock];exact dE.rR h.rR aF
 ·dsimp only;rw[dE.dl];exact h.dl
 ·dsimp only;rw[dE.ot];exact h.ot
 ·dsimp only;rw[dE.seq];exact h.seq
theorem arO{w ε υ:World}{T:List Nat}{S:bl}(h:Kp w ε (h6 w T))(k:Kp ε υ S)(eU:∀i,S i->h6 ε T i\/w.heap.size<=i):Kp w υ (h6 w T):=by
 refine Kp.trans h k (λ_ _ h=>h) (λi I ab=>?_);rcases eU i ab with⟨e,he,c,fr,aS⟩|h1
 ·by_cases fe:h6 w T i
  ·exact fe
  ·exact⟨e,he,c,fr,by rw[<-h.block i I fe];exact aS⟩
 ·omega
section
variable{w:World}{pp pd:Nat}{m:aQ}{xs:List (b9.cZ×Int)}{aA:Int}{D:bl}
def zw(m:aQ)(n j:Nat):aq:=(pN m).take j++List.replicate (n-j) 0
theorem alT{m:aQ}{n j:Nat}(ar:m.stamps.length=n)(ψ:j<n):(zw m n j).set j (min2 (m.clock-m.stamps[j]'(by omega)) 65535)=zw m n (j+1):=by
 have ak:(pN m).length=n:=by simp[pN,ar]
 have bH:(pN m)[j]'(by omega)=min2 (m.clock-m.stamps[j]'(by omega)) 65535:=by simp[pN]
 unfold zw;rw[Cf _ _ (by rw[hs];omega),hs,sr (by omega),tv,show n-j=(n-(j+1))+1 by omega,DO,G4,mb (by omega),bH,nc];rfl
theorem er.loc{w0 w':World}{eC:bl}(h:er w0 eC w pp pd m xs aA D){b:Nat}(k:Kp w w' λi=>i=b)(τ:¬D b)(aF:w0.heap.size<=b){e:TypeId}(aS:Typed w e b)(fe:e∉Iw)(dD:e≠dt):er w0 eC w' pp pd m xs aA D:=
 ⟨h.is.aO k (λi ah e=>τ (e▸ah)) (λi I Dc=>(H2.1 Dc).off (I▸aS) fe) λi I k9=>(I▸aS:Typed w e i).ne k9 dD rfl,Kp.trans h.aO k (λ_ _ h=>h) (λi I ab=>by omega),h.sub⟩
theorem amx{w0:World}{eC:bl}{g:Nat}(I:Inv m)(wR:S4 m g)(aH:m.seq+1<=1073741824)(ak:m.d.loose.length<=900000){W:World}{fx:bl}(h:er w0 eC W pp pd (ik m (fA m g)).1 xs aA fx){δ o0 fs wC:Nat}{ps:aY}(Db:w0.heap.size<=o0)(en:μ W o0 b3 24 (some ⟨δ,0,none⟩) 1 1 (bT m.R ps))(cb:fV W m.R ps)
  {p qf:γ}{n c d:Nat}(of:μ W fs eT 1 p n c (dN (fA m g)))(vW:μ W wC eT 1 qf n d (dN (ik m (fA m g)).2)){Z:Value->al}
  (dZ:∀w' bk,er w0 eC w' pp pd (r9 {(ik m (fA m g)).1 with R:=l8 m.R (fA m g) (ik m (fA m g)).2}) xs aA bk->Z (.tuple #[]) w'):
  jw.b4 (some ⟨pp,0,none⟩) δ p n c qf n d W (ω Z):=by
 have dE:=wR.dE (fA m g).length;rw[Cb]at dE;obtain⟨f1,f2,f3⟩:=(mC I.gY).1 I.fit;have ar:n<=1000:=by have h1:=of.1;rw[Ap]at h1;have:=wR.len;omega
 unfold jw.b4;refine⟨(bT m.R ps).toArray,by rw[fP];exact cb.at.eA,en.cells,?_⟩;refine κ.use (ajN cb f1 wR.asv of vW (by omega)) ?_;rintro _ hv ⟨uG,rfl,pj,zk⟩
 try dsimp only[bo,ca,cT,cU,bL,hA,h7]
 have en:=en.ex zk;refine aT (by rw[fP];exact pj.at.eA) (en.put (cs:=bT _ uG) pj.at.eA pj.at.one λga yE qH=>?_);have pj:=pj.cV yE b3 (λi I=>I▸(en.typed rfl).1) (by decide);have IT:=h.ex zk;have aqn:¬h6 hv ow δ:=λaS=>aS.off (en.typed rfl).1 (by decide);have Nb:=IT.loc yE (λah=>aqn (IT.is.im ah).1) (gE Db (en.ge rfl).1) (en.typed rfl).1 (by decide) (by decide);refine j1 (λ_=>?_) (λh=>absurd rfl h)
 try dsimp only[ca]
 refine⟨(bT _ uG).toArray,by rw[fP];exact pj.at.eA,qH.cells,?_⟩;refine κ.use (ZD pj.at (HA f1)) ?_;rintro _ jS ⟨afE,rfl,Cz,φ⟩
 try dsimp only[ca,cT,cU,bo,bL,n0]
 have aug:=Nb.ex Cz;obtain⟨q,dm,dH,dq,FJ,cn⟩:=aug.at_;simp only[dG];refine FJ.put 4 (by omega) rfl λjT WH Gz=>?_;rw[atP]at Gz;obtain⟨gq,φ⟩:=φ;have Dn:kM jS 0 afE (l8 m.R (fA m g) (ik m (fA m g)).2):=⟨gq,⟨φ.o.lower (eR _),φ.len,φ.jQ,φ.tb⟩⟩;have oE:ga.heap.size<=afE:=(φ.o.ge rfl).1;obtain⟨PU,Af⟩:=FJ.avD Dn WH Gz;have auh:er ga fx jT pp pd _ xs aA _:=⟨⟨_,_,_,_,PU,λi=>og⟩,(Cz.aO fx).gL (Af.mono λi _ I=>(cn i).2 I),λi I=>by
  rcases I with I|I|I|I|I
  ·exact .inl ((cn i).2 (.inl I))
  ·exact .inl ((cn i).2 (.inr (.inl I)))
  ·exact .inl ((cn i).2 (.inr (.inr (.inl I))))
  ·exact .inr (I▸oE)
  ·exact .inl ((cn i).2 (.inr (.inr (.inr (.inr I)))))⟩
 have afQ:=Nb.trans auh;refine κ.use (Pj afQ.is wR.xi (by dsimp only;rw[dE.seq];exact aH) (by dsimp only;rw[dE.loose];have:=wR.len;omega)) ?_;rintro _ lp ⟨rfl,bk,hp⟩
 try dsimp only[ca]
 exact ω.mk (dZ _ bk (afQ.trans hp))
theorem amy{w0:World}{eC:bl}{g:Nat}(I:Inv m)(wR:S4 m g)(aH:m.seq+1<=1073741824)(ak:m.d.loose.length<=900000){mw:World}{fx:bl}(h:er w0 eC mw pp pd m xs aA fx){δ o0 fs:Nat}{ps:aY}(Db:w0.heap.size<=o0)(en:μ mw o0 b3 24 (some ⟨δ,0,none⟩) 1 1 (bT m.R ps))(cb:fV mw m.R ps)
  {p:γ}{n c:Nat}(of:μ mw fs eT 1 p n c (dN (fA m g))){Z:Value->al}
  (dZ:∀w' bk,er w0 eC w' pp pd (r9 {(ik m (fA m g)).1 with R:=l8 m.R (fA m g) (ik m (fA m g)).2}) xs aA bk->Z (.tuple #[]) w'):
  jw.eZ (some ⟨pp,0,none⟩) δ p n c none 0 0 p n c (n:Int) 0 mw (ω Z):=by
 have k7:(fA m g).length=n:=by have:=of.1;rw[Ap,eS]at this;exact this
 have azJ:=wR.len;obtain⟨f1,f2,f3⟩:=(mC I.gY).1 I.fit;unfold jw.eZ;refine⟨λt0 t2 ir fZ iQ D5 Az HU Sr Sq YF t97 t98 W=>some ⟨pp,0,none⟩=t0/\δ=t2/\p=ir/\n=fZ/\c=iQ/\p=Sr/\n=Sq/\(n:Int)=t97/\0<=t98/\t98<=n/\t98=Az/\Kp mw W (h6 mw ow)/\μ W mw.heap.size eT 1 D5 Az HU (dN (ik m ((fA m g).take t98.toNat)).2)/\∃bk,er w0 eC W pp pd (ik m ((fA m g).take t98.toNat)).1 xs aA bk,
  λ_ _ _ _ _ _ _ _ _ _ _ _ t98 _=>(n-t98).toNat,⟨rfl,rfl,rfl,rfl,rfl,rfl,rfl,rfl,by omega,by omega,rfl,Kp.refl _ _,μ.nil _ _ _ _,fx,h⟩,?_⟩
 rintro _ _ _ _ _ D5 Az HU _ _ YF _ t98 W ⟨rfl,rfl,rfl,rfl,rfl,rfl,rfl,rfl,aF,h1,IP,K,vW,bk,vK⟩;unfold jw.ζ;obtain⟨j,rfl⟩:=eF aF;rw[ch]at vW vK;obtain rfl:j=Az:=by omega
 have VT:∀i,h6 mw ow i->h6 mw ow i:=λ_ h=>h;have ae3:=hE K VT of (by decide);have as5:=hE K VT en (by decide);have xG:=Yu K VT cb (by decide);refine bt (λψ=>?_) (λψ=>?_)
 ·have ψ:=b6 ψ;have ff:j<(fA m g).length:=by omega
  have dE:=wR.dE j;have rr:=abn (fA m g)[j] ((fA m g).take j) m;have sb:(fA m g).take (j+1)=(fA m g).take j++[(fA m g)[j]]:=mb ff;rw[<-sb]at rr;have Du:=wR.sub _ (hP ff);have p2:=f2 _ Du;have lF:(dN (fA m g))[j]?=some (et (some (fA m g)[j])):=by unfold dN;rw[List.getElem?_map,List.getElem?_eq_getElem ff];rfl
  generalize(fA m g)[j]=x at rr Du p2 lF;generalize zZ:(ik m ((fA m g).take j)).1=m1 at dE vK rr;generalize Gj:(ik m ((fA m g).take j)).2=ys at dE vW rr;obtain⟨a,rfl,jN⟩:=ae3.cells.many lF;refine aT (by omega) (aT (by omega) ?_)
  try dsimp only[bo]
  rw[ch,eS];refine⟨_,_,jN,?_⟩;obtain⟨q,dm,dH,dq,dd,cn⟩:=vK.at_
  try simp only[dG]
  have L0:=dE.base.gY;have Wt:(x.1:Int)<m1.s/\(x.2:Int)<m1.k:=by rw[dE.s,dE.k];exact p2
  refine⟨(two m1.s m1.k).toArray,rfl,dd.xu,?_⟩;refine κ.use (SZ L0 Wt W) ?_;rintro _ ey ⟨rfl,pH⟩
  try dsimp only[ca,cT,cU,bo,bL]
  have IS:=dd.ex pH;refine⟨_,IS.at (j:=1) rfl,?_⟩;obtain⟨VN,ac6⟩:=Yi dE.base dE.dev Wt;have az1:=Hr L0 Wt;have ym:=dE.dev.nC;refine κ.use (ba.zn IS.dev dE.dev.dev (om m1.k x)) ?_;rintro _ eg ⟨oU,φ⟩;have rp:ba.uk m1.d (om m1.k x)=0:=by unfold ba.uk;rw[aL (by rw[dE.dev.off];simp),aL (by omega)]
  obtain⟨_,bj,bP,jO,Dr,rfl,bh⟩:=φ.resolve_left λh=>h.1 rp
  try dsimp only[ca,cT,cU,bo,bL,ee]
  refine j1 (λ_=>?_) (λh=>absurd rfl h)
  try dsimp only[ca]
  rw[VN]at Dr;cases Dr;have Ez:=pH.trans oU;have JG:=vK.ex Ez;have aoO:CI m1.st (ys++used m.R):=dE.ok;have qD:m1.d.loose.length<=1000000:=by rw[dE.loose,hs];omega
  have aqZ:m1.stamps.length=m1.s.toNat:=by rw[dE.pA,dE.s];exact I.pA
  refine κ.use (DL JG.is dE.base dE.dev aoO (Int.le_refl 0) (af6 (.inl dE.gC)) aqZ qD bh ac6) ?_;rintro _ fb ⟨rfl,gO,p0⟩;unfold et
  try dsimp only[sV]
  have aue:=JG.trans p0;have aku:Kp mw eg (h6 mw ow):=K.gL (Ez.aO _);have akv:Kp mw fb (h6 mw ow):=arO aku p0.aO λi ah=>.inl (JG.is.im ah).1;have afe:=p0.dS JG.is (vW.ex Ez) (by decide);rintro aa gh lX rfl;have oV:=η.alloc fb (.cells #[et (some (gz m1 (hS m1.k m1.d x) 0).2)] eT);have IB:bd (fb.alloc (.cells #[et (some (gz m1 (hS m1.k m1.d x) 0).2)] eT)) (some ⟨fb.heap.size,0,none⟩) [et (some (gz m1 (hS m1.k m1.d x) 0).2)]:=bd.alloc _ eT;rw[<-lX]at IB;have anv:fb.alloc (.cells #[.complex .f64 (eX (some (gz m1 (hS m1.k m1.d x) 0).2)) (e5 (some (gz m1 (hS m1.k m1.d x) 0).2))] eT)=fb.alloc (.cells #[et (some (gz m1 (hS m1.k m1.d x) 0).2)] eT):=rfl;rw[anv];generalize fb.alloc (.cells #[et (some (gz m1 (hS m1.k m1.d x) 0).2)] eT)=gh at oV IB⊢;have ZH:Kp mw gh (h6 mw ow):=akv.gL (oV.aO _);refine mx (afe.ex oV) ZH.size [et (some (gz m1 (hS m1.k m1.d x) 0).2)] IB rfl (λy ag=>by simp only[ma]at ag;subst ag;rfl) rfl (by omega) (by omega) (λjv nA ja e4 fO=>?_);have Rh:=aue.ex oV;have low:∀i,(∃y,D5=some y/\y.block=i)->mw.heap.size<=i/\Typed gh eT i:=λi⟨y,ag,τ⟩=>⟨τ▸(vW.ge ag).1,τ▸((afe.ex oV).typed ag).1⟩;have az3:=h.aO.size;have auf:er w0 eC ja pp pd (gz m1 (hS m1.k m1.d x) 0).1 xs aA gO:=⟨Rh.is.aO fO (λi ah ab=>(Rh.is.im ah).1.off (low i ab).2 (by decide)) (λi ab fe=>(H2.1 fe).off (low i ab).2 (by decide)) (λi ab aS=>(low i ab).2.ne aS (by decide) rfl),Kp.trans Rh.aO fO (λ_ _ h=>h) (λi I ab=>by have:=(low i ab).1;omega),Rh.sub⟩;rw[bS (x:=(j:Int)+1) (by omega) (by omega)];have aP:((j:Int)+1).toNat=j+1:=by omega
  refine⟨⟨by trivial,by trivial,by trivial,by trivial,by trivial,by trivial,by trivial,by trivial,by omega,by omega,by omega,?_,?_,gO,?_⟩,by((try dsimp only);omega)⟩
  ·exact Kp.trans ZH fO (λ_ _ h=>h) λi I ab=>by have:=(low i ab).1;omega
  ·rw[aP,rr]
   have:dN (ys++[(gz m1 (hS m1.k m1.d x) 0).2])=dN ys++[et (some (gz m1 (hS m1.k m1.d x) 0).2)]:=by simp[dN]
   dsimp only;rw[this];exact e4
  ·rw[aP,rr];exact auf
 ·have ψ:=dn ψ;obtain rfl:j=n:=by omega
  rw[hR (by omega)]at vW vK;exact amx I wR aH ak vK Db as5 xG ae3 vW dZ
end
section
variable{w:World}{pp pd:Nat}{m:aQ}{xs:List (b9.cZ×Int)}{aA:Int}{D:bl}
theorem alU{m:aQ}{n:Nat}:zw m n 0=List.replicate n 0:=by simp[zw]
theorem alS{m:aQ}{n:Nat}(ar:m.stamps.length=n):zw m n n=pN m:=by unfold zw;rw[tv,hR (by simp[pN,ar])];simp
theorem amw(I:Inv m)(aH:m.seq+1<=1073741824)(ak:m.d.loose.length<=900000)(LP:0<=m.clock){W:World}(aF:hY w pp pd m xs aA D)(h:er w D W pp pd m xs aA D){δ o0:Nat}{ps:aY}(Db:w.heap.size<=o0)(en:μ W o0 b3 24 (some ⟨δ,0,none⟩) 1 1 (bT m.R ps))(cb:fV W m.R ps)
  {p qf:γ}{n c d:Nat}(ar:m.s.toNat=n){fs wC:Nat}(ol:μ W fs cz 1 p n c (bA.cW (iz n (lays (used m.R)))))(rD:μ W wC cz 1 qf n d (bA.cW (pN m))):
  jw.aV (some ⟨pp,0,none⟩) δ p n c qf n d W (ω λv w'=>v=.tuple #[]/\∃bk,er w D w' pp pd (ra m) xs aA bk):=by
 have ab:=NM I.base;have bH:=I.gY;have aqe:=aer bH;unfold jw.aV;obtain⟨q,dm,dH,dq,dd,cn⟩:=h.at_
 try dsimp only[bo]
 simp only[dG];refine⟨_,dd.at (j:=5) rfl,?_⟩;refine κ.use (bA.ZC dd.st I.fz) ?_;rintro _ bW ⟨ct,eo,h0,rfl,_⟩
 try dsimp only[ca,cT,cU,bo,bL,ee]
 have hD:=dd.ex ct;refine⟨(two m.s m.k).toArray,rfl,hD.xu,?_⟩;rintro ax cd jm rfl;have bh:=μ.new (w:=bW) [.int .i64 m.st.head] cz;rw[<-jm]at bh;have eW:=η.alloc bW (.cells #[.int .i64 m.st.head] cz);generalize bW.alloc (.cells #[.int .i64 m.st.head] cz)=cd at bh eW⊢;have O2:=ct.trans eW;have L5:∀x∈iz n (lays (used m.R)),0<=x/\x<=m.k:=λx J=>by
  unfold iz at J;obtain⟨i,lZ,rfl⟩:=gx.1 J;refine⟨by omega,?_⟩;have l1:=(ME (used m.R)).filter (λx:dB=>x.1==i)
  have:=ry (((lays (used m.R)).filter λx=>x.1==i).map Prod.snd) (List.range m.k.toNat) (by
   refine G7 (S:=λa b=>a≠b) (R:=λa b=>a.2≠b.2) _ (λa b h=>h) ?_;refine X5 (λ{a b}aR τ um e=>um ?_) l1;have h1:=(nN.1 aR).2;have ι:=(nN.1 τ).2
   exact Cg (by have h1:a.1=i:=by simpa using h1
                have ι:b.1=i:=by simpa using ι
                rw[h1,ι]) e) λz aI=>by
   obtain⟨x,J,rfl⟩:=gx.1 aI
   have:=((mC bH).1 I.fit).2.1 x ((Jt I.ok).1 (nN.1 J).1)
   exact lh.2 (by omega)
  rw[jM,xC]at this;omega
 have LK:∀x∈pN m,0<=x/\x<65536:=λx J=>by
  unfold pN at J;obtain⟨t,aS,rfl⟩:=gx.1 J
  have:=I.rR t aS
  unfold min2;split<;>omega
 have adl:(iz n (lays (used m.R))).length=n:=Fa _ _;have aoX:(pN m).length=n:=by simp[pN];rw[I.pA,ar]
 have hp:∀r,r=tn m.k (iz m.s.toNat (lays (used m.R))) (pN m) m.st.head->tn m.k (iz n (lays (used m.R))) (pN m) m.st.head=r:=λr e=>by rw[e,ar]
 refine κ.use (akS (s:=m.s) aqe (ol.ex O2).cells (rD.ex O2).cells bh.cells adl aoX (by omega) L5 LK) ?_;rintro _ cm ⟨rfl,df⟩;have Rg:=h.ex (O2.trans df);unfold ra;cases Qk:tn m.k (iz m.s.toNat (lays (used m.R))) (pN m) m.st.head with
 |none=>
  rw[hp _ Qk.symm]
  try dsimp only[ca,cT,cU,bo,bL]
  rw[cond_pos (by rfl)];refine κ.use (Pj Rg.is I.xi aH (by omega)) ?_;rintro _ da ⟨rfl,bk,π⟩
  try dsimp only[ca]
  exact ω.mk ⟨rfl,bk,Rg.trans π⟩
 |some g=>
  rw[hp _ Qk.symm]
  try dsimp only[ca,cT,cU,bo,bL]
  rw[cond_neg (by rfl)];have wR:=amz I LP Qk;obtain⟨g1,g2,g3,g4⟩:=XK Qk;obtain⟨fp,ayN,ayL,ayP,P0,U9⟩:=Rg.at_
  try simp only[dG]
  refine⟨_,P0.at (j:=6) rfl,?_⟩;rw[cond_neg (by simp;omega)];unfold jw.bK;have eb:=η.drew cm;have tq:=Rg.ex eb;have sI:=(O2.trans df).trans eb;have en:=en.ex sI;have cb:=cb.ex sI;have w3:=P0.ex eb;generalize cm.drew=cE at tq en cb w3⊢;refine⟨(bT m.R ps).toArray,by rw[fP];exact cb.at.eA,en.cells,?_⟩
  try dsimp only[bo]
  try simp only[dG]
  refine⟨(two m.s m.k).toArray,rfl,w3.xu,?_⟩;have BC:(gK (used m.R)).length<=4096:=by
   have h1:=((mC bH).1 I.fit).2.2
   have:(m.s-4)*m.k<=20*16:=qJ (by omega) (by omega) (by omega) (by omega)
   have ι:(gK (used m.R)).length=jn m.R:=rfl;omega
  refine κ.use (ako cb.at I.fit.1 BC (g:=g) (by omega)) ?_;rintro _ eO ⟨gp,jk,rfl,tL,oJ⟩
  try dsimp only[ca,cT,cU,bo,bL,ee]
  exact amy I wR aH ak (tq.ex tL) Db (en.ex tL) (cb.ex tL) oJ λw' bk az=>⟨rfl,bk,az⟩
theorem amA(h:hY w pp pd m xs aA D)(I:Inv m)(aH:m.seq+1<=1073741824)(ak:m.d.loose.length<=900000)(LP:0<=m.clock/\m.clock<=1000000000):jw.C (some ⟨pp,0,none⟩) w (ω λv w'=>v=.tuple #[]/\∃bk,er w D w' pp pd (ra m) xs aA bk):=by
 have ab:=NM I.base;have bH:=I.gY;obtain⟨n,ar⟩:∃n,m.s.toNat=n:=⟨_,rfl⟩;apply jw.ok;unfold jw.main;refine κ.use (OY h I.ok) ?_;rintro _ ε ⟨ps,rfl,cb,θ⟩
 try dsimp only[bo,hA,h7]
 refine Cm θ λδ χ eL gA ad ha bh=>?_;have cb:=cb.ex ad;refine aT (by rw[fP];exact cb.at.eA) (bh.put (cs:=bT m.R ps) cb.at.eA cb.at.one λao cI cJ=>?_);have cb:=cb.cV cI b3 (λi I=>I▸(bh.typed rfl).1) (by decide);have iF:η w ao:=ha.then cI λi I=>by omega
 have eb:=η.drew ao;have nW:=iF.trans eb;have cB:=cJ.ex eb;have R2:=cb.ex eb;clear bh cJ cb cI iF ad ha θ;generalize ao.drew=an at eb nW cB R2⊢;refine⟨(bT m.R ps).toArray,by rw[fP];exact R2.at.eA,cB.cells,?_⟩;obtain⟨q,dm,dH,dq,dd,cn⟩:=h;have aF:hY w pp pd m xs aA D:=⟨q,dm,dH,dq,dd,cn⟩;simp only[dG];refine⟨(two m.s m.k).toArray,rfl,(dd.ex nW).xu,?_⟩;have BC:(gK (used m.R)).length<=4096:=by
  have h1:=((mC bH).1 I.fit).2.2
  have:(m.s-4)*m.k<=20*16:=qJ (by omega) (by omega) (by omega) (by omega)
  have ι:(gK (used m.R)).length=jn m.R:=rfl;omega
 refine κ.use (Zq R2.at I.fit.1 BC) ?_;rintro _ aZ ⟨pl,dl,rfl,aM,ol⟩
 try dsimp only[ca,cT,cU,bo,bL,ee]
 rw[ar]at ol⊢;refine aT (by omega) (aT (by omega) (aT (by omega) ?_));rintro ζ a8 eG rfl;have em:madeCells #[Value.int .i64 0] (n*1)=(bA.cW (List.replicate n 0)).toArray:=by
  have:=DD 1 (n*1) (Value.int .i64 0) (by decide)
  rw[eS]at this⊢;rw[show(#[Value.int .i64 0]:aj)=(List.replicate 1 (Value.int .i64 0)).toArray from rfl,this];unfold bA.cW;rw[JJ]
 rw[em];have rD:=μ.alloc (w:=aZ) (bA.cW (List.replicate n 0)) cz 1 n (by simp[bA.cW]);rw[<-eG]at rD;have aU:=η.alloc aZ (.cells (bA.cW (List.replicate n 0)).toArray cz);generalize aZ.alloc (.cells (bA.cW (List.replicate n 0)).toArray cz)=a8 at rD aU⊢;have KS:=(nW.trans aM).trans aU;have Aq:=(er.start aF).ex KS;have eN:=(cB.ex aM).ex aU;have R3:=(R2.ex aM).ex aU;have ate:=ol.ex aU;have azk:w.heap.size<=ζ:=by have:=(nW.trans aM).size;omega
 have apb:¬D ζ:=λah=>by have:=(aF.im ah).2;omega
 have Qg:∀x,pl=some x->x.block≠ζ:=λx J e=>by have:=(ol.ge J).2;omega
 have hq:=dd.ex KS
 try simp only[dG]
 refine⟨_,_,_,hq.at (j:=11) rfl,?_⟩;have rr:m.stamps.length=n:=by rw[I.pA,ar]
 rw[rr];unfold jw.bb;refine⟨λt0 t2 de c3 dy mK nj ni Si Sh YB t39 t40 W=>some ⟨pp,0,none⟩=t0/\δ=t2/\pl=de/\n=c3/\dl=dy/\some ⟨ζ,0,none⟩=mK/\n=nj/\n=ni/\some ⟨q.kW,0,none⟩=Si/\n=Sh/\(n:Int)=t39/\0<=t40/\t40<=n/\Kp a8 W (λi=>i=ζ)/\fI W pp pd q dm dH dq m xs aA/\μ W ζ cz 1 (some ⟨ζ,0,none⟩) n n (bA.cW (zw m n t40.toNat)),
  λ_ _ _ _ _ _ _ _ _ _ _ _ t40 _=>(n-t40).toNat,⟨rfl,rfl,rfl,rfl,rfl,rfl,rfl,rfl,rfl,rfl,rfl,by omega,by omega,Kp.refl _ _,hq,by rw[Int.toNat_zero,alU];exact rD⟩,?_⟩
 have as4:Typed a8 cz ζ:=(rD.typed rfl).1;have ao5:δ≠ζ:=λe=>by have h1:=(cB.ge rfl).2;have ι:=aM.size;dsimp only at h1;omega
 clear rD hq;rintro _ _ _ _ _ _ _ _ _ _ YB _ t40 W ⟨rfl,rfl,rfl,rfl,rfl,rfl,rfl,rfl,rfl,rfl,rfl,g0,g1,K,fX,rD⟩;unfold jw.δ;obtain⟨j,rfl⟩:=eF g0;rw[ch]at rD;refine bt (λψ=>?_) (λψ=>?_)
 ·have ψ:=b6 ψ;have ff:j<m.stamps.length:=by omega
  refine aT (by omega) (aT (by omega) ?_)
  try dsimp only[bo]
  try simp only[dG]
  rw[ch,eS];have az2:=I.rR m.stamps[j] (hP ff);have Wj:=fX.stamps.at (bA.vO (List.getElem?_eq_getElem ff));refine⟨_,Wj,_,fX.at (j:=10) rfl,aT (by omega) (aT (by omega) ?_)⟩;rw[bS (x:=m.clock-m.stamps[j]) (by omega) (by omega)]
  try rw[dG]
  refine rD.dv (j:=j) (v:=.int .i64 (min2 (m.clock-m.stamps[j]) 65535)) (by omega) rfl λbV fO e4=>?_;have Bk:(bA.cW (zw m n j)).set j (.int .i64 (min2 (m.clock-m.stamps[j]) 65535))=bA.cW (zw m n (j+1)):=by rw[<-alT rr (by omega)];unfold bA.cW;rw[rK]
  rw[Bk]at e4;rw[bS (x:=(j:Int)+1) (by omega) (by omega)];have aP:((j:Int)+1).toNat=j+1:=by omega
  refine⟨⟨by trivial,by trivial,by trivial,by trivial,by trivial,by trivial,by trivial,by trivial,by trivial,by trivial,by trivial,by omega,by omega,K.gL fO,?_,by rw[aP];exact e4⟩,by((try dsimp only);omega)⟩;exact fX.aO fO (λi bm e=>apb (e▸(cn i).2 bm)) (λi e fe=>(H2.1 fe).off (e▸(rD.typed rfl).1) (by decide)) λi e aS=>(e▸(rD.typed rfl).1:Typed W cz i).ne aS (by decide) rfl
 ·have ψ:=dn ψ;obtain rfl:j=n:=by omega
  rw[alS rr]at rD;have en:=eN.aO K λx J e=>by cases J;exact ao5 e
  have cb:=R3.aO K λi aS _ e=>by subst e;exact as4.ne aS (by decide) rfl
  have atf:=ate.aO K λx J e=>Qg x J e;have Nc:er w D W pp pd m xs aA D:=⟨⟨q,dm,dH,dq,fX,cn⟩,Kp.trans (KS.aO D) K (λ_ _ h=>h) (λi I e=>by omega),λi h=>.inl h⟩;exact amw I aH ak LP.1 aF Nc eL en cb ar atf rD
end
open Tryz
section
variable{w:World}{pp pd:Nat}{m:aQ}{xs:List (b9.cZ×Int)}{aA:Int}{D:bl}
def r6(a:aQ.Ask)(p:γ)(n c:Nat):aY:=[.int .i64 a.k,.int .i64 a.v,.int .i64 a.b,.int .i64 a.s,.slice p n c]
theorem au6{R:bZ}{v b:Int}{e:gn}(he:gB R v=some e)(hk:e.1≠2)(τ:0<=b/\b<e.2.1):Ck R v b=0:=by unfold Ck;rw[he];dsimp only;rw[aL hk,aN τ]
theorem ayt(I:Inv m)(ar:m.dl.length<=100000000)(ak:m.d.loose.length<=1000000)(aF:hY w pp pd m xs aA D){W:World}(x:η w W){a:aQ.Ask}{δ B AZ:Nat}{p:γ}{c:Nat}(en:μ W B e7 5 (some ⟨δ,0,none⟩) 1 1 (r6 a p 64 c))(e4:μ W AZ dt 1 p 64 c (a7 a.bs))(ab:ba.lx a.bs)
  {e:gn}(he:gB m.R a.v=some e)(hk:e.1≠2)(τ:0<=a.b/\a.b<e.2.1)(I7:(jn m.R:Int)+1<=m.cap)(φ:bA.room m.st 2=true){R:au}
  (dZ:∀w' bk,er w D w' pp pd (p9 {(gz m a.bs 2).1 with R:=j5 m.R a.v.toNat a.b.toNat (some (gz m a.bs 2).2)} ⟨4,a.v,0,a.b,(gz m a.bs 2).2.1,(gz m a.bs 2).2.2⟩) xs aA bk->R (.returned (.tuple #[])) w'):
  kJ.b4 (some ⟨pp,0,none⟩) δ W R:=by
 have dV:=Rf I.base I.Kc (show(0:Int)<=2 by decide) φ a.bs;have eU:=((mC I.gY).1 I.fit).1;have Nc:=(er.start aF).ex x;unfold kJ.b4;refine⟨_,_,_,en.at (j:=4) rfl,?_⟩;refine κ.use (DL Nc.is I.base I.x8 I.Kc (show(0:Int)<=2 by decide) φ I.pA ak e4 ab) ?_;rintro _ hv ⟨rfl,gO,p0⟩;have en:=p0.dS Nc.is en (by decide);have J:=dV.lt;have adq:(gz m a.bs 2).1.R=m.R:=rfl;have adr:(gz m a.bs 2).1.dl=m.dl:=rfl;generalize zZ:(gz m a.bs 2).1=m1 at p0 adq adr dZ;generalize(gz m a.bs 2).2=y at J dZ⊢;unfold et
 try dsimp only[bo,sV]
 have eb:=η.drew hv;have XU:=(Nc.trans p0).ex eb;have en:=en.ex eb;generalize hv.drew=nq at XU en⊢;obtain⟨q,dm,dH,dq,dd,cn⟩:=XU.at_;simp only[dG];refine⟨_,dd.at (j:=4) rfl,_,en.at (j:=1) rfl,_,en.at (j:=2) rfl,?_⟩;have adE:=dd.mf;rw[adq]at adE;have L0:=I.gY;have dJ:kH (some y):=⟨by omega,by omega⟩;have kF:=au6 he hk τ;refine κ.use (ZX adE eU a.v a.b (some y) dJ (r:=eX (some y)) (m:=e5 (some y)) λx h=>by cases h;exact⟨rfl,rfl⟩) ?_;rintro _ ga ⟨rfl,_,aR⟩;have aR:=aR kF;rw[kF]
 try dsimp only[bL]
 obtain⟨P0,bK⟩:=dd.NQ aR;have Nb:=XU.trans (fI.iW cn P0 bK λi I=>.inl I);have en:=hE bK (λi I=>(dd.im I).1) en (by decide);refine j1 (λ_=>?_) (λh=>absurd rfl h)
 try dsimp only[ca]
 refine⟨_,en.at (j:=1) rfl,_,en.at (j:=2) rfl,?_⟩;refine κ.use (MM Nb.is ⟨4,a.v,0,a.b,y.1,y.2⟩ (by dsimp only;rw[adr];exact ar)) ?_;rintro _ kZ ⟨rfl,KD,ph⟩
 try dsimp only[ca]
 exact dZ _ _ (Nb.trans ph)
theorem ajC(I:Inv m)(ar:m.dl.length<=100000000)(ak:m.d.loose.length<=1000000)(aF:hY w pp pd m xs aA D){W:World}(x:η w W){a:aQ.Ask}{δ ζ B fs AZ n:Nat}{p:γ}{c:Nat}(en:μ W B e7 5 (some ⟨δ,0,none⟩) 1 1 (r6 a p n c))(vU:μ W fs jR 2 (some ⟨ζ,0,none⟩) 1 1 (two (iT m.R a.v).1 (iT m.R a.v).2.1))(e4:μ W AZ dt 1 p n c (a7 a.bs))(ab:∀x∈a.bs,0<=x/\x<256)(zX:a.k=5){R:au}
  (dZ:∀w' bk,er w D w' pp pd (fi m a).1 xs aA bk->(fi m a).2=fh->R (.returned (.tuple #[])) w')
  (fF:∀e w',η w w'->e≠0->fi m a=fail m e->R (.panicked (zI e)) w'):
  kJ.aV (some ⟨pp,0,none⟩) δ ζ (iT m.R a.v).2.2 W R:=by
 have gv:fi m a=Kw m a:=by unfold fi;rw[aL (by omega),aL (by omega),aL (by omega),aL (by omega),aN zX]
 rw[gv]at dZ fF;have zY:a.bs.length=n:=by have:=e4.1;rw[sC,eS]at this;exact this
 unfold Kw at dZ fF;have eU:=((mC I.gY).1 I.fit).1;unfold kJ.aV;unfold iT at vU⊢;cases he:gB m.R a.v with
 |none=>
  rw[he]at fF;exact j1 (λh=>by cases h) λh=>fF 4 _ x h rfl
 |some e=>
  rw[he]at fF dZ vU;dsimp only at fF dZ vU⊢;refine j1 (λ_=>?_) (λh=>absurd rfl h)
  try dsimp only[bo,ca]
  refine κ.use (OY (aF.ex x) I.ok) ?_;rintro _ cm ⟨ps,rfl,cb,df⟩
  try dsimp only[hA]
  refine κ.use (ZK cb.at eU) ?_;rintro _ da ⟨rfl,jo⟩
  try dsimp only[ca,cT,cU,bo,bL]
  have X:=(x.trans df).trans jo;obtain⟨q,dm,dH,dq,dd,cn⟩:=aF.ex X;simp only[dG];refine⟨(two m.s m.k).toArray,rfl,dd.xu,?_⟩;refine κ.use (S1 m.s m.k I.gY da) ?_;rintro _ ed ⟨rfl,jb⟩
  try dsimp only[ca,cT,cU,bo,bL]
  have CK:=X.trans jb;have en:=((en.ex df).ex jo).ex jb;have vU:=((vU.ex df).ex jo).ex jb;have e4:=((e4.ex df).ex jo).ex jb;have dd:=dd.ex jb;refine⟨e.1,vU.at (j:=0) rfl,bt (λι=>?_) (λι=>?_)⟩
  ·have ι:e.1=2:=by simpa using ι
   exact j1 (λh=>by cases h) λh=>fF 8 _ CK h (by rw[aN ι])
  have ι:e.1≠2:=by simpa using ι
  simp only[aL ι]at fF dZ;have bad:(a.b<0\/e.2.1<=a.b)->kJ.bK (some ⟨pp,0,none⟩) δ ((gK (used m.R)).length:Int) ((m.s-4)*m.k) true ed R:=λτ=>by unfold kJ.bK;rw[ts];exact j1 (λh=>by cases h) λh=>fF 5 _ CK h (by rw[aN τ])
  refine⟨a.b,en.at (j:=2) rfl,bt (λτ=>bad (.inl (b6 τ))) (λτ=>⟨a.b,en.at (j:=2) rfl,e.2.1,vU.at (j:=1) rfl,?_⟩)⟩;have τ:=dn τ;by_cases eG:e.2.1<=a.b
  ·rw[bI eG];exact bad (.inr eG)
  rw[iX eG];have rl:¬(a.b<0\/e.2.1<=a.b):=by omega
  simp only[aL rl,zY]at fF dZ;unfold kJ.bK;rw[xz];refine⟨p,n,c,en.at (j:=4) rfl,bt (λjW=>?_) (λjW=>?_)⟩
  ·have jW:(n:Int)≠64:=by simpa using jW
   exact j1 (λh=>by cases h) λh=>fF 6 _ CK h (by rw[aN (by omega)])
  have jW:(n:Int)=64:=by simpa using jW
  obtain rfl:n=64:=by omega
  simp only[ne_eq,not_true_eq_false,so]at fF dZ;have Qh:(gK (used m.R)).length=jn m.R:=rfl;have adl:(jn m.R:Int)<=400:=by
   have h1:=((mC I.gY).1 I.fit).2.2;have bH:=I.gY
   have:(m.s-4)*m.k<=20*16:=qJ (by omega) (by omega) (by omega) (by omega)
   omega
  rw[Qh,bS (x:=(jn m.R:Int)+1) (by omega) (by omega)];refine bt (λhD=>?_) (λhD=>?_)
  ·have hD:m.cap<(jn m.R:Int)+1:=b6 hD;exact j1 (λh=>by cases h) λh=>fF 9 _ CK h (by rw[aN hD])
  have hD:¬m.cap<(jn m.R:Int)+1:=dn hD;simp only[aL hD]at fF dZ
  try dsimp only[bo]
  simp only[dG];refine⟨_,dd.at (j:=5) rfl,?_⟩;refine κ.use (bA.ZS dd.st 2) ?_;rintro _ fb ⟨rfl,pI⟩
  try dsimp only[dX]
  have aao:=CK.trans pI;cases φ:bA.room m.st 2 with
  |false=>
   rw[cond_pos (by rfl)];exact j1 (λh=>by cases h) λh=>fF 12 _ aao h (by rw[aN φ])
  |true=>
   rw[cond_neg (by rfl)];refine ayt I ar ak aF aao (en.ex pI) (e4.ex pI) ⟨zY,ab⟩ he ι (by omega) (by omega) φ λw' bk hp=>?_;rw[aL (by rw[φ];decide)]at dZ;exact dZ w' bk hp rfl
theorem ayu(I:Inv m)(ar:m.dl.length<=100000000)(ak:m.d.loose.length<=1000000)(aF:hY w pp pd m xs aA D)(a:aQ.Ask){AZ n:Nat}{p:γ}{c:Nat}(e4:μ w AZ dt 1 p n c (a7 a.bs))(ab:∀x∈a.bs,0<=x/\x<256)(zX:a.k=5){Z:Value->al}{X:List PanicEntry->al}
  (dZ:∀w' bk,er w D w' pp pd (fi m a).1 xs aA bk->(fi m a).2=fh->Z (.tuple #[]) w')
  (fF:∀e w',η w w'->e≠0->fi m a=fail m e->X (zI e) w'):
  κ prog 79 #[.pointer (some ⟨pp,0,none⟩),.agg (r6 a p n c).toArray] w Z X:=by
 obtain⟨q,dm,dH,dq,h,cn⟩:=id aF;show kJ.C (some ⟨pp,0,none⟩) a.k a.v a.b a.s p n c w _;apply kJ.ok;unfold kJ.main;rintro δ ε eL rfl;have σ:=μ.new (w:=w) (r6 a p n c) e7;rw[<-eL]at σ;have θ:=η.alloc w (.cells (r6 a p n c).toArray e7);have aP:w.alloc (.cells #[.int .i64 a.k,.int .i64 a.v,.int .i64 a.b,.int .i64 a.s,.slice p n c] e7)=w.alloc (.cells (r6 a p n c).toArray e7):=rfl;rw[aP];generalize w.alloc (.cells (r6 a p n c).toArray e7)=ε at σ θ⊢
 try dsimp only[bo]
 have eb:=θ.trans (η.drew ε);have σ:=σ.ex (η.drew ε);generalize ε.drew=υ at eb σ⊢;simp only[dG];refine⟨_,(h.ex eb).at (j:=4) rfl,_,σ.at (j:=1) rfl,?_,?_⟩
 ·refine κ.use (CE (h.ex eb).mf a.v) ?_;rintro _ χ ⟨rfl,ad⟩
  try dsimp only[ca,cT,cU,bo,bL,hA,h7]
  refine IH ((h.ex eb).ex ad).mf (η.refl χ) a.v λζ W wA B0=>?_;have X:=(eb.trans ad).trans wA;exact ajC I ar ak aF X ((σ.ex ad).ex wA) B0 (e4.ex X) ab zX dZ fF
 ·rintro ax aZ rfl rfl;have bh:=μ.new (w:=υ) (two 0 0) jR;have aM:=η.alloc υ (.cells (two 0 0).toArray jR);have rh:υ.alloc (.cells #[.int .i64 0,.int .i64 0] jR)=υ.alloc (.cells (two 0 0).toArray jR):=rfl;rw[rh];generalize υ.alloc (.cells (two 0 0).toArray jR)=aZ at bh aM⊢;have tj:=σ.ex aM;have k4:=eb.trans aM;refine⟨tj.at (j:=1) rfl,(h.ex k4).at (j:=4) rfl,?_⟩;refine κ.use (CE (h.ex k4).mf a.v) ?_;rintro _ a8 ⟨rfl,aU⟩
  try dsimp only[ca,cT,cU,bo,bL,hA,h7]
  have Mk:=eb.size;refine aT rfl ((bh.ex aU).put (cs:=two (iT m.R a.v).1 (iT m.R a.v).2.1) rfl nP λbW iq iV=>?_);have alO:=aM.trans aU;have tS:=alO.then iq λi I=>by omega
  have X:=eb.trans tS;exact ajC I ar ak aF X (σ.ex tS) iV (e4.ex X) ab zX dZ fF
end
structure nz(w:World)(D:bl)(gW:Nat)(w':World)(pp pd:Nat)(m:aQ)(xs:List (b9.cZ×Int))(aA:Int)(bk:bl):Prop where
 is:hY w' pp pd m xs aA bk
 aO:Kp w w' λi=>D i\/i=gW
 sub:∀i,bk i->D i\/w.heap.size<=i
structure akX(w:World)(gW:Nat)(aA:Int)(r:gj)(cr:γ)(b8 dc:Nat)(cx:γ)(cC cD:Nat):Prop where
 cell:μ w 0 ck 5 (some ⟨gW,0,none⟩) 1 1 [.int .i64 aA,.int .i64 r.e,.int .i64 r.id,.slice cr b8 dc,.slice cx cC cD]
 bs:μ w 0 dt 1 cr b8 dc (a7 r.bs)
 pr:μ w 0 cz 1 cx cC cD (bA.cW r.pr)
def Ev(w:World)(D:bl)(gW:Nat)(aA:Int)(r:gj):Prop:=∃cr b8 dc cx cC cD,akX w gW aA r cr b8 dc cx cC cD/\∀x,cx=some x->¬D x.block
section
variable{w:World}{pp pd:Nat}{m:aQ}{xs:List (b9.cZ×Int)}{aA:Int}{D:bl}{gW:Nat}
theorem er.cf{w':World}{bk:bl}{m':aQ}{vc:List (b9.cZ×Int)}{qt:Int}(h:er w D w' pp pd m' vc qt bk):nz w D gW w' pp pd m' vc qt bk:=⟨h.is,h.aO.mono λ_ _ h=>.inl h,h.sub⟩
theorem nz.iW{ε w':World}{fx bk:bl}{m1 m':aQ}{xO vc:List (b9.cZ×Int)}{xI qt:Int}(h:nz w D gW ε pp pd m1 xO xI fx)(k:er ε fx w' pp pd m' vc qt bk):nz w D gW w' pp pd m' vc qt bk:=
 ⟨k.is,Kp.trans h.aO k.aO (λ_ _ h=>h) (λi I ah=>by rcases h.sub i ah with h|h;exact .inl h;omega),λi I=>by
  rcases k.sub i I with h1|h1
  ·exact h.sub i h1
  ·exact .inr (gE h.aO.size h1)⟩
theorem nz.ex{ε w':World}{fx:bl}{m1:aQ}{xO:List (b9.cZ×Int)}{xI:Int}(h:nz w D gW ε pp pd m1 xO xI fx)(x:η ε w'):nz w D gW w' pp pd m1 xO xI fx:=⟨h.is.ex x,h.aO.gL (x.aO _),h.sub⟩
theorem nz.put{ε w':World}{fx:bl}{m1:aQ}{xO:List (b9.cZ×Int)}{xI:Int}(h:nz w D gW ε pp pd m1 xO xI fx){B:Nat}{cs:aY}(o:μ ε B ck 5 (some ⟨gW,0,none⟩) 1 1 cs)(k:Kp ε w' λi=>i=gW):nz w D gW w' pp pd m1 xO xI fx:=
 ⟨h.is.aO k (λi ah I=>(h.is.im ah).1.off (I▸(o.typed rfl).1) (by decide)) (λi I fe=>(H2.1 fe).off (I▸(o.typed rfl).1) (by decide)) (λi I aS=>aS.ne (I▸(o.typed rfl).1) (by decide) rfl),h.aO.gL (k.mono λ_ _ h=>.inr h),h.sub⟩
theorem anb{a:aQ.Ask}(h:a.k=1):fi m a=(if 1<=a.s/\a.s<=32 then(match mi m.R with
 |none=>fail m 7
 |some i=>(p9 {m with R:=m.R.set i (1,a.s,List.replicate a.s.toNat none)} ⟨1,i,0,a.s,0,0⟩,{fh with id:=i}))else fail m 5):=by unfold fi;rw[aN h];all_goals rfl
theorem anc{a:aQ.Ask}(h:a.k=2):fi m a=(match gB m.R a.v with
 |none=>fail m 4
 |some _=>(p9 {m with R:=m.R.set a.v.toNat (0,0,[])} ⟨2,a.v,0,0,0,0⟩,fh)):=by unfold fi;rw[aL (by omega),aN h];all_goals rfl
theorem ane{a:aQ.Ask}(h:a.k=3):fi m a=(match gB m.R a.v with
 |none=>fail m 4
 |some e=>(match mi m.R with
  |none=>fail m 7
  |some i=>(p9 {m with R:=m.R.set i (2,e.2.1,e.2.2)} ⟨3,a.v,i,0,0,0⟩,{fh with id:=i}))):=by unfold fi;rw[aL (by omega),aL (by omega),aN h];all_goals rfl
theorem abC{a:aQ.Ask}(h:a.k=4):fi m a=(match gB m.R a.v with
 |none=>fail m 4
 |some e=>if a.b<0\/e.2.1<=a.b then fail m 5 else(match(e.2.2[a.b.toNat]?).join with
  |none=>(m,{fh with bs:=ba.gN})
  |some x=>(m,{fh with bs:=hS m.k m.d x}))):=by unfold fi;rw[aL (by omega),aL (by omega),aL (by omega),aN h];all_goals rfl
theorem anf{a:aQ.Ask}(h:a.k=6):fi m a=(match gB m.R a.v with
 |none=>fail m 4
 |some e=>if e.1=2 then fail m 8 else if a.b<0\/e.2.1<=a.b then fail m 5
  else(p9 {m with R:=j5 m.R a.v.toNat a.b.toNat none} ⟨5,a.v,0,a.b,0,0⟩,fh)):=by unfold fi;rw[aL (by omega),aL (by omega),aL (by omega),aL (by omega),aL (by omega),aN h];all_goals rfl
theorem ang{a:aQ.Ask}(h:a.k=7):fi m a=(y6 m,fh):=by unfold fi;rw[aL (by omega),aL (by omega),aL (by omega),aL (by omega),aL (by omega),aL (by omega),aN h];all_goals rfl
theorem anh{a:aQ.Ask}(h:a.k=8):fi m a=(m,{fh with pr:=[(jn m.R:Int),m.cap]}):=by unfold fi;rw[aL (by omega),aL (by omega),aL (by omega),aL (by omega),aL (by omega),aL (by omega),aL (by omega),aN h];all_goals rfl
theorem ani{a:aQ.Ask}(h:a.k=9):fi m a=(match gB m.R a.v with
 |none=>fail m 4
 |some e=>(m,{fh with pr:=[e.1,e.2.1]})):=by unfold fi;rw[aL (by omega),aL (by omega),aL (by omega),aL (by omega),aL (by omega),aL (by omega),aL (by omega),aL (by omega)];all_goals rfl
def fJ(i:Int)(x y:Value):aY:=[.int .i64 0,.int .i64 0,.int .i64 i,x,y]
abbrev bR:Value:=.slice none 0 0
theorem J0{i:Int}{B:Nat}(o:μ w B ck 5 (some ⟨gW,0,none⟩) 1 1 (fJ i bR bR)):Ev w D gW 0 {fh with id:=i}:=⟨none,0,0,none,0,0,⟨o.lower (eR _),μ.nil _ _ _ _,μ.nil _ _ _ _⟩,λ_ h=>by cases h⟩
theorem auB{bs:aq}{B:Nat}{q:γ}{n c:Nat}(o:μ w B ck 5 (some ⟨gW,0,none⟩) 1 1 (fJ 0 (.slice q n c) bR))(h:μ w 0 dt 1 q n c (a7 bs)):Ev w D gW 0 {fh with bs:=bs}:=⟨q,n,c,none,0,0,⟨o.lower (eR _),h,μ.nil _ _ _ _⟩,λ_ h=>by cases h⟩
theorem auC{l:aq}{B:Nat}{q:γ}{n c:Nat}(o:μ w B ck 5 (some ⟨gW,0,none⟩) 1 1 (fJ 0 bR (.slice q n c)))(h:μ w 0 cz 1 q n c (bA.cW l))(cn:∀x,q=some x->¬D x.block):Ev w D gW 0 {fh with pr:=l}:=⟨none,0,0,q,n,c,⟨o.lower (eR _),μ.nil _ _ _ _,h⟩,cn⟩
theorem aeK{ε:World}{fx:bl}{m1:aQ}{xO:List (b9.cZ×Int)}{xI:Int}(h:nz w D gW ε pp pd m1 xO xI fx){B:Nat}(o:μ ε B ck 5 (some ⟨gW,0,none⟩) 1 1 (fJ 0 bR bR))(x y:Int){N:al}
  (K:∀w',nz w D gW w' pp pd m1 xO xI fx->Ev w' fx gW 0 {fh with pr:=[x,y]}->N w'):
  aK ε #[.int .i64 x,.int .i64 y] cz λcu qZ=>(qZ.cell? (⟨gW,4,none⟩:Addr)).isSome=true/\qZ.frozen? (⟨gW,4,none⟩:Addr)=false/\∀lO,lO=qZ.setCell (⟨gW,4,none⟩:Addr) (Value.slice (some ⟨cu,0,none⟩) 2 2)->N lO:=by
 rintro cu qZ τ rfl;have cB:=μ.alloc (w:=ε) (bA.cW [x,y]) cz 1 2 rfl;rw[<-τ]at cB;have ay:=η.alloc ε (.cells (bA.cW [x,y]).toArray cz);have iJ:ε.alloc (.cells #[.int .i64 x,.int .i64 y] cz)=ε.alloc (.cells (bA.cW [x,y]).toArray cz):=rfl;rw[iJ];generalize ε.alloc (.cells (bA.cW [x,y]).toArray cz)=qZ at cB ay⊢;have o:=o.ex ay;refine o.dv (j:=4) (by omega) rfl λlO k asY=>?_;exact K lO ((h.ex ay).put o k) (auC asY ((cB.aO k λx J I=>(cB.typed J).1.ne (I▸(o.typed rfl).1) (by decide) rfl).lower (eR _)) λx J ah=>by cases J;have:=(h.is.im ah).2;dsimp only at this;omega)
end
section
variable{w:World}{pp pd:Nat}{m:aQ}{xs:List (b9.cZ×Int)}{aA:Int}{D:bl}{gW:Nat}
structure S9(m:aQ)(a:aQ.Ask):Prop where
 inv:Inv m
 seq:m.seq+1<=1073741824
 dl:m.dl.length<=900000
 loose:m.d.loose.length<=900000
 bytes:∀x∈a.bs,0<=x/\x<256
 kind:1<=a.k/\a.k<=9
theorem abD(I:Inv m)(aF:hY w pp pd m xs aA D){W:World}{fx:bl}(h:nz w D gW W pp pd m xs aA fx){a:aQ.Ask}{δ B fs:Nat}(vU:μ W fs jR 2 (some ⟨δ,0,none⟩) 1 1 (two (iT m.R a.v).1 (iT m.R a.v).2.1))(or:μ W B ck 5 (some ⟨gW,0,none⟩) 1 1 (fJ 0 bR bR))(VZ:a.k=9){R:au}
  (dZ:∀w' bk,nz w D gW w' pp pd (fi m a).1 xs aA bk->Ev w' bk gW 0 (fi m a).2->(fi m a).2.e=0->R (.returned (.tuple #[])) w')
  (fF:∀e w' bk cs,nz w D gW w' pp pd m xs aA bk->μ w' 0 ck 5 (some ⟨gW,0,none⟩) 1 1 cs->e≠0->fi m a=fail m e->R (.panicked (zI e)) w'):
  vY.aV (some ⟨gW,0,none⟩) δ (iT m.R a.v).2.2 W R:=by
 rw[ani VZ]at dZ fF;unfold vY.aV;unfold iT at vU⊢;cases he:gB m.R a.v with
 |none=>
  rw[he]at fF;exact j1 (λh=>by cases h) λar=>fF 4 _ _ _ h (or.lower (eR _)) ar rfl
 |some e=>
  rw[he]at fF dZ vU;dsimp only at fF dZ vU⊢;refine j1 (λ_=>?_) (λh=>absurd rfl h)
  try dsimp only[bo,ca]
  refine⟨_,vU.at (j:=0) rfl,_,vU.at (j:=1) rfl,?_⟩
  try simp only[dG]
  exact aeK h or e.1 e.2.1 λw' hp φ=>dZ w' _ hp φ rfl
set_option maxHeartbeats 1000000 in
theorem ann{a:aQ.Ask}(ah:S9 m a)(aF:hY w pp pd m xs aA D){AZ n:Nat}{p:γ}{c:Nat}(e4:μ w AZ dt 1 p n c (a7 a.bs)){B:Nat}(or:μ w B ck 5 (some ⟨gW,0,none⟩) 1 1 (fJ 0 bR bR)){Z:Value->al}{X:List PanicEntry->al}
  (dZ:∀w' bk,nz w D gW w' pp pd (fi m a).1 xs aA bk->Ev w' bk gW 0 (fi m a).2->(fi m a).2.e=0->Z (.tuple #[]) w')
  (fF:∀e w' bk cs,nz w D gW w' pp pd m xs aA bk->μ w' 0 ck 5 (some ⟨gW,0,none⟩) 1 1 cs->e≠0->fi m a=fail m e->X (zI e) w'):
  κ prog 46 #[.pointer (some ⟨pp,0,none⟩),.agg (r6 a p n c).toArray,.pointer (some ⟨gW,0,none⟩)] w Z X:=by
 have I:=ah.inv;have eU:=((mC I.gY).1 I.fit).1;show vY.C (some ⟨pp,0,none⟩) a.k a.v a.b a.s p n c (some ⟨gW,0,none⟩) w _;apply vY.ok;unfold vY.main;rintro δ ε eL rfl;have σ:=μ.new (w:=w) (r6 a p n c) e7;rw[<-eL]at σ;have θ:=η.alloc w (.cells (r6 a p n c).toArray e7);have aP:w.alloc (.cells #[.int .i64 a.k,.int .i64 a.v,.int .i64 a.b,.int .i64 a.s,.slice p n c] e7)=w.alloc (.cells (r6 a p n c).toArray e7):=rfl;rw[aP];generalize w.alloc (.cells (r6 a p n c).toArray e7)=ε at σ θ⊢
 try dsimp only[bo]
 have ae:nz w D gW ε pp pd m xs aA D:=((er.start aF).ex θ).cf;have GI:=or.ex θ;have eb:=θ.trans (η.drew ε);have af:=σ.ex (η.drew ε);have rF:=GI.ex (η.drew ε);have aX:=ae.ex (η.drew ε);generalize ε.drew=υ at eb af rF aX⊢;simp only[dG];have ι:=aF.ex eb;have C4:∀{e:Int}{w'}{bk}{B:Nat}{cs:aY},nz w D gW w' pp pd m xs aA bk->μ w' B ck 5 (some ⟨gW,0,none⟩) 1 1 cs->e≠0->fi m a=fail m e->X (zI e) w':=λh o he ah=>fF _ _ _ _ h (o.lower (eR _)) he ah;refine⟨_,σ.at (j:=0) rfl,bt (λhk=>?_) (λw9=>bt (λhk=>?_) (λoD=>bt (λhk=>?_) (λVY=>bt (λhk=>?_) (λvI=>bt (λhk=>?_) (λzX=>bt (λhk=>?_) (λap2=>bt (λhk=>?_) (λap3=>bt (λhk=>?_) (λBA=>bt (λhk=>?_) (λVZ=>?_)))))))))⟩
 ·have hk:a.k=1:=by simpa using hk
  have gv:=anb (m:=m) hk;obtain⟨q,dm,dH,dq,dd,cn⟩:=aX.is;refine⟨_,dd.at (j:=4) rfl,_,af.at (j:=3) rfl,?_⟩;by_cases ab:1<=a.s/\a.s<=32
  ·rw[aN ab]at gv;refine κ.use (aj3 dd.mf ab) ?_;rintro _ χ φ;cases k8:mi m.R with
   |none=>
    rw[k8]at gv φ;obtain⟨rfl,ad⟩:=φ
    try dsimp only[ca,cT,cU,bo,bL]
    try simp only[dG]
    refine(rF.ex ad).dv (j:=2) (v:=.int .i64 0) (by omega) rfl λao cI qd=>?_;exact j1 (λh=>by cases h) λh=>C4 ((aX.ex ad).put (rF.ex ad) cI) qd h gv
   |some i=>
    rw[k8]at gv φ;obtain⟨rfl,aR⟩:=φ
    try dsimp only[ca,cT,cU,bo,bL]
    try simp only[dG]
    obtain⟨w3,b4⟩:=dd.NQ aR;have bj:=aX.iW (fI.iW cn w3 b4 λi I=>.inl I);have tl:=hE b4 (λi I=>(dd.im I).1) rF (by decide);have bh:=hE b4 (λi I=>(dd.im I).1) af (by decide);refine tl.dv (j:=2) (v:=.int .i64 i) (by omega) rfl λao cI qd=>?_;have eo:=bj.put tl cI;have cJ:=bh.aO cI λx J I=>(bh.typed J).1.ne (I▸(tl.typed rfl).1) (by decide) rfl;refine j1 (λ_=>?_) (λh=>absurd rfl h)
    try dsimp only[ca]
    have eo:=eo.ex (η.drew ao);have qd:=qd.ex (η.drew ao);have cJ:=cJ.ex (η.drew ao);generalize ao.drew=an at eo qd cJ⊢
    try simp only[dG]
    refine⟨_,qd.at (j:=2) rfl,_,cJ.at (j:=3) rfl,?_⟩;have bm:=dI.yc;have key:=MM eo.is ⟨1,i,0,a.s,0,0⟩ (by have:=ah.dl;dsimp only;omega);dsimp only at key;rw[bm]at key;refine κ.use key ?_;rintro _ a8 ⟨rfl,bk,hp⟩
    try dsimp only[ca]
    rw[gv]at dZ;exact dZ a8 bk (eo.iW hp) (J0 (hp.dS eo.is qd (by decide))) rfl
  ·rw[aL ab]at gv;refine κ.use (aj2 dd.mf ab) ?_;rintro _ χ ⟨rfl,ad⟩
   try dsimp only[ca,cT,cU,bo,bL]
   try simp only[dG]
   refine(rF.ex ad).dv (j:=2) (v:=.int .i64 0) (by omega) rfl λao cI qd=>?_;exact j1 (λh=>by cases h) λh=>C4 ((aX.ex ad).put (rF.ex ad) cI) qd h gv
 ·have hk:a.k=2:=by simpa using hk
  have gv:=anc (m:=m) hk;obtain⟨q,dm,dH,dq,dd,cn⟩:=aX.is;refine⟨_,dd.at (j:=4) rfl,_,af.at (j:=1) rfl,?_⟩;refine κ.use (akb dd.mf a.v) ?_;rintro _ χ φ;cases he:gB m.R a.v with
  |none=>
   rw[he]at gv φ;obtain⟨rfl,ad⟩:=φ
   try dsimp only[bL]
   exact j1 (λh=>by cases h) λh=>C4 (aX.ex ad) (rF.ex ad) h gv
  |some e=>
   rw[he]at gv φ;obtain⟨rfl,aR⟩:=φ
   try dsimp only[bL]
   obtain⟨w3,b4⟩:=dd.NQ aR;have bj:=aX.iW (fI.iW cn w3 b4 λi I=>.inl I);have tl:=hE b4 (λi I=>(dd.im I).1) rF (by decide);have bh:=hE b4 (λi I=>(dd.im I).1) af (by decide);refine j1 (λ_=>?_) (λh=>absurd rfl h)
   try dsimp only[ca]
   refine⟨_,bh.at (j:=1) rfl,?_⟩;have bm:=dI.yc;have key:=MM bj.is ⟨2,a.v,0,0,0,0⟩ (by have:=ah.dl;dsimp only;omega);dsimp only at key;rw[bm]at key;refine κ.use key ?_;rintro _ a8 ⟨rfl,bk,hp⟩
   try dsimp only[ca]
   rw[gv]at dZ;exact dZ a8 bk (bj.iW hp) (J0 (i:=0) (hp.dS bj.is tl (by decide))) rfl
 ·have hk:a.k=3:=by simpa using hk
  have gv:=ane (m:=m) hk;obtain⟨q,dm,dH,dq,dd,cn⟩:=aX.is;refine⟨_,dd.at (j:=4) rfl,_,af.at (j:=1) rfl,?_⟩;refine κ.use (alb dd.mf a.v) ?_;rintro _ χ φ;cases he:gB m.R a.v with
  |none=>
   rw[he]at gv φ;obtain⟨rfl,ad⟩:=φ
   try dsimp only[ca,cT,cU,bo,bL]
   try simp only[dG]
   refine(rF.ex ad).dv (j:=2) (v:=.int .i64 0) (by omega) rfl λao cI qd=>?_;exact j1 (λh=>by cases h) λh=>C4 ((aX.ex ad).put (rF.ex ad) cI) qd h gv
  |some e=>
   rw[he]at gv φ;dsimp only at gv φ;cases k8:mi m.R with
   |none=>
    rw[k8]at gv φ;obtain⟨rfl,ad⟩:=φ
    try dsimp only[ca,cT,cU,bo,bL]
    try simp only[dG]
    refine(rF.ex ad).dv (j:=2) (v:=.int .i64 0) (by omega) rfl λao cI qd=>?_;exact j1 (λh=>by cases h) λh=>C4 ((aX.ex ad).put (rF.ex ad) cI) qd h gv
   |some i=>
    rw[k8]at gv φ;obtain⟨rfl,aR⟩:=φ
    try dsimp only[ca,cT,cU,bo,bL]
    try simp only[dG]
    obtain⟨w3,b4⟩:=dd.NQ aR;have bj:=aX.iW (fI.iW cn w3 b4 λi I=>.inl I);have tl:=hE b4 (λi I=>(dd.im I).1) rF (by decide);have bh:=hE b4 (λi I=>(dd.im I).1) af (by decide);refine tl.dv (j:=2) (v:=.int .i64 i) (by omega) rfl λao cI qd=>?_;have eo:=bj.put tl cI;have cJ:=bh.aO cI λx J I=>(bh.typed J).1.ne (I▸(tl.typed rfl).1) (by decide) rfl;refine j1 (λ_=>?_) (λh=>absurd rfl h)
    try dsimp only[ca]
    have eo:=eo.ex (η.drew ao);have qd:=qd.ex (η.drew ao);have cJ:=cJ.ex (η.drew ao);generalize ao.drew=an at eo qd cJ⊢
    try simp only[dG]
    refine⟨_,cJ.at (j:=1) rfl,_,qd.at (j:=2) rfl,?_⟩;have bm:=dI.yc;have key:=MM eo.is ⟨3,a.v,i,0,0,0⟩ (by have:=ah.dl;dsimp only;omega);dsimp only at key;rw[bm]at key;refine κ.use key ?_;rintro _ a8 ⟨rfl,bk,hp⟩
    try dsimp only[ca]
    rw[gv]at dZ;exact dZ a8 bk (eo.iW hp) (J0 (hp.dS eo.is qd (by decide))) rfl
 ·have hk:a.k=4:=by simpa using hk
  refine⟨(r6 a p n c).toArray,rfl,σ.cells,?_⟩;refine JZ ae.is I a.v a.b a.k a.s p n c (λbs w' q aW x en bm=>?_) (λe w' x he bm=>?_)
  ·try dsimp only[ee]
   obtain⟨e,he,acE,eL,apk⟩:=bm;have gv:fi m a=(m,{fh with bs:=bs}):=by rw[abC hk,he];dsimp only;rw[aL (by omega),apk];cases(e.2.2[a.b.toNat]?).join<;>rfl
   rw[gv]at dZ;have tl:=GI.ex x;refine tl.dv (j:=3) (by omega) rfl λao k cJ=>?_;exact dZ ao _ ((ae.ex x).put tl k) (auB cJ (en.aO k λx J I=>(en.typed J).1.ne (I▸(tl.typed rfl).1) (by decide) rfl)) rfl
  ·refine C4 (ae.ex x) (GI.ex x) he ?_;rw[abC hk];rcases bm with⟨h1,rfl⟩|⟨db,h1,ι,rfl⟩
   ·rw[h1]
   ·rw[h1];dsimp only;rw[aN ι]
 ·have hk:a.k=5:=by simpa using hk
  refine⟨(r6 a p n c).toArray,rfl,σ.cells,?_⟩;have ym:=ah.dl;have qD:=ah.loose;refine ayu I (by omega) (by omega) ae.is a (e4.ex θ) ah.bytes hk (λw' bk hp φ=>?_) (λe w' x he bm=>C4 (ae.ex x) (GI.ex x) he bm)
  try dsimp only[ca]
  refine dZ w' bk (ae.iW hp) ?_ (by rw[φ];rfl);rw[φ];exact J0 (i:=0) (hp.dS ae.is GI (by decide))
 ·have hk:a.k=6:=by simpa using hk
  have gv:=anf (m:=m) hk;obtain⟨q,dm,dH,dq,dd,cn⟩:=aX.is;refine⟨_,dd.at (j:=4) rfl,_,af.at (j:=1) rfl,_,af.at (j:=2) rfl,?_⟩;refine κ.use (ZX dd.mf eU a.v a.b none trivial (r:=0) (m:=0) λx h=>by cases h) ?_;rintro _ χ ⟨rfl,zN,L1⟩
  try dsimp only[bL]
  by_cases n3:Ck m.R a.v a.b=0
  ·have aR:=L1 n3;rw[n3];have gv:fi m a=(p9 {m with R:=j5 m.R a.v.toNat a.b.toNat none} ⟨5,a.v,0,a.b,0,0⟩,fh):=by
    unfold Ck at n3;rw[gv];cases he:gB m.R a.v with
    |none=>rw[he]at n3;cases n3
    |some e=>
     rw[he]at n3;dsimp only at n3⊢;by_cases ι:e.1=2
     ·rw[aN ι]at n3;cases n3
     rw[aL ι]at n3⊢;by_cases τ:0<=a.b/\a.b<e.2.1
     ·rw[aL (by omega)]
     ·rw[aL τ]at n3;cases n3
   obtain⟨w3,b4⟩:=dd.NQ aR;have bj:=aX.iW (fI.iW cn w3 b4 λi I=>.inl I);have tl:=hE b4 (λi I=>(dd.im I).1) rF (by decide);have bh:=hE b4 (λi I=>(dd.im I).1) af (by decide);refine j1 (λ_=>?_) (λh=>absurd rfl h)
   try dsimp only[ca]
   refine⟨_,bh.at (j:=1) rfl,_,bh.at (j:=2) rfl,?_⟩;have bm:=dI.yc;have key:=MM bj.is ⟨5,a.v,0,a.b,0,0⟩ (by have:=ah.dl;dsimp only;omega);dsimp only at key;rw[bm]at key;refine κ.use key ?_;rintro _ a8 ⟨rfl,bk,hp⟩
   try dsimp only[ca]
   rw[gv]at dZ;exact dZ a8 bk (bj.iW hp) (J0 (i:=0) (hp.dS bj.is tl (by decide))) rfl
  ·refine j1 (λh=>absurd h n3) λh=>C4 (aX.ex (zN h)) (rF.ex (zN h)) h ?_;unfold Ck at n3⊢;rw[gv];cases he:gB m.R a.v with
   |none=>rfl
   |some e=>
    rw[he]at n3;dsimp only at n3⊢;by_cases ι:e.1=2
    ·rw[aN ι,aN ι]
    rw[aL ι]at n3;rw[aL ι,aL ι];by_cases τ:0<=a.b/\a.b<e.2.1
    ·rw[aN τ]at n3;exact absurd rfl n3
    ·rw[aL τ,aN (by omega)]
 ·have hk:a.k=7:=by simpa using hk
  refine κ.use (avM ae.is I ah.seq ah.loose ah.dl) ?_;rintro _ w' ⟨rfl,bk,hp⟩
  try dsimp only[ca]
  rw[ang hk]at dZ;exact dZ w' bk (ae.iW hp) (J0 (i:=0) (hp.dS ae.is GI (by decide))) rfl
 ·have hk:a.k=8:=by simpa using hk
  refine κ.use (OY ae.is I.ok) ?_;rintro _ cm ⟨ps,rfl,cb,df⟩
  try dsimp only[hA]
  refine κ.use (ZK cb.at eU) ?_;rintro _ da ⟨rfl,jo⟩
  try dsimp only[ca,cT,cU,bo,bL]
  have X:=(θ.trans df).trans jo;obtain⟨q,dm,dH,dq,dd,cn⟩:=aF.ex X
  try simp only[dG]
  refine⟨(two m.s m.k).toArray,rfl,dd.xu,?_⟩;refine κ.use (S1 m.s m.k I.gY da) ?_;rintro _ ed ⟨rfl,jb⟩
  try dsimp only[ca,cT,cU,bo,bL]
  try simp only[dG]
  rw[anh hk]at dZ;exact aeK (((ae.ex df).ex jo).ex jb) (((GI.ex df).ex jo).ex jb) _ _ λw' hp φ=>dZ w' _ hp φ rfl
 ·have hk:a.k=9:=by simpa using hk
  obtain⟨q,dm,dH,dq,dd,cn⟩:=aX.is;refine⟨_,dd.at (j:=4) rfl,_,af.at (j:=1) rfl,?_,?_⟩
  ·refine κ.use (CE dd.mf a.v) ?_;rintro _ χ ⟨rfl,ad⟩
   try dsimp only[ca,cT,cU,bo,bL,hA,h7]
   refine IH (dd.ex ad).mf (η.refl χ) a.v λζ W wA B0=>?_;exact abD I aF ((aX.ex ad).ex wA) B0 ((rF.ex ad).ex wA) hk dZ fF
  ·rintro ax aZ rfl rfl;have bh:=μ.new (w:=υ) (two 0 0) jR;have aM:=η.alloc υ (.cells (two 0 0).toArray jR);have rh:υ.alloc (.cells #[.int .i64 0,.int .i64 0] jR)=υ.alloc (.cells (two 0 0).toArray jR):=rfl;rw[rh];generalize υ.alloc (.cells (two 0 0).toArray jR)=aZ at bh aM⊢;refine⟨(af.ex aM).at (j:=1) rfl,(dd.ex aM).at (j:=4) rfl,?_⟩;refine κ.use (CE (dd.ex aM).mf a.v) ?_;rintro _ a8 ⟨rfl,aU⟩
   try dsimp only[ca,cT,cU,bo,bL,hA,h7]
   refine aT rfl ((bh.ex aU).put (cs:=two (iT m.R a.v).1 (iT m.R a.v).2.1) rfl nP λbW iq iV=>?_);have tS:=(aM.trans aU).then iq λi I=>by omega
   exact abD I aF (aX.ex tS) iV (rF.ex tS) hk dZ fF
 ·exfalso
  have:=ah.kind
  simp only[beq_eq_false_iff_ne]at w9 oD VY vI zX ap2 ap3 BA VZ;omega
end
open Go
theorem aiS(a b v:Value):(#[a,b]++((Array.replicate 12 undef).setIfInBounds 1 v).setIfInBounds 0 v:aj)=#[a,b,v,v,undef,undef,undef,undef,undef,undef,undef,undef,undef,undef]:=rfl
theorem axK(v:Value)(w:World):(Instr.typeAssert (.iface 104 v) 20 104 false).run prog w=.ok v w:=by simp[Instr.typeAssert,go_sem]
theorem axN(e:Int)(w:World):(Instr.field 104 (.agg #[.int .i64 e]) 0).run prog w=.ok (.int .i64 e) w:=by simp[Instr.field,go_sem,part,typeInfo];rfl
theorem amp(δ ζ pp:Nat)(e:Int)(w:World)(π:(w.cell? (⟨ζ,0,none⟩:Addr)).isSome=true)(aI:w.frozen? (⟨ζ,0,none⟩:Addr)=false)(hp:w.cell? (⟨δ,0,none⟩:Addr)=some (.pointer (some ⟨pp,0,none⟩)))(b1:δ≠ζ)(I9:pp≠ζ)
  (ah:(w.cell? (⟨pp,12,none⟩:Addr)).isSome=true)(apD:w.frozen? (⟨pp,12,none⟩:Addr)=false):
  CallsD prog 47 #[.pointer (some ⟨ζ,0,none⟩),.pointer (some ⟨δ,0,none⟩)] (.panicking (zI e)) w λdb Od w'=>
   db=.returned (.tuple #[])/\settle Od=.returning/\w'=(w.setCell (⟨ζ,0,none⟩:Addr) (.int .i64 e)).setCell (⟨pp,12,none⟩:Addr) (.bool (e==10)):=by
 obtain⟨x,J⟩:=JQ.1 π;refine callsD_of_wpS func47 rfl λabp cs hu=>?_;apply wpS_seq;apply wpS_region;simp[wpOpsS,go_sem,recoverD,hu,zI,ntmps47,Exit.thenS];rw[aiS];apply wpS_seq;apply wpS_region;simp[wpOpsS,go_sem,Exit.thenS];refine wpS_cond (t:=true) (by simp[Act.eval,YN]) ?_;simp only[qg];apply wpS_seq;apply wpS_region;simp[wpOpsS,go_sem,Exit.thenS,YN,axK,axN,J,aI];have h1:(w.setCell (⟨ζ,0,none⟩:Addr) (.int .i64 e)).cell? (⟨δ,0,none⟩:Addr)=some (.pointer (some ⟨pp,0,none⟩)):=by rw[World.cell?_setCell_other _ (⟨ζ,0,none⟩:Addr) (⟨δ,0,none⟩:Addr) _ (λh=>b1 (by cases h;rfl))];exact hp
 have ι:(w.setCell (⟨ζ,0,none⟩:Addr) (.int .i64 e)).cell? (⟨ζ,0,none⟩:Addr)=some (.int .i64 e):=World.cell?_setCell_same' _ _ _ π;have aJ:(w.setCell (⟨ζ,0,none⟩:Addr) (.int .i64 e)).cell? (⟨pp,12,none⟩:Addr)=w.cell? (⟨pp,12,none⟩:Addr):=World.cell?_setCell_other _ (⟨ζ,0,none⟩:Addr) (⟨pp,12,none⟩:Addr) _ (λh=>by cases h);obtain⟨y,ag⟩:=JQ.1 ah
 try rw[ag]at aJ
 have cK:(w.setCell (⟨ζ,0,none⟩:Addr) (.int .i64 e)).frozen? (⟨pp,12,none⟩:Addr)=false:=by rw[World.frozen?_setCell];exact apD
 generalize w.setCell (⟨ζ,0,none⟩:Addr) (.int .i64 e)=ε at h1 ι aJ cK⊢;apply wpS_region;simp[wpOpsS,go_sem,h1,ι,aJ,cK];refine⟨rfl,_,rfl,.tuple #[],?_,rfl,rfl,rfl⟩;simp[results,results47,go_sem]
theorem amo(δ ζ:Nat)(w:World):
  CallsD prog 47 #[.pointer (some ⟨ζ,0,none⟩),.pointer (some ⟨δ,0,none⟩)] .returning w λe Od w'=>e=.returned (.tuple #[])/\Od=.returning/\w'=w:=by
 refine callsD_of_wpS func47 rfl λabp cs hu=>?_;apply wpS_seq;apply wpS_region;simp[wpOpsS,go_sem,recoverD,hu,ntmps47,Exit.thenS];rw[aiS];apply wpS_seq;apply wpS_region;simp[wpOpsS,go_sem,Exit.thenS];refine wpS_cond (t:=false) (by simp[Act.eval]) ?_;simp only[xx,so];refine wpS_of_wp (wp_skip ?_);cases abp
 simp_all[bodyPostS,results,results47,go_sem]
def Al(P:Program)(ops:Array Oper)(Q:Exit->Act->al):List Nat->Act->al
 |[],a,w=>Q .normal a w
 |i::rest,a,w=>match ops[i]?with
  |none=>Al P ops Q rest a w
  |some o=>if Region.wanted o (yielded ops a.tmps)=true then o.upon P a (Al P ops Q rest) Q ((execOp a.eval o).run P w)else Al P ops Q rest (a.put o.dst undef) w
theorem Ej{P:Program}{ops:Array Oper}{Q:Exit->Act->al}:∀(l:List Nat)(a:Act)(w:World),Al P ops Q l a w->wpOps P ops Q l a w
 |[],a,w,h=>h
 |i::rest,a,w,h=>by
  unfold Al at h;unfold wpOps;cases aG:ops[i]?with
  |none=>rw[aG]at h;exact Ej rest a w h
  |some o=>
   rw[aG]at h;dsimp only at h⊢;by_cases hw:Region.wanted o (yielded ops a.tmps)=true
   ·rw[aN hw]at h;simp only[hw,qg];exact .inl (Oper.wp_mono (λa w h=>Ej rest a w h) h)
   ·rw[aL hw]at h;simp only[hw,so];exact Ej rest _ w h
theorem aiY{w:World}{pp F:Nat}{first cap:aj}{R:au}(apA:w.cell? (⟨pp,12,none⟩:Addr)=some (.bool false))(c8:∀ε:World,(callFunc F (first++cap)).run prog ε=.ok (.enter F (first++cap)) ε)
  (Vx:∀ε δ ζ,η w ε->μ ε w.heap.size Ct 1 (some ⟨δ,0,none⟩) 1 1 [.pointer (some ⟨pp,0,none⟩)]->μ ε w.heap.size Ea 1 (some ⟨ζ,0,none⟩) 1 1 [.int .i64 0]->δ≠ζ->
   κ prog F (first++cap) ε (λv υ=>(υ.cell? (⟨ζ,0,none⟩:Addr)).isSome=true/\υ.frozen? (⟨ζ,0,none⟩:Addr)=false/\R (.returned (.int .i64 0)) (υ.setCell (⟨ζ,0,none⟩:Addr) (.int .i64 0)))
    λdg υ=>∃e,dg=zI e/\(υ.cell? (⟨ζ,0,none⟩:Addr)).isSome=true/\υ.frozen? (⟨ζ,0,none⟩:Addr)=false/\υ.cell? (⟨δ,0,none⟩:Addr)=some (.pointer (some ⟨pp,0,none⟩))/\pp≠ζ/\(υ.cell? (⟨pp,12,none⟩:Addr)).isSome=true/\υ.frozen? (⟨pp,12,none⟩:Addr)=false/\
     R (.returned (.int .i64 e)) ((υ.setCell (⟨ζ,0,none⟩:Addr) (.int .i64 e)).setCell (⟨pp,12,none⟩:Addr) (.bool (e==10)))):
  Calls prog 30 #[.pointer (some ⟨pp,0,none⟩),.func (.func F) first cap] w R:=by
 refine calls_of_wp_defers func30 rfl ?_;have anw:(#[.pointer (some ⟨pp,0,none⟩),.func (.func F) first cap]++Array.replicate (f30.ntmps-(#[.pointer (some ⟨pp,0,none⟩),.func (.func F) first cap]:aj).size) undef:aj)=#[.pointer (some ⟨pp,0,none⟩),.func (.func F) first cap,undef,undef,undef,undef,undef,undef,undef,undef,undef,undef]:=rfl;rw[anw];apply wp_seq;apply wp_region;apply Ej;simp[Al,Oper.upon,go_sem,Exit.then];have θ:=η.alloc w (.cells #[.pointer (some ⟨pp,0,none⟩)] 24);have σ:μ (w.alloc (.cells #[.pointer (some ⟨pp,0,none⟩)] 24)) w.heap.size Ct 1 (some ⟨w.heap.size,0,none⟩) 1 1 [.pointer (some ⟨pp,0,none⟩)]:=μ.new _ _;have Dq:(w.alloc (.cells #[.pointer (some ⟨pp,0,none⟩)] 24)).heap.size=w.heap.size+1:=by simp
 generalize w.alloc (.cells #[.pointer (some ⟨pp,0,none⟩)] 24)=ε at θ σ Dq⊢;have ρ:=η.alloc ε (.cells #[.int .i64 0] 33);have af:μ (ε.alloc (.cells #[.int .i64 0] 33)) ε.heap.size Ea 1 (some ⟨ε.heap.size,0,none⟩) 1 1 [.int .i64 0]:=μ.new _ _;rw[Dq]at af;have σ:=σ.ex ρ;generalize ε.alloc (.cells #[.int .i64 0] 33)=υ at ρ σ af⊢;have X:=θ.trans ρ;have hp:=X.cell apA (λh=>h);have eL:=σ.at (j:=0) rfl;have eG:=af.at (j:=0) rfl;have b1:w.heap.size≠w.heap.size+1:=by omega
 have key:=Vx υ w.heap.size (w.heap.size+1) X σ (af.lower (by omega)) b1;generalize w.heap.size+1=ζ at key af eG b1⊢;generalize w.heap.size=δ at key σ af eL b1⊢;apply wp_seq;apply wp_seq;apply wp_region;apply Ej;simp[Al,Oper.upon,go_sem,Exit.then,eL,hp];refine wp_cond (t:=false) (by simp[Act.eval]) ?_;simp only[xx,so];refine wp_skip ?_;show Code.wp _ _ _ _ _;apply wp_seq;apply wp_region;apply Ej;have aqg:∀(fn:Fn)(first cap:aj)(w:World),(Instr.makeFunc fn first cap).run prog w=.ok (.func fn first cap) w:=λ_ _ _ _=>rfl;simp[Al,Oper.upon,go_sem,Exit.then,aqg];apply wp_seq;apply wp_region;apply Ej;simp[Al,Oper.upon,go_sem,Exit.then,c8];refine Calls.mono key λiK χ h=>?_;cases iK with
 |outgrown=>exact h.elim
 |returned v=>
  obtain⟨c1,c2,iU⟩:=h;obtain⟨y,ag⟩:=JQ.1 c1;have bP:(χ.setCell (⟨ζ,0,none⟩:Addr) (.int .i64 0)).cell? (⟨ζ,0,none⟩:Addr)=some (.int .i64 0):=World.cell?_setCell_same' _ _ _ c1;dsimp only;apply wp_seq;apply wp_region;apply Ej;simp[Al,Oper.upon,go_sem,Exit.then,ag,c2];generalize χ.setCell (⟨ζ,0,none⟩:Addr) (.int .i64 0)=ao at iU bP⊢;refine wp_ret ?_;refine leaves_cons (f:=47) (args:=#[.pointer (some ⟨ζ,0,none⟩),.pointer (some ⟨δ,0,none⟩)]) (by simp) (by simp[go_sem]) ?_;refine(amo δ ζ _).mono ?_;rintro e Od iu ⟨rfl,rfl,rfl⟩;refine⟨_,?_,iU⟩;simp[results,results30,go_sem,bP]
 |panicked dg=>
  obtain⟨e,rfl,c1,c2,bP,h0,jk,sS,iU⟩:=h;have oy:((χ.setCell (⟨ζ,0,none⟩:Addr) (.int .i64 e)).setCell (⟨pp,12,none⟩:Addr) (.bool (e==10))).cell? (⟨ζ,0,none⟩:Addr)=some (.int .i64 e):=by rw[World.cell?_setCell_other _ (⟨pp,12,none⟩:Addr) (⟨ζ,0,none⟩:Addr) _ (λh=>by cases h)];exact World.cell?_setCell_same' _ _ _ c1
  dsimp only;refine leaves_cons (f:=47) (args:=#[.pointer (some ⟨ζ,0,none⟩),.pointer (some ⟨δ,0,none⟩)]) (by simp) (by simp[go_sem]) ?_;refine(amp δ ζ pp e _ c1 c2 bP b1 h0 jk sS).mono ?_;rintro db Od iu ⟨rfl,hu,rfl⟩;dsimp only;rw[hu];refine⟨_,?_,iU⟩;simp[results,results30,go_sem,oy]
theorem rv{c:Prop}[Decidable c]{r s:aQ×gj}(h:r.2.e≠10)(k:s.2.e≠10):(if c then r else s).2.e≠10:=by
 by_cases π:c
 ·rw[aN π];exact h
 ·rw[aL π];exact k
theorem ank{m:aQ}{a:aQ.Ask}:(fi m a).2.e≠10:=by
 have f4:(fail m 4).2.e≠10:=(by decide:(4:Int)≠10);have f5:(fail m 5).2.e≠10:=(by decide:(5:Int)≠10);have f6:(fail m 6).2.e≠10:=(by decide:(6:Int)≠10);have f7:(fail m 7).2.e≠10:=(by decide:(7:Int)≠10);have f8:(fail m 8).2.e≠10:=(by decide:(8:Int)≠10);have f9:(fail m 9).2.e≠10:=(by decide:(9:Int)≠10);have f12:(fail m 12).2.e≠10:=(by decide:(12:Int)≠10);have f0:(0:Int)≠10:=by decide
 unfold fi Kw;refine rv (rv ?_ f5) (rv ?_ (rv ?_ (rv ?_ (rv ?_ (rv ?_ (rv f0 (rv f0 ?_)))))))
 ·cases mi m.R with
  |none=>exact f7
  |some i=>exact f0
 ·cases gB m.R a.v with
  |none=>exact f4
  |some i=>exact f0
 ·cases gB m.R a.v with
  |none=>exact f4
  |some i=>cases mi m.R with
   |none=>exact f7
   |some i=>exact f0
 ·cases gB m.R a.v with
  |none=>exact f4
  |some e=>
   refine rv f5 ?_;cases(e.2.2[a.b.toNat]?).join with
   |none=>exact f0
   |some x=>exact f0
 ·cases gB m.R a.v with
  |none=>exact f4
  |some e=>exact rv f8 (rv f5 (rv f6 (rv f9 (rv f12 f0))))
 ·cases gB m.R a.v with
  |none=>exact f4
  |some e=>exact rv f8 (rv f5 f0)
 ·cases gB m.R a.v with
  |none=>exact f4
  |some i=>exact f0
theorem anm{m:aQ}{a:aQ.Ask}{e:Int}(h:fi m a=fail m e):e≠10:=by
 have:=@ank m a
 rw[h]at this;exact this
section
variable{w:World}{pp pd:Nat}{m:aQ}{xs:List (b9.cZ×Int)}{aA:Int}{D:bl}{gW:Nat}
theorem nz.dS{m0:aQ}{OJ:List (b9.cZ×Int)}{N9:Int}{w':World}{bk:bl}(h:nz w D gW w' pp pd m xs aA bk)(aF:hY w pp pd m0 OJ N9 D)(aS:Typed w ck gW){B:Nat}{e:TypeId}{sz:Nat}{p:γ}{n c:Nat}{vs:aY}(o:μ w B e sz p n c vs)(ar:e∉ow)(φ:e≠ck):μ w' B e sz p n c vs:=
 o.aO h.aO λx J I=>by
  rcases I with I|I
  ·exact(aF.im I).1.off (o.typed J).1 ar
  ·exact(I▸(o.typed J).1:Typed w e gW).ne aS φ rfl
theorem nz.aiV{w0:World}{eC:bl}{m0:aQ}{OJ:List (b9.cZ×Int)}{N9:Int}{w':World}{bk:bl}(h:nz w D gW w' pp pd m xs aA bk)(p:er w0 eC w pp pd m0 OJ N9 D)(τ:w0.heap.size<=gW):er w0 eC w' pp pd m xs aA bk:=
 ⟨h.is,Kp.trans p.aO h.aO (λ_ _ h=>h) (λi I ah=>by
  rcases ah with ah|rfl
  ·rcases p.sub i ah with h1|h1
   ·exact h1
   ·omega
  ·omega),λi I=>by
  rcases h.sub i I with h1|h1
  ·exact p.sub i h1
  ·exact .inr (gE p.aO.size h1)⟩
def wJ(w:World)(D:bl)(v:Value)(aA:Int)(r:gj):Prop:=∃cr b8 dc cx cC cD,v=.agg #[.int .i64 aA,.int .i64 r.e,.int .i64 r.id,.slice cr b8 dc,.slice cx cC cD]/\μ w 0 dt 1 cr b8 dc (a7 r.bs)/\μ w 0 cz 1 cx cC cD (bA.cW r.pr)/\∀x,cx=some x->¬D x.block
theorem qL{a b c:Int}{p q:γ}{n k fG k':Nat}:∀y∈[Value.int .i64 a,.int .i64 b,.int .i64 c,.slice p n k,.slice q fG k'],y.oneCell'=true:=by intro y ag;simp only[fB,oi,py]at ag;rcases ag with rfl|rfl|rfl|rfl|rfl<;>rfl
def fY(t:Int)(r:gj)(cr:γ)(b8 dc:Nat)(cx:γ)(cC cD:Nat):aY:=[.int .i64 t,.int .i64 r.e,.int .i64 r.id,.slice cr b8 dc,.slice cx cC cD]
theorem agk{w0:World}{eC:bl}{x:b9.cZ×Int}{W:World}{fx:bl}(h:er w0 eC W pp pd m (x::xs) aA fx){δ ζ aa o0 fs:Nat}{z:aY}(p1:w0.heap.size<=ζ)(ur:w0.heap.size<=aa)(b1:ζ≠aa)(σ:μ W o0 Ct 1 (some ⟨δ,0,none⟩) 1 1 [.pointer (some ⟨pp,0,none⟩)])(af:μ W fs ck 5 (some ⟨ζ,0,none⟩) 1 1 z){r:gj}{t0 e:Int}(φ:Ev W fx aa t0 r)(Dp:r.e=e){R:au}
  (dZ:∀w' bk v,er w0 eC w' pp pd m (if r.e=12 then x::xs else xs) aA bk->wJ w' bk v x.2 r->R (.returned (.tuple #[v,.bool true])) w'):
  sn.aV δ ζ x.2 e aa W R:=by
 subst Dp;obtain⟨cr,b8,dc,cx,cC,cD,⟨cJ,nL,on⟩,l1⟩:=φ;unfold sn.aV;refine cJ.dv (j:=0) (by omega) rfl λcE n9 rB=>?_;have t4:=(cJ.typed rfl).1;have tq:=h.loc n9 (λah=>(h.is.im ah).1.off t4 (by decide)) ur t4 (by decide) (by decide);have σ:=σ.aO n9 λy ag I=>(σ.typed ag).1.ne (I▸t4) (by decide) rfl;have af:=af.aO n9 λy ag I=>by cases ag;exact b1 I
 have nL:=nL.aO n9 λy ag I=>(nL.typed ag).1.ne (I▸t4) (by decide) rfl;have on:=on.aO n9 λy ag I=>(on.typed ag).1.ne (I▸t4) (by decide) rfl
 have pX:∀(q4:World)(gO:bl),er w0 eC q4 pp pd m (if r.e=12 then x::xs else xs) aA gO->μ q4 0 ck 5 (some ⟨aa,0,none⟩) 1 1 (fY x.2 r cr b8 dc cx cC cD)->μ q4 fs ck 5 (some ⟨ζ,0,none⟩) 1 1 z->μ q4 0 dt 1 cr b8 dc (a7 r.bs)->μ q4 0 cz 1 cx cC cD (bA.cW r.pr)->(∀x,cx=some x->¬gO x.block)->
   ∃(bO:aj),bO.size=5/\aB q4 (⟨aa,0,none⟩:Addr) bO.toList/\(ν (decide (bO.size=5)) (a6 q4 (⟨ζ,0,none⟩:Addr) bO.toList/\∀ed,ed=q4.setCells (⟨ζ,0,none⟩:Addr).block (⟨ζ,0,none⟩:Addr).off bO.toList->(∃(bC:aj),bC.size=5/\aB ed (⟨ζ,0,none⟩:Addr) bC.toList/\(R (.returned (Value.tuple #[(Value.agg bC),(Value.bool true)])) ed)))):=by
  intro q4 gO iW cJ af nL on l1;refine⟨(fY x.2 r cr b8 dc cx cC cD).toArray,rfl,cJ.cells,aT rfl (af.put rfl qL λed yA vT=>⟨_,rfl,vT.cells,?_⟩)⟩;have t2:=(af.typed rfl).1;exact dZ ed gO _ (iW.loc yA (λah=>(iW.is.im ah).1.off t2 (by decide)) p1 t2 (by decide) (by decide)) ⟨cr,b8,dc,cx,cC,cD,rfl,nL.aO yA λy ag I=>(nL.typed ag).1.ne (I▸t2) (by decide) rfl,on.aO yA λy ag I=>(on.typed ag).1.ne (I▸t2) (by decide) rfl,l1⟩
 by_cases he:r.e=12
 ·rw[aN he]at pX;rw[cond_neg (by rw[he];rfl)];exact pX cE _ tq rB af nL on l1
 ·rw[aL he]at pX;rw[cond_pos (by simpa using he)];refine⟨_,σ.at (j:=0) rfl,?_⟩
  try dsimp only[bo]
  obtain⟨q,dm,dH,dq,dd,cn⟩:=tq.at_;refine⟨_,dd.at (j:=0) rfl,?_⟩;refine κ.use (b9.ake dd.gate) ?_;rintro _ da ⟨rfl,aR⟩
  try dsimp only[bL]
  obtain⟨sE,IP,oa,auT⟩:=dd.agM aR;have key:er cE fx da pp pd m xs aA (km pp q sE dH dq):=fI.iW cn IP oa auT;have c8:∀i,km pp q dm dH dq i->h6 cE ow i:=λi I=>(dd.im I).1;have BO:=aR;obtain⟨_,_,arL,_⟩:=BO;have apS:=Ls dd.gate;refine pX da _ (tq.trans key) (hE oa c8 rB (by decide)) (hE oa c8 af (by decide)) (hE oa c8 nL (by decide)) (hE arL apS on (by decide)) λy ag ah=>?_;rcases key.sub _ ah with h1|h1
  ·exact l1 y ag h1
  ·have:=(on.typed ag).2.2
   omega
def dW(r:b9.cZ):aQ.Ask:=⟨r.k,r.v,r.b,r.s,r.bs⟩
theorem au3{x:b9.cZ×Int}(h:hY w pp pd m (x::xs) aA D)(ah:S9 m (dW x.1)){R:au}
  (dZ:∀w' bk v,er w D w' pp pd (fi m (dW x.1)).1 (if(fi m (dW x.1)).2.e=12 then x::xs else xs) aA bk->wJ w' bk v x.2 (fi m (dW x.1)).2->R (.returned (.tuple #[v,.bool true])) w'):sn.C (some ⟨pp,0,none⟩) w R:=by
 obtain⟨q,dm,dH,dq,dd,cn⟩:=id h;apply sn.ok;unfold sn.main;rintro δ ε eL rfl;have σ:=μ.new (w:=w) [.pointer (some ⟨pp,0,none⟩)] Ct;rw[<-eL]at σ;have θ:=η.alloc w (.cells #[.pointer (some ⟨pp,0,none⟩)] Ct);generalize w.alloc (.cells #[.pointer (some ⟨pp,0,none⟩)] Ct)=ε at σ θ⊢;rintro ζ υ eG rfl;have af:=μ.new (w:=ε) (fJ 0 bR bR) ck;rw[<-eG]at af;have ρ:=η.alloc ε (.cells (fJ 0 bR bR).toArray ck);have bM:ε.alloc (.cells #[.int .i64 0,.int .i64 0,.int .i64 0,.slice none 0 0,.slice none 0 0] ck)=ε.alloc (.cells (fJ 0 bR bR).toArray ck):=rfl;rw[bM];generalize ε.alloc (.cells (fJ 0 bR bR).toArray ck)=υ at af ρ⊢;have σ:=σ.ex ρ;have ft:=θ.trans ρ;refine⟨_,σ.at (j:=0) rfl,?_⟩
 try dsimp only[bo]
 refine⟨_,(dd.ex ft).at (j:=0) rfl,?_⟩;refine κ.use (b9.Zy (dd.ex ft).gate) ?_;rintro _ χ ⟨b5,aW,rfl,ad,of⟩;unfold b9.cZ.cells
 try dsimp only[ca,cT,cU,n1,bo,bL,hA,h7]
 have ha:=ft.trans ad;rintro ax an jm rfl;have bh:=μ.new (w:=χ) b9.lQ e7;rw[<-jm]at bh;have ay:=η.alloc χ (.cells b9.lQ.toArray e7);have iJ:χ.alloc (.cells #[.int .i64 0,.int .i64 0,.int .i64 0,.int .i64 0,.slice none 0 0] e7)=χ.alloc (.cells b9.lQ.toArray e7):=rfl;rw[iJ];generalize χ.alloc (.cells b9.lQ.toArray e7)=an at bh ay⊢;have σ:=(σ.ex ad).ex ay;have af:=(af.ex ad).ex ay;have of:=of.ex ay;refine aT rfl (bh.put (cs:=r6 (dW x.1) b5 x.1.n aW) rfl b9.C5 λaZ eD bY=>?_);have t3:=(bh.typed rfl).1;have k4:η w aZ:=(ha.trans ay).then eD λi I=>by have:=ha.size;omega
 have σ:=σ.aO eD λy ag I=>(σ.typed ag).1.ne (I▸t3) (by decide) rfl;have af:=af.aO eD λy ag I=>(af.typed ag).1.ne (I▸t3) (by decide) rfl;have of:=of.aO eD λy ag I=>(of.typed ag).1.ne (I▸t3) (by decide) rfl;rw[cond_neg (by rfl)];have aqa:ζ<aZ.heap.size:=(af.typed rfl).2.2;rintro aa bV lX rfl;have cJ:=μ.new (w:=aZ) (fJ 0 bR bR) ck;rw[<-lX]at cJ;have cj:=η.alloc aZ (.cells (fJ 0 bR bR).toArray ck);have Bk:aZ.alloc (.cells #[.int .i64 0,.int .i64 0,.int .i64 0,.slice none 0 0,.slice none 0 0] ck)=aZ.alloc (.cells (fJ 0 bR bR).toArray ck):=rfl;rw[Bk];generalize aZ.alloc (.cells (fJ 0 bR bR).toArray ck)=bV at cJ cj⊢;have σ:=σ.ex cj;have af:=af.ex cj;have bY:=bY.ex cj;have of:=of.ex cj;have FR:ζ≠aa:=by omega
 refine cJ.put (cs:=fJ 0 bR bR) rfl qL λbW iq iV=>?_;have t4:=(cJ.typed rfl).1;have tS:η w bW:=(k4.trans cj).then iq λi I=>by have:=k4.size;omega
 have σ:=σ.aO iq λy ag I=>(σ.typed ag).1.ne (I▸t4) (by decide) rfl;have af:=af.aO iq λy ag I=>by cases ag;exact FR I
 have bY:=bY.aO iq λy ag I=>(bY.typed ag).1.ne (I▸t4) (by decide) rfl;have of:=of.aO iq λy ag I=>(of.typed ag).1.ne (I▸t4) (by decide) rfl;have p1:w.heap.size<=ζ:=by have:=θ.size;omega
 have ur:w.heap.size<=aa:=by have:=k4.size;omega
 refine⟨_,σ.at (j:=0) rfl,?_⟩;clear bh cJ;refine aiY ((dd.ex tS).at (j:=12) rfl) (λε=>by simp[go_sem]) (λCy c1 c2 CA ae1 GF s0=>?_);have alP:=tS.trans CA;have σ:=σ.ex CA;have af:=af.ex CA;have bY:=bY.ex CA;have iV:=iV.ex CA;have of:=of.ex CA;have t9:=(iV.typed rfl).1;have XV:=(er.start h).ex alP;have cc:=XV.is;show GX.C δ ax aa Cy _;apply GX.ok;unfold GX.main;refine⟨_,σ.at (j:=0) rfl,(r6 (dW x.1) b5 x.1.n aW).toArray,rfl,bY.cells,?_⟩;refine ann ah cc of iV (λAU bk hp φ he=>?_) (λe AU bk cs hp φ he bm=>?_)
 ·try dsimp only[bL,ca]
  have Ak:=hp.dS cc t9 GF (by decide) (by decide);have Jy:=hp.dS cc t9 σ (by decide) (by decide);have Jz:μ AU _ ck 5 (some ⟨ζ,0,none⟩) 1 1 (fJ 0 bR bR):=af.aO hp.aO λy ag I=>by
   cases ag;rcases I with I|I
   ·exact(cc.im I).1.off (af.typed rfl).1 (by decide)
   ·exact FR I
  have B9:=hp.aiV XV ur;have Vw:w.heap.size<=c2:=gE tS.size (GF.ge rfl).1;obtain⟨aw,a2,a3⟩:=Ak.dv (N:=λw'=>Kp AU w' (λi=>i=c2)/\μ w' _ Ea 1 (some ⟨c2,0,none⟩) 1 1 [.int .i64 0]) (j:=0) (v:=.int .i64 0) (by omega) rfl λ_ k o=>⟨k,o⟩;obtain⟨sh,Xn⟩:=a3 _ rfl;refine⟨aw,a2,?_⟩;clear aw a2 a3;generalize AU.setCell (⟨c2,0,none⟩:Addr) (.int .i64 0)=OD at sh Xn⊢;have oP:=(Ak.typed rfl).1;have Rj:=B9.loc sh (λah=>(B9.is.im ah).1.off oP (by decide)) Vw oP (by decide) (by decide)
  try dsimp only
  skip
  rw[cond_neg (by rfl)];obtain⟨cr,b8,dc,cx,cC,cD,⟨cM,fC,iY⟩,rN⟩:=φ;refine agk Rj p1 ur FR (Jy.aO sh λy ag I=>(Jy.typed ag).1.ne (I▸oP) (by decide) rfl) (Jz.aO sh λy ag I=>(Jz.typed ag).1.ne (I▸oP) (by decide) rfl) ⟨cr,b8,dc,cx,cC,cD,⟨cM.aO sh λy ag I=>(cM.typed ag).1.ne (I▸oP) (by decide) rfl,fC.aO sh λy ag I=>(fC.typed ag).1.ne (I▸oP) (by decide) rfl,iY.aO sh λy ag I=>(iY.typed ag).1.ne (I▸oP) (by decide) rfl⟩,rN⟩ he λw' bk v az φ=>?_;exact dZ w' bk v az φ
 ·have ae2:=hp.dS cc t9 ae1 (by decide) (by decide);have Ak:=hp.dS cc t9 GF (by decide) (by decide);have Jy:=hp.dS cc t9 σ (by decide) (by decide);have Jz:μ AU _ ck 5 (some ⟨ζ,0,none⟩) 1 1 (fJ 0 bR bR):=af.aO hp.aO λy ag I=>by
   cases ag;rcases I with I|I
   ·exact(cc.im I).1.off (af.typed rfl).1 (by decide)
   ·exact FR I
  have B9:=hp.aiV XV ur;have Vw:w.heap.size<=c2:=gE tS.size (GF.ge rfl).1;have oP:=(Ak.typed rfl).1;obtain⟨qf,sE,q1,ve,Vf,azc⟩:=B9.at_;have aqC:pp≠c2:=λh=>(Vf.cell.typed rfl).1.ne (h▸oP) (by decide) rfl;have MZ:=Vf.put (N:=λ_=>True) 12 (by omega) (v:=.bool false) rfl (λ_ _ _=>trivial);have XH:=Ak.dv (N:=λ_=>True) (j:=0) (v:=.int .i64 0) (by omega) rfl (λ_ _ _=>trivial);refine⟨e,rfl,XH.1,XH.2.1,ae2.at (j:=0) rfl,aqC,MZ.1,MZ.2.1,?_⟩;have aqp:=anm bm;rw[show(e==10)=false by simpa using aqp];obtain⟨aw,a2,a3⟩:=Ak.dv (N:=λw'=>Kp AU w' (λi=>i=c2)/\μ w' _ Ea 1 (some ⟨c2,0,none⟩) 1 1 [.int .i64 e]) (j:=0) (v:=.int .i64 e) (by omega) rfl λ_ k o=>⟨k,o⟩;obtain⟨sh,Xn⟩:=a3 _ rfl;clear aw a2 a3;generalize AU.setCell (⟨c2,0,none⟩:Addr) (.int .i64 e)=OD at sh Xn⊢;have Rj:=B9.loc sh (λah=>(B9.is.im ah).1.off oP (by decide)) Vw oP (by decide) (by decide);have aeM:=Jy.aO sh λy ag I=>(Jy.typed ag).1.ne (I▸oP) (by decide) rfl;have aeS:=Jz.aO sh λy ag I=>(Jz.typed ag).1.ne (I▸oP) (by decide) rfl;have aeV:=φ.aO sh λy ag I=>(φ.typed ag).1.ne (I▸oP) (by decide) rfl;clear ae2 Ak Jy Jz XH MZ φ Vf;obtain⟨qf,sE,q1,ve,Vg,aoG⟩:=Rj.at_;obtain⟨p5,aeZ⟩:=(Vg.put (N:=λw'=>Kp OD w' (λi=>i=pp)/\μ w' 0 sy 13 (some ⟨pp,0,none⟩) 1 1 ((mZ pd qf m).set 12 (.bool false))) 12 (by omega) (v:=.bool false) rfl λ_ k o=>⟨k,o⟩).2.2 _ rfl;generalize OD.setCell (⟨pp,12,none⟩:Addr) (.bool false)=ayl at p5 aeZ⊢;have YK:=(Vg.cell.typed rfl).1;obtain⟨aoK,Af⟩:=Vg.agL p5 aeZ rfl rfl rfl rfl rfl;have afP:er w D ayl pp pd m (x::xs) aA _:=Rj.trans (fI.iW aoG aoK Af λi I=>.inl I);have aeN:=aeM.aO p5 λy ag I=>(aeM.typed ag).1.ne (I▸YK) (by decide) rfl;have asW:=aeS.aO p5 λy ag I=>(aeS.typed ag).1.ne (I▸YK) (by decide) rfl;have aeW:=aeV.aO p5 λy ag I=>(aeV.typed ag).1.ne (I▸YK) (by decide) rfl
  try dsimp only
  try dsimp only[bL]
  rw[cond_pos (by simpa using he)];refine aeW.put (cs:=[.int .i64 0,.int .i64 e,.int .i64 0,.slice none 0 0,.slice none 0 0]) rfl qL λaAx WM as2=>?_;have YC:=(aeW.typed rfl).1;have auj:=afP.loc WM (λah=>(afP.is.im ah).1.off YC (by decide)) ur YC (by decide) (by decide);refine agk (r:=⟨e,0,[],[]⟩) auj p1 ur FR (aeN.aO WM λy ag I=>(aeN.typed ag).1.ne (I▸YC) (by decide) rfl) (asW.aO WM λy ag I=>by cases ag;exact FR I) ⟨none,0,0,none,0,0,⟨as2.lower (eR _),μ.nil _ _ _ _,μ.nil _ _ _ _⟩,λ_ h=>by cases h⟩ rfl λw' bk v az φ=>?_;rw[bm]at dZ;exact dZ w' bk v az φ
end
section
variable{w:World}{pp pd:Nat}{m:aQ}{xs:List (b9.cZ×Int)}{aA:Int}{D:bl}
theorem aiX{F:Nat}{first cap:aj}{m':aQ}(h:hY w pp pd m xs aA D)(c8:∀ε:World,(callFunc F (first++cap)).run prog ε=.ok (.enter F (first++cap)) ε)
  (π:∀Cy,hY Cy pp pd m xs aA D->Calls prog F (first++cap) Cy (ω λv w'=>v=.tuple #[]/\∃bk,er Cy D w' pp pd m' xs aA bk)){N:Value->al}{X:List PanicEntry->al}
  (ek:∀w' bk,er w D w' pp pd m' xs aA bk->N (.int .i64 0) w'):κ prog 30 #[.pointer (some ⟨pp,0,none⟩),.func (.func F) first cap] w N X:=by
 obtain⟨q,dm,dH,dq,dd,cn⟩:=id h;refine aiY (dd.at (j:=12) rfl) c8 (λCy c1 c2 CA ae1 GF s0=>?_);have cc:=h.ex CA;refine κ.use (π Cy cc) ?_;rintro _ AU ⟨rfl,bk,hp⟩;have Ak:=hp.dS cc GF (by decide);have B9:=((er.start h).ex CA).trans hp;obtain⟨aw,a2,a3⟩:=Ak.dv (N:=λw'=>Kp AU w' (λi=>i=c2)) (j:=0) (v:=.int .i64 0) (by omega) rfl λ_ k o=>k;have sh:=a3 _ rfl;refine⟨aw,a2,?_⟩;clear aw a2 a3;generalize AU.setCell (⟨c2,0,none⟩:Addr) (.int .i64 0)=OD at sh⊢;have oP:=(Ak.typed rfl).1;exact ek OD _ (B9.loc sh (λah=>(B9.is.im ah).1.off oP (by decide)) (GF.ge rfl).1 oP (by decide) (by decide))
theorem axM(h:hY w pp pd m xs aA D){A:c6}{n:Nat}(hm:aQ.Ok m A n)(ar:n<=900000){N:Value->al}{X:List PanicEntry->al}
  (ek:∀w' bk,er w D w' pp pd (ra m) xs aA bk->N (.int .i64 0) w'):κ prog 30 #[.pointer (some ⟨pp,0,none⟩),.func (.func 31) #[.pointer (some ⟨pp,0,none⟩)] #[]] w N X:=by
 have h1:=hm.gC.seq;have ι:=hm.gC.clock;have aJ:=hm.gC.loose;refine aiX h (λε=>by simp[go_sem]) (λCy cc=>?_) ek;exact amA cc hm.inv (by omega) (by omega) (by omega)
theorem axL(h:hY w pp pd m xs aA D){A:c6}{n:Nat}(hm:aQ.Ok m A n)(ar:n<=900000){N:Value->al}{X:List PanicEntry->al}
  (ek:∀w' bk,er w D w' pp pd (r9 m) xs aA bk->N (.int .i64 0) w'):κ prog 30 #[.pointer (some ⟨pp,0,none⟩),.func (.func 32) #[.pointer (some ⟨pp,0,none⟩)] #[]] w N X:=by
 have h1:=hm.gC.seq;have ι:=hm.gC.clock;have aJ:=hm.gC.loose;refine aiX h (λε=>by simp[go_sem]) (λCy cc=>?_) ek;exact Pj cc hm.inv.xi (by omega) (by omega)
theorem au2(h:hY w pp pd m [] aA D){R:au}(dZ:∀w' bk,er w D w' pp pd m [] aA bk->R (.returned (.tuple #[.agg (fJ 0 bR bR).toArray,.bool false])) w'):sn.C (some ⟨pp,0,none⟩) w R:=by
 obtain⟨q,dm,dH,dq,dd,cn⟩:=id h;apply sn.ok;unfold sn.main;rintro δ ε eL rfl;have σ:=μ.new (w:=w) [.pointer (some ⟨pp,0,none⟩)] Ct;rw[<-eL]at σ;have θ:=η.alloc w (.cells #[.pointer (some ⟨pp,0,none⟩)] Ct);generalize w.alloc (.cells #[.pointer (some ⟨pp,0,none⟩)] Ct)=ε at σ θ⊢;rintro ζ υ eG rfl;have af:=μ.new (w:=ε) (fJ 0 bR bR) ck;rw[<-eG]at af;have ρ:=η.alloc ε (.cells (fJ 0 bR bR).toArray ck);have bM:ε.alloc (.cells #[.int .i64 0,.int .i64 0,.int .i64 0,.slice none 0 0,.slice none 0 0] ck)=ε.alloc (.cells (fJ 0 bR bR).toArray ck):=rfl;rw[bM];generalize ε.alloc (.cells (fJ 0 bR bR).toArray ck)=υ at af ρ⊢;have σ:=σ.ex ρ;have ft:=θ.trans ρ;refine⟨_,σ.at (j:=0) rfl,?_⟩
 try dsimp only[bo]
 refine⟨_,(dd.ex ft).at (j:=0) rfl,?_⟩;refine κ.use (b9.akk (dd.ex ft).gate) ?_;rintro _ χ ⟨rfl,ad⟩;unfold b9.lQ
 try dsimp only[ca,cT,cU,n1,bo,bL,hA,h7]
 have ha:=ft.trans ad;rintro ax an jm rfl;have bh:=μ.new (w:=χ) b9.lQ e7;rw[<-jm]at bh;have ay:=η.alloc χ (.cells b9.lQ.toArray e7);have iJ:χ.alloc (.cells #[.int .i64 0,.int .i64 0,.int .i64 0,.int .i64 0,.slice none 0 0] e7)=χ.alloc (.cells b9.lQ.toArray e7):=rfl;rw[iJ];generalize χ.alloc (.cells b9.lQ.toArray e7)=an at bh ay⊢;have af:=(af.ex ad).ex ay;refine aT rfl (bh.put (cs:=b9.lQ) rfl b9.C5 λaZ eD bY=>?_);have t3:=(bh.typed rfl).1;have k4:η w aZ:=(ha.trans ay).then eD λi I=>by have:=ha.size;omega
 have af:=af.aO eD λy ag I=>(af.typed ag).1.ne (I▸t3) (by decide) rfl;rw[cond_pos (by rfl)];refine af.put (cs:=fJ 0 bR bR) rfl qL λa8 hW eN=>?_;have KS:η w a8:=k4.then hW λi I=>by have:=θ.size;omega
 exact⟨_,rfl,eN.cells,dZ a8 _ ((er.start h).ex KS)⟩
def OP(r:b9.cZ):Prop:=b9.fz r.k/\∀x∈r.bs,0<=x/\x<256
theorem OP.anj{r:b9.cZ}(h:OP r){A:c6}{n:Nat}(hm:aQ.Ok m A n)(ar:n<=900000):S9 m (dW r):=by have h1:=hm.gC.seq;have ι:=hm.gC.dl;have aJ:=hm.gC.loose;exact⟨hm.inv,by omega,by omega,by omega,h.2,h.1⟩
abbrev OM(b:Bool):Ending:=.returned (.tuple #[.agg (fJ 0 bR bR).toArray,.bool b])
def ak4(w:World)(D:bl)(pp pd:Nat)(m:aQ)(aA:Int)(R:au):List (b9.cZ×Int)->Prop
 |[]=>∀w' bk,er w D w' pp pd m [] aA bk->R (OM false) w'
 |x::xs=>OP x.1/\∀w' bk v,er w D w' pp pd (fi m (dW x.1)).1 (if(fi m (dW x.1)).2.e=12 then x::xs else xs) aA bk->wJ w' bk v x.2 (fi m (dW x.1)).2->R (.returned (.tuple #[v,.bool true])) w'
theorem Kb(h:hY w pp pd m xs aA D){A:c6}{n:Nat}(hm:aQ.Ok m A n)(ar:n<=800000){pick:Int}(hp:1<=pick/\pick<=4){R:au}
  (h1:pick=1->ak4 w D pp pd (aQ.tick m) aA R xs)
  (ι:pick=2->∀w' bk,er w D w' pp pd (ra (aQ.tick m)) xs aA bk->R (OM false) w')
  (aJ:pick=3->∀w' bk,er w D w' pp pd (r9 (aQ.tick m)) xs aA bk->R (OM false) w')
  (cK:pick=4->∀w' bk,er w D w' pp pd (aQ.tick m) xs aA bk->R (OM false) w'):B5.C (some ⟨pp,0,none⟩) pick w R:=by
 have V3:=hm.tick;have π:=hm.gC.clock;obtain⟨q,dm,dH,dq,dd,cn⟩:=id h;apply B5.ok;unfold B5.main;rintro δ ε eL rfl;have σ:=μ.new (w:=w) (fJ 0 bR bR) ck;rw[<-eL]at σ;have Vv:w.heap.size<=δ:=by omega
 have θ:=η.alloc w (.cells (fJ 0 bR bR).toArray ck);have aP:w.alloc (.cells #[.int .i64 0,.int .i64 0,.int .i64 0,.slice none 0 0,.slice none 0 0] ck)=w.alloc (.cells (fJ 0 bR bR).toArray ck):=rfl;rw[aP];generalize w.alloc (.cells (fJ 0 bR bR).toArray ck)=ε at σ θ⊢;rw[cond_neg (by rfl)]
 try dsimp only[bo]
 simp only[dG];have w2:=dd.ex θ;refine⟨_,w2.at (j:=10) rfl,?_⟩;rw[bS (x:=m.clock+1) (by omega) (by omega)];refine w2.put 10 (by omega) (v:=.int .i64 (m.clock+1)) rfl λχ b4 bh=>?_;rw[atO]at bh;obtain⟨w3,Af⟩:=w2.agL (m':=aQ.tick m) b4 bh rfl rfl rfl rfl rfl;have tr:er w D χ pp pd (aQ.tick m) xs aA _:=((er.start h).ex θ).trans (fI.iW cn w3 Af λi I=>.inl I);have σ:=hE Af (λi I=>(w2.im I).1) σ (by decide);have t1:=(σ.typed rfl).1
 have fin:∀(b:Bool)(W:World)(bk:bl)(m':aQ),er w D W pp pd m' xs aA bk->μ W δ ck 5 (some ⟨δ,0,none⟩) 1 1 (fJ 0 bR bR)->(∀w' bk,er w D w' pp pd m' xs aA bk->R (OM b) w')->
   a6 W (⟨δ,0,none⟩:Addr) [(Value.int .i64 0),(Value.int .i64 0),(Value.int .i64 0),.slice none 0 0,.slice none 0 0]/\∀cm,cm=W.setCells (⟨δ,0,none⟩:Addr).block (⟨δ,0,none⟩:Addr).off [(Value.int .i64 0),(Value.int .i64 0),(Value.int .i64 0),.slice none 0 0,.slice none 0 0]->
   (∃(b0:aj),b0.size=5/\aB cm (⟨δ,0,none⟩:Addr) b0.toList/\(R (.returned (Value.tuple #[(Value.agg b0),(Value.bool b)])) cm)):=by
  intro b W bk m' iW o iU;refine o.put (cs:=fJ 0 bR bR) rfl qL λa8 hW eN=>?_;have t:=(o.typed rfl).1;exact⟨_,rfl,eN.cells,iU a8 _ (iW.loc hW (λah=>(iW.is.im ah).1.off t (by decide)) Vv t (by decide) (by decide))⟩
 refine bt (λhk=>?_) (λw9=>bt (λhk=>?_) (λoD=>bt (λhk=>?_) (λVY=>bt (λhk=>?_) (λvI=>?_))))
 ·have hk:pick=1:=by simpa using hk
  have h1:=h1 hk;cases xs with
  |nil=>
   refine au2 tr.is λao bk az=>?_
   try dsimp only
   try dsimp only[ca,cT,cU,bo,dX,hA,h7]
   have cJ:=az.dS tr.is σ (by decide);have t4:=(cJ.typed rfl).1;have DM:=tr.trans az;refine aT rfl (cJ.put (cs:=fJ 0 bR bR) rfl qL λaZ eD bY=>⟨_,rfl,bY.cells,?_⟩);exact h1 aZ _ (DM.loc eD (λah=>(DM.is.im ah).1.off t4 (by decide)) Vv t4 (by decide) (by decide))
  |cons x xs=>
   obtain⟨aR,iU⟩:=h1;refine au3 tr.is (aR.anj V3 (by omega)) λao bk v az φ=>?_;obtain⟨cr,b8,dc,cx,cC,cD,rfl,fC,iY,rN⟩:=φ
   try dsimp only
   try dsimp only[ca,cT,cU,bo,dX,hA,h7]
   have cJ:=az.dS tr.is σ (by decide);have t4:=(cJ.typed rfl).1;have DM:=tr.trans az;refine aT rfl (cJ.put (cs:=fY x.2 (fi (aQ.tick m) (dW x.1)).2 cr b8 dc cx cC cD) rfl qL λaZ eD bY=>⟨_,rfl,bY.cells,?_⟩);refine iU aZ _ _ (DM.loc eD (λah=>(DM.is.im ah).1.off t4 (by decide)) Vv t4 (by decide) (by decide)) ⟨cr,b8,dc,cx,cC,cD,rfl,fC.aO eD λy ag I=>(fC.typed ag).1.ne (I▸t4) (by decide) rfl,iY.aO eD λy ag I=>(iY.typed ag).1.ne (I▸t4) (by decide) rfl,rN⟩
 ·have hk:pick=2:=by simpa using hk
  refine axM tr.is V3 (by omega) λw' bk az=>?_
  try dsimp only[bL]
  exact fin false w' _ _ (tr.trans az) (az.dS tr.is σ (by decide)) (ι hk)
 ·have hk:pick=3:=by simpa using hk
  refine axL tr.is V3 (by omega) λw' bk az=>?_
  try dsimp only[bL]
  exact fin false w' _ _ (tr.trans az) (az.dS tr.is σ (by decide)) (aJ hk)
 ·have hk:pick=4:=by simpa using hk
  exact fin false χ _ _ tr σ (cK hk)
 ·exfalso;simp only[beq_eq_false_iff_ne]at w9 oD VY vI;omega
theorem avJ(h:hY w pp pd m xs aA D)(r:b9.cZ){B:Nat}(φ:μ w B dt 1 r.p r.n r.c (b9.bytesOf r))(ab:b9.Small r)(aS:0<=aA/\aA<1000000):
  GS.C (some ⟨pp,0,none⟩) r.k r.v r.b r.s r.p r.n r.c w (ω λv w'=>
   (¬b9.fz r.k/\v=.tuple #[.int .i64 0,.int .i64 1]/\er w D w' pp pd m xs aA D)\/(b9.fz r.k/\16<=xs.length/\v=.tuple #[.int .i64 0,.int .i64 12]/\er w D w' pp pd m xs aA D)\/
   (b9.fz r.k/\xs.length<16/\v=.tuple #[.int .i64 (aA+1),.int .i64 0]/\∃b5 aW bk,er w D w' pp pd m (xs++[({r with p:=b5,c:=aW},aA+1)]) (aA+1) bk)):=by
 obtain⟨q,dm,dH,dq,dd,cn⟩:=id h;apply GS.ok;unfold GS.main;rintro δ ε eL rfl;have σ:=μ.new (w:=w) r.cells e7;rw[<-eL]at σ;have θ:=η.alloc w (.cells r.cells.toArray e7);have aP:w.alloc (.cells #[.int .i64 r.k,.int .i64 r.v,.int .i64 r.b,.int .i64 r.s,.slice r.p r.n r.c] e7)=w.alloc (.cells r.cells.toArray e7):=rfl;rw[aP];generalize w.alloc (.cells r.cells.toArray e7)=ε at σ θ⊢;rw[cond_neg (by rfl)]
 try dsimp only[bo]
 have eb:=θ.trans (η.drew ε);have σ:=σ.ex (η.drew ε);generalize ε.drew=υ at eb σ⊢;have ι:=dd.ex eb;have vZ:=(er.start h).ex eb;refine⟨_,ι.at (j:=0) rfl,r.cells.toArray,rfl,σ.cells,?_⟩;have adG:=φ.ex eb;refine κ.use (b9.alj ι.gate (eR _) r ⟨adG.cells,ab⟩ (λw' k=>(hE k (Ls ι.gate) adG (by decide)).cells) aS) ?_;rintro _ χ (⟨g,rfl,ad⟩|⟨g,zL,rfl,ad⟩|⟨g,zL,rfl,b5,aW,aR⟩)
 ·try dsimp only[ca,cT,cU,bo,bL]
  exact ω.mk (.inl ⟨g,rfl,vZ.ex ad⟩)
 ·try dsimp only[ca,cT,cU,bo,bL]
  exact ω.mk (.inr (.inl ⟨g,zL,rfl,vZ.ex ad⟩))
 ·try dsimp only[ca,cT,cU,bo,bL]
  obtain⟨sE,aJ,b4,jO⟩:=ι.agM aR;exact ω.mk (.inr (.inr ⟨g,zL,rfl,b5,aW,_,vZ.trans (fI.iW cn aJ b4 jO)⟩))
end
section
variable{w:World}{pp pd:Nat}{m:aQ}{aA:Int}{D:bl}
def kV(m:aQ)(a:aQ.Ask):aQ×gj:=if 1<=a.k/\a.k<=9 then vz m a else(m,⟨1,0,[],[]⟩)
def y3(aA:Int)(a:aQ.Ask):Int:=if 1<=a.k/\a.k<=9 then aA+1 else aA
def cQ(A:c6)(a:aQ.Ask):c6×gj:=if 1<=a.k/\a.k<=9 then jf A a else(A,⟨1,0,[],[]⟩)
theorem akc{w0:World}{eC fx:bl}{x:b9.cZ×Int}{A:c6}{n:Nat}(hm:aQ.Ok m A n)(ar:n<=700000)(aR:OP x.1)(h:er w0 eC w pp pd m [x] aA fx){ζ fs:Nat}{z:aY}(af:μ w fs ck 5 (some ⟨ζ,0,none⟩) 1 1 z)(p1:w0.heap.size<=ζ){R:au}
  (dZ:∀w' bk v,er w0 eC w' pp pd (vz m (dW x.1)).1 [] aA bk->wJ w' bk v x.2 (vz m (dW x.1)).2->R (.returned v) w'):pw.bb (some ⟨pp,0,none⟩) ζ w R:=by
 classical
 have zV:=hm.full (by omega) (a:=dW x.1) aR.2;unfold pw.bb
 let P:aQ->al:=λm W=>(∃fx,er w0 eC W pp pd m [x] aA fx)/\∃B z,μ W B ck 5 (some ⟨ζ,0,none⟩) 1 1 z
 let ov:al:=λW=>(fi (aQ.tick m) (dW x.1)).2.e=12/\P (ra (aQ.tick (aQ.tick m))) W
 refine⟨λt0 t4 W=>some ⟨pp,0,none⟩=t0/\ζ=t4/\(P m W\/ov W),λt0 t4 W=>if ov W then 0 else 1,⟨rfl,rfl,.inl ⟨⟨fx,h⟩,_,_,af⟩⟩,?_⟩;rintro _ _ W ⟨rfl,rfl,fX⟩
 have main:∀(m1:aQ)(En:c6)(aD:Nat),aQ.Ok m1 En aD->aD<=790000->P m1 W->
   ((fi (aQ.tick m1) (dW x.1)).2.e≠12->fi (aQ.tick m1) (dW x.1)=vz m (dW x.1))->
   ((fi (aQ.tick m1) (dW x.1)).2.e=12->m1=m/\¬ov W)->
   pw.δ (some ⟨pp,0,none⟩) ζ W R λavN y8 w'=>(some ⟨pp,0,none⟩=avN/\ζ=y8/\(P m w'\/ov w'))/\(if ov w' then 0 else 1)<(if ov W then 0 else 1):=by
  rintro m1 En aD zZ se ⟨⟨gO,hp⟩,B,z,af⟩ apU aoW;unfold pw.δ;refine Kb hp.is zZ (by omega) (pick:=1) (by omega) (λ_=>⟨aR,λao bk v az φ=>?_⟩) (λh=>by omega) (λh=>by omega) (λh=>by omega);obtain⟨cr,b8,dc,cx,cC,cD,rfl,fC,iY,rN⟩:=φ
  try dsimp only
  try dsimp only[bo,ca,cT,cU,dX,hA,h7]
  have af:=az.dS hp.is af (by decide);have DM:=hp.trans az;rintro aa cm lX rfl;have cJ:=μ.new (w:=ao) (fJ 0 bR bR) ck;rw[<-lX]at cJ;have df:=η.alloc ao (.cells (fJ 0 bR bR).toArray ck);have Fu:ao.alloc (.cells #[.int .i64 0,.int .i64 0,.int .i64 0,.slice none 0 0,.slice none 0 0] ck)=ao.alloc (.cells (fJ 0 bR bR).toArray ck):=rfl;rw[Fu];have aqa:ζ<ao.heap.size:=(af.typed rfl).2.2;have FR:ζ≠aa:=by omega
  have ur:w0.heap.size<=aa:=by have:=DM.aO.size;omega
  generalize ao.alloc (.cells (fJ 0 bR bR).toArray ck)=cm at cJ df⊢;refine aT rfl (cJ.put (cs:=fY x.2 (fi (aQ.tick m1) (dW x.1)).2 cr b8 dc cx cC cD) rfl qL λcE n9 rB=>?_);have t4:=(cJ.typed rfl).1;have O4:η ao cE:=df.then n9 λi I=>by omega
  have tq:=DM.ex O4;have af:=af.ex O4;refine⟨_,rB.at (j:=1) rfl,?_⟩;refine bt (λhe=>?_) (λhe=>?_)
  ·have he:(fi (aQ.tick m1) (dW x.1)).2.e≠12:=by simpa using he
   rw[apU he]at tq rB fC iY;rw[aL zV.1]at tq;refine⟨(fY x.2 (vz m (dW x.1)).2 cr b8 dc cx cC cD).toArray,rfl,rB.cells,aT rfl (af.put (cs:=fY x.2 (vz m (dW x.1)).2 cr b8 dc cx cC cD) rfl qL λda oa qa=>⟨_,rfl,qa.cells,?_⟩)⟩;have t2:=(af.typed rfl).1;have fC:=fC.ex O4;have iY:=iY.ex O4;exact dZ da _ _ (tq.loc oa (λah=>(tq.is.im ah).1.off t2 (by decide)) p1 t2 (by decide) (by decide)) ⟨cr,b8,dc,cx,cC,cD,rfl,fC.aO oa λy ag I=>(fC.typed ag).1.ne (I▸t2) (by decide) rfl,iY.aO oa λy ag I=>(iY.typed ag).1.ne (I▸t2) (by decide) rfl,rN⟩
  ·have he:(fi (aQ.tick m1) (dW x.1)).2.e=12:=by simpa using he
   obtain⟨rfl,aqm⟩:=aoW he;have zQ:(fi (aQ.tick m1) (dW x.1)).1=aQ.tick m1:=by
    rcases zZ.tick.do (by omega) (a:=dW x.1) aR.2 with⟨_,ι,_⟩|⟨h1,_⟩
    ·exact ι
    ·exact absurd he h1
   rw[he,aN rfl,zQ]at tq;refine Kb tq.is zZ.tick (by omega) (pick:=2) (by omega) (λh=>by omega) (λ_ dp KD Mo=>?_) (λh=>by omega) (λh=>by omega)
   try dsimp only
   try dsimp only[ca,cT,cU,bo,dX,jz,hA,h7]
   have af:=Mo.dS tq.is af (by decide);have auc:=tq.trans Mo;rintro dR dP w4 rfl;have bY:=μ.new (w:=dp) (fJ 0 bR bR) ck;rw[<-w4]at bY;have oT:=η.alloc dp (.cells (fJ 0 bR bR).toArray ck);have anu:dp.alloc (.cells #[.int .i64 0,.int .i64 0,.int .i64 0,.slice none 0 0,.slice none 0 0] ck)=dp.alloc (.cells (fJ 0 bR bR).toArray ck):=rfl;rw[anu];generalize dp.alloc (.cells (fJ 0 bR bR).toArray ck)=dP at bY oT⊢;refine aT rfl (bY.put (cs:=fJ 0 bR bR) rfl qL λeO Ad oJ=>?_);have KR:η dp eO:=oT.then Ad λi I=>by omega
   have w2:ov eO:=⟨he,⟨_,auc.ex KR⟩,_,_,af.ex KR⟩;refine⟨⟨rfl,rfl,.inr w2⟩,?_⟩;rw[aN w2,aL aqm];omega
 by_cases w2:ov W
 ·have h1:=w2.1;have ac5:vz m (dW x.1)=fi (aQ.tick (ra (aQ.tick (aQ.tick m)))) (dW x.1):=by unfold vz;rw[aN h1]
  refine main _ A (n+3) (hm.tick.tick.clean (by omega)) (by omega) w2.2 (λ_=>ac5.symm) λh=>?_;rw[<-ac5]at h;exact absurd h zV.1
 ·refine main m A n hm (by omega) (fX.resolve_right w2) (λh=>by unfold vz;rw[aL h]) λh=>⟨rfl,w2⟩
theorem auE{A:c6}{n:Nat}(hm:aQ.Ok m A n)(ar:n<=800000){a:aQ.Ask}(aR:∀x∈a.bs,0<=x/\x<256):(kV m a).2=(cQ A a).2/\aQ.Ok (kV m a).1 (cQ A a).1 (n+5):=by
 unfold kV cQ;by_cases bH:1<=a.k/\a.k<=9
 ·rw[aN bH,aN bH];exact⟨(hm.full ar aR).2.1,(hm.full ar aR).2.2⟩
 ·rw[aL bH,aL bH];exact⟨rfl,hm.more (by omega)⟩
theorem akd{A:c6}{n:Nat}(h:hY w pp pd m [] aA D)(hm:aQ.Ok m A n)(ar:n<=700000)(r:b9.cZ){B:Nat}(φ:μ w B dt 1 r.p r.n r.c (b9.bytesOf r))(ab:b9.Small r)(aS:0<=aA/\aA<1000000){R:au}
  (dZ:∀w' bk v,er w D w' pp pd (kV m (dW r)).1 [] (y3 aA (dW r)) bk->wJ w' bk v (if 1<=r.k/\r.k<=9 then aA+1 else 0) (kV m (dW r)).2->R (.returned v) w'):pw.C (some ⟨pp,0,none⟩) r.k r.v r.b r.s r.p r.n r.c w R:=by
 obtain⟨q,dm,dH,dq,dd,cn⟩:=id h;apply pw.ok;unfold pw.main;rintro δ ε eL rfl;have σ:=μ.new (w:=w) r.cells e7;rw[<-eL]at σ;have θ:=η.alloc w (.cells r.cells.toArray e7);have aP:w.alloc (.cells #[.int .i64 r.k,.int .i64 r.v,.int .i64 r.b,.int .i64 r.s,.slice r.p r.n r.c] e7)=w.alloc (.cells r.cells.toArray e7):=rfl;rw[aP];generalize w.alloc (.cells r.cells.toArray e7)=ε at σ θ⊢;rintro ζ υ eG rfl;have af:=μ.new (w:=ε) (fJ 0 bR bR) ck;rw[<-eG]at af;have ρ:=η.alloc ε (.cells (fJ 0 bR bR).toArray ck);have bM:ε.alloc (.cells #[.int .i64 0,.int .i64 0,.int .i64 0,.slice none 0 0,.slice none 0 0] ck)=ε.alloc (.cells (fJ 0 bR bR).toArray ck):=rfl;rw[bM];have p1:w.heap.size<=ζ:=by have:=θ.size;omega
 generalize ε.alloc (.cells (fJ 0 bR bR).toArray ck)=υ at af ρ⊢;have σ:=σ.ex ρ;have ft:=θ.trans ρ;have ι:=dd.ex ft;have vZ:=(er.start h).ex ft;rw[cond_neg (by rfl)]
 try dsimp only[bo]
 refine⟨_,ι.at (j:=0) rfl,?_⟩;refine κ.use (b9.akA ι.gate) ?_;rintro _ _ ⟨rfl,rfl⟩
 try dsimp only[bL]
 rw[cond_neg (by rfl)];refine⟨r.cells.toArray,rfl,σ.cells,?_⟩;refine κ.use (avJ vZ.is r (φ.ex ft) ab aS) ?_;rintro _ a8 (⟨g,rfl,az⟩|⟨g,zL,rfl,az⟩|⟨g,zL,rfl,b5,aW,bk,az⟩)
 ·try dsimp only[ca,cT,cU,bo,bL]
  rw[cond_pos (by rfl)];have adw:¬(1<=(dW r).k/\(dW r).k<=9):=g;have af:=az.dS vZ.is af (by decide);have t2:=(af.typed rfl).1;have Aq:=vZ.trans az;refine af.put (cs:=[.int .i64 0,.int .i64 1,.int .i64 0,.slice none 0 0,.slice none 0 0]) rfl qL λbW iq iV=>⟨_,rfl,iV.cells,?_⟩;unfold kV y3 at dZ;rw[aL adw,aL adw,aL (show¬(1<=r.k/\r.k<=9)from g)]at dZ;exact dZ bW _ _ (Aq.loc iq (λah=>(Aq.is.im ah).1.off t2 (by decide)) p1 t2 (by decide) (by decide)) ⟨none,0,0,none,0,0,rfl,μ.nil _ _ _ _,μ.nil _ _ _ _,λ_ h=>by cases h⟩
 ·simp at zL
 ·try dsimp only[ca,cT,cU,bo,bL]
  rw[cond_neg (by rfl)];have bH:1<=(dW r).k/\(dW r).k<=9:=g;have af:=az.dS vZ.is af (by decide);unfold kV y3 at dZ;rw[aN bH,aN bH,aN (show 1<=r.k/\r.k<=9 from g)]at dZ;exact akc (x:=({r with p:=b5,c:=aW},aA+1)) hm ar ⟨g,ab.wf⟩ (vZ.trans az) af p1 dZ
end
theorem at8{d:ba.du}(h1:d.after=-1)(ι:d.off=false){i j:Int}{s:aq}(I:0<=i/\i<(d.now.length:Int))(ψ:0<=j/\j<(d.now.length:Int))(ab:s.length=64):ba.A4 d [(i,s),(j,s)]=(ba.dv (ba.dv d i s) j s,0):=by
 have k8:ba.kL d=d:=by unfold ba.kL;rw[aL (by omega),aL (by omega)]
 have aP:(ba.dv d i s).after=-1:=h1;have bM:(ba.dv d i s).off=false:=ι;have aqS:ba.kL (ba.dv d i s)=ba.dv d i s:=by unfold ba.kL;rw[aL (by omega),aL (by omega)]
 unfold ba.A4;rw[aL (by rw[ι];decide),aL (by simp[ba.wide,ab]),aL (by simp[ba.out];omega)];unfold ba.yV;rw[k8,aL (by rw[ι];decide)];unfold ba.yV;rw[aqS,aL (by rw[bM];decide)];rfl
theorem ans{w0 w:World}{eC:bl}{B pd:Nat}{d:ba.du}{D:bl}{k:Nat}(h:hG w0 eC w B pd d D k)(hk:k<=90000000){i j:Int}(I:0<=i/\i<(d.now.length:Int))(ψ:0<=j/\j<(d.now.length:Int)){p:γ}{c:Nat}{s:aq}(π:ba.ou w D p (a7 s))(ab:ba.lx s){N:Value->al}{X:List PanicEntry->al}
  (K:∀w' bk,hG w0 eC w' B pd (ba.dv (ba.dv d i s) j s) bk (k+2)->Kp w w' D->N (.int .i64 0) w'):
  aK w #[.int .i64 i,.slice p 64 c,.int .i64 j,.slice p 64 c] Eb λδ χ=>κ prog 63 #[.pointer (some ⟨pd,0,none⟩),.slice (some ⟨δ,0,none⟩) 2 2] χ N X:=by
 rintro b ε rfl rfl;have o:=μ.alloc (w:=w) [.int .i64 i,.slice p 64 c,.int .i64 j,.slice p 64 c] Eb 2 2 rfl;have x:=η.alloc w (.cells [Value.int .i64 i,.slice p 64 c,.int .i64 j,.slice p 64 c].toArray Eb);generalize w.heap.size=b at o⊢;generalize w.alloc (.cells #[.int .i64 i,.slice p 64 c,.int .i64 j,.slice p 64 c] Eb)=ε at o x⊢;have h1:=h.ex x;refine κ.use (ba.KL h1.dev h1.fz (gE h1.low h1.aO.size) (ws:=[⟨i,s,p,64,c⟩,⟨j,s,p,64,c⟩]) rfl (ba.ou.DI h1.dev o (by decide) (by decide) (by decide)) (λtK mX=>by
  simp only[fB,oi,py]at mX;rcases mX with rfl|rfl
  ·exact⟨π.step (x.aO _) (λi _ h=>h),ab.1,ab.2⟩
  ·exact⟨π.step (x.aO _) (λi _ h=>h),ab.1,ab.2⟩) (by omega) (by have:=h1.gC;omega)) ?_
 have vJ:ba.A4 d ([(⟨i,s,p,64,c⟩:ba.iv),⟨j,s,p,64,c⟩].map ba.iv.plain)=(ba.dv (ba.dv d i s) j s,0):=at8 h1.after h1.off I ψ ab.1;rw[vJ];rintro _ υ ⟨rfl,aR⟩;obtain⟨bk,cn,p5⟩:=h1.TG aR rfl rfl (by show((d.now.set _ _).set _ _).length=_;rw[hQ,hQ]) (k':=k+2) (by show((d.loose++[(i,s)])++[(j,s)]).length<=k+2;rw[fw,fw];have:=h.gC;simp only[Ca];omega);exact K υ bk cn (Kp.trans (x.aO D) p5 (λ_ _ h=>h) (λ_ _ h=>h))
theorem KN{w:World}{B pd:Nat}{d:ba.du}{D:bl}(h:ba.hF w B pd d D):EV.C (some ⟨pd,0,none⟩) w (ω λv w'=>v=.int .i64 (d.now.length:Int)/\w'=w):=by
 apply EV.ok;unfold EV.main;obtain⟨bs,bn,pl,kT,h,cn⟩:=h
 try dsimp only[nD,bo,jz]
 simp only[dG];exact⟨_,_,_,h.cell.at (j:=1) rfl,ω.mk ⟨rfl,rfl⟩⟩
theorem ZW{s k:Int}(ea:6<=s/\s<=24/\2<=k/\k<=16)(w:World):GQ.C s k w (ω λv w'=>v=.tuple #[.int .i64 (40+s*k),.int .i64 0]/\η w w'):=by
 apply GQ.ok;unfold GQ.main;rintro δ ε rfl rfl;have o:=μ.new (w:=w) (two s k) b2;have yw:=η.alloc w (.cells (two s k).toArray b2);have aP:w.alloc (.cells #[.int .i64 s,.int .i64 k] b2)=w.alloc (.cells (two s k).toArray b2):=rfl;rw[aP];generalize w.alloc (.cells (two s k).toArray b2)=ε at o yw⊢;refine⟨(two s k).toArray,rfl,o.cells,?_⟩;refine κ.use (KB s k _) ?_;rintro _ υ ⟨rfl,ι⟩;rw[vQ.2 ea]
 try dsimp only[bL]
 rw[cond_neg (by decide)];have hp:=M7 ea;refine⟨s,(o.ex ι).at (by rfl),k,(o.ex ι).at (by rfl),?_⟩;rw[bS (x:=s*k) (by omega) (by omega),bS (by omega) (by omega)];exact ω.mk ⟨rfl,yw.trans ι⟩
theorem akm{w:World}{pd:Nat}{D:bl}{s k:Int}(g:mO s k)(h:ba.hF w 0 pd (ba.fresh (40+s*k).toNat) D):
  nO.C (some ⟨pd,0,none⟩) s k w (ω λv w'=>v=.int .i64 0/\∃bk,hG w D w' 0 pd (uj (40+s*k).toNat s k) bk 0):=by
 have hp:=g.prod;have hw:=g.wide;obtain⟨n,ar⟩:∃n,(40+s*k).toNat=n:=⟨_,rfl⟩;have L9:(n:Int)=40+s*k:=by omega
 rw[ar]at h⊢;have hlen:(ba.fresh n).now.length=n:=by simp[ba.fresh]
 have ug:hG w D w 0 pd (ba.fresh n) D 0:=hG.start h (ba.aom (by omega)) rfl rfl (by rw[hlen];omega) (dO _) (eR _);apply nO.ok;unfold nO.main;rintro δ ε eL rfl;have σ:=μ.new (w:=w) (two s k) b2;rw[<-eL]at σ;have θ:=η.alloc w (.cells (two s k).toArray b2);have aP:w.alloc (.cells #[.int .i64 s,.int .i64 k] b2)=w.alloc (.cells (two s k).toArray b2):=rfl;rw[aP];generalize w.alloc (.cells (two s k).toArray b2)=ε at σ θ⊢;refine⟨(two s k).toArray,rfl,σ.cells,?_⟩;refine κ.use (ZW hw ε) ?_;rintro _ υ ⟨rfl,ρ⟩
 try dsimp only[nD,ca,cT,cU,bo,bL]
 rw[cond_neg (by rfl)];unfold nO.aV;rw[cond_neg (by rfl)];have abH:=(ug.ex θ).ex ρ;have σ:=σ.ex ρ;refine κ.use (KN abH.dev) ?_;rintro _ aAv ⟨rfl,bM⟩;obtain rfl:=bM.symm
 try dsimp only[bL]
 rw[hlen,jl (by omega)];rintro ζ aZ eG rfl;have em:madeCells #[Value.int .u8 0] (64*1)=(a7 ba.gN).toArray:=DD 1 64 (Value.int .u8 0) (by decide);rw[em];have bY:=μ.alloc (w:=υ) (a7 ba.gN) dt 1 64 rfl;rw[<-eG]at bY;have aM:=η.alloc υ (.cells (a7 ba.gN).toArray dt);generalize υ.alloc (.cells (a7 ba.gN).toArray dt)=aZ at bY aM⊢;have PC:=abH.ex aM;have σ:=σ.ex aM;refine ans PC (by omega) (by rw[hlen];omega) (by rw[hlen];omega) (ba.ou.DI PC.dev bY (by decide) (by decide) (by decide)) ba.Zg λbV aj7 Ut fO=>?_
 try dsimp only[bL]
 rw[cond_neg (by rfl)];have bY:=PC.dS fO bY (by decide) (by decide) (by decide);have σ:=PC.dS fO σ (by decide) (by decide) (by decide);refine Ut.flush λc4 S6 Us Dx=>?_
 try dsimp only[bL]
 rw[cond_neg (by rfl)];have bY:=Ut.dS Dx bY (by decide) (by decide) (by decide);have σ:=Ut.dS Dx σ (by decide) (by decide) (by decide);change hG w D c4 0 pd (Fw n) S6 0 at Us;unfold nO.bb;refine⟨λt0 t3 oO oq qo t45 W=>some ⟨pd,0,none⟩=t0/\δ=t3/\some ⟨ζ,0,none⟩=oO/\64=oq/\64=qo/\0<=t45/\t45<=16/\(∃bk,hG w D W 0 pd (nM (Fw n) 24 (List.replicate t45.toNat ba.gN)) bk t45.toNat)/\μ W δ b2 2 (some ⟨δ,0,none⟩) 1 1 (two s k)/\μ W ζ dt 1 (some ⟨ζ,0,none⟩) 64 64 (a7 ba.gN),λ_ _ _ _ _ t45 _=>(16-t45).toNat,⟨rfl,rfl,rfl,rfl,rfl,by omega,by omega,⟨S6,Us⟩,σ,bY⟩,?_⟩;clear σ bY Us;rintro _ _ _ _ _ t45 W ⟨rfl,rfl,rfl,rfl,rfl,g0,g1,⟨bk,IF⟩,σ,bY⟩;unfold nO.δ;obtain⟨t,rfl⟩:=eF g0;rw[ch]at IF;have Dm:(nM (Fw n) 24 (List.replicate t ba.gN)).now=tN n:=XT n t _ _ (ab7 n);have zY:(nM (Fw n) 24 (List.replicate t ba.gN)).now.length=n:=by rw[Dm,tN,me]
 refine bt (λaS=>?_) (λaS=>?_)
 ·have aS:=b6 aS;rw[bS (x:=24+(t:Int)) (by omega) (by omega)];refine IF.put (by omega) (i:=24+(t:Int)) (by rw[zY];omega) (ba.ou.DI IF.dev bY (by decide) (by decide) (by decide)) ba.Zg λcE Zs anq n9=>?_
  try dsimp only[bL]
  rw[cond_neg (by rfl),bS (x:=(t:Int)+1) (by omega) (by omega)];have aP:((t:Int)+1).toNat=t+1:=by omega
  refine⟨⟨by trivial,by trivial,by trivial,by trivial,by trivial,by omega,by omega,⟨Zs,?_⟩,IF.dS n9 σ (by decide) (by decide) (by decide),IF.dS n9 bY (by decide) (by decide) (by decide)⟩,by((try dsimp only);omega)⟩;rw[aP,RE,XS,me];exact anq
 ·have aS:=dn aS;obtain rfl:t=16:=by omega
  unfold nO.bK;refine⟨(two s k).toArray,rfl,σ.cells,?_⟩;refine κ.use (ZV (q:=1) IF (by omega) (fV.zero W).at seq1 (IL hw)) ?_;rintro _ dp ⟨rfl,S7,anr⟩
  try dsimp only[bL]
  exact ω.mk ⟨rfl,S7,anr⟩
theorem akU{w:World}{pd:Nat}{d:ba.du}{D:bl}(ak:Live w 0 pd d D){s k q:Int}{R:bZ}{n:Nat}(aR:wN d 2=(R,s,k,q))(aH:1<=q/\q<=1073741824)(ea:6<=s/\s<=24/\2<=k/\k<=16)(bm:mN s k R)(hlen:40+s*k<=(d.now.length:Int))(qD:qF q d.now 16 0=([],n))(jZ:2<=(k6 s.toNat (lays (used R)) []).length):
  Hf.C (some ⟨pd,0,none⟩) w (ω λv w'=>∃ps,v=.tuple #[.agg (bT R ps).toArray,.agg (two s k).toArray,.int .i64 q,.int .i64 0,.int .i64 0]/\fV w' R ps/\η w w'):=by
 obtain⟨f1,f2,f3⟩:=(mC ea).1 bm;apply Hf.ok;unfold Hf.main;rintro δ ε eL rfl ζ υ eG rfl;rw[Il,Ie];rw[Il]at eG;have σ:=μ.new (w:=w) hX b3;rw[<-eL]at σ;have θ:=η.alloc w (.cells hX.toArray b3);generalize w.alloc (.cells hX.toArray b3)=ε at σ θ eG⊢;have af:=μ.new (w:=ε) (two 0 0) b2;rw[<-eG]at af;have ρ:=η.alloc ε (.cells (two 0 0).toArray b2);generalize ε.alloc (.cells (two 0 0).toArray b2)=υ at af ρ⊢;have ft:=θ.trans ρ;have p1:w.heap.size<=ζ:=by have:=θ.size;omega
 have σ:=σ.ex ρ;refine κ.use (Ti (ak.ex ft)) ?_;rw[aR];rintro _ χ ⟨⟨ps,rfl,cb⟩,ad⟩;rw[aL (by dsimp only;omega)]
 try dsimp only[ca,cT,cU,n1,UX,bo,bL,hA,h7]
 have σ:=σ.ex ad;have af:=af.ex ad;have ha:=ft.trans ad;refine aT (by rw[fP];exact cb.at.eA) (σ.put (cs:=bT R ps) cb.at.eA cb.at.one λan dT cB=>?_);have t1:∀i,i=δ->Typed χ b3 i:=λi I=>I▸(σ.typed rfl).1;have af:=af.cV dT b3 t1 (by decide);have cb:=cb.cV dT b3 t1 (by decide);have nW:η w an:=ha.then dT λi I=>by omega
 refine aT rfl (af.put (cs:=two s k) rfl nP λaZ eD bY=>?_);have t2:∀i,i=ζ->Typed an b2 i:=λi I=>I▸(af.typed rfl).1;have cB:=cB.cV eD b2 t2 (by decide);have cb:=cb.cV eD b2 t2 (by decide);have k4:η w aZ:=nW.then eD λi I=>by omega
 rw[cond_neg (by rfl)];refine⟨(two s k).toArray,rfl,bY.cells,?_⟩;refine κ.use (ZW ea aZ) ?_;rintro _ bW ⟨rfl,ct⟩
 try dsimp only[ca,cT,cU,bo,bL]
 have tS:=k4.trans ct;have cB:=cB.ex ct;have bY:=bY.ex ct;have cb:=cb.ex ct;refine κ.use (KN (ak.ex tS).dev) ?_;rintro _ aAw ⟨rfl,anx⟩;obtain rfl:=anx.symm
 try dsimp only[bL]
 rw[jl (by omega)];refine κ.use (dI.Ti (ak.ex tS).dev ak.fz ak.off ak.len q aH) ?_;rw[qD];rintro _ dp ⟨p,c,rfl,ol,mo⟩
 try dsimp only[ca,cT,cU,n1,bo,bL,ee]
 rw[cond_neg (by rfl)];have alL:=tS.trans mo;have cB:=cB.ex mo;have bY:=bY.ex mo;have cb:=cb.ex mo;refine⟨(bT R ps).toArray,by rw[fP];exact cb.at.eA,cB.cells,?_⟩;refine κ.use (ajQ cb.at f1) ?_;rintro _ eE ⟨GZ,rfl,mV,q0⟩
 try dsimp only[ca,cT,cU,n1,bo,bL,hA,h7]
 have TA:=alL.trans q0;have cB:=cB.ex q0;have bY:=bY.ex q0;refine aT (by rw[fP];exact mV.at.eA) (cB.put (cs:=bT R GZ) mV.at.eA mV.at.one λdM pn j2=>?_);have t5:∀i,i=δ->Typed eE b3 i:=λi I=>I▸(cB.typed rfl).1;have bY:=bY.cV pn b3 t5 (by decide);have mV:=mV.cV pn b3 t5 (by decide);have alM:η w dM:=TA.then pn λi I=>by omega
 rw[cond_neg (by rfl)];refine⟨(bT R GZ).toArray,by rw[fP];exact mV.at.eA,j2.cells,(two s k).toArray,rfl,bY.cells,?_⟩;refine κ.use (Zz mV.at s k) ?_;rintro _ eg ⟨⟨e,rfl,he⟩,oU⟩;obtain rfl:=he.2 bm
 try dsimp only[bL]
 rw[cond_neg (by rfl)];have Ez:=alM.trans oU;have j2:=j2.ex oU;have bY:=bY.ex oU;have mV:=mV.ex oU;refine⟨(bT R GZ).toArray,by rw[fP];exact mV.at.eA,j2.cells,(two s k).toArray,rfl,bY.cells,?_⟩;have BC:(gK (used R)).length<=4096:=by
  have:(s-4)*k<=20*16:=qJ (by omega) (by omega) (by omega) (by omega)
  have ι:(gK (used R)).length=jn R:=rfl;omega
 refine κ.use (Tc mV.at bm.1 BC (but:=[]) (bp:=none) (bn:=0) (bc:=0) (μ.nil eg 0 cz 1).cells rfl (by omega)) ?_;rintro _ gh ⟨aX,c2,rfl,oV,_⟩
 try dsimp only[ca,cT,cU,bo,bL,ee]
 rw[jl (by omega)];have aap:=(Ez.trans oV).trans (η.drew gh);have j2:=(j2.ex oV).ex (η.drew gh);have bY:=(bY.ex oV).ex (η.drew gh);have mV:=(mV.ex oV).ex (η.drew gh);generalize gh.drew=ja at aap j2 bY mV⊢;refine⟨(bT R GZ).toArray,by rw[fP];exact mV.at.eA,j2.cells,(two s k).toArray,rfl,bY.cells,aT (by rw[fP];exact mV.at.eA) (j2.put (cs:=bT R GZ) mV.at.eA mV.at.one λga yE qH=>?_)⟩;have t7:∀i,i=δ->Typed ja b3 i:=λi I=>I▸(j2.typed rfl).1;have bY:=bY.cV yE b3 t7 (by decide);have mV:=mV.cV yE b3 t7 (by decide);have alN:η w ga:=aap.then yE λi I=>by omega
 refine aT rfl ⟨bY.cells,aT rfl (bY.put (cs:=two s k) rfl nP λnr My Gy=>?_)⟩;have t8:∀i,i=ζ->Typed ga b2 i:=λi I=>I▸(bY.typed rfl).1;have qH:=qH.cV My b2 t8 (by decide);have mV:=mV.cV My b2 t8 (by decide);refine⟨(bT R GZ).toArray,by rw[fP];exact mV.at.eA,qH.cells,(two s k).toArray,rfl,Gy.cells,?_⟩;exact ω.mk ⟨GZ,rfl,mV,alN.then My λi I=>by omega⟩
end Go.Proofs.YtcpdfhkhaekekaaGreat.G.cY

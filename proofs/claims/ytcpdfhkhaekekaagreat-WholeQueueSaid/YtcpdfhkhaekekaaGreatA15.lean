/- The walk of the functions, and the plain laws of the model: part of the proof. Conditions: none. -/
import Derived.Test.YtcpdfhkhaekekaaGreatA14
set_option linter.unusedVariables false
set_option linter.unusedSimpArgs false
namespace Go.Proofs.YtcpdfhkhaekekaaGreat.G.cV
open Go.bI Go.RowKit cr dB eh cQ aK
section
variable{w:World}{pd:Nat}{s k:Int}{D:a1}
def dN(bm kv:Nat)(n:Nat)(b4 ps:Nat):vz:=⟨bm,b4,ps,none,0,kv,n⟩
def wv(pd bm kv n:Nat)(s k:Int)(r t:Value):aU:=[.pointer (some ⟨bm,0,none⟩),.pointer (some ⟨pd,0,none⟩),.int .i64 s,.int .i64 k,r,t,.int .i64 1,.int .i64 16,.slice none 0 0,.bool false,.int .i64 0,.slice (some ⟨kv,0,none⟩) n n,.bool false]
theorem Z2(pd bm kv n:Nat)(s k:Int):Instr.fill (λi=>[(0,1),(1,1),(2,2),(4,1),(5,1),(6,1),(7,1),(8,1),(9,1),(10,1),(11,1),(12,1)].toArray[i]?) #[(Value.pointer none),(Value.pointer none),(Value.int .i64 0),(Value.int .i64 0),(Value.pointer none),(Value.pointer none),(Value.int .i64 0),(Value.int .i64 0),(Value.slice none 0 0),(Value.bool false),(Value.int .i64 0),(Value.slice none 0 0),(Value.bool false)] [(0,(Value.pointer (some ⟨bm,0,none⟩))),(1,(Value.pointer (some ⟨pd,0,none⟩))),(2,(Value.agg (two s k).toArray)),(5,(Value.int .i64 1)),(6,(Value.int .i64 16)),(8,(Value.bool (decide ((0:Int)>0)))),(10,(Value.slice (some ⟨kv,0,none⟩) n n))]=some (wv pd bm kv n s k (.pointer none) (.pointer none)).toArray:=by simp[Instr.fill,Value.cells,two,bt.v64,wv]
theorem adm(g:pW s k){W:World}(x:θ w W)(ae:bh.hZ W 0 pd (sY (40+s*k).toNat s k) D){ε ι pp bm kv n air:Nat}{c8:a1}(hw:w.heap.size<=pp)(ar:s.toNat=n){ps:aU}(ρ:μ W ε bX 24 (some ⟨ε,0,none⟩) 1 1 (bN (cw []) ps))(b0:fy W (cw []) ps)(az:μ W ι b5 2 (some ⟨ι,0,none⟩) 1 1 (two s k)){p:J}{c:Nat}(of:μ W air ck 1 p (xp s).length c (bs.cK (xp s)))
  (bL:bG.mV W 0 bm [] 0 c8)(os:μ W kv ck 1 (some ⟨kv,0,none⟩) n n (bs.cK (List.replicate n 0)))(op:μ W pp rh 13 (some ⟨pp,0,none⟩) 1 1 (wv pd bm kv n s k (.pointer none) (.pointer none)))(amR:∀i,c8 i->w.heap.size<=i)(ax1:w.heap.size<=kv):
  uW.aZ ε ι p (xp s).length c pp W (φ λv w'=>∃pp bb,v=.tuple #[.pointer (some ⟨pp,0,none⟩),.int .i64 0]/\hj w' pp pd (wk s k) [] 0 bb/\θ w w'/\bs.Good (ra s k)/\∀i,bb i->D i\/w.heap.size<=i):=by
 have eo:=g.wide;obtain⟨f1,f2,f3⟩:=(lJ eo).1 (Hg eo);obtain⟨qP,aw0,aw1,aw2⟩:=aeQ g;unfold uW.aZ;refine⟨(bN (cw []) ps).toArray,by rw[fp];exact b0.at.dX,ρ.cells,?_⟩;refine κ.use (XT b0.at f1) ?_;rintro _ gP ⟨b4,rfl,rm,σ⟩
 try dsimp only[bZ,cC,cD,bj,bH,mX]
 have axW:W.heap.size<=b4:=by obtain⟨fR,σ⟩:=σ;exact(σ.γ.ge rfl).1
 have op:=op.ex rm;refine op.dj (j:=4) (v:=.pointer (some ⟨b4,0,none⟩)) (by omega) rfl λfF y7 op=>?_;change μ fF pp rh 13 (some ⟨pp,0,none⟩) 1 1 (wv pd bm kv n s k (.pointer (some ⟨b4,0,none⟩)) (.pointer none))at op;have tp:∀i,i=pp->hF gP Bv i:=λi o=>o▸⟨_,by simp,((‹μ gP pp rh 13 (some ⟨pp,0,none⟩) 1 1 _›).typed rfl).1⟩;have B9:kn gP 0 b4 (cw []):=by obtain⟨fR,σ⟩:=σ;exact⟨fR,⟨σ.γ.lower (da _),σ.len,σ.j1,σ.tb⟩⟩
 have az:=gX y7 tp (az.ex rm) (by decide);have of:=gX y7 tp (of.ex rm) (by decide);have os:=gX y7 tp (os.ex rm) (by decide);have ae:=vM y7 tp (ae.ex rm) (by decide);have bL:=vR y7 tp (bL.ex rm) (by decide) (by decide);have σ:=wH y7 tp B9 (by decide) (by decide);have RK:θ w fF:=(x.trans rm).then y7 λi o=>by omega
 have EK:=x.size;have KE:=rm.size;have HF:=y7.size;have ax2:kv<fF.heap.size:=(os.typed rfl).2.2;clear b0 ρ B9;refine⟨(two s k).toArray,rfl,az.cells,?_⟩;refine κ.use (bs.zS s k fF of.cells rfl (by have:=S2 s.toNat (lays (used (cw []))) [];unfold xp;omega)) ?_;rw[qP];rintro _ eK ⟨oA,Ls,rfl,Ex,db,ψ⟩
 try dsimp only[bZ,cC,cD,bj,bH,mX]
 have op:=op.ex oA;have Mo:∀i,i=pp->hF eK Bv i:=λi o=>o▸⟨_,by simp,(op.typed rfl).1⟩;have abO:=λi o=>(ψ.typed (i:=i) o).2.1;refine op.dj (j:=5) (v:=.pointer (some ⟨Ls,0,none⟩)) (by omega) rfl λfb AB op=>?_;have os:=gX AB Mo (os.ex oA) (by decide);have ae:=vM AB Mo (ae.ex oA) (by decide);have bL:=vR AB Mo (bL.ex oA) (by decide) (by decide);have σ:=wH AB Mo (σ.ex oA) (by decide) (by decide);have ψ:=zq AB Mo ψ (by decide);have Dd:θ w fb:=(RK.trans oA).then AB λi o=>by omega
 have nb:bs.lD fb 0 Ls (ra s k) db:=by obtain⟨pf,DG,⟨aq,a2⟩,amS⟩:=ψ;exact⟨pf,DG,⟨aq.lower (da _),a2.lower (da _)⟩,amS⟩
 refine φ.mk ⟨pp,_,rfl,⟨dN bm kv n b4 Ls,c8,D,db,⟨?_,bL,ae,σ,nb,μ.nil _ _ _ _,?_,λo=>?_⟩,λi=>nh⟩,Dd,Ex,λi o=>?_⟩
 ·have e:ma pd (dN bm kv n b4 Ls) (wk s k)=(wv pd bm kv n s k (.pointer (some ⟨b4,0,none⟩)) (.pointer none)).set 5 (.pointer (some ⟨Ls,0,none⟩)):=by
   unfold ma wv wk dN;dsimp only;rw[sf,ar];rfl
  rw[e];exact op.lower (da _)
 ·show μ fb 0 ck 1 (some ⟨kv,0,none⟩) (List.replicate s.toNat (0:Int)).length n (bs.cK (List.replicate s.toNat 0));rw[sf,ar];exact os.lower (da _)
 ·have h1:=abO _ o;dsimp only[dN]at h1;omega
 ·rcases o with o|o|o|o|o|⟨y,ag,o⟩|o
  ·exact .inr (by omega)
  ·exact .inr (amR i o)
  ·exact .inl o
  ·have o:i=b4:=o;exact .inr (by omega)
  ·have:=abO i o
   exact .inr (by omega)
  ·cases ag
  ·have o:i=kv:=o;exact .inr (by omega)
theorem aam{w:World}{B bm:Nat}{D:a1}(h:bG.mV w B bm [] 0 D):bG.mV w 0 bm [] 0 D:=by obtain⟨q,c,⟨h1,η,au⟩,b1⟩:=h;exact⟨q,c,⟨h1.lower (da _),η.lower (da _),λx I=>by cases I⟩,b1⟩
theorem aeS(n:Nat):madeCells #[Value.int .i64 0] (n*1)=(bs.cK (List.replicate n 0)).toArray:=by
 have:=E4 1 (n*1) (Value.int .i64 0) (by decide)
 rw[eG]at this⊢;rw[show(#[Value.int .i64 0]:ah)=(List.replicate 1 (Value.int .i64 0)).toArray from rfl,this];unfold bs.cK;rw[Ly]
theorem amu(g:pW s k):2<=(xp s).length:=by
 have h:∀a:_root_.Fin 9,∀b:_root_.Fin 5,(λ(s k:Int)=>2<=(xp s).length) (6+a.val) (2+b.val):=by decide+kernel
 exact aan (P:=λs k=>2<=(xp s).length) h g
theorem Jn(g:pW s k)(an:Live w 0 pd (sY (40+s*k).toNat s k) D):uW.C (some ⟨pd,0,none⟩) w (φ λv w'=>∃pp bb,v=.tuple #[.pointer (some ⟨pp,0,none⟩),.int .i64 0]/\hj w' pp pd (wk s k) [] 0 bb/\θ w w'/\bs.Good (ra s k)/\∀i,bb i->D i\/w.heap.size<=i):=by
 have eo:=g.wide;have hp:=g.prod;obtain⟨f1,f2,f3⟩:=aad eo (n:=(40+s*k).toNat) (by omega);apply uW.ok;unfold uW.main;refine κ.use (ajt an f1 (by omega) eo (Hg eo) (by rw[f3];omega) f2 (amu g)) ?_;rintro _ δ ⟨ps,rfl,b0,ζ⟩
 try dsimp only[bZ,cC,cD,mY,S5,amx,bj,bH,hz,iG]
 rintro ε aa eb rfl ι ax ee rfl;rw[GN,GI];rw[GN]at ee;have ρ:=μ.new (w:=δ) hA bX;rw[<-eb]at ρ;have ab:=θ.alloc δ (.cells hA.toArray bX);generalize δ.alloc (.cells hA.toArray bX)=aa at ρ ab ee⊢;have az:=μ.new (w:=aa) (two 0 0) b5;rw[<-ee]at az;have aA:=θ.alloc aa (.cells (two 0 0).toArray b5);generalize aa.alloc (.cells (two 0 0).toArray b5)=ax at az aA⊢;have ju:=ab.trans aA;have oU:δ.heap.size<=ι:=by have:=ab.size;omega
 have ρ:=ρ.ex aA;have b0:=b0.ex ju;refine aW (by rw[fp];exact b0.at.dX) (ρ.put (cs:=bN (cw []) ps) b0.at.dX b0.at.one λaG ea cz=>?_);have t1:∀i,i=ε->Typed ax bX i:=λi o=>o▸(ρ.typed rfl).1;have az:=az.cI ea bX t1 (by decide);have b0:=b0.cI ea bX t1 (by decide);have ns:θ δ aG:=ju.then ea λi o=>by omega
 refine aW rfl (az.put (cs:=two s k) rfl nm λba dP bS=>?_);have t2:∀i,i=ι->Typed aG b5 i:=λi o=>o▸(az.typed rfl).1;have cz:=cz.cI dP b5 t2 (by decide);have b0:=b0.cI dP b5 t2 (by decide);have kB:θ w ba:=ζ.trans (ns.then dP λi o=>by omega);rw[cond_neg (by rfl)];refine⟨(bN (cw []) ps).toArray,by rw[fp];exact b0.at.dX,cz.cells,(two s k).toArray,rfl,bS.cells,?_⟩;have Ar:(gB (used (cw []))).length<=4096:=by decide
 refine κ.use (Rk b0.at (Hg eo).1 Ar (but:=[]) (bp:=none) (bn:=0) (bc:=0) (μ.nil ba 0 ck 1).cells rfl (by omega)) ?_;rintro _ bk ⟨ad,c1,rfl,aV,of⟩
 try dsimp only[bZ,cC,cD,bj,bH,er]
 have ct:=aV.trans (θ.drew bk);have of:=of.ex (θ.drew bk);have cz:=cz.ex ct;have bS:=bS.ex ct;have b0:=b0.ex ct;have zY:=kB.trans ct;generalize bk.drew=b9 at of cz bS b0 zY⊢;refine⟨(two s k).toArray,rfl,bS.cells,s,bS.at (j:=0) rfl,?_,?_⟩
 ·refine κ.use (bG.zS b9) ?_;rintro _ ca ⟨rfl,cv,c8,bL⟩
  try dsimp only[iG,mX]
  have bS:=bS.ex cv;refine⟨bS.at (j:=0) rfl,aW rfl ⟨bS.cells,aW (by omega) (aW (by omega) (aW (by omega) ?_))⟩⟩;rintro aH cH jc rfl;rw[aeS];have os:=μ.alloc (w:=ca) (bs.cK (List.replicate s.toNat 0)) ck 1 s.toNat (by simp[bs.cK]);rw[<-jc]at os;have fu:=θ.alloc ca (.cells (bs.cK (List.replicate s.toNat 0)).toArray ck);generalize ca.alloc (.cells (bs.cK (List.replicate s.toNat 0)).toArray ck)=cH at os fu⊢;refine aW rfl ⟨(bS.ex fu).cells,?_⟩;have yU:=Z2 pd b9.heap.size aH s.toNat s k;unfold ξ;rw[yU];dsimp only;rintro af cn mC rfl;have op:=μ.new (w:=cH) (wv pd b9.heap.size aH s.toNat s k (.pointer none) (.pointer none)) rh;rw[<-mC]at op;have dG:=θ.alloc cH (.cells (wv pd b9.heap.size aH s.toNat s k (.pointer none) (.pointer none)).toArray rh);generalize cH.alloc (.cells (wv pd b9.heap.size aH s.toNat s k (.pointer none) (.pointer none)).toArray rh)=cn at op dG⊢;have rp:=fu.trans dG;have rv:=cv.trans rp;have aoW:=zY.size;have ax0:=cv.size;have axY:=fu.size;exact adm g (zY.trans rv) (an.dev.ex (zY.trans rv)) (by omega) rfl ((cz.ex rv).lower (eF _)) (b0.ex rv) ((bS.ex rp).lower (eF _)) (of.ex rv) (aam (bL.ex rp)) (os.ex dG) op (λi o=>by have:=(bL.typed o).2.1;omega) (by omega)
 ·refine aW (by omega) (aW (by omega) (aW (by omega) ?_));rintro dC de lf rfl;rw[aeS];have os:=μ.alloc (w:=b9) (bs.cK (List.replicate s.toNat 0)) ck 1 s.toNat (by simp[bs.cK]);rw[<-lf]at os;have gV:=θ.alloc b9 (.cells (bs.cK (List.replicate s.toNat 0)).toArray ck);generalize b9.alloc (.cells (bs.cK (List.replicate s.toNat 0)).toArray ck)=de at os gV⊢;have ac6:=bS.ex gV;refine aW rfl ⟨ac6.cells,?_⟩;refine κ.use (bG.zS de) ?_;rintro _ dJ ⟨rfl,js,c8,bL⟩
  try dsimp only[iG,mX]
  refine aW rfl ⟨(ac6.ex js).cells,?_⟩;have yU:=Z2 pd de.heap.size dC s.toNat s k;unfold ξ;rw[yU];dsimp only;rintro gb eO BY rfl;have op:=μ.new (w:=dJ) (wv pd de.heap.size dC s.toNat s k (.pointer none) (.pointer none)) rh;rw[<-BY]at op;have jR:=θ.alloc dJ (.cells (wv pd de.heap.size dC s.toNat s k (.pointer none) (.pointer none)).toArray rh);generalize dJ.alloc (.cells (wv pd de.heap.size dC s.toNat s k (.pointer none) (.pointer none)).toArray rh)=eO at op jR⊢;have rp:=js.trans jR;have rv:=gV.trans rp;have aoW:=zY.size;have aoV:=gV.size;have axZ:=js.size;exact adm g (zY.trans rv) (an.dev.ex (zY.trans rv)) (by omega) rfl ((cz.ex rv).lower (eF _)) (b0.ex rv) ((bS.ex rv).lower (eF _)) (of.ex rv) (aam (bL.ex jR)) (os.ex rp) op (λi o=>by have:=(bL.typed o).2.1;omega) (by omega)
end
open Tryz
theorem alc{w:World}{B pd:Nat}{d:bh.dm}{D:a1}(h:bh.hZ w B pd d D):bh.hZ w 0 pd d D:=by obtain⟨bF,bn,pl,kF,⟨h1,η,au,bV,c9⟩,b1⟩:=h;exact⟨bF,bn,pl,kF,⟨h1.lower (da _),η.lower (da _),au.lower (da _),bV.lower (da _),c9⟩,b1⟩
structure Q7(w:World)(w':World)(s k:Int)(pp pd:Nat)(D:a1):Prop where
 is:hj w' pp pd (wk s k) [] 0 D
 ok:aK.Ok (wk s k) (xQ s k) 2
 ex:θ w w'
 new:∀i,D i->w.heap.size<=i
theorem JE{s k:Int}(g:pW s k)(w:World):Ge.C s k w (φ λv w'=>∃pd pp D,v=.tuple #[.pointer (some ⟨pd,0,none⟩),.pointer (some ⟨pp,0,none⟩)]/\Q7 w w' s k pp pd D):=by
 have hp:=g.prod;apply Ge.ok;unfold Ge.main;rintro ε δ eb rfl;have ρ:=μ.new (w:=w) (two s k) b5;rw[<-eb]at ρ;have ζ:=θ.alloc w (.cells (two s k).toArray b5);have aM:w.alloc (.cells #[.int .i64 s,.int .i64 k] b5)=w.alloc (.cells (two s k).toArray b5):=rfl;rw[aM];generalize w.alloc (.cells (two s k).toArray b5)=δ at ρ ζ⊢;refine⟨s,ρ.at (j:=0) rfl,k,ρ.at (j:=1) rfl,?_⟩;rw[b3 (x:=s*k) (by omega) (by omega),b3 (x:=40+s*k) (by omega) (by omega)];refine κ.use (bh.zS (40+s*k) δ (by omega)) ?_;rintro _ υ ⟨pd,D,rfl,τ,ae⟩
 try dsimp only[bZ,cC,cD,bj,bH,mX]
 rw[cond_neg (by rfl)];have ρ:=ρ.ex τ;have fM:=ζ.trans τ;refine⟨(two s k).toArray,rfl,ρ.cells,?_⟩;have b1:∀i,D i->w.heap.size<=i:=λi o=>by have:=(ae.typed o).2.1;have:=ζ.size;omega
 have ae:=alc ae;show Calls prog 26 _ υ _;apply Ia.ok;unfold Ia.main;rintro aH aa jc rfl;have bu:=μ.new (w:=υ) (two s k) b5;rw[<-jc]at bu;have ab:=θ.alloc υ (.cells (two s k).toArray b5);have gw:υ.alloc (.cells #[.int .i64 s,.int .i64 k] b5)=υ.alloc (.cells (two s k).toArray b5):=rfl;rw[gw];generalize υ.alloc (.cells (two s k).toArray b5)=aa at bu ab⊢;refine⟨(two s k).toArray,rfl,bu.cells,?_⟩;refine κ.use (aiU g (ae.ex ab)) ?_;rintro _ ax ⟨rfl,aiD,sU⟩
 try dsimp only[bH]
 rw[cond_neg (by rfl)];have ju:θ w ax:=(fM.trans ab).then sU.aC b1;have amP:∀i,aiD i->w.heap.size<=i:=λi o=>by
  rcases sU.sub i o with h|h
  ·exact b1 i h
  ·have:=(fM.trans ab).size;omega
 refine κ.use (Jn g sU.live) ?_;rintro _ ba ⟨pp,aiE,rfl,cY,aJ,Ex,Uv⟩
 try dsimp only[bZ,cC,cD,bj,bH,mX]
 rw[cond_neg (by rfl)];refine φ.mk ⟨pd,pp,aiE,rfl,cY,aqC g sU.e8 Ex,ju.trans aJ,λi o=>?_⟩;rcases Uv i o with h|h
 ·exact amP i h
 ·have:=ju.size;omega
structure eW(w0 W:World)(pp pd:Nat)(m:aK)(aj:Int)(A:eC)(n:Nat)(D:a1):Prop where
 is:hj W pp pd m [] aj D
 ok:aK.Ok m A n
 aj:0<=aj/\aj<=n
 new:∀i,D i->w0.heap.size<=i
 ex:θ w0 W
structure nU(w:World)(D:a1)(w':World)(bb:a1):Prop where
 aC:Kp w w' D
 sub:∀i,bb i->D i\/w.heap.size<=i
section
variable{w0 w w':World}{pp pd:Nat}{m m':aK}{aj po:Int}{A C0:eC}{n fk:Nat}{D bb:a1}
theorem nU.refl(w:World)(D:a1):nU w D w D:=⟨Kp.refl _ _,λ_ h=>.inl h⟩
theorem nU.trans{δ υ:World}{e5 cM:a1}(h:nU w D δ e5)(k:nU δ e5 υ cM):nU w D υ cM:=
 ⟨Kp.trans h.aC k.aC (λ_ _ h=>h) (λi o ae=>by rcases h.sub i ae with h|h;exact h;omega),λi o=>by
  rcases k.sub i o with h1|h1
  ·exact h.sub i h1
  ·exact .inr (fo h.aC.size h1)⟩
theorem nU.ex{δ υ:World}{e5:a1}(h:nU w D δ e5)(x:θ δ υ):nU w D υ e5:=⟨h.aC.gr (x.aC _),h.sub⟩
theorem dQ.pE(h:dQ w D w' pp pd m [] aj bb):nU w D w' bb:=⟨h.aC,h.sub⟩
theorem eW.acG(h:eW w0 w pp pd m aj A n D)(k:nU w D w' bb)(xC:hj w' pp pd m' [] po bb)(dq:aK.Ok m' C0 fk)(aO:0<=po/\po<=fk):eW w0 w' pp pd m' po C0 fk bb:=
 ⟨xC,dq,aO,λi o=>by
  rcases k.sub i o with h1|h1
  ·exact h.new i h1
  ·have:=h.ex.size;omega,h.ex.then k.aC h.new⟩
theorem eW.to(h:eW w0 w pp pd m aj A n D)(x:θ w w'):eW w0 w' pp pd m aj A n D:=⟨h.is.ex x,h.ok,h.aj,h.new,h.ex.trans x⟩
theorem eW.loc(h:eW w0 w pp pd m aj A n D){b:Nat}(k:Kp w w' λi=>i=b)(aF:w0.heap.size<=b){e:TypeId}(aO:Typed w e b)(en:e∉nV)(sZ:e∉Bw)(dr:e≠cG):eW w0 w' pp pd m aj A n D:=
 ⟨h.is.aC k (λi ae e=>(h.is.fV ae).1.off (e▸aO) en) (λi o Tq=>(yb.1 Tq).off (o▸aO) sZ) λi o Cb=>(o▸aO:Typed w e i).ne Cb dr rfl,h.ok,h.aj,h.new,h.ex.then k λi o=>by omega⟩
theorem eW.c0(h:eW w0 w pp pd m aj A n D)(k:nU w D w' bb){B:Nat}{e:TypeId}{sz:Nat}{p:J}{l c:Nat}{vs:aU}(γ:μ w B e sz p l c vs)(ar:e∉nV):μ w' B e sz p l c vs:=
 gX k.aC (λi o=>(h.is.fV o).1) γ ar
theorem Q7.tp{s k:Int}(h:Q7 w0 w s k pp pd D):eW w0 w pp pd (wk s k) 0 (xQ s k) 2 D:=⟨h.is,h.ok,by omega,h.new,h.ex⟩
theorem Pp(a b:Int)(aP:0<=a/\a<256)(ω:0<=b/\b<256)(w:World):Gh.C a b w (φ λv w'=>v=.agg (two (6+a%9) (2+b%5)).toArray/\θ w w'):=by apply Gh.ok;unfold Gh.main;rintro ε δ eb rfl;have ρ:=μ.new (w:=w) (two 0 0) b5;rw[<-eb]at ρ;have ζ:=θ.alloc w (.cells (two 0 0).toArray b5);have aM:w.alloc (.cells #[.int .i64 0,.int .i64 0] b5)=w.alloc (.cells (two 0 0).toArray b5):=rfl;rw[aM];generalize w.alloc (.cells (two 0 0).toArray b5)=δ at ρ ζ⊢;have m9:Int.tmod a 9=a%9:=Iv aP.1;have m5:Int.tmod b 5=b%5:=Iv ω.1;rw[m9,m5,b3 (x:=a%9) (by omega) (by omega),b3 (x:=b%5) (by omega) (by omega),b3 (x:=6+a%9) (by omega) (by omega),b3 (x:=2+b%5) (by omega) (by omega)];refine ρ.put (cs:=two (6+a%9) (2+b%5)) rfl nm λυ bP az=>⟨_,rfl,az.cells,φ.mk ⟨rfl,ζ.then bP λi o=>by omega⟩⟩
theorem NY{a b:Int}:pW (6+a%9) (2+b%5):=by unfold pW;omega
theorem Z3(x:Int)(I:0<=x/\x<256)(w:World):tH.C x w (φ λv w'=>∃b,v=.slice (some ⟨b,0,none⟩) 64 64/\θ w w'/\μ w' w.heap.size cG 1 (some ⟨b,0,none⟩) 64 64 (bg (List.replicate 64 x))):=by
 apply tH.ok;unfold tH.main;rintro ε δ eb rfl;have em:madeCells #[Value.int .u8 0] (64*1)=(bg bh.hR).toArray:=E4 1 64 (Value.int .u8 0) (by decide);rw[em];have bS:=μ.alloc (w:=w) (bg bh.hR) cG 1 64 rfl;have aJ:=θ.alloc w (.cells (bg bh.hR).toArray cG);rw[<-eb]at bS;generalize w.alloc (.cells (bg bh.hR).toArray cG)=δ at bS aJ⊢;unfold tH.bd;refine⟨λt0 dW dL ec t4 W=>x=t0/\some ⟨ε,0,none⟩=dW/\64=dL/\64=ec/\0<=t4/\t4<=64/\θ w W/\μ W ε cG 1 (some ⟨ε,0,none⟩) 64 64 (bg (List.replicate t4.toNat x++List.replicate (64-t4.toNat) 0)),λ_ _ _ _ t4 _=>(64-t4).toNat,⟨rfl,rfl,rfl,rfl,by omega,by omega,aJ,bS⟩,?_⟩;clear bS aJ;rintro _ _ _ _ t4 W ⟨rfl,rfl,rfl,rfl,aF,h1,X,γ⟩;unfold tH.ε;obtain⟨j,rfl⟩:=eR aF;rw[cP]at γ⊢;refine bA (λχ=>?_) λχ=>?_
 ·have χ:=cd χ;refine aW (by omega) (aW (by omega) ?_)
  try dsimp only[bj]
  rw[dF,eG];refine γ.dj (j:=j) (v:=.int .u8 x) (by omega) rfl λυ bP az=>?_;rw[b3 (x:=(j:Int)+1) (by omega) (by omega)];have aM:((j:Int)+1).toNat=j+1:=by omega
  refine⟨⟨by trivial,by trivial,by trivial,by trivial,by omega,by omega,X.then bP λi o=>by omega,?_⟩,by((try dsimp only);omega)⟩;rw[aM];have SF:(bg (List.replicate j x++List.replicate (64-j) 0)).set j (.int .u8 x)=bg (List.replicate (j+1) x++List.replicate (64-(j+1)) 0):=by unfold bg;rw[show(64:Nat)-j=(64-(j+1))+1 by omega,FH (n:=64-(j+1)),<-q6,CC _ _ (by rw[sf];exact eF _),sf,u4,It,List.replicate_succ' (n:=j),mc];rfl
  rw[<-SF];exact az
 ·have χ:=dh χ;obtain rfl:j=64:=by omega
  refine φ.mk ⟨ε,rfl,X,?_⟩;rw[u4,List.replicate_zero,pI]at γ;exact γ.lower (by omega)
end
section
variable{w0 w:World}{pp pd:Nat}{m:aK}{aj:Int}{A:eC}{n:Nat}{D:a1}
theorem asK(aO:0<=aj/\aj<=n)(a:aK.Ask):0<=zo aj a/\zo aj a<=((n+5:Nat):Int):=by unfold zo;split<;>omega
theorem Lp(h:eW w0 w pp pd m aj A n D)(ar:n<=600000)(r:bG.cg){B:Nat}(σ:μ w B cG 1 r.p r.n r.c (bG.bytesOf r))(ψ:bG.Small r){R:ak}
  (dx:∀w' bb v,eW w0 w' pp pd (ni m (dp r)).1 (zo aj (dp r)) (gh A (dp r)).1 (n+5) bb->nU w D w' bb->vB w' (λi=>bb i\/i<w.heap.size) v (if 1<=r.k/\r.k<=9 then aj+1 else 0) (ni m (dp r)).2->(ni m (dp r)).2=(gh A (dp r)).2->R (.returned v) w'):mb.C (some ⟨pp,0,none⟩) r.k r.v r.b r.s r.p r.n r.c w R:=by
 have aO:=h.aj;obtain⟨cW,fO⟩:=asL h.ok (by omega) (a:=dp r) ψ.wf;refine aiL h.is h.ok (by omega) r σ ψ (by omega) λw' bb v aL aoS=>?_;have k:=aL.pE;exact dx w' bb v (h.acG k aL.is fO (asK aO _)) k aoS cW
theorem Qz(h:eW w0 w pp pd m aj A n D)(ar:n<=600000)(r:bG.cg)(π:a8 w r.p (bG.bytesOf r))(ψ:bG.Small r){N:Value->ai}{X:List PanicEntry->ai}
  (dx:∀w' bb v,eW w0 w' pp pd (ni m (dp r)).1 (zo aj (dp r)) (gh A (dp r)).1 (n+5) bb->nU w D w' bb->vB w' (λi=>bb i\/i<w.heap.size) v (if 1<=r.k/\r.k<=9 then aj+1 else 0) (ni m (dp r)).2->(ni m (dp r)).2=(gh A (dp r)).2->N v w'):
  κ prog 14 #[.pointer (some ⟨pp,0,none⟩),.agg r.cells.toArray] w N X:=by
 show Gf.C (some ⟨pp,0,none⟩) r.k r.v r.b r.s r.p r.n r.c w _;apply Gf.ok;unfold Gf.main;rintro ε δ eb rfl;have ρ:=μ.new (w:=w) r.cells ev;rw[<-eb]at ρ;have ζ:=θ.alloc w (.cells r.cells.toArray ev);have aM:w.alloc (.cells #[.int .i64 r.k,.int .i64 r.v,.int .i64 r.b,.int .i64 r.s,.slice r.p r.n r.c] ev)=w.alloc (.cells r.cells.toArray ev):=rfl;rw[aM];generalize w.alloc (.cells r.cells.toArray ev)=δ at ρ ζ⊢;rintro ι υ ee rfl;have az:=μ.new (w:=δ) (fP 0 cO cO) eu;rw[<-ee]at az;have τ:=θ.alloc δ (.cells (fP 0 cO cO).toArray eu);have bz:δ.alloc (.cells #[.int .i64 0,.int .i64 0,.int .i64 0,.slice none 0 0,.slice none 0 0] eu)=δ.alloc (.cells (fP 0 cO cO).toArray eu):=rfl;rw[bz];have EK:=ζ.size;have nb:=h.ex.size;have oU:w0.heap.size<=ι:=by omega
 generalize δ.alloc (.cells (fP 0 cO cO).toArray eu)=υ at az τ⊢;have ρ:=ρ.ex τ;rintro aH aa jc rfl;have bu:=μ.alloc (w:=υ) [] cG 1 0 rfl;have ab:=θ.alloc υ (.cells ([]:aU).toArray cG);rw[<-jc]at bu;have gw:υ.alloc (.cells #[] cG)=υ.alloc (.cells ([]:aU).toArray cG):=rfl;rw[gw];generalize υ.alloc (.cells ([]:aU).toArray cG)=aa at bu ab⊢;have ρ:=ρ.ex ab;have az:=az.ex ab;have hS:=(ζ.trans τ).trans ab;refine⟨_,_,_,ρ.at (j:=4) rfl,?_⟩;have xG:=ψ.len;have Hs:=ψ.fZ;refine kT bu (Nat.le_of_lt (bu.ge rfl).2) (bG.bytesOf r) (π.ex hS) (by rw[jP];omega) (GJ _ _) rfl (by omega) (by omega) λaX c2 ax cm cp=>?_;have ahq:∀i,(∃x,(some ⟨aH,0,none⟩:J)=some x/\x.block=i)->Typed aa cG i:=λi⟨x,I,o⟩=>by cases I;exact o▸(bu.typed rfl).1
 have ρ:=ρ.cI cp cG ahq (by decide);have az:=az.cI cp cG ahq (by decide);have ju:θ w ax:=hS.then cp λi⟨x,I,o⟩=>by
  cases I
  have:=(ζ.trans τ).size
  dsimp only at o;omega
 rw[r9]at cm;rw[mN]at cm⊢;refine ρ.dj (j:=4) (v:=.slice aX r.n c2) (by show 4<1*5;omega) rfl λaG ea cz=>?_;have t1:∀i,i=ε->Typed ax ev i:=λi o=>o▸(ρ.typed rfl).1;have cm:=cm.cI ea ev t1 (by decide);have az:=az.cI ea ev t1 (by decide);have ns:θ w aG:=ju.then ea λi o=>by omega
 have c9:=h.to ns;refine⟨(bG.cg.cells {r with p:=aX,c:=c2}).toArray,rfl,cz.cells,?_⟩;show mb.C (some ⟨pp,0,none⟩) r.k r.v r.b r.s aX r.n c2 aG _;refine Lp c9 ar {r with p:=aX,c:=c2} cm ⟨ψ.len,ψ.fZ,ψ.wf⟩ λba bb v en k aL he=>?_
 try dsimp only
 obtain⟨cJ,ch,dc,cy,dd,cE,rfl,fX,jC,qu⟩:=aL
 try dsimp only[hz,iG]
 have az:=c9.c0 k az (by decide);have t2:=(az.typed rfl).1;refine aW rfl (az.put (cs:=nG _ _ cJ ch dc cy dd cE) rfl qw λb9 fN ff=>⟨_,rfl,ff.cells,?_⟩);refine dx b9 bb _ (en.loc fN oU t2 (by decide) (by decide) (by decide)) ?_ ⟨cJ,ch,dc,cy,dd,cE,rfl,fX.aC fN λy ag o=>(fX.typed ag).1.ne (o▸t2) (by decide) rfl,jC.aC fN λy ag o=>(jC.typed ag).1.ne (o▸t2) (by decide) rfl,λx I ae=>qu x I (ae.imp_right λh=>sd h ns.size)⟩ he;have U4:nU w D aG D:=(nU.refl w D).ex ns;have ab8:=U4.trans k;exact⟨Kp.trans ab8.aC fN (λ_ _ h=>h) (λi o e=>by omega),ab8.sub⟩
theorem PW{v:Value}{t:Int}{r:gQ}(aL:vB w D v t r){N:Nat->ai}(K:∀b w' cJ ch dc cy dd cE,θ w w'->w.heap.size<=b->μ w' b eu 5 (some ⟨b,0,none⟩) 1 1 (nG t r cJ ch dc cy dd cE)->μ w' 0 cG 1 cJ ch dc (bg r.bF)->μ w' 0 ck 1 cy dd cE (bs.cK r.j8)->(∀x,cy=some x->¬D x.block)->N b w'):
  dZ v λaQ=>aR w #[.int .i64 0,.int .i64 0,.int .i64 0,cO,cO] eu λε aa=>ο (decide (aQ.size=5)) (hG aa (⟨ε,0,none⟩:Addr) aQ.toList/\∀ax,ax=aa.setCells (⟨ε,0,none⟩:Addr).block (⟨ε,0,none⟩:Addr).off aQ.toList->N ε ax):=by
 obtain⟨cJ,ch,dc,cy,dd,cE,rfl,fX,jC,qu⟩:=aL
 try dsimp only[hz,iG]
 rintro ε δ eb rfl;have ρ:=μ.new (w:=w) (fP 0 cO cO) eu;rw[<-eb]at ρ;have ζ:=θ.alloc w (.cells (fP 0 cO cO).toArray eu);have aM:w.alloc (.cells #[.int .i64 0,.int .i64 0,.int .i64 0,cO,cO] eu)=w.alloc (.cells (fP 0 cO cO).toArray eu):=rfl;rw[aM];generalize w.alloc (.cells (fP 0 cO cO).toArray eu)=δ at ρ ζ⊢;refine aW rfl (ρ.put (cs:=nG t r cJ ch dc cy dd cE) rfl qw λb9 fN ff=>?_);have X:=ζ.then fN λi o=>by omega
 exact K ε b9 cJ ch dc cy dd cE X (by omega) ff (fX.ex X) (jC.ex X) qu
end
section
variable{w0 w:World}{pp pd:Nat}{m:aK}{aj:Int}{A:eC}{n:Nat}{D:a1}
def aqJ:ByteArray:=⟨#[110,111,110,101]⟩
def Ix(r:gQ):ByteArray:=if r.e≠0 then aqJ else strOf r.bF
def nX(v b:Int):aK.Ask:=⟨4,v,b,0,[]⟩
def sg(A:eC)(v b:Int):ByteArray:=Ix (gh A (nX v b)).2
theorem asF(A:eC)(v b:Int):(gh A (nX v b)).1=A:=by
 unfold gh;rw[aY ⟨show(1:Int)<=4 by decide,show(4:Int)<=9 by decide⟩];unfold kc nX;dsimp only;rw[aN (by omega),aN (by omega),aN (by omega),aY rfl];cases ih A.E v with
 |none=>rfl
 |some e=>
  dsimp only;by_cases h:b<0\/e.2.1<=b
  ·rw[aY h];rfl
  ·rw[aN h];cases(e.2.2[b.toNat]?).join<;>rfl
theorem WU(h:eW w0 w pp pd m aj A n D)(ar:n<=600000)(v b:Int){N:Value->ai}{X:List PanicEntry->ai}
  (dx:∀w' bb,eW w0 w' pp pd (ni m (nX v b)).1 (aj+1) A (n+5) bb->nU w D w' bb->(ni m (nX v b)).2=(gh A (nX v b)).2->N (.string (sg A v b)) w'):
  κ prog 17 #[.pointer (some ⟨pp,0,none⟩),.int .i64 v,.int .i64 b] w N X:=by
 show Gi.C (some ⟨pp,0,none⟩) v b w _;apply Gi.ok;unfold Gi.main;show mb.C (some ⟨pp,0,none⟩) 4 v b 0 none 0 0 w _;refine Lp h ar ⟨4,v,b,0,[],none,0,0⟩ (B:=0) (μ.nil _ _ _ _) ⟨rfl,da _,λx I=>by cases I⟩ λδ e5 u en k aL he=>?_
 try dsimp only
 refine PW aL λε ax cJ ch dc cy dd cE aA eb ρ az bu aE=>?_;have J7:=en.to aA;have eY:(gh A (dp ⟨4,v,b,0,[],none,0,0⟩)).1=A:=asF A v b;rw[eY]at J7;rw[he]at ρ az;have uG:dp ⟨4,v,b,0,[],none,0,0⟩=nX v b:=rfl;rw[uG]at ρ az he;have xB:eW w0 ax pp pd (ni m (nX v b)).1 (aj+1) A (n+5) e5:=J7;refine⟨_,ρ.at (j:=1) rfl,bA (λhk=>?_) λhk=>?_⟩
 ·have hk:(gh A (nX v b)).2.e≠0:=by simpa using hk
  have:=dx ax e5 xB (k.ex aA) he
  unfold sg Ix at this;rw[aY hk]at this;exact this
 ·have hk:(gh A (nX v b)).2.e=0:=by simpa using hk
  have an:(gh A (nX v b)).2.bF.length=ch:=by have:=az.1;rw[rl,eG]at this;exact this
  refine⟨_,_,_,ρ.at (j:=3) rfl,(gh A (nX v b)).2.bF,an,az.cells,?_⟩
  have:=dx ax e5 xB (k.ex aA) he
  unfold sg Ix at this;rw[aN (by rw[hk];decide)]at this;exact this
def RX:aK.Ask:=⟨8,0,0,0,[]⟩
theorem ap3(A:eC):gh A RX=(A,{hW with j8:=[(y8 A.E:Int),A.cap]}):=rfl
theorem ahr(h:eW w0 w pp pd m aj A n D)(ar:n<=600000){N:Value->ai}{X:List PanicEntry->ai}
  (dx:∀w' bb,eW w0 w' pp pd (ni m RX).1 (aj+1) A (n+5) bb->nU w D w' bb->N (.int .i64 (y8 A.E:Int)) w'):
  κ prog 18 #[.pointer (some ⟨pp,0,none⟩)] w N X:=by
 show Gg.C (some ⟨pp,0,none⟩) w _;apply Gg.ok;unfold Gg.main;show mb.C (some ⟨pp,0,none⟩) 8 0 0 0 none 0 0 w _;refine Lp h ar ⟨8,0,0,0,[],none,0,0⟩ (B:=0) (μ.nil _ _ _ _) ⟨rfl,da _,λx I=>by cases I⟩ λδ e5 u en k aL he=>?_
 try dsimp only
 refine PW aL λε ax cJ ch dc cy dd cE aA eb ρ az bu aE=>?_;have J7:=en.to aA;have eY:gh A (dp ⟨8,0,0,0,[],none,0,0⟩)=(A,{hW with j8:=[(y8 A.E:Int),A.cap]}):=ap3 A;rw[eY]at J7;rw[he,eY]at ρ bu;have an:2=dd:=by have:=bu.1;simpa[bs.cK]using this
 subst an;refine⟨_,ρ.at (j:=1) rfl,?_⟩;rw[cond_neg (by rfl)];refine⟨_,_,_,ρ.at (j:=4) rfl,?_⟩;rw[cond_neg (by rfl)];refine⟨_,_,_,ρ.at (j:=4) rfl,aW (by omega) ?_⟩;obtain⟨a,rfl,jQ⟩:=bu.cells.many (j:=0) (v:=.int .i64 (y8 A.E:Int)) rfl
 try dsimp only[bj]
 refine⟨_,?_,dx ax e5 J7 (k.ex aA)⟩;have hI:a.add 0=a:=by cases a;rfl
 rw[hI]at jQ;exact jQ
end
section
variable{w0 w:World}{pp pd:Nat}{m:aK}{aj:Int}{A:eC}{n:Nat}{D:a1}
def nine:ao:=List.replicate 64 9
def ah7:eC:=(gh (xQ 6 2) ⟨1,0,0,2,[]⟩).1
def ML:eC:=(gh ah7 ⟨5,0,1,0,nine⟩).1
theorem awy:(gh (xQ 6 2) ⟨1,0,0,2,[]⟩).2.e=0:=by decide+kernel
theorem awz:(gh ah7 ⟨5,0,1,0,nine⟩).2.e=0:=by decide+kernel
theorem ah8:(gh ML (nX 0 1)).2.e=0/\(gh ML (nX 0 1)).2.bF=nine:=by decide+kernel
theorem awA:(y8 ML.E:Int)=1:=by decide+kernel
def IE(k v b s:Int):bG.cg:=⟨k,v,b,s,[],none,0,0⟩
theorem asY(k v b s:Int)(w:World):a8 w (IE k v b s).p (bG.bytesOf (IE k v b s)):=(μ.nil w 0 cG 1).cells
theorem as0(k v b s:Int):bG.Small (IE k v b s):=⟨rfl,da _,λx I=>by cases I⟩
def P0(v b x:Int)(a:Nat):bG.cg:=⟨5,v,b,0,List.replicate 64 x,some ⟨a,0,none⟩,64,64⟩
theorem asX{v b x:Int}(a:Nat)(I:0<=x/\x<256):bG.Small (P0 v b x a):=⟨by simp[P0],by show 64<=_;omega,λy ag=>by rw[u0 (show y∈List.replicate 64 x from ag)];exact I⟩
theorem ah4(w:World):Gj.C w (φ λv w'=>v=.bool true/\θ w w'):=by
 apply Gj.ok;unfold Gj.main;refine κ.use (JE (s:=6) (k:=2) (by unfold pW;omega) w) ?_;rintro _ δ ⟨pd,pp,D,rfl,ω⟩
 try dsimp only[bZ,cC,cD,bj,mX,mB,jb]
 have h1:=ω.tp;refine Qz h1 (by omega) (IE 1 0 0 2) (asY _ _ _ _ _) (as0 _ _ _ _) λaa Jh v au b7 aL he=>?_;refine PW aL λε ba cJ ch dc cy dd cE aJ eb ρ fX jC qu=>?_;have iv:=au.to aJ;rw[he]at ρ;refine κ.use (Z3 9 (by omega) ba) ?_;rintro _ bk ⟨RZ,rfl,aV,of⟩
 try dsimp only[er]
 have h7:=iv.to aV;have ρ:=ρ.ex aV;refine Qz h7 (by omega) (P0 0 1 9 RZ) of.cells (asX RZ (by omega)) λca aiG v kD hU aL anU=>?_;have ρ:=h7.c0 hU ρ (by decide);refine PW aL λι cn ZL ZI ZB acO acJ O2 dG ee az s2 pK si=>?_;have Eg:=kD.to dG;have ρ:=ρ.ex dG;rw[anU]at az;have aM:(gh (xQ 6 2) (dp (IE 1 0 0 2))).2.e=0:=awy;have bz:(gh (gh (xQ 6 2) (dp (IE 1 0 0 2))).1 (dp (P0 0 1 9 RZ))).2.e=0:=awz;refine⟨_,ρ.at (j:=1) rfl,?_⟩;rw[aM,cond_pos (by rfl)];refine⟨_,az.at (j:=1) rfl,?_⟩;rw[bz,cond_pos (by rfl)];have Eg:eW w cn pp pd _ _ ML 12 aiG:=Eg;refine WU Eg (by omega) 0 1 λde XI Td qX axD=>?_
 try dsimp only[JN]
 refine κ.use (Z3 9 (by omega) de) ?_;rintro _ ep ⟨af,rfl,mn,tg⟩
 try dsimp only[er]
 have Te:=Td.to mn;refine⟨nine,rfl,tg.cells,?_⟩;have HE:sg ML 0 1=strOf nine:=by unfold sg Ix;rw[aN (by rw[ah8.1];decide),ah8.2]
 rw[HE,cond_pos (by simp)];refine ahr Te (by omega) λgP awQ Tg KS=>?_
 try dsimp only[bH]
 rw[awA];exact φ.mk ⟨rfl,Tg.ex⟩
end
def nq(W bE:World):Prop:=∀(B:Nat)(e:TypeId)(sz:Nat)(p:J)(l c:Nat)(vs:aU),μ W B e sz p l c vs->e∉nV->μ bE B e sz p l c vs
end Go.Proofs.YtcpdfhkhaekekaaGreat.G.cV

/- The walk of the functions, and the plain laws of the model: part of the proof. Conditions: none. -/
import Derived.Test.YtcpdfhkhaekekaaGreatA14
set_option linter.unusedVariables false
set_option linter.unusedSimpArgs false
namespace Go.Proofs.YtcpdfhkhaekekaaGreat.G.cY
open Go.bJ Go.RowKit cF dI eI cS aQ
section
variable{w:World}{pd:Nat}{s k:Int}{D:bl}
def eu(bw kW:Nat)(n:Nat)(cf ps:Nat):wH:=⟨bw,cf,ps,none,0,kW,n⟩
def xp(pd bw kW n:Nat)(s k:Int)(r t:Value):aY:=[.pointer (some ⟨bw,0,none⟩),.pointer (some ⟨pd,0,none⟩),.int .i64 s,.int .i64 k,r,t,.int .i64 1,.int .i64 16,.slice none 0 0,.bool false,.int .i64 0,.slice (some ⟨kW,0,none⟩) n n,.bool false]
theorem abX(pd bw kW n:Nat)(s k:Int):Instr.fill (λi=>[(0,1),(1,1),(2,2),(4,1),(5,1),(6,1),(7,1),(8,1),(9,1),(10,1),(11,1),(12,1)].toArray[i]?) #[(Value.pointer none),(Value.pointer none),(Value.int .i64 0),(Value.int .i64 0),(Value.pointer none),(Value.pointer none),(Value.int .i64 0),(Value.int .i64 0),(Value.slice none 0 0),(Value.bool false),(Value.int .i64 0),(Value.slice none 0 0),(Value.bool false)] [(0,(Value.pointer (some ⟨bw,0,none⟩))),(1,(Value.pointer (some ⟨pd,0,none⟩))),(2,(Value.agg (two s k).toArray)),(5,(Value.int .i64 1)),(6,(Value.int .i64 16)),(8,(Value.bool (decide ((0:Int)>0)))),(10,(Value.slice (some ⟨kW,0,none⟩) n n))]=some (xp pd bw kW n s k (.pointer none) (.pointer none)).toArray:=by simp[Instr.fill,Value.cells,two,bB.v64,xp]
theorem afc(g:mO s k){W:World}(x:η w W)(ah:ba.hF W 0 pd (uj (40+s*k).toNat s k) D){δ ζ pp bw kW n ajT:Nat}{dm:bl}(hw:w.heap.size<=pp)(ar:s.toNat=n){ps:aY}(σ:μ W δ b3 24 (some ⟨δ,0,none⟩) 1 1 (bT (cH []) ps))(cb:fV W (cH []) ps)(af:μ W ζ b2 2 (some ⟨ζ,0,none⟩) 1 1 (two s k)){p:γ}{c:Nat}(of:μ W ajT cz 1 p (yd s).length c (bA.cW (yd s)))
  (bH:b9.nV W 0 bw [] 0 dm)(os:μ W kW cz 1 (some ⟨kW,0,none⟩) n n (bA.cW (List.replicate n 0)))(op:μ W pp sy 13 (some ⟨pp,0,none⟩) 1 1 (xp pd bw kW n s k (.pointer none) (.pointer none)))(aoH:∀i,dm i->w.heap.size<=i)(azX:w.heap.size<=kW):
  vX.aV δ ζ p (yd s).length c pp W (ω λv w'=>∃pp bk,v=.tuple #[.pointer (some ⟨pp,0,none⟩),.int .i64 0]/\hY w' pp pd (vS s k) [] 0 bk/\η w w'/\bA.Good (su s k)/\∀i,bk i->D i\/w.heap.size<=i):=by
 have ea:=g.wide;obtain⟨f1,f2,f3⟩:=(mC ea).1 (IL ea);obtain⟨r7,ayR,ayS,ayT⟩:=agI g;unfold vX.aV;refine⟨(bT (cH []) ps).toArray,by rw[fP];exact cb.at.eA,σ.cells,?_⟩;refine κ.use (ZD cb.at f1) ?_;rintro _ dP ⟨cf,rfl,oT,φ⟩
 try dsimp only[ca,cT,cU,bo,bL,n0]
 have azP:W.heap.size<=cf:=by obtain⟨gq,φ⟩:=φ;exact(φ.o.ge rfl).1
 have op:=op.ex oT;refine op.dv (j:=4) (v:=.pointer (some ⟨cf,0,none⟩)) (by omega) rfl λeE te op=>?_;change μ eE pp sy 13 (some ⟨pp,0,none⟩) 1 1 (xp pd bw kW n s k (.pointer (some ⟨cf,0,none⟩)) (.pointer none))at op;have tp:∀i,i=pp->h6 dP CJ i:=λi I=>I▸⟨_,by simp,((‹μ dP pp sy 13 (some ⟨pp,0,none⟩) 1 1 _›).typed rfl).1⟩;have Dn:kM dP 0 cf (cH []):=by obtain⟨gq,φ⟩:=φ;exact⟨gq,⟨φ.o.lower (eR _),φ.len,φ.jQ,φ.tb⟩⟩
 have af:=hE te tp (af.ex oT) (by decide);have of:=hE te tp (of.ex oT) (by decide);have os:=hE te tp (os.ex oT) (by decide);have ah:=wU te tp (ah.ex oT) (by decide);have bH:=wY te tp (bH.ex oT) (by decide) (by decide);have φ:=xE te tp Dn (by decide) (by decide);have TA:η w eE:=(x.trans oT).then te λi I=>by omega
 have Dq:=x.size;have Mk:=oT.size;have Dr:=te.size;have azY:kW<eE.heap.size:=(os.typed rfl).2.2;clear cb σ Dn;refine⟨(two s k).toArray,rfl,af.cells,?_⟩;refine κ.use (bA.A3 s k eE of.cells rfl (by have:=UT s.toNat (lays (used (cH []))) [];unfold yd;omega)) ?_;rw[r7];rintro _ ey ⟨pH,M8,rfl,F0,dq,ab⟩
 try dsimp only[ca,cT,cU,bo,bL,n0]
 have op:=op.ex pH;have Oa:∀i,i=pp->h6 ey CJ i:=λi I=>I▸⟨_,by simp,(op.typed rfl).1⟩;have adL:=λi I=>(ab.typed (i:=i) I).2.1;refine op.dv (j:=5) (v:=.pointer (some ⟨M8,0,none⟩)) (by omega) rfl λeg yC op=>?_;have os:=hE yC Oa (os.ex pH) (by decide);have ah:=wU yC Oa (ah.ex pH) (by decide);have bH:=wY yC Oa (bH.ex pH) (by decide) (by decide);have φ:=xE yC Oa (φ.ex pH) (by decide) (by decide);have ab:=Ax yC Oa ab (by decide);have Ez:η w eg:=(TA.trans pH).then yC λi I=>by omega
 have n3:bA.mr eg 0 M8 (su s k) dq:=by obtain⟨pf,E0,⟨aw,a2⟩,aoI⟩:=ab;exact⟨pf,E0,⟨aw.lower (eR _),a2.lower (eR _)⟩,aoI⟩
 refine ω.mk ⟨pp,_,rfl,⟨eu bw kW n cf M8,dm,D,dq,⟨?_,bH,ah,φ,n3,μ.nil _ _ _ _,?_,λI=>?_⟩,λi=>og⟩,Ez,F0,λi I=>?_⟩
 ·have e:mZ pd (eu bw kW n cf M8) (vS s k)=(xp pd bw kW n s k (.pointer (some ⟨cf,0,none⟩)) (.pointer none)).set 5 (.pointer (some ⟨M8,0,none⟩)):=by
   unfold mZ xp vS eu;dsimp only;rw[me,ar];rfl
  rw[e];exact op.lower (eR _)
 ·show μ eg 0 cz 1 (some ⟨kW,0,none⟩) (List.replicate s.toNat (0:Int)).length n (bA.cW (List.replicate s.toNat 0));rw[me,ar];exact os.lower (eR _)
 ·have h1:=adL _ I;dsimp only[eu]at h1;omega
 ·rcases I with I|I|I|I|I|⟨y,ag,I⟩|I
  ·exact .inr (by omega)
  ·exact .inr (aoH i I)
  ·exact .inl I
  ·have I:i=cf:=I;exact .inr (by omega)
  ·have:=adL i I
   exact .inr (by omega)
  ·cases ag
  ·have I:i=kW:=I;exact .inr (by omega)
theorem aci{w:World}{B bw:Nat}{D:bl}(h:b9.nV w B bw [] 0 D):b9.nV w 0 bw [] 0 D:=by obtain⟨q,c,⟨h1,ι,aJ⟩,cn⟩:=h;exact⟨q,c,⟨h1.lower (eR _),ι.lower (eR _),λx J=>by cases J⟩,cn⟩
theorem agK(n:Nat):madeCells #[Value.int .i64 0] (n*1)=(bA.cW (List.replicate n 0)).toArray:=by
 have:=DD 1 (n*1) (Value.int .i64 0) (by decide)
 rw[eS]at this⊢;rw[show(#[Value.int .i64 0]:aj)=(List.replicate 1 (Value.int .i64 0)).toArray from rfl,this];unfold bA.cW;rw[JJ]
theorem aok(g:mO s k):2<=(yd s).length:=by
 have h:∀a:_root_.Fin 9,∀b:_root_.Fin 5,(λ(s k:Int)=>2<=(yd s).length) (6+a.val) (2+b.val):=by decide+kernel
 exact acj (P:=λs k=>2<=(yd s).length) h g
theorem KJ(g:mO s k)(ak:Live w 0 pd (uj (40+s*k).toNat s k) D):vX.C (some ⟨pd,0,none⟩) w (ω λv w'=>∃pp bk,v=.tuple #[.pointer (some ⟨pp,0,none⟩),.int .i64 0]/\hY w' pp pd (vS s k) [] 0 bk/\η w w'/\bA.Good (su s k)/\∀i,bk i->D i\/w.heap.size<=i):=by
 have ea:=g.wide;have hp:=g.prod;obtain⟨f1,f2,f3⟩:=ab8 ea (n:=(40+s*k).toNat) (by omega);apply vX.ok;unfold vX.main;refine κ.use (akU ak f1 (by omega) ea (IL ea) (by rw[f3];omega) f2 (aok g)) ?_;rintro _ ε ⟨ps,rfl,cb,θ⟩
 try dsimp only[ca,cT,cU,n1,UX,aon,bo,bL,hA,h7]
 rintro δ χ eL rfl ζ ao eG rfl;rw[Il,Ie];rw[Il]at eG;have σ:=μ.new (w:=ε) hX b3;rw[<-eL]at σ;have ad:=η.alloc ε (.cells hX.toArray b3);generalize ε.alloc (.cells hX.toArray b3)=χ at σ ad eG⊢;have af:=μ.new (w:=χ) (two 0 0) b2;rw[<-eG]at af;have aC:=η.alloc χ (.cells (two 0 0).toArray b2);generalize χ.alloc (.cells (two 0 0).toArray b2)=ao at af aC⊢;have iF:=ad.trans aC;have p1:ε.heap.size<=ζ:=by have:=ad.size;omega
 have σ:=σ.ex aC;have cb:=cb.ex iF;refine aT (by rw[fP];exact cb.at.eA) (σ.put (cs:=bT (cH []) ps) cb.at.eA cb.at.one λan dT cB=>?_);have t1:∀i,i=δ->Typed ao b3 i:=λi I=>I▸(σ.typed rfl).1;have af:=af.cV dT b3 t1 (by decide);have cb:=cb.cV dT b3 t1 (by decide);have nW:η ε an:=iF.then dT λi I=>by omega
 refine aT rfl (af.put (cs:=two s k) rfl nP λaZ eD bY=>?_);have t2:∀i,i=ζ->Typed an b2 i:=λi I=>I▸(af.typed rfl).1;have cB:=cB.cV eD b2 t2 (by decide);have cb:=cb.cV eD b2 t2 (by decide);have k4:η w aZ:=θ.trans (nW.then eD λi I=>by omega);rw[cond_neg (by rfl)];refine⟨(bT (cH []) ps).toArray,by rw[fP];exact cb.at.eA,cB.cells,(two s k).toArray,rfl,bY.cells,?_⟩;have BC:(gK (used (cH []))).length<=4096:=by decide
 refine κ.use (Tc cb.at (IL ea).1 BC (but:=[]) (bp:=none) (bn:=0) (bc:=0) (μ.nil aZ 0 cz 1).cells rfl (by omega)) ?_;rintro _ a8 ⟨ae,c1,rfl,aU,of⟩
 try dsimp only[ca,cT,cU,bo,bL,ee]
 have cj:=aU.trans (η.drew a8);have of:=of.ex (η.drew a8);have cB:=cB.ex cj;have bY:=bY.ex cj;have cb:=cb.ex cj;have A9:=k4.trans cj;generalize a8.drew=bV at of cB bY cb A9⊢;refine⟨(two s k).toArray,rfl,bY.cells,s,bY.at (j:=0) rfl,?_,?_⟩
 ·refine κ.use (b9.A3 bV) ?_;rintro _ bW ⟨rfl,ct,dm,bH⟩
  try dsimp only[h7,n0]
  have bY:=bY.ex ct;refine⟨bY.at (j:=0) rfl,aT rfl ⟨bY.cells,aT (by omega) (aT (by omega) (aT (by omega) ?_))⟩⟩;rintro ax cd jm rfl;rw[agK];have os:=μ.alloc (w:=bW) (bA.cW (List.replicate s.toNat 0)) cz 1 s.toNat (by simp[bA.cW]);rw[<-jm]at os;have eW:=η.alloc bW (.cells (bA.cW (List.replicate s.toNat 0)).toArray cz);generalize bW.alloc (.cells (bA.cW (List.replicate s.toNat 0)).toArray cz)=cd at os eW⊢;refine aT rfl ⟨(bY.ex eW).cells,?_⟩;have zU:=abX pd bV.heap.size ax s.toNat s k;unfold ξ;rw[zU];dsimp only;rintro aa cm lX rfl;have op:=μ.new (w:=cd) (xp pd bV.heap.size ax s.toNat s k (.pointer none) (.pointer none)) sy;rw[<-lX]at op;have df:=η.alloc cd (.cells (xp pd bV.heap.size ax s.toNat s k (.pointer none) (.pointer none)).toArray sy);generalize cd.alloc (.cells (xp pd bV.heap.size ax s.toNat s k (.pointer none) (.pointer none)).toArray sy)=cm at op df⊢;have nv:=eW.trans df;have sI:=ct.trans nv;have aqO:=A9.size;have azW:=ct.size;have aqN:=eW.size;exact afc g (A9.trans sI) (ak.dev.ex (A9.trans sI)) (by omega) rfl ((cB.ex sI).lower (dO _)) (cb.ex sI) ((bY.ex nv).lower (dO _)) (of.ex sI) (aci (bH.ex nv)) (os.ex df) op (λi I=>by have:=(bH.typed I).2.1;omega) (by omega)
 ·refine aT (by omega) (aT (by omega) (aT (by omega) ?_));rintro cu cE lY rfl;rw[agK];have os:=μ.alloc (w:=bV) (bA.cW (List.replicate s.toNat 0)) cz 1 s.toNat (by simp[bA.cW]);rw[<-lY]at os;have gb:=η.alloc bV (.cells (bA.cW (List.replicate s.toNat 0)).toArray cz);generalize bV.alloc (.cells (bA.cW (List.replicate s.toNat 0)).toArray cz)=cE at os gb⊢;have aeY:=bY.ex gb;refine aT rfl ⟨aeY.cells,?_⟩;refine κ.use (b9.A3 cE) ?_;rintro _ da ⟨rfl,jo,dm,bH⟩
  try dsimp only[h7,n0]
  refine aT rfl ⟨(aeY.ex jo).cells,?_⟩;have zU:=abX pd cE.heap.size cu s.toNat s k;unfold ξ;rw[zU];dsimp only;rintro dR ed w4 rfl;have op:=μ.new (w:=da) (xp pd cE.heap.size cu s.toNat s k (.pointer none) (.pointer none)) sy;rw[<-w4]at op;have jb:=η.alloc da (.cells (xp pd cE.heap.size cu s.toNat s k (.pointer none) (.pointer none)).toArray sy);generalize da.alloc (.cells (xp pd cE.heap.size cu s.toNat s k (.pointer none) (.pointer none)).toArray sy)=ed at op jb⊢;have nv:=jo.trans jb;have sI:=gb.trans nv;have aqO:=A9.size;have azR:=gb.size;have azS:=jo.size;exact afc g (A9.trans sI) (ak.dev.ex (A9.trans sI)) (by omega) rfl ((cB.ex sI).lower (dO _)) (cb.ex sI) ((bY.ex sI).lower (dO _)) (of.ex sI) (aci (bH.ex jb)) (os.ex nv) op (λi I=>by have:=(bH.typed I).2.1;omega) (by omega)
end
open Tryz
theorem am3{w:World}{B pd:Nat}{d:ba.du}{D:bl}(h:ba.hF w B pd d D):ba.hF w 0 pd d D:=by obtain⟨bs,bn,pl,kT,⟨h1,ι,aJ,cK,dx⟩,cn⟩:=h;exact⟨bs,bn,pl,kT,⟨h1.lower (eR _),ι.lower (eR _),aJ.lower (eR _),cK.lower (eR _),dx⟩,cn⟩
structure S0(w:World)(w':World)(s k:Int)(pp pd:Nat)(D:bl):Prop where
 is:hY w' pp pd (vS s k) [] 0 D
 ok:aQ.Ok (vS s k) (sj s k) 2
 ex:η w w'
 new:∀i,D i->w.heap.size<=i
theorem KX{s k:Int}(g:mO s k)(w:World):HC.C s k w (ω λv w'=>∃pd pp D,v=.tuple #[.pointer (some ⟨pd,0,none⟩),.pointer (some ⟨pp,0,none⟩)]/\S0 w w' s k pp pd D):=by
 have hp:=g.prod;apply HC.ok;unfold HC.main;rintro δ ε eL rfl;have σ:=μ.new (w:=w) (two s k) b2;rw[<-eL]at σ;have θ:=η.alloc w (.cells (two s k).toArray b2);have aP:w.alloc (.cells #[.int .i64 s,.int .i64 k] b2)=w.alloc (.cells (two s k).toArray b2):=rfl;rw[aP];generalize w.alloc (.cells (two s k).toArray b2)=ε at σ θ⊢;refine⟨s,σ.at (j:=0) rfl,k,σ.at (j:=1) rfl,?_⟩;rw[bS (x:=s*k) (by omega) (by omega),bS (x:=40+s*k) (by omega) (by omega)];refine κ.use (ba.A3 (40+s*k) ε (by omega)) ?_;rintro _ υ ⟨pd,D,rfl,ρ,ah⟩
 try dsimp only[ca,cT,cU,bo,bL,n0]
 rw[cond_neg (by rfl)];have σ:=σ.ex ρ;have ft:=θ.trans ρ;refine⟨(two s k).toArray,rfl,σ.cells,?_⟩;have cn:∀i,D i->w.heap.size<=i:=λi I=>by have:=(ah.typed I).2.1;have:=θ.size;omega
 have ah:=am3 ah;show Calls prog 26 _ υ _;apply JD.ok;unfold JD.main;rintro ax χ jm rfl;have bh:=μ.new (w:=υ) (two s k) b2;rw[<-jm]at bh;have ad:=η.alloc υ (.cells (two s k).toArray b2);have gA:υ.alloc (.cells #[.int .i64 s,.int .i64 k] b2)=υ.alloc (.cells (two s k).toArray b2):=rfl;rw[gA];generalize υ.alloc (.cells (two s k).toArray b2)=χ at bh ad⊢;refine⟨(two s k).toArray,rfl,bh.cells,?_⟩;refine κ.use (akm g (ah.ex ad)) ?_;rintro _ ao ⟨rfl,aj5,ug⟩
 try dsimp only[bL]
 rw[cond_neg (by rfl)];have iF:η w ao:=(ft.trans ad).then ug.aO cn;have aoF:∀i,aj5 i->w.heap.size<=i:=λi I=>by
  rcases ug.sub i I with h|h
  ·exact cn i h
  ·have:=(ft.trans ad).size;omega
 refine κ.use (KJ g ug.live) ?_;rintro _ aZ ⟨pp,aj6,rfl,dd,aM,F0,Wg⟩
 try dsimp only[ca,cT,cU,bo,bL,n0]
 rw[cond_neg (by rfl)];refine ω.mk ⟨pd,pp,aj6,rfl,dd,asA g ug.fz F0,iF.trans aM,λi I=>?_⟩;rcases Wg i I with h|h
 ·exact aoF i h
 ·have:=iF.size;omega
structure hZ(w0 W:World)(pp pd:Nat)(m:aQ)(aA:Int)(A:c6)(n:Nat)(D:bl):Prop where
 is:hY W pp pd m [] aA D
 ok:aQ.Ok m A n
 aA:0<=aA/\aA<=n
 new:∀i,D i->w0.heap.size<=i
 ex:η w0 W
structure o4(w:World)(D:bl)(w':World)(bk:bl):Prop where
 aO:Kp w w' D
 sub:∀i,bk i->D i\/w.heap.size<=i
section
variable{w0 w w':World}{pp pd:Nat}{m m':aQ}{aA qt:Int}{A gm:c6}{n fG:Nat}{D bk:bl}
theorem o4.refl(w:World)(D:bl):o4 w D w D:=⟨Kp.refl _ _,λ_ h=>.inl h⟩
theorem o4.trans{ε υ:World}{fx gO:bl}(h:o4 w D ε fx)(k:o4 ε fx υ gO):o4 w D υ gO:=
 ⟨Kp.trans h.aO k.aO (λ_ _ h=>h) (λi I ah=>by rcases h.sub i ah with h|h;exact h;omega),λi I=>by
  rcases k.sub i I with h1|h1
  ·exact h.sub i h1
  ·exact .inr (gE h.aO.size h1)⟩
theorem o4.ex{ε υ:World}{fx:bl}(h:o4 w D ε fx)(x:η ε υ):o4 w D υ fx:=⟨h.aO.gL (x.aO _),h.sub⟩
theorem er.Ju(h:er w D w' pp pd m [] aA bk):o4 w D w' bk:=⟨h.aO,h.sub⟩
theorem hZ.W9(h:hZ w0 w pp pd m aA A n D)(k:o4 w D w' bk)(yo:hY w' pp pd m' [] qt bk)(dJ:aQ.Ok m' gm fG)(aS:0<=qt/\qt<=fG):hZ w0 w' pp pd m' qt gm fG bk:=
 ⟨yo,dJ,aS,λi I=>by
  rcases k.sub i I with h1|h1
  ·exact h.new i h1
  ·have:=h.ex.size;omega,h.ex.then k.aO h.new⟩
theorem hZ.to(h:hZ w0 w pp pd m aA A n D)(x:η w w'):hZ w0 w' pp pd m aA A n D:=⟨h.is.ex x,h.ok,h.aA,h.new,h.ex.trans x⟩
theorem hZ.loc(h:hZ w0 w pp pd m aA A n D){b:Nat}(k:Kp w w' λi=>i=b)(aF:w0.heap.size<=b){e:TypeId}(aS:Typed w e b)(fe:e∉ow)(Dc:e∉Iw)(dD:e≠dt):hZ w0 w' pp pd m aA A n D:=
 ⟨h.is.aO k (λi ah e=>(h.is.im ah).1.off (e▸aS) fe) (λi I aoM=>(H2.1 aoM).off (I▸aS) Dc) λi I Jd=>(I▸aS:Typed w e i).ne Jd dD rfl,h.ok,h.aA,h.new,h.ex.then k λi I=>by omega⟩
theorem hZ.dS(h:hZ w0 w pp pd m aA A n D)(k:o4 w D w' bk){B:Nat}{e:TypeId}{sz:Nat}{p:γ}{l c:Nat}{vs:aY}(o:μ w B e sz p l c vs)(ar:e∉ow):μ w' B e sz p l c vs:=
 hE k.aO (λi I=>(h.is.im I).1) o ar
theorem S0.tp{s k:Int}(h:S0 w0 w s k pp pd D):hZ w0 w pp pd (vS s k) 0 (sj s k) 2 D:=⟨h.is,h.ok,by omega,h.new,h.ex⟩
theorem Rb(a b:Int)(aR:0<=a/\a<256)(τ:0<=b/\b<256)(w:World):HF.C a b w (ω λv w'=>v=.agg (two (6+a%9) (2+b%5)).toArray/\η w w'):=by apply HF.ok;unfold HF.main;rintro δ ε eL rfl;have σ:=μ.new (w:=w) (two 0 0) b2;rw[<-eL]at σ;have θ:=η.alloc w (.cells (two 0 0).toArray b2);have aP:w.alloc (.cells #[.int .i64 0,.int .i64 0] b2)=w.alloc (.cells (two 0 0).toArray b2):=rfl;rw[aP];generalize w.alloc (.cells (two 0 0).toArray b2)=ε at σ θ⊢;have m9:Int.tmod a 9=a%9:=xD aR.1;have m5:Int.tmod b 5=b%5:=xD τ.1;rw[m9,m5,bS (x:=a%9) (by omega) (by omega),bS (x:=b%5) (by omega) (by omega),bS (x:=6+a%9) (by omega) (by omega),bS (x:=2+b%5) (by omega) (by omega)];refine σ.put (cs:=two (6+a%9) (2+b%5)) rfl nP λυ bK af=>⟨_,rfl,af.cells,ω.mk ⟨rfl,θ.then bK λi I=>by omega⟩⟩
theorem PM{a b:Int}:mO (6+a%9) (2+b%5):=by unfold mO;omega
theorem wW(x:Int)(J:0<=x/\x<256)(w:World):u1.C x w (ω λv w'=>∃b,v=.slice (some ⟨b,0,none⟩) 64 64/\η w w'/\μ w' w.heap.size dt 1 (some ⟨b,0,none⟩) 64 64 (a7 (List.replicate 64 x))):=by
 apply u1.ok;unfold u1.main;rintro δ ε eL rfl;have em:madeCells #[Value.int .u8 0] (64*1)=(a7 ba.gN).toArray:=DD 1 64 (Value.int .u8 0) (by decide);rw[em];have bY:=μ.alloc (w:=w) (a7 ba.gN) dt 1 64 rfl;have aM:=η.alloc w (.cells (a7 ba.gN).toArray dt);rw[<-eL]at bY;generalize w.alloc (.cells (a7 ba.gN).toArray dt)=ε at bY aM⊢;unfold u1.bb;refine⟨λt0 de c3 dy t4 W=>x=t0/\some ⟨δ,0,none⟩=de/\64=c3/\64=dy/\0<=t4/\t4<=64/\η w W/\μ W δ dt 1 (some ⟨δ,0,none⟩) 64 64 (a7 (List.replicate t4.toNat x++List.replicate (64-t4.toNat) 0)),λ_ _ _ _ t4 _=>(64-t4).toNat,⟨rfl,rfl,rfl,rfl,by omega,by omega,aM,bY⟩,?_⟩;clear bY aM;rintro _ _ _ _ t4 W ⟨rfl,rfl,rfl,rfl,aF,h1,X,o⟩;unfold u1.δ;obtain⟨j,rfl⟩:=eF aF;rw[ch]at o⊢;refine bt (λψ=>?_) (λψ=>?_)
 ·have ψ:=b6 ψ;refine aT (by omega) (aT (by omega) ?_)
  try dsimp only[bo]
  rw[dG,eS];refine o.dv (j:=j) (v:=.int .u8 x) (by omega) rfl λυ bK af=>?_;rw[bS (x:=(j:Int)+1) (by omega) (by omega)];have aP:((j:Int)+1).toNat=j+1:=by omega
  refine⟨⟨by trivial,by trivial,by trivial,by trivial,by omega,by omega,X.then bK λi I=>by omega,?_⟩,by((try dsimp only);omega)⟩;rw[aP];have Uw:(a7 (List.replicate j x++List.replicate (64-j) 0)).set j (.int .u8 x)=a7 (List.replicate (j+1) x++List.replicate (64-(j+1)) 0):=by unfold a7;rw[show(64:Nat)-j=(64-(j+1))+1 by omega,DO (n:=64-(j+1)),<-rK,Cf _ _ (by rw[me];exact dO _),me,tv,G4,RE (n:=j),nc];rfl
  rw[<-Uw];exact af
 ·have ψ:=dn ψ;obtain rfl:j=64:=by omega
  refine ω.mk ⟨δ,rfl,X,?_⟩;rw[tv,List.replicate_zero,qi]at o;exact o.lower (by omega)
end
section
variable{w0 w:World}{pp pd:Nat}{m:aQ}{aA:Int}{A:c6}{n:Nat}{D:bl}
theorem auD(aS:0<=aA/\aA<=n)(a:aQ.Ask):0<=y3 aA a/\y3 aA a<=((n+5:Nat):Int):=by unfold y3;split<;>omega
theorem XI(h:hZ w0 w pp pd m aA A n D)(ar:n<=600000)(r:b9.cZ){B:Nat}(φ:μ w B dt 1 r.p r.n r.c (b9.bytesOf r))(ab:b9.Small r){R:au}
  (dZ:∀w' bk v,hZ w0 w' pp pd (kV m (dW r)).1 (y3 aA (dW r)) (cQ A (dW r)).1 (n+5) bk->o4 w D w' bk->wJ w' bk v (if 1<=r.k/\r.k<=9 then aA+1 else 0) (kV m (dW r)).2->(kV m (dW r)).2=(cQ A (dW r)).2->R (.returned v) w'):pw.C (some ⟨pp,0,none⟩) r.k r.v r.b r.s r.p r.n r.c w R:=by
 have aS:=h.aA;obtain⟨dK,fp⟩:=auE h.ok (by omega) (a:=dW r) ab.wf;refine akd h.is h.ok (by omega) r φ ab (by omega) λw' bk v az aqK=>?_;have k:=az.Ju;exact dZ w' bk v (h.W9 k az.is fp (auD aS _)) k aqK dK
theorem Su(h:hZ w0 w pp pd m aA A n D)(ar:n<=600000)(r:b9.cZ)(π:bd w r.p (b9.bytesOf r))(ab:b9.Small r){N:Value->al}{X:List PanicEntry->al}
  (dZ:∀w' bk v,hZ w0 w' pp pd (kV m (dW r)).1 (y3 aA (dW r)) (cQ A (dW r)).1 (n+5) bk->o4 w D w' bk->wJ w' bk v (if 1<=r.k/\r.k<=9 then aA+1 else 0) (kV m (dW r)).2->(kV m (dW r)).2=(cQ A (dW r)).2->N v w'):
  κ prog 14 #[.pointer (some ⟨pp,0,none⟩),.agg r.cells.toArray] w N X:=by
 show HD.C (some ⟨pp,0,none⟩) r.k r.v r.b r.s r.p r.n r.c w _;apply HD.ok;unfold HD.main;rintro δ ε eL rfl;have σ:=μ.new (w:=w) r.cells e7;rw[<-eL]at σ;have θ:=η.alloc w (.cells r.cells.toArray e7);have aP:w.alloc (.cells #[.int .i64 r.k,.int .i64 r.v,.int .i64 r.b,.int .i64 r.s,.slice r.p r.n r.c] e7)=w.alloc (.cells r.cells.toArray e7):=rfl;rw[aP];generalize w.alloc (.cells r.cells.toArray e7)=ε at σ θ⊢;rintro ζ υ eG rfl;have af:=μ.new (w:=ε) (fJ 0 bR bR) ck;rw[<-eG]at af;have ρ:=η.alloc ε (.cells (fJ 0 bR bR).toArray ck);have bM:ε.alloc (.cells #[.int .i64 0,.int .i64 0,.int .i64 0,.slice none 0 0,.slice none 0 0] ck)=ε.alloc (.cells (fJ 0 bR bR).toArray ck):=rfl;rw[bM];have Dq:=θ.size;have n3:=h.ex.size;have p1:w0.heap.size<=ζ:=by omega
 generalize ε.alloc (.cells (fJ 0 bR bR).toArray ck)=υ at af ρ⊢;have σ:=σ.ex ρ;rintro ax χ jm rfl;have bh:=μ.alloc (w:=υ) [] dt 1 0 rfl;have ad:=η.alloc υ (.cells ([]:aY).toArray dt);rw[<-jm]at bh;have gA:υ.alloc (.cells #[] dt)=υ.alloc (.cells ([]:aY).toArray dt):=rfl;rw[gA];generalize υ.alloc (.cells ([]:aY).toArray dt)=χ at bh ad⊢;have σ:=σ.ex ad;have af:=af.ex ad;have ha:=(θ.trans ρ).trans ad;refine⟨_,_,_,σ.at (j:=4) rfl,?_⟩;have zY:=ab.len;have LY:=ab.gC;refine mx bh (Nat.le_of_lt (bh.ge rfl).2) (b9.bytesOf r) (π.ex ha) (by rw[jM];omega) (Kr _ _) rfl (by omega) (by omega) λaX c2 ao cJ cI=>?_;have aiP:∀i,(∃x,(some ⟨ax,0,none⟩:γ)=some x/\x.block=i)->Typed χ dt i:=λi⟨x,J,I⟩=>by cases J;exact I▸(bh.typed rfl).1
 have σ:=σ.cV cI dt aiP (by decide);have af:=af.cV cI dt aiP (by decide);have iF:η w ao:=ha.then cI λi⟨x,J,I⟩=>by
  cases J
  have:=(θ.trans ρ).size
  dsimp only at I;omega
 rw[uJ]at cJ;rw[oh]at cJ⊢;refine σ.dv (j:=4) (v:=.slice aX r.n c2) (by show 4<1*5;omega) rfl λan dT cB=>?_;have t1:∀i,i=δ->Typed ao e7 i:=λi I=>I▸(σ.typed rfl).1;have cJ:=cJ.cV dT e7 t1 (by decide);have af:=af.cV dT e7 t1 (by decide);have nW:η w an:=iF.then dT λi I=>by omega
 have dx:=h.to nW;refine⟨(b9.cZ.cells {r with p:=aX,c:=c2}).toArray,rfl,cB.cells,?_⟩;show pw.C (some ⟨pp,0,none⟩) r.k r.v r.b r.s aX r.n c2 an _;refine XI dx ar {r with p:=aX,c:=c2} cJ ⟨ab.len,ab.gC,ab.wf⟩ λaZ bk v fe k az he=>?_
 try dsimp only
 obtain⟨cr,b8,dc,cx,cC,cD,rfl,fC,iY,rN⟩:=az
 try dsimp only[hA,h7]
 have af:=dx.dS k af (by decide);have t2:=(af.typed rfl).1;refine aT rfl (af.put (cs:=fY _ _ cr b8 dc cx cC cD) rfl qL λbV fO e4=>⟨_,rfl,e4.cells,?_⟩);refine dZ bV bk _ (fe.loc fO p1 t2 (by decide) (by decide) (by decide)) ?_ ⟨cr,b8,dc,cx,cC,cD,rfl,fC.aO fO λy ag I=>(fC.typed ag).1.ne (I▸t2) (by decide) rfl,iY.aO fO λy ag I=>(iY.typed ag).1.ne (I▸t2) (by decide) rfl,rN⟩ he;have WQ:o4 w D an D:=(o4.refl w D).ex nW;have ad6:=WQ.trans k;exact⟨Kp.trans ad6.aO fO (λ_ _ h=>h) (λi I e=>by omega),ad6.sub⟩
theorem Ci{v:Value}{t:Int}{r:gj}(az:wJ w D v t r){N:Nat->al}(K:∀b w' cr b8 dc cx cC cD,η w w'->w.heap.size<=b->μ w' b ck 5 (some ⟨b,0,none⟩) 1 1 (fY t r cr b8 dc cx cC cD)->μ w' 0 dt 1 cr b8 dc (a7 r.bs)->μ w' 0 cz 1 cx cC cD (bA.cW r.pr)->(∀x,cx=some x->¬D x.block)->N b w'):
  cv v λaE=>aK w #[.int .i64 0,.int .i64 0,.int .i64 0,bR,bR] ck λδ χ=>ν (decide (aE.size=5)) (a6 χ (⟨δ,0,none⟩:Addr) aE.toList/\∀ao,ao=χ.setCells (⟨δ,0,none⟩:Addr).block (⟨δ,0,none⟩:Addr).off aE.toList->N δ ao):=by
 obtain⟨cr,b8,dc,cx,cC,cD,rfl,fC,iY,rN⟩:=az
 try dsimp only[hA,h7]
 rintro δ ε eL rfl;have σ:=μ.new (w:=w) (fJ 0 bR bR) ck;rw[<-eL]at σ;have θ:=η.alloc w (.cells (fJ 0 bR bR).toArray ck);have aP:w.alloc (.cells #[.int .i64 0,.int .i64 0,.int .i64 0,bR,bR] ck)=w.alloc (.cells (fJ 0 bR bR).toArray ck):=rfl;rw[aP];generalize w.alloc (.cells (fJ 0 bR bR).toArray ck)=ε at σ θ⊢;refine aT rfl (σ.put (cs:=fY t r cr b8 dc cx cC cD) rfl qL λbV fO e4=>?_);have X:=θ.then fO λi I=>by omega
 exact K δ bV cr b8 dc cx cC cD X (by omega) e4 (fC.ex X) (iY.ex X) rN
end
section
variable{w0 w:World}{pp pd:Nat}{m:aQ}{aA:Int}{A:c6}{n:Nat}{D:bl}
def asJ:ByteArray:=⟨#[110,111,110,101]⟩
def DZ(r:gj):ByteArray:=if r.e≠0 then asJ else strOf r.bs
def nX(v b:Int):aQ.Ask:=⟨4,v,b,0,[]⟩
def nd(A:c6)(v b:Int):ByteArray:=DZ (cQ A (nX v b)).2
theorem auy(A:c6)(v b:Int):(cQ A (nX v b)).1=A:=by
 unfold cQ;rw[aN ⟨show(1:Int)<=4 by decide,show(4:Int)<=9 by decide⟩];unfold jf nX;dsimp only;rw[aL (by omega),aL (by omega),aL (by omega),aN rfl];cases il A.E v with
 |none=>rfl
 |some e=>
  dsimp only;by_cases h:b<0\/e.2.1<=b
  ·rw[aN h];rfl
  ·rw[aL h];cases(e.2.2[b.toNat]?).join<;>rfl
theorem aiW(h:hZ w0 w pp pd m aA A n D)(ar:n<=600000)(v b:Int){N:Value->al}{X:List PanicEntry->al}
  (dZ:∀w' bk,hZ w0 w' pp pd (kV m (nX v b)).1 (aA+1) A (n+5) bk->o4 w D w' bk->(kV m (nX v b)).2=(cQ A (nX v b)).2->N (.string (nd A v b)) w'):
  κ prog 17 #[.pointer (some ⟨pp,0,none⟩),.int .i64 v,.int .i64 b] w N X:=by
 show HG.C (some ⟨pp,0,none⟩) v b w _;apply HG.ok;unfold HG.main;show pw.C (some ⟨pp,0,none⟩) 4 v b 0 none 0 0 w _;refine XI h ar ⟨4,v,b,0,[],none,0,0⟩ (B:=0) (μ.nil _ _ _ _) ⟨rfl,eR _,λx J=>by cases J⟩ λε fx u fe k az he=>?_
 try dsimp only
 refine Ci az λδ ao cr b8 dc cx cC cD aC eL σ af bh aG=>?_;have LF:=fe.to aC;have cc:(cQ A (dW ⟨4,v,b,0,[],none,0,0⟩)).1=A:=auy A v b;rw[cc]at LF;rw[he]at σ af;have vI:dW ⟨4,v,b,0,[],none,0,0⟩=nX v b:=rfl;rw[vI]at σ af he;have pX:hZ w0 ao pp pd (kV m (nX v b)).1 (aA+1) A (n+5) fx:=LF;refine⟨_,σ.at (j:=1) rfl,bt (λhk=>?_) (λhk=>?_)⟩
 ·have hk:(cQ A (nX v b)).2.e≠0:=by simpa using hk
  have:=dZ ao fx pX (k.ex aC) he
  unfold nd DZ at this;rw[aN hk]at this;exact this
 ·have hk:(cQ A (nX v b)).2.e=0:=by simpa using hk
  have ak:(cQ A (nX v b)).2.bs.length=b8:=by have:=af.1;rw[sC,eS]at this;exact this
  refine⟨_,_,_,σ.at (j:=3) rfl,(cQ A (nX v b)).2.bs,ak,af.cells,?_⟩
  have:=dZ ao fx pX (k.ex aC) he
  unfold nd DZ at this;rw[aL (by rw[hk];decide)]at this;exact this
def aaA:aQ.Ask:=⟨8,0,0,0,[]⟩
theorem arZ(A:c6):cQ A aaA=(A,{fh with pr:=[(l7 A.E:Int),A.cap]}):=rfl
theorem aiQ(h:hZ w0 w pp pd m aA A n D)(ar:n<=600000){N:Value->al}{X:List PanicEntry->al}
  (dZ:∀w' bk,hZ w0 w' pp pd (kV m aaA).1 (aA+1) A (n+5) bk->o4 w D w' bk->N (.int .i64 (l7 A.E:Int)) w'):
  κ prog 18 #[.pointer (some ⟨pp,0,none⟩)] w N X:=by
 show HE.C (some ⟨pp,0,none⟩) w _;apply HE.ok;unfold HE.main;show pw.C (some ⟨pp,0,none⟩) 8 0 0 0 none 0 0 w _;refine XI h ar ⟨8,0,0,0,[],none,0,0⟩ (B:=0) (μ.nil _ _ _ _) ⟨rfl,eR _,λx J=>by cases J⟩ λε fx u fe k az he=>?_
 try dsimp only
 refine Ci az λδ ao cr b8 dc cx cC cD aC eL σ af bh aG=>?_;have LF:=fe.to aC;have cc:cQ A (dW ⟨8,0,0,0,[],none,0,0⟩)=(A,{fh with pr:=[(l7 A.E:Int),A.cap]}):=arZ A;rw[cc]at LF;rw[he,cc]at σ bh;have ak:2=cC:=by have:=bh.1;simpa[bA.cW]using this
 subst ak;refine⟨_,σ.at (j:=1) rfl,?_⟩;rw[cond_neg (by rfl)];refine⟨_,_,_,σ.at (j:=4) rfl,?_⟩;rw[cond_neg (by rfl)];refine⟨_,_,_,σ.at (j:=4) rfl,aT (by omega) ?_⟩;obtain⟨a,rfl,jN⟩:=bh.cells.many (j:=0) (v:=.int .i64 (l7 A.E:Int)) rfl
 try dsimp only[bo]
 refine⟨_,?_,dZ ao fx LF (k.ex aC)⟩;have hB:a.add 0=a:=by cases a;rfl
 rw[hB]at jN;exact jN
end
section
variable{w0 w:World}{pp pd:Nat}{m:aQ}{aA:Int}{A:c6}{n:Nat}{D:bl}
def nine:aq:=List.replicate 64 9
def ajz:c6:=(cQ (sj 6 2) ⟨1,0,0,2,[]⟩).1
def OG:c6:=(cQ ajz ⟨5,0,1,0,nine⟩).1
theorem ayp:(cQ (sj 6 2) ⟨1,0,0,2,[]⟩).2.e=0:=by decide+kernel
theorem ayq:(cQ ajz ⟨5,0,1,0,nine⟩).2.e=0:=by decide+kernel
theorem ajA:(cQ OG (nX 0 1)).2.e=0/\(cQ OG (nX 0 1)).2.bs=nine:=by decide+kernel
theorem ayr:(l7 OG.E:Int)=1:=by decide+kernel
def ki(k v b s:Int):b9.cZ:=⟨k,v,b,s,[],none,0,0⟩
theorem tx(k v b s:Int)(w:World):bd w (ki k v b s).p (b9.bytesOf (ki k v b s)):=(μ.nil w 0 dt 1).cells
theorem tz(k v b s:Int):b9.Small (ki k v b s):=⟨rfl,eR _,λx J=>by cases J⟩
def qM(v b x:Int)(a:Nat):b9.cZ:=⟨5,v,b,0,List.replicate 64 x,some ⟨a,0,none⟩,64,64⟩
theorem Aw{v b x:Int}(a:Nat)(J:0<=x/\x<256):b9.Small (qM v b x a):=⟨by simp[qM],by show 64<=_;omega,λy ag=>by rw[nb (show y∈List.replicate 64 x from ag)];exact J⟩
theorem Y2(w:World):HH.C w (ω λv w'=>v=.bool true/\η w w'):=by
 apply HH.ok;unfold HH.main;refine κ.use (KX (s:=6) (k:=2) (by unfold mO;omega) w) ?_;rintro _ ε ⟨pd,pp,D,rfl,τ⟩
 try dsimp only[ca,cT,cU,bo,n0,nD,jz]
 have h1:=τ.tp;refine Su h1 (by omega) (ki 1 0 0 2) (tx _ _ _ _ _) (tz _ _ _ _) λχ KD v aJ b4 az he=>?_;refine Ci az λδ aZ cr b8 dc cx cC cD aM eL σ fC iY rN=>?_;have h8:=aJ.to aM;rw[he]at σ;refine κ.use (wW 9 (by omega) aZ) ?_;rintro _ a8 ⟨hz,rfl,aU,of⟩
 try dsimp only[ee]
 have hq:=h8.to aU;have σ:=σ.ex aU;refine Su hq (by omega) (qM 0 1 9 hz) of.cells (Aw hz (by omega)) λbW aj8 v hD iq az apG=>?_;have σ:=hq.dS iq σ (by decide);refine Ci az λζ cm yb x9 x7 Aj Ai Ah df eG af s2 jO mI=>?_;have Bp:=hD.to df;have σ:=σ.ex df;rw[apG]at af;have aP:(cQ (sj 6 2) (dW (ki 1 0 0 2))).2.e=0:=ayp;have bM:(cQ (cQ (sj 6 2) (dW (ki 1 0 0 2))).1 (dW (qM 0 1 9 hz))).2.e=0:=ayq;refine⟨_,σ.at (j:=1) rfl,?_⟩;rw[aP,cond_pos (by rfl)];refine⟨_,af.at (j:=1) rfl,?_⟩;rw[bM,cond_pos (by rfl)];have Bp:hZ w cm pp pd _ _ OG 12 aj8:=Bp;refine aiW Bp (by omega) 0 1 λcE Zs vE n9 azw=>?_
 try dsimp only[wT]
 refine κ.use (wW 9 (by omega) cE) ?_;rintro _ dp ⟨aa,rfl,mo,uz⟩
 try dsimp only[ee]
 have wZ:=vE.to mo;refine⟨nine,rfl,uz.cells,?_⟩;have s9:nd OG 0 1=strOf nine:=by unfold nd DZ;rw[aL (by rw[ajA.1];decide),ajA.2]
 rw[s9,cond_pos (by simp)];refine aiQ wZ (by omega) λdP ayJ w1 yB=>?_
 try dsimp only[bL]
 rw[ayr];exact ω.mk ⟨rfl,w1.ex⟩
end
def oX:hn:=(0,0,[])
theorem sX{E:List hn}{v:Nat}{e:hn}(az:v<8)(h:E[v]?=some e)(aF:e.1≠0):il E v=some e:=by unfold il;rw[aN (by omega),ch,h];simp[Option.filter,aF]
theorem Yr:∀(P:List hn)(k:Nat),(∀e∈P,e.1≠0)->nf (P++List.replicate (k+1) oX)=some P.length
 |[],k,h=>rfl
 |e::P,k,h=>by have cw:=Yr P k λe he=>h e (ie _ he);unfold nf at cw⊢;rw[JX,List.findIdx?_cons,cw,iX (h e oj)];rfl
theorem Yn:∀(P:List hn)(k:Nat)(e:hn),(P++List.replicate (k+1) oX).set P.length e=(P++[e])++List.replicate k oX
 |[],k,e=>rfl
 |x::P,k,e=>by have cw:=Yn P k e;rw[JX,kU,List.set_cons_succ,cw];rfl
theorem at1{P Q:List hn}{v:Nat}{e:hn}(h:P[v]?=some e):(P++Q)[v]?=some e:=by rw[List.getElem?_append_left (List.getElem?_eq_some_iff.1 h).1];exact h
def ox(s:Int):aQ.Ask:=⟨1,0,0,s,[]⟩
theorem Pq{A:c6}{P:List hn}{k:Nat}{s:Int}(ab:1<=s/\s<=32)(dd:∀e∈P,e.1≠0)(eB:A.E=P++List.replicate (k+1) oX):
  cQ A (ox s)=({A with E:=(P++[(1,s,List.replicate s.toNat none)])++List.replicate k oX},{fh with id:=P.length}):=by
 unfold cQ;rw[aN ⟨show(1:Int)<=1 by decide,show(1:Int)<=9 by decide⟩];unfold jf ox;dsimp only;rw[aN rfl,aN ab,eB,Yr P k dd];dsimp only;rw[Yn]
section
variable{w0 w:World}{pp pd:Nat}{m:aQ}{aA:Int}{A:c6}{n:Nat}{D:bl}
theorem av1(h:hZ w0 w pp pd m aA A n D)(ar:n<=600000){N:Value->al}{X:List PanicEntry->al}
  (dZ:∀w' bk,hZ w0 w' pp pd (ra (aQ.tick m)) aA A (n+2) bk->o4 w D w' bk->N (.tuple #[.agg (fJ 0 bR bR).toArray,.bool false]) w'):
  κ prog 16 #[.pointer (some ⟨pp,0,none⟩),.int .i64 2] w N X:=by
 show B5.C (some ⟨pp,0,none⟩) 2 w _;have aS:=h.aA;refine Kb h.is h.ok (by omega) (by omega) (λh=>by omega) (λ_ w' bk az=>?_) (λh=>by omega) (λh=>by omega);have k:=az.Ju;exact dZ w' bk (h.W9 k az.is (h.ok.tick.clean (by omega)) (by omega)) k
theorem avB(a b:Int)(w:World)(aR:0<=a/\a<256)(τ:0<=b/\b<256){N:γ->al}{F Ta:al}{qz ft ha:List PanicEntry->al}
  (K:∀pp pd w' D,hZ w w' pp pd (vS (6+a%9) (2+b%5)) 0 (sj (6+a%9) (2+b%5)) 2 D->N (some ⟨pp,0,none⟩) w'):
  κ prog 12 #[.int .u8 a,.int .u8 b] w (λv1 ε=>cv v1 λaE=>κ prog 11 #[.agg aE] ε (λv2 χ=>b7 v2 λbN=>ξ (bN[0]?) λv3=>gI v3 λae=>ξ (bN[1]?) λv4=>gI v4 λaX=>cond (Option.isNone aX) (F χ) (κ prog 13 #[] χ (λv5 an=>dF v5 λδ=>cond (!δ) (Ta an) (N aX an)) ha)) ft) qz:=by
 refine κ.use (Rb a b aR τ w) ?_;rintro _ ε ⟨rfl,θ⟩
 try dsimp only[hA]
 refine κ.use (KX (s:=6+a%9) (k:=2+b%5) PM ε) ?_;rintro _ χ ⟨pd,pp,D,rfl,τ⟩
 try dsimp only[ca,cT,cU,bo,n0,nD,jz]
 refine κ.use (Y2 χ) ?_;rintro _ an ⟨rfl,ay⟩
 try dsimp only[dX]
 have h:=τ.tp.to ay;exact K pp pd an D ⟨h.is,h.ok,h.aA,λi I=>gE θ.size (h.new i I),θ.trans h.ex⟩
end
def ec(w0:World)(pp:Nat)(W:World)(N:Nat)(P:c6->Prop):Prop:=∃pd m aA A n D,hZ w0 W pp pd m aA A n D/\n<=N/\P A
def ny(W bq:World):Prop:=∀(B:Nat)(e:TypeId)(sz:Nat)(p:γ)(l c:Nat)(vs:aY),μ W B e sz p l c vs->e∉ow->μ bq B e sz p l c vs
def tQ(w:World)(v:Value)(r:gj):Prop:=∃D t,wJ w D v t r
section
variable{w0 W:World}{pp N:Nat}{P:c6->Prop}{Z:Value->al}{X:List PanicEntry->al}
theorem ec.ex(h:ec w0 pp W N P):η w0 W:=by obtain⟨_,_,_,_,_,_,h,_⟩:=h;exact h.ex
theorem ec.to(h:ec w0 pp W N P){bq:World}(x:η W bq):ec w0 pp bq N P:=by obtain⟨pd,m,aA,A,n,D,h,ι⟩:=h;exact⟨pd,m,aA,A,n,D,h.to x,ι⟩
theorem ec.more(h:ec w0 pp W N P){lr:Nat}{P':c6->Prop}(ek:N<=lr)(dd:∀A,P A->P' A):ec w0 pp W lr P':=by obtain⟨pd,m,aA,A,n,D,h,ι,aJ⟩:=h;exact⟨pd,m,aA,A,n,D,h,gE ι ek,dd A aJ⟩
theorem ec.loc(h:ec w0 pp W N P){bq:World}{b:Nat}(k:Kp W bq λi=>i=b)(aF:w0.heap.size<=b){e:TypeId}(aS:Typed W e b)(fe:e∉ow)(Dc:e∉Iw)(dD:e≠dt):ec w0 pp bq N P:=by obtain⟨pd,m,aA,A,n,D,h,ι⟩:=h;exact⟨pd,m,aA,A,n,D,h.loc k aF aS fe Dc dD,ι⟩
theorem ny.ex{q4 KP:World}(h:ny W q4)(x:η q4 KP):ny W KP:=λB e sz p l c vs o ar=>(h B e sz p l c vs o ar).ex x
theorem gv(h:ec w0 pp W N P)(ek:N<=600000)(r:b9.cZ)(π:bd W r.p (b9.bytesOf r))(ab:b9.Small r)
  (dZ:∀w' A v,P A->ec w0 pp w' (N+5) (λgm=>gm=(cQ A (dW r)).1)->ny W w'->tQ w' v (cQ A (dW r)).2->Z v w'):
  κ prog 14 #[.pointer (some ⟨pp,0,none⟩),.agg r.cells.toArray] W Z X:=by
 obtain⟨pd,m,aA,A,n,D,h,ι,aJ⟩:=h;refine Su h (by omega) r π ab λw' bk v fe k az he=>?_;rw[he]at az;exact dZ w' A v aJ ⟨pd,_,_,_,_,bk,fe,by omega,rfl⟩ (λB e sz p l c vs o ar=>h.dS k o ar) ⟨_,_,az⟩
theorem ta(h:ec w0 pp W N P)(ek:N<=600000)(v b:Int)(dZ:∀w' A,P A->ec w0 pp w' (N+5) (λgm=>gm=A)->ny W w'->Z (.string (nd A v b)) w'):
  κ prog 17 #[.pointer (some ⟨pp,0,none⟩),.int .i64 v,.int .i64 b] W Z X:=by
 obtain⟨pd,m,aA,A,n,D,h,ι,aJ⟩:=h;exact aiW h (by omega) v b λw' bk fe k _=>dZ w' A aJ ⟨pd,_,_,_,_,bk,fe,by omega,rfl⟩ (λB e sz p l c vs o ar=>h.dS k o ar)
theorem L4(h:ec w0 pp W N P)(ek:N<=600000)(dZ:∀w' A,P A->ec w0 pp w' (N+5) (λgm=>gm=A)->ny W w'->Z (.int .i64 (l7 A.E:Int)) w'):
  κ prog 18 #[.pointer (some ⟨pp,0,none⟩)] W Z X:=by
 obtain⟨pd,m,aA,A,n,D,h,ι,aJ⟩:=h;exact aiQ h (by omega) λw' bk fe k=>dZ w' A aJ ⟨pd,_,_,_,_,bk,fe,by omega,rfl⟩ (λB e sz p l c vs o ar=>h.dS k o ar)
theorem acV(h:ec w0 pp W N P)(ek:N<=600000)(dZ:∀w',ec w0 pp w' (N+5) P->ny W w'->Z (.tuple #[.agg (fJ 0 bR bR).toArray,.bool false]) w'):
  κ prog 16 #[.pointer (some ⟨pp,0,none⟩),.int .i64 2] W Z X:=by
 obtain⟨pd,m,aA,A,n,D,h,ι,aJ⟩:=h;exact av1 h (by omega) λw' bk fe k=>dZ w' ⟨pd,_,_,_,_,bk,fe,by omega,aJ⟩ (λB e sz p l c vs o ar=>h.dS k o ar)
theorem Qs{a b:Int}{w:World}(aR:0<=a/\a<256)(τ:0<=b/\b<256){F Ta:al}{qz ft ha:List PanicEntry->al}{Y:γ->al}
  (K:∀pp w',ec w pp w' 2 (λA=>A=sj (6+a%9) (2+b%5))->Y (some ⟨pp,0,none⟩) w'):
  κ prog 12 #[.int .u8 a,.int .u8 b] w (λv1 ε=>cv v1 λaE=>κ prog 11 #[.agg aE] ε (λv2 χ=>b7 v2 λbN=>ξ (bN[0]?) λv3=>gI v3 λae=>ξ (bN[1]?) λv4=>gI v4 λaX=>cond (Option.isNone aX) (F χ) (κ prog 13 #[] χ (λv5 an=>dF v5 λδ=>cond (!δ) (Ta an) (Y aX an)) ha)) ft) qz:=
 avB a b w aR τ λpp pd w' D h=>K pp w' ⟨pd,_,_,_,_,D,h,dO _,rfl⟩
theorem tQ.err{w:World}{v:Value}{r:gj}(h:tQ w v r){Q:Int->Prop}(dY:Q r.e):cv v λcs=>ξ (cs[1]?) λfm=>br .i64 fm λθ=>Q θ:=by obtain⟨D,t,cr,b8,dc,cx,cC,cD,rfl,_⟩:=h;exact dY
end
end Go.Proofs.YtcpdfhkhaekekaaGreat.G.cY

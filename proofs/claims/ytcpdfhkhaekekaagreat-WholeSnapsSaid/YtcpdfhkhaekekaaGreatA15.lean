/- The walk of the functions, and the plain laws of the model: part of the proof. Conditions: none. -/
import Derived.Test.YtcpdfhkhaekekaaGreatA14
set_option linter.unusedVariables false
set_option linter.unusedSimpArgs false
namespace Go.Proofs.YtcpdfhkhaekekaaGreat.G.eb
open Go.bO Go.RowKit cL eh eW c5 aR
section
variable{w:World}{pd:Nat}{s k:Int}{D:bf}
def dP(bl kp:Nat)(n:Nat)(b1 ps:Nat):vg:=⟨bl,b1,ps,none,0,kp,n⟩
def vO(pd bl kp n:Nat)(s k:Int)(r t:Value):aU:=[.pointer (some ⟨bl,0,none⟩),.pointer (some ⟨pd,0,none⟩),.int .i64 s,.int .i64 k,r,t,.int .i64 1,.int .i64 16,.slice none 0 0,.bool false,.int .i64 0,.slice (some ⟨kp,0,none⟩) n n,.bool false]
theorem ZA(pd bl kp n:Nat)(s k:Int):Instr.fill (λi=>[(0,1),(1,1),(2,2),(4,1),(5,1),(6,1),(7,1),(8,1),(9,1),(10,1),(11,1),(12,1)].toArray[i]?) #[(Value.pointer none),(Value.pointer none),(Value.int .i64 0),(Value.int .i64 0),(Value.pointer none),(Value.pointer none),(Value.int .i64 0),(Value.int .i64 0),(Value.slice none 0 0),(Value.bool false),(Value.int .i64 0),(Value.slice none 0 0),(Value.bool false)] [(0,(Value.pointer (some ⟨bl,0,none⟩))),(1,(Value.pointer (some ⟨pd,0,none⟩))),(2,(Value.agg (two s k).toArray)),(5,(Value.int .i64 1)),(6,(Value.int .i64 16)),(8,(Value.bool (decide ((0:Int)>0)))),(10,(Value.slice (some ⟨kp,0,none⟩) n n))]=some (vO pd bl kp n s k (.pointer none) (.pointer none)).toArray:=by simp[Instr.fill,Value.cells,two,bt.v64,vO]
theorem acX(g:pD s k){W:World}(x:η w W)(af:a6.gV W 0 pd (sS (40+s*k).toNat s k) D){δ θ pp bl kp n ahC:Nat}{cZ:bf}(hw:w.heap.size<=pp)(ax:s.toNat=n){ps:aU}(ρ:μ W δ bU 24 (some ⟨δ,0,none⟩) 1 1 (bK (cp []) ps))(bV:fp W (cp []) ps)(ai:μ W θ b2 2 (some ⟨θ,0,none⟩) 1 1 (two s k)){p:J}{c:Nat}(of:μ W ahC cj 1 p (wN s).length c (bw.cI (wN s)))
  (bJ:b9.mD W 0 bl [] 0 cZ)(os:μ W kp cj 1 (some ⟨kp,0,none⟩) n n (bw.cI (List.replicate n 0)))(op:μ W pp q6 13 (some ⟨pp,0,none⟩) 1 1 (vO pd bl kp n s k (.pointer none) (.pointer none)))(amc:∀i,cZ i->w.heap.size<=i)(axv:w.heap.size<=kp):
  uK.a1 δ θ p (wN s).length c pp W (χ λv w'=>∃pp bb,v=.tuple #[.pointer (some ⟨pp,0,none⟩),.int .i64 0]/\ho w' pp pd (xk s k) [] 0 bb/\η w w'/\bw.Good (q2 s k)/\∀i,bb i->D i\/w.heap.size<=i):=by
 have dS:=g.wide;obtain⟨f1,f2,f3⟩:=(lu dS).1 (GU dS);obtain⟨qG,awv,aww,awx⟩:=aes g;unfold uK.a1;refine⟨(bK (cp []) ps).toArray,by rw[fh];exact bV.at.dU,ρ.cells,?_⟩;refine κ.use (Xj bV.at f1) ?_;rintro _ ga ⟨b1,rfl,re,υ⟩
 try dsimp only[bX,cC,cD,bk,bH,nc]
 have axp:W.heap.size<=b1:=by obtain⟨fI,υ⟩:=υ;exact(υ.ε.ge rfl).1
 have op:=op.ex re;refine op.da (j:=4) (v:=.pointer (some ⟨b1,0,none⟩)) (by omega) rfl λfE yH op=>?_;change μ fE pp q6 13 (some ⟨pp,0,none⟩) 1 1 (vO pd bl kp n s k (.pointer (some ⟨b1,0,none⟩)) (.pointer none))at op;have tp:∀i,i=pp->hv ga A8 i:=λi o=>o▸⟨_,by simp,((‹μ ga pp q6 13 (some ⟨pp,0,none⟩) 1 1 _›).typed rfl).1⟩;have BJ:ki ga 0 b1 (cp []):=by obtain⟨fI,υ⟩:=υ;exact⟨fI,⟨υ.ε.lower (en _),υ.len,υ.jW,υ.tb⟩⟩
 have ai:=gU yH tp (ai.ex re) (by decide);have of:=gU yH tp (of.ex re) (by decide);have os:=gU yH tp (os.ex re) (by decide);have af:=vr yH tp (af.ex re) (by decide);have bJ:=vv yH tp (bJ.ex re) (by decide) (by decide);have υ:=v8 yH tp BJ (by decide) (by decide);have Q5:η w fE:=(x.trans re).then yH λi o=>by omega
 have Ed:=x.size;have Kd:=re.size;have BK:=yH.size;have axw:kp<fE.heap.size:=(os.typed rfl).2.2;clear bV ρ BJ;refine⟨(two s k).toArray,rfl,ai.cells,?_⟩;refine κ.use (bw.zo s k fE of.cells rfl (by have:=Sm s.toNat (lays (used (cp []))) [];unfold wN;omega)) ?_;rw[qG];rintro _ eD ⟨od,KT,rfl,D0,c0,ω⟩
 try dsimp only[bX,cC,cD,bk,bH,nc]
 have op:=op.ex od;have LO:∀i,i=pp->hv eD A8 i:=λi o=>o▸⟨_,by simp,(op.typed rfl).1⟩;have abn:=λi o=>(ω.typed (i:=i) o).2.1;refine op.da (j:=5) (v:=.pointer (some ⟨KT,0,none⟩)) (by omega) rfl λeJ Ac op=>?_;have os:=gU Ac LO (os.ex od) (by decide);have af:=vr Ac LO (af.ex od) (by decide);have bJ:=vv Ac LO (bJ.ex od) (by decide) (by decide);have υ:=v8 Ac LO (υ.ex od) (by decide) (by decide);have ω:=yZ Ac LO ω (by decide);have CK:η w eJ:=(Q5.trans od).then Ac λi o=>by omega
 have mM:bw.ll eJ 0 KT (q2 s k) c0:=by obtain⟨pf,Db,⟨ar,a2⟩,amd⟩:=ω;exact⟨pf,Db,⟨ar.lower (en _),a2.lower (en _)⟩,amd⟩
 refine χ.mk ⟨pp,_,rfl,⟨dP bl kp n b1 KT,cZ,D,c0,⟨?_,bJ,af,υ,mM,μ.nil _ _ _ _,?_,λo=>?_⟩,λi=>mR⟩,CK,D0,λi o=>?_⟩
 ·have e:lS pd (dP bl kp n b1 KT) (xk s k)=(vO pd bl kp n s k (.pointer (some ⟨b1,0,none⟩)) (.pointer none)).set 5 (.pointer (some ⟨KT,0,none⟩)):=by
   unfold lS vO xk dP;dsimp only;rw[se,ax];rfl
  rw[e];exact op.lower (en _)
 ·show μ eJ 0 cj 1 (some ⟨kp,0,none⟩) (List.replicate s.toNat (0:Int)).length n (bw.cI (List.replicate s.toNat 0));rw[se,ax];exact os.lower (en _)
 ·have h1:=abn _ o;dsimp only[dP]at h1;omega
 ·rcases o with o|o|o|o|o|⟨y,ah,o⟩|o
  ·exact .inr (by omega)
  ·exact .inr (amc i o)
  ·exact .inl o
  ·have o:i=b1:=o;exact .inr (by omega)
  ·have:=abn i o
   exact .inr (by omega)
  ·cases ah
  ·have o:i=kp:=o;exact .inr (by omega)
theorem ZU{w:World}{B bl:Nat}{D:bf}(h:b9.mD w B bl [] 0 D):b9.mD w 0 bl [] 0 D:=by obtain⟨q,c,⟨h1,ι,aG⟩,b4⟩:=h;exact⟨q,c,⟨h1.lower (en _),ι.lower (en _),λx I=>by cases I⟩,b4⟩
theorem aeu(n:Nat):madeCells #[Value.int .i64 0] (n*1)=(bw.cI (List.replicate n 0)).toArray:=by
 have:=Ew 1 (n*1) (Value.int .i64 0) (by decide)
 rw[ey]at this⊢;rw[show(#[Value.int .i64 0]:ag)=(List.replicate 1 (Value.int .i64 0)).toArray from rfl,this];unfold bw.cI;rw[KZ]
theorem alN(g:pD s k):2<=(wN s).length:=by
 have h:∀a:_root_.Fin 9,∀b:_root_.Fin 5,(λ(s k:Int)=>2<=(wN s).length) (6+a.val) (2+b.val):=by decide+kernel
 exact ZV (P:=λs k=>2<=(wN s).length) h g
theorem I0(g:pD s k)(aj:Live w 0 pd (sS (40+s*k).toNat s k) D):uK.C (some ⟨pd,0,none⟩) w (χ λv w'=>∃pp bb,v=.tuple #[.pointer (some ⟨pp,0,none⟩),.int .i64 0]/\ho w' pp pd (xk s k) [] 0 bb/\η w w'/\bw.Good (q2 s k)/\∀i,bb i->D i\/w.heap.size<=i):=by
 have dS:=g.wide;have hp:=g.prod;obtain⟨f1,f2,f3⟩:=ZL dS (n:=(40+s*k).toNat) (by omega);apply uK.ok;unfold uK.main;refine κ.use (aiA aj f1 (by omega) dS (GU dS) (by rw[f3];omega) f2 (alN g)) ?_;rintro _ γ ⟨ps,rfl,bV,ζ⟩
 try dsimp only[bX,cC,cD,mK,Sr,alQ,bk,bH,hx,ie]
 rintro δ aa ej rfl θ az eu rfl;rw[Gp,Gg];rw[Gp]at eu;have ρ:=μ.new (w:=γ) hn bU;rw[<-ej]at ρ;have ad:=η.alloc γ (.cells hn.toArray bU);generalize γ.alloc (.cells hn.toArray bU)=aa at ρ ad eu⊢;have ai:=μ.new (w:=aa) (two 0 0) b2;rw[<-eu]at ai;have aA:=η.alloc aa (.cells (two 0 0).toArray b2);generalize aa.alloc (.cells (two 0 0).toArray b2)=az at ai aA⊢;have iQ:=ad.trans aA;have oC:γ.heap.size<=θ:=by have:=ad.size;omega
 have ρ:=ρ.ex aA;have bV:=bV.ex iQ;refine aW (by rw[fh];exact bV.at.dU) (ρ.put (cs:=bK (cp []) ps) bV.at.dU bV.at.one λaE dN cu=>?_);have t1:∀i,i=δ->Typed az bU i:=λi o=>o▸(ρ.typed rfl).1;have ai:=ai.cB dN bU t1 (by decide);have bV:=bV.cB dN bU t1 (by decide);have l8:η γ aE:=iQ.then dN λi o=>by omega
 refine aW rfl (ai.put (cs:=two s k) rfl mW λba ec bS=>?_);have t2:∀i,i=θ->Typed aE b2 i:=λi o=>o▸(ai.typed rfl).1;have cu:=cu.cB ec b2 t2 (by decide);have bV:=bV.cB ec b2 t2 (by decide);have ks:η w ba:=ζ.trans (l8.then ec λi o=>by omega);rw[cond_neg (by rfl)];refine⟨(bK (cp []) ps).toArray,by rw[fh];exact bV.at.dU,cu.cells,(two s k).toArray,rfl,bS.cells,?_⟩;have zW:(gm (used (cp []))).length<=4096:=by decide
 refine κ.use (QI bV.at (GU dS).1 zW (but:=[]) (bp:=none) (bn:=0) (bc:=0) (μ.nil ba 0 cj 1).cells rfl (by omega)) ?_;rintro _ bm ⟨ab,c1,rfl,aV,of⟩
 try dsimp only[bX,cC,cD,bk,bH,dY]
 have cg:=aV.trans (η.drew bm);have of:=of.ex (η.drew bm);have cu:=cu.ex cg;have bS:=bS.ex cg;have bV:=bV.ex cg;have zv:=ks.trans cg;generalize bm.drew=b5 at of cu bS bV zv⊢;refine⟨(two s k).toArray,rfl,bS.cells,s,bS.at (j:=0) rfl,?_,?_⟩
 ·refine κ.use (b9.zo b5) ?_;rintro _ cf ⟨rfl,cm,cZ,bJ⟩
  try dsimp only[ie,nc]
  have bS:=bS.ex cm;refine⟨bS.at (j:=0) rfl,aW rfl ⟨bS.cells,aW (by omega) (aW (by omega) (aW (by omega) ?_))⟩⟩;rintro aF cA jd rfl;rw[aeu];have os:=μ.alloc (w:=cf) (bw.cI (List.replicate s.toNat 0)) cj 1 s.toNat (by simp[bw.cI]);rw[<-jd]at os;have fl:=η.alloc cf (.cells (bw.cI (List.replicate s.toNat 0)).toArray cj);generalize cf.alloc (.cells (bw.cI (List.replicate s.toNat 0)).toArray cj)=cA at os fl⊢;refine aW rfl ⟨(bS.ex fl).cells,?_⟩;have yt:=ZA pd b5.heap.size aF s.toNat s k;unfold ξ;rw[yt];dsimp only;rintro ae cn mg rfl;have op:=μ.new (w:=cA) (vO pd b5.heap.size aF s.toNat s k (.pointer none) (.pointer none)) q6;rw[<-mg]at op;have c7:=η.alloc cA (.cells (vO pd b5.heap.size aF s.toNat s k (.pointer none) (.pointer none)).toArray q6);generalize cA.alloc (.cells (vO pd b5.heap.size aF s.toNat s k (.pointer none) (.pointer none)).toArray q6)=cn at op c7⊢;have ri:=fl.trans c7;have rq:=cm.trans ri;have aoj:=zv.size;have axu:=cm.size;have axr:=fl.size;exact acX g (zv.trans rq) (aj.dev.ex (zv.trans rq)) (by omega) rfl ((cu.ex rq).lower (ew _)) (bV.ex rq) ((bS.ex ri).lower (ew _)) (of.ex rq) (ZU (bJ.ex ri)) (os.ex c7) op (λi o=>by have:=(bJ.typed o).2.1;omega) (by omega)
 ·refine aW (by omega) (aW (by omega) (aW (by omega) ?_));rintro c8 dn lv rfl;rw[aeu];have os:=μ.alloc (w:=b5) (bw.cI (List.replicate s.toNat 0)) cj 1 s.toNat (by simp[bw.cI]);rw[<-lv]at os;have gb:=η.alloc b5 (.cells (bw.cI (List.replicate s.toNat 0)).toArray cj);generalize b5.alloc (.cells (bw.cI (List.replicate s.toNat 0)).toArray cj)=dn at os gb⊢;have acJ:=bS.ex gb;refine aW rfl ⟨acJ.cells,?_⟩;refine κ.use (b9.zo dn) ?_;rintro _ dX ⟨rfl,j7,cZ,bJ⟩
  try dsimp only[ie,nc]
  refine aW rfl ⟨(acJ.ex j7).cells,?_⟩;have yt:=ZA pd dn.heap.size c8 s.toNat s k;unfold ξ;rw[yt];dsimp only;rintro fq eR yl rfl;have op:=μ.new (w:=dX) (vO pd dn.heap.size c8 s.toNat s k (.pointer none) (.pointer none)) q6;rw[<-yl]at op;have jm:=η.alloc dX (.cells (vO pd dn.heap.size c8 s.toNat s k (.pointer none) (.pointer none)).toArray q6);generalize dX.alloc (.cells (vO pd dn.heap.size c8 s.toNat s k (.pointer none) (.pointer none)).toArray q6)=eR at op jm⊢;have ri:=j7.trans jm;have rq:=gb.trans ri;have aoj:=zv.size;have axs:=gb.size;have axt:=j7.size;exact acX g (zv.trans rq) (aj.dev.ex (zv.trans rq)) (by omega) rfl ((cu.ex rq).lower (ew _)) (bV.ex rq) ((bS.ex rq).lower (ew _)) (of.ex rq) (ZU (bJ.ex jm)) (os.ex ri) op (λi o=>by have:=(bJ.typed o).2.1;omega) (by omega)
end
open Tryz
theorem akt{w:World}{B pd:Nat}{d:a6.c3}{D:bf}(h:a6.gV w B pd d D):a6.gV w 0 pd d D:=by obtain⟨bs,bn,pl,km,⟨h1,ι,aG,cq,db⟩,b4⟩:=h;exact⟨bs,bn,pl,km,⟨h1.lower (en _),ι.lower (en _),aG.lower (en _),cq.lower (en _),db⟩,b4⟩
structure Qw(w:World)(w':World)(s k:Int)(pp pd:Nat)(D:bf):Prop where
 is:ho w' pp pd (xk s k) [] 0 D
 ok:aR.Ok (xk s k) (xj s k) 2
 ex:η w w'
 new:∀i,D i->w.heap.size<=i
theorem MG{s k:Int}(g:pD s k)(w:World):FH.C s k w (χ λv w'=>∃pd pp D,v=.tuple #[.pointer (some ⟨pd,0,none⟩),.pointer (some ⟨pp,0,none⟩)]/\Qw w w' s k pp pd D):=by
 have hp:=g.prod;apply FH.ok;unfold FH.main;rintro δ γ ej rfl;have ρ:=μ.new (w:=w) (two s k) b2;rw[<-ej]at ρ;have ζ:=η.alloc w (.cells (two s k).toArray b2);have aO:w.alloc (.cells #[.int .i64 s,.int .i64 k] b2)=w.alloc (.cells (two s k).toArray b2):=rfl;rw[aO];generalize w.alloc (.cells (two s k).toArray b2)=γ at ρ ζ⊢;refine⟨s,ρ.at (j:=0) rfl,k,ρ.at (j:=1) rfl,?_⟩;rw[bY (x:=s*k) (by omega) (by omega),bY (x:=40+s*k) (by omega) (by omega)];refine κ.use (a6.zo (40+s*k) γ (by omega)) ?_;rintro _ τ ⟨pd,D,rfl,σ,af⟩
 try dsimp only[bX,cC,cD,bk,bH,nc]
 rw[cond_neg (by rfl)];have ρ:=ρ.ex σ;have e4:=ζ.trans σ;refine⟨(two s k).toArray,rfl,ρ.cells,?_⟩;have b4:∀i,D i->w.heap.size<=i:=λi o=>by have:=(af.typed o).2.1;have:=ζ.size;omega
 have af:=akt af;show Calls prog 26 _ τ _;apply HN.ok;unfold HN.main;rintro aF aa jd rfl;have bo:=μ.new (w:=τ) (two s k) b2;rw[<-jd]at bo;have ad:=η.alloc τ (.cells (two s k).toArray b2);have gw:τ.alloc (.cells #[.int .i64 s,.int .i64 k] b2)=τ.alloc (.cells (two s k).toArray b2):=rfl;rw[gw];generalize τ.alloc (.cells (two s k).toArray b2)=aa at bo ad⊢;refine⟨(two s k).toArray,rfl,bo.cells,?_⟩;refine κ.use (ah5 g (af.ex ad)) ?_;rintro _ az ⟨rfl,ahO,sP⟩
 try dsimp only[bH]
 rw[cond_neg (by rfl)];have iQ:η w az:=(e4.trans ad).then sP.aH b4;have ama:∀i,ahO i->w.heap.size<=i:=λi o=>by
  rcases sP.sub i o with h|h
  ·exact b4 i h
  ·have:=(e4.trans ad).size;omega
 refine κ.use (I0 g sP.live) ?_;rintro _ ba ⟨pp,ahP,rfl,cV,aI,D0,TN⟩
 try dsimp only[bX,cC,cD,bk,bH,nc]
 rw[cond_neg (by rfl)];refine χ.mk ⟨pd,pp,ahP,rfl,cV,ap0 g sP.fa D0,iQ.trans aI,λi o=>?_⟩;rcases TN i o with h|h
 ·exact ama i h
 ·have:=iQ.size;omega
structure hq(w0 W:World)(pp pd:Nat)(m:aR)(al:Int)(A:eL)(n:Nat)(D:bf):Prop where
 is:ho W pp pd m [] al D
 ok:aR.Ok m A n
 al:0<=al/\al<=n
 new:∀i,D i->w0.heap.size<=i
 ex:η w0 W
structure nI(w:World)(D:bf)(w':World)(bb:bf):Prop where
 aH:Kp w w' D
 sub:∀i,bb i->D i\/w.heap.size<=i
section
variable{w0 w w':World}{pp pd:Nat}{m m':aR}{al o1:Int}{A nE:eL}{n eX:Nat}{D bb:bf}
theorem nI.refl(w:World)(D:bf):nI w D w D:=⟨Kp.refl _ _,λ_ h=>.inl h⟩
theorem nI.trans{γ τ:World}{eU gj:bf}(h:nI w D γ eU)(k:nI γ eU τ gj):nI w D τ gj:=
 ⟨Kp.trans h.aH k.aH (λ_ _ h=>h) (λi o af=>by rcases h.sub i af with h|h;exact h;omega),λi o=>by
  rcases k.sub i o with h1|h1
  ·exact h.sub i h1
  ·exact .inr (fY h.aH.size h1)⟩
theorem nI.ex{γ τ:World}{eU:bf}(h:nI w D γ eU)(x:η γ τ):nI w D τ eU:=⟨h.aH.fZ (x.aH _),h.sub⟩
theorem dL.HD(h:dL w D w' pp pd m [] al bb):nI w D w' bb:=⟨h.aH,h.sub⟩
theorem hq.UG(h:hq w0 w pp pd m al A n D)(k:nI w D w' bb)(w1:ho w' pp pd m' [] o1 bb)(dt:aR.Ok m' nE eX)(aP:0<=o1/\o1<=eX):hq w0 w' pp pd m' o1 nE eX bb:=
 ⟨w1,dt,aP,λi o=>by
  rcases k.sub i o with h1|h1
  ·exact h.new i h1
  ·have:=h.ex.size;omega,h.ex.then k.aH h.new⟩
theorem hq.to(h:hq w0 w pp pd m al A n D)(x:η w w'):hq w0 w' pp pd m al A n D:=⟨h.is.ex x,h.ok,h.al,h.new,h.ex.trans x⟩
theorem hq.loc(h:hq w0 w pp pd m al A n D){b:Nat}(k:Kp w w' λi=>i=b)(aD:w0.heap.size<=b){e:TypeId}(aP:Typed w e b)(e2:e∉o5)(Bx:e∉Gx)(dr:e≠dk):hq w0 w' pp pd m al A n D:=
 ⟨h.is.aH k (λi af e=>(h.is.hL af).1.off (e▸aP) e2) (λi o amh=>(F7.1 amh).off (o▸aP) Bx) λi o Hl=>(o▸aP:Typed w e i).ne Hl dr rfl,h.ok,h.al,h.new,h.ex.then k λi o=>by omega⟩
theorem hq.dA(h:hq w0 w pp pd m al A n D)(k:nI w D w' bb){B:Nat}{e:TypeId}{sz:Nat}{p:J}{l c:Nat}{vs:aU}(ε:μ w B e sz p l c vs)(ax:e∉o5):μ w' B e sz p l c vs:=
 gU k.aH (λi o=>(h.is.hL o).1) ε ax
theorem Qw.tp{s k:Int}(h:Qw w0 w s k pp pd D):hq w0 w pp pd (xk s k) 0 (xj s k) 2 D:=⟨h.is,h.ok,by omega,h.new,h.ex⟩
theorem Vn(a b:Int)(aQ:0<=a/\a<256)(ψ:0<=b/\b<256)(w:World):FK.C a b w (χ λv w'=>v=.agg (two (6+a%9) (2+b%5)).toArray/\η w w'):=by apply FK.ok;unfold FK.main;rintro δ γ ej rfl;have ρ:=μ.new (w:=w) (two 0 0) b2;rw[<-ej]at ρ;have ζ:=η.alloc w (.cells (two 0 0).toArray b2);have aO:w.alloc (.cells #[.int .i64 0,.int .i64 0] b2)=w.alloc (.cells (two 0 0).toArray b2):=rfl;rw[aO];generalize w.alloc (.cells (two 0 0).toArray b2)=γ at ρ ζ⊢;have m9:Int.tmod a 9=a%9:=H9 aQ.1;have m5:Int.tmod b 5=b%5:=H9 ψ.1;rw[m9,m5,bY (x:=a%9) (by omega) (by omega),bY (x:=b%5) (by omega) (by omega),bY (x:=6+a%9) (by omega) (by omega),bY (x:=2+b%5) (by omega) (by omega)];refine ρ.put (cs:=two (6+a%9) (2+b%5)) rfl mW λτ bP ai=>⟨_,rfl,ai.cells,χ.mk ⟨rfl,ζ.then bP λi o=>by omega⟩⟩
theorem St{a b:Int}:pD (6+a%9) (2+b%5):=by unfold pD;omega
theorem Ng(x:Int)(I:0<=x/\x<256)(w:World):tz.C x w (χ λv w'=>∃b,v=.slice (some ⟨b,0,none⟩) 64 64/\η w w'/\μ w' w.heap.size dk 1 (some ⟨b,0,none⟩) 64 64 (bj (List.replicate 64 x))):=by
 apply tz.ok;unfold tz.main;rintro δ γ ej rfl;have em:madeCells #[Value.int .u8 0] (64*1)=(bj a6.ia).toArray:=Ew 1 64 (Value.int .u8 0) (by decide);rw[em];have bS:=μ.alloc (w:=w) (bj a6.ia) dk 1 64 rfl;have aI:=η.alloc w (.cells (bj a6.ia).toArray dk);rw[<-ej]at bS;generalize w.alloc (.cells (bj a6.ia).toArray dk)=γ at bS aI⊢;unfold tz.bd;refine⟨λt0 cR cM de t4 W=>x=t0/\some ⟨δ,0,none⟩=cR/\64=cM/\64=de/\0<=t4/\t4<=64/\η w W/\μ W δ dk 1 (some ⟨δ,0,none⟩) 64 64 (bj (List.replicate t4.toNat x++List.replicate (64-t4.toNat) 0)),λ_ _ _ _ t4 _=>(64-t4).toNat,⟨rfl,rfl,rfl,rfl,by omega,by omega,aI,bS⟩,?_⟩;clear bS aI;rintro _ _ _ _ t4 W ⟨rfl,rfl,rfl,rfl,aD,h1,X,ε⟩;unfold tz.δ;obtain⟨j,rfl⟩:=eH aD;rw[cy]at ε⊢;refine bz (λφ=>?_) λφ=>?_
 ·have φ:=b7 φ;refine aW (by omega) (aW (by omega) ?_)
  try dsimp only[bk]
  rw[dv,ey];refine ε.da (j:=j) (v:=.int .u8 x) (by omega) rfl λτ bP ai=>?_;rw[bY (x:=(j:Int)+1) (by omega) (by omega)];have aO:((j:Int)+1).toNat=j+1:=by omega
  refine⟨⟨by trivial,by trivial,by trivial,by trivial,by omega,by omega,X.then bP λi o=>by omega,?_⟩,by((try dsimp only);omega)⟩;rw[aO];have RZ:(bj (List.replicate j x++List.replicate (64-j) 0)).set j (.int .u8 x)=bj (List.replicate (j+1) x++List.replicate (64-(j+1)) 0):=by unfold bj;rw[show(64:Nat)-j=(64-(j+1))+1 by omega,E9 (n:=64-(j+1)),<-qX,Ce _ _ (by rw[se];exact ew _),se,v7,H7,List.replicate_succ' (n:=j),lT];rfl
  rw[<-RZ];exact ai
 ·have φ:=dd φ;obtain rfl:j=64:=by omega
  refine χ.mk ⟨δ,rfl,X,?_⟩;rw[v7,List.replicate_zero,pn]at ε;exact ε.lower (by omega)
end
section
variable{w0 w:World}{pp pd:Nat}{m:aR}{al:Int}{A:eL}{n:Nat}{D:bf}
theorem ar6(aP:0<=al/\al<=n)(a:aR.Ask):0<=xC al a/\xC al a<=((n+5:Nat):Int):=by unfold xC;split<;>omega
theorem Vh(h:hq w0 w pp pd m al A n D)(ax:n<=600000)(r:b9.cP){B:Nat}(υ:μ w B dk 1 r.p r.n r.c (b9.bytesOf r))(ω:b9.Small r){R:aq}
  (dF:∀w' bb v,hq w0 w' pp pd (ko m (ef r)).1 (xC al (ef r)) (fB A (ef r)).1 (n+5) bb->nI w D w' bb->vi w' (λi=>bb i\/i<w.heap.size) v (if 1<=r.k/\r.k<=9 then al+1 else 0) (ko m (ef r)).2->(ko m (ef r)).2=(fB A (ef r)).2->R (.returned v) w'):nZ.C (some ⟨pp,0,none⟩) r.k r.v r.b r.s r.p r.n r.c w R:=by
 have aP:=h.al;obtain⟨dQ,fQ⟩:=ar7 h.ok (by omega) (a:=ef r) ω.wf;refine ahW h.is h.ok (by omega) r υ ω (by omega) λw' bb v aJ aog=>?_;have k:=aJ.HD;exact dF w' bb v (h.UG k aJ.is fQ (ar6 aP _)) k aog dQ
theorem PY(h:hq w0 w pp pd m al A n D)(ax:n<=600000)(r:b9.cP)(π:a7 w r.p (b9.bytesOf r))(ω:b9.Small r){N:Value->ao}{X:List PanicEntry->ao}
  (dF:∀w' bb v,hq w0 w' pp pd (ko m (ef r)).1 (xC al (ef r)) (fB A (ef r)).1 (n+5) bb->nI w D w' bb->vi w' (λi=>bb i\/i<w.heap.size) v (if 1<=r.k/\r.k<=9 then al+1 else 0) (ko m (ef r)).2->(ko m (ef r)).2=(fB A (ef r)).2->N v w'):
  κ prog 14 #[.pointer (some ⟨pp,0,none⟩),.agg r.cells.toArray] w N X:=by
 show FI.C (some ⟨pp,0,none⟩) r.k r.v r.b r.s r.p r.n r.c w _;apply FI.ok;unfold FI.main;rintro δ γ ej rfl;have ρ:=μ.new (w:=w) r.cells ff;rw[<-ej]at ρ;have ζ:=η.alloc w (.cells r.cells.toArray ff);have aO:w.alloc (.cells #[.int .i64 r.k,.int .i64 r.v,.int .i64 r.b,.int .i64 r.s,.slice r.p r.n r.c] ff)=w.alloc (.cells r.cells.toArray ff):=rfl;rw[aO];generalize w.alloc (.cells r.cells.toArray ff)=γ at ρ ζ⊢;rintro θ τ eu rfl;have ai:=μ.new (w:=γ) (fD 0 ct ct) dm;rw[<-eu]at ai;have σ:=η.alloc γ (.cells (fD 0 ct ct).toArray dm);have bE:γ.alloc (.cells #[.int .i64 0,.int .i64 0,.int .i64 0,.slice none 0 0,.slice none 0 0] dm)=γ.alloc (.cells (fD 0 ct ct).toArray dm):=rfl;rw[bE];have Ed:=ζ.size;have mM:=h.ex.size;have oC:w0.heap.size<=θ:=by omega
 generalize γ.alloc (.cells (fD 0 ct ct).toArray dm)=τ at ai σ⊢;have ρ:=ρ.ex σ;rintro aF aa jd rfl;have bo:=μ.alloc (w:=τ) [] dk 1 0 rfl;have ad:=η.alloc τ (.cells ([]:aU).toArray dk);rw[<-jd]at bo;have gw:τ.alloc (.cells #[] dk)=τ.alloc (.cells ([]:aU).toArray dk):=rfl;rw[gw];generalize τ.alloc (.cells ([]:aU).toArray dk)=aa at bo ad⊢;have ρ:=ρ.ex ad;have ai:=ai.ex ad;have gJ:=(ζ.trans σ).trans ad;refine⟨_,_,_,ρ.at (j:=4) rfl,?_⟩;have zV:=ω.len;have JV:=ω.fT;refine lp bo (Nat.le_of_lt (bo.ge rfl).2) (b9.bytesOf r) (π.ex gJ) (by rw[jV];omega) (IF _ _) rfl (by omega) (by omega) λaX c2 az cx cz=>?_;have agz:∀i,(∃x,(some ⟨aF,0,none⟩:J)=some x/\x.block=i)->Typed aa dk i:=λi⟨x,I,o⟩=>by cases I;exact o▸(bo.typed rfl).1
 have ρ:=ρ.cB cz dk agz (by decide);have ai:=ai.cB cz dk agz (by decide);have iQ:η w az:=gJ.then cz λi⟨x,I,o⟩=>by
  cases I
  have:=(ζ.trans σ).size
  dsimp only at o;omega
 rw[te]at cx;rw[mS]at cx⊢;refine ρ.da (j:=4) (v:=.slice aX r.n c2) (by show 4<1*5;omega) rfl λaE dN cu=>?_;have t1:∀i,i=δ->Typed az ff i:=λi o=>o▸(ρ.typed rfl).1;have cx:=cx.cB dN ff t1 (by decide);have ai:=ai.cB dN ff t1 (by decide);have l8:η w aE:=iQ.then dN λi o=>by omega
 have db:=h.to l8;refine⟨(b9.cP.cells {r with p:=aX,c:=c2}).toArray,rfl,cu.cells,?_⟩;show nZ.C (some ⟨pp,0,none⟩) r.k r.v r.b r.s aX r.n c2 aE _;refine Vh db ax {r with p:=aX,c:=c2} cx ⟨ω.len,ω.fT,ω.wf⟩ λba bb v e2 k aJ he=>?_
 try dsimp only
 obtain⟨dz,cU,dc,dD,dH,dJ,rfl,fM,iU,qd⟩:=aJ
 try dsimp only[hx,ie]
 have ai:=db.dA k ai (by decide);have t2:=(ai.typed rfl).1;refine aW rfl (ai.put (cs:=jj _ _ dz cU dc dD dH dJ) rfl sf λb5 fL e6=>⟨_,rfl,e6.cells,?_⟩);refine dF b5 bb _ (e2.loc fL oC t2 (by decide) (by decide) (by decide)) ?_ ⟨dz,cU,dc,dD,dH,dJ,rfl,fM.aH fL λy ah o=>(fM.typed ah).1.ne (o▸t2) (by decide) rfl,iU.aH fL λy ah o=>(iU.typed ah).1.ne (o▸t2) (by decide) rfl,λx I af=>qd x I (af.imp_right λh=>H5 h l8.size)⟩ he;have Un:nI w D aE D:=(nI.refl w D).ex l8;have abL:=Un.trans k;exact⟨Kp.trans abL.aH fL (λ_ _ h=>h) (λi o e=>by omega),abL.sub⟩
theorem Lf{v:Value}{t:Int}{r:gS}(aJ:vi w D v t r){N:Nat->ao}(K:∀b w' dz cU dc dD dH dJ,η w w'->w.heap.size<=b->μ w' b dm 5 (some ⟨b,0,none⟩) 1 1 (jj t r dz cU dc dD dH dJ)->μ w' 0 dk 1 dz cU dc (bj r.bs)->μ w' 0 cj 1 dD dH dJ (bw.cI r.qR)->(∀x,dD=some x->¬D x.block)->N b w'):
  dq v λaK=>aN w #[.int .i64 0,.int .i64 0,.int .i64 0,ct,ct] dm λδ aa=>ο (decide (aK.size=5)) (hr aa (⟨δ,0,none⟩:Addr) aK.toList/\∀az,az=aa.setCells (⟨δ,0,none⟩:Addr).block (⟨δ,0,none⟩:Addr).off aK.toList->N δ az):=by
 obtain⟨dz,cU,dc,dD,dH,dJ,rfl,fM,iU,qd⟩:=aJ
 try dsimp only[hx,ie]
 rintro δ γ ej rfl;have ρ:=μ.new (w:=w) (fD 0 ct ct) dm;rw[<-ej]at ρ;have ζ:=η.alloc w (.cells (fD 0 ct ct).toArray dm);have aO:w.alloc (.cells #[.int .i64 0,.int .i64 0,.int .i64 0,ct,ct] dm)=w.alloc (.cells (fD 0 ct ct).toArray dm):=rfl;rw[aO];generalize w.alloc (.cells (fD 0 ct ct).toArray dm)=γ at ρ ζ⊢;refine aW rfl (ρ.put (cs:=jj t r dz cU dc dD dH dJ) rfl sf λb5 fL e6=>?_);have X:=ζ.then fL λi o=>by omega
 exact K δ b5 dz cU dc dD dH dJ X (by omega) e6 (fM.ex X) (iU.ex X) qd
end
section
variable{w0 w:World}{pp pd:Nat}{m:aR}{al:Int}{A:eL}{n:Nat}{D:bf}
def ap7:ByteArray:=⟨#[110,111,110,101]⟩
def Lc(r:gS):ByteArray:=if r.e≠0 then ap7 else strOf r.bs
def qF(v b:Int):aR.Ask:=⟨4,v,b,0,[]⟩
def yV(A:eL)(v b:Int):ByteArray:=Lc (fB A (qF v b)).2
theorem ar0(A:eL)(v b:Int):(fB A (qF v b)).1=A:=by
 unfold fB;rw[aS ⟨show(1:Int)<=4 by decide,show(4:Int)<=9 by decide⟩];unfold lI qF;dsimp only;rw[aM (by omega),aM (by omega),aM (by omega),aS rfl];cases ja A.E v with
 |none=>rfl
 |some e=>
  dsimp only;by_cases h:b<0\/e.2.1<=b
  ·rw[aS h];rfl
  ·rw[aM h];cases(e.2.2[b.toNat]?).join<;>rfl
theorem agF(h:hq w0 w pp pd m al A n D)(ax:n<=600000)(v b:Int){N:Value->ao}{X:List PanicEntry->ao}
  (dF:∀w' bb,hq w0 w' pp pd (ko m (qF v b)).1 (al+1) A (n+5) bb->nI w D w' bb->(ko m (qF v b)).2=(fB A (qF v b)).2->N (.string (yV A v b)) w'):
  κ prog 17 #[.pointer (some ⟨pp,0,none⟩),.int .i64 v,.int .i64 b] w N X:=by
 show FL.C (some ⟨pp,0,none⟩) v b w _;apply FL.ok;unfold FL.main;show nZ.C (some ⟨pp,0,none⟩) 4 v b 0 none 0 0 w _;refine Vh h ax ⟨4,v,b,0,[],none,0,0⟩ (B:=0) (μ.nil _ _ _ _) ⟨rfl,en _,λx I=>by cases I⟩ λγ eU u e2 k aJ he=>?_
 try dsimp only
 refine Lf aJ λδ az dz cU dc dD dH dJ aA ej ρ ai bo aB=>?_;have JG:=e2.to aA;have fb:(fB A (ef ⟨4,v,b,0,[],none,0,0⟩)).1=A:=ar0 A v b;rw[fb]at JG;rw[he]at ρ ai;have ux:ef ⟨4,v,b,0,[],none,0,0⟩=qF v b:=rfl;rw[ux]at ρ ai he;have wZ:hq w0 az pp pd (ko m (qF v b)).1 (al+1) A (n+5) eU:=JG;refine⟨_,ρ.at (j:=1) rfl,bz (λhk=>?_) λhk=>?_⟩
 ·have hk:(fB A (qF v b)).2.e≠0:=by simpa using hk
  have:=dF az eU wZ (k.ex aA) he
  unfold yV Lc at this;rw[aS hk]at this;exact this
 ·have hk:(fB A (qF v b)).2.e=0:=by simpa using hk
  have aj:(fB A (qF v b)).2.bs.length=cU:=by have:=ai.1;rw[sn,ey]at this;exact this
  refine⟨_,_,_,ρ.at (j:=3) rfl,(fB A (qF v b)).2.bs,aj,ai.cells,?_⟩
  have:=dF az eU wZ (k.ex aA) he
  unfold yV Lc at this;rw[aM (by rw[hk];decide)]at this;exact this
def Yb:aR.Ask:=⟨8,0,0,0,[]⟩
theorem aps(A:eL):fB A Yb=(A,{hd with qR:=[(xf A.E:Int),A.cap]}):=rfl
theorem ave(h:hq w0 w pp pd m al A n D)(ax:n<=600000){N:Value->ao}{X:List PanicEntry->ao}
  (dF:∀w' bb,hq w0 w' pp pd (ko m Yb).1 (al+1) A (n+5) bb->nI w D w' bb->N (.int .i64 (xf A.E:Int)) w'):
  κ prog 18 #[.pointer (some ⟨pp,0,none⟩)] w N X:=by
 show FJ.C (some ⟨pp,0,none⟩) w _;apply FJ.ok;unfold FJ.main;show nZ.C (some ⟨pp,0,none⟩) 8 0 0 0 none 0 0 w _;refine Vh h ax ⟨8,0,0,0,[],none,0,0⟩ (B:=0) (μ.nil _ _ _ _) ⟨rfl,en _,λx I=>by cases I⟩ λγ eU u e2 k aJ he=>?_
 try dsimp only
 refine Lf aJ λδ az dz cU dc dD dH dJ aA ej ρ ai bo aB=>?_;have JG:=e2.to aA;have fb:fB A (ef ⟨8,0,0,0,[],none,0,0⟩)=(A,{hd with qR:=[(xf A.E:Int),A.cap]}):=aps A;rw[fb]at JG;rw[he,fb]at ρ bo;have aj:2=dH:=by have:=bo.1;simpa[bw.cI]using this
 subst aj;refine⟨_,ρ.at (j:=1) rfl,?_⟩;rw[cond_neg (by rfl)];refine⟨_,_,_,ρ.at (j:=4) rfl,?_⟩;rw[cond_neg (by rfl)];refine⟨_,_,_,ρ.at (j:=4) rfl,aW (by omega) ?_⟩;obtain⟨a,rfl,j3⟩:=bo.cells.many (j:=0) (v:=.int .i64 (xf A.E:Int)) rfl
 try dsimp only[bk]
 refine⟨_,?_,dF az eU JG (k.ex aA)⟩;have hl:a.add 0=a:=by cases a;rfl
 rw[hl]at j3;exact j3
end
section
variable{w0 w:World}{pp pd:Nat}{m:aR}{al:Int}{A:eL}{n:Nat}{D:bf}
def nine:an:=List.replicate 64 9
def ahj:eL:=(fB (xj 6 2) ⟨1,0,0,2,[]⟩).1
def Mb:eL:=(fB ahj ⟨5,0,1,0,nine⟩).1
theorem av1:(fB (xj 6 2) ⟨1,0,0,2,[]⟩).2.e=0:=by decide+kernel
theorem av2:(fB ahj ⟨5,0,1,0,nine⟩).2.e=0:=by decide+kernel
theorem ahk:(fB Mb (qF 0 1)).2.e=0/\(fB Mb (qF 0 1)).2.bs=nine:=by decide+kernel
theorem av3:(xf Mb.E:Int)=1:=by decide+kernel
def th(k v b s:Int):b9.cP:=⟨k,v,b,s,[],none,0,0⟩
theorem Lj(k v b s:Int)(w:World):a7 w (th k v b s).p (b9.bytesOf (th k v b s)):=(μ.nil w 0 dk 1).cells
theorem Lk(k v b s:Int):b9.Small (th k v b s):=⟨rfl,en _,λx I=>by cases I⟩
def Cj(v b x:Int)(a:Nat):b9.cP:=⟨5,v,b,0,List.replicate 64 x,some ⟨a,0,none⟩,64,64⟩
theorem Pm{v b x:Int}(a:Nat)(I:0<=x/\x<256):b9.Small (Cj v b x a):=⟨by simp[Cj],by show 64<=_;omega,λy ah=>by rw[uN (show y∈List.replicate 64 x from ah)];exact I⟩
theorem ahh(w:World):FM.C w (χ λv w'=>v=.bool true/\η w w'):=by
 apply FM.ok;unfold FM.main;refine κ.use (MG (s:=6) (k:=2) (by unfold pD;omega) w) ?_;rintro _ γ ⟨pd,pp,D,rfl,ψ⟩
 try dsimp only[bX,cC,cD,bk,nc,mI,iY]
 have h1:=ψ.tp;refine PY h1 (by omega) (th 1 0 0 2) (Lj _ _ _ _ _) (Lk _ _ _ _) λaa IV v aG cd aJ he=>?_;refine Lf aJ λδ ba dz cU dc dD dH dJ aI ej ρ fM iU qd=>?_;have hy:=aG.to aI;rw[he]at ρ;refine κ.use (Ng 9 (by omega) ba) ?_;rintro _ bm ⟨tY,rfl,aV,of⟩
 try dsimp only[dY]
 have ih:=hy.to aV;have ρ:=ρ.ex aV;refine PY ih (by omega) (Cj 0 1 9 tY) of.cells (Pm tY (by omega)) λcf ahR v jP iL aJ ane=>?_;have ρ:=ih.dA iL ρ (by decide);refine Lf aJ λθ cn akN akA akp axS axQ axO c7 eu ai s2 lU q1=>?_;have DM:=jP.to c7;have ρ:=ρ.ex c7;rw[ane]at ai;have aO:(fB (xj 6 2) (ef (th 1 0 0 2))).2.e=0:=av1;have bE:(fB (fB (xj 6 2) (ef (th 1 0 0 2))).1 (ef (Cj 0 1 9 tY))).2.e=0:=av2;refine⟨_,ρ.at (j:=1) rfl,?_⟩;rw[aO,cond_pos (by rfl)];refine⟨_,ai.at (j:=1) rfl,?_⟩;rw[bE,cond_pos (by rfl)];have DM:hq w cn pp pd _ _ Mb 12 ahR:=DM;refine agF DM (by omega) 0 1 λdn W8 GX rS aw8=>?_
 try dsimp only[RN]
 refine κ.use (Ng 9 (by omega) dn) ?_;rintro _ eA ⟨ae,rfl,l3,s5⟩
 try dsimp only[dY]
 have SA:=GX.to l3;refine⟨nine,rfl,s5.cells,?_⟩;have yy:yV Mb 0 1=strOf nine:=by unfold yV Lc;rw[aM (by rw[ahk.1];decide),ahk.2]
 rw[yy,cond_pos (by simp)];refine ave SA (by omega) λga awn SC Kr=>?_
 try dsimp only[bH]
 rw[av3];exact χ.mk ⟨rfl,SC.ex⟩
end
theorem Nb{E:List jJ}{v:Nat}{e:jJ}(aJ:v<8)(h:E[v]?=some e)(aD:e.1≠0):ja E v=some e:=by unfold ja;rw[aS (by omega),cy,h];simp[Option.filter,aD]
def GA(s:Int):aR.Ask:=⟨1,0,0,s,[]⟩
section
variable{w0 w:World}{pp pd:Nat}{m:aR}{al:Int}{A:eL}{n:Nat}{D:bf}
theorem atu(h:hq w0 w pp pd m al A n D)(ax:n<=600000){N:Value->ao}{X:List PanicEntry->ao}
  (dF:∀w' bb,hq w0 w' pp pd (pN (aR.tick m)) al A (n+2) bb->nI w D w' bb->N (.tuple #[.agg (fD 0 ct ct).toArray,.bool false]) w'):
  κ prog 16 #[.pointer (some ⟨pp,0,none⟩),.int .i64 2] w N X:=by
 show Aw.C (some ⟨pp,0,none⟩) 2 w _;have aP:=h.al;refine Iq h.is h.ok (by omega) (by omega) (λh=>by omega) (λ_ w' bb aJ=>?_) (λh=>by omega) (λh=>by omega);have k:=aJ.HD;exact dF w' bb (h.UG k aJ.is (h.ok.tick.clean (by omega)) (by omega)) k
theorem as4(a b:Int)(w:World)(aQ:0<=a/\a<256)(ψ:0<=b/\b<256){N:J->ao}{F QG:ao}{qA e4 gJ:List PanicEntry->ao}
  (K:∀pp pd w' D,hq w w' pp pd (xk (6+a%9) (2+b%5)) 0 (xj (6+a%9) (2+b%5)) 2 D->N (some ⟨pp,0,none⟩) w'):
  κ prog 12 #[.int .u8 a,.int .u8 b] w (λv1 γ=>dq v1 λaK=>κ prog 11 #[.agg aK] γ (λv2 aa=>b0 v2 λbN=>ξ (bN[0]?) λv3=>gX v3 λab=>ξ (bN[1]?) λv4=>gX v4 λaX=>cond (Option.isNone aX) (F aa) (κ prog 13 #[] aa (λv5 aE=>dw v5 λδ=>cond (!δ) (QG aE) (N aX aE)) gJ)) e4) qA:=by
 refine κ.use (Vn a b aQ ψ w) ?_;rintro _ γ ⟨rfl,ζ⟩
 try dsimp only[hx]
 refine κ.use (MG (s:=6+a%9) (k:=2+b%5) St γ) ?_;rintro _ aa ⟨pd,pp,D,rfl,ψ⟩
 try dsimp only[bX,cC,cD,bk,nc,mI,iY]
 refine κ.use (ahh aa) ?_;rintro _ aE ⟨rfl,ak⟩
 try dsimp only[dE]
 have h:=ψ.tp.to ak;exact K pp pd aE D ⟨h.is,h.ok,h.al,λi o=>fY ζ.size (h.new i o),ζ.trans h.ex⟩
end
def ib(w0:World)(pp:Nat)(W:World)(N:Nat)(P:eL->Prop):Prop:=∃pd m al A n D,hq w0 W pp pd m al A n D/\n<=N/\P A
def wv(W b6:World):Prop:=∀(B:Nat)(e:TypeId)(sz:Nat)(p:J)(l c:Nat)(vs:aU),μ W B e sz p l c vs->e∉o5->μ b6 B e sz p l c vs
def I3(w:World)(v:Value)(r:gS):Prop:=∃D t,vi w D v t r
section
variable{w0 W:World}{pp N:Nat}{P:eL->Prop}{Z:Value->ao}{X:List PanicEntry->ao}
theorem ib.ex(h:ib w0 pp W N P):η w0 W:=by obtain⟨_,_,_,_,_,_,h,_⟩:=h;exact h.ex
theorem ib.to(h:ib w0 pp W N P){b6:World}(x:η W b6):ib w0 pp b6 N P:=by obtain⟨pd,m,al,A,n,D,h,ι⟩:=h;exact⟨pd,m,al,A,n,D,h.to x,ι⟩
theorem ib.more(h:ib w0 pp W N P){rn:Nat}{P':eL->Prop}(eG:N<=rn)(cV:∀A,P A->P' A):ib w0 pp W rn P':=by obtain⟨pd,m,al,A,n,D,h,ι,aG⟩:=h;exact⟨pd,m,al,A,n,D,h,fY ι eG,cV A aG⟩
theorem ib.loc(h:ib w0 pp W N P){b6:World}{b:Nat}(k:Kp W b6 λi=>i=b)(aD:w0.heap.size<=b){e:TypeId}(aP:Typed W e b)(e2:e∉o5)(Bx:e∉Gx)(dr:e≠dk):ib w0 pp b6 N P:=by obtain⟨pd,m,al,A,n,D,h,ι⟩:=h;exact⟨pd,m,al,A,n,D,h.loc k aD aP e2 Bx dr,ι⟩
theorem ik(h:ib w0 pp W N P)(eG:N<=600000)(r:b9.cP)(π:a7 W r.p (b9.bytesOf r))(ω:b9.Small r)
  (dF:∀w' A v,P A->ib w0 pp w' (N+5) (λnE=>nE=(fB A (ef r)).1)->wv W w'->I3 w' v (fB A (ef r)).2->Z v w'):
  κ prog 14 #[.pointer (some ⟨pp,0,none⟩),.agg r.cells.toArray] W Z X:=by
 obtain⟨pd,m,al,A,n,D,h,ι,aG⟩:=h;refine PY h (by omega) r π ω λw' bb v e2 k aJ he=>?_;rw[he]at aJ;exact dF w' A v aG ⟨pd,_,_,_,_,bb,e2,by omega,rfl⟩ (λB e sz p l c vs ε ax=>h.dA k ε ax) ⟨_,_,aJ⟩
theorem Hj(h:ib w0 pp W N P)(eG:N<=600000)(v b:Int)(dF:∀w' A,P A->ib w0 pp w' (N+5) (λnE=>nE=A)->wv W w'->Z (.string (yV A v b)) w'):
  κ prog 17 #[.pointer (some ⟨pp,0,none⟩),.int .i64 v,.int .i64 b] W Z X:=by
 obtain⟨pd,m,al,A,n,D,h,ι,aG⟩:=h;exact agF h (by omega) v b λw' bb e2 k _=>dF w' A aG ⟨pd,_,_,_,_,bb,e2,by omega,rfl⟩ λB e sz p l c vs ε ax=>h.dA k ε ax
theorem amV(h:ib w0 pp W N P)(eG:N<=600000)(dF:∀w',ib w0 pp w' (N+5) P->wv W w'->Z (.tuple #[.agg (fD 0 ct ct).toArray,.bool false]) w'):
  κ prog 16 #[.pointer (some ⟨pp,0,none⟩),.int .i64 2] W Z X:=by
 obtain⟨pd,m,al,A,n,D,h,ι,aG⟩:=h;exact atu h (by omega) λw' bb e2 k=>dF w' ⟨pd,_,_,_,_,bb,e2,by omega,aG⟩ λB e sz p l c vs ε ax=>h.dA k ε ax
theorem aot{a b:Int}{w:World}(aQ:0<=a/\a<256)(ψ:0<=b/\b<256){F QG:ao}{qA e4 gJ:List PanicEntry->ao}{Y:J->ao}
  (K:∀pp w',ib w pp w' 2 (λA=>A=xj (6+a%9) (2+b%5))->Y (some ⟨pp,0,none⟩) w'):
  κ prog 12 #[.int .u8 a,.int .u8 b] w (λv1 γ=>dq v1 λaK=>κ prog 11 #[.agg aK] γ (λv2 aa=>b0 v2 λbN=>ξ (bN[0]?) λv3=>gX v3 λab=>ξ (bN[1]?) λv4=>gX v4 λaX=>cond (Option.isNone aX) (F aa) (κ prog 13 #[] aa (λv5 aE=>dw v5 λδ=>cond (!δ) (QG aE) (Y aX aE)) gJ)) e4) qA:=
 as4 a b w aQ ψ λpp pd w' D h=>K pp w' ⟨pd,_,_,_,_,D,h,ew _,rfl⟩
end
end Go.Proofs.YtcpdfhkhaekekaaGreat.G.eb

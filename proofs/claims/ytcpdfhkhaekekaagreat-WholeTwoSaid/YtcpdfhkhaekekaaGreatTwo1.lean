/- The law WholeTwo of the given program is proved. Conditions: none. -/
import Derived.Test.YtcpdfhkhaekekaaGreatTwo0
set_option linter.unusedVariables false
set_option linter.unusedSimpArgs false
namespace Go.Proofs.YtcpdfhkhaekekaaGreat.G.cY
open Go.bJ Go.RowKit cF dI eI cS aQ
def cont(l:List (Option fK))(b:Nat):List Int:=match(l[b]?).join with
 |none=>ba.gN
 |some x=>x.2
theorem He{A:c6}{E:List hn}{v b:Nat}{k s:Int}{l:List (Option fK)}(eB:A.E[v]?=some (k,s,l))(az:v<8)(hk:k≠0)(τ:(b:Int)<s):(cQ A (nX v b)).2={fh with bs:=cont l b}:=by unfold cQ;rw[if_pos ⟨show(1:Int)<=4 by decide,show(4:Int)<=9 by decide⟩];unfold jf nX;dsimp only;rw[if_neg (by omega),if_neg (by omega),if_neg (by omega),if_pos rfl,sX az eB hk];dsimp only;rw[if_neg (by omega),Int.toNat_natCast];unfold cont;cases(l[b]?).join<;>rfl
theorem Ch{A:c6}{v b:Nat}{k s:Int}{l:List (Option fK)}(eB:A.E[v]?=some (k,s,l))(az:v<8)(hk:k≠0)(τ:(b:Int)<s):nd A v b=strOf (cont l b):=by unfold nd DZ;rw[He (E:=A.E) eB az hk τ];rfl
def hd(v b:Int)(bs:List Int):aQ.Ask:=⟨5,v,b,0,bs⟩
theorem AW{A:c6}{v b:Nat}{s:Int}{l:List (Option fK)}{bs:List Int}(eB:A.E[v]?=some (1,s,l))(az:v<8)(τ:(b:Int)<s)(jW:bs.length=64):
  cQ A (hd v b bs)=if A.cap<(l7 A.E:Int)+1 then kB A 9 else({A with E:=A.E.set v (1,s,l.set b (some (A.n,bs))),n:=A.n+1},fh):=by
 unfold cQ;rw[if_pos ⟨show(1:Int)<=5 by decide,show(5:Int)<=9 by decide⟩];unfold jf hd;dsimp only;rw[if_neg (by omega),if_neg (by omega),if_neg (by omega),if_neg (by omega),if_pos rfl,sX az eB (show(1:Int)≠0 by decide)];dsimp only;rw[if_neg (by decide),if_neg (by omega),if_neg (by omega),Int.toNat_natCast,Int.toNat_natCast,Cl eB]
open Go
theorem YO{x:Int}(h:(Lit.int .u16 x).wf=true):0<=x/\x<65536:=by simp[Lit.wf,IntKind.min,IntKind.max,IntKind.signed,IntKind.bits]at h;omega
theorem Y4(y:Int):IntKind.u16.wrap y=y%65536:=by simp[IntKind.wrap,IntKind.signed,IntKind.bits]
section
variable{w0 W:World}{pp N:Nat}{P:c6->Prop}
theorem vN{v:Value}{r:gj}(az:tQ W v r){Y:Nat->al}(K:∀b w' t cr b8 dc cx cC cD,η W w'->W.heap.size<=b->μ w' b ck 5 (some ⟨b,0,none⟩) 1 1 (fY t r cr b8 dc cx cC cD)->μ w' 0 dt 1 cr b8 dc (a7 r.bs)->μ w' 0 cz 1 cx cC cD (bA.cW r.pr)->Y b w'):
  cv v λaE=>aK W #[.int .i64 0,.int .i64 0,.int .i64 0,bR,bR] ck λδ χ=>ν (decide (aE.size=5)) (a6 χ (⟨δ,0,none⟩:Addr) aE.toList/\∀ao,ao=χ.setCells (⟨δ,0,none⟩:Addr).block (⟨δ,0,none⟩:Addr).off aE.toList->Y δ ao):=by
 obtain⟨D,t,az⟩:=az;exact Ci az λb w' cr b8 dc cx cC cD x τ σ af bh _=>K b w' t cr b8 dc cx cC cD x τ σ af bh
end
end Go.Proofs.YtcpdfhkhaekekaaGreat.G.cY
namespace Go.Proofs.YtcpdfhkhaekekaaGreat.G.cY
open Go Go.bJ Go.RowKit cF dI eI cS aQ
def Iz(v b:Int):aQ.Ask:=⟨6,v,b,0,[]⟩
theorem Um{A:c6}{v b:Nat}{s:Int}{l:List (Option fK)}(eB:A.E[v]?=some (1,s,l))(az:v<8)(τ:(b:Int)<s):
  cQ A (Iz v b)=({A with E:=A.E.set v (1,s,l.set b none)},fh):=by
 unfold cQ;rw[aN ⟨show(1:Int)<=6 by decide,show(6:Int)<=9 by decide⟩];unfold jf Iz;dsimp only;rw[aL (by omega),aL (by omega),aL (by omega),aL (by omega),aL (by omega),aN rfl,sX az eB (show(1:Int)≠0 by decide)];dsimp only;rw[aL (by decide),aL (by omega),ch,ch,Cl eB]
theorem AM{W:World}{Y:Nat->al}(K:∀b w',η W w'->W.heap.size<=b->μ w' b ck 5 (some ⟨b,0,none⟩) 1 1 (fJ 0 bR bR)->Y b w'):aK W #[.int .i64 0,.int .i64 0,.int .i64 0,bR,bR] ck Y:=by rintro b w' τ rfl;have o:=μ.new (w:=W) (fJ 0 bR bR) ck;rw[<-τ]at o;exact K b _ (η.alloc W _) (by omega) o
end Go.Proofs.YtcpdfhkhaekekaaGreat.G.cY
namespace Go.Proofs.YtcpdfhkhaekekaaGreat.G.cY
open Tryz
open Go Go.bJ Go.RowKit cF dI eI cS aQ
theorem ny.trans{W q4 KP:World}(h:ny W q4)(k:ny q4 KP):ny W KP:=λB e sz p l c vs o ar=>k _ _ _ _ _ _ _ (h _ _ _ _ _ _ _ o ar) ar
def four(l:List (Option fK)):ByteArray:=((strOf (cont l 0)++strOf (cont l 1))++strOf (cont l 2))++strOf (cont l 3)
def zp(l:List (Option fK)):Prop:=l.length=4/\∀b,(cont l b).length=64
theorem ags:zp (List.replicate 4 none):=⟨rfl,λb=>by
 unfold cont;rw[List.getElem?_replicate];by_cases h:b<4
 ·rw[aN h];rfl
 ·rw[aL h];rfl⟩
theorem agt{l:List (Option fK)}(h:zp l){b:Nat}(τ:b<4){x:Option fK}(J:∀y,x=some y->y.2.length=64):zp (l.set b x):=by
 refine⟨by rw[hQ];exact h.1,λgg=>?_⟩;unfold cont;rw[List.getElem?_set];by_cases rl:b=gg
 ·rw[aN rl,aN (by rw[h.1];exact τ)];cases x with
  |none=>rfl
  |some y=>exact J y rfl
 ·rw[aL rl];exact h.2 gg
def zr(o v:Nat)(Lo:List (Option fK))(A:c6):Prop:=A.E[o]?=some (1,4,Lo)/\∃xU,A.E[v]?=some (1,4,xU)/\zp xU
theorem axR{A:c6}{o v b:Nat}{Lo:List (Option fK)}(h:zr o v Lo A)(uq:o≠v)(az:v<8)(τ:b<4){bs:aq}(jW:bs.length=64)(k:Int)(hk:k=5\/k=6):
  ((cQ A ⟨k,v,b,0,bs⟩).2.e=0\/(cQ A ⟨k,v,b,0,bs⟩).2.e=9)/\zr o v Lo (cQ A ⟨k,v,b,0,bs⟩).1:=by
 obtain⟨h1,xU,ι,aJ⟩:=h;have ak:=(List.getElem?_eq_some_iff.1 ι).1;rcases hk with rfl|rfl
 ·have hw:=AW ι az (b:=b) (by omega) jW;unfold hd at hw;rw[hw];by_cases π:A.cap<(l7 A.E:Int)+1
  ·rw[aN π];exact⟨.inr rfl,h1,xU,ι,aJ⟩
  ·rw[aL π];refine⟨.inl rfl,?_,xU.set b (some (A.n,bs)),?_,agt aJ τ λy ag=>by cases ag;exact jW⟩
   ·show(A.E.set v _)[o]?=_;rw[List.getElem?_set,aL (λe=>uq e.symm)];exact h1
   ·show(A.E.set v _)[v]?=_;rw[List.getElem?_set,aN rfl,aN ak]
 ·have ah:cQ A ⟨6,v,b,0,bs⟩=({A with E:=A.E.set v (1,4,xU.set b none)},fh):=Um ι az (b:=b) (by omega);rw[ah];refine⟨.inl rfl,?_,xU.set b none,?_,agt aJ τ λy ag=>by cases ag⟩
  ·show(A.E.set v _)[o]?=_;rw[List.getElem?_set,aL (λe=>uq e.symm)];exact h1
  ·show(A.E.set v _)[v]?=_;rw[List.getElem?_set,aN rfl,aN ak]
theorem X8{w0 W:World}{pp N o:Nat}{P:c6->Prop}{L:List (Option fK)}(h:ec w0 pp W N P)(ek:N<=100000)(aG:o<8)(dd:∀A,P A->A.E[o]?=some (1,4,L))(gy:zp L){C:ByteArray->ByteArray->ByteArray->ByteArray->al}{qz ft ha iF:List PanicEntry->al}
  (hC:∀w',ec w0 pp w' (N+20) P->ny W w'->C (strOf (cont L 0)) (strOf (cont L 1)) (strOf (cont L 2)) (strOf (cont L 3)) w'):
  κ prog 17 #[.pointer (some ⟨pp,0,none⟩),.int .i64 o,.int .i64 0] W (λa7 dp=>iI a7 λs1=>
  κ prog 17 #[.pointer (some ⟨pp,0,none⟩),.int .i64 o,.int .i64 1] dp (λv9 dP=>iI v9 λs2=>ν (decide (((s1.size+s2.size:Nat):Int)<=IntKind.i64.max)) (
  κ prog 17 #[.pointer (some ⟨pp,0,none⟩),.int .i64 o,.int .i64 2] dP (λv10 eE=>iI v10 λjO=>ν (decide ((((s1++s2).size+jO.size:Nat):Int)<=IntKind.i64.max)) (
  κ prog 17 #[.pointer (some ⟨pp,0,none⟩),.int .i64 o,.int .i64 3] eE (λv11 dM=>iI v11 λmI=>ν (decide (((((s1++s2)++jO).size+mI.size:Nat):Int)<=IntKind.i64.max)) (C s1 s2 jO mI dM)) iF)) ha)) ft) qz:=by
 have φ:∀(b:Nat),b<4->∀A,P A->nd A o b=strOf (cont L b):=λb τ A cc=>Ch (dd A cc) aG (by decide) (by omega);have aI:∀b,(strOf (cont L b)).size=64:=λb=>by rw[R5,gy.2]
 refine ta h (by omega) o 0 λdp Zh o8 wZ oH=>?_;have hB:nd Zh o 0=strOf (cont L 0):=φ 0 (by omega) Zh o8;rw[hB];have wZ:=wZ.more (dO _) (P':=P) λA e=>e▸o8
 try dsimp only[wT]
 refine ta wZ (by omega) o 1 λdP En acy w1 yB=>?_;have aP:nd En o 1=strOf (cont L 1):=φ 1 (by omega) En acy;rw[aP];have w1:=w1.more (dO _) (P':=P) λA e=>e▸acy
 try dsimp only[wT]
 refine aT (by rw[aI,aI,yx];omega) ?_;refine ta w1 (by omega) o 2 λeE sD sZ FH te=>?_;have bM:nd sD o 2=strOf (cont L 2):=φ 2 (by omega) sD sZ;rw[bM];have FH:=FH.more (dO _) (P':=P) λA e=>e▸sZ
 try dsimp only[wT]
 refine aT (by rw[RG,aI,aI,aI,yx];omega) ?_;refine ta FH (by omega) o 3 λdM Eo PX lW pn=>?_;have gA:nd Eo o 3=strOf (cont L 3):=φ 3 (by omega) Eo PX;rw[gA];have lW:=lW.more (dO _) (P':=P) λA e=>e▸PX
 try dsimp only[wT]
 refine aT (by rw[RG,RG,aI,aI,aI,aI,yx];omega) ?_;exact hC dM (lW.more (by omega) λ_ h=>h) (((oH.trans yB).trans te).trans pn)
theorem ec.fix{w0 W:World}{pp N:Nat}{P:c6->Prop}(h:ec w0 pp W N P):∃A,P A/\ec w0 pp W N (λgm=>gm=A):=by obtain⟨pd,m,aA,A,n,D,h,ι,aJ⟩:=h;exact⟨A,aJ,pd,m,aA,A,n,D,h,ι,rfl⟩
def OR(A:c6):Prop:=∃Is It,A.E[0]?=some (1,4,Is)/\A.E[1]?=some (1,4,It)/\zp Is/\zp It
section
variable{w0 W:World}{pp N o v b:Nat}{Lo:List (Option fK)}{R:au}{p:γ}{n c:Nat}
theorem aak{t9 t10 t15 B:Nat}{t11 t56:Int}{t57:Bool}{a1:γ->Nat->Nat->γ->Nat->Nat->Int->al}(h:ec w0 pp W N (zr o v Lo))(ek:N<=50000)(Bs:zp Lo)(uq:o≠v)(aG:o<8)(az:v<8)(τ:b<4){k:Int}(hk:k=5\/k=6){bs:aq}(jW:bs.length=64)(P7:∀x∈bs,0<=x/\x<256){hz:Nat}
  (or:μ W B e7 5 (some ⟨t15,0,none⟩) 1 1 (b9.cZ.cells ⟨k,v,b,0,bs,some ⟨hz,0,none⟩,64,64⟩))(of:bd W (some ⟨hz,0,none⟩) (a7 bs))
  (hC:∀w',ec w0 pp w' (N+30) (zr o v Lo)->ny W w'->a1 p n c (some ⟨pp,0,none⟩) t9 t10 (IntKind.i64.wrap (t11+1)) w'):
  kj.b4 p n c (some ⟨pp,0,none⟩) t9 t10 t11 (o:Int) (four Lo) t15 t56 t57 W R a1:=by
 unfold kj.b4;refine⟨_,rfl,or.cells,?_⟩;refine gv h (by omega) ⟨k,v,b,0,bs,some ⟨hz,0,none⟩,64,64⟩ of ⟨jW,by show 64<=_;omega,P7⟩ λga A u cc lD yE hu=>?_;have iA:dW ⟨k,v,b,0,bs,some ⟨hz,0,none⟩,64,64⟩=⟨k,v,b,0,bs⟩:=rfl;rw[iA]at lD hu;obtain⟨he,FK⟩:=axR cc uq az τ jW k hk;refine vN hu λdR jS t cr b8 dc cx cC cD Cz w4 bY _ _=>?_;have FJ:=(lD.to Cz).more (dO _) (P':=zr o v Lo) λgm e=>e▸FK;have ad4:=yE.ex Cz;have jQ:∀(w':World),ec w0 pp w' (N+5+20) (zr o v Lo)->ny jS w'->cond (!((four Lo).toList==(four Lo).toList)) (R (.returned (Value.bool false)) w') (a1 p n c (some ⟨pp,0,none⟩) t9 t10 (IntKind.i64.wrap (t11+1)) w'):=λw' e2 k'=>by rw[cond_neg (by simp)];exact hC w' (e2.more (by omega) λ_ h=>h) (ad4.trans k')
 refine⟨_,bY.at (j:=1) rfl,?_⟩;rcases he with he|he
 ·rw[he,cond_neg (by rfl)];exact X8 FJ (by omega) aG (λA cc=>cc.1) Bs jQ
 ·rw[he,cond_pos (by rfl)];refine⟨_,bY.at (j:=1) rfl,?_⟩;rw[he,cond_neg (by rfl)];exact X8 FJ (by omega) aG (λA cc=>cc.1) Bs jQ
theorem aaj{t9 t10 t15 B:Nat}{j:Nat}{t56:Int}{t57:Bool}{xs:aq}{a1:γ->Nat->Nat->γ->Nat->Nat->Int->al}(h:ec w0 pp W N (zr o v Lo))(ek:N<=50000)(Bs:zp Lo)(uq:o≠v)(aG:o<8)(az:v<8)(τ:b<4){bs:aq}(jW:bs.length=64)(P7:∀x∈bs,0<=x/\x<256){hz:Nat}{x:Int}
  (ψ:j<n)(rd:∀{bq:World},η w0 bq->∃a,p=some a/\bq.cell? (a.add (j*1))=some (.int .u16 x))(IW:w0.heap.size<=t15)
  (or:μ W B e7 5 (some ⟨t15,0,none⟩) 1 1 (b9.cZ.cells ⟨5,v,b,0,bs,some ⟨hz,0,none⟩,64,64⟩)){AZ:Nat}(of:μ W AZ dt 1 (some ⟨hz,0,none⟩) 64 64 (a7 bs))
  (hC:∀w',ec w0 pp w' (N+30) (zr o v Lo)->(∀(B:Nat)(e:TypeId)(sz:Nat)(p:γ)(l c:Nat)(vs:aY),μ W B e sz p l c vs->e∉ow->e≠e7->μ w' B e sz p l c vs)->a1 p n c (some ⟨pp,0,none⟩) t9 t10 (IntKind.i64.wrap ((j:Int)+1)) w'):
  kj.bK p n c (some ⟨pp,0,none⟩) t9 t10 (j:Int) (o:Int) (four Lo) t15 t56 t57 W R a1:=by
 unfold kj.bK;refine aT (by omega) (aT (by omega) ?_);obtain⟨a,aR,φ⟩:=rd h.ex;rw[aR]
 try dsimp only[bo]
 rw[ch,<-aR];refine⟨x,φ,bt (λdx=>?_) (λdx=>?_)⟩
 ·refine or.dv (j:=0) (v:=.int .i64 6) (by omega) rfl λnq QG yL=>?_;have t:=(or.typed rfl).1;refine aak (k:=6) (h.loc QG IW t (by decide) (by decide) (by decide)) ek Bs uq aG az τ (.inr rfl) jW P7 yL (of.aO QG λy ag I=>(of.typed ag).1.ne (I▸t) (by decide) rfl).cells λw' e2 k'=>hC w' e2 λB e sz p l c vs rE ar b1=>k' _ _ _ _ _ _ _ (rE.aO QG λy ag I=>(rE.typed ag).1.ne (I▸t) b1 rfl) ar
 ·exact aak (k:=5) h ek Bs uq aG az τ (.inl rfl) jW P7 or of.cells λw' e2 k'=>hC w' e2 λB e sz p l c vs rE ar b1=>k' _ _ _ _ _ _ _ rE ar
theorem aga{Y:Nat->al}(K:∀b w',η W w'->W.heap.size<=b->μ w' b e7 5 (some ⟨b,0,none⟩) 1 1 b9.lQ->Y b w'):aK W #[.int .i64 0,.int .i64 0,.int .i64 0,.int .i64 0,bR] e7 Y:=by rintro b w' τ rfl;have o:=μ.new (w:=W) b9.lQ e7;rw[<-τ]at o;exact K b _ (η.alloc W _) (by omega) o
theorem aai{t9 t10:Nat}{j:Nat}{t56:Int}{t57:Bool}{a1:γ->Nat->Nat->γ->Nat->Nat->Int->al}(h:ec w0 pp W N (zr o v Lo))(ek:N<=40000)(Bs:zp Lo)(uq:o≠v)(aG:o<8)(az:v<8){x:Int}(J:0<=x/\x<65536)
  (ψ:j<n)(rd:∀{bq:World},η w0 bq->∃a,p=some a/\bq.cell? (a.add (j*1))=some (.int .u16 x))
  (hC:∀w',ec w0 pp w' (N+50) (zr o v Lo)->(∀(B:Nat)(e:TypeId)(sz:Nat)(p:γ)(l c:Nat)(vs:aY),μ W B e sz p l c vs->e∉ow->e≠e7->μ w' B e sz p l c vs)->a1 p n c (some ⟨pp,0,none⟩) t9 t10 (IntKind.i64.wrap ((j:Int)+1)) w'):
  kj.aV p n c (some ⟨pp,0,none⟩) t9 t10 (j:Int) (v:Int) (o:Int) t56 t57 W R a1:=by
 unfold kj.aV;refine X8 h (by omega) aG (λA cc=>cc.1) Bs λdM lW pn=>?_;have lW:=lW.to (η.drew dM);have pn:=pn.ex (η.drew dM);generalize dM.drew=dM at lW pn⊢;obtain⟨a,aR,_⟩:=rd lW.ex;have rd:∀{bq:World},η w0 bq->bq.cell? (a.add (j*1))=some (.int .u16 x):=λ{bq}nv=>by obtain⟨fL,Bt,φ⟩:=rd nv;rw[aR]at Bt;cases Bt;exact φ
 have JY:∀{bq:World},η w0 bq->∃a,p=some a/\bq.cell? (a.add (j*1))=some (.int .u16 x):=λnv=>⟨a,aR,rd nv⟩;refine aT (by omega) (aT (by omega) ?_);rw[aR]
 try dsimp only[bo]
 rw[ch];refine⟨x,rd lW.ex,aT (by omega) (aT (by omega) ⟨x,rd lW.ex,?_⟩)⟩;rw[<-aR];generalize ag:IntKind.u8.wrap (Int.fdiv x (2^(min 8 IntKind.u16.bits)))=y;have Dv:0<=y/\y<256:=by rw[<-ag,tJ];omega
 clear ag;have d2:Int.tdiv x 2=x/2:=Rx J.1;have t4:Int.tmod (x/2) 4=x/2%4:=xD (by omega);rw[d2,Y4,G5 (a:=x/2) (b:=65536) (by omega) (by omega),bS (x:=x/2) (by omega) (by omega),t4];obtain⟨b,τ⟩:=eF (show 0<=x/2%4 by omega);rw[τ];have lX:b<4:=by omega
 have azT:=lW.ex.size;refine⟨?_,?_⟩
 ·refine κ.use (wW y Dv dM) ?_;rintro _ gr ⟨hz,rfl,wy,of⟩
  try dsimp only[ee]
  have C9:=lW.to wy;refine⟨rd C9.ex,?_⟩;have azU:=wy.size;refine aga λaa kX AX ape cJ=>?_;have acs:=C9.to AX;refine⟨rfl,rd acs.ex,?_⟩;refine cJ.put (cs:=b9.cZ.cells ⟨5,v,b,0,List.replicate 64 y,some ⟨hz,0,none⟩,64,64⟩) rfl b9.C5 λfb WG BW=>?_;have t:=(cJ.typed rfl).1;have of:=(of.ex AX).aO WG λz aI I=>((of.ex AX).typed aI).1.ne (I▸t) (by decide) rfl;refine aaj (bs:=List.replicate 64 y) (xs:=[]) (acs.loc WG (by omega) t (by decide) (by decide) (by decide)) (by omega) Bs uq aG az lX (by simp) (λz aI=>by rw[nb aI];exact Dv) ψ JY (by omega) BW of λw' e2 k'=>hC w' (e2.more (by omega) λ_ h=>h) λB e sz p l c vs rE ar b1=>k' _ _ _ _ _ _ _ ((((pn _ _ _ _ _ _ _ rE ar).ex wy).ex AX).aO WG λz aI I=>((((pn _ _ _ _ _ _ _ rE ar).ex wy).ex AX).typed aI).1.ne (I▸t) b1 rfl) ar b1
 ·refine aga λcu eJ nu apf cB=>?_;have vF:=lW.to nu;refine⟨rd vF.ex,rd vF.ex,?_⟩;refine κ.use (wW y Dv eJ) ?_;rintro _ gh ⟨hz,rfl,oV,of⟩
  try dsimp only[ee]
  have Da:=vF.to oV;have cB:=cB.ex oV;refine⟨rd Da.ex,?_⟩;refine cB.put (cs:=b9.cZ.cells ⟨5,v,b,0,List.replicate 64 y,some ⟨hz,0,none⟩,64,64⟩) rfl b9.C5 λhv Gl xm=>?_;have t:=(cB.typed rfl).1;have of:=of.aO Gl λz aI I=>(of.typed aI).1.ne (I▸t) (by decide) rfl;refine aaj (bs:=List.replicate 64 y) (xs:=[]) (Da.loc Gl (by omega) t (by decide) (by decide) (by decide)) (by omega) Bs uq aG az lX (by simp) (λz aI=>by rw[nb aI];exact Dv) ψ JY (by omega) xm of λw' e2 k'=>hC w' (e2.more (by omega) λ_ h=>h) λB e sz p l c vs rE ar b1=>k' _ _ _ _ _ _ _ ((((pn _ _ _ _ _ _ _ rE ar).ex nu).ex oV).aO Gl λz aI I=>((((pn _ _ _ _ _ _ _ rE ar).ex nu).ex oV).typed aI).1.ne (I▸t) b1 rfl) ar b1
end
set_option maxRecDepth 10000 in
theorem alw{w0 W:World}{pp N ζ ax n c:Nat}{p:γ}{xs:aq}(c8:bd w0 p (xs.map (Value.int .u16)))(ar:xs.length=n)(hw:∀x∈xs,0<=x/\x<65536)(h:ec w0 pp W N OR)(ek:N<=1000){fs wC:Nat}{t h4:Int}{r qK:gj}{cr:γ}{b8 dc:Nat}{cx:γ}{cC cD:Nat}{yb:γ}{x9 x7:Nat}{Aj:γ}{Ai Ah:Nat}
  (af:μ W fs ck 5 (some ⟨ζ,0,none⟩) 1 1 (fY t r cr b8 dc cx cC cD))(bh:μ W wC ck 5 (some ⟨ax,0,none⟩) 1 1 (fY h4 qK yb x9 x7 Aj Ai Ah))(aF:r.id=0)(h1:qK.id=1):
  kj.bb p n c (some ⟨pp,0,none⟩) ζ ax 0 W (ω λv w'=>v=.bool true/\η w0 w'):=by
 unfold kj.bb;refine⟨λdw dh ef t8 t9 t10 t11 W=>p=dw/\n=dh/\c=ef/\some ⟨pp,0,none⟩=t8/\ζ=t9/\ax=t10/\0<=t11/\t11<=80/\ec w0 pp W (N+60*t11.toNat) OR/\μ W fs ck 5 (some ⟨ζ,0,none⟩) 1 1 (fY t r cr b8 dc cx cC cD)/\μ W wC ck 5 (some ⟨ax,0,none⟩) 1 1 (fY h4 qK yb x9 x7 Aj Ai Ah),λ_ _ _ _ _ _ t11 _=>(80-t11).toNat,⟨rfl,rfl,rfl,rfl,rfl,rfl,by omega,by omega,h.more (by omega) λ_ h=>h,af,bh⟩,?_⟩;clear h af bh;rintro _ _ _ _ _ _ t11 W ⟨rfl,rfl,rfl,rfl,rfl,rfl,g0,g1,h,af,bh⟩;unfold kj.δ;obtain⟨j,rfl⟩:=eF g0;rw[ch]at h⊢;refine bt (λψ=>?_) (λψ=>ω.mk ⟨rfl,h.ex⟩);refine bt (λhk=>?_) (λhk=>ω.mk ⟨rfl,h.ex⟩);have ψ:=b6 ψ;have hk:=b6 hk;have pb:j<xs.length:=by omega
 have J:=hw _ (hP pb);have lF:(xs.map (Value.int .u16))[j]?=some (.int .u16 xs[j]):=by rw[List.getElem?_map,List.getElem?_eq_getElem pb];rfl
 generalize xs[j]=x at J lF;have JY:∀{bq:World},η w0 bq->∃a,p=some a/\bq.cell? (a.add (j*1))=some (.int .u16 x):=λ{bq}nv=>by obtain⟨a,C1,jN⟩:=(c8.ex nv).many lF;exact⟨a,C1,by rw[eS];exact jN⟩
 have g2:∀{bq:World},μ bq fs ck 5 (some ⟨ζ,0,none⟩) 1 1 (fY t r cr b8 dc cx cC cD)->bq.cell? (⟨ζ,2,none⟩:Addr)=some (.int .i64 ((0:Nat):Int)):=λo=>by
  have:=o.at (j:=2) rfl
  rw[aF]at this;exact this
 have g3:∀{bq:World},μ bq wC ck 5 (some ⟨ax,0,none⟩) 1 1 (fY h4 qK yb x9 x7 Aj Ai Ah)->bq.cell? (⟨ax,2,none⟩:Addr)=some (.int .i64 ((1:Nat):Int)):=λo=>by
  have:=o.at (j:=2) rfl
  rw[h1]at this;exact this
 refine⟨_,g2 af,_,g3 bh,λaV=>?_⟩;have h:=h.to (η.drewN W aV);have af:=af.ex (η.drewN W aV);have bh:=bh.ex (η.drewN W aV);generalize W.drewN aV=W at h af bh⊢;obtain⟨A,⟨Is,It,cc,eh,Vc,Vd⟩,h⟩:=h.fix;obtain⟨a,aR,φ⟩:=JY h.ex;refine aT (by omega) (aT (by omega) ?_);rw[aR]
 try dsimp only[bo]
 rw[<-aR];refine⟨x,φ,?_⟩;have aP:((j:Int)+1).toNat=j+1:=by omega
 have go:∀(bq:World),ec w0 pp bq (N+60*j+50) OR->(∀(B:Nat)(e:TypeId)(sz:Nat)(p:γ)(l c:Nat)(vs:aY),μ W B e sz p l c vs->e∉ow->e≠e7->μ bq B e sz p l c vs)->
   (p=p/\n=n/\c=c/\(some ⟨pp,0,none⟩:γ)=some ⟨pp,0,none⟩/\ζ=ζ/\ax=ax/\0<=IntKind.i64.wrap ((j:Int)+1)/\IntKind.i64.wrap ((j:Int)+1)<=80/\ec w0 pp bq (N+60*(IntKind.i64.wrap ((j:Int)+1)).toNat) OR/\μ bq fs ck 5 (some ⟨ζ,0,none⟩) 1 1 (fY t r cr b8 dc cx cC cD)/\μ bq wC ck 5 (some ⟨ax,0,none⟩) 1 1 (fY h4 qK yb x9 x7 Aj Ai Ah))/\(80-IntKind.i64.wrap ((j:Int)+1)).toNat<(80-(j:Int)).toNat:=λbq hH k'=>by
  rw[bS (x:=(j:Int)+1) (by omega) (by omega),aP];exact⟨⟨rfl,rfl,rfl,rfl,rfl,rfl,by omega,by omega,hH.more (by omega) (λ_ h=>h),k' _ _ _ _ _ _ _ af (by decide) (by decide),k' _ _ _ _ _ _ _ bh (by decide) (by decide)⟩,by omega⟩
 refine bt (λaqs=>?_) (λaqs=>?_)
 ·refine⟨_,g3 bh,_,g2 af,λbK=>?_⟩;have ρ:=η.drewN W bK;refine aai (o:=0) (v:=1) (Lo:=Is) ((h.to ρ).more (dO _) λgm e=>?_) (by omega) Vc (by decide) (by decide) (by decide) J (by omega) JY λw' e2 k'=>?_
  ·subst e;exact⟨cc,It,eh,Vd⟩
  ·exact go w' (e2.more (by omega) λgm⟨dK,xU,fp,na⟩=>⟨Is,xU,dK,fp,Vc,na⟩) λB e sz p l c vs rE ar b1=>k' _ _ _ _ _ _ _ (rE.ex ρ) ar b1
 ·refine aai (o:=1) (v:=0) (Lo:=It) (h.more (dO _) λgm e=>?_) (by omega) Vd (by decide) (by decide) (by decide) J (by omega) JY λw' e2 k'=>?_
  ·subst e;exact⟨eh,Is,cc,Vc⟩
  ·exact go w' (e2.more (by omega) λgm⟨dK,xU,fp,na⟩=>⟨xU,It,fp,dK,na,Vd⟩) k'
theorem alJ(a b:Int)(p:γ)(n c:Nat)(xs:aq)(w:World)(aR:0<=a/\a<256)(τ:0<=b/\b<256)(I:Ints .u16 w p n c xs)(φ:c*2<=140737488351232):
  kj.C a b p n c w (ω λv w'=>v=.bool true/\η w w'):=by
 apply kj.ok;unfold kj.main;refine Qs aR τ λpp an h=>?_;refine gv h (by omega) (ki 1 0 0 4) (tx _ _ _ _ _) (tz _ _ _ _) λa8 A u cc hq hW hu=>?_;have iA:dW (ki 1 0 0 4)=ox 4:=rfl;rw[iA]at hq hu;have eB:A.E=[]++List.replicate (7+1) oX:=by subst cc;rfl
 have π:=Pq (s:=4) (by omega) (λe he=>by cases he) eB;rw[π]at hq hu;obtain⟨D,t,cr,b8,dc,cx,cC,cD,rfl,_⟩:=hu
 try dsimp only[hA,h7]
 refine gv hq (by omega) (ki 1 0 0 4) (tx _ _ _ _ _) (tz _ _ _ _) λbW sD qu sZ hD iq BG=>?_;rw[iA]at hD BG;have aoJ:sD.E=[((1:Int),(4:Int),List.replicate 4 (none:Option fK))]++List.replicate (6+1) oX:=by subst sZ;rfl
 have jX:=Pq (s:=4) (by omega) (λe he=>by rw[ma.1 he];show(1:Int)≠0;decide) aoJ;rw[jX]at hD BG;obtain⟨gO,t2,ano,ana,amV,asN,asF,asx,rfl,_⟩:=BG
 try dsimp only[hA,h7]
 refine AM λζ cd eW eG af=>?_;refine AM λax cm df jm bh=>?_;have ab:=hD.ex.size;have aqN:=eW.size;have b1:ζ≠ax:=by have:=(af.ge rfl).2;dsimp only at this;omega
 have af:=af.ex df;have Bp:=(hD.to eW).to df;refine aT rfl (af.put (cs:=fY t {fh with id:=0} cr b8 dc cx cC cD) rfl qL λcE n9 rB=>?_);have xJ:=(af.typed rfl).1;have vE:=Bp.loc n9 (by omega) xJ (by decide) (by decide) (by decide);have bh:=bh.aO n9 λy ag I=>by cases ag;exact b1 I.symm
 refine aT rfl (bh.put (cs:=fY t2 {fh with id:=1} ano ana amV asN asF asx) rfl qL λda oa qa=>?_);have IP:=vE.loc oa (by omega) (bh.typed rfl).1 (by decide) (by decide) (by decide);have rB:=rB.aO oa λy ag I=>by cases ag;exact b1 I
 refine⟨_,rB.at (j:=1) rfl,?_⟩;rw[cond_neg (by rfl)];refine⟨_,qa.at (j:=1) rfl,?_⟩;rw[cond_neg (by rfl)];refine⟨_,rB.at (j:=2) rfl,_,qa.at (j:=2) rfl,?_⟩;rw[cond_neg (by rfl)];exact alw I.cells I.size (λx J=>YO (I.wf x J)) (IP.more (dO _) λgm e=>by subst e;exact⟨_,_,rfl,rfl,ags,ags⟩) (by omega) rB qa rfl rfl
end Go.Proofs.YtcpdfhkhaekekaaGreat.G.cY

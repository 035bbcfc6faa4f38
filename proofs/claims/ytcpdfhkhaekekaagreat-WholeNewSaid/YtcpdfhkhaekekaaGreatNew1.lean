/- The law WholeNew of the given program is proved. Conditions: none. -/
import Derived.Test.YtcpdfhkhaekekaaGreatNew0
set_option linter.unusedVariables false
set_option linter.unusedSimpArgs false
namespace Go.Proofs.YtcpdfhkhaekekaaGreat.G.cY
open Go.bJ Go.RowKit cF dI eI cS aQ
def cont(l:List (Option fK))(b:Nat):List Int:=match(l[b]?).join with
 |none=>ba.gN
 |some x=>x.2
theorem He{A:c6}{E:List hn}{v b:Nat}{k s:Int}{l:List (Option fK)}(eB:A.E[v]?=some (k,s,l))(az:v<8)(hk:k≠0)(τ:(b:Int)<s):(cQ A (nX v b)).2={fh with bs:=cont l b}:=by unfold cQ;rw[if_pos ⟨show(1:Int)<=4 by decide,show(4:Int)<=9 by decide⟩];unfold jf nX;dsimp only;rw[if_neg (by omega),if_neg (by omega),if_neg (by omega),if_pos rfl,sX az eB hk];dsimp only;rw[if_neg (by omega),Int.toNat_natCast];unfold cont;cases(l[b]?).join<;>rfl
theorem Ch{A:c6}{v b:Nat}{k s:Int}{l:List (Option fK)}(eB:A.E[v]?=some (k,s,l))(az:v<8)(hk:k≠0)(τ:(b:Int)<s):nd A v b=strOf (cont l b):=by unfold nd DZ;rw[He (E:=A.E) eB az hk τ];rfl
def hd(v b:Int)(bs:List Int):aQ.Ask:=⟨5,v,b,0,bs⟩
theorem AW{A:c6}{v b:Nat}{s:Int}{l:List (Option fK)}{bs:List Int}(eB:A.E[v]?=some (1,s,l))(az:v<8)(τ:(b:Int)<s)(jW:bs.length=64):
  cQ A (hd v b bs)=if A.cap<(l7 A.E:Int)+1 then kB A 9 else({A with E:=A.E.set v (1,s,l.set b (some (A.n,bs))),n:=A.n+1},fh):=by
 unfold cQ;rw[if_pos ⟨show(1:Int)<=5 by decide,show(5:Int)<=9 by decide⟩];unfold jf hd;dsimp only;rw[if_neg (by omega),if_neg (by omega),if_neg (by omega),if_neg (by omega),if_pos rfl,sX az eB (show(1:Int)≠0 by decide)];dsimp only;rw[if_neg (by decide),if_neg (by omega),if_neg (by omega),Int.toNat_natCast,Int.toNat_natCast,Cl eB]
open Go
section
variable{w0 W:World}{pp N:Nat}{P:c6->Prop}
theorem vN{v:Value}{r:gj}(az:tQ W v r){Y:Nat->al}(K:∀b w' t cr b8 dc cx cC cD,η W w'->W.heap.size<=b->μ w' b ck 5 (some ⟨b,0,none⟩) 1 1 (fY t r cr b8 dc cx cC cD)->μ w' 0 dt 1 cr b8 dc (a7 r.bs)->μ w' 0 cz 1 cx cC cD (bA.cW r.pr)->Y b w'):
  cv v λaE=>aK W #[.int .i64 0,.int .i64 0,.int .i64 0,bR,bR] ck λδ χ=>ν (decide (aE.size=5)) (a6 χ (⟨δ,0,none⟩:Addr) aE.toList/\∀ao,ao=χ.setCells (⟨δ,0,none⟩:Addr).block (⟨δ,0,none⟩:Addr).off aE.toList->Y δ ao):=by
 obtain⟨D,t,az⟩:=az;exact Ci az λb w' cr b8 dc cx cC cD x τ σ af bh _=>K b w' t cr b8 dc cx cC cD x τ σ af bh
end
abbrev o2:Nat->bl:=λb c=>c*b<=140737488351232
def uM:o3:=.int .i64 (.int .i64 (.int .i64 (.int .i64 (.cg 1 (.int .u8 .done) .done))))
theorem ND{w:World}{r:aY}(h:lq w o2 uM r):∃q:b9.cZ,r=q.cells/\bd w q.p (b9.bytesOf q)/\b9.Small q:=by obtain⟨a,_,rfl,ajx,b,_,rfl,_,c,_,rfl,_,d,_,rfl,_,p,n,m,rows,_,rfl,ab,aS⟩:=h;obtain rfl:_=[]:=aS;obtain⟨xs,I,hm,_⟩:=ab.ints;exact⟨⟨a,b,c,d,xs,p,n,m⟩,rfl,I.cells,I.size,by have:=I.room;show _<=_;dsimp only;omega,λx J=>qx (I.wf x J)⟩
theorem D2{w:World}:∀{rows:List aY},(∀r∈rows,lq w o2 uM r)->∃rs:List b9.cZ,rows=rs.map b9.cZ.cells/\∀q∈rs,bd w q.p (b9.bytesOf q)/\b9.Small q
 |[],_=>⟨[],rfl,by simp⟩
 |r::rows,h=>by
  obtain⟨q,rfl,aH⟩:=ND (h r (by simp));obtain⟨rs,rfl,ku⟩:=D2 (rows:=rows) λx J=>h x (ie _ J);exact⟨q::rs,rfl,λx J=>by
   rcases fB.1 J with rfl|J
   ·exact aH
   ·exact ku x J⟩
theorem NA{w:World}{p:γ}{rs:List b9.cZ}(h:bd w p (rs.map b9.cZ.cells).flatten){i:Nat}{q:b9.cZ}(I:rs[i]?=some q):∃a,p=some a/\aB w (a.add (i*5)) q.cells:=
 h.row (λr φ=>by obtain⟨q,_,rfl⟩:=gx.1 φ;rfl) (by decide) (by rw[List.getElem?_map,I];rfl)
theorem D0{A:c6}(h:A.E.length=8)(a:aQ.Ask):(cQ A a).1.E.length=8:=by
 have NK:∀v b q,(xF A.E v b q).length=8:=λv b q=>by
  unfold xF;cases A.E[v]?with
  |none=>exact h
  |some e=>rw[hQ];exact h
 have jI:∀{c:Prop}[Decidable c]{r s:c6×gj},r.1.E.length=8->s.1.E.length=8->(if c then r else s).1.E.length=8:=λ{c}_{r s}φ ab=>by
  by_cases π:c
  ·rw[aN π];exact φ
  ·rw[aL π];exact ab
 have cH:∀e,(kB A e).1.E.length=8:=λe=>h;unfold cQ;refine jI ?_ h;unfold jf;refine jI (jI ?_ (cH _)) (jI ?_ (jI ?_ (jI ?_ (jI ?_ (jI ?_ (jI h (jI h ?_)))))))
 ·cases nf A.E with
  |none=>exact h
  |some i=>show(A.E.set _ _).length=8;rw[hQ];exact h
 ·cases il A.E a.v with
  |none=>exact h
  |some i=>show(A.E.set _ _).length=8;rw[hQ];exact h
 ·cases il A.E a.v with
  |none=>exact h
  |some i=>cases nf A.E with
   |none=>exact h
   |some i=>show(A.E.set _ _).length=8;rw[hQ];exact h
 ·cases il A.E a.v with
  |none=>exact h
  |some e=>
   refine jI h ?_;cases(e.2.2[a.b.toNat]?).join with
   |none=>exact h
   |some x=>exact h
 ·cases il A.E a.v with
  |none=>exact h
  |some e=>exact jI h (jI h (jI h (jI h (NK _ _ _))))
 ·cases il A.E a.v with
  |none=>exact h
  |some e=>exact jI h (jI h (NK _ _ _))
 ·cases il A.E a.v with
  |none=>exact h
  |some i=>exact h
def my(v:Int):aQ.Ask:=⟨2,v,0,0,[]⟩
theorem PA{A:c6}(h:A.E.length=8){v:Nat}(az:v<8):∃e,(cQ A (my v)).1.E[v]?=some e/\e.1=0:=by
 unfold cQ;rw[aN ⟨show(1:Int)<=2 by decide,show(2:Int)<=9 by decide⟩];unfold jf my;dsimp only;rw[aL (by omega),aN rfl];cases he:il A.E (v:Int)with
 |none=>
  show∃e,A.E[v]?=some e/\e.1=0;unfold il at he;rw[aN (by omega),ch,List.getElem?_eq_getElem (by omega)]at he;refine⟨A.E[v]'(by omega),List.getElem?_eq_getElem (by omega),?_⟩;by_cases aF:(A.E[v]'(by omega)).1=0
  ·exact aF
  ·simp[Option.filter,aF]at he
 |some e=>
  refine⟨(0,0,[]),?_,rfl⟩;show(A.E.set (v:Int).toNat (0,0,[]))[v]?=_;rw[ch,List.getElem?_set,aN rfl,aN (by omega)]
theorem RY{E:List hn}{v:Nat}{e:hn}(h:E[v]?=some e)(aF:e.1=0):∃i,nf E=some i/\i<E.length:=by
 unfold nf;cases bm:E.findIdx? λe=>decide (e.1=0)with
 |none=>
  have:=List.findIdx?_eq_none_iff.1 bm e (fa h)
  rw[aF]at this;simp at this
 |some i=>exact⟨i,rfl,(List.findIdx?_eq_some_iff_getElem.1 bm).1⟩
theorem amR{A:c6}(h:A.E.length=8){v:Nat}{e:hn}(az:A.E[v]?=some e)(aF:e.1=0){s:Int}(ab:1<=s/\s<=32):
  ∃i:Nat,i<8/\(cQ A (ox s)).2={fh with id:=i}/\(cQ A (ox s)).1.E[i]?=some (1,s,List.replicate s.toNat none)/\(cQ A (ox s)).1.E.length=8:=by
 obtain⟨i,I,ak⟩:=RY az aF;have hlen:=D0 h (ox s);have aP:cQ A (ox s)=({A with E:=A.E.set i (1,s,List.replicate s.toNat none)},{fh with id:=i}):=by unfold cQ;rw[aN ⟨show(1:Int)<=1 by decide,show(1:Int)<=9 by decide⟩];unfold jf ox;dsimp only;rw[aN rfl,aN ab,I]
 rw[aP]at hlen⊢;refine⟨i,by omega,rfl,?_,hlen⟩;show(A.E.set i _)[i]?=_;rw[List.getElem?_set,aN rfl,aN ak]
theorem tQ.agg{w:World}{v:Value}{r:gj}(h:tQ w v r){Q:aj->Prop}(dY:∀cs,Q cs):cv v Q:=by obtain⟨D,t,cr,b8,dc,cx,cC,cD,rfl,_⟩:=h;exact dY _
def Iz(v b:Int):aQ.Ask:=⟨6,v,b,0,[]⟩
theorem Um{A:c6}{v b:Nat}{s:Int}{l:List (Option fK)}(eB:A.E[v]?=some (1,s,l))(az:v<8)(τ:(b:Int)<s):
  cQ A (Iz v b)=({A with E:=A.E.set v (1,s,l.set b none)},fh):=by
 unfold cQ;rw[aN ⟨show(1:Int)<=6 by decide,show(6:Int)<=9 by decide⟩];unfold jf Iz;dsimp only;rw[aL (by omega),aL (by omega),aL (by omega),aL (by omega),aL (by omega),aN rfl,sX az eB (show(1:Int)≠0 by decide)];dsimp only;rw[aL (by decide),aL (by omega),ch,ch,Cl eB]
theorem SX{W:World}{Y:Nat->al}(K:∀b w',η W w'->μ w' b dt 1 (some ⟨b,0,none⟩) 64 64 (a7 ba.gN)->Y b w'):aK W (madeCells #[(Value.int .u8 0)] (64*1)) dt Y:=by rintro b w' τ rfl;have em:madeCells #[Value.int .u8 0] (64*1)=(a7 ba.gN).toArray:=DD 1 64 (Value.int .u8 0) (by decide);rw[em];have o:=μ.alloc (w:=W) (a7 ba.gN) dt 1 64 rfl;rw[<-τ]at o;exact K b _ (η.alloc W _) o
theorem AM{W:World}{Y:Nat->al}(K:∀b w',η W w'->W.heap.size<=b->μ w' b ck 5 (some ⟨b,0,none⟩) 1 1 (fJ 0 bR bR)->Y b w'):aK W #[.int .i64 0,.int .i64 0,.int .i64 0,bR,bR] ck Y:=by rintro b w' τ rfl;have o:=μ.new (w:=W) (fJ 0 bR bR) ck;rw[<-τ]at o;exact K b _ (η.alloc W _) (by omega) o
theorem Oh{W mw:World}{pp N b:Nat}{P:c6->Prop}(h:ec mw pp W N P)(τ:mw.heap.size<=b){B:Nat}{z:aY}(o:μ W B ck 5 (some ⟨b,0,none⟩) 1 1 z){v:Value}{r:gj}(az:tQ W v r){Y:al}
  (K:∀w' t cr b8 dc cx cC cD,ec mw pp w' N P->Kp W w' (λi=>i=b)->μ w' B ck 5 (some ⟨b,0,none⟩) 1 1 (fY t r cr b8 dc cx cC cD)->Y w'):
  cv v λaE=>ν (decide (aE.size=5)) (a6 W (⟨b,0,none⟩:Addr) aE.toList/\∀ao,ao=W.setCells (⟨b,0,none⟩:Addr).block (⟨b,0,none⟩:Addr).off aE.toList->Y ao):=by
 obtain⟨D,t,cr,b8,dc,cx,cC,cD,rfl,_⟩:=az
 try dsimp only[hA,h7]
 refine aT rfl (o.put (cs:=fY t r cr b8 dc cx cC cD) rfl qL λbV fO e4=>?_);exact K bV t cr b8 dc cx cC cD (h.loc fO τ (o.typed rfl).1 (by decide) (by decide) (by decide)) fO e4
def zs(i:Nat)(s:Int)(l:List (Option fK))(A:c6):Prop:=A.E[i]?=some (1,s,l)
theorem akI{w0 W:World}{pp N i n ζ cu:Nat}(I:i<8)(ar:1<=n/\n<=32){e:Int}{bs:aq}(he:e=0\/e=9)(h:ec w0 pp W N (λA=>e=0->∃x,zs i n ((List.replicate n none).set (n-1) x) A))(ek:N<=10000){fs OQ:Nat}{t h4:Int}{r qK:gj}{cr:γ}{b8 dc:Nat}{cx:γ}{cC cD:Nat}{yb:γ}{x9 x7:Nat}{Aj:γ}{Ai Ah:Nat}
  (af:μ W fs ck 5 (some ⟨ζ,0,none⟩) 1 1 (fY t r cr b8 dc cx cC cD))(kS:r.id=i)(cB:μ W OQ ck 5 (some ⟨cu,0,none⟩) 1 1 (fY h4 qK yb x9 x7 Aj Ai Ah))(Dp:qK.e=e):
  iP.b4 (some ⟨pp,0,none⟩) (n:Int) ζ cu W (ω λv w'=>v=.bool true/\η w0 w'):=by
 unfold iP.b4;refine⟨_,cB.at (j:=1) rfl,?_⟩;rw[Dp];rcases he with rfl|rfl
 ·rw[cond_neg (by rfl)];refine⟨_,af.at (j:=2) rfl,?_⟩;rw[kS,bS (x:=(n:Int)-1) (by omega) (by omega)];have iK:((n:Int)-1)=((n-1:Nat):Int):=by omega
  rw[iK];refine gv h (by omega) (ki 6 i ((n-1:Nat):Int) 0) (tx _ _ _ _ _) (tz _ _ _ _) λjT A u cc PU WH hu=>?_;obtain⟨x,cc⟩:=cc rfl;have ah:=Um (b:=n-1) cc I (by omega);have iA:dW (ki 6 i ((n-1:Nat):Int) 0)=Iz i ((n-1:Nat):Int):=rfl;rw[iA,ah]at PU hu;have af:=WH _ _ _ _ _ _ _ af (by decide);refine vN hu λkp lN t8 ay2 ay0 ayX aAm aAk aAi ajE azn e4 _ _=>?_;have rk:=PU.to (ajE.trans (η.drew lN));have af:=(af.ex ajE).ex (η.drew lN);have e4:=e4.ex (η.drew lN);generalize lN.drew=ns at rk af e4⊢;refine⟨_,e4.at (j:=1) rfl,?_⟩;rw[cond_pos (by rfl)];refine⟨_,af.at (j:=2) rfl,?_⟩;rw[kS];have ap4:((List.replicate n (none:Option fK)).set (n-1) x).set (n-1) none=List.replicate n none:=by rw[List.set_set];exact RI _ _ _
  have eB:∀gm,gm={A with E:=A.E.set i (1,(n:Int),((List.replicate n none).set (n-1) x).set (n-1) none)}->nd gm i ((n-1:Nat):Int)=strOf ba.gN:=λgm e=>by
   subst e;rw[ap4];have bH:(A.E.set i (1,(n:Int),List.replicate n none))[i]?=some (1,(n:Int),List.replicate n none):=by rw[List.getElem?_set,aN rfl,aN (List.getElem?_eq_some_iff.1 cc).1]
   rw[Ch (A:={A with E:=A.E.set i (1,(n:Int),List.replicate n none)}) bH I (by decide) (by omega)];unfold cont;rw[List.getElem?_replicate,aN (by omega)];rfl
  refine⟨?_,?_⟩
  ·refine ta rk (by omega) i ((n-1:Nat):Int) λKt gm FK aow QH=>?_
   try dsimp only[wT]
   refine SX λk5 qX SM iV=>?_;refine⟨ba.gN,rfl,iV.cells,?_⟩;rw[eB gm FK];exact ω.mk ⟨by simp,(aow.to SM).ex⟩
  ·refine SX λk5 qX SM iV=>?_;have Lz:=rk.to SM;have af:=af.ex SM;have g:=af.at (j:=2) rfl;rw[kS]at g;refine⟨g,ba.gN,rfl,iV.cells,?_⟩;refine ta Lz (by omega) i ((n-1:Nat):Int) λpE gm FK aox BN=>?_
   try dsimp only[wT]
   refine⟨ba.gN,rfl,(BN _ _ _ _ _ _ _ iV (by decide)).cells,rfl,?_⟩;rw[eB gm FK];exact ω.mk ⟨by simp,aox.ex⟩
 ·rw[cond_pos (by rfl)];refine⟨_,cB.at (j:=1) rfl,?_⟩;rw[Dp];exact ω.mk ⟨rfl,h.ex⟩
theorem asC{A:c6}{i n:Nat}(I:i<8)(ar:1<=n/\n<=32)(cc:zs i n (List.replicate n none) A):
  ((cQ A (hd i ((n-1:Nat):Int) (List.replicate 64 7))).2.e=0\/(cQ A (hd i ((n-1:Nat):Int) (List.replicate 64 7))).2.e=9)/\((cQ A (hd i ((n-1:Nat):Int) (List.replicate 64 7))).2.e=0->∃x,zs i n ((List.replicate n none).set (n-1) x) (cQ A (hd i ((n-1:Nat):Int) (List.replicate 64 7))).1):=by
 rw[AW cc I (by omega) (by simp)];by_cases π:A.cap<(l7 A.E:Int)+1
 ·rw[aN π];exact⟨.inr rfl,λh=>by cases h⟩
 ·rw[aL π];refine⟨.inl rfl,λ_=>⟨some (A.n,List.replicate 64 7),?_⟩⟩;show(A.E.set i _)[i]?=_;rw[List.getElem?_set,aN rfl,aN (List.getElem?_eq_some_iff.1 cc).1]
theorem akH{w0 W:World}{pp N i n ζ:Nat}(I:i<8)(ar:1<=n/\n<=32)(h:ec w0 pp W N (zs i n (List.replicate n none)))(ek:N<=5000){fs:Nat}{t:Int}{r:gj}{cr:γ}{b8 dc:Nat}{cx:γ}{cC cD:Nat}
  (af:μ W fs ck 5 (some ⟨ζ,0,none⟩) 1 1 (fY t r cr b8 dc cx cC cD))(kS:r.id=i):
  iP.bK (some ⟨pp,0,none⟩) (n:Int) ζ W (ω λv w'=>v=.bool true/\η w0 w'):=by
 unfold iP.bK;have h:=h.to (η.drew W);have af:=af.ex (η.drew W);generalize W.drew=W at h af⊢;have g2:∀{bq:World},μ bq fs ck 5 (some ⟨ζ,0,none⟩) 1 1 (fY t r cr b8 dc cx cC cD)->bq.cell? (⟨ζ,2,none⟩:Addr)=some (.int .i64 i):=λo=>by
  have:=o.at (j:=2) rfl
  rw[kS]at this;exact this
 have iK:((n:Int)-1)=((n-1:Nat):Int):=by omega
 rw[bS (x:=(n:Int)-1) (by omega) (by omega),iK];have iA:∀hz,dW (qM i ((n-1:Nat):Int) 7 hz)=hd i ((n-1:Nat):Int) (List.replicate 64 7):=λ_=>rfl
 have fin:∀{bq:World}{lr:Nat}{A:c6}{cu OQ:Nat}{h4:Int}{yb:γ}{x9 x7:Nat}{Aj:γ}{Ai Ah:Nat},zs i n (List.replicate n none) A->lr<=10000->ec w0 pp bq lr (λgm=>gm=(cQ A (hd i ((n-1:Nat):Int) (List.replicate 64 7))).1)->μ bq fs ck 5 (some ⟨ζ,0,none⟩) 1 1 (fY t r cr b8 dc cx cC cD)->μ bq OQ ck 5 (some ⟨cu,0,none⟩) 1 1 (fY h4 (cQ A (hd i ((n-1:Nat):Int) (List.replicate 64 7))).2 yb x9 x7 Aj Ai Ah)->
   iP.b4 (some ⟨pp,0,none⟩) (n:Int) ζ cu bq (ω λv w'=>v=.bool true/\η w0 w'):=λ{bq lr A cu OQ h4 yb x9 x7 Aj Ai Ah}cc FP hH aG Mc=>by
  obtain⟨he,bH⟩:=asC I ar cc;exact akI (bs:=[]) I ar he (hH.more (dO _) λgm e aF=>e▸bH aF) FP aG kS Mc rfl
 refine⟨_,g2 af,?_,?_⟩
 ·refine κ.use (wW 7 (by omega) W) ?_;rintro _ dM ⟨hz,rfl,tM,of⟩
  try dsimp only[ee]
  have lW:=h.to tM;have j2:=af.ex tM;refine⟨g2 j2,?_,?_⟩
  ·refine gv lW (by omega) (qM i ((n-1:Nat):Int) 7 hz) of.cells (Aw hz (by omega)) λgr A u cc C9 yD hu=>?_;rw[iA]at C9 hu;have uA:=yD _ _ _ _ _ _ _ j2 (by decide);refine vN hu λcu fb t5 Ld Lc La MN ML MH pI lY cB _ _=>?_;exact fin cc (by omega) (C9.to pI) (uA.ex pI) cB
  ·refine AM λdR eJ nu w4 bY=>?_;have vF:=lW.to nu;have qG:=j2.ex nu;refine⟨rfl,g2 qG,?_⟩;have Vp:w0.heap.size<=dR:=by have:=lW.ex.size;omega
   refine gv vF (by omega) (qM i ((n-1:Nat):Int) 7 hz) (of.ex nu).cells (Aw hz (by omega)) λgh A u cc Da Mx hu=>?_;rw[iA]at Da hu;have BX:=Mx _ _ _ _ _ _ _ qG (by decide);have bY:=Mx _ _ _ _ _ _ _ bY (by decide);have bQ:ζ≠dR:=λe=>by have:=(j2.ge rfl).2;dsimp only at this;omega
   refine Oh Da Vp bY hu λhv t5 Ld Lc La MN ML MH IT Gl xm=>?_;exact fin cc (by omega) IT (BX.aO Gl λy ag I=>by cases ag;exact bQ I) xm
 ·refine AM λgu nq El Bv eN=>?_;have Lv:=h.to El;have yL:=af.ex El;have Vq:w0.heap.size<=gu:=by have:=h.ex.size;omega
  have bQ:ζ≠gu:=λe=>by have:=(af.ge rfl).2;dsimp only at this;omega
  refine⟨g2 yL,?_⟩;refine κ.use (wW 7 (by omega) nq) ?_;rintro _ ga ⟨hz,rfl,wz,of⟩
  try dsimp only[ee]
  have lD:=Lv.to wz;have qH:=yL.ex wz;refine⟨g2 qH,?_⟩;refine gv lD (by omega) (qM i ((n-1:Nat):Int) 7 hz) of.cells (Aw hz (by omega)) λkY A u cc Lx Mz hu=>?_;rw[iA]at Lx hu;have BY:=Mz _ _ _ _ _ _ _ qH (by decide);have eN:=Mz _ _ _ _ _ _ _ (eN.ex wz) (by decide);refine Oh Lx Vq eN hu λkZ t5 Ld Lc La MN ML MH Ly Ae yM=>?_;exact fin cc (by omega) Ly (BY.aO Ae λy ag I=>by cases ag;exact bQ I) yM
theorem akJ{w0 W:World}{pp N i n ζ:Nat}(I:i<8)(ar:1<=n/\n<=32)(h:ec w0 pp W N (zs i n (List.replicate n none)))(ek:N<=4000){fs:Nat}{t:Int}{r:gj}{cr:γ}{b8 dc:Nat}{cx:γ}{cC cD:Nat}
  (af:μ W fs ck 5 (some ⟨ζ,0,none⟩) 1 1 (fY t r cr b8 dc cx cC cD))(kS:r.id=i):
  iP.eZ (some ⟨pp,0,none⟩) (n:Int) ζ 0 W (ω λv w'=>v=.bool true/\η w0 w'):=by
 unfold iP.eZ;refine⟨λt10 t12 t13 t14 W=>some ⟨pp,0,none⟩=t10/\(n:Int)=t12/\ζ=t13/\0<=t14/\t14<=n/\ec w0 pp W (N+6*t14.toNat) (zs i n (List.replicate n none))/\μ W fs ck 5 (some ⟨ζ,0,none⟩) 1 1 (fY t r cr b8 dc cx cC cD),λ_ _ _ t14 _=>(n-t14).toNat,⟨rfl,rfl,rfl,by omega,by omega,h.more (by omega) λ_ h=>h,af⟩,?_⟩;clear h af;rintro _ _ _ t14 W ⟨rfl,rfl,rfl,g0,g1,h,af⟩;unfold iP.ζ;obtain⟨b,rfl⟩:=eF g0;rw[ch]at h;refine bt (λτ=>?_) (λτ=>akH I ar h (by omega) af kS);have τ:=b6 τ;have h:=h.to (η.drew W);have af:=af.ex (η.drew W);generalize W.drew=W at h af⊢;have g2:∀{bq:World},μ bq fs ck 5 (some ⟨ζ,0,none⟩) 1 1 (fY t r cr b8 dc cx cC cD)->bq.cell? (⟨ζ,2,none⟩:Addr)=some (.int .i64 i):=λo=>by
  have:=o.at (j:=2) rfl
  rw[kS]at this;exact this
 have s9:∀A,zs i n (List.replicate n none) A->nd A i b=strOf ba.gN:=λA cc=>by rw[Ch cc I (by decide) (by omega)];unfold cont;rw[List.getElem?_replicate,aN (by omega)];rfl
 have aP:((b:Int)+1).toNat=b+1:=by omega
 have go:∀(bq:World)(lr:Nat),lr<=N+6*(b+1)->ec w0 pp bq lr (zs i n (List.replicate n none))->μ bq fs ck 5 (some ⟨ζ,0,none⟩) 1 1 (fY t r cr b8 dc cx cC cD)->
   ((some ⟨pp,0,none⟩:γ)=some ⟨pp,0,none⟩/\(n:Int)=(n:Int)/\ζ=ζ/\0<=IntKind.i64.wrap ((b:Int)+1)/\IntKind.i64.wrap ((b:Int)+1)<=n/\ec w0 pp bq (N+6*(IntKind.i64.wrap ((b:Int)+1)).toNat) (zs i n (List.replicate n none))/\μ bq fs ck 5 (some ⟨ζ,0,none⟩) 1 1 (fY t r cr b8 dc cx cC cD))/\((n:Int)-IntKind.i64.wrap ((b:Int)+1)).toNat<((n:Int)-(b:Int)).toNat:=λbq lr FP hH hO=>by
  rw[bS (x:=(b:Int)+1) (by omega) (by omega),aP];exact⟨⟨rfl,rfl,rfl,by omega,by omega,hH.more FP (λ_ h=>h),hO⟩,by omega⟩
 refine⟨_,g2 af,?_,?_⟩
 ·refine ta h (by omega) i b λdp A cc wZ oH=>?_
  try dsimp only[wT]
  refine SX λax dP oT bh=>⟨ba.gN,rfl,bh.cells,?_⟩;rw[s9 A cc,cond_neg (by simp)];exact go dP _ (by omega) ((wZ.to oT).more (dO _) λgm e=>e▸cc) ((oH _ _ _ _ _ _ _ af (by decide)).ex oT)
 ·refine SX λaa eO tL cJ=>?_;have IQ:=h.to tL;have oJ:=af.ex tL;refine⟨g2 oJ,ba.gN,rfl,cJ.cells,?_⟩;refine ta IQ (by omega) i b λeE A cc FH te=>?_
  try dsimp only[wT]
  refine⟨ba.gN,rfl,(te _ _ _ _ _ _ _ cJ (by decide)).cells,rfl,?_⟩;rw[s9 A cc,cond_neg (by simp)];exact go eE _ (by omega) (FH.more (dO _) λgm e=>e▸cc) (te _ _ _ _ _ _ _ oJ (by decide))
theorem ZO{w0 W:World}{pp N:Nat}{z:Int}(aI:0<=z/\z<256)(h:ec w0 pp W N (λA=>A.E.length=8))(ek:N<=3000):
  iP.aV z (some ⟨pp,0,none⟩) W (ω λv w'=>v=.bool true/\η w0 w'):=by
 unfold iP.aV;have t8:Int.tmod z 8=z%8:=xD aI.1;have t32:Int.tmod z 32=z%32:=xD aI.1;rw[t8,t32,bS (x:=z%8) (by omega) (by omega),bS (x:=z%32) (by omega) (by omega),bS (x:=1+z%32) (by omega) (by omega)];obtain⟨v,az⟩:=eF (show 0<=z%8 by omega);obtain⟨n,ar⟩:=eF (show 0<=1+z%32 by omega);rw[az,ar];refine gv h (by omega) (ki 2 v 0 0) (tx _ _ _ _ _) (tz _ _ _ _) λbW A u cc hD iq hu=>hu.agg λbC=>?_;have iA:dW (ki 2 v 0 0)=my v:=rfl;rw[iA]at hD;obtain⟨e,he,aF⟩:=PA cc (v:=v) (by omega);have ak:=D0 cc (my v);generalize(cQ A (my v)).1=En at hD he ak;refine gv hD (by omega) (ki 1 0 0 n) (tx _ _ _ _ _) (tz _ _ _ _) λcd sD qu sZ kD yz BG=>?_;subst sZ;have iA:dW (ki 1 0 0 n)=ox n:=rfl;rw[iA]at kD BG;obtain⟨i,I,φ,eB,_⟩:=amR ak he aF (s:=n) (by omega);rw[φ]at BG;refine vN BG λζ da t cr b8 dc cx cC cD jo eG af _ _=>?_;refine⟨_,af.at (j:=1) rfl,?_⟩;rw[cond_neg (by rfl)];refine akJ I (by omega) ((kD.to jo).more (dO _) λgm e=>?_) (by omega) af rfl;subst e;rw[ch]at eB;exact eB
theorem alE(a b:Int)(p:γ)(n c:Nat)(rows:List aY)(z:Int)(w:World)(aR:0<=a/\a<256)(τ:0<=b/\b<256)(ak:zq w o2 56 (lq w o2 uM) p n c rows)(aI:0<=z/\z<256):
  iP.C a b p n c z w (ω λv w'=>v=.bool true/\η w w'):=by
 obtain⟨ls,rfl,Di⟩:=D2 ak.each;have ap7:=ak.cells;have zY:ls.length=n:=by simpa using ak.size
 apply iP.ok;unfold iP.main;refine Qs aR τ λpp an h=>?_;unfold iP.bb;have ea:ec w pp an (10+6*(0:Int).toNat) (λA=>A.E.length=8):=h.more (by omega) λA e=>by subst e;rfl
 refine⟨λdw dh ef t3 t10 t11 W=>p=dw/\n=dh/\c=ef/\z=t3/\some ⟨pp,0,none⟩=t10/\0<=t11/\t11<=60/\ec w pp W (10+6*t11.toNat) (λA=>A.E.length=8),λ_ _ _ _ _ t11 _=>(60-t11).toNat,⟨rfl,rfl,rfl,rfl,rfl,by omega,by omega,ea⟩,?_⟩;clear h ea;rintro _ _ _ _ _ t11 W ⟨rfl,rfl,rfl,rfl,rfl,g0,g1,h⟩;unfold iP.δ;obtain⟨j,rfl⟩:=eF g0;rw[ch]at h⊢;refine bt (λψ=>?_) (λψ=>ZO aI h (by omega));refine bt (λhk=>?_) (λhk=>ZO aI h (by omega));have ψ:=b6 ψ;have hk:=b6 hk;have pb:j<ls.length:=by omega
 obtain⟨a0,rfl,l4⟩:=NA ap7 (List.getElem?_eq_getElem pb);obtain⟨Mi,Ja⟩:=Di _ (hP pb);generalize ls[j]=q at l4 Mi Ja;refine aT (by omega) (aT (by omega) ?_)
 try dsimp only[bo]
 refine⟨q.cells.toArray,rfl,bd.ex (a:=some _) h.ex l4,?_⟩;refine gv h (by omega) q (Mi.ex h.ex) Ja λa8 A u cc hq hW hu=>hu.agg λbO=>?_;have aP:((j:Int)+1).toNat=j+1:=by omega
 rw[bS (x:=(j:Int)+1) (by omega) (by omega)];refine⟨⟨by trivial,by trivial,by trivial,by trivial,by trivial,by omega,by omega,?_⟩,by((try dsimp only);omega)⟩;rw[aP];exact hq.more (by omega) λgm e=>e▸D0 cc _
end Go.Proofs.YtcpdfhkhaekekaaGreat.G.cY

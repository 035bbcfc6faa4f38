/- The law WholeQueue of the given program is proved. Conditions: none. -/
import Derived.Test.YtcpdfhkhaekekaaGreatA15
set_option linter.unusedVariables false
set_option linter.unusedSimpArgs false
namespace Go.Proofs.YtcpdfhkhaekekaaGreat.G
open Tryz
open Go.bI
set_option maxRecDepth 100000
def hf.bP(t8 t10 gi:J)(fQ gx:Nat)(t16:Int)(t17:Nat)(t18:Bool)(w:World)(R:ak)(fG:J->J->J->Nat->Nat->Int->ai):Prop:=
 ο (decide (0<=t16)) (
  ο (decide (t16<((fQ:Nat):Int))) (
   ξ gi λd3=>
   ∃(hy:ah),hy.size=5/\aw w (d3.add (t16.toNat*5)) hy.toList/\
   (κ prog 14 #[.pointer t10,.agg hy] w (λv20 k3=>
    dZ v20 λiN=>
    aR k3 #[(0:Int),(0:Int),(0:Int),.slice none 0 0,.slice none 0 0] 37 λsH jr=>
    ο (decide (iN.size=5)) (
     bM jr ⟨sH,0,none⟩ iN.toList λkN=>
     (cond (!t18) (
      R (.returned (.bool false)) kN) (
      ∃aA,kN.cell? ⟨t17,0,none⟩=some (.int .i64 aA)/\
      (cond (aA !=(IntKind.i64.wrap (t16+1))) (
       R (.returned (.bool false)) kN) (
       ∃al,kN.cell? ⟨t17,1,none⟩=some (.int .i64 al)/\
       (∃aJ,kN.cell? ⟨sH,1,none⟩=some (.int .i64 aJ)/\
        (cond (al !=aJ) (
         R (.returned (.bool false)) kN) (
         ∃aV,kN.cell? ⟨t17,2,none⟩=some (.int .i64 aV)/\
         (∃ct,kN.cell? ⟨sH,2,none⟩=some (.int .i64 ct)/\
         (cond (aV !=ct) (
         R (.returned (.bool false)) kN) (
         ∃iq br fU,kN.cell? ⟨t17,3,none⟩=some (.slice iq br fU)/\
         (∃(kh:ao),kh.length=br/\a8 kN iq (kh.map (.int .u8))/\
         (∃eZ dz h2,kN.cell? ⟨sH,3,none⟩=some (.slice eZ dz h2)/\
         (∃(uS:ao),uS.length=dz/\a8 kN eZ (uS.map (.int .u8))/\
         (cond (!((strOf kh).toList==(strOf uS).toList)) (
         R (.returned (.bool false)) kN) (
         fG t8 t10 gi fQ gx (IntKind.i64.wrap (t16+1)) kN))))))))))))))))) (aB R))))
def hf.aH(t8 t10 gi:J)(fQ gx:Nat)(t16:Int)(t17:Nat)(t18:Bool)(t19:Int)(w:World)(R:ak)(fG:J->J->J->Nat->Nat->Int->ai)(Xy:J->J->J->Nat->Nat->Int->Nat->Bool->Int->ai):Prop:=
 cond (decide (t19<4)) (
  ∃ab,w.cell? ⟨t17,1,none⟩=some (.int .i64 ab)/\
  (cond (ab==12) (
   κ prog 16 #[.pointer t8,(2:Int)] w (λsq qF=>
    b6 sq λvk=>
    κ prog 16 #[.pointer t8,(1:Int)] qF (λv17 iX=>
     b6 v17 λBd=>
     ξ (Bd[0]?) λvh=>
     dZ vh λhB=>
     ξ (Bd[1]?) λvi=>
     dD vi λqQ=>
     ο (decide (hB.size=5)) (
      bM iX ⟨t17,0,none⟩ hB.toList λkx=>
      (Xy t8 t10 gi fQ gx t16 t17 qQ (IntKind.i64.wrap (t19+1)) kx))) (aB R)) (aB R)) (
   hf.bP t8 t10 gi fQ gx t16 t17 t18 w R fG))) (
  hf.bP t8 t10 gi fQ gx t16 t17 t18 w R fG)
def hf.uO:=aco hf.aH
def hf.b7(t8 t10:J)(w:World)(R:ak):Prop:=
 κ prog 21 #[.pointer t8] w (λv21 sr=>
  bq .i64 v21 λcv=>
  cond (cv==0) (
   κ prog 19 #[.pointer t8] sr (λv22 ss=>
    lH v22 λs1=>
    κ prog 19 #[.pointer t10] ss (λv23 ox=>
     lH v23 λs2=>
     cond (s1.toList==s2.toList) (
      κ prog 18 #[.pointer t8] ox (λv24 CU=>
       bq .i64 v24 λe7=>
       κ prog 18 #[.pointer t10] CU (λv25 Xd=>
        bq .i64 v25 λfu=>
        R (.returned (.bool (e7==fu))) Xd) (aB R)) (aB R)) (
      R (.returned (.bool false)) ox)) (aB R)) (aB R)) (
   R (.returned (.bool false)) sr)) (aB R)
def hf.ι(t8 t10 gi:J)(fQ gx:Nat)(t16:Int)(w:World)(R:ak)(fG:J->J->J->Nat->Nat->Int->ai):Prop:=
 cond (decide (t16<((fQ:Nat):Int))) (
  κ prog 16 #[.pointer t8,(1:Int)] w (λpq fY=>
   b6 pq λlU=>
   ξ (lU[0]?) λsn=>
   dZ sn λhc=>
   ξ (lU[1]?) λso=>
   dD so λgb=>
   aR fY #[(0:Int),(0:Int),(0:Int),.slice none 0 0,.slice none 0 0] 37 λiZ iW=>
   ο (decide (hc.size=5)) (
    bM iW ⟨iZ,0,none⟩ hc.toList λfT=>
    (hf.uO t8 t10 gi fQ gx t16 iZ gb 0 fT R fG))) (aB R)) (
  hf.b7 t8 t10 w R)
def hf.fm:=pD hf.ι
def hf.aZ(t8 t10 gi:J)(fQ gx:Nat)(w:World)(R:ak):Prop:=
 hf.fm t8 t10 gi fQ gx 0 w R
def hf.ε(ez:J)(et eT:Nat)(t8 t10 gi:J)(fQ gx:Nat)(t12:Int)(w:World)(R:ak)(aS:J->Nat->Nat->J->J->J->Nat->Nat->Int->ai):Prop:=
 cond (decide (t12<((et:Nat):Int))) (
  cond (decide (t12<30)) (
   ο (decide (0<=t12)) (
    ο (decide (t12<((et:Nat):Int))) (
     ξ ez λd1=>
     ∃(b2:ah),b2.size=5/\aw w (d1.add (t12.toNat*5)) b2.toList/\
     (aR w #[(0:Int),(0:Int),(0:Int),(0:Int),.slice none 0 0] 40 λaH cn=>
      ο (decide (b2.size=5)) (
       bM cn ⟨aH,0,none⟩ b2.toList λde=>
       (aR de #[] 5 λaf dJ=>
        ∃fD aD c1,dJ.cell? ⟨aH,4,none⟩=some (.slice fD aD c1)/\
        (gD dJ (some ⟨af,0,none⟩) 0 0 aD (a8 dJ fD) 5 1 1 #[.int .u8 0] λiB c2 ep=>
         ef ep ⟨aH,4,none⟩ (.slice iB (0+aD) c2) λeO=>
         (∃(bY:ah),bY.size=5/\aw eO ⟨aH,0,none⟩ bY.toList/\
          (κ prog 20 #[.pointer t8,.agg bY] eO (λv10 gP=>
           b6 v10 λhQ=>
           ξ (hQ[0]?) λv11=>
           bq .i64 v11 λζ=>
           ξ (hQ[1]?) λv12=>
           bq .i64 v12 λτ=>
           cond (τ==0) (
            ο (decide (0<=t12)) (
            ο (decide (t12<((et:Nat):Int))) (
            ξ ez λd2=>
            ∃(cN:ah),cN.size=5/\aw gP (d2.add (t12.toNat*5)) cN.toList/\
            (ξ (Instr.fill (λi=>some (i*5,5)) (madeCells #[(0:Int),(0:Int),(0:Int),(0:Int),.slice none 0 0] (1*5)) [(0,(.agg cN))]) λdU=>
            aR gP dU 40 λdC fF=>
            gD fF gi fQ gx 1 (a8 fF (some ⟨dC,0,none⟩)) 40 5 56 #[(0:Int),(0:Int),(0:Int),(0:Int),.slice none 0 0] λnD bJ eK=>
            aS ez et eT t8 t10 nD (fQ+1) bJ (IntKind.i64.wrap (t12+1)) eK)))) (
            aS ez et eT t8 t10 gi fQ gx (IntKind.i64.wrap (t12+1)) gP)) (aB R)))))))))) (
   hf.aZ t8 t10 gi fQ gx w R)) (
  hf.aZ t8 t10 gi fQ gx w R)
def hf.bd:=K1 hf.ε
def hf.main(a0 aq:Int)(jg:J)(eD j5:Nat)(w:World)(R:ak):Prop:=
 κ prog 12 #[.int .u8 a0,.int .u8 aq] w (λv1 δ=>
  dZ v1 λaQ=>
  κ prog 11 #[.agg aQ] δ (λv2 aa=>
   b6 v2 λbT=>
   ξ (bT[0]?) λv3=>
   hD v3 λad=>
   ξ (bT[1]?) λv4=>
   hD v4 λaX=>
   κ prog 12 #[.int .u8 a0,.int .u8 aq] aa (λv5 aG=>
    dZ v5 λbK=>
    κ prog 11 #[.agg bK] aG (λv6 bk=>
     b6 v6 λeV=>
     ξ (eV[0]?) λfS=>
     hD fS λbl=>
     ξ (eV[1]?) λbg=>
     hD bg λej=>
     cond (Option.isNone aX) (
      R (.returned (.bool false)) bk) (
      cond (Option.isNone ej) (
       R (.returned (.bool false)) bk) (
       κ prog 13 #[] bk (λv9 ca=>
        dD v9 λε=>
        cond (!ε) (
         R (.returned (.bool false)) ca) (
         aR ca #[] 40 λι cH=>
         hf.bd jg eD j5 aX ej (some ⟨ι,0,none⟩) 0 0 0 cH R)) (aB R)))) (aB R)) (aB R)) (aB R)) (aB R)
abbrev hf.C(a0 aq:Int)(jg:J)(eD j5:Nat):=Calls prog 9 #[.int .u8 a0,.int .u8 aq,.slice jg eD j5]
theorem hf.ok:vy hf.main hf.C:=λ{_ _ _ _ _ _ R}h=>fg func9 [.tmp 6] 162 (.seq .leaf (.seq .leaf (.seq .leaf (.seq .leaf (.seq .leaf (.cut [(8,.ptr),(10,.ptr),(11,.slice)] (hf.aZ · · · · · · R) (.seq .leaf (.block (.loop [(2,.slice),(8,.ptr),(10,.ptr),(11,.slice),(12,.int .i64)] (hf.bd · · · · · · · · · · R) λaS=>.leaf))) (.cut [(8,.ptr),(10,.ptr)] (hf.b7 · · · R) (.seq .leaf (.block (.loop [(8,.ptr),(10,.ptr),(11,.slice),(16,.int .i64)] (hf.fm · · · · · · · R) λfG=>(.seq .leaf (.seq (.block (.seq .leaf (.cut [(8,.ptr),(10,.ptr),(11,.slice),(16,.int .i64),(17,.c5),(18,.bool)] (hf.bP · · · · · · · · · R fG) (.seq .leaf (.block (.loop [(8,.ptr),(10,.ptr),(11,.slice),(16,.int .i64),(17,.c5),(18,.bool),(19,.int .i64)] (hf.uO · · · · · · · · · · R fG) λXy=>.leaf))) .leaf))) .leaf))))) .leaf))))))) h
end Go.Proofs.YtcpdfhkhaekekaaGreat.G
namespace Go.Proofs.YtcpdfhkhaekekaaGreat.G.cV
open Go Go.bI Go.RowKit cr dB eh cQ aK
abbrev tX:Nat->a1:=λb c=>c*b<=140737488351232
def A0:oB:=.int .i64 (.int .i64 (.int .i64 (.int .i64 (.b8 1 (.int .u8 .done) .done))))
theorem Wl{w:World}{r:aU}(h:mu w tX A0 r):∃q:bG.cg,r=q.cells/\a8 w q.p (bG.bytesOf q)/\bG.Small q:=by obtain⟨a,_,rfl,awt,b,_,rfl,_,c,_,rfl,_,d,_,rfl,_,p,n,m,rows,_,rfl,ψ,aO⟩:=h;obtain rfl:_=[]:=aO;obtain⟨xs,o,hm,_⟩:=ψ.ints;exact⟨⟨a,b,c,d,xs,p,n,m⟩,rfl,o.cells,o.size,by have:=o.room;show _<=_;dsimp only;omega,λx I=>GK (o.wf x I)⟩
theorem LV{w:World}:∀{rows:List aU},(∀r∈rows,mu w tX A0 r)->∃rs:List bG.cg,rows=rs.map bG.cg.cells/\∀q∈rs,a8 w q.p (bG.bytesOf q)/\bG.Small q
 |[],_=>⟨[],rfl,by simp⟩
 |r::rows,h=>by
  obtain⟨q,rfl,ay⟩:=Wl (h r (by simp));obtain⟨rs,rfl,kr⟩:=LV (rows:=rows) λx I=>h x (h9 _ I);exact⟨q::rs,rfl,λx I=>by
   rcases fE.1 I with rfl|I
   ·exact ay
   ·exact kr x I⟩
theorem PZ{w:World}{p:J}{rs:List bG.cg}(h:a8 w p (rs.map bG.cg.cells).flatten){i:Nat}{q:bG.cg}(o:rs[i]?=some q):∃a,p=some a/\aw w (a.add (i*5)) q.cells:=
 h.row (λr σ=>by obtain⟨q,_,rfl⟩:=gM.1 σ;rfl) (by decide) (by rw[List.getElem?_map,o];rfl)
def jF(D cM:a1):Prop:=∀i,D i->¬cM i
section
variable{w0 w w':World}{pp pd q3 xZ:Nat}{m m2:aK}{aj Mn:Int}{A Jd:eC}{n br:Nat}{D bb cM:a1}
theorem eW.other(h:eW w0 w pp pd m aj A n D)(η:eW w0 w q3 xZ m2 Mn Jd br cM)(k:Kp w w' cM)(aP:jF D cM):eW w0 w' pp pd m aj A n D:=
 ⟨h.is.aC k (λi ae=>aP i ae) (λi o en=>(η.is.fV o).1.Cq (yb.1 en) (by decide)) λi o aO=>(η.is.fV o).1.off aO (by decide),h.ok,h.aj,h.new,h.ex.then k η.new⟩
theorem jF.symm(h:jF D cM):jF cM D:=λi o eX=>h i eX o
theorem jF.pE(h:jF D cM)(k:nU w D w' bb)(η:eW w0 w q3 xZ m2 Mn Jd br cM):jF bb cM:=λi o eX=>by
 rcases k.sub i o with h1|h1
 ·exact h i h1 eX
 ·have:=(η.is.fV eX).2
  omega
end
end Go.Proofs.YtcpdfhkhaekekaaGreat.G.cV
namespace Go.Proofs.YtcpdfhkhaekekaaGreat.G.cV
open Go Go.bI Go.RowKit cr dB eh cQ aK
structure One where
 pp:Nat
 pd:Nat
 m:aK
 aj:Int
 A:eC
 n:Nat
def One.w9(x:One)(w0 W:World)(D:a1):Prop:=eW w0 W x.pp x.pd x.m x.aj x.A x.n D
def hh(w0 W:World)(x y:One):Prop:=∃D cM,x.w9 w0 W D/\y.w9 w0 W cM/\jF D cM
section
variable{w0 W:World}{x y:One}{Z:Value->ai}{X:List PanicEntry->ai}
theorem hh.symm(h:hh w0 W x y):hh w0 W y x:=by obtain⟨D,cM,h1,η,au⟩:=h;exact⟨cM,D,η,h1,au.symm⟩
theorem hh.ex(h:hh w0 W x y):θ w0 W:=by obtain⟨D,cM,h1,_⟩:=h;exact eW.ex h1
theorem hh.to(h:hh w0 W x y){bE:World}(k:θ W bE):hh w0 bE x y:=by obtain⟨D,cM,h1,η,au⟩:=h;exact⟨D,cM,eW.to h1 k,eW.to η k,au⟩
def One.kq(x:One)(a:aK.Ask):One:={x with m:=(ni x.m a).1,aj:=zo x.aj a,A:=(gh x.A a).1,n:=x.n+5}
end
theorem W5{W:World}{Y:Nat->ai}(K:∀b w',θ W w'->W.heap.size<=b->μ w' b eu 5 (some ⟨b,0,none⟩) 1 1 (fP 0 cO cO)->Y b w'):aR W #[.int .i64 0,.int .i64 0,.int .i64 0,cO,cO] eu Y:=by rintro b w' ω rfl;have γ:=μ.new (w:=W) (fP 0 cO cO) eu;rw[<-ω]at γ;exact K b _ (θ.alloc W _) (by omega) γ
end Go.Proofs.YtcpdfhkhaekekaaGreat.G.cV
namespace Go.Proofs.YtcpdfhkhaekekaaGreat.G.cV
open Go Go.bI Go.RowKit cr dB eh cQ aK
structure Bs(w0:World)(p:J)(n:Nat)(ls:List bG.cg):Prop where
 cells:a8 w0 p (ls.map bG.cg.cells).flatten
 len:ls.length=n
 each:∀q∈ls,a8 w0 q.p (bG.bytesOf q)/\bG.Small q
theorem Bs.get{w0:World}{p:J}{n:Nat}{ls:List bG.cg}(h:Bs w0 p n ls){i:Nat}(o:i<n):∃a q,p=some a/\(∀W,θ w0 W->aw W (a.add (i*5)) q.cells/\a8 W q.p (bG.bytesOf q))/\bG.Small q:=by
 have yW:i<ls.length:=by rw[h.len];exact o
 obtain⟨a,aP,lL⟩:=PZ h.cells (List.getElem?_eq_getElem yW);obtain⟨cW,fO⟩:=h.each _ (hN yW);exact⟨a,ls[i],aP,λW x=>⟨a8.ex (a:=some _) x lL,cW.ex x⟩,fO⟩
theorem We{w:World}{p:J}{n c:Nat}{rows:List aU}(an:Bt w tX 56 (mu w tX A0) p n c rows):∃ls,Bs w p n ls:=by obtain⟨ls,rfl,Hz⟩:=LV an.each;exact⟨ls,an.cells,by simpa using an.size,Hz⟩
def GV(w:World)(cs:ah)(t:Int)(r:gQ):Prop:=∃cJ ch dc cy dd cE,cs=(nG t r cJ ch dc cy dd cE).toArray/\μ w 0 cG 1 cJ ch dc (bg r.bF)
def Fr(w:World)(b:Nat):Prop:=∃B z,μ w B eu 5 (some ⟨b,0,none⟩) 1 1 z
def j2(w:World)(b:Nat)(t:Int)(r:gQ):Prop:=∃B cJ ch dc cy dd cE,μ w B eu 5 (some ⟨b,0,none⟩) 1 1 (nG t r cJ ch dc cy dd cE)/\μ w 0 cG 1 cJ ch dc (bg r.bF)
section
variable{w0 W bE:World}{x y:One}{cs:ah}{t:Int}{r:gQ}{b gW:Nat}
theorem GV.ex(h:GV W cs t r)(k:θ W bE):GV bE cs t r:=by obtain⟨cJ,ch,dc,cy,dd,cE,rfl,γ⟩:=h;exact⟨cJ,ch,dc,cy,dd,cE,rfl,γ.ex k⟩
theorem Fr.lt(h:Fr W b):b<W.heap.size:=by obtain⟨B,z,γ⟩:=h;exact(γ.ge rfl).2
theorem j2.aC(h:j2 W b t r)(k:Kp W bE λi=>i=gW)(f:Fr W gW)(cc:b≠gW):j2 bE b t r:=by obtain⟨B,cJ,ch,dc,cy,dd,cE,γ,hV⟩:=h;obtain⟨kA,z,az⟩:=f;exact⟨B,cJ,ch,dc,cy,dd,cE,γ.aC k λy ag o=>by cases ag;exact cc o,hV.aC k λy ag o=>(hV.typed ag).1.ne (o▸(az.typed rfl).1) (by decide) rfl⟩
theorem vB.rc{D:a1}{v:Value}(h:vB W D v t r){Q:ah->Prop}(K:∀cs,GV W cs t r->Q cs):dZ v Q:=by obtain⟨cJ,ch,dc,cy,dd,cE,rfl,γ,_,_⟩:=h;exact K _ ⟨cJ,ch,dc,cy,dd,cE,rfl,γ⟩
theorem lY{Y:Nat->ai}(K:∀b w',θ W w'->W.heap.size<=b->Fr w' b->Y b w'):aR W #[.int .i64 0,.int .i64 0,.int .i64 0,cO,cO] eu Y:=
 W5 λb w' k ω γ=>K b w' k ω ⟨_,_,γ⟩
end
end Go.Proofs.YtcpdfhkhaekekaaGreat.G.cV
namespace Go.Proofs.YtcpdfhkhaekekaaGreat.G.cV
open Go Go.bI Go.RowKit cr dB eh cQ aK
def fH(w0 W:World)(x y:One)(G:a1):Prop:=∃D cM,x.w9 w0 W D/\y.w9 w0 W cM/\jF D cM/\∀i,G i->i<W.heap.size/\¬D i/\¬cM i
def zR(W bE:World)(G:a1):Prop:=∀(B:Nat)(e:TypeId)(sz:Nat)(p:J)(l c:Nat)(vs:aU),μ W B e sz p l c vs->(∀x,p=some x->G x.block)->μ bE B e sz p l c vs
def k8(w:World)(cs:ah)(t:Int)(r:gQ)(G:a1):Prop:=∃cJ ch dc cy dd cE,cs=(nG t r cJ ch dc cy dd cE).toArray/\μ w 0 cG 1 cJ ch dc (bg r.bF)/\μ w 0 ck 1 cy dd cE (bs.cK r.j8)/\∀x,cy=some x->G x.block
section
variable{w0 W bE:World}{x y:One}{cs:ah}{t:Int}{r:gQ}{b gW:Nat}{G iR:a1}
theorem fH.vN(h:fH w0 W x y G):hh w0 W x y:=by obtain⟨D,cM,h1,η,au,_⟩:=h;exact⟨D,cM,h1,η,au⟩
theorem hh.QA(h:hh w0 W x y):fH w0 W x y λ_=>False:=by obtain⟨D,cM,h1,η,au⟩:=h;exact⟨D,cM,h1,η,au,λ_ h=>h.elim⟩
theorem fH.ex(h:fH w0 W x y G):θ w0 W:=h.vN.ex
theorem fH.to(h:fH w0 W x y G)(k:θ W bE):fH w0 bE x y G:=by obtain⟨D,cM,h1,η,au,bV⟩:=h;exact⟨D,cM,eW.to h1 k,eW.to η k,au,λi o=>⟨sd (bV i o).1 k.size,(bV i o).2⟩⟩
theorem fH.loc(h:fH w0 W x y G)(k:Kp W bE λi=>i=b)(aF:w0.heap.size<=b){e:TypeId}(aO:Typed W e b)(en:e∉nV)(sZ:e∉Bw)(dr:e≠cG):fH w0 bE x y G:=by obtain⟨D,cM,h1,η,au,bV⟩:=h;exact⟨D,cM,eW.loc h1 k aF aO en sZ dr,eW.loc η k aF aO en sZ dr,au,λi o=>⟨sd (bV i o).1 k.size,(bV i o).2⟩⟩
theorem k8.ex(h:k8 W cs t r G)(k:θ W bE):k8 bE cs t r G:=by obtain⟨cJ,ch,dc,cy,dd,cE,rfl,γ,on,iw⟩:=h;exact⟨cJ,ch,dc,cy,dd,cE,rfl,γ.ex k,on.ex k,iw⟩
end
end Go.Proofs.YtcpdfhkhaekekaaGreat.G.cV
namespace Go.Proofs.YtcpdfhkhaekekaaGreat.G.cV
open Go Go.bI Go.RowKit cr dB eh cQ aK
section
variable{w0 W:World}{x y:One}{ad d1 aX d2 N:Nat}
theorem j2.Jy{b:Nat}{t:Int}{r:gQ}(h:j2 W b t r):W.cell? (⟨b,0,none⟩:Addr)=some (.int .i64 t):=by obtain⟨B,cJ,ch,dc,cy,dd,cE,γ,hV⟩:=h;exact γ.at (j:=0) rfl
theorem j2.Dm{b:Nat}{t:Int}{r:gQ}(h:j2 W b t r):W.cell? (⟨b,1,none⟩:Addr)=some (.int .i64 r.e):=by obtain⟨B,cJ,ch,dc,cy,dd,cE,γ,hV⟩:=h;exact γ.at (j:=1) rfl
theorem j2.Jz{b:Nat}{t:Int}{r:gQ}(h:j2 W b t r):W.cell? (⟨b,2,none⟩:Addr)=some (.int .i64 r.id):=by obtain⟨B,cJ,ch,dc,cy,dd,cE,γ,hV⟩:=h;exact γ.at (j:=2) rfl
theorem j2.JA{b:Nat}{t:Int}{r:gQ}(h:j2 W b t r):∃cJ ch dc,W.cell? (⟨b,3,none⟩:Addr)=some (.slice cJ ch dc)/\r.bF.length=ch/\a8 W cJ (r.bF.map (.int .u8)):=by
 obtain⟨B,cJ,ch,dc,cy,dd,cE,γ,hV⟩:=h;refine⟨cJ,ch,dc,γ.at (j:=3) rfl,?_,hV.cells⟩
 have:=hV.1
 rw[rl]at this;omega
end
end Go.Proofs.YtcpdfhkhaekekaaGreat.G.cV
namespace Go.Proofs.YtcpdfhkhaekekaaGreat.G.cV
open Go Go.bI Go.RowKit cr dB eh cQ aK
def rB(v:Int):aK.Ask:=⟨9,v,0,0,[]⟩
theorem Jx(A:eC)(v:Int):gh A (rB v)=match ih A.E v with
  |none=>nw A 4
  |some e=>(A,{hW with j8:=[e.1,e.2.1]}):=by
 unfold gh;rw[aY ⟨show(1:Int)<=9 by decide,show(9:Int)<=9 by decide⟩];unfold kc rB;dsimp only;rw[aN (by omega),aN (by omega),aN (by omega),aN (by omega),aN (by omega),aN (by omega),aN (by omega),aN (by omega)];rfl
theorem RW(A:eC)(v:Int):(gh A (rB v)).1=A:=by rw[Jx];cases ih A.E v<;>rfl
def ui(s:ByteArray)(A:eC)(v:Int):Nat->ByteArray
 |0=>s
 |k+1=>ui s A v k++sg A v k
def vj(s:ByteArray)(A:eC)(v:Int):ByteArray:=match ih A.E v with
 |none=>s++(⟨#[45]⟩:ByteArray)
 |some e=>ui (s++strOf [e.1%256,e.2.1%256]) A v e.2.1.toNat
def uY(A:eC):Nat->ByteArray
 |0=>⟨#[]⟩
 |v+1=>vj (uY A v) A v
def RR(A:eC):ByteArray:=uY A 8
structure Lit(A:eC):Prop where
 rd:∀v b,(sg A v b).size<=64
 jL:∀v e,ih A.E v=some e->0<=e.2.1/\e.2.1<256
theorem DF{A:eC}(h:Lit A)(s:ByteArray)(v:Int):∀k,(ui s A v k).size<=s.size+64*k
 |0=>eF _
 |k+1=>by
  show(ui s A v k++sg A v k).size<=_
  have:=DF h s v k
  have:=h.rd v k
  rw[CF];omega
theorem W6{A:eC}(h:Lit A)(s:ByteArray)(v:Int):(vj s A v).size<=s.size+17000:=by
 unfold vj;cases he:ih A.E v with
 |none=>
  rw[CF];show s.size+1<=_;omega
 |some e=>
  obtain⟨aF,h1⟩:=h.jL v e he
  have:=DF h (s++strOf [e.1%256,e.2.1%256]) v e.2.1.toNat
  rw[CF,IP]at this;dsimp only[List.length_cons,List.length_nil]at this⊢;omega
theorem Lq{A:eC}(h:Lit A):∀v,(uY A v).size<=17000*v
 |0=>eF _
 |v+1=>by
  have:=Lq h v
  have:=W6 h (uY A v) v
  show(vj (uY A v) A v).size<=_;omega
theorem jI.jL{m:aK}{A:eC}{f:Nat->di}(h:aK.jI m A f)(o:Inv m){v:Int}{e:mU}(he:ih A.E v=some e):(0<=e.2.1/\e.2.1<256)/\e∈A.E:=by
 unfold ih at he;split at he
 ·have hm:e∈A.E:=by
   rw[Option.filter_eq_some_iff]at he;exact eS he.1
  have η:(e.1,e.2.1,e.2.2.map (Option.map λx=>f x.1))∈m.R:=by rw[h.R];exact gM.2 ⟨e,hm,rfl⟩
  exact⟨(o.ok _ η).2.2.2,hm⟩
 ·cases he
theorem Wp{m:aK}(o:Inv m)(x:di):(gO m.k m.d x).length<=64:=by
 unfold gO;rw[List.getD_eq_getElem?_getD];cases I:m.d.now[(me m.k x).toNat]?with
 |none=>exact da _
 |some s=>
  have:=(o.dev.now s (eS I)).1
  show s.length<=64;omega
theorem Ok.lit{m:aK}{A:eC}{n:Nat}(h:aK.Ok m A n):Lit A:=by
 obtain⟨f,bf⟩:=h.F2;refine⟨λv b=>?_,λv e he=>(jI.jL bf h.inv he).1⟩;have key:(gh A (nX v b)).2.bF.length<=64:=by
  unfold gh;rw[aY ⟨show(1:Int)<=4 by decide,show(4:Int)<=9 by decide⟩];unfold kc nX;dsimp only;rw[aN (by omega),aN (by omega),aN (by omega),aY rfl];cases he:ih A.E v with
  |none=>exact da _
  |some e=>
   dsimp only;by_cases ω:b<0\/e.2.1<=b
   ·rw[aY ω];exact da _
   ·rw[aN ω];cases I:(e.2.2[b.toNat]?).join with
    |none=>show(bh.hR).length<=64;simp[bh.hR]
    |some x=>
     show x.2.length<=64;have HK:some x∈e.2.2:=by
      cases ay:e.2.2[b.toNat]?with
      |none=>rw[ay]at I;cases I
      |some q=>rw[ay]at I;exact I▸eS ay
     rw[<-bf.sec x (AI.2 ⟨e,(jI.jL bf h.inv he).2,HK⟩)];exact Wp h.inv _
 unfold sg Ix;split
 ·decide
 ·rw[IP];exact key
section
variable{w0 W:World}{x y:One}
theorem hh.lit(h:hh w0 W x y):Lit x.A:=by obtain⟨D,cM,h1,η,au⟩:=h;exact Ok.lit (eW.ok h1)
end
open Tryz
section
variable{w0 W:World}{x y:One}{G:a1}
theorem WW(h:fH w0 W x y G)(eB:x.n<=600000)(v b:Int){Z:Value->ai}{X:List PanicEntry->ai}
  (dx:∀w' ew,fH w0 w' ew y G->ew.pp=x.pp->ew.A=x.A->ew.n=x.n+5->nq W w'->zR W w' G->Z (.string (sg x.A v b)) w'):
  κ prog 17 #[.pointer (some ⟨x.pp,0,none⟩),.int .i64 v,.int .i64 b] W Z X:=by
 obtain⟨D,cM,h1,η,au,bV⟩:=h;refine WU h1 eB v b λw' bb en k _=>?_;refine dx w' ⟨x.pp,x.pd,(ni x.m (nX v b)).1,x.aj+1,x.A,x.n+5⟩ ⟨bb,cM,en,eW.other η h1 k.aC au.symm,au.pE k η,λi o=>?_⟩ rfl rfl rfl (λB e sz p l c vs γ ar=>eW.c0 h1 k γ ar) λB e sz p l c vs γ iw=>γ.aC k.aC λz aI o=>(bV _ (iw z aI)).2.1 o;obtain⟨g1,g2,g3⟩:=bV i o;refine⟨sd g1 k.aC.size,λae=>?_,g3⟩;rcases k.sub i ae with h|h
 ·exact g2 h
 ·omega
theorem WV(h:fH w0 W x y G)(eB:x.n<=600000)(r:bG.cg){B:Nat}(σ:μ W B cG 1 r.p r.n r.c (bG.bytesOf r))(ψ:bG.Small r){R:ak}
  (dx:∀w' cs iR,(∀i,G i->iR i)->fH w0 w' (x.kq (dp r)) y iR->nq W w'->k8 w' cs (if 1<=r.k/\r.k<=9 then x.aj+1 else 0) (gh x.A (dp r)).2 iR->R (.returned (.agg cs)) w'):mb.C (some ⟨x.pp,0,none⟩) r.k r.v r.b r.s r.p r.n r.c W R:=by
 obtain⟨D,cM,h1,η,au,bV⟩:=h;refine Lp h1 eB r σ ψ λw' bb v en k aL he=>?_;obtain⟨cJ,ch,dc,cy,dd,cE,rfl,γ,on,Kv⟩:=aL;have aP:=au.pE k η;refine dx w' _ (λi=>G i\/∃x,cy=some x/\x.block=i) (λi o=>.inl o) ⟨bb,cM,en,eW.other η h1 k.aC au.symm,aP,λi o=>?_⟩ (λB e sz p l c vs γ ar=>eW.c0 h1 k γ ar) (he▸⟨cJ,ch,dc,cy,dd,cE,rfl,γ,on,λx I=>.inr ⟨x,I,rfl⟩⟩);rcases o with o|⟨z,aI,rfl⟩
 ·obtain⟨g1,g2,g3⟩:=bV i o;refine⟨sd g1 k.aC.size,λae=>?_,g3⟩;rcases k.sub i ae with h|h
  ·exact g2 h
  ·omega
 ·have ar:=Kv z aI;refine⟨(on.typed aI).2.2,λae=>ar (.inl ae),λae=>ar (.inr ?_)⟩;exact(η.is.fV ae).2
def mq(W:World)(b:Nat)(a s:Int)(G:a1):Prop:=∃B t r cJ ch dc cy cE,μ W B eu 5 (some ⟨b,0,none⟩) 1 1 (nG t r cJ ch dc cy 2 cE)/\μ W 0 ck 1 cy 2 cE (bs.cK [a,s])/\∀z,cy=some z->G z.block
theorem mq.c0{bE:World}{b:Nat}{a s:Int}(h:mq W b a s G)(k:nq W bE)(g:zR W bE G):mq bE b a s G:=by obtain⟨B,t,r,cJ,ch,dc,cy,cE,γ,on,iw⟩:=h;exact⟨B,t,r,cJ,ch,dc,cy,cE,k _ _ _ _ _ _ _ γ (by decide),g _ _ _ _ _ _ _ on iw,iw⟩
theorem mq.ex{bE:World}{b:Nat}{a s:Int}(h:mq W b a s G)(k:θ W bE):mq bE b a s G:=by obtain⟨B,t,r,cJ,ch,dc,cy,cE,γ,on,iw⟩:=h;exact⟨B,t,r,cJ,ch,dc,cy,cE,γ.ex k,on.ex k,iw⟩
theorem mq.at{b:Nat}{a s:Int}(h:mq W b a s G):∃d cE,W.cell? (⟨b,4,none⟩:Addr)=some (.slice (some d) 2 cE)/\W.cell? d=some (.int .i64 a)/\W.cell? (d.add 1)=some (.int .i64 s):=by obtain⟨B,t,r,cJ,ch,dc,cy,cE,γ,on,iw⟩:=h;obtain⟨d,rfl,aF⟩:=on.cells.one (v:=.int .i64 a) rfl;obtain⟨d',e,h1⟩:=on.cells.many (j:=1) (v:=.int .i64 s) rfl;cases e;exact⟨d,cE,γ.at (j:=4) rfl,aF,h1⟩
theorem RT{s:ByteArray}{v:Nat}(aL:v<8){b:Nat}{a sz:Int}(fj:0<=sz/\sz<256)(ψ:s.size<=1000000)(h:fH w0 W x y G)(eB:x.n<=500000)(e:mq W b a sz G){R:ak}{aS:J->ByteArray->Int->ai}
  (hC:∀w' ew,fH w0 w' ew y G->ew.pp=x.pp->ew.A=x.A->ew.n<=x.n+1300->aS (some ⟨x.pp,0,none⟩) (ui s x.A v sz.toNat) (IntKind.i64.wrap ((v:Int)+1)) w'):
  dK.hU (some ⟨x.pp,0,none⟩) s (v:Int) b 0 W R aS:=by
 unfold dK.hU dK.fm;refine⟨λt0 t3 t4 t5 t6 W=>some ⟨x.pp,0,none⟩=t0/\t3=ui s x.A v t6.toNat/\(v:Int)=t4/\b=t5/\0<=t6/\t6<=sz/\(∃ew,fH w0 W ew y G/\ew.pp=x.pp/\ew.A=x.A/\ew.n<=x.n+5*t6.toNat)/\mq W b a sz G,λ_ _ _ _ t6 _=>(sz-t6).toNat,⟨rfl,rfl,rfl,rfl,by omega,by omega,⟨x,h,rfl,rfl,by omega⟩,e⟩,?_⟩;have an:=h.vN.lit;clear h e;rintro _ _ _ _ t6 W ⟨rfl,rfl,rfl,rfl,g0,g1,⟨ew,h,hp,eY,ar⟩,e⟩;unfold dK.ι;obtain⟨k,rfl⟩:=eR g0;rw[cP]at ar⊢;obtain⟨d,cE,fU,d0,d1⟩:=e.at;refine⟨_,_,_,fU,aW (by decide) ?_⟩
 try dsimp only[bj]
 refine⟨_,d1,bA (λhk=>?_) λhk=>?_⟩
 ·have hk:=cd hk;unfold dK.uM;rw[<-hp];refine WW h (by omega) v k λba aJ iv Um Ti Uc dP g6=>?_
  try dsimp only[JN]
  have apb:=DF an s v k;have apc:=an.rd v k;refine Hf (by rw[eY,we];omega) ?_;unfold dK.s9;rw[b3 (x:=(k:Int)+1) (by omega) (by omega),hp];have aM:((k:Int)+1).toNat=k+1:=by omega
  refine⟨⟨rfl,?_,rfl,rfl,by omega,by omega,⟨aJ,iv,Um.trans hp,Ti.trans eY,by omega⟩,e.c0 dP g6⟩,by((try dsimp only);omega)⟩;rw[aM,eY];rfl
 ·have hk:=dh hk;unfold dK.AA;have vP:k=sz.toNat:=by omega
  rw[vP];exact hC W ew h hp eY (by omega)
end
section
variable{w0 W:World}{x y:One}{G:a1}
theorem RS{s:ByteArray}{v:Nat}(aL:v<8)(ψ:s.size<=900000)(h:fH w0 W x y G)(eB:x.n<=400000){R:ak}{aS:J->ByteArray->Int->ai}
  (hC:∀w' ew iR,(∀i,G i->iR i)->fH w0 w' ew y iR->ew.pp=x.pp->ew.A=x.A->ew.n<=x.n+1400->aS (some ⟨x.pp,0,none⟩) (vj s x.A v) (IntKind.i64.wrap ((v:Int)+1)) w'):
  dK.cp (some ⟨x.pp,0,none⟩) s (v:Int) W R aS:=by
 unfold dK.cp;show mb.C (some ⟨x.pp,0,none⟩) 9 v 0 0 none 0 0 W _;have an:=h.vN.lit;have KG:=h.ex.size;refine WV h (by omega) ⟨9,v,0,0,[],none,0,0⟩ (B:=0) (μ.nil _ _ _ _) ⟨rfl,da _,λx I=>by cases I⟩ λδ cs Bn bL h1 aZ LS=>?_;have Uu:dp ⟨9,v,0,0,[],none,0,0⟩=rB v:=rfl;rw[Uu]at h1 LS
 try dsimp only
 try dsimp only[hz]
 have BV:(x.kq (rB v)).A=x.A:=RW x.A v;refine lY λb aa ab ω f=>?_;obtain⟨cJ,ch,dc,cy,dd,cE,rfl,hV,on,iw⟩:=LS.ex ab;obtain⟨B,z,γ⟩:=f;have lT:=(γ.typed rfl).1;have s3:w0.heap.size<=b:=fo h1.ex.size ω;refine aW rfl (γ.put (cs:=nG _ _ cJ ch dc cy dd cE) rfl qw λax cp cm=>?_);have bV:=(h1.to ab).loc cp s3 lT (by decide) (by decide) (by decide);have Fj:=on.aC cp λy ag o=>(on.typed ag).1.ne (o▸lT) (by decide) rfl;unfold dK.ea;refine⟨_,cm.at (j:=1) rfl,?_⟩;have σ:=gN Prod.snd (Jx x.A v);unfold vj at hC;cases he:ih x.A.E v with
 |none=>
  rw[he]at σ hC;dsimp only at σ hC;rw[σ,cond_pos (by rfl)];unfold dK.dP;rw[cond_pos (by rfl)];have h1:(⟨#[45]⟩:ByteArray).size=1:=rfl;refine Hf (by rw[h1,we];omega) ?_;unfold dK.AA;exact hC ax _ Bn bL bV rfl BV (by show x.n+5<=_;omega)
 |some e=>
  rw[he]at σ hC;dsimp only at σ hC;obtain⟨g0,g1⟩:=an.jL v e he;rw[σ]at cm Fj⊢;obtain rfl:dd=2:=by have η:(2:Nat)=dd*1:=Fj.1;omega
  rw[cond_neg (by rfl)];refine⟨_,_,_,cm.at (j:=4) rfl,?_⟩;unfold dK.dP;rw[cond_neg (by rfl)];unfold dK.hK;have xn:mq ax b e.1 e.2.1 Bn:=⟨_,_,_,cJ,ch,dc,cy,cE,cm,Fj,iw⟩;have xn:=xn.ex (θ.drew ax);have c9:=bV.to (θ.drew ax);generalize ax.drew=aG at xn c9⊢;obtain⟨d,O2,fU,d0,d1⟩:=xn.at;refine⟨_,_,_,fU,aW (by decide) ?_⟩
  try dsimp only[bj]
  refine⟨_,d0,_,_,_,fU,aW (by decide) ?_⟩
  try dsimp only[bj]
  refine⟨_,d1,?_⟩;rw[sy,sy];rintro ι ba ee rfl;have bS:=μ.alloc (w:=aG) (bg [e.1%256,e.2.1%256]) cG 1 2 rfl;rw[<-ee]at bS;have aJ:=θ.alloc aG (.cells (bg [e.1%256,e.2.1%256]).toArray cG);have nY:aG.alloc (.cells #[.int .u8 (e.1%256),.int .u8 (e.2.1%256)] cG)=aG.alloc (.cells (bg [e.1%256,e.2.1%256]).toArray cG):=rfl;rw[nY];generalize aG.alloc (.cells (bg [e.1%256,e.2.1%256]).toArray cG)=ba at bS aJ⊢;refine⟨[e.1%256,e.2.1%256],rfl,bS.cells,?_⟩;have η:(strOf [e.1%256,e.2.1%256]).size=2:=by rw[IP];rfl
  refine Hf (by rw[η,we];omega) ?_;unfold dK.fN;have Ub:(x.kq (rB v)).n=x.n+5:=rfl;refine RT (x:=x.kq (rB v)) aL ⟨g0,g1⟩ (by rw[CF,η];omega) (c9.to aJ) (by omega) (xn.ex aJ) λbk aV h7 EE Eh Ud=>?_;rw[BV];exact hC bk aV Bn bL h7 EE (Eh.trans BV) (by omega)
theorem Jw(h:hh w0 W x y)(eB:x.n<=300000){Z:ByteArray->ai}{X:List PanicEntry->ai}
  (dx:∀w' ew,hh w0 w' ew y->ew.pp=x.pp->ew.A=x.A->ew.n<=x.n+12000->Z (RR x.A) w'):
  κ prog 19 #[.pointer (some ⟨x.pp,0,none⟩)] W (λv w'=>lH v λs=>Z s w') X:=by
 show dK.C (some ⟨x.pp,0,none⟩) W _;apply dK.ok;unfold dK.main dK.aZ dK.bP dK.b7 dK.bd;have an:=h.lit;refine⟨λt0 t3 t4 W=>some ⟨x.pp,0,none⟩=t0/\t3=uY x.A t4.toNat/\0<=t4/\t4<=8/\∃ew,hh w0 W ew y/\ew.pp=x.pp/\ew.A=x.A/\ew.n<=x.n+1400*t4.toNat,λ_ _ t4 _=>(8-t4).toNat,⟨rfl,rfl,by omega,by omega,x,h,rfl,rfl,by omega⟩,?_⟩;clear h;rintro _ _ t4 W ⟨rfl,rfl,g0,g1,ew,h,hp,eY,ar⟩;unfold dK.ε;obtain⟨v,rfl⟩:=eR g0;rw[cP]at ar⊢;have Uq:=Lq an v;refine bA (λhk=>?_) λhk=>?_
 ·have hk:=cd hk;rw[<-hp];refine RS (by omega) (by omega) h.QA (by omega) λbk aV aiV _ h7 EE Eh Ud=>?_;rw[b3 (x:=(v:Int)+1) (by omega) (by omega),hp];have aM:((v:Int)+1).toNat=v+1:=by omega
  refine⟨⟨rfl,?_,by omega,by omega,aV,h7.vN,EE.trans hp,Eh.trans eY,by omega⟩,by((try dsimp only);omega)⟩;rw[aM,eY];rfl
 ·have hk:=dh hk;have ux:v=8:=by omega
  subst ux
  try dsimp only
  try dsimp only[JN]
  exact dx W ew h hp eY (by omega)
end
end Go.Proofs.YtcpdfhkhaekekaaGreat.G.cV
namespace Go.Proofs.YtcpdfhkhaekekaaGreat.G.cV
open Tryz
open Go Go.bI Go.RowKit cr dB eh cQ aK
structure X5(w0 W:World)(z:One)(xs:List (bG.cg×Int))(D:a1):Prop where
 is:hj W z.pp z.pd z.m xs z.aj D
 ok:aK.Ok z.m z.A z.n
 aj:0<=z.aj/\z.aj<=z.n
 new:∀i,D i->w0.heap.size<=i
 ex:θ w0 W
def ha(w0 W:World)(z:One)(xs:List (bG.cg×Int))(y:One):Prop:=∃D cM,X5 w0 W z xs D/\y.w9 w0 W cM/\jF D cM
section
variable{w0 W bE:World}{z y:One}{xs:List (bG.cg×Int)}
theorem hh.q(h:hh w0 W z y):ha w0 W z [] y:=by obtain⟨D,cM,h1,η,au⟩:=h;have h1:eW w0 W z.pp z.pd z.m z.aj z.A z.n D:=h1;exact⟨D,cM,⟨h1.is,h1.ok,h1.aj,h1.new,h1.ex⟩,η,au⟩
theorem ha.vN(h:ha w0 W z [] y):hh w0 W z y:=by obtain⟨D,cM,h1,η,au⟩:=h;exact⟨D,cM,⟨h1.is,h1.ok,h1.aj,h1.new,h1.ex⟩,η,au⟩
theorem ha.ex(h:ha w0 W z xs y):θ w0 W:=by obtain⟨D,cM,h1,_⟩:=h;exact h1.ex
theorem ha.to(h:ha w0 W z xs y)(x:θ W bE):ha w0 bE z xs y:=by obtain⟨D,cM,h1,η,au⟩:=h;exact⟨D,cM,⟨h1.is.ex x,h1.ok,h1.aj,h1.new,h1.ex.trans x⟩,eW.to η x,au⟩
theorem ha.loc(h:ha w0 W z xs y){b:Nat}(k:Kp W bE λi=>i=b)(aF:w0.heap.size<=b){e:TypeId}(aO:Typed W e b)(en:e∉nV)(sZ:e∉Bw)(dr:e≠cG):ha w0 bE z xs y:=by obtain⟨D,cM,h1,η,au⟩:=h;exact⟨D,cM,⟨h1.is.aC k (λi ae e=>(h1.is.fV ae).1.off (e▸aO) en) (λi o Tq=>(yb.1 Tq).off (o▸aO) sZ) λi o Cb=>(o▸aO:Typed W e i).ne Cb dr rfl,h1.ok,h1.aj,h1.new,h1.ex.then k λi o=>by omega⟩,eW.loc η k aF aO en sZ dr,au⟩
theorem ha.pE{z':One}{mS:List (bG.cg×Int)}{D bb cM:a1}(h1:X5 w0 W z xs D)(η:y.w9 w0 W cM)(au:jF D cM)(k:dQ W D bE z'.pp z'.pd z'.m mS z'.aj bb)(dq:aK.Ok z'.m z'.A z'.n)(aO:0<=z'.aj/\z'.aj<=z'.n):ha w0 bE z' mS y/\nq W bE:=by
 have ag:eW w0 W y.pp y.pd y.m y.aj y.A y.n cM:=η;refine⟨⟨bb,cM,⟨k.is,dq,aO,λi o=>?_,h1.ex.then k.aC h1.new⟩,?_,λi o eX=>?_⟩,λB e sz p l c vs γ ar=>gX k.aC (λi o=>(h1.is.fV o).1) γ ar⟩
 ·rcases k.sub i o with h|h
  ·exact h1.new i h
  ·have:=h1.ex.size
   omega
 ·exact⟨ag.is.aC k.aC (λi ae o=>au i o ae) (λi o en=>(h1.is.fV o).1.Cq (yb.1 en) (by decide)) λi o aO=>(h1.is.fV o).1.off aO (by decide),ag.ok,ag.aj,ag.new,ag.ex.then k.aC h1.new⟩
 ·rcases k.sub i o with h|h
  ·exact au i h eX
  ·have:=(ag.is.fV eX).2
   omega
theorem asp(h:ha w0 W z xs y)(eB:z.n<=600000)(r:bG.cg){B:Nat}(σ:μ W B cG 1 r.p r.n r.c (bG.bytesOf r))(ψ:bG.Small r){Z:Value->ai}{X:List PanicEntry->ai}
  (h1:∀w' e,e≠0->ha w0 w' z xs y->nq W w'->Z (.tuple #[.int .i64 0,.int .i64 e]) w')
  (η:∀w' bU aT,bG.e8 r.k->ha w0 w' {z with aj:=z.aj+1,n:=z.n+1} (xs++[({r with p:=bU,c:=aT},z.aj+1)]) y->nq W w'->Z (.tuple #[.int .i64 (z.aj+1),.int .i64 0]) w'):
  κ prog 20 #[.pointer (some ⟨z.pp,0,none⟩),.agg r.cells.toArray] W Z X:=by
 obtain⟨D,cM,cW,fO,lP⟩:=h;have qh:=cW.aj;refine κ.use (aeZ cW.is r σ ψ (by omega)) ?_;rintro _ w' (⟨g,rfl,aL⟩|⟨g,vS,rfl,aL⟩|⟨g,vS,rfl,bU,aT,bb,aL⟩)
 ·obtain⟨a,b⟩:=ha.pE (z':=z) cW fO lP aL cW.ok cW.aj;exact h1 w' 1 (by decide) a b
 ·obtain⟨a,b⟩:=ha.pE (z':=z) cW fO lP aL cW.ok cW.aj;exact h1 w' 12 (by decide) a b
 ·obtain⟨a,b⟩:=ha.pE (z':={z with aj:=z.aj+1,n:=z.n+1}) cW fO lP aL (cW.ok.more (Nat.le_succ _)) (by dsimp only;omega);exact η w' bU aT g a b
theorem asn(h:ha w0 W z xs y)(eB:z.n<=600000){Z:Value->ai}{X:List PanicEntry->ai}
  (dx:∀w',ha w0 w' {z with m:=pv (aK.tick z.m),n:=z.n+2} xs y->nq W w'->Z (.tuple #[.agg (fP 0 cO cO).toArray,.bool false]) w'):
  κ prog 16 #[.pointer (some ⟨z.pp,0,none⟩),.int .i64 2] W Z X:=by
 obtain⟨D,cM,cW,fO,lP⟩:=h;have qh:=cW.aj;show zh.C (some ⟨z.pp,0,none⟩) 2 W _;refine Gd cW.is cW.ok (by omega) (by omega) (λh=>by omega) (λ_ w' bb aL=>?_) (λh=>by omega) (λh=>by omega);obtain⟨a,b⟩:=ha.pE (z':={z with m:=pv (aK.tick z.m),n:=z.n+2}) cW fO lP aL (cW.ok.tick.clean (by omega)) (by dsimp only;omega);exact dx w' a b
theorem ad1{x:bG.cg×Int}(h:ha w0 W z (x::xs) y)(eB:z.n<=600000)(aP:Bi x.1){Z:Value->ai}{X:List PanicEntry->ai}
  (dR:∀w' v D,(eN (aK.tick z.m) (dp x.1)).2.e=12->ha w0 w' {z with m:=aK.tick z.m,n:=z.n+1} (x::xs) y->nq W w'->vB w' D v x.2 (eN (aK.tick z.m) (dp x.1)).2->Z (.tuple #[v,.bool true]) w')
  (b1:∀w' v D,(kc z.A (dp x.1)).2.e≠12->ha w0 w' {z with m:=(eN (aK.tick z.m) (dp x.1)).1,A:=(kc z.A (dp x.1)).1,n:=z.n+2} xs y->nq W w'->vB w' D v x.2 (kc z.A (dp x.1)).2->Z (.tuple #[v,.bool true]) w'):
  κ prog 16 #[.pointer (some ⟨z.pp,0,none⟩),.int .i64 1] W Z X:=by
 obtain⟨D,cM,cW,fO,lP⟩:=h;have qh:=cW.aj;show zh.C (some ⟨z.pp,0,none⟩) 1 W _;refine Gd cW.is cW.ok (by omega) (by omega) (λ_=>⟨aP,λw' bb v aL σ=>?_⟩) (λh=>by omega) (λh=>by omega) (λh=>by omega);rcases cW.ok.tick.do (by omega) (a:=dp x.1) aP.2 with⟨aM,bz,_⟩|⟨aM,bz,gw⟩
 ·rw[aM,aY rfl,bz]at aL;obtain⟨a,b⟩:=ha.pE (z':={z with m:=aK.tick z.m,n:=z.n+1}) cW fO lP aL cW.ok.tick (by dsimp only;omega);exact dR w' v _ aM a b σ
 ·rw[aN aM]at aL;obtain⟨a,b⟩:=ha.pE (z':={z with m:=(eN (aK.tick z.m) (dp x.1)).1,A:=(kc z.A (dp x.1)).1,n:=z.n+2}) cW fO lP aL gw (by dsimp only;omega);rw[bz]at aM σ;exact b1 w' v _ aM a b σ
end
section
variable{w0 W bE:World}{z y:One}{xs:List (bG.cg×Int)}{b:Nat}{cs:ah}{t:Int}{r:gQ}
theorem j2.c0(h:j2 W b t r)(k:nq W bE):j2 bE b t r:=by obtain⟨B,cJ,ch,dc,cy,dd,cE,γ,hV⟩:=h;exact⟨B,cJ,ch,dc,cy,dd,cE,k _ _ _ _ _ _ _ γ (by decide),k _ _ _ _ _ _ _ hV (by decide)⟩
theorem j2.ex(h:j2 W b t r)(k:θ W bE):j2 bE b t r:=by obtain⟨B,cJ,ch,dc,cy,dd,cE,γ,hV⟩:=h;exact⟨B,cJ,ch,dc,cy,dd,cE,γ.ex k,hV.ex k⟩
theorem j2.fr(h:j2 W b t r):Fr W b:=by obtain⟨B,cJ,ch,dc,cy,dd,cE,γ,hV⟩:=h;exact⟨B,_,γ⟩
theorem Px(h:ha w0 W z xs y)(ω:w0.heap.size<=b)(f:Fr W b)(π:GV W cs t r){Y:ai}(K:∀w',ha w0 w' z xs y->Kp W w' (λi=>i=b)->j2 w' b t r->Y w'):
  ο (decide (cs.size=5)) (hG W (⟨b,0,none⟩:Addr) cs.toList/\∀ax,ax=W.setCells (⟨b,0,none⟩:Addr).block (⟨b,0,none⟩:Addr).off cs.toList->Y ax):=by
 obtain⟨cJ,ch,dc,cy,dd,cE,rfl,hV⟩:=π;obtain⟨B,z,γ⟩:=f;have lT:=(γ.typed rfl).1;refine aW rfl (γ.put (cs:=nG t r cJ ch dc cy dd cE) rfl qw λb9 fN ff=>?_);exact K b9 (h.loc fN ω lT (by decide) (by decide) (by decide)) fN ⟨B,cJ,ch,dc,cy,dd,cE,ff,hV.aC fN λy ag o=>(hV.typed ag).1.ne (o▸lT) (by decide) rfl⟩
theorem aso(h:ha w0 W z xs y)(eB:y.n<=600000){q:bG.cg}(π:a8 W q.p (bG.bytesOf q))(ψ:bG.Small q){Z:ah->ai}{X:List PanicEntry->ai}
  (dx:∀w' cs t,ha w0 w' z xs (y.kq (dp q))->nq W w'->GV w' cs t (gh y.A (dp q)).2->Z cs w'):
  κ prog 14 #[.pointer (some ⟨y.pp,0,none⟩),.agg q.cells.toArray] W (λv w'=>dZ v λcs=>Z cs w') X:=by
 obtain⟨D,cM,cW,fO,lP⟩:=h;have ag:eW w0 W y.pp y.pd y.m y.aj y.A y.n cM:=fO;refine Qz ag eB q π ψ λw' bb v en k aL he=>?_;rw[he]at aL;refine aL.rc λcs iy=>dx w' cs _ ⟨D,bb,⟨cW.is.aC k.aC (λi ae o=>lP i ae o) (λi o en=>(ag.is.fV o).1.Cq (yb.1 en) (by decide)) λi o aO=>(ag.is.fV o).1.off aO (by decide),cW.ok,cW.aj,cW.new,cW.ex.then k.aC ag.new⟩,en,λi o eX=>?_⟩ (λB e sz p l c vs γ ar=>ag.c0 k γ ar) iy;rcases k.sub i eX with h|h
 ·exact lP i o h
 ·have:=(cW.is.fV o).2
  omega
end
structure pt(w0 W:World)(ins:List bG.cg)(p:J)(n c:Nat):Prop where
 own:∃B,μ W B ev 5 p n c (ins.map bG.cg.cells).flatten
 len:ins.length=n
 each:∀q∈ins,a8 w0 q.p (bG.bytesOf q)/\bG.Small q/\bG.e8 q.k
section
variable{w0 W bE:World}{z y:One}{xs:List (bG.cg×Int)}{ins:List bG.cg}{p:J}{n c:Nat}
theorem pt.c0(h:pt w0 W ins p n c)(k:nq W bE):pt w0 bE ins p n c:=by obtain⟨⟨B,γ⟩,η,au⟩:=h;exact⟨⟨B,k _ _ _ _ _ _ _ γ (by decide)⟩,η,au⟩
theorem pt.ex(h:pt w0 W ins p n c)(k:θ W bE):pt w0 bE ins p n c:=by obtain⟨⟨B,γ⟩,η,au⟩:=h;exact⟨⟨B,γ.ex k⟩,η,au⟩
theorem pt.aC(h:pt w0 W ins p n c){b:Nat}(k:Kp W bE λi=>i=b)(f:Fr W b):pt w0 bE ins p n c:=by obtain⟨⟨B,γ⟩,η,au⟩:=h;obtain⟨kA,ayx,az⟩:=f;exact⟨⟨B,γ.aC k λy ag o=>(γ.typed ag).1.ne (o▸(az.typed rfl).1) (by decide) rfl⟩,η,au⟩
theorem ajr{A:eC}{i b:Nat}{q:bG.cg}(gp:pt w0 W ins p n c)(ar:n<=100)(ay:ins[i]?=some q)(h:ha w0 W z xs y)(eB:y.n<=500000)(aI:z.A=(kc A (dp q)).1)(ag:y.A=A)(v:j2 W b ((i+1:Nat):Int) (kc A (dp q)).2){R:ak}{fG:J->J->J->Nat->Nat->Int->ai}
  (hC:∀w' jt,ha w0 w' z xs jt->jt.pp=y.pp->z.A=jt.A->jt.n=y.n+5->pt w0 w' ins p n c->fG (some ⟨z.pp,0,none⟩) (some ⟨y.pp,0,none⟩) p n c (IntKind.i64.wrap ((i:Int)+1)) w'):
  hf.bP (some ⟨z.pp,0,none⟩) (some ⟨y.pp,0,none⟩) p n c (i:Int) b true W R fG:=by
 have o:=(List.getElem?_eq_some_iff.1 ay).1;have hlen:=gp.len;obtain⟨cW,fO,lP⟩:=gp.each q (eS ay);obtain⟨B,γ⟩:=gp.own;obtain⟨d,ae,lL⟩:=PZ γ.cells ay;unfold hf.bP;refine aW (by omega) (aW (by omega) ?_);rw[ae]
 try dsimp only[bj]
 rw[<-ae];refine⟨q.cells.toArray,rfl,lL,?_⟩;refine aso h (by omega) (cW.ex h.ex) fO λδ cs k2 h1 aZ rc=>?_;refine lY λsH υ τ anu f9=>?_;have s3:w0.heap.size<=sH:=fo h1.ex.size anu;refine Px (h1.to τ) s3 f9 (rc.ex τ) λaa au b7 v9=>?_;have cc:b≠sH:=λe=>by have:=(v.c0 aZ).fr.lt;omega
 have v3:=((v.c0 aZ).ex τ).aC b7 f9 cc;have Tk:=((gp.c0 aZ).ex τ).aC b7 f9;have σ:gh y.A (dp q)=kc A (dp q):=by rw[ag];unfold gh;rw[aY (show 1<=(dp q).k/\(dp q).k<=9 from lP)]
 rw[σ]at v9;rw[cond_neg (by rfl)];refine⟨_,v3.Jy,?_⟩;rw[b3 (x:=(i:Int)+1) (by omega) (by omega),cond_neg (by simp)];refine⟨_,v3.Dm,_,v9.Dm,?_⟩;rw[cond_neg (by simp)];refine⟨_,v3.Jz,_,v9.Jz,?_⟩;rw[cond_neg (by simp)];obtain⟨cJ,ch,dc,g3,uO,bJ⟩:=v3.JA;obtain⟨ZL,ZI,ZB,xr,U5,Nn⟩:=v9.JA;refine⟨_,_,_,g3,_,uO,bJ,_,_,_,xr,_,U5,Nn,?_⟩;rw[cond_neg (by simp)]
 have:=hC aa (y.kq (dp q)) au rfl (by show z.A=(gh y.A (dp q)).1;rw[σ];exact aI) rfl Tk
 rw[b3 (x:=(i:Int)+1) (by omega) (by omega)]at this;exact this
end
section
variable{w0 W bE:World}{z y:One}{xs:List (bG.cg×Int)}{ins:List bG.cg}{p:J}{n c:Nat}
def Rh(w0 W:World)(z y:One)(xs:List (bG.cg×Int))(b i:Nat)(q:bG.cg):Prop:=∃z',ha w0 W z' xs y/\z'.pp=z.pp/\z'.A=(kc z.A (dp q)).1/\z'.n<=z.n+10/\(kc z.A (dp q)).2.e≠12/\j2 W b ((i+1:Nat):Int) (kc z.A (dp q)).2
def Xx(w0 W:World)(z y:One)(xs:List (bG.cg×Int))(b i:Nat)(q:bG.cg):Prop:=ha w0 W {z with m:=aK.tick z.m,n:=z.n+1} xs y/\(eN (aK.tick z.m) (dp q)).2.e=12/\j2 W b ((i+1:Nat):Int) (eN (aK.tick z.m) (dp q)).2
theorem X6{i b:Nat}{q:bG.cg}{x:bG.cg×Int}(gp:pt w0 W ins p n c)(ar:n<=100)(ay:ins[i]?=some q)(I:dp x.1=dp q)(iz:x.2=((i+1:Nat):Int))(aP:Bi x.1)(dq:aK.Ok z.m z.A z.n)(aI:z.n<=500000)(ag:y.n<=500000)(eY:y.A=z.A)(ω:w0.heap.size<=b)
  (ed:Rh w0 W z y xs b i q\/Xx w0 W z y (x::xs) b i q){R:ak}{fG:J->J->J->Nat->Nat->Int->ai}
  (hC:∀w' z' jt,ha w0 w' z' xs jt->z'.pp=z.pp->jt.pp=y.pp->z'.A=jt.A->z'.n<=z.n+10->jt.n=y.n+5->pt w0 w' ins p n c->fG (some ⟨z.pp,0,none⟩) (some ⟨y.pp,0,none⟩) p n c (IntKind.i64.wrap ((i:Int)+1)) w'):
  hf.uO (some ⟨z.pp,0,none⟩) (some ⟨y.pp,0,none⟩) p n c (i:Int) b true 0 W R fG:=by
 unfold hf.uO;refine⟨λt8 t10 gi fQ gx t16 t17 t18 t19 W=>some ⟨z.pp,0,none⟩=t8/\some ⟨y.pp,0,none⟩=t10/\p=gi/\n=fQ/\c=gx/\(i:Int)=t16/\b=t17/\true=t18/\0<=t19/\t19<=4/\pt w0 W ins p n c/\(Rh w0 W z y xs b i q\/t19=0/\Xx w0 W z y (x::xs) b i q),λ_ _ _ _ _ _ _ _ t19 _=>(4-t19).toNat,⟨rfl,rfl,rfl,rfl,rfl,rfl,rfl,rfl,by omega,by omega,gp,ed.imp_right λh=>⟨rfl,h⟩⟩,?_⟩;clear ed gp;rintro _ _ _ _ _ _ _ _ t19 W ⟨rfl,rfl,rfl,rfl,rfl,rfl,rfl,rfl,g0,g1,gp,ed⟩;unfold hf.aH;have fin:Rh w0 W z y xs b i q->hf.bP (some ⟨z.pp,0,none⟩) (some ⟨y.pp,0,none⟩) p n c (i:Int) b true W R fG:=by rintro⟨z',h,hp,amJ,EC,_,v⟩;rw[<-hp];refine ajr gp ar ay h (by omega) amJ eY v λw' jt eX rQ Hj ED J5=>?_;rw[hp];exact hC w' z' jt eX hp rQ Hj EC ED J5
 refine bA (λhk=>?_) λhk=>?_
 ·rcases ed with b1|⟨rfl,h,he,v⟩
  ·obtain⟨z',_,_,_,_,he,v⟩:=id b1;refine⟨_,v.Dm,?_⟩;rw[cond_neg (by simpa using he)];exact fin b1
  ·refine⟨_,v.Dm,?_⟩;rw[he,cond_pos (by rfl)];refine asn h (by dsimp only;omega) λδ h1 aZ=>?_
   try dsimp only[bZ]
   refine ad1 h1 (by dsimp only;omega) aP (λυ v2 D bz _ _ _=>?_) λυ v2 D bz η bP aL=>?_
   ·exfalso;dsimp only at bz;rw[I]at bz;have bf:=(dq.full (by omega) (a:=dp q) (I▸aP.2)).1;unfold sT at bf;rw[aY he]at bf;exact bf bz
   ·try dsimp only[bZ,cC,cD,bj,dH]
    dsimp only at η aL bz;rw[I]at η aL bz;rw[iz]at aL;refine aL.rc λcs iy=>?_;have ahE:=((v.c0 aZ).c0 bP).fr;refine Px η ω ahE iy λaa au b7 v3=>?_;have Tk:=((gp.c0 aZ).c0 bP).aC b7 ahE;refine⟨⟨rfl,rfl,rfl,rfl,rfl,rfl,rfl,rfl,by decide,by decide,Tk,.inl ⟨_,au,rfl,rfl,by dsimp only;omega,bz,v3⟩⟩,by decide⟩
 ·have hk:=dh hk;rcases ed with b1|⟨rfl,_⟩
  ·exact fin b1
  ·omega
end
section
variable{w0 W bE:World}{z y:One}{xs:List (bG.cg×Int)}{ins:List bG.cg}{p:J}{n c:Nat}
theorem ZN(h:hh w0 W z y)(eB:z.n<=600000){Z:Value->ai}{X:List PanicEntry->ai}
  (dx:∀w' z',hh w0 w' z' y->z'.pp=z.pp->z'.A=z.A->z'.n=z.n+5->Z (.int .i64 (y8 z.A.E:Int)) w'):
  κ prog 18 #[.pointer (some ⟨z.pp,0,none⟩)] W Z X:=by
 obtain⟨D,cM,h1,η,au⟩:=h;refine ahr h1 eB λw' bb en k=>?_;exact dx w' ⟨z.pp,z.pd,(ni z.m RX).1,z.aj+1,z.A,z.n+5⟩ ⟨bb,cM,en,eW.other η h1 k.aC au.symm,au.pE k η⟩ rfl rfl rfl
theorem ajs(h:ha w0 W z [] y)(eY:z.A=y.A)(aI:z.n<=100000)(ag:y.n<=100000):hf.b7 (some ⟨z.pp,0,none⟩) (some ⟨y.pp,0,none⟩) W (φ λv w'=>v=.bool true/\θ w0 w'):=by
 unfold hf.b7;have ae:=h.vN;obtain⟨D,cM,cW,fO,lP⟩:=h;refine κ.use (awu cW.is) ?_;rintro _ δ ⟨rfl,e⟩;obtain rfl:=e.symm
 try dsimp only[bH]
 rw[cond_pos (by rfl)];refine Jw ae (by omega) λυ z2 η l4 Hj ED=>?_;refine Jw η.symm (by omega) λaa gl au na amK abv=>?_;rw[eY,cond_pos (by simp)];rw[<-l4];refine ZN au.symm (by omega) λax z4 bV axT axe axQ=>?_
 try dsimp only[bH]
 rw[<-na];refine ZN bV.symm (by omega) λaG ib c9 abB axf Ub=>?_
 try dsimp only[bH]
 rw[Hj,amK,eY];exact φ.mk ⟨by simp,c9.ex⟩
def Br(ins:List bG.cg)(i:Nat)(xs:List (bG.cg×Int)):Prop:=xs.length+i=ins.length/\∀(j:Nat)x,xs[j]?=some x->∃q,ins[i+j]?=some q/\dp x.1=dp q/\x.2=((i+j+1:Nat):Int)/\Bi x.1
theorem ajq(h:ha w0 W z xs y)(gp:pt w0 W ins p n c)(ar:n<=100)(eE:Br ins 0 xs)(eY:z.A=y.A)(aI:z.n<=10000)(ag:y.n<=10000):
  hf.aZ (some ⟨z.pp,0,none⟩) (some ⟨y.pp,0,none⟩) p n c W (φ λv w'=>v=.bool true/\θ w0 w'):=by
 unfold hf.aZ hf.fm;refine⟨λt8 t10 gi fQ gx t16 W=>some ⟨z.pp,0,none⟩=t8/\some ⟨y.pp,0,none⟩=t10/\p=gi/\n=fQ/\c=gx/\0<=t16/\t16<=n/\pt w0 W ins p n c/\∃z' jt mS,ha w0 W z' mS jt/\z'.pp=z.pp/\jt.pp=y.pp/\z'.A=jt.A/\z'.n<=10000+20*t16.toNat/\jt.n<=10000+20*t16.toNat/\Br ins t16.toNat mS,λ_ _ _ _ _ t16 _=>(n-t16).toNat,⟨rfl,rfl,rfl,rfl,rfl,by omega,by omega,gp,z,y,xs,h,rfl,rfl,eY,by omega,by omega,eE⟩,?_⟩;clear h gp eE eY aI ag;rintro _ _ _ _ _ t16 W ⟨rfl,rfl,rfl,rfl,rfl,g0,g1,gp,z',jt,mS,h,hp,rQ,eY,aI,ag,eE⟩;unfold hf.ι;obtain⟨i,rfl⟩:=eR g0;rw[cP]at aI ag eE;have hlen:=gp.len;rw[<-hp,<-rQ];refine bA (λo=>?_) λo=>?_
 ·have o:=cd o;cases mS with
  |nil=>exfalso;have:=eE.1;rw[List.length_nil]at this;omega
  |cons x Xq=>
   obtain⟨q,ay,I,iz,aP⟩:=eE.2 0 x rfl;rw[Nat.add_zero]at ay iz;have am3:Br ins (i+1) Xq:=⟨by have:=eE.1;rw[List.length_cons]at this;omega,λj u hu=>by obtain⟨ng,aq,a2,a3,a4⟩:=eE.2 (j+1) u hu;exact⟨ng,by rw[show i+1+j=i+(j+1)by omega];exact aq,a2,by rw[a3];congr 1;omega,a4⟩⟩
   have dq:aK.Ok z'.m z'.A z'.n:=by obtain⟨_,_,cW,_⟩:=h;exact cW.ok
   have next:∀w' z2 fv,ha w0 w' z2 Xq fv->z2.pp=z'.pp->fv.pp=jt.pp->z2.A=fv.A->z2.n<=z'.n+10->fv.n=jt.n+5->pt w0 w' ins p n c->(λ(at0 Qf A6:J)(A5 A4:Nat)(wJ:Int)(bE:World)=>(some ⟨z'.pp,0,none⟩=at0/\some ⟨jt.pp,0,none⟩=Qf/\p=A6/\n=A5/\c=A4/\0<=wJ/\wJ<=n/\pt w0 bE ins p n c/\∃z3 gl Q0,ha w0 bE z3 Q0 gl/\z3.pp=z'.pp/\gl.pp=jt.pp/\z3.A=gl.A/\z3.n<=10000+20*wJ.toNat/\gl.n<=10000+20*wJ.toNat/\Br ins wJ.toNat Q0)/\(n-wJ).toNat<(n-(i:Int)).toNat) (some ⟨z'.pp,0,none⟩) (some ⟨jt.pp,0,none⟩) p n c (IntKind.i64.wrap ((i:Int)+1)) w':=by
    intro w' z2 fv η l4 aoK Hj ED axP amU;have aM:((i:Int)+1).toNat=i+1:=by omega
    rw[b3 (x:=(i:Int)+1) (by omega) (by omega)];refine⟨⟨rfl,rfl,rfl,rfl,rfl,by omega,by omega,amU,z2,fv,Xq,η,l4,aoK,Hj,?_,?_,?_⟩,by omega⟩<;>rw[aM]
    ·omega
    ·omega
    ·exact am3
   have apo:=h.ex.size;refine ad1 h (by omega) aP (λδ v D aM h1 aZ aL=>?_) λδ v D aM h1 aZ aL=>?_
   ·try dsimp only[bZ,cC,cD,bj,dH]
    rw[I]at aM aL;rw[iz]at aL;refine aL.rc λcs iy=>?_;refine lY λb aa ab ω f=>?_;have s3:w0.heap.size<=b:=fo h1.ex.size ω;refine Px (h1.to ab) s3 f (iy.ex ab) λax bV cp v4=>?_;exact X6 (((gp.c0 aZ).ex ab).aC cp f) ar ay I iz aP dq (by omega) (by omega) eY.symm s3 (.inr ⟨bV,aM,v4⟩) next
   ·try dsimp only[bZ,cC,cD,bj,dH]
    rw[I]at aM aL h1;rw[iz]at aL;refine aL.rc λcs iy=>?_;refine lY λb aa ab ω f=>?_;have s3:w0.heap.size<=b:=fo h1.ex.size ω;refine Px (h1.to ab) s3 f (iy.ex ab) λax bV cp v4=>?_;exact X6 (((gp.c0 aZ).ex ab).aC cp f) ar ay I iz aP dq (by omega) (by omega) eY.symm s3 (.inl ⟨_,bV,rfl,rfl,by dsimp only;omega,aM,v4⟩) next
 ·have o:=dh o;obtain rfl:mS=[]:=by
   have:=eE.1
   exact q9 (by omega)
  exact ajs h eY (by omega) (by omega)
end
section
variable{w0 W bE:World}{z y:One}{xs:List (bG.cg×Int)}{ins:List bG.cg}{p:J}{n c:Nat}
theorem ha.row(h:ha w0 W z xs y){B:Nat}{e:TypeId}{sz:Nat}{q:J}{l k:Nat}{vs:aU}(γ:μ W B e sz q l k vs)(dR:w0.heap.size<=B)(en:e∉nV)(sZ:e∉Bw)(dr:e≠cG)(uN:Kp W bE λi=>∃x,q=some x/\x.block=i):ha w0 bE z xs y:=by
 cases q with
 |none=>exact h.to ((θ.refl W).then uN λi⟨x,I,_⟩=>by cases I)
 |some a=>exact h.loc (b:=a.block) (uN.mono λi _⟨x,I,o⟩=>by cases I;exact o.symm) (fo dR (γ.ge rfl).1) (γ.typed rfl).1 en sZ dr
theorem Br.push{x:bG.cg×Int}{q:bG.cg}(h:Br ins 0 xs)(I:dp x.1=dp q)(η:x.2=((ins.length+1:Nat):Int))(aP:Bi x.1):Br (ins++[q]) 0 (xs++[x]):=by
 obtain⟨aF,h1⟩:=h;refine⟨by rw[e9,e9];simp;omega,λj u hu=>?_⟩;rw[List.getElem?_append]at hu;split at hu
 ·obtain⟨ng,aq,a2,a3,a4⟩:=h1 j u hu;exact⟨ng,by rw[List.getElem?_append_left (List.getElem?_eq_some_iff.1 aq).1];exact aq,a2,a3,a4⟩
 ·rename_i bQ;have χ:j=xs.length:=by
   have:=(List.getElem?_eq_some_iff.1 hu).1
   simp at this;omega
  subst χ;rw[u4]at hu;cases hu;refine⟨q,?_,I,?_,aP⟩
  ·rw[List.getElem?_append_right (by omega),show 0+xs.length-ins.length=0 by omega];rfl
  ·rw[η];congr 1;omega
end
section
variable{w0 W:World}{pp N γ v b:Nat}{awY:List (Option C4)}{R:ak}{p:J}{n c:Nat}
theorem asZ{Y:Nat->ai}(K:∀b w',θ W w'->W.heap.size<=b->μ w' b ev 5 (some ⟨b,0,none⟩) 1 1 bG.k4->Y b w'):aR W #[.int .i64 0,.int .i64 0,.int .i64 0,.int .i64 0,cO] ev Y:=by rintro b w' ω rfl;have γ:=μ.new (w:=W) bG.k4 ev;rw[<-ω]at γ;exact K b _ (θ.alloc W _) (by omega) γ
end
section
variable{w0 W bE:World}{z y:One}{xs:List (bG.cg×Int)}{ins:List bG.cg}{p:J}{n c:Nat}
theorem ajp{q:bG.cg}(h:ha w0 W z xs y)(ay:∀bE,θ w0 bE->a8 bE q.p (bG.bytesOf q))(ψ:bG.Small q)(aI:z.n<=600000){B:Nat}{mL:J}{KY lc:Nat}{vs:aU}(γ:μ W B ev 5 mL KY lc vs)(π:∀bE,θ w0 bE->a8 bE q.p (bG.bytesOf q)){N:Value->ai}{X:List PanicEntry->ai}
  (h1:∀w' e,e≠0->ha w0 w' z xs y->μ w' B ev 5 mL KY lc vs->N (.tuple #[.int .i64 0,.int .i64 e]) w')
  (η:∀w' bU aT,bG.e8 q.k->ha w0 w' {z with aj:=z.aj+1,n:=z.n+1} (xs++[({q with p:=bU,c:=aT},z.aj+1)]) y->μ w' B ev 5 mL KY lc vs->N (.tuple #[.int .i64 (z.aj+1),.int .i64 0]) w'):
  aR W #[.int .i64 0,.int .i64 0,.int .i64 0,.int .i64 0,cO] ev λaH cn=>
   ο (decide (q.cells.toArray.size=5)) (hG cn (⟨aH,0,none⟩:Addr) q.cells.toArray.toList/\∀de,de=cn.setCells (⟨aH,0,none⟩:Addr).block (⟨aH,0,none⟩:Addr).off q.cells.toArray.toList->
    (aR de #[] cG λaf dJ=>
     ∃fD aD c1,dJ.cell? (⟨aH,4,none⟩:Addr)=some (.slice fD aD c1)/\
     (gD dJ (some ⟨af,0,none⟩) 0 0 aD (a8 dJ fD) cG 1 1 #[.int .u8 0] λiB c2 ep=>
      (ep.cell? (⟨aH,4,none⟩:Addr)).isSome=true/\ep.frozen? (⟨aH,4,none⟩:Addr)=false/\∀eO,eO=ep.setCell (⟨aH,4,none⟩:Addr) (.slice iB (0+aD) c2)->
      (∃(bY:ah),bY.size=5/\aw eO (⟨aH,0,none⟩:Addr) bY.toList/\
       (κ prog 20 #[.pointer (some ⟨z.pp,0,none⟩),.agg bY] eO N X))))):=by
 refine asZ λaH cn dG jc bu=>?_;refine aW rfl (bu.put (cs:=q.cells) rfl bG.BQ λde qX o3=>?_);have Dc:θ W de:=dG.then qX λi o=>by omega
 rintro af dJ mC rfl;have cm:=μ.alloc (w:=de) [] cG 1 0 rfl;have js:=θ.alloc de (.cells ([]:aU).toArray cG);rw[<-mC]at cm;have iS:de.alloc (.cells #[] cG)=de.alloc (.cells ([]:aU).toArray cG):=rfl;rw[iS];generalize de.alloc (.cells ([]:aU).toArray cG)=dJ at cm js⊢;have aoV:=Dc.size;have Yw:=Dc.trans js;have o3:=o3.ex js;refine⟨_,_,_,o3.at (j:=4) rfl,?_⟩;have xG:=ψ.len;have Hs:=ψ.fZ;refine kT cm (Nat.le_of_lt (cm.ge rfl).2) (bG.bytesOf q) (π _ (h.ex.trans Yw)) (by rw[jP];omega) (GJ _ _) rfl (by omega) (by omega) λiB nt ep bS dP=>?_;have avO:∀i,(∃x,(some ⟨af,0,none⟩:J)=some x/\x.block=i)->Typed dJ cG i:=λi⟨x,I,o⟩=>by cases I;exact o▸(cm.typed rfl).1
 have o3:=o3.cI dP cG avO (by decide);have RJ:θ W ep:=Yw.then dP λi⟨x,I,o⟩=>by cases I;dsimp only at o;omega
 rw[r9]at bS;rw[mN]at bS⊢;refine o3.dj (j:=4) (v:=.slice iB q.n nt) (by show 4<1*5;omega) rfl λeO ta r4=>?_;have t1:∀i,i=aH->Typed ep ev i:=λi o=>o▸(o3.typed rfl).1;have bS:=bS.cI ta ev t1 (by decide);have vE:θ W eO:=RJ.then ta λi o=>by omega
 refine⟨(bG.cg.cells {q with p:=iB,c:=nt}).toArray,rfl,r4.cells,?_⟩;refine asp (h.to vE) aI {q with p:=iB,c:=nt} bS ⟨ψ.len,ψ.fZ,ψ.wf⟩ (λw' e he eX k'=>?_) λw' bU aT g eX k'=>?_
 ·exact h1 w' e he eX (k' _ _ _ _ _ _ _ (γ.ex vE) (by decide))
 ·exact η w' bU aT g eX (k' _ _ _ _ _ _ _ (γ.ex vE) (by decide))
end
theorem aj0(a b:Int)(p:J)(n c:Nat)(rows:List aU)(w:World)(aP:0<=a/\a<256)(ω:0<=b/\b<256)(an:Bt w tX 56 (mu w tX A0) p n c rows):
  hf.C a b p n c w (φ λv w'=>v=.bool true/\θ w w'):=by
 obtain⟨ls,σ⟩:=We an;apply hf.ok;unfold hf.main;refine κ.use (Pp a b aP ω w) ?_;rintro _ δ ⟨rfl,ζ⟩
 try dsimp only[hz]
 refine κ.use (JE (s:=6+a%9) (k:=2+b%5) NY δ) ?_;rintro _ aa ⟨Lo,zi,e5,rfl,eb⟩
 try dsimp only[bZ,cC,cD,bj,mX,mB,jb]
 refine κ.use (Pp a b aP ω aa) ?_;rintro _ aG ⟨rfl,al⟩
 try dsimp only[hz]
 refine κ.use (JE (s:=6+a%9) (k:=2+b%5) NY aG) ?_;rintro _ bk ⟨xZ,q3,cM,rfl,ee⟩
 try dsimp only[bZ,cC,cD,bj,mX,mB,jb]
 refine κ.use (ah4 bk) ?_;rintro _ ca ⟨rfl,cv⟩
 try dsimp only[dH]
 have t1:=eb.tp;have fj:=al.size;have El:jF e5 cM:=λi h1 η=>by
  have:=(t1.is.fV h1).2
  have:=ee.new i η
  omega
 have X:=(al.trans ee.ex).trans cv;have t1:=t1.to X;have t2:=ee.tp.to cv;have t1:eW w ca zi Lo (wk (6+a%9) (2+b%5)) 0 (xQ (6+a%9) (2+b%5)) 2 e5:=⟨t1.is,t1.ok,t1.aj,λi o=>fo ζ.size (t1.new i o),ζ.trans t1.ex⟩;have t2:eW w ca q3 xZ (wk (6+a%9) (2+b%5)) 0 (xQ (6+a%9) (2+b%5)) 2 cM:=⟨t2.is,t2.ok,t2.aj,λi o=>fo (fo (fo ζ.size eb.ex.size) al.size) (t2.new i o),(ζ.trans (eb.ex.trans al)).trans t2.ex⟩;have aF:hh w ca ⟨zi,Lo,_,_,_,_⟩ ⟨q3,xZ,_,_,_,_⟩:=⟨e5,cM,t1,t2,El⟩;rintro ι cH anm rfl;have ql:=μ.alloc (w:=ca) [] ev 5 0 rfl;have fu:=θ.alloc ca (.cells ([]:aU).toArray ev);rw[<-anm]at ql;have alF:ca.alloc (.cells #[] ev)=ca.alloc (.cells ([]:aU).toArray ev):=rfl;rw[alF];generalize ca.alloc (.cells ([]:aU).toArray ev)=cH at ql fu⊢;have dN:=(aF.to fu).q;have aaD:w.heap.size<=ι:=by have:=aF.ex.size;omega
 unfold hf.bd;refine⟨λez et eT t8 t10 gi fQ gx t12 W=>p=ez/\n=et/\c=eT/\some ⟨zi,0,none⟩=t8/\some ⟨q3,0,none⟩=t10/\0<=t12/\t12<=30/\∃z y xs ins,ha w W z xs y/\z.pp=zi/\y.pp=q3/\z.A=y.A/\z.n<=10+t12.toNat/\y.n<=10/\z.aj=(ins.length:Int)/\Br ins 0 xs/\μ W w.heap.size ev 5 gi fQ gx (ins.map bG.cg.cells).flatten/\ins.length=fQ/\fQ<=t12.toNat/\∀q∈ins,a8 w q.p (bG.bytesOf q)/\bG.Small q/\bG.e8 q.k,
  λ_ _ _ _ _ _ _ _ t12 _=>(30-t12).toNat,⟨rfl,rfl,rfl,rfl,rfl,by omega,by omega,_,_,[],[],dN,rfl,rfl,rfl,by show(2:Nat)<=_;omega,by show(2:Nat)<=_;omega,rfl,⟨rfl,λj x I=>by cases I⟩,ql.lower aaD,rfl,by omega,λq ay=>by cases ay⟩,?_⟩
 clear dN ql aF t1 t2;rintro _ _ _ _ _ mL KY lc t12 W ⟨rfl,rfl,rfl,rfl,rfl,g0,g1,z,y,xs,ins,h,hp,rQ,eY,aI,ag,qh,eE,ql,hlen,hle,dM⟩;have fin:hf.aZ (some ⟨zi,0,none⟩) (some ⟨q3,0,none⟩) mL KY lc W (φ λv w'=>v=.bool true/\θ w w'):=by rw[<-hp,<-rQ];exact ajq h ⟨⟨_,ql⟩,hlen,dM⟩ (by omega) eE eY (by omega) (by omega)
 unfold hf.ε;obtain⟨j,rfl⟩:=eR g0;rw[cP]at aI hle⊢;refine bA (λχ=>?_) λ_=>fin;refine bA (λhk=>?_) λ_=>fin;have χ:=cd χ;have hk:=cd hk;obtain⟨a0,q,rfl,ay,ψ⟩:=σ.get (i:=j) (by omega);refine aW (by omega) (aW (by omega) ?_)
 try dsimp only[bj]
 refine⟨q.cells.toArray,rfl,(ay W h.ex).1,?_⟩;rw[<-hp];have aM:((j:Int)+1).toNat=j+1:=by omega
 refine ajp h (λbE x=>(ay bE x).2) ψ (by omega) ql (λbE x=>(ay bE x).2) (λw' e he eX hd=>?_) λw' bU aT g eX hd=>?_
 ·try dsimp only[bZ,cC,cD,bj,bH]
  rw[cond_neg (by simpa using he),b3 (x:=(j:Int)+1) (by omega) (by omega)];refine⟨⟨rfl,rfl,rfl,rfl,rfl,by omega,by omega,z,y,xs,ins,eX,rfl,rQ,eY,by rw[aM];omega,ag,qh,eE,hd,hlen,by rw[aM];omega,dM⟩,by((try dsimp only);omega)⟩
 ·try dsimp only[bZ,cC,cD,bj,bH]
  rw[cond_pos (by rfl)];refine aW (by omega) (aW (by omega) ?_);refine⟨q.cells.toArray,rfl,(ay w' eX.ex).1,?_⟩;refine gK (NS 5 _ _ (by simp[madeCells]) rfl) ?_;rintro dC fF lf rfl;have cz:=μ.new (w:=w') q.cells ev;rw[<-lf]at cz;have oz:=θ.alloc w' (.cells q.cells.toArray ev);generalize w'.alloc (.cells q.cells.toArray ev)=fF at cz oz⊢;have oe:=hd.ex oz;refine kT oe (eX.to oz).ex.size q.cells cz.cells rfl bG.BQ rfl (by omega) (by omega) λnD lX eK o4 HN=>?_;have BU:=(eX.to oz).row oe (eF _) (by decide) (by decide) (by decide) HN;rw[b3 (x:=(j:Int)+1) (by omega) (by omega)];refine⟨⟨rfl,rfl,rfl,rfl,rfl,by omega,by omega,_,y,_,ins++[q],BU,rfl,rQ,eY,by rw[aM];dsimp only;omega,ag,?_,eE.push rfl ?_ ⟨g,ψ.wf⟩,?_,by rw[e9,hlen];rfl,by rw[aM];omega,?_⟩,by((try dsimp only);omega)⟩
  ·rw[e9];dsimp only;rw[qh];simp
  ·show z.aj+1=_;rw[qh];simp
  ·rw[qt,List.flatten_append];simpa using o4
  ·intro u hu;rcases iI.1 hu with h1|h1
   ·exact dM u h1
   ·rw[lp.1 h1];exact⟨(ay w (θ.refl w)).2,ψ,g⟩
end Go.Proofs.YtcpdfhkhaekekaaGreat.G.cV

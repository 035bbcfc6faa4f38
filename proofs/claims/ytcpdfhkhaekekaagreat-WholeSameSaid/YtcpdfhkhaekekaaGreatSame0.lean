/- The law WholeSame of the given program is proved. Conditions: none. -/
import Derived.Test.YtcpdfhkhaekekaaGreatA15
set_option linter.unusedVariables false
set_option linter.unusedSimpArgs false
namespace Go.Proofs.YtcpdfhkhaekekaaGreat.G
open Tryz
open Go.bO
set_option maxRecDepth 100000
def gn.a1(e8:J)(e0 fN:Nat)(cR:J)(cM de:Nat)(t9 t10 t11 t12:J)(t13:Int)(t14 t15:Nat)(t50:Int)(t51:Bool)(w:World)(R:aq)(a8:J->Nat->Nat->J->Nat->Nat->J->J->J->J->Int->ao):Prop:=
 ∃ζ,w.cell? ⟨t14,1,none⟩=some (.int .i64 ζ)/\
 (∃σ,w.cell? ⟨t15,1,none⟩=some (.int .i64 σ)/\
  (cond (ζ !=σ) (
   R (.returned (.bool false)) w) (
   ∃ad,w.cell? ⟨t14,2,none⟩=some (.int .i64 ad)/\
   (∃aA,w.cell? ⟨t15,2,none⟩=some (.int .i64 aA)/\
    (cond (ad !=aA) (
     R (.returned (.bool false)) w) (
     ∃ak,w.cell? ⟨t14,0,none⟩=some (.int .i64 ak)/\
     (∃aI,w.cell? ⟨t15,0,none⟩=some (.int .i64 aI)/\
      (cond (ak !=aI) (
       R (.returned (.bool false)) w) (
       ∃fH ay c1,w.cell? ⟨t14,3,none⟩=some (.slice fH ay c1)/\
       (∃(oL:an),oL.length=ay/\a7 w fH (oL.map (.int .u8))/\
        (∃jG bu c2,w.cell? ⟨t15,3,none⟩=some (.slice jG bu c2)/\
         (∃(Ez:an),Ez.length=bu/\a7 w jG (Ez.map (.int .u8))/\
          (cond (!((strOf oL).toList==(strOf Ez).toList)) (
          R (.returned (.bool false)) w) (
          cond (decide (t13<((cM:Nat):Int))) (
          ο (decide (0<=t13)) (
          ο (decide (t13<((cM:Nat):Int))) (
          ξ cR λd3=>
          ∃aV,w.cell? (d3.add (t13.toNat*1))=some (.int .u8 aV)/\
          (κ prog 16 #[.pointer t10,(IntKind.i64.wrap (1+(IntKind.i64.wrap (Int.tmod aV 4))))] w (λv26 ahb=>
          b0 v26 λhY=>
          ο (decide (0<=t13)) (
          ο (decide (t13<((cM:Nat):Int))) (
          ξ cR λd4=>
          ∃cg,ahb.cell? (d4.add (t13.toNat*1))=some (.int .u8 cg)/\
          (κ prog 16 #[.pointer t12,(IntKind.i64.wrap (1+(IntKind.i64.wrap (Int.tmod cg 4))))] ahb (λLU avV=>
          b0 LU λmz=>
          a8 e8 e0 fN cR cM de t9 t10 t11 t12 (IntKind.i64.wrap (t13+1)) avV) (au R))))) (au R))))) (
          a8 e8 e0 fN cR cM de t9 t10 t11 t12 (IntKind.i64.wrap (t13+1)) w)))))))))))))))
def gn.cd(t9 t11:J)(w:World)(R:aq):Prop:=
 κ prog 24 #[.pointer t9] w (λv35 ahe=>
  br .i64 v35 λc7=>
  κ prog 24 #[.pointer t11] ahe (λavI ahf=>
   br .i64 avI λgb=>
   R (.returned (.bool (c7==gb))) ahf) (au R)) (au R)
def gn.θ(t9 t11:J)(t16:Int)(w:World)(R:aq)(hJ:J->J->Int->ao):Prop:=
 κ prog 22 #[.pointer t9] w (λv28 ahc=>
  br .i64 v28 λcm=>
  cond (decide (t16<cm)) (
   κ prog 23 #[.pointer t9,t16] ahc (λGh ahd=>
    b0 Gh λso=>
    ξ (so[0]?) λv30=>
    cN v30 λp8 dB bI=>
    ξ (so[1]?) λv31=>
    br .i64 v31 λeK=>
    κ prog 23 #[.pointer t11,t16] ahd (λv32 IK=>
     b0 v32 λAV=>
     ξ (AV[0]?) λv33=>
     cN v33 λiM jg hs=>
     ξ (AV[1]?) λavH=>
     br .i64 avH λfl=>
     cond (eK !=fl) (
      R (.returned (.bool false)) IK) (
      ∃(UO:an),UO.length=dB/\a7 IK p8 (UO.map (.int .u8))/\
      (∃(UP:an),UP.length=jg/\a7 IK iM (UP.map (.int .u8))/\
       (cond (!((strOf UO).toList==(strOf UP).toList)) (
        R (.returned (.bool false)) IK) (
        hJ t9 t11 (IntKind.i64.wrap (t16+1)) IK))))) (au R)) (au R)) (
   gn.cd t9 t11 ahc R)) (au R)
def gn.fG:=Hx gn.θ
def gn.bP(t9 t11:J)(w:World)(R:aq):Prop:=
 gn.fG t9 t11 0 w R
def gn.δ(e8:J)(e0 fN:Nat)(cR:J)(cM de:Nat)(t9 t10 t11 t12:J)(t13:Int)(w:World)(R:aq)(a8:J->Nat->Nat->J->Nat->Nat->J->J->J->J->Int->ao):Prop:=
 cond (decide (t13<((e0:Nat):Int))) (
  cond (decide (t13<60)) (
   ο (decide (0<=t13)) (
    ο (decide (t13<((e0:Nat):Int))) (
     ξ e8 λd1=>
     ∃(bZ:ag),bZ.size=5/\aw w.drew (d1.add (t13.toNat*5)) bZ.toList/\
     (ο (decide (0<=t13)) (
      ο (decide (t13<((e0:Nat):Int))) (
       ξ e8 λd2=>
       ∃(bW:ag),bW.size=5/\aw w.drew (d2.add (t13.toNat*5)) bW.toList/\
       ((κ prog 14 #[.pointer t10,.agg bZ] w.drew (λv10 cA=>
          dq v10 λcE=>
          ο (decide (bW.size=5)) (
           aw cA (d2.add (t13.toNat*5)) bW.toList/\
           ((κ prog 14 #[.pointer t12,.agg bW] cA (λv11 dn=>
            dq v11 λdM=>
            (aN dn #[(0:Int),(0:Int),(0:Int),.slice none 0 0,.slice none 0 0] 37 λθ eA=>
            aN eA #[(0:Int),(0:Int),(0:Int),.slice none 0 0,.slice none 0 0] 37 λaF eR=>
            ο (decide (cE.size=5)) (
            bG eR ⟨θ,0,none⟩ cE.toList λga=>
            (ο (decide (dM.size=5)) (
            bG ga ⟨aF,0,none⟩ dM.toList λfO=>
            (gn.a1 e8 e0 fN cR cM de t9 t10 t11 t12 t13 θ aF t13 (decide (t13<60)) fO R a8)))))/\
            (aN dn #[(0:Int),(0:Int),(0:Int),.slice none 0 0,.slice none 0 0] 37 λae fE=>
            aN fE #[(0:Int),(0:Int),(0:Int),.slice none 0 0,.slice none 0 0] 37 λc8 eD=>
            ο (decide (cE.size=5)) (
            bG eD ⟨c8,0,none⟩ cE.toList λfv=>
            (ο (decide (dM.size=5)) (
            bG fv ⟨ae,0,none⟩ dM.toList λeJ=>
            (gn.a1 e8 e0 fN cR cM de t9 t10 t11 t12 t13 c8 ae t13 (decide (t13<60)) eJ R a8)))))) (au R))/\
            (aN cA #[(0:Int),(0:Int),(0:Int),.slice none 0 0,.slice none 0 0] 37 λfq hZ=>
            ο (decide (bW.size=5)) (
            aw hZ (d2.add (t13.toNat*5)) bW.toList/\
            ((κ prog 14 #[.pointer t12,.agg bW] hZ (λv12 fw=>
            dq v12 λgv=>
            aN fw #[(0:Int),(0:Int),(0:Int),.slice none 0 0,.slice none 0 0] 37 λiv gi=>
            ο (decide (cE.size=5)) (
            bG gi ⟨fq,0,none⟩ cE.toList λh0=>
            (ο (decide (gv.size=5)) (
            bG h0 ⟨iv,0,none⟩ gv.toList λhP=>
            (gn.a1 e8 e0 fN cR cM de t9 t10 t11 t12 t13 fq iv t13 (decide (t13<60)) hP R a8))))) (au R))/\
            (aN hZ #[(0:Int),(0:Int),(0:Int),.slice none 0 0,.slice none 0 0] 37 λpL kR=>
            ο (decide (bW.size=5)) (
            aw kR (d2.add (t13.toNat*5)) bW.toList/\
            (κ prog 14 #[.pointer t12,.agg bW] kR (λny j6=>
            dq ny λgM=>
            ο (decide (cE.size=5)) (
            bG j6 ⟨fq,0,none⟩ cE.toList λiz=>
            (ο (decide (gM.size=5)) (
            bG iz ⟨pL,0,none⟩ gM.toList λsr=>
            (gn.a1 e8 e0 fN cR cM de t9 t10 t11 t12 t13 fq pL t13 (decide (t13<60)) sr R a8))))) (au R)))))))/\
            (aN cA #[(0:Int),(0:Int),(0:Int),.slice none 0 0,.slice none 0 0] 37 λzB u5=>
            ο (decide (bW.size=5)) (
            aw u5 (d2.add (t13.toNat*5)) bW.toList/\
            ((κ prog 14 #[.pointer t12,.agg bW] u5 (λqo ra=>
            dq qo λgN=>
            aN ra #[(0:Int),(0:Int),(0:Int),.slice none 0 0,.slice none 0 0] 37 λvn mA=>
            ο (decide (cE.size=5)) (
            bG mA ⟨vn,0,none⟩ cE.toList λqp=>
            (ο (decide (gN.size=5)) (
            bG qp ⟨zB,0,none⟩ gN.toList λqq=>
            (gn.a1 e8 e0 fN cR cM de t9 t10 t11 t12 t13 vn zB t13 (decide (t13<60)) qq R a8))))) (au R))/\
            (aN u5 #[(0:Int),(0:Int),(0:Int),.slice none 0 0,.slice none 0 0] 37 λJc IH=>
            ο (decide (bW.size=5)) (
            aw IH (d2.add (t13.toNat*5)) bW.toList/\
            (κ prog 14 #[.pointer t12,.agg bW] IH (λsl tH=>
            dq sl λiE=>
            ο (decide (cE.size=5)) (
            bG tH ⟨Jc,0,none⟩ cE.toList λGi=>
            (ο (decide (iE.size=5)) (
            bG Gi ⟨zB,0,none⟩ iE.toList λavP=>
            (gn.a1 e8 e0 fN cR cM de t9 t10 t11 t12 t13 Jc zB t13 (decide (t13<60)) avP R a8))))) (au R)))))))))) (au R))/\
        (aN w.drew #[(0:Int),(0:Int),(0:Int),.slice none 0 0,.slice none 0 0] 37 λGC zh=>
         ο (decide (bW.size=5)) (
          aw zh (d2.add (t13.toNat*5)) bW.toList/\
          (ο (decide (bZ.size=5)) (
            aw zh (d1.add (t13.toNat*5)) bZ.toList/\
            ((κ prog 14 #[.pointer t10,.agg bZ] zh (λsm L1=>
            dq sm λjB=>
            ο (decide (bW.size=5)) (
            aw L1 (d2.add (t13.toNat*5)) bW.toList/\
            ((κ prog 14 #[.pointer t12,.agg bW] L1 (λv17 WD=>
            dq v17 λkJ=>
            aN WD #[(0:Int),(0:Int),(0:Int),.slice none 0 0,.slice none 0 0] 37 λcT oc=>
            ο (decide (jB.size=5)) (
            bG oc ⟨GC,0,none⟩ jB.toList λmB=>
            (ο (decide (kJ.size=5)) (
            bG mB ⟨cT,0,none⟩ kJ.toList λrb=>
            (gn.a1 e8 e0 fN cR cM de t9 t10 t11 t12 t13 GC cT t13 (decide (t13<60)) rb R a8))))) (au R))/\
            (aN L1 #[(0:Int),(0:Int),(0:Int),.slice none 0 0,.slice none 0 0] 37 λjN u6=>
            ο (decide (bW.size=5)) (
            aw u6 (d2.add (t13.toNat*5)) bW.toList/\
            (κ prog 14 #[.pointer t12,.agg bW] u6 (λu2 nz=>
            dq u2 λmF=>
            ο (decide (jB.size=5)) (
            bG nz ⟨GC,0,none⟩ jB.toList λGj=>
            (ο (decide (mF.size=5)) (
            bG Gj ⟨jN,0,none⟩ mF.toList λxR=>
            (gn.a1 e8 e0 fN cR cM de t9 t10 t11 t12 t13 GC jN t13 (decide (t13<60)) xR R a8))))) (au R))))))) (au R))/\
            (aN zh #[(0:Int),(0:Int),(0:Int),.slice none 0 0,.slice none 0 0] 37 λoq o3=>
            ο (decide (bW.size=5)) (
            aw o3 (d2.add (t13.toNat*5)) bW.toList/\
            (ο (decide (bZ.size=5)) (
            aw o3 (d1.add (t13.toNat*5)) bZ.toList/\
            (κ prog 14 #[.pointer t10,.agg bZ] o3 (λu3 L4=>
            dq u3 λmG=>
            ο (decide (bW.size=5)) (
            aw L4 (d2.add (t13.toNat*5)) bW.toList/\
            (κ prog 14 #[.pointer t12,.agg bW] L4 (λv20 Qf=>
            dq v20 λjO=>
            ο (decide (mG.size=5)) (
            bG Qf ⟨GC,0,none⟩ mG.toList λCu=>
            (ο (decide (jO.size=5)) (
            bG Cu ⟨oq,0,none⟩ jO.toList λbY=>
            (gn.a1 e8 e0 fN cR cM de t9 t10 t11 t12 t13 GC oq t13 (decide (t13<60)) bY R a8))))) (au R)))) (au R)))))))))))/\
        (aN w.drew #[(0:Int),(0:Int),(0:Int),.slice none 0 0,.slice none 0 0] 37 λpK ss=>
         ο (decide (bW.size=5)) (
          aw ss (d2.add (t13.toNat*5)) bW.toList/\
          (ο (decide (bZ.size=5)) (
            aw ss (d1.add (t13.toNat*5)) bZ.toList/\
            ((κ prog 14 #[.pointer t10,.agg bZ] ss (λv21 II=>
            dq v21 λj0=>
            ο (decide (bW.size=5)) (
            aw II (d2.add (t13.toNat*5)) bW.toList/\
            ((κ prog 14 #[.pointer t12,.agg bW] II (λv22 u7=>
            dq v22 λmb=>
            aN u7 #[(0:Int),(0:Int),(0:Int),.slice none 0 0,.slice none 0 0] 37 λCX Qg=>
            ο (decide (j0.size=5)) (
            bG Qg ⟨CX,0,none⟩ j0.toList λQh=>
            (ο (decide (mb.size=5)) (
            bG Qh ⟨pK,0,none⟩ mb.toList λavQ=>
            (gn.a1 e8 e0 fN cR cM de t9 t10 t11 t12 t13 CX pK t13 (decide (t13<60)) avQ R a8))))) (au R))/\
            (aN II #[(0:Int),(0:Int),(0:Int),.slice none 0 0,.slice none 0 0] 37 λwH ag9=>
            ο (decide (bW.size=5)) (
            aw ag9 (d2.add (t13.toNat*5)) bW.toList/\
            (κ prog 14 #[.pointer t12,.agg bW] ag9 (λv23 avR=>
            dq v23 λmc=>
            ο (decide (j0.size=5)) (
            bG avR ⟨wH,0,none⟩ j0.toList λavS=>
            (ο (decide (mc.size=5)) (
            bG avS ⟨pK,0,none⟩ mc.toList λavT=>
            (gn.a1 e8 e0 fN cR cM de t9 t10 t11 t12 t13 wH pK t13 (decide (t13<60)) avT R a8))))) (au R))))))) (au R))/\
            (aN ss #[(0:Int),(0:Int),(0:Int),.slice none 0 0,.slice none 0 0] 37 λx8 WH=>
            ο (decide (bW.size=5)) (
            aw WH (d2.add (t13.toNat*5)) bW.toList/\
            (ο (decide (bZ.size=5)) (
            aw WH (d1.add (t13.toNat*5)) bZ.toList/\
            (κ prog 14 #[.pointer t10,.agg bZ] WH (λv24 aha=>
            dq v24 λue=>
            ο (decide (bW.size=5)) (
            aw aha (d2.add (t13.toNat*5)) bW.toList/\
            (κ prog 14 #[.pointer t12,.agg bW] aha (λv25 avU=>
            dq v25 λyb=>
            ο (decide (ue.size=5)) (
            bG avU ⟨x8,0,none⟩ ue.toList λtJ=>
            (ο (decide (yb.size=5)) (
            bG tJ ⟨pK,0,none⟩ yb.toList λQi=>
            (gn.a1 e8 e0 fN cR cM de t9 t10 t11 t12 t13 x8 pK t13 (decide (t13<60)) Qi R a8))))) (au R)))) (au R)))))))))))))))))) (
   gn.bP t9 t11 w R)) (
  gn.bP t9 t11 w R)
def gn.bd:=abY gn.δ
def gn.main(a0 ar:Int)(iW:J)(et jZ:Nat)(qC:J)(pI qB:Nat)(w:World)(R:aq):Prop:=
 κ prog 12 #[.int .u8 a0,.int .u8 ar] w (λv1 γ=>
  dq v1 λaK=>
  κ prog 11 #[.agg aK] γ (λv2 aa=>
   b0 v2 λbN=>
   ξ (bN[0]?) λv3=>
   gX v3 λab=>
   ξ (bN[1]?) λv4=>
   gX v4 λaX=>
   κ prog 12 #[.int .u8 a0,.int .u8 ar] aa (λv5 aE=>
    dq v5 λbF=>
    κ prog 11 #[.agg bF] aE (λv6 bm=>
     b0 v6 λeI=>
     ξ (eI[0]?) λfJ=>
     gX fJ λbh=>
     ξ (eI[1]?) λbj=>
     gX bj λeg=>
     cond (Option.isNone aX) (
      R (.returned (.bool false)) bm) (
      cond (Option.isNone eg) (
       R (.returned (.bool false)) bm) (
       κ prog 13 #[] bm (λv9 cf=>
        dw v9 λδ=>
        cond (!δ) (
         R (.returned (.bool false)) cf) (
         gn.bd iW et jZ qC pI qB ab aX bh eg 0 cf R)) (au R)))) (au R)) (au R)) (au R)) (au R)
abbrev gn.C(a0 ar:Int)(iW:J)(et jZ:Nat)(qC:J)(pI qB:Nat):=Calls prog 10 #[.int .u8 a0,.int .u8 ar,.slice iW et jZ,.slice qC pI qB]
theorem gn.ok:A6 gn.main gn.C:=λ{_ _ _ _ _ _ _ _ _ R}h=>fc func10 [.tmp 8] 150 (.seq .leaf (.seq .leaf (.seq .leaf (.seq .leaf (.cut [(9,.ptr),(11,.ptr)] (gn.bP · · · R) (.seq .leaf (.block (.loop [(2,.slice),(3,.slice),(9,.ptr),(10,.ptr),(11,.ptr),(12,.ptr),(13,.int .i64)] (gn.bd · · · · · · · · · · · · R) λa8=>(.seq .leaf (.seq (.block (.cut [(2,.slice),(3,.slice),(9,.ptr),(10,.ptr),(11,.ptr),(12,.ptr),(13,.int .i64),(14,.cY),(15,.cY),(50,.int .i64),(51,.bool)] (gn.a1 · · · · · · · · · · · · · · · · R a8) .leaf .leaf)) .leaf))))) (.cut [(9,.ptr),(11,.ptr)] (gn.cd · · · R) (.seq .leaf (.block (.loop [(9,.ptr),(11,.ptr),(16,.int .i64)] (gn.fG · · · · R) λhJ=>.leaf))) .leaf)))))) h
end Go.Proofs.YtcpdfhkhaekekaaGreat.G
namespace Go.Proofs.YtcpdfhkhaekekaaGreat.G.eb
open Go Go.bO Go.RowKit cL eh eW c5 aR
abbrev rm:Nat->bf:=λb c=>c*b<=140737488351232
def yW:og:=.int .i64 (.int .i64 (.int .i64 (.int .i64 (.b3 1 (.int .u8 .done) .done))))
theorem VR{w:World}{r:aU}(h:lH w rm yW r):∃q:b9.cP,r=q.cells/\a7 w q.p (b9.bytesOf q)/\b9.Small q:=by obtain⟨a,_,rfl,avX,b,_,rfl,_,c,_,rfl,_,d,_,rfl,_,p,n,m,rows,_,rfl,ω,aP⟩:=h;obtain rfl:_=[]:=aP;obtain⟨xs,o,hm,_⟩:=ω.ints;exact⟨⟨a,b,c,d,xs,p,n,m⟩,rfl,o.cells,o.size,by have:=o.room;show _<=_;dsimp only;omega,λx I=>Gl (o.wf x I)⟩
theorem Ll{w:World}:∀{rows:List aU},(∀r∈rows,lH w rm yW r)->∃rs:List b9.cP,rows=rs.map b9.cP.cells/\∀q∈rs,a7 w q.p (b9.bytesOf q)/\b9.Small q
 |[],_=>⟨[],rfl,by simp⟩
 |r::rows,h=>by
  obtain⟨q,rfl,aC⟩:=VR (h r (by simp));obtain⟨rs,rfl,kj⟩:=Ll (rows:=rows) λx I=>h x (hW _ I);exact⟨q::rs,rfl,λx I=>by
   rcases fA.1 I with rfl|I
   ·exact aC
   ·exact kj x I⟩
theorem VO{w:World}{p:J}{rs:List b9.cP}(h:a7 w p (rs.map b9.cP.cells).flatten){i:Nat}{q:b9.cP}(o:rs[i]?=some q):∃a,p=some a/\aw w (a.add (i*5)) q.cells:=
 h.row (λr υ=>by obtain⟨q,_,rfl⟩:=gO.1 υ;rfl) (by decide) (by rw[List.getElem?_map,o];rfl)
def oe(D gj:bf):Prop:=∀i,D i->¬gj i
section
variable{w0 w w':World}{pp pd E4 vR:Nat}{m m2:aR}{al agy:Int}{A Cy:eL}{n bu:Nat}{D bb gj:bf}
theorem hq.other(h:hq w0 w pp pd m al A n D)(ι:hq w0 w E4 vR m2 agy Cy bu gj)(k:Kp w w' gj)(aQ:oe D gj):hq w0 w' pp pd m al A n D:=
 ⟨h.is.aH k (λi af=>aQ i af) (λi o e2=>(ι.is.hL o).1.KH (F7.1 e2) (by decide)) λi o aP=>(ι.is.hL o).1.off aP (by decide),h.ok,h.al,h.new,h.ex.then k ι.new⟩
theorem oe.symm(h:oe D gj):oe gj D:=λi o fU=>h i fU o
theorem oe.HD(h:oe D gj)(k:nI w D w' bb)(ι:hq w0 w E4 vR m2 agy Cy bu gj):oe bb gj:=λi o fU=>by
 rcases k.sub i o with h1|h1
 ·exact h i h1 fU
 ·have:=(ι.is.hL fU).2
  omega
end
theorem Xs{w:World}{B pd:Nat}{d:a6.c3}{D:bf}(h:a6.gV w B pd d D):C3.C (some ⟨pd,0,none⟩) w (χ λv w'=>v=.int .i64 (d.loose.length:Int)/\w'=w):=by
 apply C3.ok;unfold C3.main;obtain⟨bs,bn,pl,km,h,b4⟩:=h;rw[cond_neg (by rfl)]
 try dsimp only[bk]
 simp only[dv];exact⟨_,_,_,h.cell.at (j:=2) rfl,χ.mk ⟨rfl,rfl⟩⟩
theorem aiE{w0 W:World}{Av vR:Nat}{d:a6.c3}{eU gj:bf}(h1:a6.gV W 0 Av d eU)(ι:a6.gV W 0 vR d gj)(bJ:a6.Good d)(D6:d.off=false)(x:η w0 W):
  gn.bP (some ⟨Av,0,none⟩) (some ⟨vR,0,none⟩) W (χ λv w'=>v=.bool true/\η w0 w'):=by
 have bg:=bJ.fT;unfold gn.bP gn.fG;refine⟨λt9 t11 t16 W=>some ⟨Av,0,none⟩=t9/\some ⟨vR,0,none⟩=t11/\0<=t16/\t16<=d.now.length/\a6.gV W 0 Av d eU/\a6.gV W 0 vR d gj/\η w0 W,λ_ _ t16 _=>(d.now.length-t16).toNat,⟨rfl,rfl,by omega,by omega,h1,ι,x⟩,?_⟩;clear h1 ι x;rintro _ _ t16 W ⟨rfl,rfl,g0,g1,h1,ι,x⟩;unfold gn.θ;obtain⟨i,rfl⟩:=eH g0;refine κ.use (I5 h1) ?_;rintro _ b6 ⟨rfl,e⟩;obtain rfl:=e.symm
 try dsimp only[bH]
 refine bz (λo=>?_) λo=>?_
 ·have o:=b7 o;have pY:a6.sT d i=0:=by unfold a6.sT;rw[aM (by rw[D6];simp),aM (by omega)]
  refine κ.use (a6.xW h1 bJ i) ?_;rintro _ ahd ⟨Qm,υ⟩;obtain⟨_,bh,bI,lU,BK,rfl,bo⟩:=υ.resolve_left λh=>h.1 pY
  try dsimp only[bX,cC,cD,bk,bH,dY]
  refine κ.use (a6.xW (ι.ex Qm) bJ i) ?_;rintro _ IK ⟨Qn,υ⟩;obtain⟨_,eg,hs,q1,abi,rfl,cx⟩:=υ.resolve_left λh=>h.1 pY
  try dsimp only[bX,cC,cD,bk,bH,dY]
  rw[BK]at abi;cases abi;rw[cond_neg (by simp)];have xd:lU.length=64:=by have:=cx.1;unfold a6.l2 at this;rw[jV]at this;exact this
  refine⟨lU,xd,(bo.ex Qn).cells,lU,xd,cx.cells,?_⟩;rw[cond_neg (by simp),bY (x:=(i:Int)+1) (by omega) (by omega)];exact⟨⟨rfl,rfl,by omega,by omega,(h1.ex Qm).ex Qn,(ι.ex Qm).ex Qn,(x.trans Qm).trans Qn⟩,by((try dsimp only);omega)⟩
 ·unfold gn.cd;refine κ.use (Xs h1) ?_;rintro _ ahe ⟨rfl,e⟩;obtain rfl:=e.symm
  try dsimp only[bH]
  refine κ.use (Xs ι) ?_;rintro _ ahf ⟨rfl,e⟩;obtain rfl:=e.symm
  try dsimp only[bH]
  exact χ.mk ⟨by simp,x⟩
open Tryz
structure One where
 pp:Nat
 pd:Nat
 m:aR
 al:Int
 A:eL
 n:Nat
def One.Xm(x:One)(w0 W:World)(D:bf):Prop:=hq w0 W x.pp x.pd x.m x.al x.A x.n D
def iP(w0 W:World)(x y:One):Prop:=∃D gj,x.Xm w0 W D/\y.Xm w0 W gj/\oe D gj
section
variable{w0 W:World}{x y:One}{Z:Value->ao}{X:List PanicEntry->ao}
theorem iP.symm(h:iP w0 W x y):iP w0 W y x:=by obtain⟨D,gj,h1,ι,aG⟩:=h;exact⟨gj,D,ι,h1,aG.symm⟩
theorem iP.ex(h:iP w0 W x y):η w0 W:=by obtain⟨D,gj,h1,_⟩:=h;exact hq.ex h1
theorem iP.to(h:iP w0 W x y){b6:World}(k:η W b6):iP w0 b6 x y:=by obtain⟨D,gj,h1,ι,aG⟩:=h;exact⟨D,gj,hq.to h1 k,hq.to ι k,aG⟩
theorem iP.loc(h:iP w0 W x y){b6:World}{b:Nat}(k:Kp W b6 λi=>i=b)(aD:w0.heap.size<=b){e:TypeId}(aP:Typed W e b)(e2:e∉o5)(Bx:e∉Gx)(dr:e≠dk):iP w0 b6 x y:=by obtain⟨D,gj,h1,ι,aG⟩:=h;exact⟨D,gj,hq.loc h1 k aD aP e2 Bx dr,hq.loc ι k aD aP e2 Bx dr,aG⟩
def One.ou(x:One)(a:aR.Ask):One:={x with m:=(ko x.m a).1,al:=xC x.al a,A:=(fB x.A a).1,n:=x.n+5}
theorem akS(h:iP w0 W x y)(eG:x.n<=600000)(r:b9.cP)(π:a7 W r.p (b9.bytesOf r))(ω:b9.Small r)
  (dF:∀w' v D,iP w0 w' (x.ou (ef r)) y->wv W w'->vi w' D v (if 1<=r.k/\r.k<=9 then x.al+1 else 0) (ko x.m (ef r)).2->(ko x.m (ef r)).2=(fB x.A (ef r)).2->Z v w'):
  κ prog 14 #[.pointer (some ⟨x.pp,0,none⟩),.agg r.cells.toArray] W Z X:=by
 obtain⟨D,gj,h1,ι,aG⟩:=h;refine PY h1 eG r π ω λw' bb v e2 k aJ he=>?_;exact dF w' v _ ⟨bb,gj,e2,hq.other ι h1 k.aH aG.symm,aG.HD k ι⟩ (λB e sz p l c vs ε ax=>hq.dA h1 k ε ax) aJ he
def Ls(pick:Int)(m:aR):aR:=if pick=2 then pN (aR.tick m)else if pick=3 then qI (aR.tick m)else aR.tick m
def One.step(x:One)(pick:Int):One:={x with m:=Ls pick x.m,n:=x.n+2}
theorem Zk(h:iP w0 W x y)(eG:x.n<=600000){pick:Int}(hp:1<=pick/\pick<=4)
  (dF:∀w',iP w0 w' (x.step pick) y->wv W w'->Z (.tuple #[.agg (fD 0 ct ct).toArray,.bool false]) w'):
  κ prog 16 #[.pointer (some ⟨x.pp,0,none⟩),.int .i64 pick] W Z X:=by
 obtain⟨D,gj,h1,ι,aG⟩:=h;have uq:hq w0 W x.pp x.pd x.m x.al x.A x.n D:=h1;show Aw.C (some ⟨x.pp,0,none⟩) pick W _;have aP:=uq.al;have fin:∀(w':World)(bb:bf),dL W D w' x.pp x.pd (Ls pick x.m) [] x.al bb->aR.Ok (Ls pick x.m) x.A (x.n+2)->Z (.tuple #[.agg (fD 0 ct ct).toArray,.bool false]) w':=λw' bb aJ dt=>by have k:=aJ.HD;exact dF w' ⟨bb,gj,uq.UG k aJ.is dt (show 0<=x.al/\x.al<=((x.n+2:Nat):Int)by omega),hq.other ι h1 k.aH aG.symm,aG.HD k ι⟩ λB e sz p l c vs ε ax=>uq.dA k ε ax
 refine Iq uq.is uq.ok (by omega) hp (λhk w' bb aJ=>?_) (λhk w' bb aJ=>?_) (λhk w' bb aJ=>?_) λhk w' bb aJ=>?_
 ·subst hk;exact fin w' bb aJ (uq.ok.tick.more (by omega))
 ·subst hk;exact fin w' bb aJ (uq.ok.tick.clean (by omega))
 ·subst hk;exact fin w' bb aJ (uq.ok.tick.check (by omega))
 ·subst hk;exact fin w' bb aJ (uq.ok.tick.more (by omega))
end
theorem P9{W:World}{Y:Nat->ao}(K:∀b w',η W w'->W.heap.size<=b->μ w' b dm 5 (some ⟨b,0,none⟩) 1 1 (fD 0 ct ct)->Y b w'):aN W #[.int .i64 0,.int .i64 0,.int .i64 0,ct,ct] dm Y:=by rintro b w' ψ rfl;have ε:=μ.new (w:=W) (fD 0 ct ct) dm;rw[<-ψ]at ε;exact K b _ (η.alloc W _) (by omega) ε
end Go.Proofs.YtcpdfhkhaekekaaGreat.G.eb
namespace Go.Proofs.YtcpdfhkhaekekaaGreat.G.eb
open Go Go.bO Go.RowKit cL eh eW c5 aR
structure vj(w0:World)(p:J)(n:Nat)(ls:List b9.cP):Prop where
 cells:a7 w0 p (ls.map b9.cP.cells).flatten
 len:ls.length=n
 each:∀q∈ls,a7 w0 q.p (b9.bytesOf q)/\b9.Small q
theorem Pj{w:World}{p:J}{n c:Nat}{rows:List aU}(aj:zr w rm 56 (lH w rm yW) p n c rows):∃ls,vj w p n ls:=by obtain⟨ls,rfl,He⟩:=Ll aj.each;exact⟨ls,aj.cells,by simpa using aj.size,He⟩
open Tryz
theorem vj.get'{w0:World}{p:J}{n:Nat}{ls:List b9.cP}(h:vj w0 p n ls){i:Nat}(o:i<n):∃a q,p=some a/\ls[i]?=some q/\(∀W,η w0 W->aw W (a.add (i*5)) q.cells/\a7 W q.p (b9.bytesOf q))/\b9.Small q:=by
 have D3:i<ls.length:=by rw[h.len];exact o
 obtain⟨a,aQ,mj⟩:=VO h.cells (List.getElem?_eq_getElem D3);obtain⟨dQ,fQ⟩:=h.each _ (hF D3);exact⟨a,ls[i],aQ,List.getElem?_eq_getElem D3,λW x=>⟨a7.ex (a:=some _) x mj,dQ.ex x⟩,fQ⟩
def qy(w:World)(cs:ag)(t:Int)(r:gS):Prop:=∃dz cU dc dD dH dJ,cs=(jj t r dz cU dc dD dH dJ).toArray/\μ w 0 dk 1 dz cU dc (bj r.bs)
def Fr(w:World)(b:Nat):Prop:=∃B z,μ w B dm 5 (some ⟨b,0,none⟩) 1 1 z
def o4(w:World)(b:Nat)(t:Int)(r:gS):Prop:=∃B dz cU dc dD dH dJ,μ w B dm 5 (some ⟨b,0,none⟩) 1 1 (jj t r dz cU dc dD dH dJ)/\μ w 0 dk 1 dz cU dc (bj r.bs)
section
variable{w0 W b6:World}{x y:One}{cs:ag}{t:Int}{r:gS}{b gL:Nat}
theorem qy.dA(h:qy W cs t r)(k:wv W b6):qy b6 cs t r:=by obtain⟨dz,cU,dc,dD,dH,dJ,rfl,ε⟩:=h;exact⟨dz,cU,dc,dD,dH,dJ,rfl,k _ _ _ _ _ _ _ ε (by decide)⟩
theorem qy.ex(h:qy W cs t r)(k:η W b6):qy b6 cs t r:=by obtain⟨dz,cU,dc,dD,dH,dJ,rfl,ε⟩:=h;exact⟨dz,cU,dc,dD,dH,dJ,rfl,ε.ex k⟩
theorem Fr.dA(h:Fr W b)(k:wv W b6):Fr b6 b:=by obtain⟨B,z,ε⟩:=h;exact⟨B,z,k _ _ _ _ _ _ _ ε (by decide)⟩
theorem Fr.ex(h:Fr W b)(k:η W b6):Fr b6 b:=by obtain⟨B,z,ε⟩:=h;exact⟨B,z,ε.ex k⟩
theorem Fr.lt(h:Fr W b):b<W.heap.size:=by obtain⟨B,z,ε⟩:=h;exact(ε.ge rfl).2
theorem Fr.aH(h:Fr W b)(k:Kp W b6 λi=>i=gL)(ca:b≠gL):Fr b6 b:=by obtain⟨B,z,ε⟩:=h;exact⟨B,z,ε.aH k λy ah o=>by cases ah;exact ca o⟩
theorem o4.aH(h:o4 W b t r)(k:Kp W b6 λi=>i=gL)(f:Fr W gL)(ca:b≠gL):o4 b6 b t r:=by obtain⟨B,dz,cU,dc,dD,dH,dJ,ε,mr⟩:=h;obtain⟨gD,z,ai⟩:=f;exact⟨B,dz,cU,dc,dD,dH,dJ,ε.aH k λy ah o=>by cases ah;exact ca o,mr.aH k λy ah o=>(mr.typed ah).1.ne (o▸(ai.typed rfl).1) (by decide) rfl⟩
theorem vi.rc{D:bf}{v:Value}(h:vi W D v t r){Q:ag->Prop}(K:∀cs,qy W cs t r->Q cs):dq v Q:=by obtain⟨dz,cU,dc,dD,dH,dJ,rfl,ε,_,_⟩:=h;exact K _ ⟨dz,cU,dc,dD,dH,dJ,rfl,ε⟩
theorem o6{Y:Nat->ao}(K:∀b w',η W w'->W.heap.size<=b->Fr w' b->Y b w'):aN W #[.int .i64 0,.int .i64 0,.int .i64 0,ct,ct] dm Y:=
 P9 λb w' k ψ ε=>K b w' k ψ ⟨_,_,ε⟩
theorem adI(h:iP w0 W x y)(ψ:w0.heap.size<=b)(f:Fr W b)(π:qy W cs t r){Y:ao}(K:∀w',iP w0 w' x y->Kp W w' (λi=>i=b)->o4 w' b t r->Y w'):
  ο (decide (cs.size=5)) (hr W (⟨b,0,none⟩:Addr) cs.toList/\∀az,az=W.setCells (⟨b,0,none⟩:Addr).block (⟨b,0,none⟩:Addr).off cs.toList->Y az):=by
 obtain⟨dz,cU,dc,dD,dH,dJ,rfl,mr⟩:=π;obtain⟨B,z,ε⟩:=f;have AR:=(ε.typed rfl).1;refine aW rfl (ε.put (cs:=jj t r dz cU dc dD dH dJ) rfl sf λb5 fL e6=>?_);exact K b5 (h.loc fL ψ AR (by decide) (by decide) (by decide)) fL ⟨B,dz,cU,dc,dD,dH,dJ,e6,mr.aH fL λy ah o=>(mr.typed ah).1.ne (o▸AR) (by decide) rfl⟩
theorem arV{gA iR:ag}{aeM tb:Int}{j3 kg:gS}{pM mE:Nat}(h:iP w0 W x y)(amO:w0.heap.size<=pM)(wV:w0.heap.size<=mE)(ca:pM≠mE)(Zw:Fr W pM)(alw:Fr W mE)(aQ:qy W gA aeM j3)(ψ:qy W iR tb kg){Y:ao}(K:∀w',iP w0 w' x y->o4 w' pM aeM j3->o4 w' mE tb kg->Y w'):
  ο (decide (gA.size=5)) (hr W (⟨pM,0,none⟩:Addr) gA.toList/\∀az,az=W.setCells (⟨pM,0,none⟩:Addr).block (⟨pM,0,none⟩:Addr).off gA.toList->
   ο (decide (iR.size=5)) (hr az (⟨mE,0,none⟩:Addr) iR.toList/\∀aE,aE=az.setCells (⟨mE,0,none⟩:Addr).block (⟨mE,0,none⟩:Addr).off iR.toList->Y aE)):=by
 refine adI h amO Zw aQ λaz cq cz v4=>?_;have Zx:=alw.aH cz (Ne.symm ca);have mg:qy az iR tb kg:=by obtain⟨dz,cU,dc,dD,dH,dJ,rfl,mr⟩:=ψ;obtain⟨B,z,ε⟩:=Zw;exact⟨dz,cU,dc,dD,dH,dJ,rfl,mr.aH cz λy ah o=>(mr.typed ah).1.ne (o▸(ε.typed rfl).1) (by decide) rfl⟩
 refine adI cq wV Zx mg λaE db dN v5=>?_;exact K aE db (v4.aH dN Zx ca) v5
theorem Zj(h:iP w0 W x y)(eG:x.n<=600000){q:b9.cP}(π:a7 W q.p (b9.bytesOf q))(ω:b9.Small q){Z:ag->ao}{X:List PanicEntry->ao}
  (dF:∀w' cs,iP w0 w' (x.ou (ef q)) y->wv W w'->qy w' cs (if 1<=q.k/\q.k<=9 then x.al+1 else 0) (ko x.m (ef q)).2->Z cs w'):
  κ prog 14 #[.pointer (some ⟨x.pp,0,none⟩),.agg q.cells.toArray] W (λv w'=>dq v λcs=>Z cs w') X:=
 akS h eG q π ω λw' v D fU k aJ _=>aJ.rc λcs jq=>dF w' cs fU k jq
end
section
variable{w0 W:World}{x y:One}
def zy(x:One)(q:b9.cP):Int:=if 1<=q.k/\q.k<=9 then x.al+1 else 0
theorem avm(h:iP w0 W x y)(I:x.n<=500000)(ah:y.n<=500000){p:J}{n c:Nat}{ls:List b9.cP}(υ:vj w0 p n ls){i:Nat}(o:i<n)(wQ:i<60){bT:J}{eX aT:Nat}{t9 t11:J}{R:aq}{a8:J->Nat->Nat->J->Nat->Nat->J->J->J->J->Int->ao}
  (iS:∀q w' pM mE,ls[i]?=some q->iP w0 w' (x.ou (ef q)) (y.ou (ef q))->o4 w' pM (zy x q) (ko x.m (ef q)).2->o4 w' mE (zy y q) (ko y.m (ef q)).2->gn.a1 p n c bT eX aT t9 (some ⟨x.pp,0,none⟩) t11 (some ⟨y.pp,0,none⟩) i pM mE i (decide ((i:Int)<60)) w' R a8):
  gn.δ p n c bT eX aT t9 (some ⟨x.pp,0,none⟩) t11 (some ⟨y.pp,0,none⟩) i W R a8:=by
 unfold gn.δ;rw[cond_pos (by simpa using o),cond_pos (by rw[bB];omega)];refine aW (by omega) (aW (by omega) ?_);have h:=h.to (η.drew W);generalize W.drew=W at h⊢;obtain⟨a0,q,rfl,aj,aC,ω⟩:=υ.get' o;simp only[bk];have rd:∀{b6},iP w0 b6 x y->aw b6 (a0.add ((i:Int).toNat*5)) q.cells.toArray.toList:=λh=>(aC _ h.ex).1;have xz:∀{b6},iP w0 b6 (x.ou (ef q)) y->aw b6 (a0.add ((i:Int).toNat*5)) q.cells.toArray.toList:=λh=>(aC _ h.ex).1
 have lI:∀{b6}{Z:ag->ao}{X:List PanicEntry->ao},iP w0 b6 x y->(∀w' cs,iP w0 w' (x.ou (ef q)) y->wv b6 w'->qy w' cs (zy x q) (ko x.m (ef q)).2->Z cs w')->
   κ prog 14 #[.pointer (some ⟨x.pp,0,none⟩),.agg q.cells.toArray] b6 (λv w'=>dq v λcs=>Z cs w') X:=λh dF=>Zj h (by omega) (aC _ h.ex).2 ω dF
 have wL:∀{b6}{Z:ag->ao}{X:List PanicEntry->ao},iP w0 b6 (x.ou (ef q)) y->(∀w' cs,iP w0 w' (x.ou (ef q)) (y.ou (ef q))->wv b6 w'->qy w' cs (zy y q) (ko y.m (ef q)).2->Z cs w')->
   κ prog 14 #[.pointer (some ⟨y.pp,0,none⟩),.agg q.cells.toArray] b6 (λv w'=>dq v λcs=>Z cs w') X:=λh dF=>Zj h.symm (by omega) (aC _ h.ex).2 ω λw' cs fU k r=>dF w' cs fU.symm k r
 have fin:∀{b6}{pM mE:Nat}{gA iR:ag},iP w0 b6 (x.ou (ef q)) (y.ou (ef q))->w0.heap.size<=pM->w0.heap.size<=mE->pM≠mE->Fr b6 pM->Fr b6 mE->qy b6 gA (zy x q) (ko x.m (ef q)).2->qy b6 iR (zy y q) (ko y.m (ef q)).2->
   ο (decide (gA.size=5)) (bG b6 ⟨pM,0,none⟩ gA.toList λaz=>
    ο (decide (iR.size=5)) (bG az ⟨mE,0,none⟩ iR.toList λaE=>gn.a1 (some a0) n c bT eX aT t9 (some ⟨x.pp,0,none⟩) t11 (some ⟨y.pp,0,none⟩) i pM mE i (decide ((i:Int)<60)) aE R a8)):=
  λh h1 ι aG cq db hy ih=>arV h h1 ι aG cq db hy ih λw' fU cG fM=>iS q w' _ _ aj fU cG fM
 have up:∀{b6:World}{b:Nat}{x y:One},iP w0 b6 x y->b6.heap.size<=b->w0.heap.size<=b:=λh ψ=>fY h.ex.size ψ;refine⟨q.cells.toArray,rfl,rd h,aW (by omega) (aW (by omega) ⟨q.cells.toArray,rfl,rd h,?_,?_,?_⟩)⟩
 ·refine lI h λγ gA h1 a1 j3=>aW rfl ⟨xz h1,?_,?_,?_⟩
  ·refine wL h1 λτ iR ι bP kg=>⟨?_,?_⟩
   ·refine o6 λb aa ad ψ f=>o6 λgL az aA jc h4=>?_;have bg:=f.lt;exact fin ((ι.to ad).to aA) (up ι ψ) (up (ι.to ad) jc) (by omega) (f.ex aA) h4 ((j3.dA bP).ex (ad.trans aA)) (kg.ex (ad.trans aA))
   ·refine o6 λb aa ad ψ f=>o6 λgL az aA jc h4=>?_;have bg:=f.lt;exact fin ((ι.to ad).to aA) (up (ι.to ad) jc) (up ι ψ) (by omega) h4 (f.ex aA) ((j3.dA bP).ex (ad.trans aA)) (kg.ex (ad.trans aA))
  ·refine o6 λb aa ad ψ f=>aW rfl ⟨xz (h1.to ad),?_,?_⟩
   ·refine wL (h1.to ad) λaz iR cq cz kg=>o6 λgL aE ak jc h4=>?_;have bg:=(f.dA cz).lt;exact fin (cq.to ak) (up h1 ψ) (up cq jc) (by omega) ((f.dA cz).ex ak) h4 (((j3.ex ad).dA cz).ex ak) (kg.ex ak)
   ·refine o6 λgL az aA jc h4=>aW rfl ⟨xz ((h1.to ad).to aA),?_⟩;have bg:=f.lt;refine wL ((h1.to ad).to aA) λaE iR db dN kg=>?_;exact fin db (up h1 ψ) (up (h1.to ad) jc) (by omega) ((f.ex aA).dA dN) (h4.dA dN) ((j3.ex (ad.trans aA)).dA dN) kg
  ·refine o6 λb aa ad ψ f=>aW rfl ⟨xz (h1.to ad),?_,?_⟩
   ·refine wL (h1.to ad) λaz iR cq cz kg=>o6 λgL aE ak jc h4=>?_;have bg:=(f.dA cz).lt;exact fin (cq.to ak) (up cq jc) (up h1 ψ) (by omega) h4 ((f.dA cz).ex ak) (((j3.ex ad).dA cz).ex ak) (kg.ex ak)
   ·refine o6 λgL az aA jc h4=>aW rfl ⟨xz ((h1.to ad).to aA),?_⟩;have bg:=f.lt;refine wL ((h1.to ad).to aA) λaE iR db dN kg=>?_;exact fin db (up (h1.to ad) jc) (up h1 ψ) (by omega) (h4.dA dN) ((f.ex aA).dA dN) ((j3.ex (ad.trans aA)).dA dN) kg
 ·refine o6 λb aa ad ψ f=>aW rfl ⟨rd (h.to ad),aW rfl ⟨rd (h.to ad),?_,?_⟩⟩
  ·refine lI (h.to ad) λaz gA cq cz j3=>aW rfl ⟨xz cq,?_,?_⟩
   ·refine wL cq λaE iR db dN kg=>o6 λgL ba aI jc h4=>?_;have bg:=((f.dA cz).dA dN).lt;exact fin (db.to aI) (up h ψ) (up db jc) (by omega) (((f.dA cz).dA dN).ex aI) h4 ((j3.dA dN).ex aI) (kg.ex aI)
   ·refine o6 λgL aE ak jc h4=>aW rfl ⟨xz (cq.to ak),?_⟩;have bg:=(f.dA cz).lt;refine wL (cq.to ak) λba iR hy ec kg=>?_;exact fin hy (up h ψ) (up cq jc) (by omega) (((f.dA cz).ex ak).dA ec) (h4.dA ec) ((j3.ex ak).dA ec) kg
  ·refine o6 λgL az aA jc h4=>aW rfl ⟨rd ((h.to ad).to aA),aW rfl ⟨rd ((h.to ad).to aA),?_⟩⟩;have bg:=f.lt;refine lI ((h.to ad).to aA) λaE gA db dN j3=>aW rfl ⟨xz db,?_⟩;refine wL db λba iR hy ec kg=>?_;exact fin hy (up h ψ) (up (h.to ad) jc) (by omega) (((f.ex aA).dA dN).dA ec) ((h4.dA dN).dA ec) (j3.dA ec) kg
 ·refine o6 λb aa ad ψ f=>aW rfl ⟨rd (h.to ad),aW rfl ⟨rd (h.to ad),?_,?_⟩⟩
  ·refine lI (h.to ad) λaz gA cq cz j3=>aW rfl ⟨xz cq,?_,?_⟩
   ·refine wL cq λaE iR db dN kg=>o6 λgL ba aI jc h4=>?_;have bg:=((f.dA cz).dA dN).lt;exact fin (db.to aI) (up db jc) (up h ψ) (by omega) h4 (((f.dA cz).dA dN).ex aI) ((j3.dA dN).ex aI) (kg.ex aI)
   ·refine o6 λgL aE ak jc h4=>aW rfl ⟨xz (cq.to ak),?_⟩;have bg:=(f.dA cz).lt;refine wL (cq.to ak) λba iR hy ec kg=>?_;exact fin hy (up cq jc) (up h ψ) (by omega) (h4.dA ec) (((f.dA cz).ex ak).dA ec) ((j3.ex ak).dA ec) kg
  ·refine o6 λgL az aA jc h4=>aW rfl ⟨rd ((h.to ad).to aA),aW rfl ⟨rd ((h.to ad).to aA),?_⟩⟩;have bg:=f.lt;refine lI ((h.to ad).to aA) λaE gA db dN j3=>aW rfl ⟨xz db,?_⟩;refine wL db λba iR hy ec kg=>?_;exact fin hy (up (h.to ad) jc) (up h ψ) (by omega) ((h4.dA dN).dA ec) (((f.ex aA).dA dN).dA ec) (j3.dA ec) kg
end
theorem ajN{w0:World}{p:J}{n:Nat}{ps:an}(c4:a7 w0 p (ps.map (Value.int .u8)))(ax:ps.length=n){j:Nat}(φ:j<n):∃x a,x∈ps/\p=some a/\∀b6,η w0 b6->b6.cell? (a.add j)=some (.int .u8 x):=by
 have sV:j<ps.length:=by omega
 have qM:(ps.map (Value.int .u8))[j]?=some (.int .u8 ps[j]):=by rw[List.getElem?_map,List.getElem?_eq_getElem sV];rfl
 obtain⟨a,M8,j3⟩:=c4.many qM;refine⟨ps[j],a,hF sV,M8,λb6 x=>?_⟩;obtain⟨fy,Zo,VF⟩:=(c4.ex x).many qM;rw[M8]at Zo;cases Zo;exact VF
structure Twin(x y:One)(ab d1 aX d2 N:Nat):Prop where
 m:x.m=y.m
 al:x.al=y.al
 Qp:x.pp=ab
 dT:x.pd=d1
 Qs:y.pp=aX
 WU:y.pd=d2
 Qo:x.n<=N
 Qr:y.n<=N
section
variable{w0 W:World}{x y:One}{ab d1 aX d2 N:Nat}
theorem Twin.ou(h:Twin x y ab d1 aX d2 N)(a:aR.Ask):Twin (x.ou a) (y.ou a) ab d1 aX d2 (N+5):=
 ⟨by show(ko x.m a).1=(ko y.m a).1;rw[h.m],by show xC x.al a=xC y.al a;rw[h.al],h.Qp,h.dT,h.Qs,h.WU,by have:=h.Qo;show x.n+5<=_;omega,by have:=h.Qr;show y.n+5<=_;omega⟩
theorem Twin.step(h:Twin x y ab d1 aX d2 N)(k:Int):Twin (x.step k) (y.step k) ab d1 aX d2 (N+2):=
 ⟨by show Ls k x.m=Ls k y.m;rw[h.m],h.al,h.Qp,h.dT,h.Qs,h.WU,by have:=h.Qo;show x.n+2<=_;omega,by have:=h.Qr;show y.n+2<=_;omega⟩
theorem Twin.more(h:Twin x y ab d1 aX d2 N){rn:Nat}(eG:N<=rn):Twin x y ab d1 aX d2 rn:=⟨h.m,h.al,h.Qp,h.dT,h.Qs,h.WU,fY h.Qo eG,fY h.Qr eG⟩
theorem o4.GB{b:Nat}{t:Int}{r:gS}(h:o4 W b t r):W.cell? (⟨b,0,none⟩:Addr)=some (.int .i64 t):=by obtain⟨B,dz,cU,dc,dD,dH,dJ,ε,mr⟩:=h;exact ε.at (j:=0) rfl
theorem o4.Yc{b:Nat}{t:Int}{r:gS}(h:o4 W b t r):W.cell? (⟨b,1,none⟩:Addr)=some (.int .i64 r.e):=by obtain⟨B,dz,cU,dc,dD,dH,dJ,ε,mr⟩:=h;exact ε.at (j:=1) rfl
theorem o4.Yd{b:Nat}{t:Int}{r:gS}(h:o4 W b t r):W.cell? (⟨b,2,none⟩:Addr)=some (.int .i64 r.id):=by obtain⟨B,dz,cU,dc,dD,dH,dJ,ε,mr⟩:=h;exact ε.at (j:=2) rfl
theorem o4.Ye{b:Nat}{t:Int}{r:gS}(h:o4 W b t r):∃dz cU dc,W.cell? (⟨b,3,none⟩:Addr)=some (.slice dz cU dc)/\r.bs.length=cU/\a7 W dz (r.bs.map (.int .u8)):=by
 obtain⟨B,dz,cU,dc,dD,dH,dJ,ε,mr⟩:=h;refine⟨dz,cU,dc,ε.at (j:=3) rfl,?_,mr.cells⟩
 have:=mr.1
 rw[sn]at this;omega
theorem aiD{b gL:Nat}{t:Int}{r:gS}(h:iP w0 W x y)(sk:Twin x y ab d1 aX d2 N)(eG:N<=100000)(v1:o4 W b t r)(v2:o4 W gL t r){p:J}{n c:Nat}{bT:J}{eX aT:Nat}{ps:an}(c4:a7 w0 bT (ps.map (Value.int .u8)))(ax:ps.length=eX)(hw:∀x∈ps,0<=x/\x<256){j:Nat}(φ:j<100000){R:aq}{t50:Int}{t51:Bool}{a8:J->Nat->Nat->J->Nat->Nat->J->J->J->J->Int->ao}
  (hC:∀w' sw wo,iP w0 w' sw wo->Twin sw wo ab d1 aX d2 (N+2)->a8 p n c bT eX aT (some ⟨d1,0,none⟩) (some ⟨ab,0,none⟩) (some ⟨d2,0,none⟩) (some ⟨aX,0,none⟩) (IntKind.i64.wrap ((j:Int)+1)) w'):
  gn.a1 p n c bT eX aT (some ⟨d1,0,none⟩) (some ⟨ab,0,none⟩) (some ⟨d2,0,none⟩) (some ⟨aX,0,none⟩) (j:Int) b gL t50 t51 W R a8:=by
 unfold gn.a1;refine⟨_,v1.Yc,_,v2.Yc,?_⟩;rw[cond_neg (by simp)];refine⟨_,v1.Yd,_,v2.Yd,?_⟩;rw[cond_neg (by simp)];refine⟨_,v1.GB,_,v2.GB,?_⟩;rw[cond_neg (by simp)];obtain⟨dz,cU,dc,g3,xc,bI⟩:=v1.Ye;obtain⟨akN,akA,akp,Bu,aph,ajP⟩:=v2.Ye;refine⟨_,_,_,g3,r.bs,xc,bI,_,_,_,Bu,r.bs,aph,ajP,?_⟩;rw[cond_neg (by simp)];refine bz (λeP=>?_) λeP=>hC W x y h (sk.more (by omega));have eP:=b7 eP;obtain⟨z,a,aL,rfl,υ⟩:=ajN c4 ax (j:=j) (by omega);have aL:=hw z aL;refine aW (by omega) (aW (by omega) ?_)
 try dsimp only[bk]
 rw[cy,ey];refine⟨z,υ W h.ex,?_⟩;have m4:Int.tmod z 4=z%4:=H9 aL.1;rw[m4,bY (x:=z%4) (by omega) (by omega),bY (x:=1+z%4) (by omega) (by omega)];obtain⟨hm,aP,rfl,rfl,rfl,rfl,I,ah⟩:=sk;refine Zk h (by omega) (pick:=1+z%4) (by omega) λγ h1 a1=>?_
 try dsimp only[bX]
 refine aW (by omega) (aW (by omega) ?_);refine⟨z,υ γ h1.ex,?_⟩;rw[m4,bY (x:=z%4) (by omega) (by omega),bY (x:=1+z%4) (by omega) (by omega)];refine Zk h1.symm (by omega) (pick:=1+z%4) (by omega) λτ ι bP=>?_
 try dsimp only[bX]
 exact hC τ _ _ ι.symm (Twin.step ⟨hm,aP,rfl,rfl,rfl,rfl,I,ah⟩ _)
theorem Xy(h:iP w0 W x y)(sk:Twin x y ab d1 aX d2 N):gn.bP (some ⟨d1,0,none⟩) (some ⟨d2,0,none⟩) W (χ λv w'=>v=.bool true/\η w0 w'):=by obtain⟨D,gj,I,ah,_⟩:=h;obtain⟨hm,aP,rfl,rfl,rfl,rfl,_,_⟩:=sk;have I:hq w0 W x.pp x.pd x.m x.al x.A x.n D:=I;have ah:hq w0 W y.pp y.pd y.m y.al y.A y.n gj:=ah;obtain⟨q,cZ,dp,c0,h1,_⟩:=I.is;obtain⟨oQ,rj,pC,tN,ι,_⟩:=ah.is;have ι:=ι.dev;rw[<-hm]at ι;exact aiE h1.dev ι I.ok.inv.dev I.ok.inv.off I.ex
end
theorem ajb(a b:Int)(p:J)(n c:Nat)(rows:List aU)(bT:J)(eX aT:Nat)(ps:an)(w:World)(aQ:0<=a/\a<256)(ψ:0<=b/\b<256)(aj:zr w rm 56 (lH w rm yW) p n c rows)(o:Ints .u8 w bT eX aT ps)(eC:aT*1<=140737488351232):
  gn.C a b p n c bT eX aT w (χ λv w'=>v=.bool true/\η w w'):=by
 obtain⟨ls,υ⟩:=Pj aj;have hw:∀x∈ps,0<=x/\x<256:=λx I=>Gl (o.wf x I);apply gn.ok;unfold gn.main;refine κ.use (Vn a b aQ ψ w) ?_;rintro _ γ ⟨rfl,ζ⟩
 try dsimp only[hx]
 refine κ.use (MG (s:=6+a%9) (k:=2+b%5) St γ) ?_;rintro _ aa ⟨Av,ON,eU,rfl,ej⟩
 try dsimp only[bX,cC,cD,bk,nc,mI,iY]
 refine κ.use (Vn a b aQ ψ aa) ?_;rintro _ aE ⟨rfl,ak⟩
 try dsimp only[hx]
 refine κ.use (MG (s:=6+a%9) (k:=2+b%5) St aE) ?_;rintro _ bm ⟨vR,E4,gj,rfl,eu⟩
 try dsimp only[bX,cC,cD,bk,nc,mI,iY]
 refine κ.use (ahh bm) ?_;rintro _ cf ⟨rfl,cm⟩
 try dsimp only[dE]
 have t1:=ej.tp;have ft:=ak.size;have JJ:oe eU gj:=λi h1 ι=>by
  have:=(t1.is.hL h1).2
  have:=eu.new i ι
  omega
 have X:=(ak.trans eu.ex).trans cm;have t1:=t1.to X;have t2:=eu.tp.to cm;have t1:hq w cf ON Av (xk (6+a%9) (2+b%5)) 0 (xj (6+a%9) (2+b%5)) 2 eU:=⟨t1.is,t1.ok,t1.al,λi o=>fY ζ.size (t1.new i o),ζ.trans t1.ex⟩;have t2:hq w cf E4 vR (xk (6+a%9) (2+b%5)) 0 (xj (6+a%9) (2+b%5)) 2 gj:=⟨t2.is,t2.ok,t2.al,λi o=>fY (fY (fY ζ.size ej.ex.size) ak.size) (t2.new i o),(ζ.trans (ej.ex.trans ak)).trans t2.ex⟩;have aD:iP w cf ⟨ON,Av,_,_,_,_⟩ ⟨E4,vR,_,_,_,_⟩:=⟨eU,gj,t1,t2,JJ⟩;unfold gn.bd;refine⟨λe8 e0 fN cR cM de t9 t10 t11 t12 t13 W=>p=e8/\n=e0/\c=fN/\bT=cR/\eX=cM/\aT=de/\some ⟨Av,0,none⟩=t9/\some ⟨ON,0,none⟩=t10/\some ⟨vR,0,none⟩=t11/\some ⟨E4,0,none⟩=t12/\0<=t13/\t13<=60/\∃x y,iP w W x y/\Twin x y ON Av E4 vR (10+10*t13.toNat),λ_ _ _ _ _ _ _ _ _ _ t13 _=>(60-t13).toNat,⟨rfl,rfl,rfl,rfl,rfl,rfl,rfl,rfl,rfl,rfl,by omega,by omega,_,_,aD,⟨rfl,rfl,rfl,rfl,rfl,rfl,by show(2:Nat)<=_;omega,by show(2:Nat)<=_;omega⟩⟩,?_⟩;clear aD t1 t2;rintro _ _ _ _ _ _ _ _ _ _ t13 W ⟨rfl,rfl,rfl,rfl,rfl,rfl,rfl,rfl,rfl,rfl,g0,g1,x,y,h,sk⟩;obtain⟨j,rfl⟩:=eH g0;rw[cy]at sk;by_cases φ:(j:Int)<(n:Int)
 rotate_left
 ·unfold gn.δ;rw[cond_neg (by simpa using φ)];exact Xy h sk
 by_cases hk:(j:Int)<60
 rotate_left
 ·unfold gn.δ;rw[cond_pos (by simpa using φ),cond_neg (by simpa using hk)];exact Xy h sk
 have Kl:=sk.Qo;have T6:=sk.Qr;have aoU:=sk.Qp;have hyp:=sk.Qs;subst aoU hyp;refine avm h (by omega) (by omega) υ (i:=j) (by omega) (by omega) λq w' pM mE aC fU cG fM=>?_
 ·have avk:=sk.ou (ef q);have qK:zy y q=zy x q:=by unfold zy;rw[sk.al]
  rw[qK,<-sk.m]at fM;refine aiD fU avk (by omega) cG fM o.cells o.size hw (by omega) λτ σ gy ι avl=>?_;have aO:((j:Int)+1).toNat=j+1:=by omega
  rw[bY (x:=(j:Int)+1) (by omega) (by omega)];refine⟨⟨rfl,rfl,rfl,rfl,rfl,rfl,rfl,rfl,rfl,rfl,by omega,by omega,σ,gy,ι,?_⟩,by((try dsimp only);omega)⟩;rw[aO];exact avl.more (by omega)
end Go.Proofs.YtcpdfhkhaekekaaGreat.G.eb

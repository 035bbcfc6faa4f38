/- The walk of the functions, and the plain laws of the model: part of the proof. Conditions: none. -/
import Derived.Test.YtcpdfhkhaekekaaGreatA5
set_option linter.unusedVariables false
set_option linter.unusedSimpArgs false
namespace Go.Proofs.YtcpdfhkhaekekaaGreat.G
open Tryz
open Go.bO
set_option maxRecDepth 100000
def tm.δ(t0:J)(t1:Int)(e7:J)(eV fi:Nat)(t39 t40:Int)(w:World)(R:aq)(a8:J->Int->J->Nat->Nat->Int->Int->ao):Prop:=
 cond (decide (t40<t39)) (
  κ prog 23 #[.pointer t0,(IntKind.i64.wrap ((IntKind.i64.wrap (t1+1))+t40))] w (λv9 b5=>
   b0 v9 λhY=>
   ξ (hY[0]?) λv10=>
   cN v10 λaX bu c2=>
   ξ (hY[1]?) λv11=>
   br .i64 v11 λaI=>
   cond (aI !=0) (
    R (.returned (.tuple #[.slice none 0 0,aI])) b5) (
    aN b5 #[.slice aX bu c2] 34 λθ c6=>
    gK c6 e7 eV fi 1 (a7 c6 (some ⟨θ,0,none⟩)) 34 1 24 #[.slice none 0 0] λbh bI cA=>
    a8 t0 t1 bh (eV+1) bI t39 (IntKind.i64.wrap (t40+1)) cA)) (au R)) (
  R (.returned (.tuple #[.slice e7 eV fi,(0:Int)])) w)
def tm.bd:=Ev tm.δ
def tm.main(a0:J)(ar:Int)(w:World)(R:aq):Prop:=
 κ prog 23 #[.pointer a0,ar] w (λv1 γ=>
  b0 v1 λbN=>
  ξ (bN[0]?) λv2=>
  cN v2 λab ay c1=>
  ξ (bN[1]?) λv3=>
  br .i64 v3 λζ=>
  cond (ζ !=0) (
   R (.returned (.tuple #[.slice none 0 0,ζ])) γ) (
   κ prog 146 #[.slice ab ay c1] γ (λv4 aa=>
    b0 v4 λeI=>
    ξ (eI[0]?) λv5=>
    br .i64 v5 λσ=>
    ξ (eI[1]?) λv6=>
    br .i64 v6 λad=>
    ξ (eI[2]?) λfJ=>
    br .i64 fJ λaA=>
    cond (aA !=0) (
     R (.returned (.tuple #[.slice none 0 0,(0:Int)])) aa) (
     κ prog 100 #[ad] aa (λbj aE=>
      br .i64 bj λak=>
      cond (ak !=ar) (
       R (.returned (.tuple #[.slice none 0 0,(0:Int)])) aE) (
       aN aE #[.slice ab ay c1] 34 λδ bm=>
       tm.bd a0 ar (some ⟨δ,0,none⟩) 1 1 σ 0 bm R)) (au R))) (au R))) (au R)
abbrev tm.C(a0:J)(ar:Int):=Calls prog 106 #[.pointer a0,ar]
theorem tm.ok:jL tm.main tm.C:=λ{_ _ _ R}h=>fc func106 [.tmp 4,.tmp 5] 61 (.seq .leaf (.seq .leaf (.seq .leaf (.seq .leaf (.seq .leaf (.seq .leaf (.seq (.seq .leaf (.block (.loop [(0,.ptr),(1,.int .i64),(10,.slice),(39,.int .i64),(40,.int .i64)] (tm.bd · · · · · · · · R) λa8=>.leaf))) .leaf))))))) h
def oJ.a1(cb:J)(b8 ck t2 t3 t6:Nat)(jk:J)(hX iV:Nat)(w:World)(R:aq):Prop:=
 ∃ak,w.cell? ⟨t6,1,none⟩=some (.int .i64 ak)/\
 (∃aI,w.cell? ⟨t6,2,none⟩=some (.int .i64 aI)/\
  (aN w #[(0:Int),(0:Int)] 28 λc8 eJ=>
   bG eJ ⟨c8,0,none⟩ [(.int .i64 ak),(.int .i64 aI)] λhZ=>
   (∃(Ry:ag),Ry.size=2/\aw hZ ⟨c8,0,none⟩ Ry.toList/\
    (κ prog 149 #[.slice jk hX iV,.agg Ry] hZ (λfJ fw=>
     b0 fJ λhY=>
     ξ (hY[0]?) λbj=>
     dq bj λY0=>
     ξ (hY[1]?) λv9=>
     dw v9 λfq=>
     aN fw #[(0:Int),(0:Int),(0:Int),(0:Int),(0:Int),(0:Int),(0:Int),(0:Int),(0:Int),(0:Int),(0:Int),(0:Int),(0:Int),(0:Int),(0:Int),(0:Int),.slice none 0 0,.slice none 0 0,.slice none 0 0,.slice none 0 0,.slice none 0 0,.slice none 0 0,.slice none 0 0,.slice none 0 0] 89 λiv gi=>
     ο (decide (Y0.size=24)) (
      bG gi ⟨iv,0,none⟩ Y0.toList λh0=>
      (cond (!fq) (
       ∃(MS:ag),MS.size=24/\aw h0.drew ⟨t2,0,none⟩ MS.toList/\
       (∃(GH:ag),GH.size=2/\aw h0.drew ⟨t3,0,none⟩ GH.toList/\
        (ο (decide (MS.size=24)) (
          bG h0.drew ⟨t2,0,none⟩ MS.toList λhP=>
          (ο (decide (GH.size=2)) (
           aw hP ⟨t3,0,none⟩ GH.toList/\
           (ο (decide (GH.size=2)) (
           bG hP ⟨t3,0,none⟩ GH.toList λkR=>
           (∃(Rz:ag),Rz.size=24/\aw kR ⟨t2,0,none⟩ Rz.toList/\
           (∃(RA:ag),RA.size=2/\aw kR ⟨t3,0,none⟩ RA.toList/\
           (R (.returned (.tuple #[.agg Rz,.agg RA,(0:Int),(11:Int)])) kR))))))))))) (
       ∃(RB:ag),RB.size=24/\aw h0 ⟨iv,0,none⟩ RB.toList/\
       (∃(RC:ag),RC.size=2/\aw h0 ⟨c8,0,none⟩ RC.toList/\
        (∃aV,h0.cell? ⟨t6,0,none⟩=some (.int .i64 aV)/\
         (κ prog 99 #[.agg RB,.agg RC,aV] h0 (λv10 j6=>
           b0 v10 λmz=>
           ξ (mz[0]?) λv11=>
           cN v11 λfH jg iC=>
           ξ (mz[1]?) λv12=>
           br .i64 v12 λcg=>
           cond (cg !=0) (
           ∃(MT:ag),MT.size=24/\aw j6.drew ⟨t2,0,none⟩ MT.toList/\
           (∃(GI:ag),GI.size=2/\aw j6.drew ⟨t3,0,none⟩ GI.toList/\
           (ο (decide (MT.size=24)) (
           bG j6.drew ⟨t2,0,none⟩ MT.toList λu5=>
           (ο (decide (GI.size=2)) (
           aw u5 ⟨t3,0,none⟩ GI.toList/\
           (ο (decide (GI.size=2)) (
           bG u5 ⟨t3,0,none⟩ GI.toList λra=>
           (∃(RD:ag),RD.size=24/\aw ra ⟨t2,0,none⟩ RD.toList/\
           (∃(RE:ag),RE.size=2/\aw ra ⟨t3,0,none⟩ RE.toList/\
           (R (.returned (.tuple #[.agg RD,.agg RE,(0:Int),(11:Int)])) ra))))))))))) (
           κ prog 150 #[.slice fH jg iC,.slice cb b8 ck,.func (.func 151) #[] #[]] j6 (λny iz=>
           dw ny λpL=>
           cond (!pL) (
           ∃(MU:ag),MU.size=24/\aw iz.drew ⟨t2,0,none⟩ MU.toList/\
           (∃(GJ:ag),GJ.size=2/\aw iz.drew ⟨t3,0,none⟩ GJ.toList/\
           (ο (decide (MU.size=24)) (
           bG iz.drew ⟨t2,0,none⟩ MU.toList λo2=>
           (ο (decide (GJ.size=2)) (
           aw o2 ⟨t3,0,none⟩ GJ.toList/\
           (ο (decide (GJ.size=2)) (
           bG o2 ⟨t3,0,none⟩ GJ.toList λmA=>
           (∃(RF:ag),RF.size=24/\aw mA ⟨t2,0,none⟩ RF.toList/\
           (∃(RG:ag),RG.size=2/\aw mA ⟨t3,0,none⟩ RG.toList/\
           (R (.returned (.tuple #[.agg RF,.agg RG,(0:Int),(11:Int)])) mA))))))))))) (
           ∃(MV:ag),MV.size=24/\aw iz.drew ⟨iv,0,none⟩ MV.toList/\
           (∃(GK:ag),GK.size=2/\aw iz.drew ⟨c8,0,none⟩ GK.toList/\
           (∃cm,iz.drew.cell? ⟨t6,0,none⟩=some (.int .i64 cm)/\
           (ο (decide (MV.size=24)) (
           bG iz.drew ⟨t2,0,none⟩ MV.toList λqp=>
           (qp.cell? ⟨t6,0,none⟩=some (.int .i64 cm)/\
           (ο (decide (GK.size=2)) (
           aw qp ⟨c8,0,none⟩ GK.toList/\
           (ο (decide (GK.size=2)) (
           bG qp ⟨t3,0,none⟩ GK.toList λqq=>
           (qq.cell? ⟨t6,0,none⟩=some (.int .i64 cm)/\
           (∃(RH:ag),RH.size=24/\aw qq ⟨t2,0,none⟩ RH.toList/\
           (∃(RI:ag),RI.size=2/\aw qq ⟨t3,0,none⟩ RI.toList/\
           (R (.returned (.tuple #[.agg RH,.agg RI,cm,(0:Int)])) qq))))))))))))))) (au R))) (au R)))))))) (au R)))))
def oJ.δ(cb:J)(b8 ck t2 t3 t6:Nat)(jk:J)(hX iV:Nat)(LL:J)(LK PO:Nat)(t47 t48:Int)(w:World)(R:aq)(a8:J->Nat->Nat->Nat->Nat->Nat->J->Nat->Nat->J->Nat->Nat->Int->Int->ao):Prop:=
 cond (decide (t48<t47)) (
  ο (decide (0<=t48)) (
   ο (decide (t48<((LK:Nat):Int))) (
    ξ LL λd2=>
    ∃aX bu c2,w.cell? (d2.add (t48.toNat*1))=some (.slice aX bu c2)/\
    (κ prog 148 #[.slice aX bu c2] w (λv4 eA=>
     b0 v4 λeI=>
     ξ (eI[0]?) λv5=>
     cN v5 λbh dB bI=>
     ξ (eI[1]?) λv6=>
     br .i64 v6 λσ=>
     cond (σ !=0) (
      ∃(mc:ag),mc.size=24/\aw eA.drew ⟨t2,0,none⟩ mc.toList/\
      (∃(ue:ag),ue.size=2/\aw eA.drew ⟨t3,0,none⟩ ue.toList/\
       (ο (decide (mc.size=24)) (
        bG eA.drew ⟨t2,0,none⟩ mc.toList λga=>
        (ο (decide (ue.size=2)) (
          aw ga ⟨t3,0,none⟩ ue.toList/\
          (ο (decide (ue.size=2)) (
           bG ga ⟨t3,0,none⟩ ue.toList λfO=>
           (∃(yb:ag),yb.size=24/\aw fO ⟨t2,0,none⟩ yb.toList/\
           (∃(Dn:ag),Dn.size=2/\aw fO ⟨t3,0,none⟩ Dn.toList/\
           (R (.returned (.tuple #[.agg yb,.agg Dn,(0:Int),(11:Int)])) fO))))))))))) (
      ο (decide (5<((dB:Nat):Int))) (
       ξ bh λd3=>
       ∃ad,eA.cell? (d3.add 5)=some (.int .u8 ad)/\
       (cond (decide (ad>52)) (
        ∃(zF:ag),zF.size=24/\aw eA.drew ⟨t2,0,none⟩ zF.toList/\
        (∃(uf:ag),uf.size=2/\aw eA.drew ⟨t3,0,none⟩ uf.toList/\
         (ο (decide (zF.size=24)) (
           bG eA.drew ⟨t2,0,none⟩ zF.toList λfE=>
           (ο (decide (uf.size=2)) (
           aw fE ⟨t3,0,none⟩ uf.toList/\
           (ο (decide (uf.size=2)) (
           bG fE ⟨t3,0,none⟩ uf.toList λeD=>
           (∃(Dp:ag),Dp.size=24/\aw eD ⟨t2,0,none⟩ Dp.toList/\
           (∃(Dq:ag),Dq.size=2/\aw eD ⟨t3,0,none⟩ Dq.toList/\
           (R (.returned (.tuple #[.agg Dp,.agg Dq,(0:Int),(11:Int)])) eD))))))))))) (
        ο (decide (5<((dB:Nat):Int))) (
         ξ bh λd4=>
         ∃aA,eA.cell? (d4.add 5)=some (.int .u8 aA)/\
         (ο (decide (0<=(IntKind.u8.wrap (6+aA)))) (
           ο (decide ((IntKind.u8.wrap (6+aA))<=((bI:Nat):Int))) (
           ο (decide (6<=(((IntKind.u8.wrap (6+aA)).toNat:Nat):Int))) (
           gK eA jk hX iV ((IntKind.u8.wrap (6+aA)).toNat-6) (a7 eA (du bh bI 6 1)) 5 1 1 #[.int .u8 0] λeg hs fv=>
           a8 cb b8 ck t2 t3 t6 eg (hX+((IntKind.u8.wrap (6+aA)).toNat-6)) hs LL LK PO t47 (IntKind.i64.wrap (t48+1)) fv)))))))))) (au R))))) (
  oJ.a1 cb b8 ck t2 t3 t6 jk hX iV w R)
def oJ.bd:=apA oJ.δ
def oJ.main(bC:J)(aY bx:Nat)(w:World)(R:aq):Prop:=
 aN w #[(0:Int),(0:Int),(0:Int),(0:Int),(0:Int),(0:Int),(0:Int),(0:Int),(0:Int),(0:Int),(0:Int),(0:Int),(0:Int),(0:Int),(0:Int),(0:Int),.slice none 0 0,.slice none 0 0,.slice none 0 0,.slice none 0 0,.slice none 0 0,.slice none 0 0,.slice none 0 0,.slice none 0 0] 89 λδ γ=>
 aN γ #[(0:Int),(0:Int)] 28 λθ τ=>
 cond (((aY:Nat):Int)==0) (
  ∃(aK:ag),aK.size=24/\aw τ.drew ⟨δ,0,none⟩ aK.toList/\
  (∃(bF:ag),bF.size=2/\aw τ.drew ⟨θ,0,none⟩ bF.toList/\
   (ο (decide (aK.size=24)) (
     bG τ.drew ⟨δ,0,none⟩ aK.toList λaa=>
     (ο (decide (bF.size=2)) (
       aw aa ⟨θ,0,none⟩ bF.toList/\
       (ο (decide (bF.size=2)) (
         bG aa ⟨θ,0,none⟩ bF.toList λaz=>
         (∃(bZ:ag),bZ.size=24/\aw az ⟨δ,0,none⟩ bZ.toList/\
          (∃(bW:ag),bW.size=2/\aw az ⟨θ,0,none⟩ bW.toList/\
           (R (.returned (.tuple #[.agg bZ,.agg bW,(0:Int),(11:Int)])) az))))))))))) (
  cond (decide (((aY:Nat):Int)>12)) (
   ∃(cE:ag),cE.size=24/\aw τ.drew ⟨δ,0,none⟩ cE.toList/\
   (∃(dM:ag),dM.size=2/\aw τ.drew ⟨θ,0,none⟩ dM.toList/\
    (ο (decide (cE.size=24)) (
      bG τ.drew ⟨δ,0,none⟩ cE.toList λaE=>
      (ο (decide (dM.size=2)) (
        aw aE ⟨θ,0,none⟩ dM.toList/\
        (ο (decide (dM.size=2)) (
          bG aE ⟨θ,0,none⟩ dM.toList λba=>
          (∃(gv:ag),gv.size=24/\aw ba ⟨δ,0,none⟩ gv.toList/\
           (∃(gM:ag),gM.size=2/\aw ba ⟨θ,0,none⟩ gM.toList/\
            (R (.returned (.tuple #[.agg gv,.agg gM,(0:Int),(11:Int)])) ba))))))))))) (
   ο (decide (0<((aY:Nat):Int))) (
    ξ bC λd1=>
    ∃ab ay c1,τ.cell? d1=some (.slice ab ay c1)/\
    (κ prog 147 #[.slice ab ay c1] τ (λv1 bm=>
      b0 v1 λbN=>
      ξ (bN[0]?) λv2=>
      dq v2 λgN=>
      ξ (bN[1]?) λv3=>
      dw v3 λaF=>
      aN bm #[(0:Int),(0:Int),(0:Int),(0:Int),(0:Int)] 234 λae cf=>
      ο (decide (gN.size=5)) (
       bG cf ⟨ae,0,none⟩ gN.toList λc6=>
       (cond (!aF) (
         ∃(iE:ag),iE.size=24/\aw c6.drew ⟨δ,0,none⟩ iE.toList/\
         (∃(jB:ag),jB.size=2/\aw c6.drew ⟨θ,0,none⟩ jB.toList/\
          (ο (decide (iE.size=24)) (
            bG c6.drew ⟨δ,0,none⟩ iE.toList λcA=>
            (ο (decide (jB.size=2)) (
             aw cA ⟨θ,0,none⟩ jB.toList/\
             (ο (decide (jB.size=2)) (
             bG cA ⟨θ,0,none⟩ jB.toList λcn=>
             (∃(kJ:ag),kJ.size=24/\aw cn ⟨δ,0,none⟩ kJ.toList/\
             (∃(mF:ag),mF.size=2/\aw cn ⟨θ,0,none⟩ mF.toList/\
             (R (.returned (.tuple #[.agg kJ,.agg mF,(0:Int),(11:Int)])) cn))))))))))) (
         ∃ζ,c6.cell? ⟨ae,3,none⟩=some (.int .i64 ζ)/\
         (cond (ζ !=(IntKind.i64.wrap (((aY:Nat):Int)-1))) (
           ∃(mG:ag),mG.size=24/\aw c6.drew ⟨δ,0,none⟩ mG.toList/\
           (∃(jO:ag),jO.size=2/\aw c6.drew ⟨θ,0,none⟩ jO.toList/\
            (ο (decide (mG.size=24)) (
             bG c6.drew ⟨δ,0,none⟩ mG.toList λdn=>
             (ο (decide (jO.size=2)) (
             aw dn ⟨θ,0,none⟩ jO.toList/\
             (ο (decide (jO.size=2)) (
             bG dn ⟨θ,0,none⟩ jO.toList λdX=>
             (∃(j0:ag),j0.size=24/\aw dX ⟨δ,0,none⟩ j0.toList/\
             (∃(mb:ag),mb.size=2/\aw dX ⟨θ,0,none⟩ mb.toList/\
             (R (.returned (.tuple #[.agg j0,.agg mb,(0:Int),(11:Int)])) dX))))))))))) (
           ο (decide (1<=((aY:Nat):Int))) (
            oJ.bd bC aY bx δ θ ae none 0 0 (du bC bx 1 1) (aY-1) (bx-1) (((aY-1):Nat):Int) 0 c6 R))))))) (au R)))))
abbrev oJ.C(bC:J)(aY bx:Nat):=Calls prog 107 #[.slice bC aY bx]
theorem oJ.ok:iB oJ.main oJ.C:=λ{_ _ _ _ R}h=>fc func107 [.cell 2 89,.cell 3 28,.tmp 4,.tmp 5] 113 (.seq .leaf (.seq .leaf (.seq .leaf (.seq .leaf (.seq .leaf (.cut [(0,.slice),(2,.cY),(3,.cY),(6,.cY),(8,.slice)] (oJ.a1 · · · · · · · · · · R) (.seq .leaf (.block (.loop [(0,.slice),(2,.cY),(3,.cY),(6,.cY),(8,.slice),(46,.slice),(47,.int .i64),(48,.int .i64)] (oJ.bd · · · · · · · · · · · · · · · R) λa8=>.leaf))) .leaf)))))) h
def pv.a1(cb:J)(b8 ck:Nat)(t1 t2:Int)(e7:J)(eV fi:Nat)(w:World)(R:aq):Prop:=
 κ prog 153 #[t1,t2,.slice e7 eV fi] w (λfJ cf=>
  b0 fJ λhY=>
  ξ (hY[0]?) λbj=>
  cN bj λbh bu bI=>
  ξ (hY[1]?) λv9=>
  br .i64 v9 λaI=>
  cond (aI==0) (
   κ prog 154 #[.slice bh bu bI,.slice cb b8 ck] cf (λv10 cA=>
    dw v10 λaF=>
    R (.returned (.tuple #[.slice e7 eV fi,.bool aF])) cA) (au R)) (
   R (.returned (.tuple #[.slice e7 eV fi,.bool false])) cf)) (au R)
def pv.δ(cb:J)(b8 ck:Nat)(t1 t2:Int)(jk:J)(hX iV:Nat)(e7:J)(eV fi:Nat)(t37 t38:Int)(w:World)(R:aq)(a8:J->Nat->Nat->Int->Int->J->Nat->Nat->J->Nat->Nat->Int->Int->ao):Prop:=
 cond (decide (t38<t37)) (
  ο (decide (0<=(IntKind.i64.wrap ((IntKind.i64.wrap (6+(IntKind.i64.wrap (5*t38))))+5)))) (
   ο (decide ((IntKind.i64.wrap ((IntKind.i64.wrap (6+(IntKind.i64.wrap (5*t38))))+5))<=((iV:Nat):Int))) (
    ο (decide (0<=(IntKind.i64.wrap (6+(IntKind.i64.wrap (5*t38)))))) (
     ο (decide ((IntKind.i64.wrap (6+(IntKind.i64.wrap (5*t38))))<=(((IntKind.i64.wrap ((IntKind.i64.wrap (6+(IntKind.i64.wrap (5*t38))))+5)).toNat:Nat):Int))) (
      κ prog 152 #[.slice (du jk iV ((IntKind.i64.wrap (6+(IntKind.i64.wrap (5*t38)))).toNat) 1) ((IntKind.i64.wrap ((IntKind.i64.wrap (6+(IntKind.i64.wrap (5*t38))))+5)).toNat-(IntKind.i64.wrap (6+(IntKind.i64.wrap (5*t38)))).toNat) (iV-(IntKind.i64.wrap (6+(IntKind.i64.wrap (5*t38)))).toNat)] w (λv4 aa=>
       b0 v4 λeI=>
       ξ (eI[0]?) λv5=>
       dq v5 λaK=>
       ξ (eI[1]?) λv6=>
       br .i64 v6 λak=>
       aN aa #[(0:Int),(0:Int),(0:Int),(0:Int),.complex .f64 0 0] 155 λδ aE=>
       ο (decide (aK.size=5)) (
        bG aE ⟨δ,0,none⟩ aK.toList λba=>
        (cond (ak !=0) (
         R (.returned (.tuple #[.slice none 0 0,.bool false])) ba) (
         ∃(bF:ag),bF.size=5/\aw ba ⟨δ,0,none⟩ bF.toList/\
         (ξ (Instr.fill (λi=>some (i*5,5)) (madeCells #[(0:Int),(0:Int),(0:Int),(0:Int),.complex .f64 0 0] (1*5)) [(0,(.agg bF))]) λbZ=>
          aN ba bZ 155 λθ bm=>
          gK bm e7 eV fi 1 (a7 bm (some ⟨θ,0,none⟩)) 155 5 48 #[(0:Int),(0:Int),(0:Int),(0:Int),.complex .f64 0 0] λaX c2 b5=>
          a8 cb b8 ck t1 t2 jk hX iV aX (eV+1) c2 t37 (IntKind.i64.wrap (t38+1)) b5))))) (au R)))))) (
  pv.a1 cb b8 ck t1 t2 e7 eV fi w R)
def pv.bd:=Oi pv.δ
def pv.main(bC:J)(aY bx:Nat)(ar a2:Int)(w:World)(R:aq):Prop:=
 κ prog 148 #[.slice bC aY bx] w (λv1 γ=>
  b0 v1 λbN=>
  ξ (bN[0]?) λv2=>
  cN v2 λab ay c1=>
  ξ (bN[1]?) λv3=>
  br .i64 v3 λζ=>
  cond (ζ !=0) (
   R (.returned (.tuple #[.slice none 0 0,.bool false])) γ) (
   ο (decide (5<((ay:Nat):Int))) (
    ξ ab λd1=>
    ∃σ,γ.cell? (d1.add 5)=some (.int .u8 σ)/\
    (cond (decide (σ<1)) (
     R (.returned (.tuple #[.slice none 0 0,.bool false])) γ) (
     ο (decide (5<((ay:Nat):Int))) (
      ξ ab λd2=>
      ∃ad,γ.cell? (d2.add 5)=some (.int .u8 ad)/\
      (cond (decide (ad>6)) (
       R (.returned (.tuple #[.slice none 0 0,.bool false])) γ) (
       ο (decide (5<((ay:Nat):Int))) (
        ξ ab λd3=>
        ∃aA,γ.cell? (d3.add 5)=some (.int .u8 aA)/\
        (pv.bd bC aY bx ar a2 ab ay c1 none 0 0 (IntKind.i64.wrap aA) 0 γ R)))))))))) (au R)
abbrev pv.C(bC:J)(aY bx:Nat)(ar a2:Int):=Calls prog 108 #[.slice bC aY bx,ar,a2]
theorem pv.ok:wz pv.main pv.C:=λ{_ _ _ _ _ _ R}h=>fc func108 [.tmp 6,.tmp 7] 76 (.seq .leaf (.seq .leaf (.seq .leaf (.seq .leaf (.cut [(0,.slice),(1,.int .i64),(2,.int .i64),(10,.slice)] (pv.a1 · · · · · · · · · R) (.seq .leaf (.block (.loop [(0,.slice),(1,.int .i64),(2,.int .i64),(8,.slice),(10,.slice),(37,.int .i64),(38,.int .i64)] (pv.bd · · · · · · · · · · · · · · R) λa8=>.leaf))) .leaf))))) h
def kv.θ(t3:Option Nat)(t4:Int)(t10:ag)(t11:Int)(sj:J)(si uX:Nat)(t16 t17:Int)(w:World)(R:aq)(a8:Option Nat->ag->Int->ao)(hJ:Option Nat->Int->ag->Int->J->Nat->Nat->Int->Int->ao):Prop:=
 cond (decide (t17<t16)) (
  ο (decide (0<=t17)) (
   ο (decide (t17<((si:Nat):Int))) (
    ξ sj λd1=>
    ∃cG m1,w.cell? (d1.add (t17.toNat*1))=some (.complex .f64 cG m1)/\
    (cond (!(ek .eql cG 13830554455654793216&&ek .eql m1 0)) (
     aN w #[t4,t17] 221 λaF aa=>
     ξ t3 λae=>
     Om prog aa ae cG m1 213 (.slice none 0 0) λv2 st1 az=>
     cN v2 λaX bu c2=>
     gK az aX bu c2 1 (a7 az (some ⟨aF,0,none⟩)) 221 2 16 #[(0:Int),(0:Int)] λbh bI aE=>
     ξ t3 λc8=>
     On aE c8 st1 (.slice bh (bu+1) bI) λba=>
     hJ t3 t4 t10 t11 sj si uX t16 (IntKind.i64.wrap (t17+1)) ba) (
     hJ t3 t4 t10 t11 sj si uX t16 (IntKind.i64.wrap (t17+1)) w))))) (
  a8 t3 t10 (IntKind.i64.wrap (t11+1)) w)
def kv.fG:=apC kv.θ
def kv.δ(t3:Option Nat)(t10:ag)(t11:Int)(w:World)(R:aq)(a8:Option Nat->ag->Int->ao):Prop:=
 cond (decide (t11<8)) (
  ο (decide (0<=t11)) (
   ο (decide (t11<(8:Int))) (
    ξ (t10[(t11.toNat*1)]?) λv1=>
    cN v1 λab ay c1=>
    kv.fG t3 t11 t10 t11 ab ay c1 ((ay:Nat):Int) 0 w R a8))) (
  R (.returned (.map t3)) w)
def kv.bd:=Hx kv.δ
def kv.main(a0:ag)(w:World)(R:aq):Prop:=
 aN w a0 89 λδ γ=>
 aci γ λθ τ=>
 ∃(aK:ag),aK.size=8/\aw τ ⟨δ,16,none⟩ aK.toList/\
 (kv.bd (some θ) aK 0 τ R)
abbrev kv.C(a0:ag):=Calls prog 110 #[.agg a0]
theorem kv.ok:ic kv.main kv.C:=λ{_ _ R}h=>fc func110 [.tmp 2] 37 (.seq .leaf (.seq .leaf (.seq (.seq .leaf (.block (.loop [(3,.map),(10,.agg),(11,.int .i64)] (kv.bd · · · · R) λa8=>(.seq .leaf (.seq .leaf (.seq (.block (.seq .leaf (.seq .leaf (.block (.loop [(3,.map),(4,.int .i64),(10,.agg),(11,.int .i64),(15,.slice),(16,.int .i64),(17,.int .i64)] (kv.fG · · · · · · · · · · R a8) λhJ=>.leaf))))) .leaf)))))) .leaf))) h
def uV.δ(cb:J)(b8 ck:Nat)(t1 t7 t8:Int)(w:World)(R:aq)(a8:J->Nat->Nat->Int->Int->Int->ao):Prop:=
 cond (decide (t8<t7)) (
  ο (decide (0<=t8)) (
   ο (decide (t8<((b8:Nat):Int))) (
    ξ cb λd1=>
    ∃ζ,w.cell? (d1.add (t8.toNat*1))=some (.int .i64 ζ)/\
    (cond (t1==ζ) (
     R (.returned (.int .i64 t8)) w) (
     a8 cb b8 ck t1 t7 (IntKind.i64.wrap (t8+1)) w))))) (
  R (.returned (.int .i64 (-1))) w)
def uV.bd:=ph uV.δ
def uV.main(bC:J)(aY bx:Nat)(ar:Int)(w:World)(R:aq):Prop:=
 uV.bd bC aY bx ar ((aY:Nat):Int) 0 w R
abbrev uV.C(bC:J)(aY bx:Nat)(ar:Int):=Calls prog 111 #[.slice bC aY bx,ar]
theorem uV.ok:kT uV.main uV.C:=λ{_ _ _ _ _ R}h=>fc func111 [.tmp 4] 19 (.seq .leaf (.seq (.seq .leaf (.block (.loop [(0,.slice),(1,.int .i64),(7,.int .i64),(8,.int .i64)] (uV.bd · · · · · · · R) λa8=>.leaf))) .leaf)) h
def yf.main(a0 ar a2:Int)(w:World)(R:aq):Prop:=
 cond (decide (a0>=ar)) (
  R (.returned (.bool (decide (a0<a2)))) w) (
  R (.returned (.bool false)) w)
abbrev yf.C(a0 ar a2:Int):=Calls prog 112 #[a0,ar,a2]
theorem yf.ok:iB yf.main yf.C:=λh=>dg func112 [.tmp 6] 15 h
def uU.main(bC:J)(aY bx:Nat)(ar:Value)(w:World)(R:aq):Prop:=
 κ prog 131 #[.slice bC aY bx,ar] w (λv1 γ=>
  br .i64 v1 λζ=>
  R (.returned (.bool (decide (ζ>=0)))) γ) (au R)
abbrev uU.C(bC:J)(aY bx:Nat)(ar:Value):=Calls prog 113 #[.slice bC aY bx,ar]
theorem uU.ok:kT uU.main uU.C:=λh=>dg func113 [.tmp 4] 9 h
def Dx.main(jn jA:Nat)(w:World)(R:aq):Prop:=
 cond (!(ek .eql jn 13830554455654793216&&ek .eql jA 0)) (
  κ prog 115 #[.complex .f64 jn jA] w (λv1 γ=>
   dw v1 λδ=>
   R (.returned (.bool (!δ))) γ) (au R)) (
  R (.returned (.bool false)) w)
abbrev Dx.C(jn jA:Nat):=Calls prog 114 #[.complex .f64 jn jA]
theorem Dx.ok:jL Dx.main Dx.C:=λh=>dg func114 [.tmp 2] 10 h
def x6.main(jn jA:Nat)(w:World)(R:aq):Prop:=
 κ prog 157 #[.float .f64 jn,(24:Int)] w (λv1 γ=>
  dw v1 λδ=>
  cond δ (
   κ prog 157 #[.float .f64 jA,(16:Int)] γ (λv2 aa=>
    dw v2 λθ=>
    R (.returned (.bool θ)) aa) (au R)) (
   R (.returned (.bool false)) γ)) (au R)
abbrev x6.C(jn jA:Nat):=Calls prog 115 #[.complex .f64 jn jA]
theorem x6.ok:jL x6.main x6.C:=λh=>dg func115 [.tmp 2] 11 h
def Gc.main(a0:J)(ar:Int)(w:World)(R:aq):Prop:=
 cond (Option.isNone a0) (
  R (.returned (.int .i64 1)) w) (
  cond (decide (ar<0)) (
   R (.returned (.int .i64 5)) w) (
   ξ a0 λd1=>
   ∃ζ,w.cell? d1=some (.int .i64 ζ)/\
   (cond (decide (ar>=ζ)) (
    R (.returned (.int .i64 5)) w) (
    R (.returned (.int .i64 0)) w))))
abbrev Gc.C(a0:J)(ar:Int):=Calls prog 116 #[.pointer a0,ar]
theorem Gc.ok:jL Gc.main Gc.C:=λh=>dg func116 [.tmp 4] 19 h
def l1.bP(t0:J)(t1:Int)(q4 q3 t7:Nat)(t9:Int)(w:World)(R:aq):Prop:=
 ο (decide (0<=(Int.tmod t1 8))) (
  ο (decide ((Int.tmod t1 8)<(8:Int))) (
   ed w (Addr.add ⟨t7,0,none⟩ ((Int.tmod t1 8).toNat*1)) (.complex .f64 q4 q3) λc6=>
   (ξ t0 λd6=>
    ∃σ,c6.drew.cell? d6=some (.int .i64 σ)/\
    (ξ t0 λd7=>
     ∃fH jg hs,c6.drew.cell? (d7.add 1)=some (.slice fH jg hs)/\
     (κ prog 159 #[.slice fH jg hs] c6.drew (λv3 cA=>
      cN v3 λjG rY iC=>
      cA.cell? d6=some (.int .i64 σ)/\
      (aN cA #[σ,.slice jG rY iC] 203 λaF dn=>
       ∃p8 n6 rD,dn.cell? ⟨aF,1,none⟩=some (.slice p8 n6 rD)/\
       (ο (decide (0<=t9)) (
        ο (decide (t9<((n6:Nat):Int))) (
         ξ p8 λd8=>
         ed dn (d8.add (t9.toNat*1)) (.pointer (some ⟨t7,0,none⟩)) λdX=>
         (κ prog 113 #[.slice (du (some ⟨t7,0,none⟩) 8 0 1) 8 8,.func (.func 160) #[] #[]] dX (λv4 eA=>
          dw v4 λae=>
          cond (!ae) (
          ∃iM n7 nb,eA.cell? ⟨aF,1,none⟩=some (.slice iM n7 nb)/\
          (ο (decide (0<=t9)) (
          ο (decide (t9<((n7:Nat):Int))) (
          ξ iM λd9=>
          ed eA (d9.add (t9.toNat*1)) (.pointer none) λga=>
          (R (.returned (.pointer (some ⟨aF,0,none⟩))) ga))))) (
          R (.returned (.pointer (some ⟨aF,0,none⟩))) eA)) (au R))))))) (au R))))))
def l1.a1(t0:J)(t1:Int)(q4 q3 t7:Nat)(w:World)(R:aq):Prop:=
 ξ t0 λd3=>
 ∃bh dB bI,w.cell? (d3.add 1)=some (.slice bh dB bI)/\
 (ο (decide (0<=(IntKind.i64.wrap (Int.tdiv t1 8)))) (
  ο (decide ((IntKind.i64.wrap (Int.tdiv t1 8))<((dB:Nat):Int))) (
   ξ bh λd4=>
   ∃eg,w.cell? (d4.add ((IntKind.i64.wrap (Int.tdiv t1 8)).toNat*1))=some (.pointer eg)/\
   (cond (!(Option.isNone eg)) (
    ξ eg λd5=>
    ∃(aK:ag),aK.size=8/\aw w d5 aK.toList/\
    (ο (decide (aK.size=8)) (
     bG w ⟨t7,0,none⟩ aK.toList λcf=>
     (l1.bP t0 t1 q4 q3 t7 (IntKind.i64.wrap (Int.tdiv t1 8)) cf R)))) (
    l1.bP t0 t1 q4 q3 t7 (IntKind.i64.wrap (Int.tdiv t1 8)) w R)))))
def l1.δ(t0:J)(t1:Int)(q4 q3 t7:Nat)(t29:Int)(w:World)(R:aq)(a8:J->Int->Nat->Nat->Nat->Int->ao):Prop:=
 cond (decide (t29<8)) (
  ο (decide (0<=t29)) (
   ο (decide (t29<(8:Int))) (
    ed w (Addr.add ⟨t7,0,none⟩ (t29.toNat*1)) (.complex .f64 13830554455654793216 0) λb5=>
    (a8 t0 t1 q4 q3 t7 (IntKind.i64.wrap (t29+1)) b5)))) (
  l1.a1 t0 t1 q4 q3 t7 w R)
def l1.bd:=ph l1.δ
def l1.main(a0:J)(ar:Int)(pH pG:Nat)(w:World)(R:aq):Prop:=
 κ prog 158 #[.pointer a0,ar] w (λv1 γ=>
  lq v1 λcG m1=>
  cond (ek .eql cG pH&&ek .eql m1 pG) (
   ξ a0 λd1=>
   ∃ζ,γ.drew.cell? d1=some (.int .i64 ζ)/\
   (ξ a0 λd2=>
    ∃ab ay c1,γ.drew.cell? (d2.add 1)=some (.slice ab ay c1)/\
    (κ prog 159 #[.slice ab ay c1] γ.drew (λv2 aa=>
     cN v2 λaX bu c2=>
     aa.cell? d1=some (.int .i64 ζ)/\
     (aN aa #[ζ,.slice aX bu c2] 203 λδ aE=>
      R (.returned (.pointer (some ⟨δ,0,none⟩))) aE)) (au R)))) (
   aN γ #[.complex .f64 0 0,.complex .f64 0 0,.complex .f64 0 0,.complex .f64 0 0,.complex .f64 0 0,.complex .f64 0 0,.complex .f64 0 0,.complex .f64 0 0] 252 λθ ba=>
   bG ba ⟨θ,0,none⟩ [(.complex .f64 0 0),(.complex .f64 0 0),(.complex .f64 0 0),(.complex .f64 0 0),(.complex .f64 0 0),(.complex .f64 0 0),(.complex .f64 0 0),(.complex .f64 0 0)] λbm=>
   (l1.bd a0 ar pH pG θ 0 bm R))) (au R)
abbrev l1.C(a0:J)(ar:Int)(pH pG:Nat):=Calls prog 117 #[.pointer a0,ar,.complex .f64 pH pG]
theorem l1.ok:kT l1.main l1.C:=λ{_ _ _ _ _ R}h=>fc func117 [.tmp 6] 80 (.seq .leaf (.seq .leaf (.seq .leaf (.cut [(0,.ptr),(1,.int .i64),(2,.pP),(7,.cY)] (l1.a1 · · · · · · R) (.seq .leaf (.block (.loop [(0,.ptr),(1,.int .i64),(2,.pP),(7,.cY),(29,.int .i64)] (l1.bd · · · · · · · R) λa8=>.leaf))) (.seq .leaf (.cut [(0,.ptr),(1,.int .i64),(2,.pP),(7,.cY),(9,.int .i64)] (l1.bP · · · · · · · R) .leaf .leaf)))))) h
def Fs.main(a0:J)(w:World)(R:aq):Prop:=
 ξ a0 λd1=>
 κ prog 161 #[.slice (du (some d1) 8 0 2) 8 8,.func (.func 162) #[] #[]] w (λv1 γ=>
  br .i64 v1 λζ=>
  cond (decide (ζ<0)) (
   R (.returned (.tuple #[(0:Int),(7:Int)])) γ) (
   R (.returned (.tuple #[ζ,(0:Int)])) γ)) (au R)
abbrev Fs.C(a0:J):=Calls prog 118 #[.pointer a0]
theorem Fs.ok:ic Fs.main Fs.C:=λh=>dg func118 [.tmp 2,.tmp 3] 13 h
def Fp.main(a0:J)(ar a2:Int)(w:World)(R:aq):Prop:=
 κ prog 84 #[.pointer a0,ar] w (λv1 γ=>
  b0 v1 λbN=>
  ξ (bN[0]?) λv2=>
  dq v2 λaK=>
  ξ (bN[1]?) λv3=>
  br .i64 v3 λζ=>
  aN γ #[(0:Int),(0:Int)] 84 λδ aa=>
  ο (decide (aK.size=2)) (
   bG aa ⟨δ,0,none⟩ aK.toList λaz=>
   (cond (ζ !=0) (
    R (.returned (.tuple #[.complex .f64 0 0,.bool false,ζ])) az) (
    ξ a0 λd1=>
    ο (decide (0<=ar)) (
     ο (decide (ar<(8:Int))) (
      ∃ab,az.cell? ((d1.add 16).add (ar.toNat*1))=some (.pointer ab)/\
      (κ prog 163 #[.pointer ab,a2] az (λv4 aE=>
       b0 v4 λeI=>
       ξ (eI[0]?) λv5=>
       lq v5 λcG m1=>
       ξ (eI[1]?) λv6=>
       dw v6 λθ=>
       ξ (eI[2]?) λfJ=>
       br .i64 fJ λσ=>
       R (.returned (.tuple #[.complex .f64 cG m1,.bool θ,σ])) aE) (au R)))))))) (au R)
abbrev Fp.C(a0:J)(ar a2:Int):=Calls prog 119 #[.pointer a0,ar,a2]
theorem Fp.ok:iB Fp.main Fp.C:=λh=>dg func119 [.tmp 6,.tmp 7,.tmp 8] 31 h
def FO.main(a0:J)(ar:Int)(w:World)(R:aq):Prop:=
 cond (!(Option.isNone a0)) (
  cond (decide (ar>=0)) (
   κ prog 134 #[.pointer a0] w (λv1 γ=>
    dw v1 λδ=>
    cond (!δ) (
     R (.returned (.bool true)) γ) (
     ξ a0 λd1=>
     ∃ab ay c1,γ.cell? (d1.add 2)=some (.slice ab ay c1)/\
     (R (.returned (.bool (decide (((ay:Nat):Int)>ar)))) γ))) (au R)) (
   R (.returned (.bool false)) w)) (
  R (.returned (.bool false)) w)
abbrev FO.C(a0:J)(ar:Int):=Calls prog 120 #[.pointer a0,ar]
theorem FO.ok:jL FO.main FO.C:=λh=>dg func120 [.tmp 4] 25 h
def F8.main(a0:J)(ar:Int)(w:World)(R:aq):Prop:=
 κ prog 116 #[.pointer a0,ar] w (λv1 γ=>
  br .i64 v1 λζ=>
  cond (ζ !=0) (
   R (.returned (.tuple #[.pointer none,ζ])) γ) (
   κ prog 117 #[.pointer a0,ar,.complex .f64 13830554455654793216 0] γ (λv2 aa=>
    gX v2 λab=>
    R (.returned (.tuple #[.pointer ab,(0:Int)])) aa) (au R))) (au R)
abbrev F8.C(a0:J)(ar:Int):=Calls prog 121 #[.pointer a0,ar]
theorem F8.ok:jL F8.main F8.C:=λh=>dg func121 [.tmp 4,.tmp 5] 16 h
def pt.a1(cR:J)(cM de t4 t5 t6 t8 t9:Nat)(w:World)(R:aq):Prop:=
 ∃wj,w.cell? ⟨t6,0,none⟩=some (.int .i64 wj)/\
 (cond (decide (((cM:Nat):Int)>(IntKind.i64.wrap ((IntKind.i64.wrap (16-wj))*6)))) (
  ed w ⟨t8,0,none⟩ (.int .i64 0) λeJ=>
  (ed eJ ⟨t9,0,none⟩ (.int .i64 7) λhZ=>
   (∃sx,hZ.cell? ⟨t8,0,none⟩=some (.int .i64 sx)/\
    (∃od,hZ.cell? ⟨t9,0,none⟩=some (.int .i64 od)/\
     (R (.returned (.tuple #[sx,od])) hZ))))) (
  κ prog 164 #[.slice cR cM de,(6:Int)] w (λv2 fw=>
   Jm v2 λgf jD lb=>
   ο (Nat.beq jD.size 0&&bA.fns.contains gf&&true&&true&&true&&true) (
    ∃(α:Type)(enc:α->Value)(fo:World->ao)(S Sp:List α->Prop)(N:Nat)(bD pE:List α->ao),QS prog gf lb enc fo S Sp N bD pE fw/\
    ((∀(pre:List α)(x:α)(gi:World),bD pre gi->pre.length<N->
      cN (enc x) λaX ay c1=>
      ∃wk,gi.cell? ⟨t5,0,none⟩=some (.int .i64 wk)/\
      (∃nA,gi.cell? ⟨t6,0,none⟩=some (.int .i64 nA)/\
       (κ prog 153 #[wk,nA,.slice aX ay c1] gi (λv3 kR=>
         b0 v3 λbN=>
         ξ (bN[0]?) λv4=>
         cN v4 λbh bu c2=>
         ξ (bN[1]?) λv5=>
         br .i64 v5 λCw=>
         cond (Cw==0) (
          ∃eg,kR.cell? ⟨t4,0,none⟩=some (.pointer eg)/\
          (∃nB,kR.cell? ⟨t6,0,none⟩=some (.int .i64 nB)/\
           (aN kR #[(IntKind.i64.wrap (24+nB)),.slice bh bu c2] 130 λiv zg=>
            κ prog 63 #[.pointer eg,.slice (some ⟨iv,0,none⟩) 1 1] zg (λv6 iz=>
            br .i64 v6 λQk=>
            cond (Qk !=0) (
            ed iz ⟨t8,0,none⟩ (.int .i64 0) λu5=>
            (ed u5 ⟨t9,0,none⟩ (.int .i64 Qk) λra=>
            (KeepsOthers gi ra/\pE (pre++[x]) ra))) (
            ∃qu,iz.cell? ⟨t6,0,none⟩=some (.int .i64 qu)/\
            (ed iz ⟨t6,0,none⟩ (.int .i64 (IntKind.i64.wrap (qu+1))) λo2=>
            (KeepsOthers gi o2/\fo gi o2/\bD (pre++[x]) o2)))) λcQ sr=>False))) (
          cond (Cw !=0) (
           ed kR ⟨t8,0,none⟩ (.int .i64 0) λmA=>
           (ed mA ⟨t9,0,none⟩ (.int .i64 Cw) λqp=>
            (KeepsOthers gi qp/\pE (pre++[x]) qp))) (
           ∃rf,kR.cell? ⟨t6,0,none⟩=some (.int .i64 rf)/\
           (ed kR ⟨t6,0,none⟩ (.int .i64 (IntKind.i64.wrap (rf+1))) λqq=>
            (KeepsOthers gi qq/\fo gi qq/\bD (pre++[x]) qq))))) λcQ j6=>False)))/\
     ((∀(D:Nat)(xs:List α)(h0:World),fw.heap.size<=D->S xs->bD xs h0->h0.heap[D]?=some (Obj.deferred (some []))->
       ∃rh,h0.cell? ⟨t6,0,none⟩=some (.int .i64 rh)/\
       (ed h0 ⟨t8,0,none⟩ (.int .i64 rh) λIH=>
        (ed IH ⟨t9,0,none⟩ (.int .i64 0) λtH=>
         (tH.heap[D]?=some (Obj.deferred (some []))/\
          ∃Cx,(tH.putObj D (Obj.deferred none)).cell? ⟨t8,0,none⟩=some (.int .i64 Cx)/\
          (∃xT,(tH.putObj D (Obj.deferred none)).cell? ⟨t9,0,none⟩=some (.int .i64 xT)/\
           (R (.returned (.tuple #[Cx,xT])) (tH.putObj D (Obj.deferred none))))))))/\
      (∀(D:Nat)(pre:List α)(hP:World),fw.heap.size<=D->Sp pre->pE pre hP->hP.heap[D]?=some (Obj.deferred (some []))->
       hP.heap[D]?=some (Obj.deferred (some []))/\
       ∃Mc,(hP.putObj D (Obj.deferred none)).cell? ⟨t8,0,none⟩=some (.int .i64 Mc)/\
       (∃AY,(hP.putObj D (Obj.deferred none)).cell? ⟨t9,0,none⟩=some (.int .i64 AY)/\
        (R (.returned (.tuple #[Mc,AY])) (hP.putObj D (Obj.deferred none))))))))) (au R)))
def pt.δ(cR:J)(cM de t4 t5 t6 t8 t9:Nat)(LF:J)(LD PK:Nat)(t35 t36:Int)(w:World)(R:aq)(a8:J->Nat->Nat->Nat->Nat->Nat->Nat->Nat->J->Nat->Nat->Int->Int->ao):Prop:=
 cond (decide (t36<t35)) (
  ο (decide (0<=t36)) (
   ο (decide (t36<((LD:Nat):Int))) (
    ξ LF λd1=>
    ∃(aK:ag),aK.size=5/\aw w (d1.add (t36.toNat*5)) aK.toList/\
    (aN w #[(0:Int),(0:Int),(0:Int),(0:Int),.complex .f64 0 0] 155 λfq eR=>
     ο (decide (aK.size=5)) (
      bG eR ⟨fq,0,none⟩ aK.toList λga=>
      (∃(bF:ag),bF.size=5/\aw ga ⟨fq,0,none⟩ bF.toList/\
       (κ prog 155 #[.agg bF] ga (λv1 fO=>
        br .i64 v1 λl3=>
        cond (l3 !=0) (
         ed fO ⟨t8,0,none⟩ (.int .i64 0) λeD=>
         (ed eD ⟨t9,0,none⟩ (.int .i64 l3) λfv=>
          (∃jm,fv.cell? ⟨t8,0,none⟩=some (.int .i64 jm)/\
           (∃re,fv.cell? ⟨t9,0,none⟩=some (.int .i64 re)/\
            (R (.returned (.tuple #[jm,re])) fv))))) (
         a8 cR cM de t4 t5 t6 t8 t9 LF LD PK t35 (IntKind.i64.wrap (t36+1)) fO)) (au R)))))))) (
  pt.a1 cR cM de t4 t5 t6 t8 t9 w R)
def pt.bd:=Oi pt.δ
def pt.main(a0:J)(ar a2:Int)(qC:J)(pI qB:Nat)(w:World)(R:aq):Prop:=
 aN w #[.pointer a0] 23 λδ γ=>
 aN γ #[ar] 3 λθ τ=>
 aN τ #[a2] 3 λaF aa=>
 aN aa #[(0:Int)] 3 λae az=>
 aN az #[(0:Int)] 33 λc8 aE=>
 ∃ab,aE.cell? ⟨δ,0,none⟩=some (.pointer ab)/\
 (cond (Option.isNone ab) (
  ed aE ⟨ae,0,none⟩ (.int .i64 0) λba=>
  (ed ba ⟨c8,0,none⟩ (.int .i64 1) λbm=>
   (∃ak,bm.cell? ⟨ae,0,none⟩=some (.int .i64 ak)/\
    (∃aI,bm.cell? ⟨c8,0,none⟩=some (.int .i64 aI)/\
     (R (.returned (.tuple #[ak,aI])) bm))))) (
  ∃ζ,aE.cell? ⟨θ,0,none⟩=some (.int .i64 ζ)/\
  (cond (decide (ζ<1)) (
    ed aE ⟨ae,0,none⟩ (.int .i64 0) λb5=>
    (ed b5 ⟨c8,0,none⟩ (.int .i64 1) λcf=>
     (∃aV,cf.cell? ⟨ae,0,none⟩=some (.int .i64 aV)/\
      (∃cg,cf.cell? ⟨c8,0,none⟩=some (.int .i64 cg)/\
       (R (.returned (.tuple #[aV,cg])) cf))))) (
    ∃σ,aE.cell? ⟨θ,0,none⟩=some (.int .i64 σ)/\
    (cond (decide (σ>1073741824)) (
      ed aE ⟨ae,0,none⟩ (.int .i64 0) λc6=>
      (ed c6 ⟨c8,0,none⟩ (.int .i64 1) λcA=>
       (∃cm,cA.cell? ⟨ae,0,none⟩=some (.int .i64 cm)/\
        (∃eK,cA.cell? ⟨c8,0,none⟩=some (.int .i64 eK)/\
         (R (.returned (.tuple #[cm,eK])) cA))))) (
      ∃ad,aE.cell? ⟨aF,0,none⟩=some (.int .i64 ad)/\
      (cond (decide (ad<0)) (
        ed aE ⟨ae,0,none⟩ (.int .i64 0) λcn=>
        (ed cn ⟨c8,0,none⟩ (.int .i64 1) λdn=>
         (∃fl,dn.cell? ⟨ae,0,none⟩=some (.int .i64 fl)/\
          (∃c7,dn.cell? ⟨c8,0,none⟩=some (.int .i64 c7)/\
           (R (.returned (.tuple #[fl,c7])) dn))))) (
        ∃aA,aE.cell? ⟨aF,0,none⟩=some (.int .i64 aA)/\
        (cond (decide (aA>16)) (
          ed aE ⟨ae,0,none⟩ (.int .i64 0) λdX=>
          (ed dX ⟨c8,0,none⟩ (.int .i64 1) λeA=>
           (∃gb,eA.cell? ⟨ae,0,none⟩=some (.int .i64 gb)/\
            (∃j7,eA.cell? ⟨c8,0,none⟩=some (.int .i64 j7)/\
            (R (.returned (.tuple #[gb,j7])) eA))))) (
          pt.bd qC pI qB δ θ aF ae c8 qC pI qB ((pI:Nat):Int) 0 aE R))))))))))
abbrev pt.C(a0:J)(ar a2:Int)(qC:J)(pI qB:Nat):=Calls prog 122 #[.pointer a0,ar,a2,.slice qC pI qB]
theorem pt.ok:xY pt.main pt.C:=λ{_ _ _ _ _ _ _ R}h=>acS func122 [.cell 8 3,.cell 9 33] 77 (.seq .leaf (.seq .leaf (.cut [(3,.slice),(4,.cY),(5,.cY),(6,.cY),(8,.cY),(9,.cY)] (pt.a1 · · · · · · · · · R) (.seq .leaf (.block (.loop [(3,.slice),(4,.cY),(5,.cY),(6,.cY),(8,.cY),(9,.cY),(34,.slice),(35,.int .i64),(36,.int .i64)] (pt.bd · · · · · · · · · · · · · · R) λa8=>.leaf))) (.seq .leaf (.xD .leaf))))) h
def FA.main(bC:J)(aY bx:Nat)(w:World)(R:aq):Prop:=
 cond (Option.isNone bC) (
  R (.returned (.slice none 0 0)) w) (
  aN w #[] 113 λδ γ=>
  gK γ (some ⟨δ,0,none⟩) 0 0 aY (a7 γ bC) 113 1 16 #[.complex .f64 0 0] λab c1 τ=>
  R (.returned (.slice ab (0+aY) c1)) τ)
abbrev FA.C(bC:J)(aY bx:Nat):=Calls prog 123 #[.slice bC aY bx]
theorem FA.ok:iB FA.main FA.C:=λh=>dg func123 [.tmp 2] 8 h
def ob.δ(t0 cR:J)(cM de:Nat)(t6 t7:Int)(w:World)(R:aq)(a8:J->J->Nat->Nat->Int->Int->ao):Prop:=
 cond (decide (t7<t6)) (
  κ prog 158 #[.pointer t0,t7] w (λv2 aa=>
   lq v2 λcG m1=>
   aN aa #[.complex .f64 cG m1] 113 λδ aE=>
   gK aE cR cM de 1 (a7 aE (some ⟨δ,0,none⟩)) 113 1 16 #[.complex .f64 0 0] λab c1 ba=>
   a8 t0 ab (cM+1) c1 t6 (IntKind.i64.wrap (t7+1)) ba) (au R)) (
  R (.returned (.slice cR cM de)) w)
def ob.bd:=ph ob.δ
def ob.main(a0:J)(w:World)(R:aq):Prop:=
 κ prog 165 #[.pointer a0] w (λv1 γ=>
  br .i64 v1 λζ=>
  ob.bd a0 none 0 0 ζ 0 γ R) (au R)
abbrev ob.C(a0:J):=Calls prog 124 #[.pointer a0]
theorem ob.ok:ic ob.main ob.C:=λ{_ _ R}h=>fc func124 [.tmp 2] 18 (.seq .leaf (.seq .leaf (.seq (.seq .leaf (.block (.loop [(0,.ptr),(3,.slice),(6,.int .i64),(7,.int .i64)] (ob.bd · · · · · · · R) λa8=>.leaf))) .leaf))) h
def ES.main(jn jA dP:Nat)(w:World)(R:aq):Prop:=
 ∃(aK:ag),aK.size=2/\aw w ⟨dP,0,none⟩ aK.toList/\
 (κ prog 54 #[.agg aK,.complex .f64 jn jA] w (λv1 γ=>
  b0 v1 λbN=>
  ξ (bN[0]?) λv2=>
  br .i64 v2 λζ=>
  ξ (bN[1]?) λv3=>
  br .i64 v3 λσ=>
  cond (!(ek .eql jn 13830554455654793216&&ek .eql jA 0)) (
   R (.returned (.bool (σ !=0))) γ) (
   R (.returned (.bool false)) γ)) (au R))
abbrev ES.C(jn jA dP:Nat):=Calls prog 125 #[.complex .f64 jn jA,.pointer (some ⟨dP,0,none⟩)]
theorem ES.ok:iB ES.main ES.C:=λh=>dg func125 [.tmp 3] 18 h
def oo.a1(qk:J)(pz uZ:Nat)(w:World)(R:aq):Prop:=
 κ prog 166 #[.slice qk pz uZ,.func (.func 167) #[] #[]] w (λv3 ba=>
  b0 v3 λbN=>
  κ prog 169 #[.slice qk pz uZ] ba (λv4 b5=>
   cN v4 λaX bu c2=>
   κ prog 168 #[.slice aX bu c2] b5 (λv5 c6=>
    cN v5 λbh dB bI=>
    R (.returned (.tuple #[.slice bh dB bI,(0:Int)])) c6) (au R)) (au R)) (au R)
def oo.δ(qk:J)(pz uZ:Nat)(hM:J)(fu h8:Nat)(t13 t14:Int)(w:World)(R:aq)(a8:J->Nat->Nat->J->Nat->Nat->Int->Int->ao):Prop:=
 cond (decide (t14<t13)) (
  ο (decide (0<=t14)) (
   ο (decide (t14<((fu:Nat):Int))) (
    ξ hM λd1=>
    ∃cG m1,w.cell? (d1.add (t14.toNat*1))=some (.complex .f64 cG m1)/\
    (κ prog 115 #[.complex .f64 cG m1] w (λv2 aa=>
     dw v2 λδ=>
     cond (!δ) (
      R (.returned (.tuple #[.slice none 0 0,(2:Int)])) aa) (
      ξ (tZ cG 0) λfM=>
      ξ (tZ m1 0) λm2=>
      ο (decide (0<=t14)) (
       ο (decide (t14<((pz:Nat):Int))) (
        ξ qk λd2=>
        ed aa (d2.add (t14.toNat*1)) (.complex .f64 fM m2) λaE=>
        (a8 qk pz uZ hM fu h8 t13 (IntKind.i64.wrap (t14+1)) aE))))) (au R))))) (
  oo.a1 qk pz uZ w R)
def oo.bd:=Hy oo.δ
def oo.main(bC:J)(aY bx:Nat)(w:World)(R:aq):Prop:=
 cond (decide (((aY:Nat):Int)>4096)) (
  R (.returned (.tuple #[.slice none 0 0,(1:Int)])) w) (
  κ prog 123 #[.slice bC aY bx] w (λv1 γ=>
   cN v1 λab ay c1=>
   oo.bd ab ay c1 ab ay c1 ((ay:Nat):Int) 0 γ R) (au R))
abbrev oo.C(bC:J)(aY bx:Nat):=Calls prog 126 #[.slice bC aY bx]
theorem oo.ok:iB oo.main oo.C:=λ{_ _ _ _ R}h=>fc func126 [.tmp 2,.tmp 3] 33 (.seq .leaf (.seq .leaf (.seq .leaf (.cut [(4,.slice)] (oo.a1 · · · · R) (.seq .leaf (.block (.loop [(4,.slice),(12,.slice),(13,.int .i64),(14,.int .i64)] (oo.bd · · · · · · · · · R) λa8=>.leaf))) .leaf)))) h
def Ip.main(bC:J)(aY bx:Nat)(ar:Value)(w:World)(R:aq):Prop:=
 κ prog 170 #[.slice bC aY bx,ar] w (λv1 γ=>
  br .i64 v1 λζ=>
  R (.returned (.bool (decide (ζ>=0)))) γ) (au R)
abbrev Ip.C(bC:J)(aY bx:Nat)(ar:Value):=Calls prog 127 #[.slice bC aY bx,ar]
theorem Ip.ok:kT Ip.main Ip.C:=λh=>dg func127 [.tmp 4] 9 h
def Dh.main(a0:Int)(dP:Nat)(w:World)(R:aq):Prop:=
 cond (decide (a0<0)) (
  R (.returned (.bool true)) w) (
  ∃ζ,w.cell? ⟨dP,1,none⟩=some (.int .i64 ζ)/\
  (R (.returned (.bool (decide (a0>ζ)))) w))
abbrev Dh.C(a0:Int)(dP:Nat):=Calls prog 128 #[a0,.pointer (some ⟨dP,0,none⟩)]
theorem Dh.ok:jL Dh.main Dh.C:=λh=>dg func128 [.tmp 3] 12 h
def Fi.main(a0 ar:Int)(w:World)(R:aq):Prop:=
 cond (decide (a0>=0)) (
  cond (decide (a0<=1048576)) (
   cond (decide (ar>=1)) (
    R (.returned (.bool (decide (ar<=1048576)))) w) (
    R (.returned (.bool false)) w)) (
   R (.returned (.bool false)) w)) (
  R (.returned (.bool false)) w)
abbrev Fi.C(a0 ar:Int):=Calls prog 129 #[a0,ar]
theorem Fi.ok:jL Fi.main Fi.C:=λh=>dg func129 [.tmp 4] 19 h
def Fh.main(a0 ar a2 a3:Int)(w:World)(R:aq):Prop:=
 κ prog 171 #[(IntKind.i64.wrap (a0*a3)),(IntKind.i64.wrap (a2*ar))] w (λv1 γ=>
  br .i64 v1 λζ=>
  R (.returned (.int .i64 ζ)) γ) (au R)
abbrev Fh.C(a0 ar a2 a3:Int):=Calls prog 130 #[a0,ar,a2,a3]
theorem Fh.ok:kT Fh.main Fh.C:=λh=>dg func130 [.tmp 8] 16 h
def CV.main(jn jA:Nat)(w:World)(R:aq):Prop:=
 κ prog 115 #[.complex .f64 jn jA] w (λv1 γ=>
  dw v1 λδ=>
  cond (!δ) (
   R (.returned (.tuple #[(0:Int),(0:Int),(2:Int)])) γ) (
   ξ ((FloatKind.f64.decode jn).toInt .zero) λζ=>
   ο (decide (IntKind.i64.min<=ζ)) (
    ο (decide (ζ<=IntKind.i64.max)) (
     ξ ((FloatKind.f64.decode jA).toInt .zero) λσ=>
     ο (decide (IntKind.i64.min<=σ)) (
      ο (decide (σ<=IntKind.i64.max)) (
       R (.returned (.tuple #[ζ,σ,(0:Int)])) γ)))))) (au R)
abbrev CV.C(jn jA:Nat):=Calls prog 132 #[.complex .f64 jn jA]
theorem CV.ok:jL CV.main CV.C:=λh=>dg func132 [.tmp 2,.tmp 3,.tmp 4] 14 h
def x7.main(a0:Int)(w:World)(R:aq):Prop:=
 cond (decide (a0>=1)) (
  R (.returned (.bool (decide (a0<=16)))) w) (
  R (.returned (.bool false)) w)
abbrev x7.C(a0:Int):=Calls prog 133 #[a0]
theorem x7.ok:ic x7.main x7.C:=λh=>dg func133 [.tmp 2] 9 h
def FP.main(a0:J)(w:World)(R:aq):Prop:=
 ξ a0 λd1=>
 ∃ζ,w.cell? (d1.add 3)=some (.int .i64 ζ)/\
 (cond (decide (ζ<0)) (
  ∀a1:Nat,
  R (.returned (.bool true)) (w.drewN a1)) (
  ξ a0 λd2=>
  ∃σ,w.cell? (d2.add 4)=some (.int .i64 σ)/\
  (ξ a0 λd3=>
   ∃ad,w.cell? (d3.add 1)=some (.int .i64 ad)/\
   (∀a1:Nat,
    R (.returned (.bool (σ==ad))) (w.drewN a1)))))
abbrev FP.C(a0:J):=Calls prog 134 #[.pointer a0]
theorem FP.ok:ic FP.main FP.C:=λh=>dg func134 [.tmp 2] 20 h
def x5.main(a0 ar:Int)(w:World)(R:aq):Prop:=
 κ prog 133 #[ar] w (λv1 γ=>
  dw v1 λδ=>
  cond (!δ) (
   R (.returned (.tuple #[.complex .f64 0 0,(1:Int)])) γ) (
   cond (decide (a0<0)) (
    R (.returned (.tuple #[.complex .f64 0 0,(5:Int)])) γ) (
    cond (decide (a0>=(IntKind.i64.wrap (24*ar)))) (
     R (.returned (.tuple #[.complex .f64 0 0,(5:Int)])) γ) (
     ο (decide (ar≠0)) (
      ο (decide (ar≠0)) (
       ∀a1:Nat,
       R (.returned (.tuple #[.complex .f64 (FloatKind.f64.nearest (IntKind.i64.wrap (Int.tdiv a0 ar))) (FloatKind.f64.nearest (Int.tmod a0 ar)),(0:Int)])) (γ.drewN a1))))))) (au R)
abbrev x5.C(a0 ar:Int):=Calls prog 135 #[a0,ar]
theorem x5.ok:jL x5.main x5.C:=λh=>dg func135 [.tmp 4,.tmp 5] 28 h
def np.θ(t2 t3:Nat)(lD:J)(lY lX:Nat)(t12:ag)(t13:Int)(Iw:J)(Iv LA:Nat)(t28 t29:Int)(w:World)(R:aq)(a8:Nat->Nat->J->Nat->Nat->ag->Int->ao)(hJ:Nat->Nat->J->Nat->Nat->ag->Int->J->Nat->Nat->Int->Int->ao):Prop:=
 cond (decide (t29<t28)) (
  ο (decide (0<=t29)) (
   ο (decide (t29<((Iv:Nat):Int))) (
    ξ Iw λd1=>
    ∃cG m1,w.cell? (d1.add (t29.toNat*1))=some (.complex .f64 cG m1)/\
    (cond (!(ek .eql cG 13830554455654793216&&ek .eql m1 0)) (
     ∃ad,w.cell? ⟨t3,1,none⟩=some (.int .i64 ad)/\
     (κ prog 95 #[.complex .f64 cG m1,ad] w (λv2 b5=>
       b0 v2 λbN=>
       ξ (bN[0]?) λv3=>
       br .i64 v3 λaA=>
       ξ (bN[1]?) λv4=>
       br .i64 v4 λak=>
       aN b5 #[(IntKind.i64.wrap (aA+1))] 3 λc8 c6=>
       κ prog 139 #[.slice lD lY lX,(2:Int),.slice (some ⟨c8,0,none⟩) 1 1] c6 (λv5 cA=>
        cN v5 λbh dB bI=>
        hJ t2 t3 bh dB bI t12 t13 Iw Iv LA t28 (IntKind.i64.wrap (t29+1)) cA) (au R)) (au R))) (
     aN w #[(0:Int)] 3 λfq dn=>
     κ prog 139 #[.slice lD lY lX,(2:Int),.slice (some ⟨fq,0,none⟩) 1 1] dn (λv6 dX=>
      cN v6 λeg jg hs=>
      hJ t2 t3 eg jg hs t12 t13 Iw Iv LA t28 (IntKind.i64.wrap (t29+1)) dX) (au R)))))) (
  a8 t2 t3 lD lY lX t12 (IntKind.i64.wrap (t13+1)) w)
def np.fG:=apy np.θ
def np.δ(t2 t3:Nat)(lD:J)(lY lX:Nat)(t12:ag)(t13:Int)(w:World)(R:aq)(a8:Nat->Nat->J->Nat->Nat->ag->Int->ao):Prop:=
 cond (decide (t13<8)) (
  ο (decide (0<=t13)) (
   ο (decide (t13<(8:Int))) (
    aN w #[(0:Int),(0:Int)] 84 λaF aa=>
    ο (decide ((t12.extract (t13.toNat*2) ((t13.toNat*2)+2)).size=2)) (
     bG aa ⟨aF,0,none⟩ ((t12.extract (t13.toNat*2) ((t13.toNat*2)+2)).toList) λaz=>
     (∃ζ,az.cell? ⟨aF,0,none⟩=some (.int .i64 ζ)/\
      (∃σ,az.cell? ⟨aF,1,none⟩=some (.int .i64 σ)/\
       (aN az #[ζ,σ] 3 λae aE=>
        κ prog 139 #[.slice lD lY lX,(1:Int),.slice (some ⟨ae,0,none⟩) 2 2] aE (λv1 ba=>
         cN v1 λab ay c1=>
         ο (decide (0<=t13)) (
          ο (decide (t13<(8:Int))) (
           ∃aX bu c2,ba.cell? (Addr.add ⟨t2,16,none⟩ (t13.toNat*1))=some (.slice aX bu c2)/\
           (np.fG t2 t3 ab ay c1 t12 t13 aX bu c2 ((bu:Nat):Int) 0 ba R a8)))) (au R)))))))) (
  R (.returned (.slice lD lY lX)) w)
def np.bd:=Ev np.δ
def np.main(a0:ag)(eM eN:Int)(w:World)(R:aq):Prop:=
 aN w a0 89 λδ γ=>
 aN γ #[eM,eN] 28 λθ τ=>
 ∃(aK:ag),aK.size=16/\aw τ ⟨δ,0,none⟩ aK.toList/\
 (np.bd δ θ none 0 0 aK 0 τ R)
abbrev np.C(a0:ag)(eM eN:Int):=Calls prog 136 #[.agg a0,.agg #[eM,eN]]
theorem np.ok:iB np.main np.C:=λ{_ _ _ _ R}h=>fc func136 [.tmp 4] 51 (.seq .leaf (.seq .leaf (.seq (.seq .leaf (.block (.loop [(2,.cY),(3,.cY),(5,.slice),(12,.agg),(13,.int .i64)] (np.bd · · · · · · · · R) λa8=>(.seq .leaf (.seq .leaf (.seq (.block (.seq .leaf (.seq .leaf (.seq .leaf (.block (.loop [(2,.cY),(3,.cY),(5,.slice),(12,.agg),(13,.int .i64),(27,.slice),(28,.int .i64),(29,.int .i64)] (np.fG · · · · · · · · · · · · · R a8) λhJ=>.leaf)))))) .leaf)))))) .leaf))) h
def Fy.main(bC:J)(aY bx:Nat)(ar:Int)(w:World)(R:aq):Prop:=
 aN w #[.slice bC aY bx] 34 λδ γ=>
 aN γ #[ar] 3 λθ τ=>
 ∃ζ,τ.cell? ⟨θ,0,none⟩=some (.int .i64 ζ)/\
 (cond (decide (ζ<1)) (
  R (.panicked [{v:=(.iface 9 (.string (⟨#[99,97,110,110,111,116,32,98,101,32,108,101,115,115,32,116,104,97,110,32,49]⟩:ByteArray))),recovered:=false}]) τ) (
  R (.returned (.func (.func 172) #[] #[.pointer (some ⟨δ,0,none⟩),.pointer (some ⟨θ,0,none⟩)])) τ))
abbrev Fy.C(bC:J)(aY bx:Nat)(ar:Int):=Calls prog 137 #[.slice bC aY bx,ar]
theorem Fy.ok:kT Fy.main Fy.C:=λh=>dg func137 [.tmp 4] 9 h
def Et.main(bC:J)(aY bx:Nat)(w:World)(R:aq):Prop:=
 κ prog 173 #[.slice bC aY bx] w (λv1 γ=>
  b0 v1 λbN=>
  ξ (bN[0]?) λv2=>
  cN v2 λab ay c1=>
  ξ (bN[1]?) λv3=>
  br .i64 v3 λζ=>
  R (.returned (.slice ab ay c1)) γ) (au R)
abbrev Et.C(bC:J)(aY bx:Nat):=Calls prog 138 #[.slice bC aY bx]
theorem Et.ok:iB Et.main Et.C:=λh=>dg func138 [.tmp 2] 11 h
def Ep.main(bC:J)(aY bx:Nat)(ar:Int)(iW:J)(et jZ:Nat)(w:World)(R:aq):Prop:=
 κ prog 174 #[ar,.slice iW et jZ] w (λv1 γ=>
  b0 v1 λbN=>
  ξ (bN[0]?) λv2=>
  cN v2 λab ay c1=>
  ξ (bN[1]?) λv3=>
  br .i64 v3 λζ=>
  gK γ bC aY bx ay (a7 γ ab) 5 1 1 #[.int .u8 0] λaX c2 aa=>
  R (.returned (.slice aX (aY+ay) c2)) aa) (au R)
abbrev Ep.C(bC:J)(aY bx:Nat)(ar:Int)(iW:J)(et jZ:Nat):=Calls prog 139 #[.slice bC aY bx,ar,.slice iW et jZ]
theorem Ep.ok:Gv Ep.main Ep.C:=λh=>dg func139 [.tmp 6] 18 h
def Fv.main(bC:J)(aY bx:Nat)(w:World)(R:aq):Prop:=
 κ prog 175 #[.int .u32 0,.slice bC aY bx] w (λv1 γ=>
  br .u32 v1 λζ=>
  R (.returned (.int .u32 ζ)) γ) (au R)
abbrev Fv.C(bC:J)(aY bx:Nat):=Calls prog 140 #[.slice bC aY bx]
theorem Fv.ok:iB Fv.main Fv.C:=λh=>dg func140 [.tmp 2] 5 h
def cmp_Less_int.main(a0 ar:Int)(w:World)(R:aq):Prop:=
 κ prog 176 #[a0] w (λv1 γ=>
  dw v1 λδ=>
  cond δ (
   κ prog 176 #[ar] γ (λv2 aa=>
    dw v2 λθ=>
    cond (!θ) (
     R (.returned (.bool true)) aa) (
     R (.returned (.bool (decide (a0<ar)))) aa)) (au R)) (
   R (.returned (.bool (decide (a0<ar)))) γ)) (au R)
abbrev cmp_Less_int.C(a0 ar:Int):=Calls prog 141 #[a0,ar]
theorem cmp_Less_int.ok:jL cmp_Less_int.main cmp_Less_int.C:=λh=>dg func141 [.tmp 4] 17 h
def FE.main(a0:Int)(w:World)(R:aq):Prop:=
 R (.returned (.bool (a0 !=a0))) w
abbrev FE.C(a0:Int):=Calls prog 142 #[a0]
theorem FE.ok:ic FE.main FE.C:=λh=>dg func142 [.tmp 2] 6 h
def Eo.main(bC:J)(aY bx:Nat)(w:World)(R:aq):Prop:=
 κ prog 147 #[.slice bC aY bx] w (λv1 γ=>
  b0 v1 λbN=>
  ξ (bN[0]?) λv2=>
  dq v2 λaK=>
  ξ (bN[1]?) λv3=>
  dw v3 λδ=>
  aN γ #[(0:Int),(0:Int),(0:Int),(0:Int),(0:Int)] 234 λθ aa=>
  ο (decide (aK.size=5)) (
   bG aa ⟨θ,0,none⟩ aK.toList λaz=>
   (cond (!δ) (
    R (.returned (.tuple #[(0:Int),(0:Int),(11:Int)])) az) (
    ∃ζ,az.cell? ⟨θ,3,none⟩=some (.int .i64 ζ)/\
    (∃σ,az.cell? ⟨θ,0,none⟩=some (.int .i64 σ)/\
     (∀a1:Nat,
      R (.returned (.tuple #[ζ,σ,(0:Int)])) (az.drewN a1))))))) (au R)
abbrev Eo.C(bC:J)(aY bx:Nat):=Calls prog 146 #[.slice bC aY bx]
theorem Eo.ok:iB Eo.main Eo.C:=λh=>dg func146 [.tmp 2,.tmp 3,.tmp 4] 18 h
def Er.main(bC:J)(aY bx:Nat)(w:World)(R:aq):Prop:=
 aN w #[(0:Int),(0:Int),(0:Int),(0:Int),(0:Int)] 234 λδ γ=>
 κ prog 148 #[.slice bC aY bx] γ (λv1 τ=>
  b0 v1 λbN=>
  ξ (bN[0]?) λv2=>
  cN v2 λab ay c1=>
  ξ (bN[1]?) λv3=>
  br .i64 v3 λζ=>
  aN τ #[.slice none 0 0] 34 λθ az=>
  ed az ⟨θ,0,none⟩ (.slice ab ay c1) λaE=>
  (cond (ζ !=0) (
   bG aE ⟨δ,0,none⟩ [(.int .i64 0),(.int .i64 0),(.int .i64 0),(.int .i64 0),(.int .i64 0)] λba=>
   (∃(aK:ag),aK.size=5/\aw ba ⟨δ,0,none⟩ aK.toList/\
    (R (.returned (.tuple #[.agg aK,.bool false])) ba))) (
   ∃aX bu c2,aE.cell? ⟨θ,0,none⟩=some (.slice aX bu c2)/\
   (ο (decide (4<=((c2:Nat):Int))) (
     ∃(oL:an),oL.length=4/\a7 aE (du aX c2 0 1) (oL.map (.int .u8))/\
     (cond (!((strOf oL).toList==(⟨#[83,76,65,84]⟩:ByteArray).toList)) (
      bG aE ⟨δ,0,none⟩ [(.int .i64 0),(.int .i64 0),(.int .i64 0),(.int .i64 0),(.int .i64 0)] λbm=>
      (∃(bF:ag),bF.size=5/\aw bm ⟨δ,0,none⟩ bF.toList/\
       (R (.returned (.tuple #[.agg bF,.bool false])) bm))) (
      κ prog 178 #[(4:Int),(4:Int),.pointer (some ⟨θ,0,none⟩)] aE (λv4 b5=>
       br .i64 v4 λσ=>
       κ prog 178 #[(8:Int),(1:Int),.pointer (some ⟨θ,0,none⟩)] b5 (λv5 c6=>
        br .i64 v5 λad=>
        κ prog 178 #[(9:Int),(1:Int),.pointer (some ⟨θ,0,none⟩)] c6 (λv6 cn=>
         br .i64 v6 λaA=>
         κ prog 178 #[(10:Int),(1:Int),.pointer (some ⟨θ,0,none⟩)] cn (λfJ dX=>
          br .i64 fJ λak=>
          κ prog 178 #[(11:Int),(2:Int),.pointer (some ⟨θ,0,none⟩)] dX (λbj eR=>
           br .i64 bj λaI=>
           aN eR #[(0:Int),(0:Int),(0:Int),(0:Int),(0:Int)] 234 λaF fO=>
           bG fO ⟨aF,0,none⟩ [(.int .i64 σ),(.int .i64 ad),(.int .i64 aA),(.int .i64 ak),(.int .i64 aI)] λfE=>
           (∃(bZ:ag),bZ.size=5/\aw fE.drew ⟨aF,0,none⟩ bZ.toList/\
           (∃aV,fE.drew.cell? ⟨aF,0,none⟩=some (.int .i64 aV)/\
           (cond (decide (aV>=1)) (
           ∃cg,fE.drew.cell? ⟨aF,0,none⟩=some (.int .i64 cg)/\
           (cond (decide (cg<=1073741824)) (
           ∃cm,fE.drew.cell? ⟨aF,3,none⟩=some (.int .i64 cm)/\
           (ο (decide (bZ.size=5)) (
           bG fE.drew ⟨δ,0,none⟩ bZ.toList λeD=>
           (eD.cell? ⟨aF,3,none⟩=some (.int .i64 cm)/\
           (∃(bW:ag),bW.size=5/\aw eD ⟨δ,0,none⟩ bW.toList/\
           (R (.returned (.tuple #[.agg bW,.bool (decide (cm<12))])) eD)))))) (
           ο (decide (bZ.size=5)) (
           bG fE.drew ⟨δ,0,none⟩ bZ.toList λfv=>
           (∃(cE:ag),cE.size=5/\aw fv ⟨δ,0,none⟩ cE.toList/\
           (R (.returned (.tuple #[.agg cE,.bool false])) fv)))))) (
           ο (decide (bZ.size=5)) (
           bG fE.drew ⟨δ,0,none⟩ bZ.toList λeJ=>
           (∃(dM:ag),dM.size=5/\aw eJ ⟨δ,0,none⟩ dM.toList/\
           (R (.returned (.tuple #[.agg dM,.bool false])) eJ)))))))) (au R)) (au R)) (au R)) (au R)) (au R)))))))) (au R)
abbrev Er.C(bC:J)(aY bx:Nat):=Calls prog 147 #[.slice bC aY bx]
theorem Er.ok:iB Er.main Er.C:=λh=>dg func147 [.cell 2 234,.tmp 3] 48 h
def Fu.main(bC:J)(aY bx:Nat)(w:World)(R:aq):Prop:=
 cond (((aY:Nat):Int)!=64) (
  R (.returned (.tuple #[.slice none 0 0,(6:Int)])) w) (
  ο (decide (60<=((bx:Nat):Int))) (
   κ prog 173 #[.slice (du bC bx 0 1) 60 bx] w (λv1 γ=>
    b0 v1 λbN=>
    ξ (bN[0]?) λv2=>
    cN v2 λab ay c1=>
    ξ (bN[1]?) λv3=>
    br .i64 v3 λζ=>
    κ prog 154 #[.slice ab ay c1,.slice bC aY bx] γ (λv4 aa=>
     dw v4 λδ=>
     cond (!δ) (
      R (.returned (.tuple #[.slice none 0 0,(2:Int)])) aa) (
      ο (decide (60<=((bx:Nat):Int))) (
       κ prog 36 #[.slice (du bC bx 0 1) 60 bx] aa (λv5 aE=>
        cN v5 λaX bu c2=>
        R (.returned (.tuple #[.slice aX bu c2,(0:Int)])) aE) (au R)))) (au R)) (au R)))
abbrev Fu.C(bC:J)(aY bx:Nat):=Calls prog 148 #[.slice bC aY bx]
theorem Fu.ok:iB Fu.main Fu.C:=λh=>dg func148 [.tmp 2,.tmp 3] 22 h
def jf.a1(cb:J)(b8 ck t3 t4:Nat)(t6:Int)(t7 atk atj:Nat)(t14:Int)(y5:J)(y4 AP:Nat)(t49 t50:Int)(w:World)(R:aq)(a8:J->Nat->Nat->Nat->Nat->Int->ao)(hJ:J->Nat->Nat->Nat->Nat->Int->Nat->Int->J->Nat->Nat->Int->Int->ao):Prop:=
 ο (decide (0<=t6)) (
  ο (decide (t6<(8:Int))) (
   ∃aX bu c2,w.cell? (Addr.add ⟨t4,16,none⟩ (t6.toNat*1))=some (.slice aX bu c2)/\
   (aN w #[.complex .f64 atk atj] 113 λae cn=>
    gK cn aX bu c2 1 (a7 cn (some ⟨ae,0,none⟩)) 113 1 16 #[.complex .f64 0 0] λbh bI dn=>
    ο (decide (0<=t6)) (
     ο (decide (t6<(8:Int))) (
      ed dn (Addr.add ⟨t4,16,none⟩ (t6.toNat*1)) (.slice bh (bu+1) bI) λdX=>
      (hJ cb b8 ck t3 t4 t6 t7 t14 y5 y4 AP t49 (IntKind.i64.wrap (t50+1)) dX))))))
def jf.bP(cb:J)(b8 ck t3 t4:Nat)(t6:Int)(t7:Nat)(t14:Int)(w:World)(R:aq)(a8:J->Nat->Nat->Nat->Nat->Int->ao):Prop:=
 ∃(gv:ag),gv.size=2/\aw w.drew ⟨t7,0,none⟩ gv.toList/\
 (∃cm,w.drew.cell? ⟨t7,1,none⟩=some (.int .i64 cm)/\
  (ο (decide (0<=(IntKind.i64.wrap (2*cm)))) (
   ο (decide ((IntKind.i64.wrap (2*cm))<=((b8:Nat):Int))) (
    ο (decide (0<=t6)) (
     ο (decide (t6<(8:Int))) (
      ο (decide (gv.size=2)) (
       bG w.drew (Addr.add ⟨t4,0,none⟩ (t6.toNat*2)) gv.toList λeA=>
       (eA.cell? ⟨t7,1,none⟩=some (.int .i64 cm)/\
        (a8 (du cb ck ((IntKind.i64.wrap (2*cm)).toNat) 1) (b8-(IntKind.i64.wrap (2*cm)).toNat) (ck-(IntKind.i64.wrap (2*cm)).toNat) t3 t4 (IntKind.i64.wrap (t14+1)) eA)))))))))
def jf.θ(cb:J)(b8 ck t3 t4:Nat)(t6:Int)(t7:Nat)(t14:Int)(y5:J)(y4 AP:Nat)(t49 t50:Int)(w:World)(R:aq)(a8:J->Nat->Nat->Nat->Nat->Int->ao)(hJ:J->Nat->Nat->Nat->Nat->Int->Nat->Int->J->Nat->Nat->Int->Int->ao):Prop:=
 cond (decide (t50<t49)) (
  ο (decide (0<=t50)) (
   ο (decide (t50<((y4:Nat):Int))) (
    ξ y5 λd3=>
    ∃aI,w.cell? (d3.add (t50.toNat*1))=some (.int .i64 aI)/\
    (cond (decide (aI>0)) (
     ∃aV,w.cell? ⟨t3,1,none⟩=some (.int .i64 aV)/\
     (κ prog 135 #[(IntKind.i64.wrap (aI-1)),aV] w (λv4 cf=>
      b0 v4 λeI=>
      ξ (eI[0]?) λv5=>
      lq v5 λcG m1=>
      ξ (eI[1]?) λv6=>
      br .i64 v6 λcg=>
      cond (cg !=0) (
       ∃(cE:ag),cE.size=24/\aw cf ⟨t4,0,none⟩ cE.toList/\
       (ο (decide (cE.size=24)) (
        bG cf ⟨t4,0,none⟩ cE.toList λcA=>
        (∃(dM:ag),dM.size=24/\aw cA ⟨t4,0,none⟩ dM.toList/\
         (R (.returned (.tuple #[.agg dM,.bool false])) cA))))) (
       jf.a1 cb b8 ck t3 t4 t6 t7 cG m1 t14 y5 y4 AP t49 t50 cf R a8 hJ)) (au R))) (
     jf.a1 cb b8 ck t3 t4 t6 t7 13830554455654793216 0 t14 y5 y4 AP t49 t50 w R a8 hJ))))) (
  jf.bP cb b8 ck t3 t4 t6 t7 t14 w R a8)
def jf.fG:=apz jf.θ
def jf.cd(cb:J)(b8 ck t4:Nat)(w:World)(R:aq):Prop:=
 ∃(gM:ag),gM.size=24/\aw w ⟨t4,0,none⟩ gM.toList/\
 (ο (decide (gM.size=24)) (
  bG w ⟨t4,0,none⟩ gM.toList λeR=>
  (∃(gN:ag),gN.size=24/\aw eR ⟨t4,0,none⟩ gN.toList/\
   (R (.returned (.tuple #[.agg gN,.bool (((b8:Nat):Int)==0)])) eR))))
def jf.δ(cb:J)(b8 ck t3 t4:Nat)(t14:Int)(w:World)(R:aq)(a8:J->Nat->Nat->Nat->Nat->Int->ao):Prop:=
 cond (decide (t14<8)) (
  cond (decide (((b8:Nat):Int)<2)) (
   ∃(aK:ag),aK.size=24/\aw w ⟨t4,0,none⟩ aK.toList/\
   (ο (decide (aK.size=24)) (
     bG w ⟨t4,0,none⟩ aK.toList λaa=>
     (∃(bF:ag),bF.size=24/\aw aa ⟨t4,0,none⟩ bF.toList/\
      (R (.returned (.tuple #[.agg bF,.bool false])) aa))))) (
   ο (decide (0<((b8:Nat):Int))) (
    ξ cb λd1=>
    ∃ζ,w.drew.cell? d1=some (.int .u8 ζ)/\
    (ο (decide (1<((b8:Nat):Int))) (
      ξ cb λd2=>
      ∃σ,w.drew.cell? (d2.add 1)=some (.int .u8 σ)/\
      (aN w.drew #[(0:Int),(0:Int)] 84 λaF az=>
       (Value.agg #[(IntKind.i64.wrap ζ),(IntKind.i64.wrap σ)])=(.agg #[(IntKind.i64.wrap ζ),(IntKind.i64.wrap σ)])/\
       (az.cell? (d2.add 1)=some (.int .u8 σ)/\
        (az.cell? d1=some (.int .u8 ζ)/\
         (bG az ⟨aF,0,none⟩ [(.int .i64 (IntKind.i64.wrap ζ)),(.int .i64 (IntKind.i64.wrap σ))] λaE=>
          (ο (decide (2<=((b8:Nat):Int))) (
           ∃ad,aE.cell? ⟨aF,1,none⟩=some (.int .i64 ad)/\
           (cond (decide ((((b8-2):Nat):Int)<(IntKind.i64.wrap (2*ad)))) (
            ∃(bZ:ag),bZ.size=24/\aw aE ⟨t4,0,none⟩ bZ.toList/\
            (ο (decide (bZ.size=24)) (
            bG aE ⟨t4,0,none⟩ bZ.toList λba=>
            (∃(bW:ag),bW.size=24/\aw ba ⟨t4,0,none⟩ bW.toList/\
            (R (.returned (.tuple #[.agg bW,.bool false])) ba))))) (
            ∃aA,aE.cell? ⟨aF,1,none⟩=some (.int .i64 aA)/\
            (ο (decide (0<=(IntKind.i64.wrap (2*aA)))) (
            ο (decide ((IntKind.i64.wrap (2*aA))<=(((ck-2):Nat):Int))) (
            κ prog 180 #[.slice (du (du cb ck 2 1) (ck-2) 0 1) ((IntKind.i64.wrap (2*aA)).toNat) (ck-2),(2:Int)] aE (λv1 bm=>
            b0 v1 λbN=>
            ξ (bN[0]?) λv2=>
            cN v2 λab ay c1=>
            ξ (bN[1]?) λv3=>
            br .i64 v3 λak=>
            jf.fG (du cb ck 2 1) (b8-2) (ck-2) t3 t4 t14 aF t14 ab ay c1 ((ay:Nat):Int) 0 bm R a8) (au R))))))))))))))))) (
  jf.cd cb b8 ck t4 w R)
def jf.bd:=ph jf.δ
def jf.main(bC:J)(aY bx:Nat)(eM eN:Int)(w:World)(R:aq):Prop:=
 aN w #[eM,eN] 28 λδ γ=>
 aN γ #[(0:Int),(0:Int),(0:Int),(0:Int),(0:Int),(0:Int),(0:Int),(0:Int),(0:Int),(0:Int),(0:Int),(0:Int),(0:Int),(0:Int),(0:Int),(0:Int),.slice none 0 0,.slice none 0 0,.slice none 0 0,.slice none 0 0,.slice none 0 0,.slice none 0 0,.slice none 0 0,.slice none 0 0] 89 λθ τ=>
 jf.bd bC aY bx δ θ 0 τ R
abbrev jf.C(bC:J)(aY bx:Nat)(eM eN:Int):=Calls prog 149 #[.slice bC aY bx,.agg #[eM,eN]]
theorem jf.ok:wz jf.main jf.C:=λ{_ _ _ _ _ _ R}h=>fc func149 [.cell 4 89,.tmp 5] 92 (.seq .leaf (.cut [(0,.slice),(4,.cY)] (jf.cd · · · · · R) (.seq .leaf (.block (.loop [(0,.slice),(3,.cY),(4,.cY),(14,.int .i64)] (jf.bd · · · · · · · R) λa8=>(.seq .leaf (.seq .leaf (.seq (.block (.seq .leaf (.seq .leaf (.seq .leaf (.seq .leaf (.seq .leaf (.seq .leaf (.cut [(0,.slice),(3,.cY),(4,.cY),(6,.int .i64),(7,.cY),(14,.int .i64)] (jf.bP · · · · · · · · · R a8) (.seq .leaf (.block (.loop [(0,.slice),(3,.cY),(4,.cY),(6,.int .i64),(7,.cY),(14,.int .i64),(48,.slice),(49,.int .i64),(50,.int .i64)] (jf.fG · · · · · · · · · · · · · · R a8) λhJ=>(.seq .leaf (.seq .leaf (.seq (.block (.seq .leaf (.seq .leaf (.cut [(0,.slice),(3,.cY),(4,.cY),(6,.int .i64),(7,.cY),(12,.pP),(14,.int .i64),(48,.slice),(49,.int .i64),(50,.int .i64)] (jf.a1 · · · · · · · · · · · · · · · · R a8 hJ) .leaf .leaf)))) .leaf)))))) .leaf)))))))) .leaf)))))) .leaf)) h
def tr.δ(cb:J)(b8 ck:Nat)(lW:J)(lV py:Nat)(t12 t13:Int)(w:World)(R:aq)(a8:J->Nat->Nat->J->Nat->Nat->Int->Int->ao):Prop:=
 cond (decide (t13<t12)) (
  ο (decide (0<=t13)) (
   ο (decide (t13<((b8:Nat):Int))) (
    ξ cb λd1=>
    ∃ζ,w.cell? (d1.add (t13.toNat*1))=some (.int .u8 ζ)/\
    (ο (decide (0<=t13)) (
     ο (decide (t13<((lV:Nat):Int))) (
      ξ lW λd2=>
      ∃σ,w.cell? (d2.add (t13.toNat*1))=some (.int .u8 σ)/\
      (∀a1:Nat,
       cond (ζ !=σ) (
        R (.returned (.bool false)) (w.drewN a1)) (
        a8 cb b8 ck lW lV py t12 (IntKind.i64.wrap (t13+1)) (w.drewN a1))))))))) (
  R (.returned (.bool true)) w)
def tr.bd:=Hy tr.δ
def tr.main(bC:J)(aY bx:Nat)(gg:J)(e1 gk:Nat)(w:World)(R:aq):Prop:=
 cond (((aY:Nat):Int)!=((e1:Nat):Int)) (
  R (.returned (.bool false)) w) (
  tr.bd bC aY bx gg e1 gk ((aY:Nat):Int) 0 w R)
abbrev tr.C(bC:J)(aY bx:Nat)(gg:J)(e1 gk:Nat):=Calls prog 151 #[.slice bC aY bx,.slice gg e1 gk]
theorem tr.ok:xY tr.main tr.C:=λ{_ _ _ _ _ _ _ R}h=>fc func151 [.tmp 4] 26 (.seq .leaf (.seq .leaf (.seq (.seq .leaf (.block (.loop [(0,.slice),(1,.slice),(12,.int .i64),(13,.int .i64)] (tr.bd · · · · · · · · · R) λa8=>.leaf))) .leaf))) h
def Dv.main(bC:J)(aY bx:Nat)(w:World)(R:aq):Prop:=
 aN w #[(0:Int),(0:Int),(0:Int),(0:Int),.complex .f64 0 0] 155 λδ γ=>
 cond (((aY:Nat):Int)!=5) (
  bG γ ⟨δ,0,none⟩ [(.int .i64 0),(.int .i64 0),(.int .i64 0),(.int .i64 0),(.complex .f64 0 0)] λτ=>
  (∃(aK:ag),aK.size=5/\aw τ ⟨δ,0,none⟩ aK.toList/\
   (R (.returned (.tuple #[.agg aK,(6:Int)])) τ))) (
  ο (decide (0<((aY:Nat):Int))) (
   ξ bC λd1=>
   ∃ζ,γ.drew.cell? d1=some (.int .u8 ζ)/\
   (ο (decide (1<((aY:Nat):Int))) (
    ξ bC λd2=>
    ∃σ,γ.drew.cell? (d2.add 1)=some (.int .u8 σ)/\
    (ο (decide (1<((aY:Nat):Int))) (
     ξ bC λd3=>
     ∃ad,γ.drew.cell? (d3.add 1)=some (.int .u8 ad)/\
     (ο (decide (2<((aY:Nat):Int))) (
      ξ bC λd4=>
      ∃aA,γ.drew.cell? (d4.add 2)=some (.int .u8 aA)/\
      (ο (decide (3<((aY:Nat):Int))) (
       ξ bC λd5=>
       ∃ak,γ.drew.cell? (d5.add 3)=some (.int .u8 ak)/\
       (ο (decide (4<((aY:Nat):Int))) (
        ξ bC λd6=>
        ∃aI,γ.drew.cell? (d6.add 4)=some (.int .u8 aI)/\
        (aN γ.drew #[(0:Int),(0:Int),(0:Int),(0:Int),.complex .f64 0 0] 155 λθ aa=>
        (Value.agg #[(IntKind.i64.wrap ζ),(IntKind.i64.wrap (Int.fdiv σ (2^(min 4 IntKind.u8.bits)))),(IntKind.i64.wrap (IntKind.u8.wrap (BitVec.ofInt IntKind.u8.bits ad&&&BitVec.ofInt IntKind.u8.bits 15).toNat)),(IntKind.i64.wrap aA),.complex .f64 (FloatKind.f64.nearest ak) (FloatKind.f64.nearest aI)])=(.agg #[(IntKind.i64.wrap ζ),(IntKind.i64.wrap (Int.fdiv σ (2^(min 4 IntKind.u8.bits)))),(IntKind.i64.wrap (IntKind.u8.wrap (BitVec.ofInt IntKind.u8.bits ad&&&BitVec.ofInt IntKind.u8.bits 15).toNat)),(IntKind.i64.wrap aA),.complex .f64 (FloatKind.f64.nearest ak) (FloatKind.f64.nearest aI)])/\
        (aa.cell? (d6.add 4)=some (.int .u8 aI)/\
        (aa.cell? (d5.add 3)=some (.int .u8 ak)/\
        (aa.cell? (d4.add 2)=some (.int .u8 aA)/\
        (aa.cell? (d3.add 1)=some (.int .u8 ad)/\
        (aa.cell? (d2.add 1)=some (.int .u8 σ)/\
        (aa.cell? d1=some (.int .u8 ζ)/\
        (bG aa ⟨θ,0,none⟩ [(.int .i64 (IntKind.i64.wrap ζ)),(.int .i64 (IntKind.i64.wrap (Int.fdiv σ (2^(min 4 IntKind.u8.bits))))),(.int .i64 (IntKind.i64.wrap (IntKind.u8.wrap (BitVec.ofInt IntKind.u8.bits ad&&&BitVec.ofInt IntKind.u8.bits 15).toNat))),(.int .i64 (IntKind.i64.wrap aA)),(.complex .f64 (FloatKind.f64.nearest ak) (FloatKind.f64.nearest aI))] λaz=>
        (∃(bF:ag),bF.size=5/\aw az ⟨θ,0,none⟩ bF.toList/\
        (κ prog 155 #[.agg bF] az (λv1 aE=>
        br .i64 v1 λaV=>
        cond (aV !=0) (
        bG aE ⟨δ,0,none⟩ [(.int .i64 0),(.int .i64 0),(.int .i64 0),(.int .i64 0),(.complex .f64 0 0)] λbm=>
        (∃(bZ:ag),bZ.size=5/\aw bm ⟨δ,0,none⟩ bZ.toList/\
        (R (.returned (.tuple #[.agg bZ,(2:Int)])) bm))) (
        ∃(bW:ag),bW.size=5/\aw aE ⟨θ,0,none⟩ bW.toList/\
        (ο (decide (bW.size=5)) (
        bG aE ⟨δ,0,none⟩ bW.toList λb5=>
        (∃(cE:ag),cE.size=5/\aw b5 ⟨δ,0,none⟩ cE.toList/\
        (R (.returned (.tuple #[.agg cE,(0:Int)])) b5)))))) (au R)))))))))))))))))))))))
abbrev Dv.C(bC:J)(aY bx:Nat):=Calls prog 152 #[.slice bC aY bx]
theorem Dv.ok:iB Dv.main Dv.C:=λh=>dg func152 [.cell 2 155,.tmp 3] 42 h
def pw.a1(jk:J)(hX iV:Nat)(w:World)(R:aq):Prop:=
 κ prog 173 #[.slice jk hX iV] w (λfJ cA=>
  b0 fJ λhY=>
  ξ (hY[0]?) λbj=>
  cN bj λfH dB iC=>
  ξ (hY[1]?) λv9=>
  br .i64 v9 λad=>
  R (.returned (.tuple #[.slice fH dB iC,ad])) cA) (au R)
def pw.δ(jk:J)(hX iV:Nat)(y3:J)(y2 Cn:Nat)(t29 t30:Int)(w:World)(R:aq)(a8:J->Nat->Nat->J->Nat->Nat->Int->Int->ao):Prop:=
 cond (decide (t30<t29)) (
  ο (decide (0<=t30)) (
   ο (decide (t30<((y2:Nat):Int))) (
    ξ y3 λd1=>
    ∃(aK:ag),aK.size=5/\aw w (d1.add (t30.toNat*5)) aK.toList/\
    (aN w #[(0:Int),(0:Int),(0:Int),(0:Int),.complex .f64 0 0] 155 λaF ba=>
     ο (decide (aK.size=5)) (
      bG ba ⟨aF,0,none⟩ aK.toList λbm=>
      (∃(bF:ag),bF.size=5/\aw bm ⟨aF,0,none⟩ bF.toList/\
       (κ prog 181 #[.agg bF] bm (λv4 b5=>
        b0 v4 λeI=>
        ξ (eI[0]?) λv5=>
        cN v5 λbh bu bI=>
        ξ (eI[1]?) λv6=>
        br .i64 v6 λσ=>
        cond (σ !=0) (
         R (.returned (.tuple #[.slice none 0 0,σ])) b5) (
         gK b5 jk hX iV bu (a7 b5 bh) 5 1 1 #[.int .u8 0] λeg hs c6=>
         a8 eg (hX+bu) hs y3 y2 Cn t29 (IntKind.i64.wrap (t30+1)) c6)) (au R)))))))) (
  pw.a1 jk hX iV w R)
def pw.bd:=Hy pw.δ
def pw.main(a0 ar:Int)(iW:J)(et jZ:Nat)(w:World)(R:aq):Prop:=
 aN w #[a0] 3 λδ γ=>
 κ prog 174 #[(4:Int),.slice (some ⟨δ,0,none⟩) 1 1] γ (λv1 τ=>
  b0 v1 λbN=>
  ξ (bN[0]?) λv2=>
  cN v2 λab ay c1=>
  ξ (bN[1]?) λv3=>
  br .i64 v3 λζ=>
  aN τ #[.int .u8 (IntKind.u8.wrap ar),.int .u8 (IntKind.u8.wrap ((et:Nat):Int))] 5 λθ az=>
  gK az ab ay c1 2 (a7 az (some ⟨θ,0,none⟩)) 5 1 1 #[.int .u8 0] λaX c2 aE=>
  pw.bd aX (ay+2) c2 iW et jZ ((et:Nat):Int) 0 aE R) (au R)
abbrev pw.C(a0 ar:Int)(iW:J)(et jZ:Nat):=Calls prog 153 #[a0,ar,.slice iW et jZ]
theorem pw.ok:wz pw.main pw.C:=λ{_ _ _ _ _ _ R}h=>fc func153 [.tmp 6,.tmp 7] 50 (.seq .leaf (.seq .leaf (.seq .leaf (.cut [(8,.slice)] (pw.a1 · · · · R) (.seq .leaf (.block (.loop [(8,.slice),(28,.slice),(29,.int .i64),(30,.int .i64)] (pw.bd · · · · · · · · · R) λa8=>.leaf))) .leaf)))) h
def Da.main(bC:J)(aY bx:Nat)(gg:J)(e1 gk:Nat)(w:World)(R:aq):Prop:=
 ∃(oL:an),oL.length=aY/\a7 w bC (oL.map (.int .u8))/\
 (∃(Ez:an),Ez.length=e1/\a7 w gg (Ez.map (.int .u8))/\
  (R (.returned (.bool ((strOf oL).toList==(strOf Ez).toList))) w))
abbrev Da.C(bC:J)(aY bx:Nat)(gg:J)(e1 gk:Nat):=Calls prog 154 #[.slice bC aY bx,.slice gg e1 gk]
theorem Da.ok:xY Da.main Da.C:=λh=>dg func154 [.tmp 4] 10 h
def Du.main(fg fW oi oj:Int)(wD wC:Nat)(w:World)(R:aq):Prop:=
 aN w #[fg,fW,oi,oj,.complex .f64 wD wC] 155 λδ γ=>
 ∃ζ,γ.cell? ⟨δ,0,none⟩=some (.int .i64 ζ)/\
 (κ prog 112 #[ζ,(1:Int),(6:Int)] γ (λv1 τ=>
  dw v1 λθ=>
  cond (!θ) (
   R (.returned (.int .i64 1)) τ) (
   ∃(aK:ag),aK.size=5/\aw τ ⟨δ,0,none⟩ aK.toList/\
   (κ prog 182 #[.agg aK] τ (λv2 az=>
    b0 v2 λbN=>
    ξ (bN[0]?) λv3=>
    dq v3 λbF=>
    ξ (bN[1]?) λv4=>
    dw v4 λaF=>
    aN az #[(0:Int),(0:Int),(0:Int),(0:Int),.complex .f64 0 0] 155 λae ba=>
    ο (decide (bF.size=5)) (
     bG ba ⟨ae,0,none⟩ bF.toList λbm=>
     (cond (!aF) (
      R (.returned (.int .i64 5)) bm) (
      ∃σ,bm.cell? ⟨ae,2,none⟩=some (.int .i64 σ)/\
      (cond (σ !=0) (
       R (.returned (.int .i64 2)) bm) (
       ∃ad,bm.cell? ⟨ae,3,none⟩=some (.int .i64 ad)/\
       (cond (ad !=0) (
        R (.returned (.int .i64 2)) bm) (
        ∃cG m1,bm.cell? ⟨ae,4,none⟩=some (.complex .f64 cG m1)/\
        (cond (!(ek .eql cG 0&&ek .eql m1 0)) (
        R (.returned (.int .i64 2)) bm) (
        R (.returned (.int .i64 0)) bm)))))))))) (au R)))) (au R))
abbrev Du.C(fg fW oi oj:Int)(wD wC:Nat):=Calls prog 155 #[.agg #[fg,fW,oi,oj,.complex .f64 wD wC]]
theorem Du.ok:xY Du.main Du.C:=λh=>dg func155 [.tmp 2] 31 h
def tT.main(a0:Nat)(ar:Int)(w:World)(R:aq):Prop:=
 cond (ek .geq a0 0) (
  cond (ek .lss a0 (FloatKind.f64.nearest ar)) (
   ξ ((FloatKind.f64.decode a0).toInt .zero) λζ=>
   ο (decide (IntKind.i64.min<=ζ)) (
    ο (decide (ζ<=IntKind.i64.max)) (
     R (.returned (.bool (ek .eql (FloatKind.f64.nearest ζ) a0))) w))) (
   R (.returned (.bool false)) w)) (
  R (.returned (.bool false)) w)
abbrev tT.C(a0:Nat)(ar:Int):=Calls prog 157 #[.float .f64 a0,ar]
theorem tT.ok:jL tT.main tT.C:=λh=>dg func157 [.tmp 4] 20 h
def Gb.main(a0:J)(ar:Int)(w:World)(R:aq):Prop:=
 ξ a0 λd1=>
 ∃ab ay c1,w.cell? (d1.add 1)=some (.slice ab ay c1)/\
 (ο (decide (0<=(IntKind.i64.wrap (Int.tdiv ar 8)))) (
  ο (decide ((IntKind.i64.wrap (Int.tdiv ar 8))<((ay:Nat):Int))) (
   ξ ab λd2=>
   ∃aX,w.cell? (d2.add ((IntKind.i64.wrap (Int.tdiv ar 8)).toNat*1))=some (.pointer aX)/\
   (cond (!(Option.isNone aX)) (
    ξ aX λd3=>
    ο (decide (0<=(Int.tmod ar 8))) (
     ο (decide ((Int.tmod ar 8)<(8:Int))) (
      ∃cG m1,w.cell? (d3.add ((Int.tmod ar 8).toNat*1))=some (.complex .f64 cG m1)/\
      (R (.returned (.complex .f64 cG m1)) w)))) (
    R (.returned (.complex .f64 13830554455654793216 0)) w)))))
abbrev Gb.C(a0:J)(ar:Int):=Calls prog 158 #[.pointer a0,ar]
theorem Gb.ok:jL Gb.main Gb.C:=λh=>dg func158 [.tmp 4] 22 h
def Gd.main(bC:J)(aY bx:Nat)(w:World)(R:aq):Prop:=
 cond (Option.isNone bC) (
  R (.returned (.slice none 0 0)) w) (
  aN w #[] 250 λδ γ=>
  gK γ (some ⟨δ,0,none⟩) 0 0 aY (a7 γ bC) 250 1 8 #[.pointer none] λab c1 τ=>
  R (.returned (.slice ab (0+aY) c1)) τ)
abbrev Gd.C(bC:J)(aY bx:Nat):=Calls prog 159 #[.slice bC aY bx]
theorem Gd.ok:iB Gd.main Gd.C:=λh=>dg func159 [.tmp 2] 8 h
def Iy.main(jn jA:Nat)(w:World)(R:aq):Prop:=
 R (.returned (.bool (!(ek .eql jn 13830554455654793216&&ek .eql jA 0)))) w
abbrev Iy.C(jn jA:Nat):=Calls prog 160 #[.complex .f64 jn jA]
theorem Iy.ok:jL Iy.main Iy.C:=λh=>dg func160 [.tmp 2] 5 h
def Ih.main(fg fW:Int)(w:World)(R:aq):Prop:=
 aN w #[fg,fW] 84 λδ γ=>
 ∃ζ,γ.cell? ⟨δ,0,none⟩=some (.int .i64 ζ)/\
 (R (.returned (.bool (ζ==0))) γ)
abbrev Ih.C(fg fW:Int):=Calls prog 162 #[.agg #[fg,fW]]
theorem Ih.ok:jL Ih.main Ih.C:=λh=>dg func162 [.tmp 2] 6 h
def F9.main(a0:J)(ar:Int)(w:World)(R:aq):Prop:=
 κ prog 116 #[.pointer a0,ar] w (λv1 γ=>
  br .i64 v1 λζ=>
  cond (ζ !=0) (
   R (.returned (.tuple #[.complex .f64 0 0,.bool false,ζ])) γ) (
   κ prog 158 #[.pointer a0,ar] γ (λv2 aa=>
    lq v2 λcG m1=>
    cond (!(ek .eql cG 13830554455654793216&&ek .eql m1 0)) (
     R (.returned (.tuple #[.complex .f64 cG m1,.bool true,(0:Int)])) aa) (
     R (.returned (.tuple #[.complex .f64 0 0,.bool false,(0:Int)])) aa)) (au R))) (au R)
abbrev F9.C(a0:J)(ar:Int):=Calls prog 163 #[.pointer a0,ar]
theorem F9.ok:jL F9.main F9.C:=λh=>dg func163 [.tmp 4,.tmp 5,.tmp 6] 21 h
def CS.main(bC:J)(aY bx:Nat)(ar:Int)(w:World)(R:aq):Prop:=
 aN w #[.slice bC aY bx] 70 λδ γ=>
 aN γ #[ar] 3 λθ τ=>
 ∃ζ,τ.cell? ⟨θ,0,none⟩=some (.int .i64 ζ)/\
 (cond (decide (ζ<1)) (
  R (.panicked [{v:=(.iface 9 (.string (⟨#[99,97,110,110,111,116,32,98,101,32,108,101,115,115,32,116,104,97,110,32,49]⟩:ByteArray))),recovered:=false}]) τ) (
  R (.returned (.func (.func 184) #[] #[.pointer (some ⟨δ,0,none⟩),.pointer (some ⟨θ,0,none⟩)])) τ))
abbrev CS.C(bC:J)(aY bx:Nat)(ar:Int):=Calls prog 164 #[.slice bC aY bx,ar]
theorem CS.ok:kT CS.main CS.C:=λh=>dg func164 [.tmp 4] 9 h
def y9.main(a0:J)(w:World)(R:aq):Prop:=
 cond (Option.isNone a0) (
  R (.returned (.int .i64 0)) w) (
  ξ a0 λd1=>
  ∃ζ,w.cell? d1=some (.int .i64 ζ)/\
  (R (.returned (.int .i64 ζ)) w))
abbrev y9.C(a0:J):=Calls prog 165 #[.pointer a0]
theorem y9.ok:ic y9.main y9.C:=λh=>dg func165 [.tmp 2] 9 h
def CU.main(jn jA ru rr:Nat)(w:World)(R:aq):Prop:=
 κ prog 188 #[.float .f64 jn,.float .f64 ru] w (λv1 γ=>
  br .i64 v1 λζ=>
  κ prog 188 #[.float .f64 jA,.float .f64 rr] γ (λv2 aa=>
   br .i64 v2 λσ=>
   aN aa #[ζ,σ] 3 λδ aE=>
   κ prog 187 #[.slice (some ⟨δ,0,none⟩) 2 2] aE (λv3 ba=>
    br .i64 v3 λad=>
    R (.returned (.int .i64 ad)) ba) (au R)) (au R)) (au R)
abbrev CU.C(jn jA ru rr:Nat):=Calls prog 167 #[.complex .f64 jn jA,.complex .f64 ru rr]
theorem CU.ok:kT CU.main CU.C:=λh=>dg func167 [.tmp 4] 17 h
def Fz.main(bC:J)(aY bx:Nat)(w:World)(R:aq):Prop:=
 ο (decide (0<=((aY:Nat):Int))) (
  ο (decide (((aY:Nat):Int)<=((bx:Nat):Int))) (
   ο (decide (0<=((aY:Nat):Int))) (
    ο (decide (((aY:Nat):Int)<=((aY:Nat):Int))) (
     R (.returned (.slice (du bC aY 0 1) aY aY)) w))))
abbrev Fz.C(bC:J)(aY bx:Nat):=Calls prog 168 #[.slice bC aY bx]
theorem Fz.ok:iB Fz.main Fz.C:=λh=>dg func168 [.tmp 2] 9 h
def mU.a1(cb:J)(b8 ck:Nat)(t3:Int)(w:World)(R:aq)(a8:J->Nat->Nat->Int->ao):Prop:=
 ο (decide (0<=t3)) (
  ο (decide (t3<=((b8:Nat):Int))) (
   Ru w (du cb ck t3.toNat 1) (b8-t3.toNat) #[.complex .f64 0 0] λτ=>
   ο (decide (0<=t3)) (
    ο (decide (t3<=((ck:Nat):Int))) (
     R (.returned (.slice (du cb ck 0 1) t3.toNat ck)) τ))))
def mU.θ(cb:J)(b8 ck:Nat)(t3:Int)(qk:J)(pz uZ:Nat)(t5:Int)(w:World)(R:aq)(a8:J->Nat->Nat->Int->ao)(hJ:J->Nat->Nat->Int->J->Nat->Nat->Int->ao):Prop:=
 cond (decide (t5<((pz:Nat):Int))) (
  ο (decide (0<=t5)) (
   ο (decide (t5<((pz:Nat):Int))) (
    ξ qk λd3=>
    ∃iU m3,w.cell? (d3.add (t5.toNat*1))=some (.complex .f64 iU m3)/\
    (ο (decide (0<=(IntKind.i64.wrap (t5-1)))) (
     ο (decide ((IntKind.i64.wrap (t5-1))<((pz:Nat):Int))) (
      ξ qk λd4=>
      ∃qd m4,w.cell? (d4.add ((IntKind.i64.wrap (t5-1)).toNat*1))=some (.complex .f64 qd m4)/\
      (∀bP:Nat,
       cond (!(ek .eql iU qd&&ek .eql m3 m4)) (
        ο (decide (0<=t5)) (
         ο (decide (t5<((pz:Nat):Int))) (
          ξ qk λd5=>
          ∃Ci m5,(w.drewN bP).cell? (d5.add (t5.toNat*1))=some (.complex .f64 Ci m5)/\
          (ο (decide (0<=t3)) (
           ο (decide (t3<((b8:Nat):Int))) (
           ξ cb λd6=>
           ((w.drewN bP).cell? (d6.add (t3.toNat*1))).isSome=true/\(w.drewN bP).frozen? (d6.add (t3.toNat*1))=false/\∀γ,γ=(w.drewN bP).setCell (d6.add (t3.toNat*1)) (.complex .f64 Ci m5)->
           (hJ cb b8 ck (IntKind.i64.wrap (t3+1)) qk pz uZ (IntKind.i64.wrap (t5+1)) γ))))))) (
        hJ cb b8 ck t3 qk pz uZ (IntKind.i64.wrap (t5+1)) (w.drewN bP))))))))) (
  mU.a1 cb b8 ck t3 w R a8)
def mU.fG:=apB mU.θ
def mU.δ(cb:J)(b8 ck:Nat)(t3:Int)(w:World)(R:aq)(a8:J->Nat->Nat->Int->ao):Prop:=
 cond (decide (t3<((b8:Nat):Int))) (
  ο (decide (0<=t3)) (
   ο (decide (t3<((b8:Nat):Int))) (
    ξ cb λd1=>
    ∃cG m1,w.cell? (d1.add (t3.toNat*1))=some (.complex .f64 cG m1)/\
    (ο (decide (0<=(IntKind.i64.wrap (t3-1)))) (
     ο (decide ((IntKind.i64.wrap (t3-1))<((b8:Nat):Int))) (
      ξ cb λd2=>
      ∃fM m2,w.cell? (d2.add ((IntKind.i64.wrap (t3-1)).toNat*1))=some (.complex .f64 fM m2)/\
      (∀a1:Nat,
       cond (ek .eql cG fM&&ek .eql m1 m2) (
        ο (decide (0<=t3)) (
         ο (decide (t3<=((b8:Nat):Int))) (
          mU.fG cb b8 ck t3 (du cb ck t3.toNat 1) (b8-t3.toNat) (ck-t3.toNat) 1 (w.drewN a1) R a8))) (
        a8 cb b8 ck (IntKind.i64.wrap (t3+1)) (w.drewN a1))))))))) (
  R (.returned (.slice cb b8 ck)) w)
def mU.bd:=Oj mU.δ
def mU.main(bC:J)(aY bx:Nat)(w:World)(R:aq):Prop:=
 cond (decide (((aY:Nat):Int)<2)) (
  R (.returned (.slice bC aY bx)) w) (
  mU.bd bC aY bx 1 w R)
abbrev mU.C(bC:J)(aY bx:Nat):=Calls prog 169 #[.slice bC aY bx]
theorem mU.ok:iB mU.main mU.C:=λ{_ _ _ _ R}h=>fc func169 [.tmp 2] 61 (.seq .leaf (.seq .leaf (.seq (.seq .leaf (.block (.loop [(0,.slice),(3,.int .i64)] (mU.bd · · · · · R) λa8=>(.seq .leaf (.seq (.block (.seq .leaf (.cond (.seq .leaf (.cut [(0,.slice),(3,.int .i64)] (mU.a1 · · · · · R a8) (.seq .leaf (.block (.loop [(0,.slice),(3,.int .i64),(4,.slice),(5,.int .i64)] (mU.fG · · · · · · · · · R a8) λhJ=>.leaf))) .leaf)) .leaf))) .leaf))))) .leaf))) h
def Dj.main(a0 ar:Int)(w:World)(R:aq):Prop:=
 κ prog 176 #[a0] w (λv1 γ=>
  dw v1 λδ=>
  κ prog 176 #[ar] γ (λv2 aa=>
   dw v2 λθ=>
   cond δ (
    cond θ (
     R (.returned (.int .i64 0)) aa) (
     R (.returned (.int .i64 (-1))) aa)) (
    cond θ (
     R (.returned (.int .i64 1)) aa) (
     cond (decide (a0<ar)) (
      R (.returned (.int .i64 (-1))) aa) (
      cond (decide (a0>ar)) (
       R (.returned (.int .i64 1)) aa) (
       R (.returned (.int .i64 0)) aa))))) (au R)) (au R)
abbrev Dj.C(a0 ar:Int):=Calls prog 171 #[a0,ar]
theorem Dj.ok:jL Dj.main Dj.C:=λh=>dg func171 [.tmp 4] 20 h
def Ft.main(bC:J)(aY bx:Nat)(w:World)(R:aq):Prop:=
 cond (decide (((aY:Nat):Int)>60)) (
  R (.returned (.tuple #[.slice none 0 0,(6:Int)])) w) (
  aN w (madeCells #[.int .u8 0] (64*1)) 5 λδ γ=>
  vq γ (some ⟨δ,0,none⟩) 60 bC aY 1 λτ=>
  κ prog 140 #[.slice (some ⟨δ,0,none⟩) 60 64] τ (λv1 aa=>
   br .u32 v1 λζ=>
   aN aa #[.int .u8 (IntKind.u8.wrap (Int.fdiv ζ (2^(min 24 IntKind.u32.bits)))),.int .u8 (IntKind.u8.wrap (Int.fdiv ζ (2^(min 16 IntKind.u32.bits)))),.int .u8 (IntKind.u8.wrap (Int.fdiv ζ (2^(min 8 IntKind.u32.bits)))),.int .u8 (IntKind.u8.wrap ζ)] 5 λθ aE=>
   gK aE (some ⟨δ,0,none⟩) 60 64 4 (a7 aE (some ⟨θ,0,none⟩)) 5 1 1 #[.int .u8 0] λab c1 ba=>
   R (.returned (.tuple #[.slice ab (60+4) c1,(0:Int)])) ba) (au R))
abbrev Ft.C(bC:J)(aY bx:Nat):=Calls prog 173 #[.slice bC aY bx]
theorem Ft.ok:iB Ft.main Ft.C:=λh=>dg func173 [.tmp 2,.tmp 3] 29 h
def sF.δ(t0:Int)(qk:J)(pz uZ:Nat)(jw:J)(jI jH:Nat)(t12 t13:Int)(w:World)(R:aq)(a8:Int->J->Nat->Nat->J->Nat->Nat->Int->Int->ao):Prop:=
 cond (decide (t13<t12)) (
  ο (decide (0<=t13)) (
   ο (decide (t13<((jI:Nat):Int))) (
    ξ jw λd1=>
    ∃ζ,w.cell? (d1.add (t13.toNat*1))=some (.int .i64 ζ)/\
    (κ prog 190 #[.slice qk pz uZ,t0,ζ] w (λv2 aa=>
     b0 v2 λbN=>
     ξ (bN[0]?) λv3=>
     cN v3 λab ay c1=>
     ξ (bN[1]?) λv4=>
     br .i64 v4 λσ=>
     cond (σ !=0) (
      R (.returned (.tuple #[.slice none 0 0,σ])) aa) (
      a8 t0 ab ay c1 jw jI jH t12 (IntKind.i64.wrap (t13+1)) aa)) (au R))))) (
  R (.returned (.tuple #[.slice qk pz uZ,(0:Int)])) w)
def sF.bd:=Ux sF.δ
def sF.main(a0:Int)(gg:J)(e1 gk:Nat)(w:World)(R:aq):Prop:=
 κ prog 189 #[a0] w (λv1 γ=>
  dw v1 λδ=>
  cond (!δ) (
   R (.returned (.tuple #[.slice none 0 0,(1:Int)])) γ) (
   sF.bd a0 none 0 0 gg e1 gk ((e1:Nat):Int) 0 γ R)) (au R)
abbrev sF.C(a0:Int)(gg:J)(e1 gk:Nat):=Calls prog 174 #[a0,.slice gg e1 gk]
theorem sF.ok:kT sF.main sF.C:=λ{_ _ _ _ _ R}h=>fc func174 [.tmp 4,.tmp 5] 29 (.seq .leaf (.seq .leaf (.seq (.seq .leaf (.block (.loop [(0,.int .i64),(4,.slice),(11,.slice),(12,.int .i64),(13,.int .i64)] (sF.bd · · · · · · · · · · R) λa8=>.leaf))) .leaf))) h
def tj.δ(t5:Int)(e7:J)(eV fi:Nat)(t11 t12:Int)(w:World)(R:aq)(a8:Int->J->Nat->Nat->Int->Int->ao):Prop:=
 cond (decide (t12<t11)) (
  ο (decide (0<=t12)) (
   ο (decide (t12<((eV:Nat):Int))) (
    ξ e7 λd1=>
    ∃ζ,w.cell? (d1.add (t12.toNat*1))=some (.int .u8 ζ)/\
    (κ prog 191 #[.int .u32 (IntKind.u32.wrap (BitVec.ofInt IntKind.u32.bits t5^^^BitVec.ofInt IntKind.u32.bits (IntKind.u32.wrap ((IntKind.u32.wrap ζ)*2^(min 24 IntKind.u32.bits)))).toNat)] w (λv1 γ=>
     br .u32 v1 λσ=>
     a8 σ e7 eV fi t11 (IntKind.i64.wrap (t12+1)) γ) (au R))))) (
  R (.returned (.int .u32 (IntKind.u32.wrap (BitVec.ofInt IntKind.u32.bits (if IntKind.u32.signed then-1 else IntKind.u32.max)^^^BitVec.ofInt IntKind.u32.bits t5).toNat))) w)
def tj.bd:=ph tj.δ
def tj.main(a0:Int)(gg:J)(e1 gk:Nat)(w:World)(R:aq):Prop:=
 tj.bd (IntKind.u32.wrap (BitVec.ofInt IntKind.u32.bits (if IntKind.u32.signed then-1 else IntKind.u32.max)^^^BitVec.ofInt IntKind.u32.bits a0).toNat) gg e1 gk ((e1:Nat):Int) 0 w R
abbrev tj.C(a0:Int)(gg:J)(e1 gk:Nat):=Calls prog 175 #[.int .u32 a0,.slice gg e1 gk]
theorem tj.ok:kT tj.main tj.C:=λ{_ _ _ _ _ R}h=>fc func175 [.tmp 4] 25 (.seq .leaf (.seq .leaf (.seq (.seq .leaf (.block (.loop [(5,.int .u32),(10,.slice),(11,.int .i64),(12,.int .i64)] (tj.bd · · · · · · · R) λa8=>.leaf))) .leaf))) h
def cmp_isNaN_int.main(a0:Int)(w:World)(R:aq):Prop:=
 R (.returned (.bool (a0 !=a0))) w
abbrev cmp_isNaN_int.C(a0:Int):=Calls prog 176 #[a0]
theorem cmp_isNaN_int.ok:ic cmp_isNaN_int.main cmp_isNaN_int.C:=λh=>dg func176 [.tmp 2] 6 h
def Es.main(a0 ar:Int)(dP:Nat)(w:World)(R:aq):Prop:=
 ∃ab ay c1,w.cell? ⟨dP,0,none⟩=some (.slice ab ay c1)/\
 (κ prog 179 #[.slice ab ay c1,a0,ar] w (λv1 γ=>
  b0 v1 λbN=>
  ξ (bN[0]?) λv2=>
  br .i64 v2 λζ=>
  ξ (bN[1]?) λv3=>
  br .i64 v3 λσ=>
  R (.returned (.int .i64 ζ)) γ) (au R))
abbrev Es.C(a0 ar:Int)(dP:Nat):=Calls prog 178 #[a0,ar,.pointer (some ⟨dP,0,none⟩)]
theorem Es.ok:iB Es.main Es.C:=λh=>dg func178 [.tmp 5] 16 h
def Dc.main(bC:J)(aY bx:Nat)(ar a2:Int)(w:World)(R:aq):Prop:=
 κ prog 189 #[a2] w (λv1 γ=>
  dw v1 λδ=>
  cond (!δ) (
   R (.returned (.tuple #[(0:Int),(1:Int)])) γ) (
   cond (decide (ar<0)) (
    R (.returned (.tuple #[(0:Int),(3:Int)])) γ) (
    cond (decide (ar>(IntKind.i64.wrap (((aY:Nat):Int)-a2)))) (
     R (.returned (.tuple #[(0:Int),(3:Int)])) γ) (
     ο (decide (0<=(IntKind.i64.wrap (ar+a2)))) (
      ο (decide ((IntKind.i64.wrap (ar+a2))<=((bx:Nat):Int))) (
       ο (decide (0<=ar)) (
        ο (decide (ar<=(((IntKind.i64.wrap (ar+a2)).toNat:Nat):Int))) (
         κ prog 193 #[.slice (du bC bx ar.toNat 1) ((IntKind.i64.wrap (ar+a2)).toNat-ar.toNat) (bx-ar.toNat)] γ (λv2 aa=>
          br .i64 v2 λζ=>
          R (.returned (.tuple #[ζ,(0:Int)])) aa) (au R))))))))) (au R)
abbrev Dc.C(bC:J)(aY bx:Nat)(ar a2:Int):=Calls prog 179 #[.slice bC aY bx,ar,a2]
theorem Dc.ok:wz Dc.main Dc.C:=λh=>dg func179 [.tmp 6,.tmp 7] 30 h
def sG.δ(cb:J)(b8 ck:Nat)(t1:Int)(kC:J)(j4 lE:Nat)(w:World)(R:aq)(a8:J->Nat->Nat->Int->J->Nat->Nat->ao):Prop:=
 cond (decide (((b8:Nat):Int)>0)) (
  ο (decide (0<=t1)) (
   ο (decide (t1<=((ck:Nat):Int))) (
    κ prog 193 #[.slice (du cb ck 0 1) t1.toNat ck] w (λv2 aa=>
     br .i64 v2 λζ=>
     aN aa #[ζ] 3 λθ aE=>
     gK aE kC j4 lE 1 (a7 aE (some ⟨θ,0,none⟩)) 3 1 8 #[(0:Int)] λab c1 ba=>
     ο (decide (0<=t1)) (
      ο (decide (t1<=((b8:Nat):Int))) (
       a8 (du cb ck t1.toNat 1) (b8-t1.toNat) (ck-t1.toNat) t1 ab (j4+1) c1 ba))) (au R)))) (
  R (.returned (.tuple #[.slice kC j4 lE,(0:Int)])) w)
def sG.bd:=Ev sG.δ
def sG.main(bC:J)(aY bx:Nat)(ar:Int)(w:World)(R:aq):Prop:=
 κ prog 189 #[ar] w (λv1 γ=>
  dw v1 λδ=>
  cond (!δ) (
   R (.returned (.tuple #[.slice none 0 0,(1:Int)])) γ) (
   ο (decide (ar≠0)) (
    cond ((Int.tmod ((aY:Nat):Int) ar)!=0) (
     R (.returned (.tuple #[.slice none 0 0,(6:Int)])) γ) (
     sG.bd bC aY bx ar none 0 0 γ R)))) (au R)
abbrev sG.C(bC:J)(aY bx:Nat)(ar:Int):=Calls prog 180 #[.slice bC aY bx,ar]
theorem sG.ok:kT sG.main sG.C:=λ{_ _ _ _ _ R}h=>fc func180 [.tmp 4,.tmp 5] 31 (.seq .leaf (.seq .leaf (.seq .leaf (.seq (.block (.loop [(0,.slice),(1,.int .i64),(6,.slice)] (sG.bd · · · · · · · · R) λa8=>.leaf)) .leaf)))) h
def Dw.main(fg fW oi oj:Int)(wD wC:Nat)(w:World)(R:aq):Prop:=
 aN w #[fg,fW,oi,oj,.complex .f64 wD wC] 155 λδ γ=>
 ∃(aK:ag),aK.size=5/\aw γ ⟨δ,0,none⟩ aK.toList/\
 (κ prog 155 #[.agg aK] γ (λv1 τ=>
  br .i64 v1 λζ=>
  cond (ζ !=0) (
   R (.returned (.tuple #[.slice none 0 0,ζ])) τ) (
   ∃σ,τ.cell? ⟨δ,0,none⟩=some (.int .i64 σ)/\
   (∃ad,τ.cell? ⟨δ,1,none⟩=some (.int .i64 ad)/\
    (∃aA,τ.cell? ⟨δ,2,none⟩=some (.int .i64 aA)/\
     (∃ak,τ.cell? ⟨δ,3,none⟩=some (.int .i64 ak)/\
      (∃cG m1,τ.cell? ⟨δ,4,none⟩=some (.complex .f64 cG m1)/\
       (ξ ((FloatKind.f64.decode cG).toInt .zero) λaI=>
        ο (decide (IntKind.u8.min<=aI)) (
         ο (decide (aI<=IntKind.u8.max)) (
          ∃fM m2,τ.cell? ⟨δ,4,none⟩=some (.complex .f64 fM m2)/\
          (ξ ((FloatKind.f64.decode m2).toInt .zero) λaV=>
           ο (decide (IntKind.u8.min<=aV)) (
            ο (decide (aV<=IntKind.u8.max)) (
            aN τ #[.int .u8 (IntKind.u8.wrap σ),.int .u8 (IntKind.u8.wrap (IntKind.i64.wrap (BitVec.ofInt IntKind.i64.bits (IntKind.i64.wrap (ad*2^(min 4 IntKind.i64.bits)))|||BitVec.ofInt IntKind.i64.bits aA).toNat)),.int .u8 (IntKind.u8.wrap ak),.int .u8 aI,.int .u8 aV] 5 λθ az=>
            R (.returned (.tuple #[.slice (some ⟨θ,0,none⟩) 5 5,(0:Int)])) az)))))))))))) (au R))
abbrev Dw.C(fg fW oi oj:Int)(wD wC:Nat):=Calls prog 181 #[.agg #[fg,fW,oi,oj,.complex .f64 wD wC]]
theorem Dw.ok:xY Dw.main Dw.C:=λh=>dg func181 [.tmp 2,.tmp 3] 32 h
def sN.a1(t1 t2:Nat)(t4:Bool)(w:World)(R:aq):Prop:=
 cond t4 (
  ∃aV,w.cell? ⟨t1,3,none⟩=some (.int .i64 aV)/\
  (κ prog 112 #[aV,(0:Int),(32:Int)] w (λv5 fO=>
    dw v5 λiv=>
    ed fO ⟨t1,3,none⟩ (.int .i64 0) λeD=>
    (∃(jO:ag),jO.size=5/\aw eD ⟨t1,0,none⟩ jO.toList/\
     (ο (decide (jO.size=5)) (
       bG eD ⟨t2,0,none⟩ jO.toList λkR=>
       (∃(j0:ag),j0.size=5/\aw kR ⟨t2,0,none⟩ j0.toList/\
        (R (.returned (.tuple #[.agg j0,.bool iv])) kR)))))) (au R))) (
  ed w ⟨t1,3,none⟩ (.int .i64 0) λfv=>
  (∃(mb:ag),mb.size=5/\aw fv ⟨t1,0,none⟩ mb.toList/\
   (ο (decide (mb.size=5)) (
     bG fv ⟨t2,0,none⟩ mb.toList λj6=>
     (∃(mc:ag),mc.size=5/\aw j6 ⟨t2,0,none⟩ mc.toList/\
      (R (.returned (.tuple #[.agg mc,.bool false])) j6))))))
def sN.main(fg fW oi oj:Int)(wD wC:Nat)(w:World)(R:aq):Prop:=
 aN w #[fg,fW,oi,oj,.complex .f64 wD wC] 155 λδ γ=>
 aN γ #[(0:Int),(0:Int),(0:Int),(0:Int),.complex .f64 0 0] 155 λθ τ=>
 ∃ζ,τ.cell? ⟨δ,1,none⟩=some (.int .i64 ζ)/\
 (κ prog 112 #[ζ,(0:Int),(8:Int)] τ (λv1 aa=>
  dw v1 λaF=>
  ∃σ,aa.cell? ⟨δ,0,none⟩=some (.int .i64 σ)/\
  (cond (σ==1) (
   cond aF (
    ∃ad,aa.cell? ⟨δ,3,none⟩=some (.int .i64 ad)/\
    (κ prog 112 #[ad,(1:Int),(33:Int)] aa (λv2 aE=>
      dw v2 λae=>
      ed aE ⟨δ,3,none⟩ (.int .i64 0) λbm=>
      (∃(bZ:ag),bZ.size=5/\aw bm ⟨δ,0,none⟩ bZ.toList/\
       (ο (decide (bZ.size=5)) (
         bG bm ⟨θ,0,none⟩ bZ.toList λhZ=>
         (∃(bW:ag),bW.size=5/\aw hZ ⟨θ,0,none⟩ bW.toList/\
          (R (.returned (.tuple #[.agg bW,.bool ae])) hZ)))))) (au R))) (
    ed aa ⟨δ,3,none⟩ (.int .i64 0) λb5=>
    (∃(cE:ag),cE.size=5/\aw b5 ⟨δ,0,none⟩ cE.toList/\
     (ο (decide (cE.size=5)) (
       bG b5 ⟨θ,0,none⟩ cE.toList λfw=>
       (∃(dM:ag),dM.size=5/\aw fw ⟨θ,0,none⟩ dM.toList/\
        (R (.returned (.tuple #[.agg dM,.bool false])) fw))))))) (
   cond (σ==2) (
    ∃(gv:ag),gv.size=5/\aw aa ⟨δ,0,none⟩ gv.toList/\
    (ο (decide (gv.size=5)) (
      bG aa ⟨θ,0,none⟩ gv.toList λsq=>
      (∃(gM:ag),gM.size=5/\aw sq ⟨θ,0,none⟩ gM.toList/\
       (R (.returned (.tuple #[.agg gM,.bool aF])) sq))))) (
    cond (σ==3) (
     cond aF (
      ∃aA,aa.cell? ⟨δ,2,none⟩=some (.int .i64 aA)/\
      (κ prog 112 #[aA,(0:Int),(8:Int)] aa (λv3 cf=>
        dw v3 λc8=>
        cond c8 (
         ∃ak,cf.cell? ⟨δ,2,none⟩=some (.int .i64 ak)/\
         (∃aI,cf.cell? ⟨δ,1,none⟩=some (.int .i64 aI)/\
          (ed cf ⟨δ,2,none⟩ (.int .i64 0) λcA=>
           (∃(gN:ag),gN.size=5/\aw cA ⟨δ,0,none⟩ gN.toList/\
           (ο (decide (gN.size=5)) (
           bG cA ⟨θ,0,none⟩ gN.toList λgi=>
           (∃(iE:ag),iE.size=5/\aw gi ⟨θ,0,none⟩ iE.toList/\
           (R (.returned (.tuple #[.agg iE,.bool (ak !=aI)])) gi)))))))) (
         ed cf ⟨δ,2,none⟩ (.int .i64 0) λcn=>
         (∃(jB:ag),jB.size=5/\aw cn ⟨δ,0,none⟩ jB.toList/\
          (ο (decide (jB.size=5)) (
           bG cn ⟨θ,0,none⟩ jB.toList λh0=>
           (∃(kJ:ag),kJ.size=5/\aw h0 ⟨θ,0,none⟩ kJ.toList/\
           (R (.returned (.tuple #[.agg kJ,.bool false])) h0))))))) (au R))) (
      ed aa ⟨δ,2,none⟩ (.int .i64 0) λdn=>
      (∃(mF:ag),mF.size=5/\aw dn ⟨δ,0,none⟩ mF.toList/\
       (ο (decide (mF.size=5)) (
         bG dn ⟨θ,0,none⟩ mF.toList λhP=>
         (∃(mG:ag),mG.size=5/\aw hP ⟨θ,0,none⟩ mG.toList/\
          (R (.returned (.tuple #[.agg mG,.bool false])) hP))))))) (
     cond (σ==4) (
      cond aF (
       ∃cG m1,aa.cell? ⟨δ,4,none⟩=some (.complex .f64 cG m1)/\
       (κ prog 115 #[.complex .f64 cG m1] aa (λv4 dX=>
         dw v4 λfq=>
         ed dX ⟨δ,4,none⟩ (.complex .f64 0 0) λeR=>
         (sN.a1 δ θ fq eR R)) (au R))) (
       ed aa ⟨δ,4,none⟩ (.complex .f64 0 0) λga=>
       (sN.a1 δ θ false ga R))) (
      cond (σ==5) (
       sN.a1 δ θ aF aa R) (
       ∃(aK:ag),aK.size=5/\aw aa ⟨δ,0,none⟩ aK.toList/\
       (ο (decide (aK.size=5)) (
         bG aa ⟨θ,0,none⟩ aK.toList λeJ=>
         (∃(bF:ag),bF.size=5/\aw eJ ⟨θ,0,none⟩ bF.toList/\
          (R (.returned (.tuple #[.agg bF,.bool aF])) eJ))))))))))) (au R))
abbrev sN.C(fg fW oi oj:Int)(wD wC:Nat):=Calls prog 182 #[.agg #[fg,fW,oi,oj,.complex .f64 wD wC]]
theorem sN.ok:xY sN.main sN.C:=λ{_ _ _ _ _ _ _ R}h=>fc func182 [.cell 2 155,.tmp 3] 57 (.seq .leaf (.seq .leaf (.seq (.seq .leaf (.block (.cut [(1,.cY),(2,.cY),(4,.bool)] (sN.a1 · · · · R) .leaf .leaf))) .leaf))) h
def sK.δ(t3:Int)(kC:J)(j4 lE:Nat)(t7 t8:Int)(w:World)(R:aq)(a8:Int->J->Nat->Nat->Int->Int->ao):Prop:=
 cond (decide (t8<t7)) (
  ο (decide (0<=t8)) (
   ο (decide (t8<((j4:Nat):Int))) (
    ξ kC λd1=>
    ∃ζ,w.cell? (d1.add (t8.toNat*1))=some (.int .i64 ζ)/\
    (cond (ζ !=t3) (
     R (.returned (.int .i64 ζ)) w) (
     a8 t3 kC j4 lE t7 (IntKind.i64.wrap (t8+1)) w))))) (
  R (.returned (.int .i64 t3)) w)
def sK.bd:=ph sK.δ
def sK.main(bC:J)(aY bx:Nat)(w:World)(R:aq):Prop:=
 sK.bd 0 bC aY bx ((aY:Nat):Int) 0 w R
abbrev sK.C(bC:J)(aY bx:Nat):=Calls prog 187 #[.slice bC aY bx]
theorem sK.ok:iB sK.main sK.C:=λ{_ _ _ _ R}h=>fc func187 [.tmp 2] 18 (.seq .leaf (.seq .leaf (.seq (.seq .leaf (.block (.loop [(3,.int .i64),(6,.slice),(7,.int .i64),(8,.int .i64)] (sK.bd · · · · · · · R) λa8=>.leaf))) .leaf))) h
def Di.main(a0 ar:Nat)(w:World)(R:aq):Prop:=
 κ prog 206 #[.float .f64 a0] w (λv1 γ=>
  dw v1 λδ=>
  κ prog 206 #[.float .f64 ar] γ (λv2 aa=>
   dw v2 λθ=>
   cond δ (
    cond θ (
     R (.returned (.int .i64 0)) aa) (
     R (.returned (.int .i64 (-1))) aa)) (
    cond θ (
     R (.returned (.int .i64 1)) aa) (
     cond (ek .lss a0 ar) (
      R (.returned (.int .i64 (-1))) aa) (
      cond (ek .gtr a0 ar) (
       R (.returned (.int .i64 1)) aa) (
       R (.returned (.int .i64 0)) aa))))) (au R)) (au R)
abbrev Di.C(a0 ar:Nat):=Calls prog 188 #[.float .f64 a0,.float .f64 ar]
theorem Di.ok:jL Di.main Di.C:=λh=>dg func188 [.tmp 4] 20 h
def Dd.main(a0:Int)(w:World)(R:aq):Prop:=
 cond (decide (a0>=1)) (
  R (.returned (.bool (decide (a0<=4)))) w) (
  R (.returned (.bool false)) w)
abbrev Dd.C(a0:Int):=Calls prog 189 #[a0]
theorem Dd.ok:ic Dd.main Dd.C:=λh=>dg func189 [.tmp 2] 9 h
def ub.δ(cb:J)(b8 ck:Nat)(t2 t8:Int)(w:World)(R:aq)(a8:J->Nat->Nat->Int->Int->ao):Prop:=
 cond (decide (t8>=0)) (
  ο (decide (0<=(IntKind.i64.wrap (8*t8)))) (
   aN w #[.int .u8 (IntKind.u8.wrap (Int.fdiv t2 (2^(min (IntKind.i64.wrap (8*t8)).toNat IntKind.i64.bits))))] 5 λδ γ=>
   gK γ cb b8 ck 1 (a7 γ (some ⟨δ,0,none⟩)) 5 1 1 #[.int .u8 0] λab c1 τ=>
   a8 ab (b8+1) c1 t2 (IntKind.i64.wrap (t8-1)) τ)) (
  R (.returned (.tuple #[.slice cb b8 ck,(0:Int)])) w)
def ub.bd:=Aj ub.δ
def ub.main(bC:J)(aY bx:Nat)(ar a2:Int)(w:World)(R:aq):Prop:=
 cond (decide (a2<0)) (
  R (.returned (.tuple #[.slice none 0 0,(5:Int)])) w) (
  ο (decide (0<=(IntKind.i64.wrap (8*ar)))) (
   cond ((Int.fdiv a2 (2^(min (IntKind.i64.wrap (8*ar)).toNat IntKind.i64.bits)))!=0) (
    R (.returned (.tuple #[.slice none 0 0,(5:Int)])) w) (
    ub.bd bC aY bx a2 (IntKind.i64.wrap (ar-1)) w R)))
abbrev ub.C(bC:J)(aY bx:Nat)(ar a2:Int):=Calls prog 190 #[.slice bC aY bx,ar,a2]
theorem ub.ok:wz ub.main ub.C:=λ{_ _ _ _ _ _ R}h=>fc func190 [.tmp 6,.tmp 7] 33 (.seq .leaf (.seq .leaf (.seq (.seq .leaf (.block (.loop [(0,.slice),(2,.int .i64),(8,.int .i64)] (ub.bd · · · · · · R) λa8=>.leaf))) .leaf))) h
def tk.δ(t0 t4:Int)(w:World)(R:aq)(a8:Int->Int->ao):Prop:=
 cond (decide (t4<8)) (
  a8 (IntKind.u32.wrap (BitVec.ofInt IntKind.u32.bits (IntKind.u32.wrap (t0*2^(min 1 IntKind.u32.bits)))^^^BitVec.ofInt IntKind.u32.bits (IntKind.u32.wrap (79764919*(Int.fdiv t0 (2^(min 31 IntKind.u32.bits)))))).toNat) (IntKind.i64.wrap (t4+1)) w) (
  R (.returned (.int .u32 t0)) w)
def tk.bd:=abZ tk.δ
def tk.main(a0:Int)(w:World)(R:aq):Prop:=
 tk.bd a0 0 w R
abbrev tk.C(a0:Int):=Calls prog 191 #[.int .u32 a0]
theorem tk.ok:ic tk.main tk.C:=λ{_ _ R}h=>fc func191 [.tmp 2] 16 (.seq .leaf (.seq (.seq .leaf (.block (.loop [(0,.int .u32),(4,.int .i64)] (tk.bd · · · R) λa8=>.leaf))) .leaf)) h
def ua.δ(t3:Int)(kC:J)(j4 lE:Nat)(t7 t8:Int)(w:World)(R:aq)(a8:Int->J->Nat->Nat->Int->Int->ao):Prop:=
 cond (decide (t8<t7)) (
  ο (decide (0<=t8)) (
   ο (decide (t8<((j4:Nat):Int))) (
    ξ kC λd1=>
    ∃ζ,w.cell? (d1.add (t8.toNat*1))=some (.int .u8 ζ)/\
    (a8 (IntKind.i64.wrap (BitVec.ofInt IntKind.i64.bits (IntKind.i64.wrap (t3*2^(min 8 IntKind.i64.bits)))|||BitVec.ofInt IntKind.i64.bits (IntKind.i64.wrap ζ)).toNat) kC j4 lE t7 (IntKind.i64.wrap (t8+1)) w)))) (
  R (.returned (.int .i64 t3)) w)
def ua.bd:=ph ua.δ
def ua.main(bC:J)(aY bx:Nat)(w:World)(R:aq):Prop:=
 ua.bd 0 bC aY bx ((aY:Nat):Int) 0 w R
abbrev ua.C(bC:J)(aY bx:Nat):=Calls prog 193 #[.slice bC aY bx]
theorem ua.ok:iB ua.main ua.C:=λ{_ _ _ _ R}h=>fc func193 [.tmp 2] 19 (.seq .leaf (.seq .leaf (.seq (.seq .leaf (.block (.loop [(3,.int .i64),(6,.slice),(7,.int .i64),(8,.int .i64)] (ua.bd · · · · · · · R) λa8=>.leaf))) .leaf))) h
def Dk.main(a0:Nat)(w:World)(R:aq):Prop:=
 R (.returned (.bool (ek .neq a0 a0))) w
abbrev Dk.C(a0:Nat):=Calls prog 206 #[.float .f64 a0]
theorem Dk.ok:ic Dk.main Dk.C:=λh=>dg func206 [.tmp 2] 6 h
def C3.main(a0:J)(w:World)(R:aq):Prop:=
 cond (Option.isNone a0) (
  R (.returned (.int .i64 0)) w) (
  ξ a0 λd1=>
  ∃ab ay c1,w.cell? (d1.add 2)=some (.slice ab ay c1)/\
  (R (.returned (.int .i64 ((ay:Nat):Int))) w))
abbrev C3.C(a0:J):=Calls prog 24 #[.pointer a0]
theorem C3.ok:ic C3.main C3.C:=λh=>dg func24 [.tmp 2] 10 h
def pr.a1(cb:J)(b8 ck:Nat)(t5:Int)(w:World)(R:aq):Prop:=
 ο (decide (0<=t5)) (
  ο (decide (t5<=((b8:Nat):Int))) (
   Ru w (du cb ck t5.toNat 1) (b8-t5.toNat) #[.complex .f64 0 0] λba=>
   ο (decide (0<=t5)) (
    ο (decide (t5<=((ck:Nat):Int))) (
     R (.returned (.slice (du cb ck 0 1) t5.toNat ck)) ba))))
def pr.δ(cb:J)(b8 ck t1:Nat)(t5 t6:Int)(w:World)(R:aq)(a8:J->Nat->Nat->Nat->Int->Int->ao):Prop:=
 cond (decide (t6<((b8:Nat):Int))) (
  ο (decide (0<=t6)) (
   ο (decide (t6<((b8:Nat):Int))) (
    ξ cb λd1=>
    ∃cG m1,w.cell? (d1.add (t6.toNat*1))=some (.complex .f64 cG m1)/\
    (κ prog 94 #[.complex .f64 cG m1,.pointer (some ⟨t1,0,none⟩)] w (λv2 aa=>
     dw v2 λδ=>
     cond (!δ) (
      ο (decide (0<=t5)) (
       ο (decide (t5<((b8:Nat):Int))) (
        ξ cb λd2=>
        ed aa (d2.add (t5.toNat*1)) (.complex .f64 cG m1) λaE=>
        (a8 cb b8 ck t1 (IntKind.i64.wrap (t5+1)) (IntKind.i64.wrap (t6+1)) aE)))) (
      a8 cb b8 ck t1 t5 (IntKind.i64.wrap (t6+1)) aa)) (au R))))) (
  pr.a1 cb b8 ck t5 w R)
def pr.bd:=ph pr.δ
def pr.main(bC:J)(aY bx nJ:Nat)(w:World)(R:aq):Prop:=
 κ prog 131 #[.slice bC aY bx,.func (.func 94) #[] #[.pointer (some ⟨nJ,0,none⟩)]] w (λv1 γ=>
  br .i64 v1 λζ=>
  cond (ζ==(-1)) (
   R (.returned (.slice bC aY bx)) γ) (
   pr.bd bC aY bx nJ ζ (IntKind.i64.wrap (ζ+1)) γ R)) (au R)
abbrev pr.C(bC:J)(aY bx nJ:Nat):=Calls prog 93 #[.slice bC aY bx,.func (.func 94) #[] #[.pointer (some ⟨nJ,0,none⟩)]]
theorem pr.ok:kT pr.main pr.C:=λ{_ _ _ _ _ R}h=>fc func93 [.tmp 4] 42 (.seq .leaf (.seq .leaf (.seq .leaf (.cut [(0,.slice),(5,.int .i64)] (pr.a1 · · · · · R) (.seq .leaf (.block (.loop [(0,.slice),(1,.uo 94),(5,.int .i64),(6,.int .i64)] (pr.bd · · · · · · · R) λa8=>.leaf))) .leaf)))) h
def ts.δ(cb:J)(b8 ck:Nat)(t7 t8:Int)(w:World)(R:aq)(a8:J->Nat->Nat->Int->Int->ao):Prop:=
 cond (decide (t8<t7)) (
  ο (decide (0<=t8)) (
   ο (decide (t8<((b8:Nat):Int))) (
    ξ cb λd1=>
    ∃cG m1,w.cell? (d1.add (t8.toNat*1))=some (.complex .f64 cG m1)/\
    (κ prog 114 #[.complex .f64 cG m1] w (λv1 γ=>
     dw v1 λδ=>
     cond δ (
      R (.returned (.int .i64 t8)) γ) (
      a8 cb b8 ck t7 (IntKind.i64.wrap (t8+1)) γ)) (au R))))) (
  R (.returned (.int .i64 (-1))) w)
def ts.bd:=Aj ts.δ
def ts.main(bC:J)(aY bx:Nat)(w:World)(R:aq):Prop:=
 ts.bd bC aY bx ((aY:Nat):Int) 0 w R
abbrev ts.C(bC:J)(aY bx:Nat):=Calls prog 131 #[.slice bC aY bx,.func (.func 114) #[] #[]]
theorem ts.ok:iB ts.main ts.C:=λ{_ _ _ _ R}h=>fc func131 [.tmp 4] 19 (.seq .leaf (.seq (.seq .leaf (.block (.loop [(0,.slice),(1,.um 114),(7,.int .i64),(8,.int .i64)] (ts.bd · · · · · · R) λa8=>.leaf))) .leaf)) h
def tt.δ(cb:J)(b8 ck t1:Nat)(t7 t8:Int)(w:World)(R:aq)(a8:J->Nat->Nat->Nat->Int->Int->ao):Prop:=
 cond (decide (t8<t7)) (
  ο (decide (0<=t8)) (
   ο (decide (t8<((b8:Nat):Int))) (
    ξ cb λd1=>
    ∃cG m1,w.cell? (d1.add (t8.toNat*1))=some (.complex .f64 cG m1)/\
    (κ prog 125 #[.complex .f64 cG m1,.pointer (some ⟨t1,0,none⟩)] w (λv1 γ=>
     dw v1 λδ=>
     cond δ (
      R (.returned (.int .i64 t8)) γ) (
      a8 cb b8 ck t1 t7 (IntKind.i64.wrap (t8+1)) γ)) (au R))))) (
  R (.returned (.int .i64 (-1))) w)
def tt.bd:=ph tt.δ
def tt.main(bC:J)(aY bx nJ:Nat)(w:World)(R:aq):Prop:=
 tt.bd bC aY bx nJ ((aY:Nat):Int) 0 w R
abbrev tt.C(bC:J)(aY bx nJ:Nat):=Calls prog 131 #[.slice bC aY bx,.func (.func 125) #[] #[.pointer (some ⟨nJ,0,none⟩)]]
theorem tt.ok:kT tt.main tt.C:=λ{_ _ _ _ _ R}h=>fc func131 [.tmp 4] 19 (.seq .leaf (.seq (.seq .leaf (.block (.loop [(0,.slice),(1,.uo 125),(7,.int .i64),(8,.int .i64)] (tt.bd · · · · · · · R) λa8=>.leaf))) .leaf)) h
def tv.δ(cb:J)(b8 ck t1:Nat)(t7 t8:Int)(w:World)(R:aq)(a8:J->Nat->Nat->Nat->Int->Int->ao):Prop:=
 cond (decide (t8<t7)) (
  ο (decide (0<=t8)) (
   ο (decide (t8<((b8:Nat):Int))) (
    ξ cb λd1=>
    ∃cG m1,w.cell? (d1.add (t8.toNat*1))=some (.complex .f64 cG m1)/\
    (κ prog 94 #[.complex .f64 cG m1,.pointer (some ⟨t1,0,none⟩)] w (λv1 γ=>
     dw v1 λδ=>
     cond δ (
      R (.returned (.int .i64 t8)) γ) (
      a8 cb b8 ck t1 t7 (IntKind.i64.wrap (t8+1)) γ)) (au R))))) (
  R (.returned (.int .i64 (-1))) w)
def tv.bd:=ph tv.δ
def tv.main(bC:J)(aY bx nJ:Nat)(w:World)(R:aq):Prop:=
 tv.bd bC aY bx nJ ((aY:Nat):Int) 0 w R
abbrev tv.C(bC:J)(aY bx nJ:Nat):=Calls prog 131 #[.slice bC aY bx,.func (.func 94) #[] #[.pointer (some ⟨nJ,0,none⟩)]]
theorem tv.ok:kT tv.main tv.C:=λ{_ _ _ _ _ R}h=>fc func131 [.tmp 4] 19 (.seq .leaf (.seq (.seq .leaf (.block (.loop [(0,.slice),(1,.uo 94),(7,.int .i64),(8,.int .i64)] (tv.bd · · · · · · · R) λa8=>.leaf))) .leaf)) h
def tu.δ(cb:J)(b8 ck:Nat)(t7 t8:Int)(w:World)(R:aq)(a8:J->Nat->Nat->Int->Int->ao):Prop:=
 cond (decide (t8<t7)) (
  ο (decide (0<=t8)) (
   ο (decide (t8<((b8:Nat):Int))) (
    ξ cb λd1=>
    ∃cG m1,w.cell? (d1.add (t8.toNat*1))=some (.complex .f64 cG m1)/\
    (κ prog 160 #[.complex .f64 cG m1] w (λv1 γ=>
     dw v1 λδ=>
     cond δ (
      R (.returned (.int .i64 t8)) γ) (
      a8 cb b8 ck t7 (IntKind.i64.wrap (t8+1)) γ)) (au R))))) (
  R (.returned (.int .i64 (-1))) w)
def tu.bd:=Aj tu.δ
def tu.main(bC:J)(aY bx:Nat)(w:World)(R:aq):Prop:=
 tu.bd bC aY bx ((aY:Nat):Int) 0 w R
abbrev tu.C(bC:J)(aY bx:Nat):=Calls prog 131 #[.slice bC aY bx,.func (.func 160) #[] #[]]
theorem tu.ok:iB tu.main tu.C:=λ{_ _ _ _ R}h=>fc func131 [.tmp 4] 19 (.seq .leaf (.seq (.seq .leaf (.block (.loop [(0,.slice),(1,.um 160),(7,.int .i64),(8,.int .i64)] (tu.bd · · · · · · R) λa8=>.leaf))) .leaf)) h
def tR.δ(cb:J)(b8 ck:Nat)(t7 t8:Int)(w:World)(R:aq)(a8:J->Nat->Nat->Int->Int->ao):Prop:=
 cond (decide (t8<t7)) (
  ο (decide (0<=t8)) (
   ο (decide (t8<((b8:Nat):Int))) (
    ξ cb λd1=>
    ∃(aK:ag),aK.size=2/\aw w (d1.add (t8.toNat*2)) aK.toList/\
    (κ prog 104 #[.agg aK] w (λv1 γ=>
     dw v1 λδ=>
     cond δ (
      R (.returned (.int .i64 t8)) γ) (
      a8 cb b8 ck t7 (IntKind.i64.wrap (t8+1)) γ)) (au R))))) (
  R (.returned (.int .i64 (-1))) w)
def tR.bd:=Aj tR.δ
def tR.main(bC:J)(aY bx:Nat)(w:World)(R:aq):Prop:=
 tR.bd bC aY bx ((aY:Nat):Int) 0 w R
abbrev tR.C(bC:J)(aY bx:Nat):=Calls prog 145 #[.slice bC aY bx,.func (.func 104) #[] #[]]
theorem tR.ok:iB tR.main tR.C:=λ{_ _ _ _ R}h=>fc func145 [.tmp 4] 19 (.seq .leaf (.seq (.seq .leaf (.block (.loop [(0,.slice),(1,.um 104),(7,.int .i64),(8,.int .i64)] (tR.bd · · · · · · R) λa8=>.leaf))) .leaf)) h
def tS.δ(cb:J)(b8 ck t1:Nat)(t7 t8:Int)(w:World)(R:aq)(a8:J->Nat->Nat->Nat->Int->Int->ao):Prop:=
 cond (decide (t8<t7)) (
  ο (decide (0<=t8)) (
   ο (decide (t8<((b8:Nat):Int))) (
    ξ cb λd1=>
    ∃(aK:ag),aK.size=2/\aw w (d1.add (t8.toNat*2)) aK.toList/\
    (κ prog 105 #[.agg aK,.pointer (some ⟨t1,0,none⟩)] w (λv1 γ=>
     dw v1 λδ=>
     cond δ (
      R (.returned (.int .i64 t8)) γ) (
      a8 cb b8 ck t1 t7 (IntKind.i64.wrap (t8+1)) γ)) (au R))))) (
  R (.returned (.int .i64 (-1))) w)
def tS.bd:=ph tS.δ
def tS.main(bC:J)(aY bx nJ:Nat)(w:World)(R:aq):Prop:=
 tS.bd bC aY bx nJ ((aY:Nat):Int) 0 w R
abbrev tS.C(bC:J)(aY bx nJ:Nat):=Calls prog 145 #[.slice bC aY bx,.func (.func 105) #[] #[.pointer (some ⟨nJ,0,none⟩)]]
theorem tS.ok:kT tS.main tS.C:=λ{_ _ _ _ _ R}h=>fc func145 [.tmp 4] 19 (.seq .leaf (.seq (.seq .leaf (.block (.loop [(0,.slice),(1,.uo 105),(7,.int .i64),(8,.int .i64)] (tS.bd · · · · · · · R) λa8=>.leaf))) .leaf)) h
def tq.δ(lW:J)(lV py:Nat)(sj:J)(si uX:Nat)(t16 t17:Int)(w:World)(R:aq)(a8:J->Nat->Nat->J->Nat->Nat->Int->Int->ao):Prop:=
 cond (decide (t17<t16)) (
  ο (decide (0<=t17)) (
   ο (decide (t17<((si:Nat):Int))) (
    ξ sj λd1=>
    ∃ab ay c1,w.cell? (d1.add (t17.toNat*1))=some (.slice ab ay c1)/\
    (ο (decide (0<=t17)) (
     ο (decide (t17<((lV:Nat):Int))) (
      ξ lW λd2=>
      ∃aX bu c2,w.cell? (d2.add (t17.toNat*1))=some (.slice aX bu c2)/\
      (κ prog 151 #[.slice ab ay c1,.slice aX bu c2] w (λv1 γ=>
       dw v1 λδ=>
       cond (!δ) (
        R (.returned (.bool false)) γ) (
        a8 lW lV py sj si uX t16 (IntKind.i64.wrap (t17+1)) γ)) (au R)))))))) (
  R (.returned (.bool true)) w)
def tq.bd:=Hy tq.δ
def tq.main(bC:J)(aY bx:Nat)(gg:J)(e1 gk:Nat)(w:World)(R:aq):Prop:=
 cond (((aY:Nat):Int)!=((e1:Nat):Int)) (
  R (.returned (.bool false)) w) (
  tq.bd gg e1 gk bC aY bx ((aY:Nat):Int) 0 w R)
abbrev tq.C(bC:J)(aY bx:Nat)(gg:J)(e1 gk:Nat):=Calls prog 150 #[.slice bC aY bx,.slice gg e1 gk,.func (.func 151) #[] #[]]
theorem tq.ok:xY tq.main tq.C:=λ{_ _ _ _ _ _ _ R}h=>fc func150 [.tmp 6] 32 (.seq .leaf (.seq .leaf (.seq (.seq .leaf (.block (.loop [(1,.slice),(2,.um 151),(15,.slice),(16,.int .i64),(17,.int .i64)] (tq.bd · · · · · · · · · R) λa8=>.leaf))) .leaf))) h
def tQ.δ(cb:J)(b8 ck:Nat)(t7 t8:Int)(w:World)(R:aq)(a8:J->Nat->Nat->Int->Int->ao):Prop:=
 cond (decide (t8<t7)) (
  ο (decide (0<=t8)) (
   ο (decide (t8<((b8:Nat):Int))) (
    ξ cb λd1=>
    ∃(aK:ag),aK.size=2/\aw w (d1.add (t8.toNat*2)) aK.toList/\
    (κ prog 162 #[.agg aK] w (λv1 γ=>
     dw v1 λδ=>
     cond δ (
      R (.returned (.int .i64 t8)) γ) (
      a8 cb b8 ck t7 (IntKind.i64.wrap (t8+1)) γ)) (au R))))) (
  R (.returned (.int .i64 (-1))) w)
def tQ.bd:=Aj tQ.δ
def tQ.main(bC:J)(aY bx:Nat)(w:World)(R:aq):Prop:=
 tQ.bd bC aY bx ((aY:Nat):Int) 0 w R
abbrev tQ.C(bC:J)(aY bx:Nat):=Calls prog 161 #[.slice bC aY bx,.func (.func 162) #[] #[]]
theorem tQ.ok:iB tQ.main tQ.C:=λ{_ _ _ _ R}h=>fc func161 [.tmp 4] 19 (.seq .leaf (.seq (.seq .leaf (.block (.loop [(0,.slice),(1,.um 162),(7,.int .i64),(8,.int .i64)] (tQ.bd · · · · · · R) λa8=>.leaf))) .leaf)) h
def tw.δ(cb:J)(b8 ck t1:Nat)(t7 t8:Int)(w:World)(R:aq)(a8:J->Nat->Nat->Nat->Int->Int->ao):Prop:=
 cond (decide (t8<t7)) (
  ο (decide (0<=t8)) (
   ο (decide (t8<((b8:Nat):Int))) (
    ξ cb λd1=>
    ∃ζ,w.cell? (d1.add (t8.toNat*1))=some (.int .i64 ζ)/\
    (κ prog 128 #[ζ,.pointer (some ⟨t1,0,none⟩)] w (λv1 γ=>
     dw v1 λδ=>
     cond δ (
      R (.returned (.int .i64 t8)) γ) (
      a8 cb b8 ck t1 t7 (IntKind.i64.wrap (t8+1)) γ)) (au R))))) (
  R (.returned (.int .i64 (-1))) w)
def tw.bd:=ph tw.δ
def tw.main(bC:J)(aY bx nJ:Nat)(w:World)(R:aq):Prop:=
 tw.bd bC aY bx nJ ((aY:Nat):Int) 0 w R
abbrev tw.C(bC:J)(aY bx nJ:Nat):=Calls prog 170 #[.slice bC aY bx,.func (.func 128) #[] #[.pointer (some ⟨nJ,0,none⟩)]]
theorem tw.ok:kT tw.main tw.C:=λ{_ _ _ _ _ R}h=>fc func170 [.tmp 4] 19 (.seq .leaf (.seq (.seq .leaf (.block (.loop [(0,.slice),(1,.uo 128),(7,.int .i64),(8,.int .i64)] (tw.bd · · · · · · · R) λa8=>.leaf))) .leaf)) h
def tn.δ(t0 t1 t2:Nat)(t4:Int)(w:World)(R:aq)(a8:Nat->Nat->Nat->Int->ao):Prop:=
 ∃ab ay c1,w.cell? ⟨t1,0,none⟩=some (.slice ab ay c1)/\
 (cond (decide (t4<((ay:Nat):Int))) (
  ∃ζ,w.drew.cell? ⟨t2,0,none⟩=some (.int .i64 ζ)/\
  (∃aX bu c2,w.drew.cell? ⟨t1,0,none⟩=some (.slice aX bu c2)/\
   (ο (decide (0<=t4)) (
    ο (decide (t4<=((bu:Nat):Int))) (
     ∃bh dB bI,w.drew.cell? ⟨t1,0,none⟩=some (.slice bh dB bI)/\
     (ο (decide (0<=(IntKind.i64.wrap (t4+(min2 ζ (((bu-t4.toNat):Nat):Int)))))) (
      ο (decide ((IntKind.i64.wrap (t4+(min2 ζ (((bu-t4.toNat):Nat):Int))))<=((bI:Nat):Int))) (
       ο (decide (0<=(IntKind.i64.wrap (t4+(min2 ζ (((bu-t4.toNat):Nat):Int)))))) (
        ο (decide ((IntKind.i64.wrap (t4+(min2 ζ (((bu-t4.toNat):Nat):Int))))<=(((IntKind.i64.wrap (t4+(min2 ζ (((bu-t4.toNat):Nat):Int)))).toNat:Nat):Int))) (
         ο (decide (0<=t4)) (
          ο (decide (t4<=(((IntKind.i64.wrap (t4+(min2 ζ (((bu-t4.toNat):Nat):Int)))).toNat:Nat):Int))) (
          WV prog t0 #[.slice (du bh ((IntKind.i64.wrap (t4+(min2 ζ (((bu-t4.toNat):Nat):Int)))).toNat) t4.toNat 1) ((IntKind.i64.wrap (t4+(min2 ζ (((bu-t4.toNat):Nat):Int)))).toNat-t4.toNat) ((IntKind.i64.wrap (t4+(min2 ζ (((bu-t4.toNat):Nat):Int)))).toNat-t4.toNat)] w.drew λv1 γ=>
          dw v1 λδ=>
          cond (!δ) (
          R (.returned (.tuple #[])) γ) (
          ∃σ,γ.cell? ⟨t2,0,none⟩=some (.int .i64 σ)/\
          (a8 t0 t1 t2 (IntKind.i64.wrap (t4+σ)) γ)))))))))))))) (
  R (.returned (.tuple #[])) w))
def tn.bd:=Oj tn.δ
def tn.main(l dP dQ:Nat)(w:World)(R:aq):Prop:=
 tn.bd l dP dQ 0 w R
abbrev tn.C(l dP dQ:Nat):=CallsIn Fence.wide 0 prog 172 #[.func (.yield l) #[] #[],.pointer (some ⟨dP,0,none⟩),.pointer (some ⟨dQ,0,none⟩)]
theorem tn.ok:iB tn.main tn.C:=λ{_ _ _ _ R}h=>acT func172 [] 31 (.seq .leaf (.block (.loop [(0,.zl),(1,.cY),(2,.cY),(4,.int .i64)] (tn.bd · · · · · R) λa8=>.leaf))) h
def sD.δ(t0 t1 t2:Nat)(t4:Int)(w:World)(R:aq)(a8:Nat->Nat->Nat->Int->ao):Prop:=
 ∃ab ay c1,w.cell? ⟨t1,0,none⟩=some (.slice ab ay c1)/\
 (cond (decide (t4<((ay:Nat):Int))) (
  ∃ζ,w.drew.cell? ⟨t2,0,none⟩=some (.int .i64 ζ)/\
  (∃aX bu c2,w.drew.cell? ⟨t1,0,none⟩=some (.slice aX bu c2)/\
   (ο (decide (0<=t4)) (
    ο (decide (t4<=((bu:Nat):Int))) (
     ∃bh dB bI,w.drew.cell? ⟨t1,0,none⟩=some (.slice bh dB bI)/\
     (ο (decide (0<=(IntKind.i64.wrap (t4+(min2 ζ (((bu-t4.toNat):Nat):Int)))))) (
      ο (decide ((IntKind.i64.wrap (t4+(min2 ζ (((bu-t4.toNat):Nat):Int))))<=((bI:Nat):Int))) (
       ο (decide (0<=(IntKind.i64.wrap (t4+(min2 ζ (((bu-t4.toNat):Nat):Int)))))) (
        ο (decide ((IntKind.i64.wrap (t4+(min2 ζ (((bu-t4.toNat):Nat):Int))))<=(((IntKind.i64.wrap (t4+(min2 ζ (((bu-t4.toNat):Nat):Int)))).toNat:Nat):Int))) (
         ο (decide (0<=t4)) (
          ο (decide (t4<=(((IntKind.i64.wrap (t4+(min2 ζ (((bu-t4.toNat):Nat):Int)))).toNat:Nat):Int))) (
          WV prog t0 #[.slice (du bh ((IntKind.i64.wrap (t4+(min2 ζ (((bu-t4.toNat):Nat):Int)))).toNat) t4.toNat 5) ((IntKind.i64.wrap (t4+(min2 ζ (((bu-t4.toNat):Nat):Int)))).toNat-t4.toNat) ((IntKind.i64.wrap (t4+(min2 ζ (((bu-t4.toNat):Nat):Int)))).toNat-t4.toNat)] w.drew λv1 γ=>
          dw v1 λδ=>
          cond (!δ) (
          R (.returned (.tuple #[])) γ) (
          ∃σ,γ.cell? ⟨t2,0,none⟩=some (.int .i64 σ)/\
          (a8 t0 t1 t2 (IntKind.i64.wrap (t4+σ)) γ)))))))))))))) (
  R (.returned (.tuple #[])) w))
def sD.bd:=Oj sD.δ
def sD.main(l dP dQ:Nat)(w:World)(R:aq):Prop:=
 sD.bd l dP dQ 0 w R
abbrev sD.C(l dP dQ:Nat):=CallsIn Fence.wide 0 prog 184 #[.func (.yield l) #[] #[],.pointer (some ⟨dP,0,none⟩),.pointer (some ⟨dQ,0,none⟩)]
theorem sD.ok:iB sD.main sD.C:=λ{_ _ _ _ R}h=>acT func184 [] 31 (.seq .leaf (.block (.loop [(0,.zl),(1,.cY),(2,.cY),(4,.int .i64)] (sD.bd · · · · · R) λa8=>.leaf))) h
end Go.Proofs.YtcpdfhkhaekekaaGreat.G

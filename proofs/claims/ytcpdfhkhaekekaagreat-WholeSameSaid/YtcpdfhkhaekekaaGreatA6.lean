/- The walk of the functions, and the plain laws of the model: part of the proof. Conditions: none. -/
import Derived.Test.YtcpdfhkhaekekaaGreatA5
set_option linter.unusedVariables false
set_option linter.unusedSimpArgs false
namespace Go.Proofs.YtcpdfhkhaekekaaGreat.G
open Tryz
open Go.bJ
set_option maxRecDepth 100000
def uR.δ(t0:γ)(t1:Int)(fH:γ)(fq fQ:Nat)(t39 t40:Int)(w:World)(R:au)(a1:γ->Int->γ->Nat->Nat->Int->Int->al):Prop:=
 cond (decide (t40<t39)) (
  κ prog 23 #[.pointer t0,(IntKind.i64.wrap ((IntKind.i64.wrap (t1+1))+t40))] w (λv9 bV=>
   b7 v9 λh5=>
   ξ (h5[0]?) λv10=>
   cX v10 λaX bu c2=>
   ξ (h5[1]?) λv11=>
   br .i64 v11 λaM=>
   cond (aM !=0) (
    R (.returned (.tuple #[.slice none 0 0,aM])) bV) (
    aK bV #[.slice aX bu c2] 34 λζ c4=>
    ho c4 fH fq fQ 1 (bd c4 (some ⟨ζ,0,none⟩)) 34 1 24 #[.slice none 0 0] λbj bP cd=>
    a1 t0 t1 bj (fq+1) bP t39 (IntKind.i64.wrap (t40+1)) cd)) (ai R)) (
  R (.returned (.tuple #[.slice fH fq fQ,(0:Int)])) w)
def uR.bb:=DC uR.δ
def uR.main(a0:γ)(aw:Int)(w:World)(R:au):Prop:=
 κ prog 23 #[.pointer a0,aw] w (λv1 ε=>
  b7 v1 λbN=>
  ξ (bN[0]?) λv2=>
  cX v2 λae aD c1=>
  ξ (bN[1]?) λv3=>
  br .i64 v3 λθ=>
  cond (θ !=0) (
   R (.returned (.tuple #[.slice none 0 0,θ])) ε) (
   κ prog 146 #[.slice ae aD c1] ε (λv4 χ=>
    b7 v4 λeY=>
    ξ (eY[0]?) λv5=>
    br .i64 v5 λρ=>
    ξ (eY[1]?) λv6=>
    br .i64 v6 λad=>
    ξ (eY[2]?) λfm=>
    br .i64 fm λaC=>
    cond (aC !=0) (
     R (.returned (.tuple #[.slice none 0 0,(0:Int)])) χ) (
     κ prog 100 #[ad] χ (λa7 an=>
      br .i64 a7 λay=>
      cond (ay !=aw) (
       R (.returned (.tuple #[.slice none 0 0,(0:Int)])) an) (
       aK an #[.slice ae aD c1] 34 λδ a8=>
       uR.bb a0 aw (some ⟨δ,0,none⟩) 1 1 ρ 0 a8 R)) (ai R))) (ai R))) (ai R)
abbrev uR.C(a0:γ)(aw:Int):=Calls prog 106 #[.pointer a0,aw]
theorem uR.ok:kn uR.main uR.C:=λ{_ _ _ R}h=>fo func106 [.tmp 4,.tmp 5] 61 (.seq .leaf (.seq .leaf (.seq .leaf (.seq .leaf (.seq .leaf (.seq .leaf (.seq (.seq .leaf (.block (.loop [(0,.ptr),(1,.int .i64),(10,.slice),(39,.int .i64),(40,.int .i64)] (uR.bb · · · · · · · · R) λa1=>.leaf))) .leaf))))))) h
def p8.aV(cy:γ)(cp cG t2 t3 t6:Nat)(jP:γ)(iD jC:Nat)(w:World)(R:au):Prop:=
 ∃ay,w.cell? ⟨t6,1,none⟩=some (.int .i64 ay)/\
 (∃aM,w.cell? ⟨t6,2,none⟩=some (.int .i64 aM)/\
  (aK w #[(0:Int),(0:Int)] 28 λcu eg=>
   a6 eg ⟨cu,0,none⟩ [(.int .i64 ay),(.int .i64 aM)]/\∀gr,gr=eg.setCells (⟨cu,0,none⟩:Addr).block (⟨cu,0,none⟩:Addr).off [(.int .i64 ay),(.int .i64 aM)]->
   (∃(T2:aj),T2.size=2/\aB gr ⟨cu,0,none⟩ T2.toList/\
    (κ prog 149 #[.slice jP iD jC,.agg T2] gr (λfm eP=>
     b7 fm λh5=>
     ξ (h5[0]?) λa7=>
     cv a7 λT3=>
     ξ (h5[1]?) λv9=>
     dF v9 λdR=>
     aK eP #[(0:Int),(0:Int),(0:Int),(0:Int),(0:Int),(0:Int),(0:Int),(0:Int),(0:Int),(0:Int),(0:Int),(0:Int),(0:Int),(0:Int),(0:Int),(0:Int),.slice none 0 0,.slice none 0 0,.slice none 0 0,.slice none 0 0,.slice none 0 0,.slice none 0 0,.slice none 0 0,.slice none 0 0] 89 λgu fb=>
     ν (decide (T3.size=24)) (
      a6 fb ⟨gu,0,none⟩ T3.toList/\∀eJ,eJ=fb.setCells (⟨gu,0,none⟩:Addr).block (⟨gu,0,none⟩:Addr).off T3.toList->
      (cond (!dR) (
       ∃(K5:aj),K5.size=24/\aB eJ.drew ⟨t2,0,none⟩ K5.toList/\
       (∃(Fg:aj),Fg.size=2/\aB eJ.drew ⟨t3,0,none⟩ Fg.toList/\
        (ν (decide (K5.size=24)) (
          a6 eJ.drew ⟨t2,0,none⟩ K5.toList/\∀gh,gh=eJ.drew.setCells (⟨t2,0,none⟩:Addr).block (⟨t2,0,none⟩:Addr).off K5.toList->
          (ν (decide (Fg.size=2)) (
           aB gh ⟨t3,0,none⟩ Fg.toList/\
           (ν (decide (Fg.size=2)) (
           a6 gh ⟨t3,0,none⟩ Fg.toList/\∀ja,ja=gh.setCells (⟨t3,0,none⟩:Addr).block (⟨t3,0,none⟩:Addr).off Fg.toList->
           (∃(T4:aj),T4.size=24/\aB ja ⟨t2,0,none⟩ T4.toList/\
           (∃(T5:aj),T5.size=2/\aB ja ⟨t3,0,none⟩ T5.toList/\
           (R (.returned (.tuple #[.agg T4,.agg T5,(0:Int),(11:Int)])) ja))))))))))) (
       ∃(T6:aj),T6.size=24/\aB eJ ⟨gu,0,none⟩ T6.toList/\
       (∃(T7:aj),T7.size=2/\aB eJ ⟨cu,0,none⟩ T7.toList/\
        (∃aU,eJ.cell? ⟨t6,0,none⟩=some (.int .i64 aU)/\
         (κ prog 99 #[.agg T6,.agg T7,aU] eJ (λv10 hv=>
           b7 v10 λnT=>
           ξ (nT[0]?) λv11=>
           cX v11 λgp jK jk=>
           ξ (nT[1]?) λv12=>
           br .i64 v12 λcj=>
           cond (cj !=0) (
           ∃(K6:aj),K6.size=24/\aB hv.drew ⟨t2,0,none⟩ K6.toList/\
           (∃(Fh:aj),Fh.size=2/\aB hv.drew ⟨t3,0,none⟩ Fh.toList/\
           (ν (decide (K6.size=24)) (
           a6 hv.drew ⟨t2,0,none⟩ K6.toList/\∀kY,kY=hv.drew.setCells (⟨t2,0,none⟩:Addr).block (⟨t2,0,none⟩:Addr).off K6.toList->
           (ν (decide (Fh.size=2)) (
           aB kY ⟨t3,0,none⟩ Fh.toList/\
           (ν (decide (Fh.size=2)) (
           a6 kY ⟨t3,0,none⟩ Fh.toList/\∀jS,jS=kY.setCells (⟨t3,0,none⟩:Addr).block (⟨t3,0,none⟩:Addr).off Fh.toList->
           (∃(T8:aj),T8.size=24/\aB jS ⟨t2,0,none⟩ T8.toList/\
           (∃(T9:aj),T9.size=2/\aB jS ⟨t3,0,none⟩ T9.toList/\
           (R (.returned (.tuple #[.agg T8,.agg T9,(0:Int),(11:Int)])) jS))))))))))) (
           κ prog 150 #[.slice gp jK jk,.slice cy cp cG,.func (.func 151) #[] #[]] hv (λkA ga=>
           dF kA λkp=>
           cond (!kp) (
           ∃(K7:aj),K7.size=24/\aB ga.drew ⟨t2,0,none⟩ K7.toList/\
           (∃(Fi:aj),Fi.size=2/\aB ga.drew ⟨t3,0,none⟩ Fi.toList/\
           (ν (decide (K7.size=24)) (
           a6 ga.drew ⟨t2,0,none⟩ K7.toList/\∀kZ,kZ=ga.drew.setCells (⟨t2,0,none⟩:Addr).block (⟨t2,0,none⟩:Addr).off K7.toList->
           (ν (decide (Fi.size=2)) (
           aB kZ ⟨t3,0,none⟩ Fi.toList/\
           (ν (decide (Fi.size=2)) (
           a6 kZ ⟨t3,0,none⟩ Fi.toList/\∀jT,jT=kZ.setCells (⟨t3,0,none⟩:Addr).block (⟨t3,0,none⟩:Addr).off Fi.toList->
           (∃(Ua:aj),Ua.size=24/\aB jT ⟨t2,0,none⟩ Ua.toList/\
           (∃(Ub:aj),Ub.size=2/\aB jT ⟨t3,0,none⟩ Ub.toList/\
           (R (.returned (.tuple #[.agg Ua,.agg Ub,(0:Int),(11:Int)])) jT))))))))))) (
           ∃(K8:aj),K8.size=24/\aB ga.drew ⟨gu,0,none⟩ K8.toList/\
           (∃(Fj:aj),Fj.size=2/\aB ga.drew ⟨cu,0,none⟩ Fj.toList/\
           (∃ct,ga.drew.cell? ⟨t6,0,none⟩=some (.int .i64 ct)/\
           (ν (decide (K8.size=24)) (
           a6 ga.drew ⟨t2,0,none⟩ K8.toList/\∀lp,lp=ga.drew.setCells (⟨t2,0,none⟩:Addr).block (⟨t2,0,none⟩:Addr).off K8.toList->
           (lp.cell? ⟨t6,0,none⟩=some (.int .i64 ct)/\
           (ν (decide (Fj.size=2)) (
           aB lp ⟨cu,0,none⟩ Fj.toList/\
           (ν (decide (Fj.size=2)) (
           a6 lp ⟨t3,0,none⟩ Fj.toList/\∀mn,mn=lp.setCells (⟨t3,0,none⟩:Addr).block (⟨t3,0,none⟩:Addr).off Fj.toList->
           (mn.cell? ⟨t6,0,none⟩=some (.int .i64 ct)/\
           (∃(Uc:aj),Uc.size=24/\aB mn ⟨t2,0,none⟩ Uc.toList/\
           (∃(Ud:aj),Ud.size=2/\aB mn ⟨t3,0,none⟩ Ud.toList/\
           (R (.returned (.tuple #[.agg Uc,.agg Ud,ct,(0:Int)])) mn))))))))))))))) (ai R))) (ai R)))))))) (ai R)))))
def p8.δ(cy:γ)(cp cG t2 t3 t6:Nat)(jP:γ)(iD jC:Nat)(N7:γ)(N6 Sj:Nat)(t47 t48:Int)(w:World)(R:au)(a1:γ->Nat->Nat->Nat->Nat->Nat->γ->Nat->Nat->γ->Nat->Nat->Int->Int->al):Prop:=
 cond (decide (t48<t47)) (
  ν (decide (0<=t48)) (
   ν (decide (t48<((N6:Nat):Int))) (
    ξ N7 λd2=>
    ∃aX bu c2,w.cell? (d2.add (t48.toNat*1))=some (.slice aX bu c2)/\
    (κ prog 148 #[.slice aX bu c2] w (λv4 dp=>
     b7 v4 λeY=>
     ξ (eY[0]?) λv5=>
     cX v5 λbj dU bP=>
     ξ (eY[1]?) λv6=>
     br .i64 v6 λρ=>
     cond (ρ !=0) (
      ∃(kR:aj),kR.size=24/\aB dp.drew ⟨t2,0,none⟩ kR.toList/\
      (∃(pR:aj),pR.size=2/\aB dp.drew ⟨t3,0,none⟩ pR.toList/\
       (ν (decide (kR.size=24)) (
        a6 dp.drew ⟨t2,0,none⟩ kR.toList/\∀dP,dP=dp.drew.setCells (⟨t2,0,none⟩:Addr).block (⟨t2,0,none⟩:Addr).off kR.toList->
        (ν (decide (pR.size=2)) (
          aB dP ⟨t3,0,none⟩ pR.toList/\
          (ν (decide (pR.size=2)) (
           a6 dP ⟨t3,0,none⟩ pR.toList/\∀eO,eO=dP.setCells (⟨t3,0,none⟩:Addr).block (⟨t3,0,none⟩:Addr).off pR.toList->
           (∃(sT:aj),sT.size=24/\aB eO ⟨t2,0,none⟩ sT.toList/\
           (∃(Fc:aj),Fc.size=2/\aB eO ⟨t3,0,none⟩ Fc.toList/\
           (R (.returned (.tuple #[.agg sT,.agg Fc,(0:Int),(11:Int)])) eO))))))))))) (
      ν (decide (5<((dU:Nat):Int))) (
       ξ bj λd3=>
       ∃ad,dp.cell? (d3.add 5)=some (.int .u8 ad)/\
       (cond (decide (ad>52)) (
        ∃(x4:aj),x4.size=24/\aB dp.drew ⟨t2,0,none⟩ x4.toList/\
        (∃(sU:aj),sU.size=2/\aB dp.drew ⟨t3,0,none⟩ sU.toList/\
         (ν (decide (x4.size=24)) (
           a6 dp.drew ⟨t2,0,none⟩ x4.toList/\∀eE,eE=dp.drew.setCells (⟨t2,0,none⟩:Addr).block (⟨t2,0,none⟩:Addr).off x4.toList->
           (ν (decide (sU.size=2)) (
           aB eE ⟨t3,0,none⟩ sU.toList/\
           (ν (decide (sU.size=2)) (
           a6 eE ⟨t3,0,none⟩ sU.toList/\∀ey,ey=eE.setCells (⟨t3,0,none⟩:Addr).block (⟨t3,0,none⟩:Addr).off sU.toList->
           (∃(Fe:aj),Fe.size=24/\aB ey ⟨t2,0,none⟩ Fe.toList/\
           (∃(Ff:aj),Ff.size=2/\aB ey ⟨t3,0,none⟩ Ff.toList/\
           (R (.returned (.tuple #[.agg Fe,.agg Ff,(0:Int),(11:Int)])) ey))))))))))) (
        ν (decide (5<((dU:Nat):Int))) (
         ξ bj λd4=>
         ∃aC,dp.cell? (d4.add 5)=some (.int .u8 aC)/\
         (ν (decide (0<=(IntKind.u8.wrap (6+aC)))) (
           ν (decide ((IntKind.u8.wrap (6+aC))<=((bP:Nat):Int))) (
           ν (decide (6<=(((IntKind.u8.wrap (6+aC)).toNat:Nat):Int))) (
           ho dp jP iD jC ((IntKind.u8.wrap (6+aC)).toNat-6) (bd dp (dL bj bP 6 1)) 5 1 1 #[.int .u8 0] λeo h0 dM=>
           a1 cy cp cG t2 t3 t6 eo (iD+((IntKind.u8.wrap (6+aC)).toNat-6)) h0 N7 N6 Sj t47 (IntKind.i64.wrap (t48+1)) dM)))))))))) (ai R))))) (
  p8.aV cy cp cG t2 t3 t6 jP iD jC w R)
def p8.bb:=ar7 p8.δ
def p8.main(bG:γ)(bf bD:Nat)(w:World)(R:au):Prop:=
 aK w #[(0:Int),(0:Int),(0:Int),(0:Int),(0:Int),(0:Int),(0:Int),(0:Int),(0:Int),(0:Int),(0:Int),(0:Int),(0:Int),(0:Int),(0:Int),(0:Int),.slice none 0 0,.slice none 0 0,.slice none 0 0,.slice none 0 0,.slice none 0 0,.slice none 0 0,.slice none 0 0,.slice none 0 0] 89 λδ ε=>
 aK ε #[(0:Int),(0:Int)] 28 λζ υ=>
 cond (((bf:Nat):Int)==0) (
  ∃(aE:aj),aE.size=24/\aB υ.drew ⟨δ,0,none⟩ aE.toList/\
  (∃(bz:aj),bz.size=2/\aB υ.drew ⟨ζ,0,none⟩ bz.toList/\
   (ν (decide (aE.size=24)) (
     a6 υ.drew ⟨δ,0,none⟩ aE.toList/\∀χ,χ=υ.drew.setCells (⟨δ,0,none⟩:Addr).block (⟨δ,0,none⟩:Addr).off aE.toList->
     (ν (decide (bz.size=2)) (
       aB χ ⟨ζ,0,none⟩ bz.toList/\
       (ν (decide (bz.size=2)) (
         a6 χ ⟨ζ,0,none⟩ bz.toList/\∀ao,ao=χ.setCells (⟨ζ,0,none⟩:Addr).block (⟨ζ,0,none⟩:Addr).off bz.toList->
         (∃(bO:aj),bO.size=24/\aB ao ⟨δ,0,none⟩ bO.toList/\
          (∃(bC:aj),bC.size=2/\aB ao ⟨ζ,0,none⟩ bC.toList/\
           (R (.returned (.tuple #[.agg bO,.agg bC,(0:Int),(11:Int)])) ao))))))))))) (
  cond (decide (((bf:Nat):Int)>12)) (
   ∃(b0:aj),b0.size=24/\aB υ.drew ⟨δ,0,none⟩ b0.toList/\
   (∃(dr:aj),dr.size=2/\aB υ.drew ⟨ζ,0,none⟩ dr.toList/\
    (ν (decide (b0.size=24)) (
      a6 υ.drew ⟨δ,0,none⟩ b0.toList/\∀an,an=υ.drew.setCells (⟨δ,0,none⟩:Addr).block (⟨δ,0,none⟩:Addr).off b0.toList->
      (ν (decide (dr.size=2)) (
        aB an ⟨ζ,0,none⟩ dr.toList/\
        (ν (decide (dr.size=2)) (
          a6 an ⟨ζ,0,none⟩ dr.toList/\∀aZ,aZ=an.setCells (⟨ζ,0,none⟩:Addr).block (⟨ζ,0,none⟩:Addr).off dr.toList->
          (∃(fu:aj),fu.size=24/\aB aZ ⟨δ,0,none⟩ fu.toList/\
           (∃(fD:aj),fD.size=2/\aB aZ ⟨ζ,0,none⟩ fD.toList/\
            (R (.returned (.tuple #[.agg fu,.agg fD,(0:Int),(11:Int)])) aZ))))))))))) (
   ν (decide (0<((bf:Nat):Int))) (
    ξ bG λd1=>
    ∃ae aD c1,υ.cell? d1=some (.slice ae aD c1)/\
    (κ prog 147 #[.slice ae aD c1] υ (λv1 a8=>
      b7 v1 λbN=>
      ξ (bN[0]?) λv2=>
      cv v2 λfE=>
      ξ (bN[1]?) λv3=>
      dF v3 λax=>
      aK a8 #[(0:Int),(0:Int),(0:Int),(0:Int),(0:Int)] 234 λaa bW=>
      ν (decide (fE.size=5)) (
       a6 bW ⟨aa,0,none⟩ fE.toList/\∀c4,c4=bW.setCells (⟨aa,0,none⟩:Addr).block (⟨aa,0,none⟩:Addr).off fE.toList->
       (cond (!ax) (
         ∃(hJ:aj),hJ.size=24/\aB c4.drew ⟨δ,0,none⟩ hJ.toList/\
         (∃(hK:aj),hK.size=2/\aB c4.drew ⟨ζ,0,none⟩ hK.toList/\
          (ν (decide (hJ.size=24)) (
            a6 c4.drew ⟨δ,0,none⟩ hJ.toList/\∀cd,cd=c4.drew.setCells (⟨δ,0,none⟩:Addr).block (⟨δ,0,none⟩:Addr).off hJ.toList->
            (ν (decide (hK.size=2)) (
             aB cd ⟨ζ,0,none⟩ hK.toList/\
             (ν (decide (hK.size=2)) (
             a6 cd ⟨ζ,0,none⟩ hK.toList/\∀cm,cm=cd.setCells (⟨ζ,0,none⟩:Addr).block (⟨ζ,0,none⟩:Addr).off hK.toList->
             (∃(kb:aj),kb.size=24/\aB cm ⟨δ,0,none⟩ kb.toList/\
             (∃(kO:aj),kO.size=2/\aB cm ⟨ζ,0,none⟩ kO.toList/\
             (R (.returned (.tuple #[.agg kb,.agg kO,(0:Int),(11:Int)])) cm))))))))))) (
         ∃θ,c4.cell? ⟨aa,3,none⟩=some (.int .i64 θ)/\
         (cond (θ !=(IntKind.i64.wrap (((bf:Nat):Int)-1))) (
           ∃(kP:aj),kP.size=24/\aB c4.drew ⟨δ,0,none⟩ kP.toList/\
           (∃(iG:aj),iG.size=2/\aB c4.drew ⟨ζ,0,none⟩ iG.toList/\
            (ν (decide (kP.size=24)) (
             a6 c4.drew ⟨δ,0,none⟩ kP.toList/\∀cE,cE=c4.drew.setCells (⟨δ,0,none⟩:Addr).block (⟨δ,0,none⟩:Addr).off kP.toList->
             (ν (decide (iG.size=2)) (
             aB cE ⟨ζ,0,none⟩ iG.toList/\
             (ν (decide (iG.size=2)) (
             a6 cE ⟨ζ,0,none⟩ iG.toList/\∀da,da=cE.setCells (⟨ζ,0,none⟩:Addr).block (⟨ζ,0,none⟩:Addr).off iG.toList->
             (∃(iH:aj),iH.size=24/\aB da ⟨δ,0,none⟩ iH.toList/\
             (∃(kQ:aj),kQ.size=2/\aB da ⟨ζ,0,none⟩ kQ.toList/\
             (R (.returned (.tuple #[.agg iH,.agg kQ,(0:Int),(11:Int)])) da))))))))))) (
           ν (decide (1<=((bf:Nat):Int))) (
            p8.bb bG bf bD δ ζ aa none 0 0 (dL bG bD 1 1) (bf-1) (bD-1) (((bf-1):Nat):Int) 0 c4 R))))))) (ai R)))))
abbrev p8.C(bG:γ)(bf bD:Nat):=Calls prog 107 #[.slice bG bf bD]
theorem p8.ok:ji p8.main p8.C:=λ{_ _ _ _ R}h=>fo func107 [.cell 2 89,.cell 3 28,.tmp 4,.tmp 5] 113 (.seq .leaf (.seq .leaf (.seq .leaf (.seq .leaf (.seq .leaf (.cut [(0,.slice),(2,.cA),(3,.cA),(6,.cA),(8,.slice)] (p8.aV · · · · · · · · · · R) (.seq .leaf (.block (.loop [(0,.slice),(2,.cA),(3,.cA),(6,.cA),(8,.slice),(46,.slice),(47,.int .i64),(48,.int .i64)] (p8.bb · · · · · · · · · · · · · · · R) λa1=>.leaf))) .leaf)))))) h
def qQ.aV(cy:γ)(cp cG:Nat)(t1 t2:Int)(fH:γ)(fq fQ:Nat)(w:World)(R:au):Prop:=
 κ prog 153 #[t1,t2,.slice fH fq fQ] w (λfm bW=>
  b7 fm λh5=>
  ξ (h5[0]?) λa7=>
  cX a7 λbj bu bP=>
  ξ (h5[1]?) λv9=>
  br .i64 v9 λaM=>
  cond (aM==0) (
   κ prog 154 #[.slice bj bu bP,.slice cy cp cG] bW (λv10 cd=>
    dF v10 λax=>
    R (.returned (.tuple #[.slice fH fq fQ,.bool ax])) cd) (ai R)) (
   R (.returned (.tuple #[.slice fH fq fQ,.bool false])) bW)) (ai R)
def qQ.δ(cy:γ)(cp cG:Nat)(t1 t2:Int)(jP:γ)(iD jC:Nat)(fH:γ)(fq fQ:Nat)(t37 t38:Int)(w:World)(R:au)(a1:γ->Nat->Nat->Int->Int->γ->Nat->Nat->γ->Nat->Nat->Int->Int->al):Prop:=
 cond (decide (t38<t37)) (
  ν (decide (0<=(IntKind.i64.wrap ((IntKind.i64.wrap (6+(IntKind.i64.wrap (5*t38))))+5)))) (
   ν (decide ((IntKind.i64.wrap ((IntKind.i64.wrap (6+(IntKind.i64.wrap (5*t38))))+5))<=((jC:Nat):Int))) (
    ν (decide (0<=(IntKind.i64.wrap (6+(IntKind.i64.wrap (5*t38)))))) (
     ν (decide ((IntKind.i64.wrap (6+(IntKind.i64.wrap (5*t38))))<=(((IntKind.i64.wrap ((IntKind.i64.wrap (6+(IntKind.i64.wrap (5*t38))))+5)).toNat:Nat):Int))) (
      κ prog 152 #[.slice (dL jP jC ((IntKind.i64.wrap (6+(IntKind.i64.wrap (5*t38)))).toNat) 1) ((IntKind.i64.wrap ((IntKind.i64.wrap (6+(IntKind.i64.wrap (5*t38))))+5)).toNat-(IntKind.i64.wrap (6+(IntKind.i64.wrap (5*t38)))).toNat) (jC-(IntKind.i64.wrap (6+(IntKind.i64.wrap (5*t38)))).toNat)] w (λv4 χ=>
       b7 v4 λeY=>
       ξ (eY[0]?) λv5=>
       cv v5 λaE=>
       ξ (eY[1]?) λv6=>
       br .i64 v6 λay=>
       aK χ #[(0:Int),(0:Int),(0:Int),(0:Int),.complex .f64 0 0] 155 λδ an=>
       ν (decide (aE.size=5)) (
        a6 an ⟨δ,0,none⟩ aE.toList/\∀aZ,aZ=an.setCells (⟨δ,0,none⟩:Addr).block (⟨δ,0,none⟩:Addr).off aE.toList->
        (cond (ay !=0) (
         R (.returned (.tuple #[.slice none 0 0,.bool false])) aZ) (
         ∃(bz:aj),bz.size=5/\aB aZ ⟨δ,0,none⟩ bz.toList/\
         (ξ (Instr.fill (λi=>some (i*5,5)) (madeCells #[(0:Int),(0:Int),(0:Int),(0:Int),.complex .f64 0 0] (1*5)) [(0,(.agg bz))]) λbO=>
          aK aZ bO 155 λζ a8=>
          ho a8 fH fq fQ 1 (bd a8 (some ⟨ζ,0,none⟩)) 155 5 48 #[(0:Int),(0:Int),(0:Int),(0:Int),.complex .f64 0 0] λaX c2 bV=>
          a1 cy cp cG t1 t2 jP iD jC aX (fq+1) c2 t37 (IntKind.i64.wrap (t38+1)) bV))))) (ai R)))))) (
  qQ.aV cy cp cG t1 t2 fH fq fQ w R)
def qQ.bb:=QM qQ.δ
def qQ.main(bG:γ)(bf bD:Nat)(aw a2:Int)(w:World)(R:au):Prop:=
 κ prog 148 #[.slice bG bf bD] w (λv1 ε=>
  b7 v1 λbN=>
  ξ (bN[0]?) λv2=>
  cX v2 λae aD c1=>
  ξ (bN[1]?) λv3=>
  br .i64 v3 λθ=>
  cond (θ !=0) (
   R (.returned (.tuple #[.slice none 0 0,.bool false])) ε) (
   ν (decide (5<((aD:Nat):Int))) (
    ξ ae λd1=>
    ∃ρ,ε.cell? (d1.add 5)=some (.int .u8 ρ)/\
    (cond (decide (ρ<1)) (
     R (.returned (.tuple #[.slice none 0 0,.bool false])) ε) (
     ν (decide (5<((aD:Nat):Int))) (
      ξ ae λd2=>
      ∃ad,ε.cell? (d2.add 5)=some (.int .u8 ad)/\
      (cond (decide (ad>6)) (
       R (.returned (.tuple #[.slice none 0 0,.bool false])) ε) (
       ν (decide (5<((aD:Nat):Int))) (
        ξ ae λd3=>
        ∃aC,ε.cell? (d3.add 5)=some (.int .u8 aC)/\
        (qQ.bb bG bf bD aw a2 ae aD c1 none 0 0 (IntKind.i64.wrap aC) 0 ε R)))))))))) (ai R)
abbrev qQ.C(bG:γ)(bf bD:Nat)(aw a2:Int):=Calls prog 108 #[.slice bG bf bD,aw,a2]
theorem qQ.ok:vg qQ.main qQ.C:=λ{_ _ _ _ _ _ R}h=>fo func108 [.tmp 6,.tmp 7] 76 (.seq .leaf (.seq .leaf (.seq .leaf (.seq .leaf (.cut [(0,.slice),(1,.int .i64),(2,.int .i64),(10,.slice)] (qQ.aV · · · · · · · · · R) (.seq .leaf (.block (.loop [(0,.slice),(1,.int .i64),(2,.int .i64),(8,.slice),(10,.slice),(37,.int .i64),(38,.int .i64)] (qQ.bb · · · · · · · · · · · · · · R) λa1=>.leaf))) .leaf))))) h
def la.ζ(t3:Option Nat)(t4:Int)(t10:aj)(t11:Int)(tC:γ)(tB wj:Nat)(t16 t17:Int)(w:World)(R:au)(a1:Option Nat->aj->Int->al)(gi:Option Nat->Int->aj->Int->γ->Nat->Nat->Int->Int->al):Prop:=
 cond (decide (t17<t16)) (
  ν (decide (0<=t17)) (
   ν (decide (t17<((tB:Nat):Int))) (
    ξ tC λd1=>
    ∃cM m1,w.cell? (d1.add (t17.toNat*1))=some (.complex .f64 cM m1)/\
    (cond (!(eQ .eql cM 13830554455654793216&&eQ .eql m1 0)) (
     aK w #[t4,t17] 221 λax χ=>
     ξ t3 λaa=>
     QO prog χ aa cM m1 213 (.slice none 0 0) λv2 st1 ao=>
     cX v2 λaX bu c2=>
     ho ao aX bu c2 1 (bd ao (some ⟨ax,0,none⟩)) 221 2 16 #[(0:Int),(0:Int)] λbj bP an=>
     ξ t3 λcu=>
     QP an cu st1 (.slice bj (bu+1) bP) λaZ=>
     gi t3 t4 t10 t11 tC tB wj t16 (IntKind.i64.wrap (t17+1)) aZ) (
     gi t3 t4 t10 t11 tC tB wj t16 (IntKind.i64.wrap (t17+1)) w))))) (
  a1 t3 t10 (IntKind.i64.wrap (t11+1)) w)
def la.eZ:=asa la.ζ
def la.δ(t3:Option Nat)(t10:aj)(t11:Int)(w:World)(R:au)(a1:Option Nat->aj->Int->al):Prop:=
 cond (decide (t11<8)) (
  ν (decide (0<=t11)) (
   ν (decide (t11<(8:Int))) (
    ξ (t10[(t11.toNat*1)]?) λv1=>
    cX v1 λae aD c1=>
    la.eZ t3 t11 t10 t11 ae aD c1 ((aD:Nat):Int) 0 w R a1))) (
  R (.returned (.map t3)) w)
def la.bb:=DB la.δ
def la.main(a0:aj)(w:World)(R:au):Prop:=
 aK w a0 89 λδ ε=>
 aeB ε λζ υ=>
 ∃(aE:aj),aE.size=8/\aB υ ⟨δ,16,none⟩ aE.toList/\
 (la.bb (some ζ) aE 0 υ R)
abbrev la.C(a0:aj):=Calls prog 110 #[.agg a0]
theorem la.ok:iS la.main la.C:=λ{_ _ R}h=>fo func110 [.tmp 2] 37 (.seq .leaf (.seq .leaf (.seq (.seq .leaf (.block (.loop [(3,.map),(10,.agg),(11,.int .i64)] (la.bb · · · · R) λa1=>(.seq .leaf (.seq .leaf (.seq (.block (.seq .leaf (.seq .leaf (.block (.loop [(3,.map),(4,.int .i64),(10,.agg),(11,.int .i64),(15,.slice),(16,.int .i64),(17,.int .i64)] (la.eZ · · · · · · · · · · R a1) λgi=>.leaf))))) .leaf)))))) .leaf))) h
def wh.δ(cy:γ)(cp cG:Nat)(t1 t7 t8:Int)(w:World)(R:au)(a1:γ->Nat->Nat->Int->Int->Int->al):Prop:=
 cond (decide (t8<t7)) (
  ν (decide (0<=t8)) (
   ν (decide (t8<((cp:Nat):Int))) (
    ξ cy λd1=>
    ∃θ,w.cell? (d1.add (t8.toNat*1))=some (.int .i64 θ)/\
    (cond (t1==θ) (
     R (.returned (.int .i64 t8)) w) (
     a1 cy cp cG t1 t7 (IntKind.i64.wrap (t8+1)) w))))) (
  R (.returned (.int .i64 (-1))) w)
def wh.bb:=oc wh.δ
def wh.main(bG:γ)(bf bD:Nat)(aw:Int)(w:World)(R:au):Prop:=
 wh.bb bG bf bD aw ((bf:Nat):Int) 0 w R
abbrev wh.C(bG:γ)(bf bD:Nat)(aw:Int):=Calls prog 111 #[.slice bG bf bD,aw]
theorem wh.ok:lu wh.main wh.C:=λ{_ _ _ _ _ R}h=>fo func111 [.tmp 4] 19 (.seq .leaf (.seq (.seq .leaf (.block (.loop [(0,.slice),(1,.int .i64),(7,.int .i64),(8,.int .i64)] (wh.bb · · · · · · · R) λa1=>.leaf))) .leaf)) h
def zG.main(a0 aw a2:Int)(w:World)(R:au):Prop:=
 cond (decide (a0>=aw)) (
  R (.returned (.bool (decide (a0<a2)))) w) (
  R (.returned (.bool false)) w)
abbrev zG.C(a0 aw a2:Int):=Calls prog 112 #[a0,aw,a2]
theorem zG.ok:ji zG.main zG.C:=λh=>dA func112 [.tmp 6] 15 h
def wg.main(bG:γ)(bf bD:Nat)(aw:Value)(w:World)(R:au):Prop:=
 κ prog 131 #[.slice bG bf bD,aw] w (λv1 ε=>
  br .i64 v1 λθ=>
  R (.returned (.bool (decide (θ>=0)))) ε) (ai R)
abbrev wg.C(bG:γ)(bf bD:Nat)(aw:Value):=Calls prog 113 #[.slice bG bf bD,aw]
theorem wg.ok:lu wg.main wg.C:=λh=>dA func113 [.tmp 4] 9 h
def Fs.main(jU ka:Nat)(w:World)(R:au):Prop:=
 cond (!(eQ .eql jU 13830554455654793216&&eQ .eql ka 0)) (
  κ prog 115 #[.complex .f64 jU ka] w (λv1 ε=>
   dF v1 λδ=>
   R (.returned (.bool (!δ))) ε) (ai R)) (
  R (.returned (.bool false)) w)
abbrev Fs.C(jU ka:Nat):=Calls prog 114 #[.complex .f64 jU ka]
theorem Fs.ok:kn Fs.main Fs.C:=λh=>dA func114 [.tmp 2] 10 h
def zz.main(jU ka:Nat)(w:World)(R:au):Prop:=
 κ prog 157 #[.float .f64 jU,(24:Int)] w (λv1 ε=>
  dF v1 λδ=>
  cond δ (
   κ prog 157 #[.float .f64 ka,(16:Int)] ε (λv2 χ=>
    dF v2 λζ=>
    R (.returned (.bool ζ)) χ) (ai R)) (
   R (.returned (.bool false)) ε)) (ai R)
abbrev zz.C(jU ka:Nat):=Calls prog 115 #[.complex .f64 jU ka]
theorem zz.ok:kn zz.main zz.C:=λh=>dA func115 [.tmp 2] 11 h
def H7.main(a0:γ)(aw:Int)(w:World)(R:au):Prop:=
 cond (Option.isNone a0) (
  R (.returned (.int .i64 1)) w) (
  cond (decide (aw<0)) (
   R (.returned (.int .i64 5)) w) (
   ξ a0 λd1=>
   ∃θ,w.cell? d1=some (.int .i64 θ)/\
   (cond (decide (aw>=θ)) (
    R (.returned (.int .i64 5)) w) (
    R (.returned (.int .i64 0)) w))))
abbrev H7.C(a0:γ)(aw:Int):=Calls prog 116 #[.pointer a0,aw]
theorem H7.ok:kn H7.main H7.C:=λh=>dA func116 [.tmp 4] 19 h
def nn.bK(t0:γ)(t1:Int)(sw sv t7:Nat)(t9:Int)(w:World)(R:au):Prop:=
 ν (decide (0<=(Int.tmod t1 8))) (
  ν (decide ((Int.tmod t1 8)<(8:Int))) (
   (w.cell? (Addr.add ⟨t7,0,none⟩ ((Int.tmod t1 8).toNat*1))).isSome=true/\w.frozen? (Addr.add ⟨t7,0,none⟩ ((Int.tmod t1 8).toNat*1))=false/\∀c4,c4=w.setCell (Addr.add ⟨t7,0,none⟩ ((Int.tmod t1 8).toNat*1)) (.complex .f64 sw sv)->
   (ξ t0 λd6=>
    ∃ρ,c4.drew.cell? d6=some (.int .i64 ρ)/\
    (ξ t0 λd7=>
     ∃gp jK h0,c4.drew.cell? (d7.add 1)=some (.slice gp jK h0)/\
     (κ prog 159 #[.slice gp jK h0] c4.drew (λv3 cd=>
      cX v3 λkh ti jk=>
      cd.cell? d6=some (.int .i64 ρ)/\
      (aK cd #[ρ,.slice kh ti jk] 203 λax cE=>
       ∃rG n6 sS,cE.cell? ⟨ax,1,none⟩=some (.slice rG n6 sS)/\
       (ν (decide (0<=t9)) (
        ν (decide (t9<((n6:Nat):Int))) (
         ξ rG λd8=>
         (cE.cell? (d8.add (t9.toNat*1))).isSome=true/\cE.frozen? (d8.add (t9.toNat*1))=false/\∀da,da=cE.setCell (d8.add (t9.toNat*1)) (.pointer (some ⟨t7,0,none⟩))->
         (κ prog 113 #[.slice (dL (some ⟨t7,0,none⟩) 8 0 1) 8 8,.func (.func 160) #[] #[]] da (λv4 dp=>
          dF v4 λaa=>
          cond (!aa) (
          ∃jv n7 oy,dp.cell? ⟨ax,1,none⟩=some (.slice jv n7 oy)/\
          (ν (decide (0<=t9)) (
          ν (decide (t9<((n7:Nat):Int))) (
          ξ jv λd9=>
          (dp.cell? (d9.add (t9.toNat*1))).isSome=true/\dp.frozen? (d9.add (t9.toNat*1))=false/\∀dP,dP=dp.setCell (d9.add (t9.toNat*1)) (.pointer none)->
          (R (.returned (.pointer (some ⟨ax,0,none⟩))) dP))))) (
          R (.returned (.pointer (some ⟨ax,0,none⟩))) dp)) (ai R))))))) (ai R))))))
def nn.aV(t0:γ)(t1:Int)(sw sv t7:Nat)(w:World)(R:au):Prop:=
 ξ t0 λd3=>
 ∃bj dU bP,w.cell? (d3.add 1)=some (.slice bj dU bP)/\
 (ν (decide (0<=(IntKind.i64.wrap (Int.tdiv t1 8)))) (
  ν (decide ((IntKind.i64.wrap (Int.tdiv t1 8))<((dU:Nat):Int))) (
   ξ bj λd4=>
   ∃eo,w.cell? (d4.add ((IntKind.i64.wrap (Int.tdiv t1 8)).toNat*1))=some (.pointer eo)/\
   (cond (!(Option.isNone eo)) (
    ξ eo λd5=>
    ∃(aE:aj),aE.size=8/\aB w d5 aE.toList/\
    (ν (decide (aE.size=8)) (
     a6 w ⟨t7,0,none⟩ aE.toList/\∀bW,bW=w.setCells (⟨t7,0,none⟩:Addr).block (⟨t7,0,none⟩:Addr).off aE.toList->
     (nn.bK t0 t1 sw sv t7 (IntKind.i64.wrap (Int.tdiv t1 8)) bW R)))) (
    nn.bK t0 t1 sw sv t7 (IntKind.i64.wrap (Int.tdiv t1 8)) w R)))))
def nn.δ(t0:γ)(t1:Int)(sw sv t7:Nat)(t29:Int)(w:World)(R:au)(a1:γ->Int->Nat->Nat->Nat->Int->al):Prop:=
 cond (decide (t29<8)) (
  ν (decide (0<=t29)) (
   ν (decide (t29<(8:Int))) (
    (w.cell? (Addr.add ⟨t7,0,none⟩ (t29.toNat*1))).isSome=true/\w.frozen? (Addr.add ⟨t7,0,none⟩ (t29.toNat*1))=false/\∀bV,bV=w.setCell (Addr.add ⟨t7,0,none⟩ (t29.toNat*1)) (.complex .f64 13830554455654793216 0)->
    (a1 t0 t1 sw sv t7 (IntKind.i64.wrap (t29+1)) bV)))) (
  nn.aV t0 t1 sw sv t7 w R)
def nn.bb:=oc nn.δ
def nn.main(a0:γ)(aw:Int)(q6 q5:Nat)(w:World)(R:au):Prop:=
 κ prog 158 #[.pointer a0,aw] w (λv1 ε=>
  mA v1 λcM m1=>
  cond (eQ .eql cM q6&&eQ .eql m1 q5) (
   ξ a0 λd1=>
   ∃θ,ε.drew.cell? d1=some (.int .i64 θ)/\
   (ξ a0 λd2=>
    ∃ae aD c1,ε.drew.cell? (d2.add 1)=some (.slice ae aD c1)/\
    (κ prog 159 #[.slice ae aD c1] ε.drew (λv2 χ=>
     cX v2 λaX bu c2=>
     χ.cell? d1=some (.int .i64 θ)/\
     (aK χ #[θ,.slice aX bu c2] 203 λδ an=>
      R (.returned (.pointer (some ⟨δ,0,none⟩))) an)) (ai R)))) (
   aK ε #[.complex .f64 0 0,.complex .f64 0 0,.complex .f64 0 0,.complex .f64 0 0,.complex .f64 0 0,.complex .f64 0 0,.complex .f64 0 0,.complex .f64 0 0] 252 λζ aZ=>
   a6 aZ ⟨ζ,0,none⟩ [(.complex .f64 0 0),(.complex .f64 0 0),(.complex .f64 0 0),(.complex .f64 0 0),(.complex .f64 0 0),(.complex .f64 0 0),(.complex .f64 0 0),(.complex .f64 0 0)]/\∀a8,a8=aZ.setCells (⟨ζ,0,none⟩:Addr).block (⟨ζ,0,none⟩:Addr).off [(.complex .f64 0 0),(.complex .f64 0 0),(.complex .f64 0 0),(.complex .f64 0 0),(.complex .f64 0 0),(.complex .f64 0 0),(.complex .f64 0 0),(.complex .f64 0 0)]->
   (nn.bb a0 aw q6 q5 ζ 0 a8 R))) (ai R)
abbrev nn.C(a0:γ)(aw:Int)(q6 q5:Nat):=Calls prog 117 #[.pointer a0,aw,.complex .f64 q6 q5]
theorem nn.ok:lu nn.main nn.C:=λ{_ _ _ _ _ R}h=>fo func117 [.tmp 6] 80 (.seq .leaf (.seq .leaf (.seq .leaf (.cut [(0,.ptr),(1,.int .i64),(2,.re),(7,.cA)] (nn.aV · · · · · · R) (.seq .leaf (.block (.loop [(0,.ptr),(1,.int .i64),(2,.re),(7,.cA),(29,.int .i64)] (nn.bb · · · · · · · R) λa1=>.leaf))) (.seq .leaf (.cut [(0,.ptr),(1,.int .i64),(2,.re),(7,.cA),(9,.int .i64)] (nn.bK · · · · · · · R) .leaf .leaf)))))) h
def Hm.main(a0:γ)(w:World)(R:au):Prop:=
 ξ a0 λd1=>
 κ prog 161 #[.slice (dL (some d1) 8 0 2) 8 8,.func (.func 162) #[] #[]] w (λv1 ε=>
  br .i64 v1 λθ=>
  cond (decide (θ<0)) (
   R (.returned (.tuple #[(0:Int),(7:Int)])) ε) (
   R (.returned (.tuple #[θ,(0:Int)])) ε)) (ai R)
abbrev Hm.C(a0:γ):=Calls prog 118 #[.pointer a0]
theorem Hm.ok:iS Hm.main Hm.C:=λh=>dA func118 [.tmp 2,.tmp 3] 13 h
def Hk.main(a0:γ)(aw a2:Int)(w:World)(R:au):Prop:=
 κ prog 84 #[.pointer a0,aw] w (λv1 ε=>
  b7 v1 λbN=>
  ξ (bN[0]?) λv2=>
  cv v2 λaE=>
  ξ (bN[1]?) λv3=>
  br .i64 v3 λθ=>
  aK ε #[(0:Int),(0:Int)] 84 λδ χ=>
  ν (decide (aE.size=2)) (
   a6 χ ⟨δ,0,none⟩ aE.toList/\∀ao,ao=χ.setCells (⟨δ,0,none⟩:Addr).block (⟨δ,0,none⟩:Addr).off aE.toList->
   (cond (θ !=0) (
    R (.returned (.tuple #[.complex .f64 0 0,.bool false,θ])) ao) (
    ξ a0 λd1=>
    ν (decide (0<=aw)) (
     ν (decide (aw<(8:Int))) (
      ∃ae,ao.cell? ((d1.add 16).add (aw.toNat*1))=some (.pointer ae)/\
      (κ prog 163 #[.pointer ae,a2] ao (λv4 an=>
       b7 v4 λeY=>
       ξ (eY[0]?) λv5=>
       mA v5 λcM m1=>
       ξ (eY[1]?) λv6=>
       dF v6 λζ=>
       ξ (eY[2]?) λfm=>
       br .i64 fm λρ=>
       R (.returned (.tuple #[.complex .f64 cM m1,.bool ζ,ρ])) an) (ai R)))))))) (ai R)
abbrev Hk.C(a0:γ)(aw a2:Int):=Calls prog 119 #[.pointer a0,aw,a2]
theorem Hk.ok:ji Hk.main Hk.C:=λh=>dA func119 [.tmp 6,.tmp 7,.tmp 8] 31 h
def HJ.main(a0:γ)(aw:Int)(w:World)(R:au):Prop:=
 cond (!(Option.isNone a0)) (
  cond (decide (aw>=0)) (
   κ prog 134 #[.pointer a0] w (λv1 ε=>
    dF v1 λδ=>
    cond (!δ) (
     R (.returned (.bool true)) ε) (
     ξ a0 λd1=>
     ∃ae aD c1,ε.cell? (d1.add 2)=some (.slice ae aD c1)/\
     (R (.returned (.bool (decide (((aD:Nat):Int)>aw)))) ε))) (ai R)) (
   R (.returned (.bool false)) w)) (
  R (.returned (.bool false)) w)
abbrev HJ.C(a0:γ)(aw:Int):=Calls prog 120 #[.pointer a0,aw]
theorem HJ.ok:kn HJ.main HJ.C:=λh=>dA func120 [.tmp 4] 25 h
def H3.main(a0:γ)(aw:Int)(w:World)(R:au):Prop:=
 κ prog 116 #[.pointer a0,aw] w (λv1 ε=>
  br .i64 v1 λθ=>
  cond (θ !=0) (
   R (.returned (.tuple #[.pointer none,θ])) ε) (
   κ prog 117 #[.pointer a0,aw,.complex .f64 13830554455654793216 0] ε (λv2 χ=>
    gI v2 λae=>
    R (.returned (.tuple #[.pointer ae,(0:Int)])) χ) (ai R))) (ai R)
abbrev H3.C(a0:γ)(aw:Int):=Calls prog 121 #[.pointer a0,aw]
theorem H3.ok:kn H3.main H3.C:=λh=>dA func121 [.tmp 4,.tmp 5] 16 h
def qP.aV(de:γ)(c3 dy t4 t5 t6 t8 t9:Nat)(w:World)(R:au):Prop:=
 ∃tL,w.cell? ⟨t6,0,none⟩=some (.int .i64 tL)/\
 (cond (decide (((c3:Nat):Int)>(IntKind.i64.wrap ((IntKind.i64.wrap (16-tL))*6)))) (
  (w.cell? ⟨t8,0,none⟩).isSome=true/\w.frozen? ⟨t8,0,none⟩=false/\∀eg,eg=w.setCell ⟨t8,0,none⟩ (.int .i64 0)->
  ((eg.cell? ⟨t9,0,none⟩).isSome=true/\eg.frozen? ⟨t9,0,none⟩=false/\∀gr,gr=eg.setCell ⟨t9,0,none⟩ (.int .i64 7)->
   (∃q0,gr.cell? ⟨t8,0,none⟩=some (.int .i64 q0)/\
    (∃pH,gr.cell? ⟨t9,0,none⟩=some (.int .i64 pH)/\
     (R (.returned (.tuple #[q0,pH])) gr))))) (
  κ prog 164 #[.slice de c3 dy,(6:Int)] w (λv2 eP=>
   K9 v2 λgf kd lb=>
   ν (Nat.beq kd.size 0&&bF.fns.contains gf&&true&&true&&true&&true) (
    ∃(α:Type)(enc:α->Value)(fU:World->al)(S Sp:List α->Prop)(N:Nat)(bE q2:List α->al),Tn prog gf lb enc fU S Sp N bE q2 eP/\
    ((∀(pre:List α)(x:α)(fb:World),bE pre fb->pre.length<N->
      cX (enc x) λaX aD c1=>
      ∃tM,fb.cell? ⟨t5,0,none⟩=some (.int .i64 tM)/\
      (∃oU,fb.cell? ⟨t6,0,none⟩=some (.int .i64 oU)/\
       (κ prog 153 #[tM,oU,.slice aX aD c1] fb (λv3 ja=>
         b7 v3 λbN=>
         ξ (bN[0]?) λv4=>
         cX v4 λbj bu c2=>
         ξ (bN[1]?) λv5=>
         br .i64 v5 λwy=>
         cond (wy==0) (
          ∃eo,ja.cell? ⟨t4,0,none⟩=some (.pointer eo)/\
          (∃lP,ja.cell? ⟨t6,0,none⟩=some (.int .i64 lP)/\
           (aK ja #[(IntKind.i64.wrap (24+lP)),.slice bj bu c2] 130 λgu nq=>
            κ prog 63 #[.pointer eo,.slice (some ⟨gu,0,none⟩) 1 1] nq (λv6 ga=>
            br .i64 v6 λAX=>
            cond (AX !=0) (
            (ga.cell? ⟨t8,0,none⟩).isSome=true/\ga.frozen? ⟨t8,0,none⟩=false/\∀kY,kY=ga.setCell ⟨t8,0,none⟩ (.int .i64 0)->
            ((kY.cell? ⟨t9,0,none⟩).isSome=true/\kY.frozen? ⟨t9,0,none⟩=false/\∀jS,jS=kY.setCell ⟨t9,0,none⟩ (.int .i64 AX)->
            (KeepsOthers fb jS/\q2 (pre++[x]) jS))) (
            ∃pI,ga.cell? ⟨t6,0,none⟩=some (.int .i64 pI)/\
            ((ga.cell? ⟨t6,0,none⟩).isSome=true/\ga.frozen? ⟨t6,0,none⟩=false/\∀kZ,kZ=ga.setCell ⟨t6,0,none⟩ (.int .i64 (IntKind.i64.wrap (pI+1)))->
            (KeepsOthers fb kZ/\fU fb kZ/\bE (pre++[x]) kZ)))) (λdg nr=>False)))) (
          cond (wy !=0) (
           (ja.cell? ⟨t8,0,none⟩).isSome=true/\ja.frozen? ⟨t8,0,none⟩=false/\∀jT,jT=ja.setCell ⟨t8,0,none⟩ (.int .i64 0)->
           ((jT.cell? ⟨t9,0,none⟩).isSome=true/\jT.frozen? ⟨t9,0,none⟩=false/\∀lp,lp=jT.setCell ⟨t9,0,none⟩ (.int .i64 wy)->
            (KeepsOthers fb lp/\q2 (pre++[x]) lp))) (
           ∃nu,ja.cell? ⟨t6,0,none⟩=some (.int .i64 nu)/\
           ((ja.cell? ⟨t6,0,none⟩).isSome=true/\ja.frozen? ⟨t6,0,none⟩=false/\∀mn,mn=ja.setCell ⟨t6,0,none⟩ (.int .i64 (IntKind.i64.wrap (nu+1)))->
            (KeepsOthers fb mn/\fU fb mn/\bE (pre++[x]) mn))))) (λdg hv=>False))))/\
     ((∀(D:Nat)(xs:List α)(eJ:World),eP.heap.size<=D->S xs->bE xs eJ->eJ.heap[D]?=some (Obj.deferred (some []))->
       ∃oV,eJ.cell? ⟨t6,0,none⟩=some (.int .i64 oV)/\
       ((eJ.cell? ⟨t8,0,none⟩).isSome=true/\eJ.frozen? ⟨t8,0,none⟩=false/\∀lN,lN=eJ.setCell ⟨t8,0,none⟩ (.int .i64 oV)->
        ((lN.cell? ⟨t9,0,none⟩).isSome=true/\lN.frozen? ⟨t9,0,none⟩=false/\∀ns,ns=lN.setCell ⟨t9,0,none⟩ (.int .i64 0)->
         (ns.heap[D]?=some (Obj.deferred (some []))/\
          ∃Ek,(ns.putObj D (Obj.deferred none)).cell? ⟨t8,0,none⟩=some (.int .i64 Ek)/\
          (∃zk,(ns.putObj D (Obj.deferred none)).cell? ⟨t9,0,none⟩=some (.int .i64 zk)/\
           (R (.returned (.tuple #[Ek,zk])) (ns.putObj D (Obj.deferred none))))))))/\
      (∀(D:Nat)(pre:List α)(gh:World),eP.heap.size<=D->Sp pre->q2 pre gh->gh.heap[D]?=some (Obj.deferred (some []))->
       gh.heap[D]?=some (Obj.deferred (some []))/\
       ∃El,(gh.putObj D (Obj.deferred none)).cell? ⟨t8,0,none⟩=some (.int .i64 El)/\
       (∃wz,(gh.putObj D (Obj.deferred none)).cell? ⟨t9,0,none⟩=some (.int .i64 wz)/\
        (R (.returned (.tuple #[El,wz])) (gh.putObj D (Obj.deferred none))))))))) (ai R)))
def qP.δ(de:γ)(c3 dy t4 t5 t6 t8 t9:Nat)(N1:γ)(N0 Sf:Nat)(t35 t36:Int)(w:World)(R:au)(a1:γ->Nat->Nat->Nat->Nat->Nat->Nat->Nat->γ->Nat->Nat->Int->Int->al):Prop:=
 cond (decide (t36<t35)) (
  ν (decide (0<=t36)) (
   ν (decide (t36<((N0:Nat):Int))) (
    ξ N1 λd1=>
    ∃(aE:aj),aE.size=5/\aB w (d1.add (t36.toNat*5)) aE.toList/\
    (aK w #[(0:Int),(0:Int),(0:Int),(0:Int),.complex .f64 0 0] 155 λdR ed=>
     ν (decide (aE.size=5)) (
      a6 ed ⟨dR,0,none⟩ aE.toList/\∀dP,dP=ed.setCells (⟨dR,0,none⟩:Addr).block (⟨dR,0,none⟩:Addr).off aE.toList->
      (∃(bz:aj),bz.size=5/\aB dP ⟨dR,0,none⟩ bz.toList/\
       (κ prog 155 #[.agg bz] dP (λv1 eO=>
        br .i64 v1 λmo=>
        cond (mo !=0) (
         (eO.cell? ⟨t8,0,none⟩).isSome=true/\eO.frozen? ⟨t8,0,none⟩=false/\∀ey,ey=eO.setCell ⟨t8,0,none⟩ (.int .i64 0)->
         ((ey.cell? ⟨t9,0,none⟩).isSome=true/\ey.frozen? ⟨t9,0,none⟩=false/\∀dM,dM=ey.setCell ⟨t9,0,none⟩ (.int .i64 mo)->
          (∃jb,dM.cell? ⟨t8,0,none⟩=some (.int .i64 jb)/\
           (∃oT,dM.cell? ⟨t9,0,none⟩=some (.int .i64 oT)/\
            (R (.returned (.tuple #[jb,oT])) dM))))) (
         a1 de c3 dy t4 t5 t6 t8 t9 N1 N0 Sf t35 (IntKind.i64.wrap (t36+1)) eO)) (ai R)))))))) (
  qP.aV de c3 dy t4 t5 t6 t8 t9 w R)
def qP.bb:=QM qP.δ
def qP.main(a0:γ)(aw a2:Int)(r4:γ)(q7 r3:Nat)(w:World)(R:au):Prop:=
 aK w #[.pointer a0] 23 λδ ε=>
 aK ε #[aw] 3 λζ υ=>
 aK υ #[a2] 3 λax χ=>
 aK χ #[(0:Int)] 3 λaa ao=>
 aK ao #[(0:Int)] 33 λcu an=>
 ∃ae,an.cell? ⟨δ,0,none⟩=some (.pointer ae)/\
 (cond (Option.isNone ae) (
  (an.cell? ⟨aa,0,none⟩).isSome=true/\an.frozen? ⟨aa,0,none⟩=false/\∀aZ,aZ=an.setCell ⟨aa,0,none⟩ (.int .i64 0)->
  ((aZ.cell? ⟨cu,0,none⟩).isSome=true/\aZ.frozen? ⟨cu,0,none⟩=false/\∀a8,a8=aZ.setCell ⟨cu,0,none⟩ (.int .i64 1)->
   (∃ay,a8.cell? ⟨aa,0,none⟩=some (.int .i64 ay)/\
    (∃aM,a8.cell? ⟨cu,0,none⟩=some (.int .i64 aM)/\
     (R (.returned (.tuple #[ay,aM])) a8))))) (
  ∃θ,an.cell? ⟨ζ,0,none⟩=some (.int .i64 θ)/\
  (cond (decide (θ<1)) (
    (an.cell? ⟨aa,0,none⟩).isSome=true/\an.frozen? ⟨aa,0,none⟩=false/\∀bV,bV=an.setCell ⟨aa,0,none⟩ (.int .i64 0)->
    ((bV.cell? ⟨cu,0,none⟩).isSome=true/\bV.frozen? ⟨cu,0,none⟩=false/\∀bW,bW=bV.setCell ⟨cu,0,none⟩ (.int .i64 1)->
     (∃aU,bW.cell? ⟨aa,0,none⟩=some (.int .i64 aU)/\
      (∃cj,bW.cell? ⟨cu,0,none⟩=some (.int .i64 cj)/\
       (R (.returned (.tuple #[aU,cj])) bW))))) (
    ∃ρ,an.cell? ⟨ζ,0,none⟩=some (.int .i64 ρ)/\
    (cond (decide (ρ>1073741824)) (
      (an.cell? ⟨aa,0,none⟩).isSome=true/\an.frozen? ⟨aa,0,none⟩=false/\∀c4,c4=an.setCell ⟨aa,0,none⟩ (.int .i64 0)->
      ((c4.cell? ⟨cu,0,none⟩).isSome=true/\c4.frozen? ⟨cu,0,none⟩=false/\∀cd,cd=c4.setCell ⟨cu,0,none⟩ (.int .i64 1)->
       (∃ct,cd.cell? ⟨aa,0,none⟩=some (.int .i64 ct)/\
        (∃ez,cd.cell? ⟨cu,0,none⟩=some (.int .i64 ez)/\
         (R (.returned (.tuple #[ct,ez])) cd))))) (
      ∃ad,an.cell? ⟨ax,0,none⟩=some (.int .i64 ad)/\
      (cond (decide (ad<0)) (
        (an.cell? ⟨aa,0,none⟩).isSome=true/\an.frozen? ⟨aa,0,none⟩=false/\∀cm,cm=an.setCell ⟨aa,0,none⟩ (.int .i64 0)->
        ((cm.cell? ⟨cu,0,none⟩).isSome=true/\cm.frozen? ⟨cu,0,none⟩=false/\∀cE,cE=cm.setCell ⟨cu,0,none⟩ (.int .i64 1)->
         (∃eW,cE.cell? ⟨aa,0,none⟩=some (.int .i64 eW)/\
          (∃df,cE.cell? ⟨cu,0,none⟩=some (.int .i64 df)/\
           (R (.returned (.tuple #[eW,df])) cE))))) (
        ∃aC,an.cell? ⟨ax,0,none⟩=some (.int .i64 aC)/\
        (cond (decide (aC>16)) (
          (an.cell? ⟨aa,0,none⟩).isSome=true/\an.frozen? ⟨aa,0,none⟩=false/\∀da,da=an.setCell ⟨aa,0,none⟩ (.int .i64 0)->
          ((da.cell? ⟨cu,0,none⟩).isSome=true/\da.frozen? ⟨cu,0,none⟩=false/\∀dp,dp=da.setCell ⟨cu,0,none⟩ (.int .i64 1)->
           (∃gb,dp.cell? ⟨aa,0,none⟩=some (.int .i64 gb)/\
            (∃jo,dp.cell? ⟨cu,0,none⟩=some (.int .i64 jo)/\
            (R (.returned (.tuple #[gb,jo])) dp))))) (
          qP.bb r4 q7 r3 δ ζ ax aa cu r4 q7 r3 ((q7:Nat):Int) 0 an R))))))))))
abbrev qP.C(a0:γ)(aw a2:Int)(r4:γ)(q7 r3:Nat):=Calls prog 122 #[.pointer a0,aw,a2,.slice r4 q7 r3]
theorem qP.ok:xW qP.main qP.C:=λ{_ _ _ _ _ _ _ R}h=>ae7 func122 [.cell 8 3,.cell 9 33] 77 (.seq .leaf (.seq .leaf (.cut [(3,.slice),(4,.cA),(5,.cA),(6,.cA),(8,.cA),(9,.cA)] (qP.aV · · · · · · · · · R) (.seq .leaf (.block (.loop [(3,.slice),(4,.cA),(5,.cA),(6,.cA),(8,.cA),(9,.cA),(34,.slice),(35,.int .i64),(36,.int .i64)] (qP.bb · · · · · · · · · · · · · · R) λa1=>.leaf))) (.seq .leaf (.y4 .leaf))))) h
def Hv.main(bG:γ)(bf bD:Nat)(w:World)(R:au):Prop:=
 cond (Option.isNone bG) (
  R (.returned (.slice none 0 0)) w) (
  aK w #[] 113 λδ ε=>
  ho ε (some ⟨δ,0,none⟩) 0 0 bf (bd ε bG) 113 1 16 #[.complex .f64 0 0] λae c1 υ=>
  R (.returned (.slice ae (0+bf) c1)) υ)
abbrev Hv.C(bG:γ)(bf bD:Nat):=Calls prog 123 #[.slice bG bf bD]
theorem Hv.ok:ji Hv.main Hv.C:=λh=>dA func123 [.tmp 2] 8 h
def pD.δ(t0 de:γ)(c3 dy:Nat)(t6 t7:Int)(w:World)(R:au)(a1:γ->γ->Nat->Nat->Int->Int->al):Prop:=
 cond (decide (t7<t6)) (
  κ prog 158 #[.pointer t0,t7] w (λv2 χ=>
   mA v2 λcM m1=>
   aK χ #[.complex .f64 cM m1] 113 λδ an=>
   ho an de c3 dy 1 (bd an (some ⟨δ,0,none⟩)) 113 1 16 #[.complex .f64 0 0] λae c1 aZ=>
   a1 t0 ae (c3+1) c1 t6 (IntKind.i64.wrap (t7+1)) aZ) (ai R)) (
  R (.returned (.slice de c3 dy)) w)
def pD.bb:=oc pD.δ
def pD.main(a0:γ)(w:World)(R:au):Prop:=
 κ prog 165 #[.pointer a0] w (λv1 ε=>
  br .i64 v1 λθ=>
  pD.bb a0 none 0 0 θ 0 ε R) (ai R)
abbrev pD.C(a0:γ):=Calls prog 124 #[.pointer a0]
theorem pD.ok:iS pD.main pD.C:=λ{_ _ R}h=>fo func124 [.tmp 2] 18 (.seq .leaf (.seq .leaf (.seq (.seq .leaf (.block (.loop [(0,.ptr),(3,.slice),(6,.int .i64),(7,.int .i64)] (pD.bb · · · · · · · R) λa1=>.leaf))) .leaf))) h
def GM.main(jU ka eu:Nat)(w:World)(R:au):Prop:=
 ∃(aE:aj),aE.size=2/\aB w ⟨eu,0,none⟩ aE.toList/\
 (κ prog 54 #[.agg aE,.complex .f64 jU ka] w (λv1 ε=>
  b7 v1 λbN=>
  ξ (bN[0]?) λv2=>
  br .i64 v2 λθ=>
  ξ (bN[1]?) λv3=>
  br .i64 v3 λρ=>
  cond (!(eQ .eql jU 13830554455654793216&&eQ .eql ka 0)) (
   R (.returned (.bool (ρ !=0))) ε) (
   R (.returned (.bool false)) ε)) (ai R))
abbrev GM.C(jU ka eu:Nat):=Calls prog 125 #[.complex .f64 jU ka,.pointer (some ⟨eu,0,none⟩)]
theorem GM.ok:ji GM.main GM.C:=λh=>dA func125 [.tmp 3] 18 h
def pO.aV(rT:γ)(qU wm:Nat)(w:World)(R:au):Prop:=
 κ prog 166 #[.slice rT qU wm,.func (.func 167) #[] #[]] w (λv3 aZ=>
  b7 v3 λbN=>
  κ prog 169 #[.slice rT qU wm] aZ (λv4 bV=>
   cX v4 λaX bu c2=>
   κ prog 168 #[.slice aX bu c2] bV (λv5 c4=>
    cX v5 λbj dU bP=>
    R (.returned (.tuple #[.slice bj dU bP,(0:Int)])) c4) (ai R)) (ai R)) (ai R)
def pO.δ(rT:γ)(qU wm:Nat)(ir:γ)(fZ iQ:Nat)(t13 t14:Int)(w:World)(R:au)(a1:γ->Nat->Nat->γ->Nat->Nat->Int->Int->al):Prop:=
 cond (decide (t14<t13)) (
  ν (decide (0<=t14)) (
   ν (decide (t14<((fZ:Nat):Int))) (
    ξ ir λd1=>
    ∃cM m1,w.cell? (d1.add (t14.toNat*1))=some (.complex .f64 cM m1)/\
    (κ prog 115 #[.complex .f64 cM m1] w (λv2 χ=>
     dF v2 λδ=>
     cond (!δ) (
      R (.returned (.tuple #[.slice none 0 0,(2:Int)])) χ) (
      ξ (vq cM 0) λfC=>
      ξ (vq m1 0) λm2=>
      ν (decide (0<=t14)) (
       ν (decide (t14<((qU:Nat):Int))) (
        ξ rT λd2=>
        (χ.cell? (d2.add (t14.toNat*1))).isSome=true/\χ.frozen? (d2.add (t14.toNat*1))=false/\∀an,an=χ.setCell (d2.add (t14.toNat*1)) (.complex .f64 fC m2)->
        (a1 rT qU wm ir fZ iQ t13 (IntKind.i64.wrap (t14+1)) an))))) (ai R))))) (
  pO.aV rT qU wm w R)
def pO.bb:=Jp pO.δ
def pO.main(bG:γ)(bf bD:Nat)(w:World)(R:au):Prop:=
 cond (decide (((bf:Nat):Int)>4096)) (
  R (.returned (.tuple #[.slice none 0 0,(1:Int)])) w) (
  κ prog 123 #[.slice bG bf bD] w (λv1 ε=>
   cX v1 λae aD c1=>
   pO.bb ae aD c1 ae aD c1 ((aD:Nat):Int) 0 ε R) (ai R))
abbrev pO.C(bG:γ)(bf bD:Nat):=Calls prog 126 #[.slice bG bf bD]
theorem pO.ok:ji pO.main pO.C:=λ{_ _ _ _ R}h=>fo func126 [.tmp 2,.tmp 3] 33 (.seq .leaf (.seq .leaf (.seq .leaf (.cut [(4,.slice)] (pO.aV · · · · R) (.seq .leaf (.block (.loop [(4,.slice),(12,.slice),(13,.int .i64),(14,.int .i64)] (pO.bb · · · · · · · · · R) λa1=>.leaf))) .leaf)))) h
def Ka.main(bG:γ)(bf bD:Nat)(aw:Value)(w:World)(R:au):Prop:=
 κ prog 170 #[.slice bG bf bD,aw] w (λv1 ε=>
  br .i64 v1 λθ=>
  R (.returned (.bool (decide (θ>=0)))) ε) (ai R)
abbrev Ka.C(bG:γ)(bf bD:Nat)(aw:Value):=Calls prog 127 #[.slice bG bf bD,aw]
theorem Ka.ok:lu Ka.main Ka.C:=λh=>dA func127 [.tmp 4] 9 h
def E6.main(a0:Int)(eu:Nat)(w:World)(R:au):Prop:=
 cond (decide (a0<0)) (
  R (.returned (.bool true)) w) (
  ∃θ,w.cell? ⟨eu,1,none⟩=some (.int .i64 θ)/\
  (R (.returned (.bool (decide (a0>θ)))) w))
abbrev E6.C(a0:Int)(eu:Nat):=Calls prog 128 #[a0,.pointer (some ⟨eu,0,none⟩)]
theorem E6.ok:kn E6.main E6.C:=λh=>dA func128 [.tmp 3] 12 h
def Hd.main(a0 aw:Int)(w:World)(R:au):Prop:=
 cond (decide (a0>=0)) (
  cond (decide (a0<=1048576)) (
   cond (decide (aw>=1)) (
    R (.returned (.bool (decide (aw<=1048576)))) w) (
    R (.returned (.bool false)) w)) (
   R (.returned (.bool false)) w)) (
  R (.returned (.bool false)) w)
abbrev Hd.C(a0 aw:Int):=Calls prog 129 #[a0,aw]
theorem Hd.ok:kn Hd.main Hd.C:=λh=>dA func129 [.tmp 4] 19 h
def Hc.main(a0 aw a2 a3:Int)(w:World)(R:au):Prop:=
 κ prog 171 #[(IntKind.i64.wrap (a0*a3)),(IntKind.i64.wrap (a2*aw))] w (λv1 ε=>
  br .i64 v1 λθ=>
  R (.returned (.int .i64 θ)) ε) (ai R)
abbrev Hc.C(a0 aw a2 a3:Int):=Calls prog 130 #[a0,aw,a2,a3]
theorem Hc.ok:lu Hc.main Hc.C:=λh=>dA func130 [.tmp 8] 16 h
def EK.main(jU ka:Nat)(w:World)(R:au):Prop:=
 κ prog 115 #[.complex .f64 jU ka] w (λv1 ε=>
  dF v1 λδ=>
  cond (!δ) (
   R (.returned (.tuple #[(0:Int),(0:Int),(2:Int)])) ε) (
   ξ ((FloatKind.f64.decode jU).toInt .zero) λθ=>
   ν (decide (IntKind.i64.min<=θ)) (
    ν (decide (θ<=IntKind.i64.max)) (
     ξ ((FloatKind.f64.decode ka).toInt .zero) λρ=>
     ν (decide (IntKind.i64.min<=ρ)) (
      ν (decide (ρ<=IntKind.i64.max)) (
       R (.returned (.tuple #[θ,ρ,(0:Int)])) ε)))))) (ai R)
abbrev EK.C(jU ka:Nat):=Calls prog 132 #[.complex .f64 jU ka]
theorem EK.ok:kn EK.main EK.C:=λh=>dA func132 [.tmp 2,.tmp 3,.tmp 4] 14 h
def zA.main(a0:Int)(w:World)(R:au):Prop:=
 cond (decide (a0>=1)) (
  R (.returned (.bool (decide (a0<=16)))) w) (
  R (.returned (.bool false)) w)
abbrev zA.C(a0:Int):=Calls prog 133 #[a0]
theorem zA.ok:iS zA.main zA.C:=λh=>dA func133 [.tmp 2] 9 h
def HK.main(a0:γ)(w:World)(R:au):Prop:=
 ξ a0 λd1=>
 ∃θ,w.cell? (d1.add 3)=some (.int .i64 θ)/\
 (cond (decide (θ<0)) (
  ∀aV:Nat,
  R (.returned (.bool true)) (w.drewN aV)) (
  ξ a0 λd2=>
  ∃ρ,w.cell? (d2.add 4)=some (.int .i64 ρ)/\
  (ξ a0 λd3=>
   ∃ad,w.cell? (d3.add 1)=some (.int .i64 ad)/\
   (∀aV:Nat,
    R (.returned (.bool (ρ==ad))) (w.drewN aV)))))
abbrev HK.C(a0:γ):=Calls prog 134 #[.pointer a0]
theorem HK.ok:iS HK.main HK.C:=λh=>dA func134 [.tmp 2] 20 h
def zy.main(a0 aw:Int)(w:World)(R:au):Prop:=
 κ prog 133 #[aw] w (λv1 ε=>
  dF v1 λδ=>
  cond (!δ) (
   R (.returned (.tuple #[.complex .f64 0 0,(1:Int)])) ε) (
   cond (decide (a0<0)) (
    R (.returned (.tuple #[.complex .f64 0 0,(5:Int)])) ε) (
    cond (decide (a0>=(IntKind.i64.wrap (24*aw)))) (
     R (.returned (.tuple #[.complex .f64 0 0,(5:Int)])) ε) (
     ν (decide (aw≠0)) (
      ν (decide (aw≠0)) (
       ∀aV:Nat,
       R (.returned (.tuple #[.complex .f64 (FloatKind.f64.nearest (IntKind.i64.wrap (Int.tdiv a0 aw))) (FloatKind.f64.nearest (Int.tmod a0 aw)),(0:Int)])) (ε.drewN aV))))))) (ai R)
abbrev zy.C(a0 aw:Int):=Calls prog 135 #[a0,aw]
theorem zy.ok:kn zy.main zy.C:=λh=>dA func135 [.tmp 4,.tmp 5] 28 h
def oI.ζ(t2 t3:Nat)(mK:γ)(nj ni:Nat)(t12:aj)(t13:Int)(Kh:γ)(Kg NX:Nat)(t28 t29:Int)(w:World)(R:au)(a1:Nat->Nat->γ->Nat->Nat->aj->Int->al)(gi:Nat->Nat->γ->Nat->Nat->aj->Int->γ->Nat->Nat->Int->Int->al):Prop:=
 cond (decide (t29<t28)) (
  ν (decide (0<=t29)) (
   ν (decide (t29<((Kg:Nat):Int))) (
    ξ Kh λd1=>
    ∃cM m1,w.cell? (d1.add (t29.toNat*1))=some (.complex .f64 cM m1)/\
    (cond (!(eQ .eql cM 13830554455654793216&&eQ .eql m1 0)) (
     ∃ad,w.cell? ⟨t3,1,none⟩=some (.int .i64 ad)/\
     (κ prog 95 #[.complex .f64 cM m1,ad] w (λv2 bV=>
       b7 v2 λbN=>
       ξ (bN[0]?) λv3=>
       br .i64 v3 λaC=>
       ξ (bN[1]?) λv4=>
       br .i64 v4 λay=>
       aK bV #[(IntKind.i64.wrap (aC+1))] 3 λcu c4=>
       κ prog 139 #[.slice mK nj ni,(2:Int),.slice (some ⟨cu,0,none⟩) 1 1] c4 (λv5 cd=>
        cX v5 λbj dU bP=>
        gi t2 t3 bj dU bP t12 t13 Kh Kg NX t28 (IntKind.i64.wrap (t29+1)) cd) (ai R)) (ai R))) (
     aK w #[(0:Int)] 3 λdR cE=>
     κ prog 139 #[.slice mK nj ni,(2:Int),.slice (some ⟨dR,0,none⟩) 1 1] cE (λv6 da=>
      cX v6 λeo jK h0=>
      gi t2 t3 eo jK h0 t12 t13 Kh Kg NX t28 (IntKind.i64.wrap (t29+1)) da) (ai R)))))) (
  a1 t2 t3 mK nj ni t12 (IntKind.i64.wrap (t13+1)) w)
def oI.eZ:=ar5 oI.ζ
def oI.δ(t2 t3:Nat)(mK:γ)(nj ni:Nat)(t12:aj)(t13:Int)(w:World)(R:au)(a1:Nat->Nat->γ->Nat->Nat->aj->Int->al):Prop:=
 cond (decide (t13<8)) (
  ν (decide (0<=t13)) (
   ν (decide (t13<(8:Int))) (
    aK w #[(0:Int),(0:Int)] 84 λax χ=>
    ν (decide ((t12.extract (t13.toNat*2) ((t13.toNat*2)+2)).size=2)) (
     a6 χ ⟨ax,0,none⟩ ((t12.extract (t13.toNat*2) ((t13.toNat*2)+2)).toList)/\∀ao,ao=χ.setCells (⟨ax,0,none⟩:Addr).block (⟨ax,0,none⟩:Addr).off ((t12.extract (t13.toNat*2) ((t13.toNat*2)+2)).toList)->
     (∃θ,ao.cell? ⟨ax,0,none⟩=some (.int .i64 θ)/\
      (∃ρ,ao.cell? ⟨ax,1,none⟩=some (.int .i64 ρ)/\
       (aK ao #[θ,ρ] 3 λaa an=>
        κ prog 139 #[.slice mK nj ni,(1:Int),.slice (some ⟨aa,0,none⟩) 2 2] an (λv1 aZ=>
         cX v1 λae aD c1=>
         ν (decide (0<=t13)) (
          ν (decide (t13<(8:Int))) (
           ∃aX bu c2,aZ.cell? (Addr.add ⟨t2,16,none⟩ (t13.toNat*1))=some (.slice aX bu c2)/\
           (oI.eZ t2 t3 ae aD c1 t12 t13 aX bu c2 ((bu:Nat):Int) 0 aZ R a1)))) (ai R)))))))) (
  R (.returned (.slice mK nj ni)) w)
def oI.bb:=DC oI.δ
def oI.main(a0:aj)(e8 e9:Int)(w:World)(R:au):Prop:=
 aK w a0 89 λδ ε=>
 aK ε #[e8,e9] 28 λζ υ=>
 ∃(aE:aj),aE.size=16/\aB υ ⟨δ,0,none⟩ aE.toList/\
 (oI.bb δ ζ none 0 0 aE 0 υ R)
abbrev oI.C(a0:aj)(e8 e9:Int):=Calls prog 136 #[.agg a0,.agg #[e8,e9]]
theorem oI.ok:ji oI.main oI.C:=λ{_ _ _ _ R}h=>fo func136 [.tmp 4] 51 (.seq .leaf (.seq .leaf (.seq (.seq .leaf (.block (.loop [(2,.cA),(3,.cA),(5,.slice),(12,.agg),(13,.int .i64)] (oI.bb · · · · · · · · R) λa1=>(.seq .leaf (.seq .leaf (.seq (.block (.seq .leaf (.seq .leaf (.seq .leaf (.block (.loop [(2,.cA),(3,.cA),(5,.slice),(12,.agg),(13,.int .i64),(27,.slice),(28,.int .i64),(29,.int .i64)] (oI.eZ · · · · · · · · · · · · · R a1) λgi=>.leaf)))))) .leaf)))))) .leaf))) h
def Ht.main(bG:γ)(bf bD:Nat)(aw:Int)(w:World)(R:au):Prop:=
 aK w #[.slice bG bf bD] 34 λδ ε=>
 aK ε #[aw] 3 λζ υ=>
 ∃θ,υ.cell? ⟨ζ,0,none⟩=some (.int .i64 θ)/\
 (cond (decide (θ<1)) (
  R (.panicked [{v:=(.iface 9 (.string (⟨#[99,97,110,110,111,116,32,98,101,32,108,101,115,115,32,116,104,97,110,32,49]⟩:ByteArray))),recovered:=false}]) υ) (
  R (.returned (.func (.func 172) #[] #[.pointer (some ⟨δ,0,none⟩),.pointer (some ⟨ζ,0,none⟩)])) υ))
abbrev Ht.C(bG:γ)(bf bD:Nat)(aw:Int):=Calls prog 137 #[.slice bG bf bD,aw]
theorem Ht.ok:lu Ht.main Ht.C:=λh=>dA func137 [.tmp 4] 9 h
def Gs.main(bG:γ)(bf bD:Nat)(w:World)(R:au):Prop:=
 κ prog 173 #[.slice bG bf bD] w (λv1 ε=>
  b7 v1 λbN=>
  ξ (bN[0]?) λv2=>
  cX v2 λae aD c1=>
  ξ (bN[1]?) λv3=>
  br .i64 v3 λθ=>
  R (.returned (.slice ae aD c1)) ε) (ai R)
abbrev Gs.C(bG:γ)(bf bD:Nat):=Calls prog 138 #[.slice bG bf bD]
theorem Gs.ok:ji Gs.main Gs.C:=λh=>dA func138 [.tmp 2] 11 h
def Gp.main(bG:γ)(bf bD:Nat)(aw:Int)(hI:γ)(ev ij:Nat)(w:World)(R:au):Prop:=
 κ prog 174 #[aw,.slice hI ev ij] w (λv1 ε=>
  b7 v1 λbN=>
  ξ (bN[0]?) λv2=>
  cX v2 λae aD c1=>
  ξ (bN[1]?) λv3=>
  br .i64 v3 λθ=>
  ho ε bG bf bD aD (bd ε ae) 5 1 1 #[.int .u8 0] λaX c2 χ=>
  R (.returned (.slice aX (bf+aD) c2)) χ) (ai R)
abbrev Gp.C(bG:γ)(bf bD:Nat)(aw:Int)(hI:γ)(ev ij:Nat):=Calls prog 139 #[.slice bG bf bD,aw,.slice hI ev ij]
theorem Gp.ok:Iu Gp.main Gp.C:=λh=>dA func139 [.tmp 6] 18 h
def Hq.main(bG:γ)(bf bD:Nat)(w:World)(R:au):Prop:=
 κ prog 175 #[.int .u32 0,.slice bG bf bD] w (λv1 ε=>
  br .u32 v1 λθ=>
  R (.returned (.int .u32 θ)) ε) (ai R)
abbrev Hq.C(bG:γ)(bf bD:Nat):=Calls prog 140 #[.slice bG bf bD]
theorem Hq.ok:ji Hq.main Hq.C:=λh=>dA func140 [.tmp 2] 5 h
def cmp_Less_int.main(a0 aw:Int)(w:World)(R:au):Prop:=
 κ prog 176 #[a0] w (λv1 ε=>
  dF v1 λδ=>
  cond δ (
   κ prog 176 #[aw] ε (λv2 χ=>
    dF v2 λζ=>
    cond (!ζ) (
     R (.returned (.bool true)) χ) (
     R (.returned (.bool (decide (a0<aw)))) χ)) (ai R)) (
   R (.returned (.bool (decide (a0<aw)))) ε)) (ai R)
abbrev cmp_Less_int.C(a0 aw:Int):=Calls prog 141 #[a0,aw]
theorem cmp_Less_int.ok:kn cmp_Less_int.main cmp_Less_int.C:=λh=>dA func141 [.tmp 4] 17 h
def Hz.main(a0:Int)(w:World)(R:au):Prop:=
 R (.returned (.bool (a0 !=a0))) w
abbrev Hz.C(a0:Int):=Calls prog 142 #[a0]
theorem Hz.ok:iS Hz.main Hz.C:=λh=>dA func142 [.tmp 2] 6 h
def Gn.main(bG:γ)(bf bD:Nat)(w:World)(R:au):Prop:=
 κ prog 147 #[.slice bG bf bD] w (λv1 ε=>
  b7 v1 λbN=>
  ξ (bN[0]?) λv2=>
  cv v2 λaE=>
  ξ (bN[1]?) λv3=>
  dF v3 λδ=>
  aK ε #[(0:Int),(0:Int),(0:Int),(0:Int),(0:Int)] 234 λζ χ=>
  ν (decide (aE.size=5)) (
   a6 χ ⟨ζ,0,none⟩ aE.toList/\∀ao,ao=χ.setCells (⟨ζ,0,none⟩:Addr).block (⟨ζ,0,none⟩:Addr).off aE.toList->
   (cond (!δ) (
    R (.returned (.tuple #[(0:Int),(0:Int),(11:Int)])) ao) (
    ∃θ,ao.cell? ⟨ζ,3,none⟩=some (.int .i64 θ)/\
    (∃ρ,ao.cell? ⟨ζ,0,none⟩=some (.int .i64 ρ)/\
     (∀aV:Nat,
      R (.returned (.tuple #[θ,ρ,(0:Int)])) (ao.drewN aV))))))) (ai R)
abbrev Gn.C(bG:γ)(bf bD:Nat):=Calls prog 146 #[.slice bG bf bD]
theorem Gn.ok:ji Gn.main Gn.C:=λh=>dA func146 [.tmp 2,.tmp 3,.tmp 4] 18 h
def Gq.main(bG:γ)(bf bD:Nat)(w:World)(R:au):Prop:=
 aK w #[(0:Int),(0:Int),(0:Int),(0:Int),(0:Int)] 234 λδ ε=>
 κ prog 148 #[.slice bG bf bD] ε (λv1 υ=>
  b7 v1 λbN=>
  ξ (bN[0]?) λv2=>
  cX v2 λae aD c1=>
  ξ (bN[1]?) λv3=>
  br .i64 v3 λθ=>
  aK υ #[.slice none 0 0] 34 λζ ao=>
  (ao.cell? ⟨ζ,0,none⟩).isSome=true/\ao.frozen? ⟨ζ,0,none⟩=false/\∀an,an=ao.setCell ⟨ζ,0,none⟩ (.slice ae aD c1)->
  (cond (θ !=0) (
   a6 an ⟨δ,0,none⟩ [(.int .i64 0),(.int .i64 0),(.int .i64 0),(.int .i64 0),(.int .i64 0)]/\∀aZ,aZ=an.setCells (⟨δ,0,none⟩:Addr).block (⟨δ,0,none⟩:Addr).off [(.int .i64 0),(.int .i64 0),(.int .i64 0),(.int .i64 0),(.int .i64 0)]->
   (∃(aE:aj),aE.size=5/\aB aZ ⟨δ,0,none⟩ aE.toList/\
    (R (.returned (.tuple #[.agg aE,.bool false])) aZ))) (
   ∃aX bu c2,an.cell? ⟨ζ,0,none⟩=some (.slice aX bu c2)/\
   (ν (decide (4<=((c2:Nat):Int))) (
     ∃(lJ:aq),lJ.length=4/\bd an (dL aX c2 0 1) (lJ.map (.int .u8))/\
     (cond (!((strOf lJ).toList==(⟨#[83,76,65,84]⟩:ByteArray).toList)) (
      a6 an ⟨δ,0,none⟩ [(.int .i64 0),(.int .i64 0),(.int .i64 0),(.int .i64 0),(.int .i64 0)]/\∀a8,a8=an.setCells (⟨δ,0,none⟩:Addr).block (⟨δ,0,none⟩:Addr).off [(.int .i64 0),(.int .i64 0),(.int .i64 0),(.int .i64 0),(.int .i64 0)]->
      (∃(bz:aj),bz.size=5/\aB a8 ⟨δ,0,none⟩ bz.toList/\
       (R (.returned (.tuple #[.agg bz,.bool false])) a8))) (
      κ prog 178 #[(4:Int),(4:Int),.pointer (some ⟨ζ,0,none⟩)] an (λv4 bV=>
       br .i64 v4 λρ=>
       κ prog 178 #[(8:Int),(1:Int),.pointer (some ⟨ζ,0,none⟩)] bV (λv5 c4=>
        br .i64 v5 λad=>
        κ prog 178 #[(9:Int),(1:Int),.pointer (some ⟨ζ,0,none⟩)] c4 (λv6 cm=>
         br .i64 v6 λaC=>
         κ prog 178 #[(10:Int),(1:Int),.pointer (some ⟨ζ,0,none⟩)] cm (λfm da=>
          br .i64 fm λay=>
          κ prog 178 #[(11:Int),(2:Int),.pointer (some ⟨ζ,0,none⟩)] da (λa7 ed=>
           br .i64 a7 λaM=>
           aK ed #[(0:Int),(0:Int),(0:Int),(0:Int),(0:Int)] 234 λax eO=>
           a6 eO ⟨ax,0,none⟩ [(.int .i64 ρ),(.int .i64 ad),(.int .i64 aC),(.int .i64 ay),(.int .i64 aM)]/\∀eE,eE=eO.setCells (⟨ax,0,none⟩:Addr).block (⟨ax,0,none⟩:Addr).off [(.int .i64 ρ),(.int .i64 ad),(.int .i64 aC),(.int .i64 ay),(.int .i64 aM)]->
           (∃(bO:aj),bO.size=5/\aB eE.drew ⟨ax,0,none⟩ bO.toList/\
           (∃aU,eE.drew.cell? ⟨ax,0,none⟩=some (.int .i64 aU)/\
           (cond (decide (aU>=1)) (
           ∃cj,eE.drew.cell? ⟨ax,0,none⟩=some (.int .i64 cj)/\
           (cond (decide (cj<=1073741824)) (
           ∃ct,eE.drew.cell? ⟨ax,3,none⟩=some (.int .i64 ct)/\
           (ν (decide (bO.size=5)) (
           a6 eE.drew ⟨δ,0,none⟩ bO.toList/\∀ey,ey=eE.drew.setCells (⟨δ,0,none⟩:Addr).block (⟨δ,0,none⟩:Addr).off bO.toList->
           (ey.cell? ⟨ax,3,none⟩=some (.int .i64 ct)/\
           (∃(bC:aj),bC.size=5/\aB ey ⟨δ,0,none⟩ bC.toList/\
           (R (.returned (.tuple #[.agg bC,.bool (decide (ct<12))])) ey)))))) (
           ν (decide (bO.size=5)) (
           a6 eE.drew ⟨δ,0,none⟩ bO.toList/\∀dM,dM=eE.drew.setCells (⟨δ,0,none⟩:Addr).block (⟨δ,0,none⟩:Addr).off bO.toList->
           (∃(b0:aj),b0.size=5/\aB dM ⟨δ,0,none⟩ b0.toList/\
           (R (.returned (.tuple #[.agg b0,.bool false])) dM)))))) (
           ν (decide (bO.size=5)) (
           a6 eE.drew ⟨δ,0,none⟩ bO.toList/\∀eg,eg=eE.drew.setCells (⟨δ,0,none⟩:Addr).block (⟨δ,0,none⟩:Addr).off bO.toList->
           (∃(dr:aj),dr.size=5/\aB eg ⟨δ,0,none⟩ dr.toList/\
           (R (.returned (.tuple #[.agg dr,.bool false])) eg)))))))) (ai R)) (ai R)) (ai R)) (ai R)) (ai R)))))))) (ai R)
abbrev Gq.C(bG:γ)(bf bD:Nat):=Calls prog 147 #[.slice bG bf bD]
theorem Gq.ok:ji Gq.main Gq.C:=λh=>dA func147 [.cell 2 234,.tmp 3] 48 h
def Hp.main(bG:γ)(bf bD:Nat)(w:World)(R:au):Prop:=
 cond (((bf:Nat):Int)!=64) (
  R (.returned (.tuple #[.slice none 0 0,(6:Int)])) w) (
  ν (decide (60<=((bD:Nat):Int))) (
   κ prog 173 #[.slice (dL bG bD 0 1) 60 bD] w (λv1 ε=>
    b7 v1 λbN=>
    ξ (bN[0]?) λv2=>
    cX v2 λae aD c1=>
    ξ (bN[1]?) λv3=>
    br .i64 v3 λθ=>
    κ prog 154 #[.slice ae aD c1,.slice bG bf bD] ε (λv4 χ=>
     dF v4 λδ=>
     cond (!δ) (
      R (.returned (.tuple #[.slice none 0 0,(2:Int)])) χ) (
      ν (decide (60<=((bD:Nat):Int))) (
       κ prog 36 #[.slice (dL bG bD 0 1) 60 bD] χ (λv5 an=>
        cX v5 λaX bu c2=>
        R (.returned (.tuple #[.slice aX bu c2,(0:Int)])) an) (ai R)))) (ai R)) (ai R)))
abbrev Hp.C(bG:γ)(bf bD:Nat):=Calls prog 148 #[.slice bG bf bD]
theorem Hp.ok:ji Hp.main Hp.C:=λh=>dA func148 [.tmp 2,.tmp 3] 22 h
def jJ.aV(cy:γ)(cp cG t3 t4:Nat)(t6:Int)(t7 avR avQ:Nat)(t14:Int)(AE:γ)(AD Cr:Nat)(t49 t50:Int)(w:World)(R:au)(a1:γ->Nat->Nat->Nat->Nat->Int->al)(gi:γ->Nat->Nat->Nat->Nat->Int->Nat->Int->γ->Nat->Nat->Int->Int->al):Prop:=
 ν (decide (0<=t6)) (
  ν (decide (t6<(8:Int))) (
   ∃aX bu c2,w.cell? (Addr.add ⟨t4,16,none⟩ (t6.toNat*1))=some (.slice aX bu c2)/\
   (aK w #[.complex .f64 avR avQ] 113 λaa cm=>
    ho cm aX bu c2 1 (bd cm (some ⟨aa,0,none⟩)) 113 1 16 #[.complex .f64 0 0] λbj bP cE=>
    ν (decide (0<=t6)) (
     ν (decide (t6<(8:Int))) (
      (cE.cell? (Addr.add ⟨t4,16,none⟩ (t6.toNat*1))).isSome=true/\cE.frozen? (Addr.add ⟨t4,16,none⟩ (t6.toNat*1))=false/\∀da,da=cE.setCell (Addr.add ⟨t4,16,none⟩ (t6.toNat*1)) (.slice bj (bu+1) bP)->
      (gi cy cp cG t3 t4 t6 t7 t14 AE AD Cr t49 (IntKind.i64.wrap (t50+1)) da))))))
def jJ.bK(cy:γ)(cp cG t3 t4:Nat)(t6:Int)(t7:Nat)(t14:Int)(w:World)(R:au)(a1:γ->Nat->Nat->Nat->Nat->Int->al):Prop:=
 ∃(fu:aj),fu.size=2/\aB w.drew ⟨t7,0,none⟩ fu.toList/\
 (∃ct,w.drew.cell? ⟨t7,1,none⟩=some (.int .i64 ct)/\
  (ν (decide (0<=(IntKind.i64.wrap (2*ct)))) (
   ν (decide ((IntKind.i64.wrap (2*ct))<=((cp:Nat):Int))) (
    ν (decide (0<=t6)) (
     ν (decide (t6<(8:Int))) (
      ν (decide (fu.size=2)) (
       a6 w.drew (Addr.add ⟨t4,0,none⟩ (t6.toNat*2)) fu.toList/\∀dp,dp=w.drew.setCells (Addr.add ⟨t4,0,none⟩ (t6.toNat*2)).block (Addr.add ⟨t4,0,none⟩ (t6.toNat*2)).off fu.toList->
       (dp.cell? ⟨t7,1,none⟩=some (.int .i64 ct)/\
        (a1 (dL cy cG ((IntKind.i64.wrap (2*ct)).toNat) 1) (cp-(IntKind.i64.wrap (2*ct)).toNat) (cG-(IntKind.i64.wrap (2*ct)).toNat) t3 t4 (IntKind.i64.wrap (t14+1)) dp)))))))))
def jJ.ζ(cy:γ)(cp cG t3 t4:Nat)(t6:Int)(t7:Nat)(t14:Int)(AE:γ)(AD Cr:Nat)(t49 t50:Int)(w:World)(R:au)(a1:γ->Nat->Nat->Nat->Nat->Int->al)(gi:γ->Nat->Nat->Nat->Nat->Int->Nat->Int->γ->Nat->Nat->Int->Int->al):Prop:=
 cond (decide (t50<t49)) (
  ν (decide (0<=t50)) (
   ν (decide (t50<((AD:Nat):Int))) (
    ξ AE λd3=>
    ∃aM,w.cell? (d3.add (t50.toNat*1))=some (.int .i64 aM)/\
    (cond (decide (aM>0)) (
     ∃aU,w.cell? ⟨t3,1,none⟩=some (.int .i64 aU)/\
     (κ prog 135 #[(IntKind.i64.wrap (aM-1)),aU] w (λv4 bW=>
      b7 v4 λeY=>
      ξ (eY[0]?) λv5=>
      mA v5 λcM m1=>
      ξ (eY[1]?) λv6=>
      br .i64 v6 λcj=>
      cond (cj !=0) (
       ∃(b0:aj),b0.size=24/\aB bW ⟨t4,0,none⟩ b0.toList/\
       (ν (decide (b0.size=24)) (
        a6 bW ⟨t4,0,none⟩ b0.toList/\∀cd,cd=bW.setCells (⟨t4,0,none⟩:Addr).block (⟨t4,0,none⟩:Addr).off b0.toList->
        (∃(dr:aj),dr.size=24/\aB cd ⟨t4,0,none⟩ dr.toList/\
         (R (.returned (.tuple #[.agg dr,.bool false])) cd))))) (
       jJ.aV cy cp cG t3 t4 t6 t7 cM m1 t14 AE AD Cr t49 t50 bW R a1 gi)) (ai R))) (
     jJ.aV cy cp cG t3 t4 t6 t7 13830554455654793216 0 t14 AE AD Cr t49 t50 w R a1 gi))))) (
  jJ.bK cy cp cG t3 t4 t6 t7 t14 w R a1)
def jJ.eZ:=ar6 jJ.ζ
def jJ.b4(cy:γ)(cp cG t4:Nat)(w:World)(R:au):Prop:=
 ∃(fD:aj),fD.size=24/\aB w ⟨t4,0,none⟩ fD.toList/\
 (ν (decide (fD.size=24)) (
  a6 w ⟨t4,0,none⟩ fD.toList/\∀ed,ed=w.setCells (⟨t4,0,none⟩:Addr).block (⟨t4,0,none⟩:Addr).off fD.toList->
  (∃(fE:aj),fE.size=24/\aB ed ⟨t4,0,none⟩ fE.toList/\
   (R (.returned (.tuple #[.agg fE,.bool (((cp:Nat):Int)==0)])) ed))))
def jJ.δ(cy:γ)(cp cG t3 t4:Nat)(t14:Int)(w:World)(R:au)(a1:γ->Nat->Nat->Nat->Nat->Int->al):Prop:=
 cond (decide (t14<8)) (
  cond (decide (((cp:Nat):Int)<2)) (
   ∃(aE:aj),aE.size=24/\aB w ⟨t4,0,none⟩ aE.toList/\
   (ν (decide (aE.size=24)) (
     a6 w ⟨t4,0,none⟩ aE.toList/\∀χ,χ=w.setCells (⟨t4,0,none⟩:Addr).block (⟨t4,0,none⟩:Addr).off aE.toList->
     (∃(bz:aj),bz.size=24/\aB χ ⟨t4,0,none⟩ bz.toList/\
      (R (.returned (.tuple #[.agg bz,.bool false])) χ))))) (
   ν (decide (0<((cp:Nat):Int))) (
    ξ cy λd1=>
    ∃θ,w.drew.cell? d1=some (.int .u8 θ)/\
    (ν (decide (1<((cp:Nat):Int))) (
      ξ cy λd2=>
      ∃ρ,w.drew.cell? (d2.add 1)=some (.int .u8 ρ)/\
      (aK w.drew #[(0:Int),(0:Int)] 84 λax ao=>
       (Value.agg #[(IntKind.i64.wrap θ),(IntKind.i64.wrap ρ)])=(.agg #[(IntKind.i64.wrap θ),(IntKind.i64.wrap ρ)])/\
       (ao.cell? (d2.add 1)=some (.int .u8 ρ)/\
        (ao.cell? d1=some (.int .u8 θ)/\
         (a6 ao ⟨ax,0,none⟩ [(.int .i64 (IntKind.i64.wrap θ)),(.int .i64 (IntKind.i64.wrap ρ))]/\∀an,an=ao.setCells (⟨ax,0,none⟩:Addr).block (⟨ax,0,none⟩:Addr).off [(.int .i64 (IntKind.i64.wrap θ)),(.int .i64 (IntKind.i64.wrap ρ))]->
          (ν (decide (2<=((cp:Nat):Int))) (
           ∃ad,an.cell? ⟨ax,1,none⟩=some (.int .i64 ad)/\
           (cond (decide ((((cp-2):Nat):Int)<(IntKind.i64.wrap (2*ad)))) (
            ∃(bO:aj),bO.size=24/\aB an ⟨t4,0,none⟩ bO.toList/\
            (ν (decide (bO.size=24)) (
            a6 an ⟨t4,0,none⟩ bO.toList/\∀aZ,aZ=an.setCells (⟨t4,0,none⟩:Addr).block (⟨t4,0,none⟩:Addr).off bO.toList->
            (∃(bC:aj),bC.size=24/\aB aZ ⟨t4,0,none⟩ bC.toList/\
            (R (.returned (.tuple #[.agg bC,.bool false])) aZ))))) (
            ∃aC,an.cell? ⟨ax,1,none⟩=some (.int .i64 aC)/\
            (ν (decide (0<=(IntKind.i64.wrap (2*aC)))) (
            ν (decide ((IntKind.i64.wrap (2*aC))<=(((cG-2):Nat):Int))) (
            κ prog 180 #[.slice (dL (dL cy cG 2 1) (cG-2) 0 1) ((IntKind.i64.wrap (2*aC)).toNat) (cG-2),(2:Int)] an (λv1 a8=>
            b7 v1 λbN=>
            ξ (bN[0]?) λv2=>
            cX v2 λae aD c1=>
            ξ (bN[1]?) λv3=>
            br .i64 v3 λay=>
            jJ.eZ (dL cy cG 2 1) (cp-2) (cG-2) t3 t4 t14 ax t14 ae aD c1 ((aD:Nat):Int) 0 a8 R a1) (ai R))))))))))))))))) (
  jJ.b4 cy cp cG t4 w R)
def jJ.bb:=oc jJ.δ
def jJ.main(bG:γ)(bf bD:Nat)(e8 e9:Int)(w:World)(R:au):Prop:=
 aK w #[e8,e9] 28 λδ ε=>
 aK ε #[(0:Int),(0:Int),(0:Int),(0:Int),(0:Int),(0:Int),(0:Int),(0:Int),(0:Int),(0:Int),(0:Int),(0:Int),(0:Int),(0:Int),(0:Int),(0:Int),.slice none 0 0,.slice none 0 0,.slice none 0 0,.slice none 0 0,.slice none 0 0,.slice none 0 0,.slice none 0 0,.slice none 0 0] 89 λζ υ=>
 jJ.bb bG bf bD δ ζ 0 υ R
abbrev jJ.C(bG:γ)(bf bD:Nat)(e8 e9:Int):=Calls prog 149 #[.slice bG bf bD,.agg #[e8,e9]]
theorem jJ.ok:vg jJ.main jJ.C:=λ{_ _ _ _ _ _ R}h=>fo func149 [.cell 4 89,.tmp 5] 92 (.seq .leaf (.cut [(0,.slice),(4,.cA)] (jJ.b4 · · · · · R) (.seq .leaf (.block (.loop [(0,.slice),(3,.cA),(4,.cA),(14,.int .i64)] (jJ.bb · · · · · · · R) λa1=>(.seq .leaf (.seq .leaf (.seq (.block (.seq .leaf (.seq .leaf (.seq .leaf (.seq .leaf (.seq .leaf (.seq .leaf (.cut [(0,.slice),(3,.cA),(4,.cA),(6,.int .i64),(7,.cA),(14,.int .i64)] (jJ.bK · · · · · · · · · R a1) (.seq .leaf (.block (.loop [(0,.slice),(3,.cA),(4,.cA),(6,.int .i64),(7,.cA),(14,.int .i64),(48,.slice),(49,.int .i64),(50,.int .i64)] (jJ.eZ · · · · · · · · · · · · · · R a1) λgi=>(.seq .leaf (.seq .leaf (.seq (.block (.seq .leaf (.seq .leaf (.cut [(0,.slice),(3,.cA),(4,.cA),(6,.int .i64),(7,.cA),(12,.re),(14,.int .i64),(48,.slice),(49,.int .i64),(50,.int .i64)] (jJ.aV · · · · · · · · · · · · · · · · R a1 gi) .leaf .leaf)))) .leaf)))))) .leaf)))))))) .leaf)))))) .leaf)) h
def uU.δ(cy:γ)(cp cG:Nat)(nh:γ)(ng qT:Nat)(t12 t13:Int)(w:World)(R:au)(a1:γ->Nat->Nat->γ->Nat->Nat->Int->Int->al):Prop:=
 cond (decide (t13<t12)) (
  ν (decide (0<=t13)) (
   ν (decide (t13<((cp:Nat):Int))) (
    ξ cy λd1=>
    ∃θ,w.cell? (d1.add (t13.toNat*1))=some (.int .u8 θ)/\
    (ν (decide (0<=t13)) (
     ν (decide (t13<((ng:Nat):Int))) (
      ξ nh λd2=>
      ∃ρ,w.cell? (d2.add (t13.toNat*1))=some (.int .u8 ρ)/\
      (∀aV:Nat,
       cond (θ !=ρ) (
        R (.returned (.bool false)) (w.drewN aV)) (
        a1 cy cp cG nh ng qT t12 (IntKind.i64.wrap (t13+1)) (w.drewN aV))))))))) (
  R (.returned (.bool true)) w)
def uU.bb:=Jp uU.δ
def uU.main(bG:γ)(bf bD:Nat)(gQ:γ)(fy gS:Nat)(w:World)(R:au):Prop:=
 cond (((bf:Nat):Int)!=((fy:Nat):Int)) (
  R (.returned (.bool false)) w) (
  uU.bb bG bf bD gQ fy gS ((bf:Nat):Int) 0 w R)
abbrev uU.C(bG:γ)(bf bD:Nat)(gQ:γ)(fy gS:Nat):=Calls prog 151 #[.slice bG bf bD,.slice gQ fy gS]
theorem uU.ok:xW uU.main uU.C:=λ{_ _ _ _ _ _ _ R}h=>fo func151 [.tmp 4] 26 (.seq .leaf (.seq .leaf (.seq (.seq .leaf (.block (.loop [(0,.slice),(1,.slice),(12,.int .i64),(13,.int .i64)] (uU.bb · · · · · · · · · R) λa1=>.leaf))) .leaf))) h
def Fp.main(bG:γ)(bf bD:Nat)(w:World)(R:au):Prop:=
 aK w #[(0:Int),(0:Int),(0:Int),(0:Int),.complex .f64 0 0] 155 λδ ε=>
 cond (((bf:Nat):Int)!=5) (
  a6 ε ⟨δ,0,none⟩ [(.int .i64 0),(.int .i64 0),(.int .i64 0),(.int .i64 0),(.complex .f64 0 0)]/\∀υ,υ=ε.setCells (⟨δ,0,none⟩:Addr).block (⟨δ,0,none⟩:Addr).off [(.int .i64 0),(.int .i64 0),(.int .i64 0),(.int .i64 0),(.complex .f64 0 0)]->
  (∃(aE:aj),aE.size=5/\aB υ ⟨δ,0,none⟩ aE.toList/\
   (R (.returned (.tuple #[.agg aE,(6:Int)])) υ))) (
  ν (decide (0<((bf:Nat):Int))) (
   ξ bG λd1=>
   ∃θ,ε.drew.cell? d1=some (.int .u8 θ)/\
   (ν (decide (1<((bf:Nat):Int))) (
    ξ bG λd2=>
    ∃ρ,ε.drew.cell? (d2.add 1)=some (.int .u8 ρ)/\
    (ν (decide (1<((bf:Nat):Int))) (
     ξ bG λd3=>
     ∃ad,ε.drew.cell? (d3.add 1)=some (.int .u8 ad)/\
     (ν (decide (2<((bf:Nat):Int))) (
      ξ bG λd4=>
      ∃aC,ε.drew.cell? (d4.add 2)=some (.int .u8 aC)/\
      (ν (decide (3<((bf:Nat):Int))) (
       ξ bG λd5=>
       ∃ay,ε.drew.cell? (d5.add 3)=some (.int .u8 ay)/\
       (ν (decide (4<((bf:Nat):Int))) (
        ξ bG λd6=>
        ∃aM,ε.drew.cell? (d6.add 4)=some (.int .u8 aM)/\
        (aK ε.drew #[(0:Int),(0:Int),(0:Int),(0:Int),.complex .f64 0 0] 155 λζ χ=>
        (Value.agg #[(IntKind.i64.wrap θ),(IntKind.i64.wrap (Int.fdiv ρ (2^(min 4 IntKind.u8.bits)))),(IntKind.i64.wrap (IntKind.u8.wrap (BitVec.ofInt IntKind.u8.bits ad&&&BitVec.ofInt IntKind.u8.bits 15).toNat)),(IntKind.i64.wrap aC),.complex .f64 (FloatKind.f64.nearest ay) (FloatKind.f64.nearest aM)])=(.agg #[(IntKind.i64.wrap θ),(IntKind.i64.wrap (Int.fdiv ρ (2^(min 4 IntKind.u8.bits)))),(IntKind.i64.wrap (IntKind.u8.wrap (BitVec.ofInt IntKind.u8.bits ad&&&BitVec.ofInt IntKind.u8.bits 15).toNat)),(IntKind.i64.wrap aC),.complex .f64 (FloatKind.f64.nearest ay) (FloatKind.f64.nearest aM)])/\
        (χ.cell? (d6.add 4)=some (.int .u8 aM)/\
        (χ.cell? (d5.add 3)=some (.int .u8 ay)/\
        (χ.cell? (d4.add 2)=some (.int .u8 aC)/\
        (χ.cell? (d3.add 1)=some (.int .u8 ad)/\
        (χ.cell? (d2.add 1)=some (.int .u8 ρ)/\
        (χ.cell? d1=some (.int .u8 θ)/\
        (a6 χ ⟨ζ,0,none⟩ [(.int .i64 (IntKind.i64.wrap θ)),(.int .i64 (IntKind.i64.wrap (Int.fdiv ρ (2^(min 4 IntKind.u8.bits))))),(.int .i64 (IntKind.i64.wrap (IntKind.u8.wrap (BitVec.ofInt IntKind.u8.bits ad&&&BitVec.ofInt IntKind.u8.bits 15).toNat))),(.int .i64 (IntKind.i64.wrap aC)),(.complex .f64 (FloatKind.f64.nearest ay) (FloatKind.f64.nearest aM))]/\∀ao,ao=χ.setCells (⟨ζ,0,none⟩:Addr).block (⟨ζ,0,none⟩:Addr).off [(.int .i64 (IntKind.i64.wrap θ)),(.int .i64 (IntKind.i64.wrap (Int.fdiv ρ (2^(min 4 IntKind.u8.bits))))),(.int .i64 (IntKind.i64.wrap (IntKind.u8.wrap (BitVec.ofInt IntKind.u8.bits ad&&&BitVec.ofInt IntKind.u8.bits 15).toNat))),(.int .i64 (IntKind.i64.wrap aC)),(.complex .f64 (FloatKind.f64.nearest ay) (FloatKind.f64.nearest aM))]->
        (∃(bz:aj),bz.size=5/\aB ao ⟨ζ,0,none⟩ bz.toList/\
        (κ prog 155 #[.agg bz] ao (λv1 an=>
        br .i64 v1 λaU=>
        cond (aU !=0) (
        a6 an ⟨δ,0,none⟩ [(.int .i64 0),(.int .i64 0),(.int .i64 0),(.int .i64 0),(.complex .f64 0 0)]/\∀a8,a8=an.setCells (⟨δ,0,none⟩:Addr).block (⟨δ,0,none⟩:Addr).off [(.int .i64 0),(.int .i64 0),(.int .i64 0),(.int .i64 0),(.complex .f64 0 0)]->
        (∃(bO:aj),bO.size=5/\aB a8 ⟨δ,0,none⟩ bO.toList/\
        (R (.returned (.tuple #[.agg bO,(2:Int)])) a8))) (
        ∃(bC:aj),bC.size=5/\aB an ⟨ζ,0,none⟩ bC.toList/\
        (ν (decide (bC.size=5)) (
        a6 an ⟨δ,0,none⟩ bC.toList/\∀bV,bV=an.setCells (⟨δ,0,none⟩:Addr).block (⟨δ,0,none⟩:Addr).off bC.toList->
        (∃(b0:aj),b0.size=5/\aB bV ⟨δ,0,none⟩ b0.toList/\
        (R (.returned (.tuple #[.agg b0,(0:Int)])) bV)))))) (ai R)))))))))))))))))))))))
abbrev Fp.C(bG:γ)(bf bD:Nat):=Calls prog 152 #[.slice bG bf bD]
theorem Fp.ok:ji Fp.main Fp.C:=λh=>dA func152 [.cell 2 155,.tmp 3] 42 h
def qR.aV(jP:γ)(iD jC:Nat)(w:World)(R:au):Prop:=
 κ prog 173 #[.slice jP iD jC] w (λfm cd=>
  b7 fm λh5=>
  ξ (h5[0]?) λa7=>
  cX a7 λgp dU jk=>
  ξ (h5[1]?) λv9=>
  br .i64 v9 λad=>
  R (.returned (.tuple #[.slice gp dU jk,ad])) cd) (ai R)
def qR.δ(jP:γ)(iD jC:Nat)(AB:γ)(AA D6:Nat)(t29 t30:Int)(w:World)(R:au)(a1:γ->Nat->Nat->γ->Nat->Nat->Int->Int->al):Prop:=
 cond (decide (t30<t29)) (
  ν (decide (0<=t30)) (
   ν (decide (t30<((AA:Nat):Int))) (
    ξ AB λd1=>
    ∃(aE:aj),aE.size=5/\aB w (d1.add (t30.toNat*5)) aE.toList/\
    (aK w #[(0:Int),(0:Int),(0:Int),(0:Int),.complex .f64 0 0] 155 λax aZ=>
     ν (decide (aE.size=5)) (
      a6 aZ ⟨ax,0,none⟩ aE.toList/\∀a8,a8=aZ.setCells (⟨ax,0,none⟩:Addr).block (⟨ax,0,none⟩:Addr).off aE.toList->
      (∃(bz:aj),bz.size=5/\aB a8 ⟨ax,0,none⟩ bz.toList/\
       (κ prog 181 #[.agg bz] a8 (λv4 bV=>
        b7 v4 λeY=>
        ξ (eY[0]?) λv5=>
        cX v5 λbj bu bP=>
        ξ (eY[1]?) λv6=>
        br .i64 v6 λρ=>
        cond (ρ !=0) (
         R (.returned (.tuple #[.slice none 0 0,ρ])) bV) (
         ho bV jP iD jC bu (bd bV bj) 5 1 1 #[.int .u8 0] λeo h0 c4=>
         a1 eo (iD+bu) h0 AB AA D6 t29 (IntKind.i64.wrap (t30+1)) c4)) (ai R)))))))) (
  qR.aV jP iD jC w R)
def qR.bb:=Jp qR.δ
def qR.main(a0 aw:Int)(hI:γ)(ev ij:Nat)(w:World)(R:au):Prop:=
 aK w #[a0] 3 λδ ε=>
 κ prog 174 #[(4:Int),.slice (some ⟨δ,0,none⟩) 1 1] ε (λv1 υ=>
  b7 v1 λbN=>
  ξ (bN[0]?) λv2=>
  cX v2 λae aD c1=>
  ξ (bN[1]?) λv3=>
  br .i64 v3 λθ=>
  aK υ #[.int .u8 (IntKind.u8.wrap aw),.int .u8 (IntKind.u8.wrap ((ev:Nat):Int))] 5 λζ ao=>
  ho ao ae aD c1 2 (bd ao (some ⟨ζ,0,none⟩)) 5 1 1 #[.int .u8 0] λaX c2 an=>
  qR.bb aX (aD+2) c2 hI ev ij ((ev:Nat):Int) 0 an R) (ai R)
abbrev qR.C(a0 aw:Int)(hI:γ)(ev ij:Nat):=Calls prog 153 #[a0,aw,.slice hI ev ij]
theorem qR.ok:vg qR.main qR.C:=λ{_ _ _ _ _ _ R}h=>fo func153 [.tmp 6,.tmp 7] 50 (.seq .leaf (.seq .leaf (.seq .leaf (.cut [(8,.slice)] (qR.aV · · · · R) (.seq .leaf (.block (.loop [(8,.slice),(28,.slice),(29,.int .i64),(30,.int .i64)] (qR.bb · · · · · · · · · R) λa1=>.leaf))) .leaf)))) h
def EZ.main(bG:γ)(bf bD:Nat)(gQ:γ)(fy gS:Nat)(w:World)(R:au):Prop:=
 ∃(lJ:aq),lJ.length=bf/\bd w bG (lJ.map (.int .u8))/\
 (∃(xj:aq),xj.length=fy/\bd w gQ (xj.map (.int .u8))/\
  (R (.returned (.bool ((strOf lJ).toList==(strOf xj).toList))) w))
abbrev EZ.C(bG:γ)(bf bD:Nat)(gQ:γ)(fy gS:Nat):=Calls prog 154 #[.slice bG bf bD,.slice gQ fy gS]
theorem EZ.ok:xW EZ.main EZ.C:=λh=>dA func154 [.tmp 4] 10 h
def Fo.main(fM gH pL pM:Int)(x0 xZ:Nat)(w:World)(R:au):Prop:=
 aK w #[fM,gH,pL,pM,.complex .f64 x0 xZ] 155 λδ ε=>
 ∃θ,ε.cell? ⟨δ,0,none⟩=some (.int .i64 θ)/\
 (κ prog 112 #[θ,(1:Int),(6:Int)] ε (λv1 υ=>
  dF v1 λζ=>
  cond (!ζ) (
   R (.returned (.int .i64 1)) υ) (
   ∃(aE:aj),aE.size=5/\aB υ ⟨δ,0,none⟩ aE.toList/\
   (κ prog 182 #[.agg aE] υ (λv2 ao=>
    b7 v2 λbN=>
    ξ (bN[0]?) λv3=>
    cv v3 λbz=>
    ξ (bN[1]?) λv4=>
    dF v4 λax=>
    aK ao #[(0:Int),(0:Int),(0:Int),(0:Int),.complex .f64 0 0] 155 λaa aZ=>
    ν (decide (bz.size=5)) (
     a6 aZ ⟨aa,0,none⟩ bz.toList/\∀a8,a8=aZ.setCells (⟨aa,0,none⟩:Addr).block (⟨aa,0,none⟩:Addr).off bz.toList->
     (cond (!ax) (
      R (.returned (.int .i64 5)) a8) (
      ∃ρ,a8.cell? ⟨aa,2,none⟩=some (.int .i64 ρ)/\
      (cond (ρ !=0) (
       R (.returned (.int .i64 2)) a8) (
       ∃ad,a8.cell? ⟨aa,3,none⟩=some (.int .i64 ad)/\
       (cond (ad !=0) (
        R (.returned (.int .i64 2)) a8) (
        ∃cM m1,a8.cell? ⟨aa,4,none⟩=some (.complex .f64 cM m1)/\
        (cond (!(eQ .eql cM 0&&eQ .eql m1 0)) (
        R (.returned (.int .i64 2)) a8) (
        R (.returned (.int .i64 0)) a8)))))))))) (ai R)))) (ai R))
abbrev Fo.C(fM gH pL pM:Int)(x0 xZ:Nat):=Calls prog 155 #[.agg #[fM,gH,pL,pM,.complex .f64 x0 xZ]]
theorem Fo.ok:xW Fo.main Fo.C:=λh=>dA func155 [.tmp 2] 31 h
def vl.main(a0:Nat)(aw:Int)(w:World)(R:au):Prop:=
 cond (eQ .geq a0 0) (
  cond (eQ .lss a0 (FloatKind.f64.nearest aw)) (
   ξ ((FloatKind.f64.decode a0).toInt .zero) λθ=>
   ν (decide (IntKind.i64.min<=θ)) (
    ν (decide (θ<=IntKind.i64.max)) (
     R (.returned (.bool (eQ .eql (FloatKind.f64.nearest θ) a0))) w))) (
   R (.returned (.bool false)) w)) (
  R (.returned (.bool false)) w)
abbrev vl.C(a0:Nat)(aw:Int):=Calls prog 157 #[.float .f64 a0,aw]
theorem vl.ok:kn vl.main vl.C:=λh=>dA func157 [.tmp 4] 20 h
def H6.main(a0:γ)(aw:Int)(w:World)(R:au):Prop:=
 ξ a0 λd1=>
 ∃ae aD c1,w.cell? (d1.add 1)=some (.slice ae aD c1)/\
 (ν (decide (0<=(IntKind.i64.wrap (Int.tdiv aw 8)))) (
  ν (decide ((IntKind.i64.wrap (Int.tdiv aw 8))<((aD:Nat):Int))) (
   ξ ae λd2=>
   ∃aX,w.cell? (d2.add ((IntKind.i64.wrap (Int.tdiv aw 8)).toNat*1))=some (.pointer aX)/\
   (cond (!(Option.isNone aX)) (
    ξ aX λd3=>
    ν (decide (0<=(Int.tmod aw 8))) (
     ν (decide ((Int.tmod aw 8)<(8:Int))) (
      ∃cM m1,w.cell? (d3.add ((Int.tmod aw 8).toNat*1))=some (.complex .f64 cM m1)/\
      (R (.returned (.complex .f64 cM m1)) w)))) (
    R (.returned (.complex .f64 13830554455654793216 0)) w)))))
abbrev H6.C(a0:γ)(aw:Int):=Calls prog 158 #[.pointer a0,aw]
theorem H6.ok:kn H6.main H6.C:=λh=>dA func158 [.tmp 4] 22 h
def H8.main(bG:γ)(bf bD:Nat)(w:World)(R:au):Prop:=
 cond (Option.isNone bG) (
  R (.returned (.slice none 0 0)) w) (
  aK w #[] 250 λδ ε=>
  ho ε (some ⟨δ,0,none⟩) 0 0 bf (bd ε bG) 250 1 8 #[.pointer none] λae c1 υ=>
  R (.returned (.slice ae (0+bf) c1)) υ)
abbrev H8.C(bG:γ)(bf bD:Nat):=Calls prog 159 #[.slice bG bf bD]
theorem H8.ok:ji H8.main H8.C:=λh=>dA func159 [.tmp 2] 8 h
def Kj.main(jU ka:Nat)(w:World)(R:au):Prop:=
 R (.returned (.bool (!(eQ .eql jU 13830554455654793216&&eQ .eql ka 0)))) w
abbrev Kj.C(jU ka:Nat):=Calls prog 160 #[.complex .f64 jU ka]
theorem Kj.ok:kn Kj.main Kj.C:=λh=>dA func160 [.tmp 2] 5 h
def J3.main(fM gH:Int)(w:World)(R:au):Prop:=
 aK w #[fM,gH] 84 λδ ε=>
 ∃θ,ε.cell? ⟨δ,0,none⟩=some (.int .i64 θ)/\
 (R (.returned (.bool (θ==0))) ε)
abbrev J3.C(fM gH:Int):=Calls prog 162 #[.agg #[fM,gH]]
theorem J3.ok:kn J3.main J3.C:=λh=>dA func162 [.tmp 2] 6 h
def H4.main(a0:γ)(aw:Int)(w:World)(R:au):Prop:=
 κ prog 116 #[.pointer a0,aw] w (λv1 ε=>
  br .i64 v1 λθ=>
  cond (θ !=0) (
   R (.returned (.tuple #[.complex .f64 0 0,.bool false,θ])) ε) (
   κ prog 158 #[.pointer a0,aw] ε (λv2 χ=>
    mA v2 λcM m1=>
    cond (!(eQ .eql cM 13830554455654793216&&eQ .eql m1 0)) (
     R (.returned (.tuple #[.complex .f64 cM m1,.bool true,(0:Int)])) χ) (
     R (.returned (.tuple #[.complex .f64 0 0,.bool false,(0:Int)])) χ)) (ai R))) (ai R)
abbrev H4.C(a0:γ)(aw:Int):=Calls prog 163 #[.pointer a0,aw]
theorem H4.ok:kn H4.main H4.C:=λh=>dA func163 [.tmp 4,.tmp 5,.tmp 6] 21 h
def EH.main(bG:γ)(bf bD:Nat)(aw:Int)(w:World)(R:au):Prop:=
 aK w #[.slice bG bf bD] 70 λδ ε=>
 aK ε #[aw] 3 λζ υ=>
 ∃θ,υ.cell? ⟨ζ,0,none⟩=some (.int .i64 θ)/\
 (cond (decide (θ<1)) (
  R (.panicked [{v:=(.iface 9 (.string (⟨#[99,97,110,110,111,116,32,98,101,32,108,101,115,115,32,116,104,97,110,32,49]⟩:ByteArray))),recovered:=false}]) υ) (
  R (.returned (.func (.func 184) #[] #[.pointer (some ⟨δ,0,none⟩),.pointer (some ⟨ζ,0,none⟩)])) υ))
abbrev EH.C(bG:γ)(bf bD:Nat)(aw:Int):=Calls prog 164 #[.slice bG bf bD,aw]
theorem EH.ok:lu EH.main EH.C:=λh=>dA func164 [.tmp 4] 9 h
def AI.main(a0:γ)(w:World)(R:au):Prop:=
 cond (Option.isNone a0) (
  R (.returned (.int .i64 0)) w) (
  ξ a0 λd1=>
  ∃θ,w.cell? d1=some (.int .i64 θ)/\
  (R (.returned (.int .i64 θ)) w))
abbrev AI.C(a0:γ):=Calls prog 165 #[.pointer a0]
theorem AI.ok:iS AI.main AI.C:=λh=>dA func165 [.tmp 2] 9 h
def EJ.main(jU ka sK sJ:Nat)(w:World)(R:au):Prop:=
 κ prog 188 #[.float .f64 jU,.float .f64 sK] w (λv1 ε=>
  br .i64 v1 λθ=>
  κ prog 188 #[.float .f64 ka,.float .f64 sJ] ε (λv2 χ=>
   br .i64 v2 λρ=>
   aK χ #[θ,ρ] 3 λδ an=>
   κ prog 187 #[.slice (some ⟨δ,0,none⟩) 2 2] an (λv3 aZ=>
    br .i64 v3 λad=>
    R (.returned (.int .i64 ad)) aZ) (ai R)) (ai R)) (ai R)
abbrev EJ.C(jU ka sK sJ:Nat):=Calls prog 167 #[.complex .f64 jU ka,.complex .f64 sK sJ]
theorem EJ.ok:lu EJ.main EJ.C:=λh=>dA func167 [.tmp 4] 17 h
def Hu.main(bG:γ)(bf bD:Nat)(w:World)(R:au):Prop:=
 ν (decide (0<=((bf:Nat):Int))) (
  ν (decide (((bf:Nat):Int)<=((bD:Nat):Int))) (
   ν (decide (0<=((bf:Nat):Int))) (
    ν (decide (((bf:Nat):Int)<=((bf:Nat):Int))) (
     R (.returned (.slice (dL bG bf 0 1) bf bf)) w))))
abbrev Hu.C(bG:γ)(bf bD:Nat):=Calls prog 168 #[.slice bG bf bD]
theorem Hu.ok:ji Hu.main Hu.C:=λh=>dA func168 [.tmp 2] 9 h
def oo.aV(cy:γ)(cp cG:Nat)(t3:Int)(w:World)(R:au)(a1:γ->Nat->Nat->Int->al):Prop:=
 ν (decide (0<=t3)) (
  ν (decide (t3<=((cp:Nat):Int))) (
   TY w (dL cy cG t3.toNat 1) (cp-t3.toNat) #[.complex .f64 0 0] λυ=>
   ν (decide (0<=t3)) (
    ν (decide (t3<=((cG:Nat):Int))) (
     R (.returned (.slice (dL cy cG 0 1) t3.toNat cG)) υ))))
def oo.ζ(cy:γ)(cp cG:Nat)(t3:Int)(rT:γ)(qU wm:Nat)(t5:Int)(w:World)(R:au)(a1:γ->Nat->Nat->Int->al)(gi:γ->Nat->Nat->Int->γ->Nat->Nat->Int->al):Prop:=
 cond (decide (t5<((qU:Nat):Int))) (
  ν (decide (0<=t5)) (
   ν (decide (t5<((qU:Nat):Int))) (
    ξ rT λd3=>
    ∃iY m3,w.cell? (d3.add (t5.toNat*1))=some (.complex .f64 iY m3)/\
    (ν (decide (0<=(IntKind.i64.wrap (t5-1)))) (
     ν (decide ((IntKind.i64.wrap (t5-1))<((qU:Nat):Int))) (
      ξ rT λd4=>
      ∃rN m4,w.cell? (d4.add ((IntKind.i64.wrap (t5-1)).toNat*1))=some (.complex .f64 rN m4)/\
      (∀bK:Nat,
       cond (!(eQ .eql iY rN&&eQ .eql m3 m4)) (
        ν (decide (0<=t5)) (
         ν (decide (t5<((qU:Nat):Int))) (
          ξ rT λd5=>
          ∃DY m5,(w.drewN bK).cell? (d5.add (t5.toNat*1))=some (.complex .f64 DY m5)/\
          (ν (decide (0<=t3)) (
           ν (decide (t3<((cp:Nat):Int))) (
           ξ cy λd6=>
           ((w.drewN bK).cell? (d6.add (t3.toNat*1))).isSome=true/\(w.drewN bK).frozen? (d6.add (t3.toNat*1))=false/\∀ε,ε=(w.drewN bK).setCell (d6.add (t3.toNat*1)) (.complex .f64 DY m5)->
           (gi cy cp cG (IntKind.i64.wrap (t3+1)) rT qU wm (IntKind.i64.wrap (t5+1)) ε))))))) (
        gi cy cp cG t3 rT qU wm (IntKind.i64.wrap (t5+1)) (w.drewN bK))))))))) (
  oo.aV cy cp cG t3 w R a1)
def oo.eZ:=ar9 oo.ζ
def oo.δ(cy:γ)(cp cG:Nat)(t3:Int)(w:World)(R:au)(a1:γ->Nat->Nat->Int->al):Prop:=
 cond (decide (t3<((cp:Nat):Int))) (
  ν (decide (0<=t3)) (
   ν (decide (t3<((cp:Nat):Int))) (
    ξ cy λd1=>
    ∃cM m1,w.cell? (d1.add (t3.toNat*1))=some (.complex .f64 cM m1)/\
    (ν (decide (0<=(IntKind.i64.wrap (t3-1)))) (
     ν (decide ((IntKind.i64.wrap (t3-1))<((cp:Nat):Int))) (
      ξ cy λd2=>
      ∃fC m2,w.cell? (d2.add ((IntKind.i64.wrap (t3-1)).toNat*1))=some (.complex .f64 fC m2)/\
      (∀aV:Nat,
       cond (eQ .eql cM fC&&eQ .eql m1 m2) (
        ν (decide (0<=t3)) (
         ν (decide (t3<=((cp:Nat):Int))) (
          oo.eZ cy cp cG t3 (dL cy cG t3.toNat 1) (cp-t3.toNat) (cG-t3.toNat) 1 (w.drewN aV) R a1))) (
        a1 cy cp cG (IntKind.i64.wrap (t3+1)) (w.drewN aV))))))))) (
  R (.returned (.slice cy cp cG)) w)
def oo.bb:=MF oo.δ
def oo.main(bG:γ)(bf bD:Nat)(w:World)(R:au):Prop:=
 cond (decide (((bf:Nat):Int)<2)) (
  R (.returned (.slice bG bf bD)) w) (
  oo.bb bG bf bD 1 w R)
abbrev oo.C(bG:γ)(bf bD:Nat):=Calls prog 169 #[.slice bG bf bD]
theorem oo.ok:ji oo.main oo.C:=λ{_ _ _ _ R}h=>fo func169 [.tmp 2] 61 (.seq .leaf (.seq .leaf (.seq (.seq .leaf (.block (.loop [(0,.slice),(3,.int .i64)] (oo.bb · · · · · R) λa1=>(.seq .leaf (.seq (.block (.seq .leaf (.cond (.seq .leaf (.cut [(0,.slice),(3,.int .i64)] (oo.aV · · · · · R a1) (.seq .leaf (.block (.loop [(0,.slice),(3,.int .i64),(4,.slice),(5,.int .i64)] (oo.eZ · · · · · · · · · R a1) λgi=>.leaf))) .leaf)) .leaf))) .leaf))))) .leaf))) h
def E8.main(a0 aw:Int)(w:World)(R:au):Prop:=
 κ prog 176 #[a0] w (λv1 ε=>
  dF v1 λδ=>
  κ prog 176 #[aw] ε (λv2 χ=>
   dF v2 λζ=>
   cond δ (
    cond ζ (
     R (.returned (.int .i64 0)) χ) (
     R (.returned (.int .i64 (-1))) χ)) (
    cond ζ (
     R (.returned (.int .i64 1)) χ) (
     cond (decide (a0<aw)) (
      R (.returned (.int .i64 (-1))) χ) (
      cond (decide (a0>aw)) (
       R (.returned (.int .i64 1)) χ) (
       R (.returned (.int .i64 0)) χ))))) (ai R)) (ai R)
abbrev E8.C(a0 aw:Int):=Calls prog 171 #[a0,aw]
theorem E8.ok:kn E8.main E8.C:=λh=>dA func171 [.tmp 4] 20 h
def Ho.main(bG:γ)(bf bD:Nat)(w:World)(R:au):Prop:=
 cond (decide (((bf:Nat):Int)>60)) (
  R (.returned (.tuple #[.slice none 0 0,(6:Int)])) w) (
  aK w (madeCells #[.int .u8 0] (64*1)) 5 λδ ε=>
  wS ε (some ⟨δ,0,none⟩) 60 bG bf 1 λυ=>
  κ prog 140 #[.slice (some ⟨δ,0,none⟩) 60 64] υ (λv1 χ=>
   br .u32 v1 λθ=>
   aK χ #[.int .u8 (IntKind.u8.wrap (Int.fdiv θ (2^(min 24 IntKind.u32.bits)))),.int .u8 (IntKind.u8.wrap (Int.fdiv θ (2^(min 16 IntKind.u32.bits)))),.int .u8 (IntKind.u8.wrap (Int.fdiv θ (2^(min 8 IntKind.u32.bits)))),.int .u8 (IntKind.u8.wrap θ)] 5 λζ an=>
   ho an (some ⟨δ,0,none⟩) 60 64 4 (bd an (some ⟨ζ,0,none⟩)) 5 1 1 #[.int .u8 0] λae c1 aZ=>
   R (.returned (.tuple #[.slice ae (60+4) c1,(0:Int)])) aZ) (ai R))
abbrev Ho.C(bG:γ)(bf bD:Nat):=Calls prog 173 #[.slice bG bf bD]
theorem Ho.ok:ji Ho.main Ho.C:=λh=>dA func173 [.tmp 2,.tmp 3] 29 h
def tW.δ(t0:Int)(rT:γ)(qU wm:Nat)(j6:γ)(kl kk:Nat)(t12 t13:Int)(w:World)(R:au)(a1:Int->γ->Nat->Nat->γ->Nat->Nat->Int->Int->al):Prop:=
 cond (decide (t13<t12)) (
  ν (decide (0<=t13)) (
   ν (decide (t13<((kl:Nat):Int))) (
    ξ j6 λd1=>
    ∃θ,w.cell? (d1.add (t13.toNat*1))=some (.int .i64 θ)/\
    (κ prog 190 #[.slice rT qU wm,t0,θ] w (λv2 χ=>
     b7 v2 λbN=>
     ξ (bN[0]?) λv3=>
     cX v3 λae aD c1=>
     ξ (bN[1]?) λv4=>
     br .i64 v4 λρ=>
     cond (ρ !=0) (
      R (.returned (.tuple #[.slice none 0 0,ρ])) χ) (
      a1 t0 ae aD c1 j6 kl kk t12 (IntKind.i64.wrap (t13+1)) χ)) (ai R))))) (
  R (.returned (.tuple #[.slice rT qU wm,(0:Int)])) w)
def tW.bb:=W0 tW.δ
def tW.main(a0:Int)(gQ:γ)(fy gS:Nat)(w:World)(R:au):Prop:=
 κ prog 189 #[a0] w (λv1 ε=>
  dF v1 λδ=>
  cond (!δ) (
   R (.returned (.tuple #[.slice none 0 0,(1:Int)])) ε) (
   tW.bb a0 none 0 0 gQ fy gS ((fy:Nat):Int) 0 ε R)) (ai R)
abbrev tW.C(a0:Int)(gQ:γ)(fy gS:Nat):=Calls prog 174 #[a0,.slice gQ fy gS]
theorem tW.ok:lu tW.main tW.C:=λ{_ _ _ _ _ R}h=>fo func174 [.tmp 4,.tmp 5] 29 (.seq .leaf (.seq .leaf (.seq (.seq .leaf (.block (.loop [(0,.int .i64),(4,.slice),(11,.slice),(12,.int .i64),(13,.int .i64)] (tW.bb · · · · · · · · · · R) λa1=>.leaf))) .leaf))) h
def uO.δ(t5:Int)(fH:γ)(fq fQ:Nat)(t11 t12:Int)(w:World)(R:au)(a1:Int->γ->Nat->Nat->Int->Int->al):Prop:=
 cond (decide (t12<t11)) (
  ν (decide (0<=t12)) (
   ν (decide (t12<((fq:Nat):Int))) (
    ξ fH λd1=>
    ∃θ,w.cell? (d1.add (t12.toNat*1))=some (.int .u8 θ)/\
    (κ prog 191 #[.int .u32 (IntKind.u32.wrap (BitVec.ofInt IntKind.u32.bits t5^^^BitVec.ofInt IntKind.u32.bits (IntKind.u32.wrap ((IntKind.u32.wrap θ)*2^(min 24 IntKind.u32.bits)))).toNat)] w (λv1 ε=>
     br .u32 v1 λρ=>
     a1 ρ fH fq fQ t11 (IntKind.i64.wrap (t12+1)) ε) (ai R))))) (
  R (.returned (.int .u32 (IntKind.u32.wrap (BitVec.ofInt IntKind.u32.bits (if IntKind.u32.signed then-1 else IntKind.u32.max)^^^BitVec.ofInt IntKind.u32.bits t5).toNat))) w)
def uO.bb:=oc uO.δ
def uO.main(a0:Int)(gQ:γ)(fy gS:Nat)(w:World)(R:au):Prop:=
 uO.bb (IntKind.u32.wrap (BitVec.ofInt IntKind.u32.bits (if IntKind.u32.signed then-1 else IntKind.u32.max)^^^BitVec.ofInt IntKind.u32.bits a0).toNat) gQ fy gS ((fy:Nat):Int) 0 w R
abbrev uO.C(a0:Int)(gQ:γ)(fy gS:Nat):=Calls prog 175 #[.int .u32 a0,.slice gQ fy gS]
theorem uO.ok:lu uO.main uO.C:=λ{_ _ _ _ _ R}h=>fo func175 [.tmp 4] 25 (.seq .leaf (.seq .leaf (.seq (.seq .leaf (.block (.loop [(5,.int .u32),(10,.slice),(11,.int .i64),(12,.int .i64)] (uO.bb · · · · · · · R) λa1=>.leaf))) .leaf))) h
def cmp_isNaN_int.main(a0:Int)(w:World)(R:au):Prop:=
 R (.returned (.bool (a0 !=a0))) w
abbrev cmp_isNaN_int.C(a0:Int):=Calls prog 176 #[a0]
theorem cmp_isNaN_int.ok:iS cmp_isNaN_int.main cmp_isNaN_int.C:=λh=>dA func176 [.tmp 2] 6 h
def Gr.main(a0 aw:Int)(eu:Nat)(w:World)(R:au):Prop:=
 ∃ae aD c1,w.cell? ⟨eu,0,none⟩=some (.slice ae aD c1)/\
 (κ prog 179 #[.slice ae aD c1,a0,aw] w (λv1 ε=>
  b7 v1 λbN=>
  ξ (bN[0]?) λv2=>
  br .i64 v2 λθ=>
  ξ (bN[1]?) λv3=>
  br .i64 v3 λρ=>
  R (.returned (.int .i64 θ)) ε) (ai R))
abbrev Gr.C(a0 aw:Int)(eu:Nat):=Calls prog 178 #[a0,aw,.pointer (some ⟨eu,0,none⟩)]
theorem Gr.ok:ji Gr.main Gr.C:=λh=>dA func178 [.tmp 5] 16 h
def E1.main(bG:γ)(bf bD:Nat)(aw a2:Int)(w:World)(R:au):Prop:=
 κ prog 189 #[a2] w (λv1 ε=>
  dF v1 λδ=>
  cond (!δ) (
   R (.returned (.tuple #[(0:Int),(1:Int)])) ε) (
   cond (decide (aw<0)) (
    R (.returned (.tuple #[(0:Int),(3:Int)])) ε) (
    cond (decide (aw>(IntKind.i64.wrap (((bf:Nat):Int)-a2)))) (
     R (.returned (.tuple #[(0:Int),(3:Int)])) ε) (
     ν (decide (0<=(IntKind.i64.wrap (aw+a2)))) (
      ν (decide ((IntKind.i64.wrap (aw+a2))<=((bD:Nat):Int))) (
       ν (decide (0<=aw)) (
        ν (decide (aw<=(((IntKind.i64.wrap (aw+a2)).toNat:Nat):Int))) (
         κ prog 193 #[.slice (dL bG bD aw.toNat 1) ((IntKind.i64.wrap (aw+a2)).toNat-aw.toNat) (bD-aw.toNat)] ε (λv2 χ=>
          br .i64 v2 λθ=>
          R (.returned (.tuple #[θ,(0:Int)])) χ) (ai R))))))))) (ai R)
abbrev E1.C(bG:γ)(bf bD:Nat)(aw a2:Int):=Calls prog 179 #[.slice bG bf bD,aw,a2]
theorem E1.ok:vg E1.main E1.C:=λh=>dA func179 [.tmp 6,.tmp 7] 30 h
def tX.δ(cy:γ)(cp cG:Nat)(t1:Int)(lo:γ)(ky mL:Nat)(w:World)(R:au)(a1:γ->Nat->Nat->Int->γ->Nat->Nat->al):Prop:=
 cond (decide (((cp:Nat):Int)>0)) (
  ν (decide (0<=t1)) (
   ν (decide (t1<=((cG:Nat):Int))) (
    κ prog 193 #[.slice (dL cy cG 0 1) t1.toNat cG] w (λv2 χ=>
     br .i64 v2 λθ=>
     aK χ #[θ] 3 λζ an=>
     ho an lo ky mL 1 (bd an (some ⟨ζ,0,none⟩)) 3 1 8 #[(0:Int)] λae c1 aZ=>
     ν (decide (0<=t1)) (
      ν (decide (t1<=((cp:Nat):Int))) (
       a1 (dL cy cG t1.toNat 1) (cp-t1.toNat) (cG-t1.toNat) t1 ae (ky+1) c1 aZ))) (ai R)))) (
  R (.returned (.tuple #[.slice lo ky mL,(0:Int)])) w)
def tX.bb:=DC tX.δ
def tX.main(bG:γ)(bf bD:Nat)(aw:Int)(w:World)(R:au):Prop:=
 κ prog 189 #[aw] w (λv1 ε=>
  dF v1 λδ=>
  cond (!δ) (
   R (.returned (.tuple #[.slice none 0 0,(1:Int)])) ε) (
   ν (decide (aw≠0)) (
    cond ((Int.tmod ((bf:Nat):Int) aw)!=0) (
     R (.returned (.tuple #[.slice none 0 0,(6:Int)])) ε) (
     tX.bb bG bf bD aw none 0 0 ε R)))) (ai R)
abbrev tX.C(bG:γ)(bf bD:Nat)(aw:Int):=Calls prog 180 #[.slice bG bf bD,aw]
theorem tX.ok:lu tX.main tX.C:=λ{_ _ _ _ _ R}h=>fo func180 [.tmp 4,.tmp 5] 31 (.seq .leaf (.seq .leaf (.seq .leaf (.seq (.block (.loop [(0,.slice),(1,.int .i64),(6,.slice)] (tX.bb · · · · · · · · R) λa1=>.leaf)) .leaf)))) h
def Fq.main(fM gH pL pM:Int)(x0 xZ:Nat)(w:World)(R:au):Prop:=
 aK w #[fM,gH,pL,pM,.complex .f64 x0 xZ] 155 λδ ε=>
 ∃(aE:aj),aE.size=5/\aB ε ⟨δ,0,none⟩ aE.toList/\
 (κ prog 155 #[.agg aE] ε (λv1 υ=>
  br .i64 v1 λθ=>
  cond (θ !=0) (
   R (.returned (.tuple #[.slice none 0 0,θ])) υ) (
   ∃ρ,υ.cell? ⟨δ,0,none⟩=some (.int .i64 ρ)/\
   (∃ad,υ.cell? ⟨δ,1,none⟩=some (.int .i64 ad)/\
    (∃aC,υ.cell? ⟨δ,2,none⟩=some (.int .i64 aC)/\
     (∃ay,υ.cell? ⟨δ,3,none⟩=some (.int .i64 ay)/\
      (∃cM m1,υ.cell? ⟨δ,4,none⟩=some (.complex .f64 cM m1)/\
       (ξ ((FloatKind.f64.decode cM).toInt .zero) λaM=>
        ν (decide (IntKind.u8.min<=aM)) (
         ν (decide (aM<=IntKind.u8.max)) (
          ∃fC m2,υ.cell? ⟨δ,4,none⟩=some (.complex .f64 fC m2)/\
          (ξ ((FloatKind.f64.decode m2).toInt .zero) λaU=>
           ν (decide (IntKind.u8.min<=aU)) (
            ν (decide (aU<=IntKind.u8.max)) (
            aK υ #[.int .u8 (IntKind.u8.wrap ρ),.int .u8 (IntKind.u8.wrap (IntKind.i64.wrap (BitVec.ofInt IntKind.i64.bits (IntKind.i64.wrap (ad*2^(min 4 IntKind.i64.bits)))|||BitVec.ofInt IntKind.i64.bits aC).toNat)),.int .u8 (IntKind.u8.wrap ay),.int .u8 aM,.int .u8 aU] 5 λζ ao=>
            R (.returned (.tuple #[.slice (some ⟨ζ,0,none⟩) 5 5,(0:Int)])) ao)))))))))))) (ai R))
abbrev Fq.C(fM gH pL pM:Int)(x0 xZ:Nat):=Calls prog 181 #[.agg #[fM,gH,pL,pM,.complex .f64 x0 xZ]]
theorem Fq.ok:xW Fq.main Fq.C:=λh=>dA func181 [.tmp 2,.tmp 3] 32 h
def ue.aV(t1 t2:Nat)(t4:Bool)(w:World)(R:au):Prop:=
 cond t4 (
  ∃aU,w.cell? ⟨t1,3,none⟩=some (.int .i64 aU)/\
  (κ prog 112 #[aU,(0:Int),(32:Int)] w (λv5 eO=>
    dF v5 λgu=>
    (eO.cell? ⟨t1,3,none⟩).isSome=true/\eO.frozen? ⟨t1,3,none⟩=false/\∀ey,ey=eO.setCell ⟨t1,3,none⟩ (.int .i64 0)->
    (∃(iG:aj),iG.size=5/\aB ey ⟨t1,0,none⟩ iG.toList/\
     (ν (decide (iG.size=5)) (
       a6 ey ⟨t2,0,none⟩ iG.toList/\∀ja,ja=ey.setCells (⟨t2,0,none⟩:Addr).block (⟨t2,0,none⟩:Addr).off iG.toList->
       (∃(iH:aj),iH.size=5/\aB ja ⟨t2,0,none⟩ iH.toList/\
        (R (.returned (.tuple #[.agg iH,.bool gu])) ja)))))) (ai R))) (
  (w.cell? ⟨t1,3,none⟩).isSome=true/\w.frozen? ⟨t1,3,none⟩=false/\∀dM,dM=w.setCell ⟨t1,3,none⟩ (.int .i64 0)->
  (∃(kQ:aj),kQ.size=5/\aB dM ⟨t1,0,none⟩ kQ.toList/\
   (ν (decide (kQ.size=5)) (
     a6 dM ⟨t2,0,none⟩ kQ.toList/\∀hv,hv=dM.setCells (⟨t2,0,none⟩:Addr).block (⟨t2,0,none⟩:Addr).off kQ.toList->
     (∃(kR:aj),kR.size=5/\aB hv ⟨t2,0,none⟩ kR.toList/\
      (R (.returned (.tuple #[.agg kR,.bool false])) hv))))))
def ue.main(fM gH pL pM:Int)(x0 xZ:Nat)(w:World)(R:au):Prop:=
 aK w #[fM,gH,pL,pM,.complex .f64 x0 xZ] 155 λδ ε=>
 aK ε #[(0:Int),(0:Int),(0:Int),(0:Int),.complex .f64 0 0] 155 λζ υ=>
 ∃θ,υ.cell? ⟨δ,1,none⟩=some (.int .i64 θ)/\
 (κ prog 112 #[θ,(0:Int),(8:Int)] υ (λv1 χ=>
  dF v1 λax=>
  ∃ρ,χ.cell? ⟨δ,0,none⟩=some (.int .i64 ρ)/\
  (cond (ρ==1) (
   cond ax (
    ∃ad,χ.cell? ⟨δ,3,none⟩=some (.int .i64 ad)/\
    (κ prog 112 #[ad,(1:Int),(33:Int)] χ (λv2 an=>
      dF v2 λaa=>
      (an.cell? ⟨δ,3,none⟩).isSome=true/\an.frozen? ⟨δ,3,none⟩=false/\∀a8,a8=an.setCell ⟨δ,3,none⟩ (.int .i64 0)->
      (∃(bO:aj),bO.size=5/\aB a8 ⟨δ,0,none⟩ bO.toList/\
       (ν (decide (bO.size=5)) (
         a6 a8 ⟨ζ,0,none⟩ bO.toList/\∀gr,gr=a8.setCells (⟨ζ,0,none⟩:Addr).block (⟨ζ,0,none⟩:Addr).off bO.toList->
         (∃(bC:aj),bC.size=5/\aB gr ⟨ζ,0,none⟩ bC.toList/\
          (R (.returned (.tuple #[.agg bC,.bool aa])) gr)))))) (ai R))) (
    (χ.cell? ⟨δ,3,none⟩).isSome=true/\χ.frozen? ⟨δ,3,none⟩=false/\∀bV,bV=χ.setCell ⟨δ,3,none⟩ (.int .i64 0)->
    (∃(b0:aj),b0.size=5/\aB bV ⟨δ,0,none⟩ b0.toList/\
     (ν (decide (b0.size=5)) (
       a6 bV ⟨ζ,0,none⟩ b0.toList/\∀eP,eP=bV.setCells (⟨ζ,0,none⟩:Addr).block (⟨ζ,0,none⟩:Addr).off b0.toList->
       (∃(dr:aj),dr.size=5/\aB eP ⟨ζ,0,none⟩ dr.toList/\
        (R (.returned (.tuple #[.agg dr,.bool false])) eP))))))) (
   cond (ρ==2) (
    ∃(fu:aj),fu.size=5/\aB χ ⟨δ,0,none⟩ fu.toList/\
    (ν (decide (fu.size=5)) (
      a6 χ ⟨ζ,0,none⟩ fu.toList/\∀kX,kX=χ.setCells (⟨ζ,0,none⟩:Addr).block (⟨ζ,0,none⟩:Addr).off fu.toList->
      (∃(fD:aj),fD.size=5/\aB kX ⟨ζ,0,none⟩ fD.toList/\
       (R (.returned (.tuple #[.agg fD,.bool ax])) kX))))) (
    cond (ρ==3) (
     cond ax (
      ∃aC,χ.cell? ⟨δ,2,none⟩=some (.int .i64 aC)/\
      (κ prog 112 #[aC,(0:Int),(8:Int)] χ (λv3 bW=>
        dF v3 λcu=>
        cond cu (
         ∃ay,bW.cell? ⟨δ,2,none⟩=some (.int .i64 ay)/\
         (∃aM,bW.cell? ⟨δ,1,none⟩=some (.int .i64 aM)/\
          ((bW.cell? ⟨δ,2,none⟩).isSome=true/\bW.frozen? ⟨δ,2,none⟩=false/\∀cd,cd=bW.setCell ⟨δ,2,none⟩ (.int .i64 0)->
           (∃(fE:aj),fE.size=5/\aB cd ⟨δ,0,none⟩ fE.toList/\
           (ν (decide (fE.size=5)) (
           a6 cd ⟨ζ,0,none⟩ fE.toList/\∀fb,fb=cd.setCells (⟨ζ,0,none⟩:Addr).block (⟨ζ,0,none⟩:Addr).off fE.toList->
           (∃(hJ:aj),hJ.size=5/\aB fb ⟨ζ,0,none⟩ hJ.toList/\
           (R (.returned (.tuple #[.agg hJ,.bool (ay !=aM)])) fb)))))))) (
         (bW.cell? ⟨δ,2,none⟩).isSome=true/\bW.frozen? ⟨δ,2,none⟩=false/\∀cm,cm=bW.setCell ⟨δ,2,none⟩ (.int .i64 0)->
         (∃(hK:aj),hK.size=5/\aB cm ⟨δ,0,none⟩ hK.toList/\
          (ν (decide (hK.size=5)) (
           a6 cm ⟨ζ,0,none⟩ hK.toList/\∀eJ,eJ=cm.setCells (⟨ζ,0,none⟩:Addr).block (⟨ζ,0,none⟩:Addr).off hK.toList->
           (∃(kb:aj),kb.size=5/\aB eJ ⟨ζ,0,none⟩ kb.toList/\
           (R (.returned (.tuple #[.agg kb,.bool false])) eJ))))))) (ai R))) (
      (χ.cell? ⟨δ,2,none⟩).isSome=true/\χ.frozen? ⟨δ,2,none⟩=false/\∀cE,cE=χ.setCell ⟨δ,2,none⟩ (.int .i64 0)->
      (∃(kO:aj),kO.size=5/\aB cE ⟨δ,0,none⟩ kO.toList/\
       (ν (decide (kO.size=5)) (
         a6 cE ⟨ζ,0,none⟩ kO.toList/\∀gh,gh=cE.setCells (⟨ζ,0,none⟩:Addr).block (⟨ζ,0,none⟩:Addr).off kO.toList->
         (∃(kP:aj),kP.size=5/\aB gh ⟨ζ,0,none⟩ kP.toList/\
          (R (.returned (.tuple #[.agg kP,.bool false])) gh))))))) (
     cond (ρ==4) (
      cond ax (
       ∃cM m1,χ.cell? ⟨δ,4,none⟩=some (.complex .f64 cM m1)/\
       (κ prog 115 #[.complex .f64 cM m1] χ (λv4 da=>
         dF v4 λdR=>
         (da.cell? ⟨δ,4,none⟩).isSome=true/\da.frozen? ⟨δ,4,none⟩=false/\∀ed,ed=da.setCell ⟨δ,4,none⟩ (.complex .f64 0 0)->
         (ue.aV δ ζ dR ed R)) (ai R))) (
       (χ.cell? ⟨δ,4,none⟩).isSome=true/\χ.frozen? ⟨δ,4,none⟩=false/\∀dP,dP=χ.setCell ⟨δ,4,none⟩ (.complex .f64 0 0)->
       (ue.aV δ ζ false dP R))) (
      cond (ρ==5) (
       ue.aV δ ζ ax χ R) (
       ∃(aE:aj),aE.size=5/\aB χ ⟨δ,0,none⟩ aE.toList/\
       (ν (decide (aE.size=5)) (
         a6 χ ⟨ζ,0,none⟩ aE.toList/\∀eg,eg=χ.setCells (⟨ζ,0,none⟩:Addr).block (⟨ζ,0,none⟩:Addr).off aE.toList->
         (∃(bz:aj),bz.size=5/\aB eg ⟨ζ,0,none⟩ bz.toList/\
          (R (.returned (.tuple #[.agg bz,.bool ax])) eg))))))))))) (ai R))
abbrev ue.C(fM gH pL pM:Int)(x0 xZ:Nat):=Calls prog 182 #[.agg #[fM,gH,pL,pM,.complex .f64 x0 xZ]]
theorem ue.ok:xW ue.main ue.C:=λ{_ _ _ _ _ _ _ R}h=>fo func182 [.cell 2 155,.tmp 3] 57 (.seq .leaf (.seq .leaf (.seq (.seq .leaf (.block (.cut [(1,.cA),(2,.cA),(4,.bool)] (ue.aV · · · · R) .leaf .leaf))) .leaf))) h
def ub.δ(t3:Int)(lo:γ)(ky mL:Nat)(t7 t8:Int)(w:World)(R:au)(a1:Int->γ->Nat->Nat->Int->Int->al):Prop:=
 cond (decide (t8<t7)) (
  ν (decide (0<=t8)) (
   ν (decide (t8<((ky:Nat):Int))) (
    ξ lo λd1=>
    ∃θ,w.cell? (d1.add (t8.toNat*1))=some (.int .i64 θ)/\
    (cond (θ !=t3) (
     R (.returned (.int .i64 θ)) w) (
     a1 t3 lo ky mL t7 (IntKind.i64.wrap (t8+1)) w))))) (
  R (.returned (.int .i64 t3)) w)
def ub.bb:=oc ub.δ
def ub.main(bG:γ)(bf bD:Nat)(w:World)(R:au):Prop:=
 ub.bb 0 bG bf bD ((bf:Nat):Int) 0 w R
abbrev ub.C(bG:γ)(bf bD:Nat):=Calls prog 187 #[.slice bG bf bD]
theorem ub.ok:ji ub.main ub.C:=λ{_ _ _ _ R}h=>fo func187 [.tmp 2] 18 (.seq .leaf (.seq .leaf (.seq (.seq .leaf (.block (.loop [(3,.int .i64),(6,.slice),(7,.int .i64),(8,.int .i64)] (ub.bb · · · · · · · R) λa1=>.leaf))) .leaf))) h
def E7.main(a0 aw:Nat)(w:World)(R:au):Prop:=
 κ prog 206 #[.float .f64 a0] w (λv1 ε=>
  dF v1 λδ=>
  κ prog 206 #[.float .f64 aw] ε (λv2 χ=>
   dF v2 λζ=>
   cond δ (
    cond ζ (
     R (.returned (.int .i64 0)) χ) (
     R (.returned (.int .i64 (-1))) χ)) (
    cond ζ (
     R (.returned (.int .i64 1)) χ) (
     cond (eQ .lss a0 aw) (
      R (.returned (.int .i64 (-1))) χ) (
      cond (eQ .gtr a0 aw) (
       R (.returned (.int .i64 1)) χ) (
       R (.returned (.int .i64 0)) χ))))) (ai R)) (ai R)
abbrev E7.C(a0 aw:Nat):=Calls prog 188 #[.float .f64 a0,.float .f64 aw]
theorem E7.ok:kn E7.main E7.C:=λh=>dA func188 [.tmp 4] 20 h
def E2.main(a0:Int)(w:World)(R:au):Prop:=
 cond (decide (a0>=1)) (
  R (.returned (.bool (decide (a0<=4)))) w) (
  R (.returned (.bool false)) w)
abbrev E2.C(a0:Int):=Calls prog 189 #[a0]
theorem E2.ok:iS E2.main E2.C:=λh=>dA func189 [.tmp 2] 9 h
def vt.δ(cy:γ)(cp cG:Nat)(t2 t8:Int)(w:World)(R:au)(a1:γ->Nat->Nat->Int->Int->al):Prop:=
 cond (decide (t8>=0)) (
  ν (decide (0<=(IntKind.i64.wrap (8*t8)))) (
   aK w #[.int .u8 (IntKind.u8.wrap (Int.fdiv t2 (2^(min (IntKind.i64.wrap (8*t8)).toNat IntKind.i64.bits))))] 5 λδ ε=>
   ho ε cy cp cG 1 (bd ε (some ⟨δ,0,none⟩)) 5 1 1 #[.int .u8 0] λae c1 υ=>
   a1 ae (cp+1) c1 t2 (IntKind.i64.wrap (t8-1)) υ)) (
  R (.returned (.tuple #[.slice cy cp cG,(0:Int)])) w)
def vt.bb:=yH vt.δ
def vt.main(bG:γ)(bf bD:Nat)(aw a2:Int)(w:World)(R:au):Prop:=
 cond (decide (a2<0)) (
  R (.returned (.tuple #[.slice none 0 0,(5:Int)])) w) (
  ν (decide (0<=(IntKind.i64.wrap (8*aw)))) (
   cond ((Int.fdiv a2 (2^(min (IntKind.i64.wrap (8*aw)).toNat IntKind.i64.bits)))!=0) (
    R (.returned (.tuple #[.slice none 0 0,(5:Int)])) w) (
    vt.bb bG bf bD a2 (IntKind.i64.wrap (aw-1)) w R)))
abbrev vt.C(bG:γ)(bf bD:Nat)(aw a2:Int):=Calls prog 190 #[.slice bG bf bD,aw,a2]
theorem vt.ok:vg vt.main vt.C:=λ{_ _ _ _ _ _ R}h=>fo func190 [.tmp 6,.tmp 7] 33 (.seq .leaf (.seq .leaf (.seq (.seq .leaf (.block (.loop [(0,.slice),(2,.int .i64),(8,.int .i64)] (vt.bb · · · · · · R) λa1=>.leaf))) .leaf))) h
def uP.δ(t0 t4:Int)(w:World)(R:au)(a1:Int->Int->al):Prop:=
 cond (decide (t4<8)) (
  a1 (IntKind.u32.wrap (BitVec.ofInt IntKind.u32.bits (IntKind.u32.wrap (t0*2^(min 1 IntKind.u32.bits)))^^^BitVec.ofInt IntKind.u32.bits (IntKind.u32.wrap (79764919*(Int.fdiv t0 (2^(min 31 IntKind.u32.bits)))))).toNat) (IntKind.i64.wrap (t4+1)) w) (
  R (.returned (.int .u32 t0)) w)
def uP.bb:=aek uP.δ
def uP.main(a0:Int)(w:World)(R:au):Prop:=
 uP.bb a0 0 w R
abbrev uP.C(a0:Int):=Calls prog 191 #[.int .u32 a0]
theorem uP.ok:iS uP.main uP.C:=λ{_ _ R}h=>fo func191 [.tmp 2] 16 (.seq .leaf (.seq (.seq .leaf (.block (.loop [(0,.int .u32),(4,.int .i64)] (uP.bb · · · R) λa1=>.leaf))) .leaf)) h
def vr.δ(t3:Int)(lo:γ)(ky mL:Nat)(t7 t8:Int)(w:World)(R:au)(a1:Int->γ->Nat->Nat->Int->Int->al):Prop:=
 cond (decide (t8<t7)) (
  ν (decide (0<=t8)) (
   ν (decide (t8<((ky:Nat):Int))) (
    ξ lo λd1=>
    ∃θ,w.cell? (d1.add (t8.toNat*1))=some (.int .u8 θ)/\
    (a1 (IntKind.i64.wrap (BitVec.ofInt IntKind.i64.bits (IntKind.i64.wrap (t3*2^(min 8 IntKind.i64.bits)))|||BitVec.ofInt IntKind.i64.bits (IntKind.i64.wrap θ)).toNat) lo ky mL t7 (IntKind.i64.wrap (t8+1)) w)))) (
  R (.returned (.int .i64 t3)) w)
def vr.bb:=oc vr.δ
def vr.main(bG:γ)(bf bD:Nat)(w:World)(R:au):Prop:=
 vr.bb 0 bG bf bD ((bf:Nat):Int) 0 w R
abbrev vr.C(bG:γ)(bf bD:Nat):=Calls prog 193 #[.slice bG bf bD]
theorem vr.ok:ji vr.main vr.C:=λ{_ _ _ _ R}h=>fo func193 [.tmp 2] 19 (.seq .leaf (.seq .leaf (.seq (.seq .leaf (.block (.loop [(3,.int .i64),(6,.slice),(7,.int .i64),(8,.int .i64)] (vr.bb · · · · · · · R) λa1=>.leaf))) .leaf))) h
def E9.main(a0:Nat)(w:World)(R:au):Prop:=
 R (.returned (.bool (eQ .neq a0 a0))) w
abbrev E9.C(a0:Nat):=Calls prog 206 #[.float .f64 a0]
theorem E9.ok:iS E9.main E9.C:=λh=>dA func206 [.tmp 2] 6 h
def ES.main(a0:γ)(w:World)(R:au):Prop:=
 cond (Option.isNone a0) (
  R (.returned (.int .i64 0)) w) (
  ξ a0 λd1=>
  ∃ae aD c1,w.cell? (d1.add 2)=some (.slice ae aD c1)/\
  (R (.returned (.int .i64 ((aD:Nat):Int))) w))
abbrev ES.C(a0:γ):=Calls prog 24 #[.pointer a0]
theorem ES.ok:iS ES.main ES.C:=λh=>dA func24 [.tmp 2] 10 h
def qO.aV(cy:γ)(cp cG:Nat)(t5:Int)(w:World)(R:au):Prop:=
 ν (decide (0<=t5)) (
  ν (decide (t5<=((cp:Nat):Int))) (
   TY w (dL cy cG t5.toNat 1) (cp-t5.toNat) #[.complex .f64 0 0] λaZ=>
   ν (decide (0<=t5)) (
    ν (decide (t5<=((cG:Nat):Int))) (
     R (.returned (.slice (dL cy cG 0 1) t5.toNat cG)) aZ))))
def qO.δ(cy:γ)(cp cG t1:Nat)(t5 t6:Int)(w:World)(R:au)(a1:γ->Nat->Nat->Nat->Int->Int->al):Prop:=
 cond (decide (t6<((cp:Nat):Int))) (
  ν (decide (0<=t6)) (
   ν (decide (t6<((cp:Nat):Int))) (
    ξ cy λd1=>
    ∃cM m1,w.cell? (d1.add (t6.toNat*1))=some (.complex .f64 cM m1)/\
    (κ prog 94 #[.complex .f64 cM m1,.pointer (some ⟨t1,0,none⟩)] w (λv2 χ=>
     dF v2 λδ=>
     cond (!δ) (
      ν (decide (0<=t5)) (
       ν (decide (t5<((cp:Nat):Int))) (
        ξ cy λd2=>
        (χ.cell? (d2.add (t5.toNat*1))).isSome=true/\χ.frozen? (d2.add (t5.toNat*1))=false/\∀an,an=χ.setCell (d2.add (t5.toNat*1)) (.complex .f64 cM m1)->
        (a1 cy cp cG t1 (IntKind.i64.wrap (t5+1)) (IntKind.i64.wrap (t6+1)) an)))) (
      a1 cy cp cG t1 t5 (IntKind.i64.wrap (t6+1)) χ)) (ai R))))) (
  qO.aV cy cp cG t5 w R)
def qO.bb:=oc qO.δ
def qO.main(bG:γ)(bf bD o5:Nat)(w:World)(R:au):Prop:=
 κ prog 131 #[.slice bG bf bD,.func (.func 94) #[] #[.pointer (some ⟨o5,0,none⟩)]] w (λv1 ε=>
  br .i64 v1 λθ=>
  cond (θ==(-1)) (
   R (.returned (.slice bG bf bD)) ε) (
   qO.bb bG bf bD o5 θ (IntKind.i64.wrap (θ+1)) ε R)) (ai R)
abbrev qO.C(bG:γ)(bf bD o5:Nat):=Calls prog 93 #[.slice bG bf bD,.func (.func 94) #[] #[.pointer (some ⟨o5,0,none⟩)]]
theorem qO.ok:lu qO.main qO.C:=λ{_ _ _ _ _ R}h=>fo func93 [.tmp 4] 42 (.seq .leaf (.seq .leaf (.seq .leaf (.cut [(0,.slice),(5,.int .i64)] (qO.aV · · · · · R) (.seq .leaf (.block (.loop [(0,.slice),(1,.vC 94),(5,.int .i64),(6,.int .i64)] (qO.bb · · · · · · · R) λa1=>.leaf))) .leaf)))) h
end Go.Proofs.YtcpdfhkhaekekaaGreat.G

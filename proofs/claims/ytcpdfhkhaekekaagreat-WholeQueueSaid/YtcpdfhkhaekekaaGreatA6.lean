/- The walk of the functions, and the plain laws of the model: part of the proof. Conditions: none. -/
import Derived.Test.YtcpdfhkhaekekaaGreatA5
set_option linter.unusedVariables false
set_option linter.unusedSimpArgs false
namespace Go.Proofs.YtcpdfhkhaekekaaGreat.G
open Tryz
open Go.bI
set_option maxRecDepth 100000
def tw.ε(t0:J)(t1:Int)(fh:J)(fa fq:Nat)(t39 t40:Int)(w:World)(R:ak)(aS:J->Int->J->Nat->Nat->Int->Int->ai):Prop:=
 cond (decide (t40<t39)) (
  κ prog 23 #[.pointer t0,(IntKind.i64.wrap ((IntKind.i64.wrap (t1+1))+t40))] w (λv9 b9=>
   b6 v9 λhQ=>
   ξ (hQ[0]?) λv10=>
   df v10 λaX br c2=>
   ξ (hQ[1]?) λv11=>
   bq .i64 v11 λaJ=>
   cond (aJ !=0) (
    R (.returned (.tuple #[.slice none 0 0,aJ])) b9) (
    aR b9 #[.slice aX br c2] 34 λι dk=>
    gD dk fh fa fq 1 (a8 dk (some ⟨ι,0,none⟩)) 34 1 24 #[.slice none 0 0] λbl bJ cH=>
    aS t0 t1 bl (fa+1) bJ t39 (IntKind.i64.wrap (t40+1)) cH)) (aB R)) (
  R (.returned (.tuple #[.slice fh fa fq,(0:Int)])) w)
def tw.bd:=KZ tw.ε
def tw.main(a0:J)(aq:Int)(w:World)(R:ak):Prop:=
 κ prog 23 #[.pointer a0,aq] w (λv1 δ=>
  b6 v1 λbT=>
  ξ (bT[0]?) λv2=>
  df v2 λad aD c1=>
  ξ (bT[1]?) λv3=>
  bq .i64 v3 λζ=>
  cond (ζ !=0) (
   R (.returned (.tuple #[.slice none 0 0,ζ])) δ) (
   κ prog 146 #[.slice ad aD c1] δ (λv4 aa=>
    b6 v4 λeV=>
    ξ (eV[0]?) λv5=>
    bq .i64 v5 λτ=>
    ξ (eV[1]?) λv6=>
    bq .i64 v6 λab=>
    ξ (eV[2]?) λfS=>
    bq .i64 fS λaA=>
    cond (aA !=0) (
     R (.returned (.tuple #[.slice none 0 0,(0:Int)])) aa) (
     κ prog 100 #[ab] aa (λbg aG=>
      bq .i64 bg λal=>
      cond (al !=aq) (
       R (.returned (.tuple #[.slice none 0 0,(0:Int)])) aG) (
       aR aG #[.slice ad aD c1] 34 λε bk=>
       tw.bd a0 aq (some ⟨ε,0,none⟩) 1 1 τ 0 bk R)) (aB R))) (aB R))) (aB R)
abbrev tw.C(a0:J)(aq:Int):=Calls prog 106 #[.pointer a0,aq]
theorem tw.ok:jT tw.main tw.C:=λ{_ _ _ R}h=>fg func106 [.tmp 4,.tmp 5] 61 (.seq .leaf (.seq .leaf (.seq .leaf (.seq .leaf (.seq .leaf (.seq .leaf (.seq (.seq .leaf (.block (.loop [(0,.ptr),(1,.int .i64),(10,.slice),(39,.int .i64),(40,.int .i64)] (tw.bd · · · · · · · · R) λaS=>.leaf))) .leaf))))))) h
def o1.aZ(cj:J)(cb cu t2 t3 t6:Nat)(jo:J)(ia je:Nat)(w:World)(R:ak):Prop:=
 ∃al,w.cell? ⟨t6,1,none⟩=some (.int .i64 al)/\
 (∃aJ,w.cell? ⟨t6,2,none⟩=some (.int .i64 aJ)/\
  (aR w #[(0:Int),(0:Int)] 28 λdC fb=>
   bM fb ⟨dC,0,none⟩ [(.int .i64 al),(.int .i64 aJ)] λiW=>
   (∃(Sg:ah),Sg.size=2/\aw iW ⟨dC,0,none⟩ Sg.toList/\
    (κ prog 149 #[.slice jo ia je,.agg Sg] iW (λfS fT=>
     b6 fS λhQ=>
     ξ (hQ[0]?) λbg=>
     dZ bg λZv=>
     ξ (hQ[1]?) λv9=>
     dD v9 λgb=>
     aR fT #[(0:Int),(0:Int),(0:Int),(0:Int),(0:Int),(0:Int),(0:Int),(0:Int),(0:Int),(0:Int),(0:Int),(0:Int),(0:Int),(0:Int),(0:Int),(0:Int),.slice none 0 0,.slice none 0 0,.slice none 0 0,.slice none 0 0,.slice none 0 0,.slice none 0 0,.slice none 0 0,.slice none 0 0] 89 λiZ hg=>
     ο (decide (Zv.size=24)) (
      bM hg ⟨iZ,0,none⟩ Zv.toList λiX=>
      (cond (!gb) (
       ∃(Nv:ah),Nv.size=24/\aw iX.drew ⟨t2,0,none⟩ Nv.toList/\
       (∃(G4:ah),G4.size=2/\aw iX.drew ⟨t3,0,none⟩ G4.toList/\
        (ο (decide (Nv.size=24)) (
          bM iX.drew ⟨t2,0,none⟩ Nv.toList λjf=>
          (ο (decide (G4.size=2)) (
           aw jf ⟨t3,0,none⟩ G4.toList/\
           (ο (decide (G4.size=2)) (
           bM jf ⟨t3,0,none⟩ G4.toList λkx=>
           (∃(Sh:ah),Sh.size=24/\aw kx ⟨t2,0,none⟩ Sh.toList/\
           (∃(Si:ah),Si.size=2/\aw kx ⟨t3,0,none⟩ Si.toList/\
           (R (.returned (.tuple #[.agg Sh,.agg Si,(0:Int),(11:Int)])) kx))))))))))) (
       ∃(Sj:ah),Sj.size=24/\aw iX ⟨iZ,0,none⟩ Sj.toList/\
       (∃(Sk:ah),Sk.size=2/\aw iX ⟨dC,0,none⟩ Sk.toList/\
        (∃aV,iX.cell? ⟨t6,0,none⟩=some (.int .i64 aV)/\
         (κ prog 99 #[.agg Sj,.agg Sk,aV] iX (λv10 k3=>
           b6 v10 λlU=>
           ξ (lU[0]?) λv11=>
           df v11 λfD iA h2=>
           ξ (lU[1]?) λv12=>
           bq .i64 v12 λct=>
           cond (ct !=0) (
           ∃(Nw:ah),Nw.size=24/\aw k3.drew ⟨t2,0,none⟩ Nw.toList/\
           (∃(G5:ah),G5.size=2/\aw k3.drew ⟨t3,0,none⟩ G5.toList/\
           (ο (decide (Nw.size=24)) (
           bM k3.drew ⟨t2,0,none⟩ Nw.toList λsr=>
           (ο (decide (G5.size=2)) (
           aw sr ⟨t3,0,none⟩ G5.toList/\
           (ο (decide (G5.size=2)) (
           bM sr ⟨t3,0,none⟩ G5.toList λtQ=>
           (∃(Sl:ah),Sl.size=24/\aw tQ ⟨t2,0,none⟩ Sl.toList/\
           (∃(Sm:ah),Sm.size=2/\aw tQ ⟨t3,0,none⟩ Sm.toList/\
           (R (.returned (.tuple #[.agg Sl,.agg Sm,(0:Int),(11:Int)])) tQ))))))))))) (
           κ prog 150 #[.slice fD iA h2,.slice cj cb cu,.func (.func 151) #[] #[]] k3 (λpq jr=>
           dD pq λqQ=>
           cond (!qQ) (
           ∃(Nx:ah),Nx.size=24/\aw jr.drew ⟨t2,0,none⟩ Nx.toList/\
           (∃(G6:ah),G6.size=2/\aw jr.drew ⟨t3,0,none⟩ G6.toList/\
           (ο (decide (Nx.size=24)) (
           bM jr.drew ⟨t2,0,none⟩ Nx.toList λss=>
           (ο (decide (G6.size=2)) (
           aw ss ⟨t3,0,none⟩ G6.toList/\
           (ο (decide (G6.size=2)) (
           bM ss ⟨t3,0,none⟩ G6.toList λnM=>
           (∃(Sn:ah),Sn.size=24/\aw nM ⟨t2,0,none⟩ Sn.toList/\
           (∃(Sq:ah),Sq.size=2/\aw nM ⟨t3,0,none⟩ Sq.toList/\
           (R (.returned (.tuple #[.agg Sn,.agg Sq,(0:Int),(11:Int)])) nM))))))))))) (
           ∃(Ny:ah),Ny.size=24/\aw jr.drew ⟨iZ,0,none⟩ Ny.toList/\
           (∃(G7:ah),G7.size=2/\aw jr.drew ⟨dC,0,none⟩ G7.toList/\
           (∃cv,jr.drew.cell? ⟨t6,0,none⟩=some (.int .i64 cv)/\
           (ο (decide (Ny.size=24)) (
           bM jr.drew ⟨t2,0,none⟩ Ny.toList λox=>
           (ox.cell? ⟨t6,0,none⟩=some (.int .i64 cv)/\
           (ο (decide (G7.size=2)) (
           aw ox ⟨dC,0,none⟩ G7.toList/\
           (ο (decide (G7.size=2)) (
           bM ox ⟨t3,0,none⟩ G7.toList λvm=>
           (vm.cell? ⟨t6,0,none⟩=some (.int .i64 cv)/\
           (∃(Sr:ah),Sr.size=24/\aw vm ⟨t2,0,none⟩ Sr.toList/\
           (∃(Ss:ah),Ss.size=2/\aw vm ⟨t3,0,none⟩ Ss.toList/\
           (R (.returned (.tuple #[.agg Sr,.agg Ss,cv,(0:Int)])) vm))))))))))))))) (aB R))) (aB R)))))))) (aB R)))))
def o1.ε(cj:J)(cb cu t2 t3 t6:Nat)(jo:J)(ia je:Nat)(Mk:J)(Mj Qq:Nat)(t47 t48:Int)(w:World)(R:ak)(aS:J->Nat->Nat->Nat->Nat->Nat->J->Nat->Nat->J->Nat->Nat->Int->Int->ai):Prop:=
 cond (decide (t48<t47)) (
  ο (decide (0<=t48)) (
   ο (decide (t48<((Mj:Nat):Int))) (
    ξ Mk λd2=>
    ∃aX br c2,w.cell? (d2.add (t48.toNat*1))=some (.slice aX br c2)/\
    (κ prog 148 #[.slice aX br c2] w (λv4 ep=>
     b6 v4 λeV=>
     ξ (eV[0]?) λv5=>
     df v5 λbl dz bJ=>
     ξ (eV[1]?) λv6=>
     bq .i64 v6 λτ=>
     cond (τ !=0) (
      ∃(mz:ah),mz.size=24/\aw ep.drew ⟨t2,0,none⟩ mz.toList/\
      (∃(uq:ah),uq.size=2/\aw ep.drew ⟨t3,0,none⟩ uq.toList/\
       (ο (decide (mz.size=24)) (
        bM ep.drew ⟨t2,0,none⟩ mz.toList λgP=>
        (ο (decide (uq.size=2)) (
          aw gP ⟨t3,0,none⟩ uq.toList/\
          (ο (decide (uq.size=2)) (
           bM gP ⟨t3,0,none⟩ uq.toList λgj=>
           (∃(yE:ah),yE.size=24/\aw gj ⟨t2,0,none⟩ yE.toList/\
           (∃(DS:ah),DS.size=2/\aw gj ⟨t3,0,none⟩ DS.toList/\
           (R (.returned (.tuple #[.agg yE,.agg DS,(0:Int),(11:Int)])) gj))))))))))) (
      ο (decide (5<((dz:Nat):Int))) (
       ξ bl λd3=>
       ∃ab,ep.cell? (d3.add 5)=some (.int .u8 ab)/\
       (cond (decide (ab>52)) (
        ∃(Ac:ah),Ac.size=24/\aw ep.drew ⟨t2,0,none⟩ Ac.toList/\
        (∃(ur:ah),ur.size=2/\aw ep.drew ⟨t3,0,none⟩ ur.toList/\
         (ο (decide (Ac.size=24)) (
           bM ep.drew ⟨t2,0,none⟩ Ac.toList λfF=>
           (ο (decide (ur.size=2)) (
           aw fF ⟨t3,0,none⟩ ur.toList/\
           (ο (decide (ur.size=2)) (
           bM fF ⟨t3,0,none⟩ ur.toList λeK=>
           (∃(DT:ah),DT.size=24/\aw eK ⟨t2,0,none⟩ DT.toList/\
           (∃(DU:ah),DU.size=2/\aw eK ⟨t3,0,none⟩ DU.toList/\
           (R (.returned (.tuple #[.agg DT,.agg DU,(0:Int),(11:Int)])) eK))))))))))) (
        ο (decide (5<((dz:Nat):Int))) (
         ξ bl λd4=>
         ∃aA,ep.cell? (d4.add 5)=some (.int .u8 aA)/\
         (ο (decide (0<=(IntKind.u8.wrap (6+aA)))) (
           ο (decide ((IntKind.u8.wrap (6+aA))<=((bJ:Nat):Int))) (
           ο (decide (6<=(((IntKind.u8.wrap (6+aA)).toNat:Nat):Int))) (
           gD ep jo ia je ((IntKind.u8.wrap (6+aA)).toNat-6) (a8 ep (dA bl bJ 6 1)) 5 1 1 #[.int .u8 0] λej fU fY=>
           aS cj cb cu t2 t3 t6 ej (ia+((IntKind.u8.wrap (6+aA)).toNat-6)) fU Mk Mj Qq t47 (IntKind.i64.wrap (t48+1)) fY)))))))))) (aB R))))) (
  o1.aZ cj cb cu t2 t3 t6 jo ia je w R)
def o1.bd:=aqc o1.ε
def o1.main(bD:J)(a6 bx:Nat)(w:World)(R:ak):Prop:=
 aR w #[(0:Int),(0:Int),(0:Int),(0:Int),(0:Int),(0:Int),(0:Int),(0:Int),(0:Int),(0:Int),(0:Int),(0:Int),(0:Int),(0:Int),(0:Int),(0:Int),.slice none 0 0,.slice none 0 0,.slice none 0 0,.slice none 0 0,.slice none 0 0,.slice none 0 0,.slice none 0 0,.slice none 0 0] 89 λε δ=>
 aR δ #[(0:Int),(0:Int)] 28 λι υ=>
 cond (((a6:Nat):Int)==0) (
  ∃(aQ:ah),aQ.size=24/\aw υ.drew ⟨ε,0,none⟩ aQ.toList/\
  (∃(bK:ah),bK.size=2/\aw υ.drew ⟨ι,0,none⟩ bK.toList/\
   (ο (decide (aQ.size=24)) (
     bM υ.drew ⟨ε,0,none⟩ aQ.toList λaa=>
     (ο (decide (bK.size=2)) (
       aw aa ⟨ι,0,none⟩ bK.toList/\
       (ο (decide (bK.size=2)) (
         bM aa ⟨ι,0,none⟩ bK.toList λax=>
         (∃(b2:ah),b2.size=24/\aw ax ⟨ε,0,none⟩ b2.toList/\
          (∃(bY:ah),bY.size=2/\aw ax ⟨ι,0,none⟩ bY.toList/\
           (R (.returned (.tuple #[.agg b2,.agg bY,(0:Int),(11:Int)])) ax))))))))))) (
  cond (decide (((a6:Nat):Int)>12)) (
   ∃(cN:ah),cN.size=24/\aw υ.drew ⟨ε,0,none⟩ cN.toList/\
   (∃(dU:ah),dU.size=2/\aw υ.drew ⟨ι,0,none⟩ dU.toList/\
    (ο (decide (cN.size=24)) (
      bM υ.drew ⟨ε,0,none⟩ cN.toList λaG=>
      (ο (decide (dU.size=2)) (
        aw aG ⟨ι,0,none⟩ dU.toList/\
        (ο (decide (dU.size=2)) (
          bM aG ⟨ι,0,none⟩ dU.toList λba=>
          (∃(hc:ah),hc.size=24/\aw ba ⟨ε,0,none⟩ hc.toList/\
           (∃(hB:ah),hB.size=2/\aw ba ⟨ι,0,none⟩ hB.toList/\
            (R (.returned (.tuple #[.agg hc,.agg hB,(0:Int),(11:Int)])) ba))))))))))) (
   ο (decide (0<((a6:Nat):Int))) (
    ξ bD λd1=>
    ∃ad aD c1,υ.cell? d1=some (.slice ad aD c1)/\
    (κ prog 147 #[.slice ad aD c1] υ (λv1 bk=>
      b6 v1 λbT=>
      ξ (bT[0]?) λv2=>
      dZ v2 λhy=>
      ξ (bT[1]?) λv3=>
      dD v3 λaH=>
      aR bk #[(0:Int),(0:Int),(0:Int),(0:Int),(0:Int)] 234 λaf ca=>
      ο (decide (hy.size=5)) (
       bM ca ⟨af,0,none⟩ hy.toList λdk=>
       (cond (!aH) (
         ∃(iN:ah),iN.size=24/\aw dk.drew ⟨ε,0,none⟩ iN.toList/\
         (∃(ko:ah),ko.size=2/\aw dk.drew ⟨ι,0,none⟩ ko.toList/\
          (ο (decide (iN.size=24)) (
            bM dk.drew ⟨ε,0,none⟩ iN.toList λcH=>
            (ο (decide (ko.size=2)) (
             aw cH ⟨ι,0,none⟩ ko.toList/\
             (ο (decide (ko.size=2)) (
             bM cH ⟨ι,0,none⟩ ko.toList λcn=>
             (∃(lF:ah),lF.size=24/\aw cn ⟨ε,0,none⟩ lF.toList/\
             (∃(oL:ah),oL.size=2/\aw cn ⟨ι,0,none⟩ oL.toList/\
             (R (.returned (.tuple #[.agg lF,.agg oL,(0:Int),(11:Int)])) cn))))))))))) (
         ∃ζ,dk.cell? ⟨af,3,none⟩=some (.int .i64 ζ)/\
         (cond (ζ !=(IntKind.i64.wrap (((a6:Nat):Int)-1))) (
           ∃(oM:ah),oM.size=24/\aw dk.drew ⟨ε,0,none⟩ oM.toList/\
           (∃(kp:ah),kp.size=2/\aw dk.drew ⟨ι,0,none⟩ kp.toList/\
            (ο (decide (oM.size=24)) (
             bM dk.drew ⟨ε,0,none⟩ oM.toList λde=>
             (ο (decide (kp.size=2)) (
             aw de ⟨ι,0,none⟩ kp.toList/\
             (ο (decide (kp.size=2)) (
             bM de ⟨ι,0,none⟩ kp.toList λdJ=>
             (∃(j6:ah),j6.size=24/\aw dJ ⟨ε,0,none⟩ j6.toList/\
             (∃(my:ah),my.size=2/\aw dJ ⟨ι,0,none⟩ my.toList/\
             (R (.returned (.tuple #[.agg j6,.agg my,(0:Int),(11:Int)])) dJ))))))))))) (
           ο (decide (1<=((a6:Nat):Int))) (
            o1.bd bD a6 bx ε ι af none 0 0 (dA bD bx 1 1) (a6-1) (bx-1) (((a6-1):Nat):Int) 0 dk R))))))) (aB R)))))
abbrev o1.C(bD:J)(a6 bx:Nat):=Calls prog 107 #[.slice bD a6 bx]
theorem o1.ok:iL o1.main o1.C:=λ{_ _ _ _ R}h=>fg func107 [.cell 2 89,.cell 3 28,.tmp 4,.tmp 5] 113 (.seq .leaf (.seq .leaf (.seq .leaf (.seq .leaf (.seq .leaf (.cut [(0,.slice),(2,.c5),(3,.c5),(6,.c5),(8,.slice)] (o1.aZ · · · · · · · · · · R) (.seq .leaf (.block (.loop [(0,.slice),(2,.c5),(3,.c5),(6,.c5),(8,.slice),(46,.slice),(47,.int .i64),(48,.int .i64)] (o1.bd · · · · · · · · · · · · · · · R) λaS=>.leaf))) .leaf)))))) h
def pO.aZ(cj:J)(cb cu:Nat)(t1 t2:Int)(fh:J)(fa fq:Nat)(w:World)(R:ak):Prop:=
 κ prog 153 #[t1,t2,.slice fh fa fq] w (λfS ca=>
  b6 fS λhQ=>
  ξ (hQ[0]?) λbg=>
  df bg λbl br bJ=>
  ξ (hQ[1]?) λv9=>
  bq .i64 v9 λaJ=>
  cond (aJ==0) (
   κ prog 154 #[.slice bl br bJ,.slice cj cb cu] ca (λv10 cH=>
    dD v10 λaH=>
    R (.returned (.tuple #[.slice fh fa fq,.bool aH])) cH) (aB R)) (
   R (.returned (.tuple #[.slice fh fa fq,.bool false])) ca)) (aB R)
def pO.ε(cj:J)(cb cu:Nat)(t1 t2:Int)(jo:J)(ia je:Nat)(fh:J)(fa fq:Nat)(t37 t38:Int)(w:World)(R:ak)(aS:J->Nat->Nat->Int->Int->J->Nat->Nat->J->Nat->Nat->Int->Int->ai):Prop:=
 cond (decide (t38<t37)) (
  ο (decide (0<=(IntKind.i64.wrap ((IntKind.i64.wrap (6+(IntKind.i64.wrap (5*t38))))+5)))) (
   ο (decide ((IntKind.i64.wrap ((IntKind.i64.wrap (6+(IntKind.i64.wrap (5*t38))))+5))<=((je:Nat):Int))) (
    ο (decide (0<=(IntKind.i64.wrap (6+(IntKind.i64.wrap (5*t38)))))) (
     ο (decide ((IntKind.i64.wrap (6+(IntKind.i64.wrap (5*t38))))<=(((IntKind.i64.wrap ((IntKind.i64.wrap (6+(IntKind.i64.wrap (5*t38))))+5)).toNat:Nat):Int))) (
      κ prog 152 #[.slice (dA jo je ((IntKind.i64.wrap (6+(IntKind.i64.wrap (5*t38)))).toNat) 1) ((IntKind.i64.wrap ((IntKind.i64.wrap (6+(IntKind.i64.wrap (5*t38))))+5)).toNat-(IntKind.i64.wrap (6+(IntKind.i64.wrap (5*t38)))).toNat) (je-(IntKind.i64.wrap (6+(IntKind.i64.wrap (5*t38)))).toNat)] w (λv4 aa=>
       b6 v4 λeV=>
       ξ (eV[0]?) λv5=>
       dZ v5 λaQ=>
       ξ (eV[1]?) λv6=>
       bq .i64 v6 λal=>
       aR aa #[(0:Int),(0:Int),(0:Int),(0:Int),.complex .f64 0 0] 155 λε aG=>
       ο (decide (aQ.size=5)) (
        bM aG ⟨ε,0,none⟩ aQ.toList λba=>
        (cond (al !=0) (
         R (.returned (.tuple #[.slice none 0 0,.bool false])) ba) (
         ∃(bK:ah),bK.size=5/\aw ba ⟨ε,0,none⟩ bK.toList/\
         (ξ (Instr.fill (λi=>some (i*5,5)) (madeCells #[(0:Int),(0:Int),(0:Int),(0:Int),.complex .f64 0 0] (1*5)) [(0,(.agg bK))]) λb2=>
          aR ba b2 155 λι bk=>
          gD bk fh fa fq 1 (a8 bk (some ⟨ι,0,none⟩)) 155 5 48 #[(0:Int),(0:Int),(0:Int),(0:Int),.complex .f64 0 0] λaX c2 b9=>
          aS cj cb cu t1 t2 jo ia je aX (fa+1) c2 t37 (IntKind.i64.wrap (t38+1)) b9))))) (aB R)))))) (
  pO.aZ cj cb cu t1 t2 fh fa fq w R)
def pO.bd:=OX pO.ε
def pO.main(bD:J)(a6 bx:Nat)(aq a2:Int)(w:World)(R:ak):Prop:=
 κ prog 148 #[.slice bD a6 bx] w (λv1 δ=>
  b6 v1 λbT=>
  ξ (bT[0]?) λv2=>
  df v2 λad aD c1=>
  ξ (bT[1]?) λv3=>
  bq .i64 v3 λζ=>
  cond (ζ !=0) (
   R (.returned (.tuple #[.slice none 0 0,.bool false])) δ) (
   ο (decide (5<((aD:Nat):Int))) (
    ξ ad λd1=>
    ∃τ,δ.cell? (d1.add 5)=some (.int .u8 τ)/\
    (cond (decide (τ<1)) (
     R (.returned (.tuple #[.slice none 0 0,.bool false])) δ) (
     ο (decide (5<((aD:Nat):Int))) (
      ξ ad λd2=>
      ∃ab,δ.cell? (d2.add 5)=some (.int .u8 ab)/\
      (cond (decide (ab>6)) (
       R (.returned (.tuple #[.slice none 0 0,.bool false])) δ) (
       ο (decide (5<((aD:Nat):Int))) (
        ξ ad λd3=>
        ∃aA,δ.cell? (d3.add 5)=some (.int .u8 aA)/\
        (pO.bd bD a6 bx aq a2 ad aD c1 none 0 0 (IntKind.i64.wrap aA) 0 δ R)))))))))) (aB R)
abbrev pO.C(bD:J)(a6 bx:Nat)(aq a2:Int):=Calls prog 108 #[.slice bD a6 bx,aq,a2]
theorem pO.ok:vy pO.main pO.C:=λ{_ _ _ _ _ _ R}h=>fg func108 [.tmp 6,.tmp 7] 76 (.seq .leaf (.seq .leaf (.seq .leaf (.seq .leaf (.cut [(0,.slice),(1,.int .i64),(2,.int .i64),(10,.slice)] (pO.aZ · · · · · · · · · R) (.seq .leaf (.block (.loop [(0,.slice),(1,.int .i64),(2,.int .i64),(8,.slice),(10,.slice),(37,.int .i64),(38,.int .i64)] (pO.bd · · · · · · · · · · · · · · R) λaS=>.leaf))) .leaf))))) h
def kG.ι(t3:Option Nat)(t4:Int)(t10:ah)(t11:Int)(sm:J)(sl vc:Nat)(t16 t17:Int)(w:World)(R:ak)(aS:Option Nat->ah->Int->ai)(fG:Option Nat->Int->ah->Int->J->Nat->Nat->Int->Int->ai):Prop:=
 cond (decide (t17<t16)) (
  ο (decide (0<=t17)) (
   ο (decide (t17<((sl:Nat):Int))) (
    ξ sm λd1=>
    ∃cS m1,w.cell? (d1.add (t17.toNat*1))=some (.complex .f64 cS m1)/\
    (cond (!(ey .eql cS 13830554455654793216&&ey .eql m1 0)) (
     aR w #[t4,t17] 221 λaH aa=>
     ξ t3 λaf=>
     O0 prog aa af cS m1 213 (.slice none 0 0) λv2 st1 ax=>
     df v2 λaX br c2=>
     gD ax aX br c2 1 (a8 ax (some ⟨aH,0,none⟩)) 221 2 16 #[(0:Int),(0:Int)] λbl bJ aG=>
     ξ t3 λdC=>
     O1 aG dC st1 (.slice bl (br+1) bJ) λba=>
     fG t3 t4 t10 t11 sm sl vc t16 (IntKind.i64.wrap (t17+1)) ba) (
     fG t3 t4 t10 t11 sm sl vc t16 (IntKind.i64.wrap (t17+1)) w))))) (
  aS t3 t10 (IntKind.i64.wrap (t11+1)) w)
def kG.fm:=aco kG.ι
def kG.ε(t3:Option Nat)(t10:ah)(t11:Int)(w:World)(R:ak)(aS:Option Nat->ah->Int->ai):Prop:=
 cond (decide (t11<8)) (
  ο (decide (0<=t11)) (
   ο (decide (t11<(8:Int))) (
    ξ (t10[(t11.toNat*1)]?) λv1=>
    df v1 λad aD c1=>
    kG.fm t3 t11 t10 t11 ad aD c1 ((aD:Nat):Int) 0 w R aS))) (
  R (.returned (.map t3)) w)
def kG.bd:=HU kG.ε
def kG.main(a0:ah)(w:World)(R:ak):Prop:=
 aR w a0 89 λε δ=>
 acH δ λι υ=>
 ∃(aQ:ah),aQ.size=8/\aw υ ⟨ε,16,none⟩ aQ.toList/\
 (kG.bd (some ι) aQ 0 υ R)
abbrev kG.C(a0:ah):=Calls prog 110 #[.agg a0]
theorem kG.ok:ic kG.main kG.C:=λ{_ _ R}h=>fg func110 [.tmp 2] 37 (.seq .leaf (.seq .leaf (.seq (.seq .leaf (.block (.loop [(3,.map),(10,.agg),(11,.int .i64)] (kG.bd · · · · R) λaS=>(.seq .leaf (.seq .leaf (.seq (.block (.seq .leaf (.seq .leaf (.block (.loop [(3,.map),(4,.int .i64),(10,.agg),(11,.int .i64),(15,.slice),(16,.int .i64),(17,.int .i64)] (kG.fm · · · · · · · · · · R aS) λfG=>.leaf))))) .leaf)))))) .leaf))) h
def va.ε(cj:J)(cb cu:Nat)(t1 t7 t8:Int)(w:World)(R:ak)(aS:J->Nat->Nat->Int->Int->Int->ai):Prop:=
 cond (decide (t8<t7)) (
  ο (decide (0<=t8)) (
   ο (decide (t8<((cb:Nat):Int))) (
    ξ cj λd1=>
    ∃ζ,w.cell? (d1.add (t8.toNat*1))=some (.int .i64 ζ)/\
    (cond (t1==ζ) (
     R (.returned (.int .i64 t8)) w) (
     aS cj cb cu t1 t7 (IntKind.i64.wrap (t8+1)) w))))) (
  R (.returned (.int .i64 (-1))) w)
def va.bd:=pD va.ε
def va.main(bD:J)(a6 bx:Nat)(aq:Int)(w:World)(R:ak):Prop:=
 va.bd bD a6 bx aq ((a6:Nat):Int) 0 w R
abbrev va.C(bD:J)(a6 bx:Nat)(aq:Int):=Calls prog 111 #[.slice bD a6 bx,aq]
theorem va.ok:k6 va.main va.C:=λ{_ _ _ _ _ R}h=>fg func111 [.tmp 4] 19 (.seq .leaf (.seq (.seq .leaf (.block (.loop [(0,.slice),(1,.int .i64),(7,.int .i64),(8,.int .i64)] (va.bd · · · · · · · R) λaS=>.leaf))) .leaf)) h
def yI.main(a0 aq a2:Int)(w:World)(R:ak):Prop:=
 cond (decide (a0>=aq)) (
  R (.returned (.bool (decide (a0<a2)))) w) (
  R (.returned (.bool false)) w)
abbrev yI.C(a0 aq a2:Int):=Calls prog 112 #[a0,aq,a2]
theorem yI.ok:iL yI.main yI.C:=λh=>dt func112 [.tmp 6] 15 h
def u9.main(bD:J)(a6 bx:Nat)(aq:Value)(w:World)(R:ak):Prop:=
 κ prog 131 #[.slice bD a6 bx,aq] w (λv1 δ=>
  bq .i64 v1 λζ=>
  R (.returned (.bool (decide (ζ>=0)))) δ) (aB R)
abbrev u9.C(bD:J)(a6 bx:Nat)(aq:Value):=Calls prog 113 #[.slice bD a6 bx,aq]
theorem u9.ok:k6 u9.main u9.C:=λh=>dt func113 [.tmp 4] 9 h
def D1.main(jv jJ:Nat)(w:World)(R:ak):Prop:=
 cond (!(ey .eql jv 13830554455654793216&&ey .eql jJ 0)) (
  κ prog 115 #[.complex .f64 jv jJ] w (λv1 δ=>
   dD v1 λε=>
   R (.returned (.bool (!ε))) δ) (aB R)) (
  R (.returned (.bool false)) w)
abbrev D1.C(jv jJ:Nat):=Calls prog 114 #[.complex .f64 jv jJ]
theorem D1.ok:jT D1.main D1.C:=λh=>dt func114 [.tmp 2] 10 h
def yz.main(jv jJ:Nat)(w:World)(R:ak):Prop:=
 κ prog 157 #[.float .f64 jv,(24:Int)] w (λv1 δ=>
  dD v1 λε=>
  cond ε (
   κ prog 157 #[.float .f64 jJ,(16:Int)] δ (λv2 aa=>
    dD v2 λι=>
    R (.returned (.bool ι)) aa) (aB R)) (
   R (.returned (.bool false)) δ)) (aB R)
abbrev yz.C(jv jJ:Nat):=Calls prog 115 #[.complex .f64 jv jJ]
theorem yz.ok:jT yz.main yz.C:=λh=>dt func115 [.tmp 2] 11 h
def GD.main(a0:J)(aq:Int)(w:World)(R:ak):Prop:=
 cond (Option.isNone a0) (
  R (.returned (.int .i64 1)) w) (
  cond (decide (aq<0)) (
   R (.returned (.int .i64 5)) w) (
   ξ a0 λd1=>
   ∃ζ,w.cell? d1=some (.int .i64 ζ)/\
   (cond (decide (aq>=ζ)) (
    R (.returned (.int .i64 5)) w) (
    R (.returned (.int .i64 0)) w))))
abbrev GD.C(a0:J)(aq:Int):=Calls prog 116 #[.pointer a0,aq]
theorem GD.ok:jT GD.main GD.C:=λh=>dt func116 [.tmp 4] 19 h
def mm.bP(t0:J)(t1:Int)(re rb t7:Nat)(t9:Int)(w:World)(R:ak):Prop:=
 ο (decide (0<=(Int.tmod t1 8))) (
  ο (decide ((Int.tmod t1 8)<(8:Int))) (
   ef w (Addr.add ⟨t7,0,none⟩ ((Int.tmod t1 8).toNat*1)) (.complex .f64 re rb) λdk=>
   (ξ t0 λd6=>
    ∃τ,dk.drew.cell? d6=some (.int .i64 τ)/\
    (ξ t0 λd7=>
     ∃fD iA fU,dk.drew.cell? (d7.add 1)=some (.slice fD iA fU)/\
     (κ prog 159 #[.slice fD iA fU] dk.drew (λv3 cH=>
      df v3 λiB pF h2=>
      cH.cell? d6=some (.int .i64 τ)/\
      (aR cH #[τ,.slice iB pF h2] 203 λaH de=>
       ∃nD n6 nt,de.cell? ⟨aH,1,none⟩=some (.slice nD n6 nt)/\
       (ο (decide (0<=t9)) (
        ο (decide (t9<((n6:Nat):Int))) (
         ξ nD λd8=>
         ef de (d8.add (t9.toNat*1)) (.pointer (some ⟨t7,0,none⟩)) λdJ=>
         (κ prog 113 #[.slice (dA (some ⟨t7,0,none⟩) 8 0 1) 8 8,.func (.func 160) #[] #[]] dJ (λv4 ep=>
          dD v4 λaf=>
          cond (!af) (
          ∃iq n7 lX,ep.cell? ⟨aH,1,none⟩=some (.slice iq n7 lX)/\
          (ο (decide (0<=t9)) (
          ο (decide (t9<((n7:Nat):Int))) (
          ξ iq λd9=>
          ef ep (d9.add (t9.toNat*1)) (.pointer none) λgP=>
          (R (.returned (.pointer (some ⟨aH,0,none⟩))) gP))))) (
          R (.returned (.pointer (some ⟨aH,0,none⟩))) ep)) (aB R))))))) (aB R))))))
def mm.aZ(t0:J)(t1:Int)(re rb t7:Nat)(w:World)(R:ak):Prop:=
 ξ t0 λd3=>
 ∃bl dz bJ,w.cell? (d3.add 1)=some (.slice bl dz bJ)/\
 (ο (decide (0<=(IntKind.i64.wrap (Int.tdiv t1 8)))) (
  ο (decide ((IntKind.i64.wrap (Int.tdiv t1 8))<((dz:Nat):Int))) (
   ξ bl λd4=>
   ∃ej,w.cell? (d4.add ((IntKind.i64.wrap (Int.tdiv t1 8)).toNat*1))=some (.pointer ej)/\
   (cond (!(Option.isNone ej)) (
    ξ ej λd5=>
    ∃(aQ:ah),aQ.size=8/\aw w d5 aQ.toList/\
    (ο (decide (aQ.size=8)) (
     bM w ⟨t7,0,none⟩ aQ.toList λca=>
     (mm.bP t0 t1 re rb t7 (IntKind.i64.wrap (Int.tdiv t1 8)) ca R)))) (
    mm.bP t0 t1 re rb t7 (IntKind.i64.wrap (Int.tdiv t1 8)) w R)))))
def mm.ε(t0:J)(t1:Int)(re rb t7:Nat)(t29:Int)(w:World)(R:ak)(aS:J->Int->Nat->Nat->Nat->Int->ai):Prop:=
 cond (decide (t29<8)) (
  ο (decide (0<=t29)) (
   ο (decide (t29<(8:Int))) (
    ef w (Addr.add ⟨t7,0,none⟩ (t29.toNat*1)) (.complex .f64 13830554455654793216 0) λb9=>
    (aS t0 t1 re rb t7 (IntKind.i64.wrap (t29+1)) b9)))) (
  mm.aZ t0 t1 re rb t7 w R)
def mm.bd:=pD mm.ε
def mm.main(a0:J)(aq:Int)(p1 p0:Nat)(w:World)(R:ak):Prop:=
 κ prog 158 #[.pointer a0,aq] w (λv1 δ=>
  lG v1 λcS m1=>
  cond (ey .eql cS p1&&ey .eql m1 p0) (
   ξ a0 λd1=>
   ∃ζ,δ.drew.cell? d1=some (.int .i64 ζ)/\
   (ξ a0 λd2=>
    ∃ad aD c1,δ.drew.cell? (d2.add 1)=some (.slice ad aD c1)/\
    (κ prog 159 #[.slice ad aD c1] δ.drew (λv2 aa=>
     df v2 λaX br c2=>
     aa.cell? d1=some (.int .i64 ζ)/\
     (aR aa #[ζ,.slice aX br c2] 203 λε aG=>
      R (.returned (.pointer (some ⟨ε,0,none⟩))) aG)) (aB R)))) (
   aR δ #[.complex .f64 0 0,.complex .f64 0 0,.complex .f64 0 0,.complex .f64 0 0,.complex .f64 0 0,.complex .f64 0 0,.complex .f64 0 0,.complex .f64 0 0] 252 λι ba=>
   bM ba ⟨ι,0,none⟩ [(.complex .f64 0 0),(.complex .f64 0 0),(.complex .f64 0 0),(.complex .f64 0 0),(.complex .f64 0 0),(.complex .f64 0 0),(.complex .f64 0 0),(.complex .f64 0 0)] λbk=>
   (mm.bd a0 aq p1 p0 ι 0 bk R))) (aB R)
abbrev mm.C(a0:J)(aq:Int)(p1 p0:Nat):=Calls prog 117 #[.pointer a0,aq,.complex .f64 p1 p0]
theorem mm.ok:k6 mm.main mm.C:=λ{_ _ _ _ _ R}h=>fg func117 [.tmp 6] 80 (.seq .leaf (.seq .leaf (.seq .leaf (.cut [(0,.ptr),(1,.int .i64),(2,.p5),(7,.c5)] (mm.aZ · · · · · · R) (.seq .leaf (.block (.loop [(0,.ptr),(1,.int .i64),(2,.p5),(7,.c5),(29,.int .i64)] (mm.bd · · · · · · · R) λaS=>.leaf))) (.seq .leaf (.cut [(0,.ptr),(1,.int .i64),(2,.p5),(7,.c5),(9,.int .i64)] (mm.bP · · · · · · · R) .leaf .leaf)))))) h
def FX.main(a0:J)(w:World)(R:ak):Prop:=
 ξ a0 λd1=>
 κ prog 161 #[.slice (dA (some d1) 8 0 2) 8 8,.func (.func 162) #[] #[]] w (λv1 δ=>
  bq .i64 v1 λζ=>
  cond (decide (ζ<0)) (
   R (.returned (.tuple #[(0:Int),(7:Int)])) δ) (
   R (.returned (.tuple #[ζ,(0:Int)])) δ)) (aB R)
abbrev FX.C(a0:J):=Calls prog 118 #[.pointer a0]
theorem FX.ok:ic FX.main FX.C:=λh=>dt func118 [.tmp 2,.tmp 3] 13 h
def FV.main(a0:J)(aq a2:Int)(w:World)(R:ak):Prop:=
 κ prog 84 #[.pointer a0,aq] w (λv1 δ=>
  b6 v1 λbT=>
  ξ (bT[0]?) λv2=>
  dZ v2 λaQ=>
  ξ (bT[1]?) λv3=>
  bq .i64 v3 λζ=>
  aR δ #[(0:Int),(0:Int)] 84 λε aa=>
  ο (decide (aQ.size=2)) (
   bM aa ⟨ε,0,none⟩ aQ.toList λax=>
   (cond (ζ !=0) (
    R (.returned (.tuple #[.complex .f64 0 0,.bool false,ζ])) ax) (
    ξ a0 λd1=>
    ο (decide (0<=aq)) (
     ο (decide (aq<(8:Int))) (
      ∃ad,ax.cell? ((d1.add 16).add (aq.toNat*1))=some (.pointer ad)/\
      (κ prog 163 #[.pointer ad,a2] ax (λv4 aG=>
       b6 v4 λeV=>
       ξ (eV[0]?) λv5=>
       lG v5 λcS m1=>
       ξ (eV[1]?) λv6=>
       dD v6 λι=>
       ξ (eV[2]?) λfS=>
       bq .i64 fS λτ=>
       R (.returned (.tuple #[.complex .f64 cS m1,.bool ι,τ])) aG) (aB R)))))))) (aB R)
abbrev FV.C(a0:J)(aq a2:Int):=Calls prog 119 #[.pointer a0,aq,a2]
theorem FV.ok:iL FV.main FV.C:=λh=>dt func119 [.tmp 6,.tmp 7,.tmp 8] 31 h
def Gl.main(a0:J)(aq:Int)(w:World)(R:ak):Prop:=
 cond (!(Option.isNone a0)) (
  cond (decide (aq>=0)) (
   κ prog 134 #[.pointer a0] w (λv1 δ=>
    dD v1 λε=>
    cond (!ε) (
     R (.returned (.bool true)) δ) (
     ξ a0 λd1=>
     ∃ad aD c1,δ.cell? (d1.add 2)=some (.slice ad aD c1)/\
     (R (.returned (.bool (decide (((aD:Nat):Int)>aq)))) δ))) (aB R)) (
   R (.returned (.bool false)) w)) (
  R (.returned (.bool false)) w)
abbrev Gl.C(a0:J)(aq:Int):=Calls prog 120 #[.pointer a0,aq]
theorem Gl.ok:jT Gl.main Gl.C:=λh=>dt func120 [.tmp 4] 25 h
def Gz.main(a0:J)(aq:Int)(w:World)(R:ak):Prop:=
 κ prog 116 #[.pointer a0,aq] w (λv1 δ=>
  bq .i64 v1 λζ=>
  cond (ζ !=0) (
   R (.returned (.tuple #[.pointer none,ζ])) δ) (
   κ prog 117 #[.pointer a0,aq,.complex .f64 13830554455654793216 0] δ (λv2 aa=>
    hD v2 λad=>
    R (.returned (.tuple #[.pointer ad,(0:Int)])) aa) (aB R))) (aB R)
abbrev Gz.C(a0:J)(aq:Int):=Calls prog 121 #[.pointer a0,aq]
theorem Gz.ok:jT Gz.main Gz.C:=λh=>dt func121 [.tmp 4,.tmp 5] 16 h
def pN.aZ(dW:J)(dL ec t4 t5 t6 t8 t9:Nat)(w:World)(R:ak):Prop:=
 ∃w4,w.cell? ⟨t6,0,none⟩=some (.int .i64 w4)/\
 (cond (decide (((dL:Nat):Int)>(IntKind.i64.wrap ((IntKind.i64.wrap (16-w4))*6)))) (
  ef w ⟨t8,0,none⟩ (.int .i64 0) λfb=>
  (ef fb ⟨t9,0,none⟩ (.int .i64 7) λiW=>
   (∃oz,iW.cell? ⟨t8,0,none⟩=some (.int .i64 oz)/\
    (∃oA,iW.cell? ⟨t9,0,none⟩=some (.int .i64 oA)/\
     (R (.returned (.tuple #[oz,oA])) iW))))) (
  κ prog 164 #[.slice dW dL ec,(6:Int)] w (λv2 fT=>
   JM v2 λgf jM lb=>
   ο (Nat.beq jM.size 0&&bB.fns.contains gf&&true&&true&&true&&true) (
    ∃(α:Type)(enc:α->Value)(fx:World->ai)(S Sp:List α->Prop)(N:Nat)(bw pX:List α->ai),Rw prog gf lb enc fx S Sp N bw pX fT/\
    ((∀(pre:List α)(x:α)(hg:World),bw pre hg->pre.length<N->
      df (enc x) λaX aD c1=>
      ∃Bg,hg.cell? ⟨t5,0,none⟩=some (.int .i64 Bg)/\
      (∃nN,hg.cell? ⟨t6,0,none⟩=some (.int .i64 nN)/\
       (κ prog 153 #[Bg,nN,.slice aX aD c1] hg (λv3 kx=>
         b6 v3 λbT=>
         ξ (bT[0]?) λv4=>
         df v4 λbl br c2=>
         ξ (bT[1]?) λv5=>
         bq .i64 v5 λCY=>
         cond (CY==0) (
          ∃ej,kx.cell? ⟨t4,0,none⟩=some (.pointer ej)/\
          (∃nO,kx.cell? ⟨t6,0,none⟩=some (.int .i64 nO)/\
           (aR kx #[(IntKind.i64.wrap (24+nO)),.slice bl br c2] 130 λiZ CT=>
            κ prog 63 #[.pointer ej,.slice (some ⟨iZ,0,none⟩) 1 1] CT (λv6 jr=>
            bq .i64 v6 λQW=>
            cond (QW !=0) (
            ef jr ⟨t8,0,none⟩ (.int .i64 0) λsr=>
            (ef sr ⟨t9,0,none⟩ (.int .i64 QW) λtQ=>
            (KeepsOthers hg tQ/\pX (pre++[x]) tQ))) (
            ∃tU,jr.cell? ⟨t6,0,none⟩=some (.int .i64 tU)/\
            (ef jr ⟨t6,0,none⟩ (.int .i64 (IntKind.i64.wrap (tU+1))) λss=>
            (KeepsOthers hg ss/\fx hg ss/\bw (pre++[x]) ss)))) λcX kN=>False))) (
          cond (CY !=0) (
           ef kx ⟨t8,0,none⟩ (.int .i64 0) λnM=>
           (ef nM ⟨t9,0,none⟩ (.int .i64 CY) λox=>
            (KeepsOthers hg ox/\pX (pre++[x]) ox))) (
           ∃w5,kx.cell? ⟨t6,0,none⟩=some (.int .i64 w5)/\
           (ef kx ⟨t6,0,none⟩ (.int .i64 (IntKind.i64.wrap (w5+1))) λvm=>
            (KeepsOthers hg vm/\fx hg vm/\bw (pre++[x]) vm))))) λcX k3=>False)))/\
     ((∀(D:Nat)(xs:List α)(iX:World),fT.heap.size<=D->S xs->bw xs iX->iX.heap[D]?=some (Obj.deferred (some []))->
       ∃rn,iX.cell? ⟨t6,0,none⟩=some (.int .i64 rn)/\
       (ef iX ⟨t8,0,none⟩ (.int .i64 rn) λCU=>
        (ef CU ⟨t9,0,none⟩ (.int .i64 0) λw1=>
         (w1.heap[D]?=some (Obj.deferred (some []))/\
          ∃CZ,(w1.putObj D (Obj.deferred none)).cell? ⟨t8,0,none⟩=some (.int .i64 CZ)/\
          (∃ym,(w1.putObj D (Obj.deferred none)).cell? ⟨t9,0,none⟩=some (.int .i64 ym)/\
           (R (.returned (.tuple #[CZ,ym])) (w1.putObj D (Obj.deferred none))))))))/\
      (∀(D:Nat)(pre:List α)(jf:World),fT.heap.size<=D->Sp pre->pX pre jf->jf.heap[D]?=some (Obj.deferred (some []))->
       jf.heap[D]?=some (Obj.deferred (some []))/\
       ∃aic,(jf.putObj D (Obj.deferred none)).cell? ⟨t8,0,none⟩=some (.int .i64 aic)/\
       (∃MM,(jf.putObj D (Obj.deferred none)).cell? ⟨t9,0,none⟩=some (.int .i64 MM)/\
        (R (.returned (.tuple #[aic,MM])) (jf.putObj D (Obj.deferred none))))))))) (aB R)))
def pN.ε(dW:J)(dL ec t4 t5 t6 t8 t9:Nat)(Me:J)(Md Qm:Nat)(t35 t36:Int)(w:World)(R:ak)(aS:J->Nat->Nat->Nat->Nat->Nat->Nat->Nat->J->Nat->Nat->Int->Int->ai):Prop:=
 cond (decide (t36<t35)) (
  ο (decide (0<=t36)) (
   ο (decide (t36<((Md:Nat):Int))) (
    ξ Me λd1=>
    ∃(aQ:ah),aQ.size=5/\aw w (d1.add (t36.toNat*5)) aQ.toList/\
    (aR w #[(0:Int),(0:Int),(0:Int),(0:Int),.complex .f64 0 0] 155 λgb eO=>
     ο (decide (aQ.size=5)) (
      bM eO ⟨gb,0,none⟩ aQ.toList λgP=>
      (∃(bK:ah),bK.size=5/\aw gP ⟨gb,0,none⟩ bK.toList/\
       (κ prog 155 #[.agg bK] gP (λv1 gj=>
        bq .i64 v1 λmn=>
        cond (mn !=0) (
         ef gj ⟨t8,0,none⟩ (.int .i64 0) λeK=>
         (ef eK ⟨t9,0,none⟩ (.int .i64 mn) λfY=>
          (∃jR,fY.cell? ⟨t8,0,none⟩=some (.int .i64 jR)/\
           (∃rm,fY.cell? ⟨t9,0,none⟩=some (.int .i64 rm)/\
            (R (.returned (.tuple #[jR,rm])) fY))))) (
         aS dW dL ec t4 t5 t6 t8 t9 Me Md Qm t35 (IntKind.i64.wrap (t36+1)) gj)) (aB R)))))))) (
  pN.aZ dW dL ec t4 t5 t6 t8 t9 w R)
def pN.bd:=OX pN.ε
def pN.main(a0:J)(aq a2:Int)(vG:J)(tY vF:Nat)(w:World)(R:ak):Prop:=
 aR w #[.pointer a0] 23 λε δ=>
 aR δ #[aq] 3 λι υ=>
 aR υ #[a2] 3 λaH aa=>
 aR aa #[(0:Int)] 3 λaf ax=>
 aR ax #[(0:Int)] 33 λdC aG=>
 ∃ad,aG.cell? ⟨ε,0,none⟩=some (.pointer ad)/\
 (cond (Option.isNone ad) (
  ef aG ⟨af,0,none⟩ (.int .i64 0) λba=>
  (ef ba ⟨dC,0,none⟩ (.int .i64 1) λbk=>
   (∃al,bk.cell? ⟨af,0,none⟩=some (.int .i64 al)/\
    (∃aJ,bk.cell? ⟨dC,0,none⟩=some (.int .i64 aJ)/\
     (R (.returned (.tuple #[al,aJ])) bk))))) (
  ∃ζ,aG.cell? ⟨ι,0,none⟩=some (.int .i64 ζ)/\
  (cond (decide (ζ<1)) (
    ef aG ⟨af,0,none⟩ (.int .i64 0) λb9=>
    (ef b9 ⟨dC,0,none⟩ (.int .i64 1) λca=>
     (∃aV,ca.cell? ⟨af,0,none⟩=some (.int .i64 aV)/\
      (∃ct,ca.cell? ⟨dC,0,none⟩=some (.int .i64 ct)/\
       (R (.returned (.tuple #[aV,ct])) ca))))) (
    ∃τ,aG.cell? ⟨ι,0,none⟩=some (.int .i64 τ)/\
    (cond (decide (τ>1073741824)) (
      ef aG ⟨af,0,none⟩ (.int .i64 0) λdk=>
      (ef dk ⟨dC,0,none⟩ (.int .i64 1) λcH=>
       (∃cv,cH.cell? ⟨af,0,none⟩=some (.int .i64 cv)/\
        (∃e7,cH.cell? ⟨dC,0,none⟩=some (.int .i64 e7)/\
         (R (.returned (.tuple #[cv,e7])) cH))))) (
      ∃ab,aG.cell? ⟨aH,0,none⟩=some (.int .i64 ab)/\
      (cond (decide (ab<0)) (
        ef aG ⟨af,0,none⟩ (.int .i64 0) λcn=>
        (ef cn ⟨dC,0,none⟩ (.int .i64 1) λde=>
         (∃fu,de.cell? ⟨af,0,none⟩=some (.int .i64 fu)/\
          (∃dG,de.cell? ⟨dC,0,none⟩=some (.int .i64 dG)/\
           (R (.returned (.tuple #[fu,dG])) de))))) (
        ∃aA,aG.cell? ⟨aH,0,none⟩=some (.int .i64 aA)/\
        (cond (decide (aA>16)) (
          ef aG ⟨af,0,none⟩ (.int .i64 0) λdJ=>
          (ef dJ ⟨dC,0,none⟩ (.int .i64 1) λep=>
           (∃gV,ep.cell? ⟨af,0,none⟩=some (.int .i64 gV)/\
            (∃js,ep.cell? ⟨dC,0,none⟩=some (.int .i64 js)/\
            (R (.returned (.tuple #[gV,js])) ep))))) (
          pN.bd vG tY vF ε ι aH af dC vG tY vF ((tY:Nat):Int) 0 aG R))))))))))
abbrev pN.C(a0:J)(aq a2:Int)(vG:J)(tY vF:Nat):=Calls prog 122 #[.pointer a0,aq,a2,.slice vG tY vF]
theorem pN.ok:yq pN.main pN.C:=λ{_ _ _ _ _ _ _ R}h=>adh func122 [.cell 8 3,.cell 9 33] 77 (.seq .leaf (.seq .leaf (.cut [(3,.slice),(4,.c5),(5,.c5),(6,.c5),(8,.c5),(9,.c5)] (pN.aZ · · · · · · · · · R) (.seq .leaf (.block (.loop [(3,.slice),(4,.c5),(5,.c5),(6,.c5),(8,.c5),(9,.c5),(34,.slice),(35,.int .i64),(36,.int .i64)] (pN.bd · · · · · · · · · · · · · · R) λaS=>.leaf))) (.seq .leaf (.x7 .leaf))))) h
def F6.main(bD:J)(a6 bx:Nat)(w:World)(R:ak):Prop:=
 cond (Option.isNone bD) (
  R (.returned (.slice none 0 0)) w) (
  aR w #[] 113 λε δ=>
  gD δ (some ⟨ε,0,none⟩) 0 0 a6 (a8 δ bD) 113 1 16 #[.complex .f64 0 0] λad c1 υ=>
  R (.returned (.slice ad (0+a6) c1)) υ)
abbrev F6.C(bD:J)(a6 bx:Nat):=Calls prog 123 #[.slice bD a6 bx]
theorem F6.ok:iL F6.main F6.C:=λh=>dt func123 [.tmp 2] 8 h
def ow.ε(t0 dW:J)(dL ec:Nat)(t6 t7:Int)(w:World)(R:ak)(aS:J->J->Nat->Nat->Int->Int->ai):Prop:=
 cond (decide (t7<t6)) (
  κ prog 158 #[.pointer t0,t7] w (λv2 aa=>
   lG v2 λcS m1=>
   aR aa #[.complex .f64 cS m1] 113 λε aG=>
   gD aG dW dL ec 1 (a8 aG (some ⟨ε,0,none⟩)) 113 1 16 #[.complex .f64 0 0] λad c1 ba=>
   aS t0 ad (dL+1) c1 t6 (IntKind.i64.wrap (t7+1)) ba) (aB R)) (
  R (.returned (.slice dW dL ec)) w)
def ow.bd:=pD ow.ε
def ow.main(a0:J)(w:World)(R:ak):Prop:=
 κ prog 165 #[.pointer a0] w (λv1 δ=>
  bq .i64 v1 λζ=>
  ow.bd a0 none 0 0 ζ 0 δ R) (aB R)
abbrev ow.C(a0:J):=Calls prog 124 #[.pointer a0]
theorem ow.ok:ic ow.main ow.C:=λ{_ _ R}h=>fg func124 [.tmp 2] 18 (.seq .leaf (.seq .leaf (.seq (.seq .leaf (.block (.loop [(0,.ptr),(3,.slice),(6,.int .i64),(7,.int .i64)] (ow.bd · · · · · · · R) λaS=>.leaf))) .leaf))) h
def Fp.main(jv jJ dN:Nat)(w:World)(R:ak):Prop:=
 ∃(aQ:ah),aQ.size=2/\aw w ⟨dN,0,none⟩ aQ.toList/\
 (κ prog 54 #[.agg aQ,.complex .f64 jv jJ] w (λv1 δ=>
  b6 v1 λbT=>
  ξ (bT[0]?) λv2=>
  bq .i64 v2 λζ=>
  ξ (bT[1]?) λv3=>
  bq .i64 v3 λτ=>
  cond (!(ey .eql jv 13830554455654793216&&ey .eql jJ 0)) (
   R (.returned (.bool (τ !=0))) δ) (
   R (.returned (.bool false)) δ)) (aB R))
abbrev Fp.C(jv jJ dN:Nat):=Calls prog 125 #[.complex .f64 jv jJ,.pointer (some ⟨dN,0,none⟩)]
theorem Fp.ok:iL Fp.main Fp.C:=λh=>dt func125 [.tmp 3] 18 h
def oH.aZ(qB:J)(pS ve:Nat)(w:World)(R:ak):Prop:=
 κ prog 166 #[.slice qB pS ve,.func (.func 167) #[] #[]] w (λv3 ba=>
  b6 v3 λbT=>
  κ prog 169 #[.slice qB pS ve] ba (λv4 b9=>
   df v4 λaX br c2=>
   κ prog 168 #[.slice aX br c2] b9 (λv5 dk=>
    df v5 λbl dz bJ=>
    R (.returned (.tuple #[.slice bl dz bJ,(0:Int)])) dk) (aB R)) (aB R)) (aB R)
def oH.ε(qB:J)(pS ve:Nat)(hX:J)(fB ir:Nat)(t13 t14:Int)(w:World)(R:ak)(aS:J->Nat->Nat->J->Nat->Nat->Int->Int->ai):Prop:=
 cond (decide (t14<t13)) (
  ο (decide (0<=t14)) (
   ο (decide (t14<((fB:Nat):Int))) (
    ξ hX λd1=>
    ∃cS m1,w.cell? (d1.add (t14.toNat*1))=some (.complex .f64 cS m1)/\
    (κ prog 115 #[.complex .f64 cS m1] w (λv2 aa=>
     dD v2 λε=>
     cond (!ε) (
      R (.returned (.tuple #[.slice none 0 0,(2:Int)])) aa) (
      ξ (uh cS 0) λfX=>
      ξ (uh m1 0) λm2=>
      ο (decide (0<=t14)) (
       ο (decide (t14<((pS:Nat):Int))) (
        ξ qB λd2=>
        ef aa (d2.add (t14.toNat*1)) (.complex .f64 fX m2) λaG=>
        (aS qB pS ve hX fB ir t13 (IntKind.i64.wrap (t14+1)) aG))))) (aB R))))) (
  oH.aZ qB pS ve w R)
def oH.bd:=K0 oH.ε
def oH.main(bD:J)(a6 bx:Nat)(w:World)(R:ak):Prop:=
 cond (decide (((a6:Nat):Int)>4096)) (
  R (.returned (.tuple #[.slice none 0 0,(1:Int)])) w) (
  κ prog 123 #[.slice bD a6 bx] w (λv1 δ=>
   df v1 λad aD c1=>
   oH.bd ad aD c1 ad aD c1 ((aD:Nat):Int) 0 δ R) (aB R))
abbrev oH.C(bD:J)(a6 bx:Nat):=Calls prog 126 #[.slice bD a6 bx]
theorem oH.ok:iL oH.main oH.C:=λ{_ _ _ _ R}h=>fg func126 [.tmp 2,.tmp 3] 33 (.seq .leaf (.seq .leaf (.seq .leaf (.cut [(4,.slice)] (oH.aZ · · · · R) (.seq .leaf (.block (.loop [(4,.slice),(12,.slice),(13,.int .i64),(14,.int .i64)] (oH.bd · · · · · · · · · R) λaS=>.leaf))) .leaf)))) h
def IM.main(bD:J)(a6 bx:Nat)(aq:Value)(w:World)(R:ak):Prop:=
 κ prog 170 #[.slice bD a6 bx,aq] w (λv1 δ=>
  bq .i64 v1 λζ=>
  R (.returned (.bool (decide (ζ>=0)))) δ) (aB R)
abbrev IM.C(bD:J)(a6 bx:Nat)(aq:Value):=Calls prog 127 #[.slice bD a6 bx,aq]
theorem IM.ok:k6 IM.main IM.C:=λh=>dt func127 [.tmp 4] 9 h
def DM.main(a0:Int)(dN:Nat)(w:World)(R:ak):Prop:=
 cond (decide (a0<0)) (
  R (.returned (.bool true)) w) (
  ∃ζ,w.cell? ⟨dN,1,none⟩=some (.int .i64 ζ)/\
  (R (.returned (.bool (decide (a0>ζ)))) w))
abbrev DM.C(a0:Int)(dN:Nat):=Calls prog 128 #[a0,.pointer (some ⟨dN,0,none⟩)]
theorem DM.ok:jT DM.main DM.C:=λh=>dt func128 [.tmp 3] 12 h
def FO.main(a0 aq:Int)(w:World)(R:ak):Prop:=
 cond (decide (a0>=0)) (
  cond (decide (a0<=1048576)) (
   cond (decide (aq>=1)) (
    R (.returned (.bool (decide (aq<=1048576)))) w) (
    R (.returned (.bool false)) w)) (
   R (.returned (.bool false)) w)) (
  R (.returned (.bool false)) w)
abbrev FO.C(a0 aq:Int):=Calls prog 129 #[a0,aq]
theorem FO.ok:jT FO.main FO.C:=λh=>dt func129 [.tmp 4] 19 h
def FN.main(a0 aq a2 a3:Int)(w:World)(R:ak):Prop:=
 κ prog 171 #[(IntKind.i64.wrap (a0*a3)),(IntKind.i64.wrap (a2*aq))] w (λv1 δ=>
  bq .i64 v1 λζ=>
  R (.returned (.int .i64 ζ)) δ) (aB R)
abbrev FN.C(a0 aq a2 a3:Int):=Calls prog 130 #[a0,aq,a2,a3]
theorem FN.ok:k6 FN.main FN.C:=λh=>dt func130 [.tmp 8] 16 h
def Dq.main(jv jJ:Nat)(w:World)(R:ak):Prop:=
 κ prog 115 #[.complex .f64 jv jJ] w (λv1 δ=>
  dD v1 λε=>
  cond (!ε) (
   R (.returned (.tuple #[(0:Int),(0:Int),(2:Int)])) δ) (
   ξ ((FloatKind.f64.decode jv).toInt .zero) λζ=>
   ο (decide (IntKind.i64.min<=ζ)) (
    ο (decide (ζ<=IntKind.i64.max)) (
     ξ ((FloatKind.f64.decode jJ).toInt .zero) λτ=>
     ο (decide (IntKind.i64.min<=τ)) (
      ο (decide (τ<=IntKind.i64.max)) (
       R (.returned (.tuple #[ζ,τ,(0:Int)])) δ)))))) (aB R)
abbrev Dq.C(jv jJ:Nat):=Calls prog 132 #[.complex .f64 jv jJ]
theorem Dq.ok:jT Dq.main Dq.C:=λh=>dt func132 [.tmp 2,.tmp 3,.tmp 4] 14 h
def yA.main(a0:Int)(w:World)(R:ak):Prop:=
 cond (decide (a0>=1)) (
  R (.returned (.bool (decide (a0<=16)))) w) (
  R (.returned (.bool false)) w)
abbrev yA.C(a0:Int):=Calls prog 133 #[a0]
theorem yA.ok:ic yA.main yA.C:=λh=>dt func133 [.tmp 2] 9 h
def Gm.main(a0:J)(w:World)(R:ak):Prop:=
 ξ a0 λd1=>
 ∃ζ,w.cell? (d1.add 3)=some (.int .i64 ζ)/\
 (cond (decide (ζ<0)) (
  ∀aZ:Nat,
  R (.returned (.bool true)) (w.drewN aZ)) (
  ξ a0 λd2=>
  ∃τ,w.cell? (d2.add 4)=some (.int .i64 τ)/\
  (ξ a0 λd3=>
   ∃ab,w.cell? (d3.add 1)=some (.int .i64 ab)/\
   (∀aZ:Nat,
    R (.returned (.bool (τ==ab))) (w.drewN aZ)))))
abbrev Gm.C(a0:J):=Calls prog 134 #[.pointer a0]
theorem Gm.ok:ic Gm.main Gm.C:=λh=>dt func134 [.tmp 2] 20 h
def yy.main(a0 aq:Int)(w:World)(R:ak):Prop:=
 κ prog 133 #[aq] w (λv1 δ=>
  dD v1 λε=>
  cond (!ε) (
   R (.returned (.tuple #[.complex .f64 0 0,(1:Int)])) δ) (
   cond (decide (a0<0)) (
    R (.returned (.tuple #[.complex .f64 0 0,(5:Int)])) δ) (
    cond (decide (a0>=(IntKind.i64.wrap (24*aq)))) (
     R (.returned (.tuple #[.complex .f64 0 0,(5:Int)])) δ) (
     ο (decide (aq≠0)) (
      ο (decide (aq≠0)) (
       ∀aZ:Nat,
       R (.returned (.tuple #[.complex .f64 (FloatKind.f64.nearest (IntKind.i64.wrap (Int.tdiv a0 aq))) (FloatKind.f64.nearest (Int.tmod a0 aq)),(0:Int)])) (δ.drewN aZ))))))) (aB R)
abbrev yy.C(a0 aq:Int):=Calls prog 135 #[a0,aq]
theorem yy.ok:jT yy.main yy.C:=λh=>dt func135 [.tmp 4,.tmp 5] 28 h
def nB.ι(t2 t3:Nat)(lR:J)(mi mh:Nat)(t12:ah)(t13:Int)(IV:J)(IU Ma:Nat)(t28 t29:Int)(w:World)(R:ak)(aS:Nat->Nat->J->Nat->Nat->ah->Int->ai)(fG:Nat->Nat->J->Nat->Nat->ah->Int->J->Nat->Nat->Int->Int->ai):Prop:=
 cond (decide (t29<t28)) (
  ο (decide (0<=t29)) (
   ο (decide (t29<((IU:Nat):Int))) (
    ξ IV λd1=>
    ∃cS m1,w.cell? (d1.add (t29.toNat*1))=some (.complex .f64 cS m1)/\
    (cond (!(ey .eql cS 13830554455654793216&&ey .eql m1 0)) (
     ∃ab,w.cell? ⟨t3,1,none⟩=some (.int .i64 ab)/\
     (κ prog 95 #[.complex .f64 cS m1,ab] w (λv2 b9=>
       b6 v2 λbT=>
       ξ (bT[0]?) λv3=>
       bq .i64 v3 λaA=>
       ξ (bT[1]?) λv4=>
       bq .i64 v4 λal=>
       aR b9 #[(IntKind.i64.wrap (aA+1))] 3 λdC dk=>
       κ prog 139 #[.slice lR mi mh,(2:Int),.slice (some ⟨dC,0,none⟩) 1 1] dk (λv5 cH=>
        df v5 λbl dz bJ=>
        fG t2 t3 bl dz bJ t12 t13 IV IU Ma t28 (IntKind.i64.wrap (t29+1)) cH) (aB R)) (aB R))) (
     aR w #[(0:Int)] 3 λgb de=>
     κ prog 139 #[.slice lR mi mh,(2:Int),.slice (some ⟨gb,0,none⟩) 1 1] de (λv6 dJ=>
      df v6 λej iA fU=>
      fG t2 t3 ej iA fU t12 t13 IV IU Ma t28 (IntKind.i64.wrap (t29+1)) dJ) (aB R)))))) (
  aS t2 t3 lR mi mh t12 (IntKind.i64.wrap (t13+1)) w)
def nB.fm:=aqa nB.ι
def nB.ε(t2 t3:Nat)(lR:J)(mi mh:Nat)(t12:ah)(t13:Int)(w:World)(R:ak)(aS:Nat->Nat->J->Nat->Nat->ah->Int->ai):Prop:=
 cond (decide (t13<8)) (
  ο (decide (0<=t13)) (
   ο (decide (t13<(8:Int))) (
    aR w #[(0:Int),(0:Int)] 84 λaH aa=>
    ο (decide ((t12.extract (t13.toNat*2) ((t13.toNat*2)+2)).size=2)) (
     bM aa ⟨aH,0,none⟩ ((t12.extract (t13.toNat*2) ((t13.toNat*2)+2)).toList) λax=>
     (∃ζ,ax.cell? ⟨aH,0,none⟩=some (.int .i64 ζ)/\
      (∃τ,ax.cell? ⟨aH,1,none⟩=some (.int .i64 τ)/\
       (aR ax #[ζ,τ] 3 λaf aG=>
        κ prog 139 #[.slice lR mi mh,(1:Int),.slice (some ⟨af,0,none⟩) 2 2] aG (λv1 ba=>
         df v1 λad aD c1=>
         ο (decide (0<=t13)) (
          ο (decide (t13<(8:Int))) (
           ∃aX br c2,ba.cell? (Addr.add ⟨t2,16,none⟩ (t13.toNat*1))=some (.slice aX br c2)/\
           (nB.fm t2 t3 ad aD c1 t12 t13 aX br c2 ((br:Nat):Int) 0 ba R aS)))) (aB R)))))))) (
  R (.returned (.slice lR mi mh)) w)
def nB.bd:=KZ nB.ε
def nB.main(a0:ah)(e0 e1:Int)(w:World)(R:ak):Prop:=
 aR w a0 89 λε δ=>
 aR δ #[e0,e1] 28 λι υ=>
 ∃(aQ:ah),aQ.size=16/\aw υ ⟨ε,0,none⟩ aQ.toList/\
 (nB.bd ε ι none 0 0 aQ 0 υ R)
abbrev nB.C(a0:ah)(e0 e1:Int):=Calls prog 136 #[.agg a0,.agg #[e0,e1]]
theorem nB.ok:iL nB.main nB.C:=λ{_ _ _ _ R}h=>fg func136 [.tmp 4] 51 (.seq .leaf (.seq .leaf (.seq (.seq .leaf (.block (.loop [(2,.c5),(3,.c5),(5,.slice),(12,.agg),(13,.int .i64)] (nB.bd · · · · · · · · R) λaS=>(.seq .leaf (.seq .leaf (.seq (.block (.seq .leaf (.seq .leaf (.seq .leaf (.block (.loop [(2,.c5),(3,.c5),(5,.slice),(12,.agg),(13,.int .i64),(27,.slice),(28,.int .i64),(29,.int .i64)] (nB.fm · · · · · · · · · · · · · R aS) λfG=>.leaf)))))) .leaf)))))) .leaf))) h
def F4.main(bD:J)(a6 bx:Nat)(aq:Int)(w:World)(R:ak):Prop:=
 aR w #[.slice bD a6 bx] 34 λε δ=>
 aR δ #[aq] 3 λι υ=>
 ∃ζ,υ.cell? ⟨ι,0,none⟩=some (.int .i64 ζ)/\
 (cond (decide (ζ<1)) (
  R (.panicked [{v:=(.iface 9 (.string (⟨#[99,97,110,110,111,116,32,98,101,32,108,101,115,115,32,116,104,97,110,32,49]⟩:ByteArray))),recovered:=false}]) υ) (
  R (.returned (.func (.func 172) #[] #[.pointer (some ⟨ε,0,none⟩),.pointer (some ⟨ι,0,none⟩)])) υ))
abbrev F4.C(bD:J)(a6 bx:Nat)(aq:Int):=Calls prog 137 #[.slice bD a6 bx,aq]
theorem F4.ok:k6 F4.main F4.C:=λh=>dt func137 [.tmp 4] 9 h
def E2.main(bD:J)(a6 bx:Nat)(w:World)(R:ak):Prop:=
 κ prog 173 #[.slice bD a6 bx] w (λv1 δ=>
  b6 v1 λbT=>
  ξ (bT[0]?) λv2=>
  df v2 λad aD c1=>
  ξ (bT[1]?) λv3=>
  bq .i64 v3 λζ=>
  R (.returned (.slice ad aD c1)) δ) (aB R)
abbrev E2.C(bD:J)(a6 bx:Nat):=Calls prog 138 #[.slice bD a6 bx]
theorem E2.ok:iL E2.main E2.C:=λh=>dt func138 [.tmp 2] 11 h
def EZ.main(bD:J)(a6 bx:Nat)(aq:Int)(jg:J)(eD j5:Nat)(w:World)(R:ak):Prop:=
 κ prog 174 #[aq,.slice jg eD j5] w (λv1 δ=>
  b6 v1 λbT=>
  ξ (bT[0]?) λv2=>
  df v2 λad aD c1=>
  ξ (bT[1]?) λv3=>
  bq .i64 v3 λζ=>
  gD δ bD a6 bx aD (a8 δ ad) 5 1 1 #[.int .u8 0] λaX c2 aa=>
  R (.returned (.slice aX (a6+aD) c2)) aa) (aB R)
abbrev EZ.C(bD:J)(a6 bx:Nat)(aq:Int)(jg:J)(eD j5:Nat):=Calls prog 139 #[.slice bD a6 bx,aq,.slice jg eD j5]
theorem EZ.ok:GU EZ.main EZ.C:=λh=>dt func139 [.tmp 6] 18 h
def F0.main(bD:J)(a6 bx:Nat)(w:World)(R:ak):Prop:=
 κ prog 175 #[.int .u32 0,.slice bD a6 bx] w (λv1 δ=>
  bq .u32 v1 λζ=>
  R (.returned (.int .u32 ζ)) δ) (aB R)
abbrev F0.C(bD:J)(a6 bx:Nat):=Calls prog 140 #[.slice bD a6 bx]
theorem F0.ok:iL F0.main F0.C:=λh=>dt func140 [.tmp 2] 5 h
def cmp_Less_int.main(a0 aq:Int)(w:World)(R:ak):Prop:=
 κ prog 176 #[a0] w (λv1 δ=>
  dD v1 λε=>
  cond ε (
   κ prog 176 #[aq] δ (λv2 aa=>
    dD v2 λι=>
    cond (!ι) (
     R (.returned (.bool true)) aa) (
     R (.returned (.bool (decide (a0<aq)))) aa)) (aB R)) (
   R (.returned (.bool (decide (a0<aq)))) δ)) (aB R)
abbrev cmp_Less_int.C(a0 aq:Int):=Calls prog 141 #[a0,aq]
theorem cmp_Less_int.ok:jT cmp_Less_int.main cmp_Less_int.C:=λh=>dt func141 [.tmp 4] 17 h
def Ga.main(a0:Int)(w:World)(R:ak):Prop:=
 R (.returned (.bool (a0 !=a0))) w
abbrev Ga.C(a0:Int):=Calls prog 142 #[a0]
theorem Ga.ok:ic Ga.main Ga.C:=λh=>dt func142 [.tmp 2] 6 h
def EY.main(bD:J)(a6 bx:Nat)(w:World)(R:ak):Prop:=
 κ prog 147 #[.slice bD a6 bx] w (λv1 δ=>
  b6 v1 λbT=>
  ξ (bT[0]?) λv2=>
  dZ v2 λaQ=>
  ξ (bT[1]?) λv3=>
  dD v3 λε=>
  aR δ #[(0:Int),(0:Int),(0:Int),(0:Int),(0:Int)] 234 λι aa=>
  ο (decide (aQ.size=5)) (
   bM aa ⟨ι,0,none⟩ aQ.toList λax=>
   (cond (!ε) (
    R (.returned (.tuple #[(0:Int),(0:Int),(11:Int)])) ax) (
    ∃ζ,ax.cell? ⟨ι,3,none⟩=some (.int .i64 ζ)/\
    (∃τ,ax.cell? ⟨ι,0,none⟩=some (.int .i64 τ)/\
     (∀aZ:Nat,
      R (.returned (.tuple #[ζ,τ,(0:Int)])) (ax.drewN aZ))))))) (aB R)
abbrev EY.C(bD:J)(a6 bx:Nat):=Calls prog 146 #[.slice bD a6 bx]
theorem EY.ok:iL EY.main EY.C:=λh=>dt func146 [.tmp 2,.tmp 3,.tmp 4] 18 h
def E0.main(bD:J)(a6 bx:Nat)(w:World)(R:ak):Prop:=
 aR w #[(0:Int),(0:Int),(0:Int),(0:Int),(0:Int)] 234 λε δ=>
 κ prog 148 #[.slice bD a6 bx] δ (λv1 υ=>
  b6 v1 λbT=>
  ξ (bT[0]?) λv2=>
  df v2 λad aD c1=>
  ξ (bT[1]?) λv3=>
  bq .i64 v3 λζ=>
  aR υ #[.slice none 0 0] 34 λι ax=>
  ef ax ⟨ι,0,none⟩ (.slice ad aD c1) λaG=>
  (cond (ζ !=0) (
   bM aG ⟨ε,0,none⟩ [(.int .i64 0),(.int .i64 0),(.int .i64 0),(.int .i64 0),(.int .i64 0)] λba=>
   (∃(aQ:ah),aQ.size=5/\aw ba ⟨ε,0,none⟩ aQ.toList/\
    (R (.returned (.tuple #[.agg aQ,.bool false])) ba))) (
   ∃aX br c2,aG.cell? ⟨ι,0,none⟩=some (.slice aX br c2)/\
   (ο (decide (4<=((c2:Nat):Int))) (
     ∃(kh:ao),kh.length=4/\a8 aG (dA aX c2 0 1) (kh.map (.int .u8))/\
     (cond (!((strOf kh).toList==(⟨#[83,76,65,84]⟩:ByteArray).toList)) (
      bM aG ⟨ε,0,none⟩ [(.int .i64 0),(.int .i64 0),(.int .i64 0),(.int .i64 0),(.int .i64 0)] λbk=>
      (∃(bK:ah),bK.size=5/\aw bk ⟨ε,0,none⟩ bK.toList/\
       (R (.returned (.tuple #[.agg bK,.bool false])) bk))) (
      κ prog 178 #[(4:Int),(4:Int),.pointer (some ⟨ι,0,none⟩)] aG (λv4 b9=>
       bq .i64 v4 λτ=>
       κ prog 178 #[(8:Int),(1:Int),.pointer (some ⟨ι,0,none⟩)] b9 (λv5 dk=>
        bq .i64 v5 λab=>
        κ prog 178 #[(9:Int),(1:Int),.pointer (some ⟨ι,0,none⟩)] dk (λv6 cn=>
         bq .i64 v6 λaA=>
         κ prog 178 #[(10:Int),(1:Int),.pointer (some ⟨ι,0,none⟩)] cn (λfS dJ=>
          bq .i64 fS λal=>
          κ prog 178 #[(11:Int),(2:Int),.pointer (some ⟨ι,0,none⟩)] dJ (λbg eO=>
           bq .i64 bg λaJ=>
           aR eO #[(0:Int),(0:Int),(0:Int),(0:Int),(0:Int)] 234 λaH gj=>
           bM gj ⟨aH,0,none⟩ [(.int .i64 τ),(.int .i64 ab),(.int .i64 aA),(.int .i64 al),(.int .i64 aJ)] λfF=>
           (∃(b2:ah),b2.size=5/\aw fF.drew ⟨aH,0,none⟩ b2.toList/\
           (∃aV,fF.drew.cell? ⟨aH,0,none⟩=some (.int .i64 aV)/\
           (cond (decide (aV>=1)) (
           ∃ct,fF.drew.cell? ⟨aH,0,none⟩=some (.int .i64 ct)/\
           (cond (decide (ct<=1073741824)) (
           ∃cv,fF.drew.cell? ⟨aH,3,none⟩=some (.int .i64 cv)/\
           (ο (decide (b2.size=5)) (
           bM fF.drew ⟨ε,0,none⟩ b2.toList λeK=>
           (eK.cell? ⟨aH,3,none⟩=some (.int .i64 cv)/\
           (∃(bY:ah),bY.size=5/\aw eK ⟨ε,0,none⟩ bY.toList/\
           (R (.returned (.tuple #[.agg bY,.bool (decide (cv<12))])) eK)))))) (
           ο (decide (b2.size=5)) (
           bM fF.drew ⟨ε,0,none⟩ b2.toList λfY=>
           (∃(cN:ah),cN.size=5/\aw fY ⟨ε,0,none⟩ cN.toList/\
           (R (.returned (.tuple #[.agg cN,.bool false])) fY)))))) (
           ο (decide (b2.size=5)) (
           bM fF.drew ⟨ε,0,none⟩ b2.toList λfb=>
           (∃(dU:ah),dU.size=5/\aw fb ⟨ε,0,none⟩ dU.toList/\
           (R (.returned (.tuple #[.agg dU,.bool false])) fb)))))))) (aB R)) (aB R)) (aB R)) (aB R)) (aB R)))))))) (aB R)
abbrev E0.C(bD:J)(a6 bx:Nat):=Calls prog 147 #[.slice bD a6 bx]
theorem E0.ok:iL E0.main E0.C:=λh=>dt func147 [.cell 2 234,.tmp 3] 48 h
def FZ.main(bD:J)(a6 bx:Nat)(w:World)(R:ak):Prop:=
 cond (((a6:Nat):Int)!=64) (
  R (.returned (.tuple #[.slice none 0 0,(6:Int)])) w) (
  ο (decide (60<=((bx:Nat):Int))) (
   κ prog 173 #[.slice (dA bD bx 0 1) 60 bx] w (λv1 δ=>
    b6 v1 λbT=>
    ξ (bT[0]?) λv2=>
    df v2 λad aD c1=>
    ξ (bT[1]?) λv3=>
    bq .i64 v3 λζ=>
    κ prog 154 #[.slice ad aD c1,.slice bD a6 bx] δ (λv4 aa=>
     dD v4 λε=>
     cond (!ε) (
      R (.returned (.tuple #[.slice none 0 0,(2:Int)])) aa) (
      ο (decide (60<=((bx:Nat):Int))) (
       κ prog 36 #[.slice (dA bD bx 0 1) 60 bx] aa (λv5 aG=>
        df v5 λaX br c2=>
        R (.returned (.tuple #[.slice aX br c2,(0:Int)])) aG) (aB R)))) (aB R)) (aB R)))
abbrev FZ.C(bD:J)(a6 bx:Nat):=Calls prog 148 #[.slice bD a6 bx]
theorem FZ.ok:iL FZ.main FZ.C:=λh=>dt func148 [.tmp 2,.tmp 3] 22 h
def jl.aZ(cj:J)(cb cu t3 t4:Nat)(t6:Int)(t7 atV atU:Nat)(t14:Int)(zA:J)(zz A8:Nat)(t49 t50:Int)(w:World)(R:ak)(aS:J->Nat->Nat->Nat->Nat->Int->ai)(fG:J->Nat->Nat->Nat->Nat->Int->Nat->Int->J->Nat->Nat->Int->Int->ai):Prop:=
 ο (decide (0<=t6)) (
  ο (decide (t6<(8:Int))) (
   ∃aX br c2,w.cell? (Addr.add ⟨t4,16,none⟩ (t6.toNat*1))=some (.slice aX br c2)/\
   (aR w #[.complex .f64 atV atU] 113 λaf cn=>
    gD cn aX br c2 1 (a8 cn (some ⟨af,0,none⟩)) 113 1 16 #[.complex .f64 0 0] λbl bJ de=>
    ο (decide (0<=t6)) (
     ο (decide (t6<(8:Int))) (
      ef de (Addr.add ⟨t4,16,none⟩ (t6.toNat*1)) (.slice bl (br+1) bJ) λdJ=>
      (fG cj cb cu t3 t4 t6 t7 t14 zA zz A8 t49 (IntKind.i64.wrap (t50+1)) dJ))))))
def jl.bP(cj:J)(cb cu t3 t4:Nat)(t6:Int)(t7:Nat)(t14:Int)(w:World)(R:ak)(aS:J->Nat->Nat->Nat->Nat->Int->ai):Prop:=
 ∃(hc:ah),hc.size=2/\aw w.drew ⟨t7,0,none⟩ hc.toList/\
 (∃cv,w.drew.cell? ⟨t7,1,none⟩=some (.int .i64 cv)/\
  (ο (decide (0<=(IntKind.i64.wrap (2*cv)))) (
   ο (decide ((IntKind.i64.wrap (2*cv))<=((cb:Nat):Int))) (
    ο (decide (0<=t6)) (
     ο (decide (t6<(8:Int))) (
      ο (decide (hc.size=2)) (
       bM w.drew (Addr.add ⟨t4,0,none⟩ (t6.toNat*2)) hc.toList λep=>
       (ep.cell? ⟨t7,1,none⟩=some (.int .i64 cv)/\
        (aS (dA cj cu ((IntKind.i64.wrap (2*cv)).toNat) 1) (cb-(IntKind.i64.wrap (2*cv)).toNat) (cu-(IntKind.i64.wrap (2*cv)).toNat) t3 t4 (IntKind.i64.wrap (t14+1)) ep)))))))))
def jl.ι(cj:J)(cb cu t3 t4:Nat)(t6:Int)(t7:Nat)(t14:Int)(zA:J)(zz A8:Nat)(t49 t50:Int)(w:World)(R:ak)(aS:J->Nat->Nat->Nat->Nat->Int->ai)(fG:J->Nat->Nat->Nat->Nat->Int->Nat->Int->J->Nat->Nat->Int->Int->ai):Prop:=
 cond (decide (t50<t49)) (
  ο (decide (0<=t50)) (
   ο (decide (t50<((zz:Nat):Int))) (
    ξ zA λd3=>
    ∃aJ,w.cell? (d3.add (t50.toNat*1))=some (.int .i64 aJ)/\
    (cond (decide (aJ>0)) (
     ∃aV,w.cell? ⟨t3,1,none⟩=some (.int .i64 aV)/\
     (κ prog 135 #[(IntKind.i64.wrap (aJ-1)),aV] w (λv4 ca=>
      b6 v4 λeV=>
      ξ (eV[0]?) λv5=>
      lG v5 λcS m1=>
      ξ (eV[1]?) λv6=>
      bq .i64 v6 λct=>
      cond (ct !=0) (
       ∃(cN:ah),cN.size=24/\aw ca ⟨t4,0,none⟩ cN.toList/\
       (ο (decide (cN.size=24)) (
        bM ca ⟨t4,0,none⟩ cN.toList λcH=>
        (∃(dU:ah),dU.size=24/\aw cH ⟨t4,0,none⟩ dU.toList/\
         (R (.returned (.tuple #[.agg dU,.bool false])) cH))))) (
       jl.aZ cj cb cu t3 t4 t6 t7 cS m1 t14 zA zz A8 t49 t50 ca R aS fG)) (aB R))) (
     jl.aZ cj cb cu t3 t4 t6 t7 13830554455654793216 0 t14 zA zz A8 t49 t50 w R aS fG))))) (
  jl.bP cj cb cu t3 t4 t6 t7 t14 w R aS)
def jl.fm:=aqb jl.ι
def jl.b7(cj:J)(cb cu t4:Nat)(w:World)(R:ak):Prop:=
 ∃(hB:ah),hB.size=24/\aw w ⟨t4,0,none⟩ hB.toList/\
 (ο (decide (hB.size=24)) (
  bM w ⟨t4,0,none⟩ hB.toList λeO=>
  (∃(hy:ah),hy.size=24/\aw eO ⟨t4,0,none⟩ hy.toList/\
   (R (.returned (.tuple #[.agg hy,.bool (((cb:Nat):Int)==0)])) eO))))
def jl.ε(cj:J)(cb cu t3 t4:Nat)(t14:Int)(w:World)(R:ak)(aS:J->Nat->Nat->Nat->Nat->Int->ai):Prop:=
 cond (decide (t14<8)) (
  cond (decide (((cb:Nat):Int)<2)) (
   ∃(aQ:ah),aQ.size=24/\aw w ⟨t4,0,none⟩ aQ.toList/\
   (ο (decide (aQ.size=24)) (
     bM w ⟨t4,0,none⟩ aQ.toList λaa=>
     (∃(bK:ah),bK.size=24/\aw aa ⟨t4,0,none⟩ bK.toList/\
      (R (.returned (.tuple #[.agg bK,.bool false])) aa))))) (
   ο (decide (0<((cb:Nat):Int))) (
    ξ cj λd1=>
    ∃ζ,w.drew.cell? d1=some (.int .u8 ζ)/\
    (ο (decide (1<((cb:Nat):Int))) (
      ξ cj λd2=>
      ∃τ,w.drew.cell? (d2.add 1)=some (.int .u8 τ)/\
      (aR w.drew #[(0:Int),(0:Int)] 84 λaH ax=>
       (Value.agg #[(IntKind.i64.wrap ζ),(IntKind.i64.wrap τ)])=(.agg #[(IntKind.i64.wrap ζ),(IntKind.i64.wrap τ)])/\
       (ax.cell? (d2.add 1)=some (.int .u8 τ)/\
        (ax.cell? d1=some (.int .u8 ζ)/\
         (bM ax ⟨aH,0,none⟩ [(.int .i64 (IntKind.i64.wrap ζ)),(.int .i64 (IntKind.i64.wrap τ))] λaG=>
          (ο (decide (2<=((cb:Nat):Int))) (
           ∃ab,aG.cell? ⟨aH,1,none⟩=some (.int .i64 ab)/\
           (cond (decide ((((cb-2):Nat):Int)<(IntKind.i64.wrap (2*ab)))) (
            ∃(b2:ah),b2.size=24/\aw aG ⟨t4,0,none⟩ b2.toList/\
            (ο (decide (b2.size=24)) (
            bM aG ⟨t4,0,none⟩ b2.toList λba=>
            (∃(bY:ah),bY.size=24/\aw ba ⟨t4,0,none⟩ bY.toList/\
            (R (.returned (.tuple #[.agg bY,.bool false])) ba))))) (
            ∃aA,aG.cell? ⟨aH,1,none⟩=some (.int .i64 aA)/\
            (ο (decide (0<=(IntKind.i64.wrap (2*aA)))) (
            ο (decide ((IntKind.i64.wrap (2*aA))<=(((cu-2):Nat):Int))) (
            κ prog 180 #[.slice (dA (dA cj cu 2 1) (cu-2) 0 1) ((IntKind.i64.wrap (2*aA)).toNat) (cu-2),(2:Int)] aG (λv1 bk=>
            b6 v1 λbT=>
            ξ (bT[0]?) λv2=>
            df v2 λad aD c1=>
            ξ (bT[1]?) λv3=>
            bq .i64 v3 λal=>
            jl.fm (dA cj cu 2 1) (cb-2) (cu-2) t3 t4 t14 aH t14 ad aD c1 ((aD:Nat):Int) 0 bk R aS) (aB R))))))))))))))))) (
  jl.b7 cj cb cu t4 w R)
def jl.bd:=pD jl.ε
def jl.main(bD:J)(a6 bx:Nat)(e0 e1:Int)(w:World)(R:ak):Prop:=
 aR w #[e0,e1] 28 λε δ=>
 aR δ #[(0:Int),(0:Int),(0:Int),(0:Int),(0:Int),(0:Int),(0:Int),(0:Int),(0:Int),(0:Int),(0:Int),(0:Int),(0:Int),(0:Int),(0:Int),(0:Int),.slice none 0 0,.slice none 0 0,.slice none 0 0,.slice none 0 0,.slice none 0 0,.slice none 0 0,.slice none 0 0,.slice none 0 0] 89 λι υ=>
 jl.bd bD a6 bx ε ι 0 υ R
abbrev jl.C(bD:J)(a6 bx:Nat)(e0 e1:Int):=Calls prog 149 #[.slice bD a6 bx,.agg #[e0,e1]]
theorem jl.ok:vy jl.main jl.C:=λ{_ _ _ _ _ _ R}h=>fg func149 [.cell 4 89,.tmp 5] 92 (.seq .leaf (.cut [(0,.slice),(4,.c5)] (jl.b7 · · · · · R) (.seq .leaf (.block (.loop [(0,.slice),(3,.c5),(4,.c5),(14,.int .i64)] (jl.bd · · · · · · · R) λaS=>(.seq .leaf (.seq .leaf (.seq (.block (.seq .leaf (.seq .leaf (.seq .leaf (.seq .leaf (.seq .leaf (.seq .leaf (.cut [(0,.slice),(3,.c5),(4,.c5),(6,.int .i64),(7,.c5),(14,.int .i64)] (jl.bP · · · · · · · · · R aS) (.seq .leaf (.block (.loop [(0,.slice),(3,.c5),(4,.c5),(6,.int .i64),(7,.c5),(14,.int .i64),(48,.slice),(49,.int .i64),(50,.int .i64)] (jl.fm · · · · · · · · · · · · · · R aS) λfG=>(.seq .leaf (.seq .leaf (.seq (.block (.seq .leaf (.seq .leaf (.cut [(0,.slice),(3,.c5),(4,.c5),(6,.int .i64),(7,.c5),(12,.p5),(14,.int .i64),(48,.slice),(49,.int .i64),(50,.int .i64)] (jl.aZ · · · · · · · · · · · · · · · · R aS fG) .leaf .leaf)))) .leaf)))))) .leaf)))))))) .leaf)))))) .leaf)) h
def tA.ε(cj:J)(cb cu:Nat)(mg:J)(mf pR:Nat)(t12 t13:Int)(w:World)(R:ak)(aS:J->Nat->Nat->J->Nat->Nat->Int->Int->ai):Prop:=
 cond (decide (t13<t12)) (
  ο (decide (0<=t13)) (
   ο (decide (t13<((cb:Nat):Int))) (
    ξ cj λd1=>
    ∃ζ,w.cell? (d1.add (t13.toNat*1))=some (.int .u8 ζ)/\
    (ο (decide (0<=t13)) (
     ο (decide (t13<((mf:Nat):Int))) (
      ξ mg λd2=>
      ∃τ,w.cell? (d2.add (t13.toNat*1))=some (.int .u8 τ)/\
      (∀aZ:Nat,
       cond (ζ !=τ) (
        R (.returned (.bool false)) (w.drewN aZ)) (
        aS cj cb cu mg mf pR t12 (IntKind.i64.wrap (t13+1)) (w.drewN aZ))))))))) (
  R (.returned (.bool true)) w)
def tA.bd:=K0 tA.ε
def tA.main(bD:J)(a6 bx:Nat)(gv:J)(fc gz:Nat)(w:World)(R:ak):Prop:=
 cond (((a6:Nat):Int)!=((fc:Nat):Int)) (
  R (.returned (.bool false)) w) (
  tA.bd bD a6 bx gv fc gz ((a6:Nat):Int) 0 w R)
abbrev tA.C(bD:J)(a6 bx:Nat)(gv:J)(fc gz:Nat):=Calls prog 151 #[.slice bD a6 bx,.slice gv fc gz]
theorem tA.ok:yq tA.main tA.C:=λ{_ _ _ _ _ _ _ R}h=>fg func151 [.tmp 4] 26 (.seq .leaf (.seq .leaf (.seq (.seq .leaf (.block (.loop [(0,.slice),(1,.slice),(12,.int .i64),(13,.int .i64)] (tA.bd · · · · · · · · · R) λaS=>.leaf))) .leaf))) h
def DZ.main(bD:J)(a6 bx:Nat)(w:World)(R:ak):Prop:=
 aR w #[(0:Int),(0:Int),(0:Int),(0:Int),.complex .f64 0 0] 155 λε δ=>
 cond (((a6:Nat):Int)!=5) (
  bM δ ⟨ε,0,none⟩ [(.int .i64 0),(.int .i64 0),(.int .i64 0),(.int .i64 0),(.complex .f64 0 0)] λυ=>
  (∃(aQ:ah),aQ.size=5/\aw υ ⟨ε,0,none⟩ aQ.toList/\
   (R (.returned (.tuple #[.agg aQ,(6:Int)])) υ))) (
  ο (decide (0<((a6:Nat):Int))) (
   ξ bD λd1=>
   ∃ζ,δ.drew.cell? d1=some (.int .u8 ζ)/\
   (ο (decide (1<((a6:Nat):Int))) (
    ξ bD λd2=>
    ∃τ,δ.drew.cell? (d2.add 1)=some (.int .u8 τ)/\
    (ο (decide (1<((a6:Nat):Int))) (
     ξ bD λd3=>
     ∃ab,δ.drew.cell? (d3.add 1)=some (.int .u8 ab)/\
     (ο (decide (2<((a6:Nat):Int))) (
      ξ bD λd4=>
      ∃aA,δ.drew.cell? (d4.add 2)=some (.int .u8 aA)/\
      (ο (decide (3<((a6:Nat):Int))) (
       ξ bD λd5=>
       ∃al,δ.drew.cell? (d5.add 3)=some (.int .u8 al)/\
       (ο (decide (4<((a6:Nat):Int))) (
        ξ bD λd6=>
        ∃aJ,δ.drew.cell? (d6.add 4)=some (.int .u8 aJ)/\
        (aR δ.drew #[(0:Int),(0:Int),(0:Int),(0:Int),.complex .f64 0 0] 155 λι aa=>
        (Value.agg #[(IntKind.i64.wrap ζ),(IntKind.i64.wrap (Int.fdiv τ (2^(min 4 IntKind.u8.bits)))),(IntKind.i64.wrap (IntKind.u8.wrap (BitVec.ofInt IntKind.u8.bits ab&&&BitVec.ofInt IntKind.u8.bits 15).toNat)),(IntKind.i64.wrap aA),.complex .f64 (FloatKind.f64.nearest al) (FloatKind.f64.nearest aJ)])=(.agg #[(IntKind.i64.wrap ζ),(IntKind.i64.wrap (Int.fdiv τ (2^(min 4 IntKind.u8.bits)))),(IntKind.i64.wrap (IntKind.u8.wrap (BitVec.ofInt IntKind.u8.bits ab&&&BitVec.ofInt IntKind.u8.bits 15).toNat)),(IntKind.i64.wrap aA),.complex .f64 (FloatKind.f64.nearest al) (FloatKind.f64.nearest aJ)])/\
        (aa.cell? (d6.add 4)=some (.int .u8 aJ)/\
        (aa.cell? (d5.add 3)=some (.int .u8 al)/\
        (aa.cell? (d4.add 2)=some (.int .u8 aA)/\
        (aa.cell? (d3.add 1)=some (.int .u8 ab)/\
        (aa.cell? (d2.add 1)=some (.int .u8 τ)/\
        (aa.cell? d1=some (.int .u8 ζ)/\
        (bM aa ⟨ι,0,none⟩ [(.int .i64 (IntKind.i64.wrap ζ)),(.int .i64 (IntKind.i64.wrap (Int.fdiv τ (2^(min 4 IntKind.u8.bits))))),(.int .i64 (IntKind.i64.wrap (IntKind.u8.wrap (BitVec.ofInt IntKind.u8.bits ab&&&BitVec.ofInt IntKind.u8.bits 15).toNat))),(.int .i64 (IntKind.i64.wrap aA)),(.complex .f64 (FloatKind.f64.nearest al) (FloatKind.f64.nearest aJ))] λax=>
        (∃(bK:ah),bK.size=5/\aw ax ⟨ι,0,none⟩ bK.toList/\
        (κ prog 155 #[.agg bK] ax (λv1 aG=>
        bq .i64 v1 λaV=>
        cond (aV !=0) (
        bM aG ⟨ε,0,none⟩ [(.int .i64 0),(.int .i64 0),(.int .i64 0),(.int .i64 0),(.complex .f64 0 0)] λbk=>
        (∃(b2:ah),b2.size=5/\aw bk ⟨ε,0,none⟩ b2.toList/\
        (R (.returned (.tuple #[.agg b2,(2:Int)])) bk))) (
        ∃(bY:ah),bY.size=5/\aw aG ⟨ι,0,none⟩ bY.toList/\
        (ο (decide (bY.size=5)) (
        bM aG ⟨ε,0,none⟩ bY.toList λb9=>
        (∃(cN:ah),cN.size=5/\aw b9 ⟨ε,0,none⟩ cN.toList/\
        (R (.returned (.tuple #[.agg cN,(0:Int)])) b9)))))) (aB R)))))))))))))))))))))))
abbrev DZ.C(bD:J)(a6 bx:Nat):=Calls prog 152 #[.slice bD a6 bx]
theorem DZ.ok:iL DZ.main DZ.C:=λh=>dt func152 [.cell 2 155,.tmp 3] 42 h
def pP.aZ(jo:J)(ia je:Nat)(w:World)(R:ak):Prop:=
 κ prog 173 #[.slice jo ia je] w (λfS cH=>
  b6 fS λhQ=>
  ξ (hQ[0]?) λbg=>
  df bg λfD dz h2=>
  ξ (hQ[1]?) λv9=>
  bq .i64 v9 λab=>
  R (.returned (.tuple #[.slice fD dz h2,ab])) cH) (aB R)
def pP.ε(jo:J)(ia je:Nat)(zu:J)(zt CM:Nat)(t29 t30:Int)(w:World)(R:ak)(aS:J->Nat->Nat->J->Nat->Nat->Int->Int->ai):Prop:=
 cond (decide (t30<t29)) (
  ο (decide (0<=t30)) (
   ο (decide (t30<((zt:Nat):Int))) (
    ξ zu λd1=>
    ∃(aQ:ah),aQ.size=5/\aw w (d1.add (t30.toNat*5)) aQ.toList/\
    (aR w #[(0:Int),(0:Int),(0:Int),(0:Int),.complex .f64 0 0] 155 λaH ba=>
     ο (decide (aQ.size=5)) (
      bM ba ⟨aH,0,none⟩ aQ.toList λbk=>
      (∃(bK:ah),bK.size=5/\aw bk ⟨aH,0,none⟩ bK.toList/\
       (κ prog 181 #[.agg bK] bk (λv4 b9=>
        b6 v4 λeV=>
        ξ (eV[0]?) λv5=>
        df v5 λbl br bJ=>
        ξ (eV[1]?) λv6=>
        bq .i64 v6 λτ=>
        cond (τ !=0) (
         R (.returned (.tuple #[.slice none 0 0,τ])) b9) (
         gD b9 jo ia je br (a8 b9 bl) 5 1 1 #[.int .u8 0] λej fU dk=>
         aS ej (ia+br) fU zu zt CM t29 (IntKind.i64.wrap (t30+1)) dk)) (aB R)))))))) (
  pP.aZ jo ia je w R)
def pP.bd:=K0 pP.ε
def pP.main(a0 aq:Int)(jg:J)(eD j5:Nat)(w:World)(R:ak):Prop:=
 aR w #[a0] 3 λε δ=>
 κ prog 174 #[(4:Int),.slice (some ⟨ε,0,none⟩) 1 1] δ (λv1 υ=>
  b6 v1 λbT=>
  ξ (bT[0]?) λv2=>
  df v2 λad aD c1=>
  ξ (bT[1]?) λv3=>
  bq .i64 v3 λζ=>
  aR υ #[.int .u8 (IntKind.u8.wrap aq),.int .u8 (IntKind.u8.wrap ((eD:Nat):Int))] 5 λι ax=>
  gD ax ad aD c1 2 (a8 ax (some ⟨ι,0,none⟩)) 5 1 1 #[.int .u8 0] λaX c2 aG=>
  pP.bd aX (aD+2) c2 jg eD j5 ((eD:Nat):Int) 0 aG R) (aB R)
abbrev pP.C(a0 aq:Int)(jg:J)(eD j5:Nat):=Calls prog 153 #[a0,aq,.slice jg eD j5]
theorem pP.ok:vy pP.main pP.C:=λ{_ _ _ _ _ _ R}h=>fg func153 [.tmp 6,.tmp 7] 50 (.seq .leaf (.seq .leaf (.seq .leaf (.cut [(8,.slice)] (pP.aZ · · · · R) (.seq .leaf (.block (.loop [(8,.slice),(28,.slice),(29,.int .i64),(30,.int .i64)] (pP.bd · · · · · · · · · R) λaS=>.leaf))) .leaf)))) h
def DE.main(bD:J)(a6 bx:Nat)(gv:J)(fc gz:Nat)(w:World)(R:ak):Prop:=
 ∃(kh:ao),kh.length=a6/\a8 w bD (kh.map (.int .u8))/\
 (∃(uS:ao),uS.length=fc/\a8 w gv (uS.map (.int .u8))/\
  (R (.returned (.bool ((strOf kh).toList==(strOf uS).toList))) w))
abbrev DE.C(bD:J)(a6 bx:Nat)(gv:J)(fc gz:Nat):=Calls prog 154 #[.slice bD a6 bx,.slice gv fc gz]
theorem DE.ok:yq DE.main DE.C:=λh=>dt func154 [.tmp 4] 10 h
def DY.main(fl gn oE oF:Int)(xf xe:Nat)(w:World)(R:ak):Prop:=
 aR w #[fl,gn,oE,oF,.complex .f64 xf xe] 155 λε δ=>
 ∃ζ,δ.cell? ⟨ε,0,none⟩=some (.int .i64 ζ)/\
 (κ prog 112 #[ζ,(1:Int),(6:Int)] δ (λv1 υ=>
  dD v1 λι=>
  cond (!ι) (
   R (.returned (.int .i64 1)) υ) (
   ∃(aQ:ah),aQ.size=5/\aw υ ⟨ε,0,none⟩ aQ.toList/\
   (κ prog 182 #[.agg aQ] υ (λv2 ax=>
    b6 v2 λbT=>
    ξ (bT[0]?) λv3=>
    dZ v3 λbK=>
    ξ (bT[1]?) λv4=>
    dD v4 λaH=>
    aR ax #[(0:Int),(0:Int),(0:Int),(0:Int),.complex .f64 0 0] 155 λaf ba=>
    ο (decide (bK.size=5)) (
     bM ba ⟨af,0,none⟩ bK.toList λbk=>
     (cond (!aH) (
      R (.returned (.int .i64 5)) bk) (
      ∃τ,bk.cell? ⟨af,2,none⟩=some (.int .i64 τ)/\
      (cond (τ !=0) (
       R (.returned (.int .i64 2)) bk) (
       ∃ab,bk.cell? ⟨af,3,none⟩=some (.int .i64 ab)/\
       (cond (ab !=0) (
        R (.returned (.int .i64 2)) bk) (
        ∃cS m1,bk.cell? ⟨af,4,none⟩=some (.complex .f64 cS m1)/\
        (cond (!(ey .eql cS 0&&ey .eql m1 0)) (
        R (.returned (.int .i64 2)) bk) (
        R (.returned (.int .i64 0)) bk)))))))))) (aB R)))) (aB R))
abbrev DY.C(fl gn oE oF:Int)(xf xe:Nat):=Calls prog 155 #[.agg #[fl,gn,oE,oF,.complex .f64 xf xe]]
theorem DY.ok:yq DY.main DY.C:=λh=>dt func155 [.tmp 2] 31 h
def uc.main(a0:Nat)(aq:Int)(w:World)(R:ak):Prop:=
 cond (ey .geq a0 0) (
  cond (ey .lss a0 (FloatKind.f64.nearest aq)) (
   ξ ((FloatKind.f64.decode a0).toInt .zero) λζ=>
   ο (decide (IntKind.i64.min<=ζ)) (
    ο (decide (ζ<=IntKind.i64.max)) (
     R (.returned (.bool (ey .eql (FloatKind.f64.nearest ζ) a0))) w))) (
   R (.returned (.bool false)) w)) (
  R (.returned (.bool false)) w)
abbrev uc.C(a0:Nat)(aq:Int):=Calls prog 157 #[.float .f64 a0,aq]
theorem uc.ok:jT uc.main uc.C:=λh=>dt func157 [.tmp 4] 20 h
def GC.main(a0:J)(aq:Int)(w:World)(R:ak):Prop:=
 ξ a0 λd1=>
 ∃ad aD c1,w.cell? (d1.add 1)=some (.slice ad aD c1)/\
 (ο (decide (0<=(IntKind.i64.wrap (Int.tdiv aq 8)))) (
  ο (decide ((IntKind.i64.wrap (Int.tdiv aq 8))<((aD:Nat):Int))) (
   ξ ad λd2=>
   ∃aX,w.cell? (d2.add ((IntKind.i64.wrap (Int.tdiv aq 8)).toNat*1))=some (.pointer aX)/\
   (cond (!(Option.isNone aX)) (
    ξ aX λd3=>
    ο (decide (0<=(Int.tmod aq 8))) (
     ο (decide ((Int.tmod aq 8)<(8:Int))) (
      ∃cS m1,w.cell? (d3.add ((Int.tmod aq 8).toNat*1))=some (.complex .f64 cS m1)/\
      (R (.returned (.complex .f64 cS m1)) w)))) (
    R (.returned (.complex .f64 13830554455654793216 0)) w)))))
abbrev GC.C(a0:J)(aq:Int):=Calls prog 158 #[.pointer a0,aq]
theorem GC.ok:jT GC.main GC.C:=λh=>dt func158 [.tmp 4] 22 h
def GF.main(bD:J)(a6 bx:Nat)(w:World)(R:ak):Prop:=
 cond (Option.isNone bD) (
  R (.returned (.slice none 0 0)) w) (
  aR w #[] 250 λε δ=>
  gD δ (some ⟨ε,0,none⟩) 0 0 a6 (a8 δ bD) 250 1 8 #[.pointer none] λad c1 υ=>
  R (.returned (.slice ad (0+a6) c1)) υ)
abbrev GF.C(bD:J)(a6 bx:Nat):=Calls prog 159 #[.slice bD a6 bx]
theorem GF.ok:iL GF.main GF.C:=λh=>dt func159 [.tmp 2] 8 h
def IX.main(jv jJ:Nat)(w:World)(R:ak):Prop:=
 R (.returned (.bool (!(ey .eql jv 13830554455654793216&&ey .eql jJ 0)))) w
abbrev IX.C(jv jJ:Nat):=Calls prog 160 #[.complex .f64 jv jJ]
theorem IX.ok:jT IX.main IX.C:=λh=>dt func160 [.tmp 2] 5 h
def IC.main(fl gn:Int)(w:World)(R:ak):Prop:=
 aR w #[fl,gn] 84 λε δ=>
 ∃ζ,δ.cell? ⟨ε,0,none⟩=some (.int .i64 ζ)/\
 (R (.returned (.bool (ζ==0))) δ)
abbrev IC.C(fl gn:Int):=Calls prog 162 #[.agg #[fl,gn]]
theorem IC.ok:jT IC.main IC.C:=λh=>dt func162 [.tmp 2] 6 h
def GA.main(a0:J)(aq:Int)(w:World)(R:ak):Prop:=
 κ prog 116 #[.pointer a0,aq] w (λv1 δ=>
  bq .i64 v1 λζ=>
  cond (ζ !=0) (
   R (.returned (.tuple #[.complex .f64 0 0,.bool false,ζ])) δ) (
   κ prog 158 #[.pointer a0,aq] δ (λv2 aa=>
    lG v2 λcS m1=>
    cond (!(ey .eql cS 13830554455654793216&&ey .eql m1 0)) (
     R (.returned (.tuple #[.complex .f64 cS m1,.bool true,(0:Int)])) aa) (
     R (.returned (.tuple #[.complex .f64 0 0,.bool false,(0:Int)])) aa)) (aB R))) (aB R)
abbrev GA.C(a0:J)(aq:Int):=Calls prog 163 #[.pointer a0,aq]
theorem GA.ok:jT GA.main GA.C:=λh=>dt func163 [.tmp 4,.tmp 5,.tmp 6] 21 h
def Dl.main(bD:J)(a6 bx:Nat)(aq:Int)(w:World)(R:ak):Prop:=
 aR w #[.slice bD a6 bx] 70 λε δ=>
 aR δ #[aq] 3 λι υ=>
 ∃ζ,υ.cell? ⟨ι,0,none⟩=some (.int .i64 ζ)/\
 (cond (decide (ζ<1)) (
  R (.panicked [{v:=(.iface 9 (.string (⟨#[99,97,110,110,111,116,32,98,101,32,108,101,115,115,32,116,104,97,110,32,49]⟩:ByteArray))),recovered:=false}]) υ) (
  R (.returned (.func (.func 184) #[] #[.pointer (some ⟨ε,0,none⟩),.pointer (some ⟨ι,0,none⟩)])) υ))
abbrev Dl.C(bD:J)(a6 bx:Nat)(aq:Int):=Calls prog 164 #[.slice bD a6 bx,aq]
theorem Dl.ok:k6 Dl.main Dl.C:=λh=>dt func164 [.tmp 4] 9 h
def zE.main(a0:J)(w:World)(R:ak):Prop:=
 cond (Option.isNone a0) (
  R (.returned (.int .i64 0)) w) (
  ξ a0 λd1=>
  ∃ζ,w.cell? d1=some (.int .i64 ζ)/\
  (R (.returned (.int .i64 ζ)) w))
abbrev zE.C(a0:J):=Calls prog 165 #[.pointer a0]
theorem zE.ok:ic zE.main zE.C:=λh=>dt func165 [.tmp 2] 9 h
def Dp.main(jv jJ rz ry:Nat)(w:World)(R:ak):Prop:=
 κ prog 188 #[.float .f64 jv,.float .f64 rz] w (λv1 δ=>
  bq .i64 v1 λζ=>
  κ prog 188 #[.float .f64 jJ,.float .f64 ry] δ (λv2 aa=>
   bq .i64 v2 λτ=>
   aR aa #[ζ,τ] 3 λε aG=>
   κ prog 187 #[.slice (some ⟨ε,0,none⟩) 2 2] aG (λv3 ba=>
    bq .i64 v3 λab=>
    R (.returned (.int .i64 ab)) ba) (aB R)) (aB R)) (aB R)
abbrev Dp.C(jv jJ rz ry:Nat):=Calls prog 167 #[.complex .f64 jv jJ,.complex .f64 rz ry]
theorem Dp.ok:k6 Dp.main Dp.C:=λh=>dt func167 [.tmp 4] 17 h
def F5.main(bD:J)(a6 bx:Nat)(w:World)(R:ak):Prop:=
 ο (decide (0<=((a6:Nat):Int))) (
  ο (decide (((a6:Nat):Int)<=((bx:Nat):Int))) (
   ο (decide (0<=((a6:Nat):Int))) (
    ο (decide (((a6:Nat):Int)<=((a6:Nat):Int))) (
     R (.returned (.slice (dA bD a6 0 1) a6 a6)) w))))
abbrev F5.C(bD:J)(a6 bx:Nat):=Calls prog 168 #[.slice bD a6 bx]
theorem F5.ok:iL F5.main F5.C:=λh=>dt func168 [.tmp 2] 9 h
def nj.aZ(cj:J)(cb cu:Nat)(t3:Int)(w:World)(R:ak)(aS:J->Nat->Nat->Int->ai):Prop:=
 ο (decide (0<=t3)) (
  ο (decide (t3<=((cb:Nat):Int))) (
   Sc w (dA cj cu t3.toNat 1) (cb-t3.toNat) #[.complex .f64 0 0] λυ=>
   ο (decide (0<=t3)) (
    ο (decide (t3<=((cu:Nat):Int))) (
     R (.returned (.slice (dA cj cu 0 1) t3.toNat cu)) υ))))
def nj.ι(cj:J)(cb cu:Nat)(t3:Int)(qB:J)(pS ve:Nat)(t5:Int)(w:World)(R:ak)(aS:J->Nat->Nat->Int->ai)(fG:J->Nat->Nat->Int->J->Nat->Nat->Int->ai):Prop:=
 cond (decide (t5<((pS:Nat):Int))) (
  ο (decide (0<=t5)) (
   ο (decide (t5<((pS:Nat):Int))) (
    ξ qB λd3=>
    ∃jC m3,w.cell? (d3.add (t5.toNat*1))=some (.complex .f64 jC m3)/\
    (ο (decide (0<=(IntKind.i64.wrap (t5-1)))) (
     ο (decide ((IntKind.i64.wrap (t5-1))<((pS:Nat):Int))) (
      ξ qB λd4=>
      ∃qu m4,w.cell? (d4.add ((IntKind.i64.wrap (t5-1)).toNat*1))=some (.complex .f64 qu m4)/\
      (∀bP:Nat,
       cond (!(ey .eql jC qu&&ey .eql m3 m4)) (
        ο (decide (0<=t5)) (
         ο (decide (t5<((pS:Nat):Int))) (
          ξ qB λd5=>
          ∃CH m5,(w.drewN bP).cell? (d5.add (t5.toNat*1))=some (.complex .f64 CH m5)/\
          (ο (decide (0<=t3)) (
           ο (decide (t3<((cb:Nat):Int))) (
           ξ cj λd6=>
           ((w.drewN bP).cell? (d6.add (t3.toNat*1))).isSome=true/\(w.drewN bP).frozen? (d6.add (t3.toNat*1))=false/\∀δ,δ=(w.drewN bP).setCell (d6.add (t3.toNat*1)) (.complex .f64 CH m5)->
           (fG cj cb cu (IntKind.i64.wrap (t3+1)) qB pS ve (IntKind.i64.wrap (t5+1)) δ))))))) (
        fG cj cb cu t3 qB pS ve (IntKind.i64.wrap (t5+1)) (w.drewN bP))))))))) (
  nj.aZ cj cb cu t3 w R aS)
def nj.fm:=aqe nj.ι
def nj.ε(cj:J)(cb cu:Nat)(t3:Int)(w:World)(R:ak)(aS:J->Nat->Nat->Int->ai):Prop:=
 cond (decide (t3<((cb:Nat):Int))) (
  ο (decide (0<=t3)) (
   ο (decide (t3<((cb:Nat):Int))) (
    ξ cj λd1=>
    ∃cS m1,w.cell? (d1.add (t3.toNat*1))=some (.complex .f64 cS m1)/\
    (ο (decide (0<=(IntKind.i64.wrap (t3-1)))) (
     ο (decide ((IntKind.i64.wrap (t3-1))<((cb:Nat):Int))) (
      ξ cj λd2=>
      ∃fX m2,w.cell? (d2.add ((IntKind.i64.wrap (t3-1)).toNat*1))=some (.complex .f64 fX m2)/\
      (∀aZ:Nat,
       cond (ey .eql cS fX&&ey .eql m1 m2) (
        ο (decide (0<=t3)) (
         ο (decide (t3<=((cb:Nat):Int))) (
          nj.fm cj cb cu t3 (dA cj cu t3.toNat 1) (cb-t3.toNat) (cu-t3.toNat) 1 (w.drewN aZ) R aS))) (
        aS cj cb cu (IntKind.i64.wrap (t3+1)) (w.drewN aZ))))))))) (
  R (.returned (.slice cj cb cu)) w)
def nj.bd:=OY nj.ε
def nj.main(bD:J)(a6 bx:Nat)(w:World)(R:ak):Prop:=
 cond (decide (((a6:Nat):Int)<2)) (
  R (.returned (.slice bD a6 bx)) w) (
  nj.bd bD a6 bx 1 w R)
abbrev nj.C(bD:J)(a6 bx:Nat):=Calls prog 169 #[.slice bD a6 bx]
theorem nj.ok:iL nj.main nj.C:=λ{_ _ _ _ R}h=>fg func169 [.tmp 2] 61 (.seq .leaf (.seq .leaf (.seq (.seq .leaf (.block (.loop [(0,.slice),(3,.int .i64)] (nj.bd · · · · · R) λaS=>(.seq .leaf (.seq (.block (.seq .leaf (.cond (.seq .leaf (.cut [(0,.slice),(3,.int .i64)] (nj.aZ · · · · · R aS) (.seq .leaf (.block (.loop [(0,.slice),(3,.int .i64),(4,.slice),(5,.int .i64)] (nj.fm · · · · · · · · · R aS) λfG=>.leaf))) .leaf)) .leaf))) .leaf))))) .leaf))) h
def DO.main(a0 aq:Int)(w:World)(R:ak):Prop:=
 κ prog 176 #[a0] w (λv1 δ=>
  dD v1 λε=>
  κ prog 176 #[aq] δ (λv2 aa=>
   dD v2 λι=>
   cond ε (
    cond ι (
     R (.returned (.int .i64 0)) aa) (
     R (.returned (.int .i64 (-1))) aa)) (
    cond ι (
     R (.returned (.int .i64 1)) aa) (
     cond (decide (a0<aq)) (
      R (.returned (.int .i64 (-1))) aa) (
      cond (decide (a0>aq)) (
       R (.returned (.int .i64 1)) aa) (
       R (.returned (.int .i64 0)) aa))))) (aB R)) (aB R)
abbrev DO.C(a0 aq:Int):=Calls prog 171 #[a0,aq]
theorem DO.ok:jT DO.main DO.C:=λh=>dt func171 [.tmp 4] 20 h
def FY.main(bD:J)(a6 bx:Nat)(w:World)(R:ak):Prop:=
 cond (decide (((a6:Nat):Int)>60)) (
  R (.returned (.tuple #[.slice none 0 0,(6:Int)])) w) (
  aR w (madeCells #[.int .u8 0] (64*1)) 5 λε δ=>
  vL δ (some ⟨ε,0,none⟩) 60 bD a6 1 λυ=>
  κ prog 140 #[.slice (some ⟨ε,0,none⟩) 60 64] υ (λv1 aa=>
   bq .u32 v1 λζ=>
   aR aa #[.int .u8 (IntKind.u8.wrap (Int.fdiv ζ (2^(min 24 IntKind.u32.bits)))),.int .u8 (IntKind.u8.wrap (Int.fdiv ζ (2^(min 16 IntKind.u32.bits)))),.int .u8 (IntKind.u8.wrap (Int.fdiv ζ (2^(min 8 IntKind.u32.bits)))),.int .u8 (IntKind.u8.wrap ζ)] 5 λι aG=>
   gD aG (some ⟨ε,0,none⟩) 60 64 4 (a8 aG (some ⟨ι,0,none⟩)) 5 1 1 #[.int .u8 0] λad c1 ba=>
   R (.returned (.tuple #[.slice ad (60+4) c1,(0:Int)])) ba) (aB R))
abbrev FY.C(bD:J)(a6 bx:Nat):=Calls prog 173 #[.slice bD a6 bx]
theorem FY.ok:iL FY.main FY.C:=λh=>dt func173 [.tmp 2,.tmp 3] 29 h
def sJ.ε(t0:Int)(qB:J)(pS ve:Nat)(gi:J)(fQ gx:Nat)(t12 t13:Int)(w:World)(R:ak)(aS:Int->J->Nat->Nat->J->Nat->Nat->Int->Int->ai):Prop:=
 cond (decide (t13<t12)) (
  ο (decide (0<=t13)) (
   ο (decide (t13<((fQ:Nat):Int))) (
    ξ gi λd1=>
    ∃ζ,w.cell? (d1.add (t13.toNat*1))=some (.int .i64 ζ)/\
    (κ prog 190 #[.slice qB pS ve,t0,ζ] w (λv2 aa=>
     b6 v2 λbT=>
     ξ (bT[0]?) λv3=>
     df v3 λad aD c1=>
     ξ (bT[1]?) λv4=>
     bq .i64 v4 λτ=>
     cond (τ !=0) (
      R (.returned (.tuple #[.slice none 0 0,τ])) aa) (
      aS t0 ad aD c1 gi fQ gx t12 (IntKind.i64.wrap (t13+1)) aa)) (aB R))))) (
  R (.returned (.tuple #[.slice qB pS ve,(0:Int)])) w)
def sJ.bd:=K1 sJ.ε
def sJ.main(a0:Int)(gv:J)(fc gz:Nat)(w:World)(R:ak):Prop:=
 κ prog 189 #[a0] w (λv1 δ=>
  dD v1 λε=>
  cond (!ε) (
   R (.returned (.tuple #[.slice none 0 0,(1:Int)])) δ) (
   sJ.bd a0 none 0 0 gv fc gz ((fc:Nat):Int) 0 δ R)) (aB R)
abbrev sJ.C(a0:Int)(gv:J)(fc gz:Nat):=Calls prog 174 #[a0,.slice gv fc gz]
theorem sJ.ok:k6 sJ.main sJ.C:=λ{_ _ _ _ _ R}h=>fg func174 [.tmp 4,.tmp 5] 29 (.seq .leaf (.seq .leaf (.seq (.seq .leaf (.block (.loop [(0,.int .i64),(4,.slice),(11,.slice),(12,.int .i64),(13,.int .i64)] (sJ.bd · · · · · · · · · · R) λaS=>.leaf))) .leaf))) h
def tt.ε(t5:Int)(fh:J)(fa fq:Nat)(t11 t12:Int)(w:World)(R:ak)(aS:Int->J->Nat->Nat->Int->Int->ai):Prop:=
 cond (decide (t12<t11)) (
  ο (decide (0<=t12)) (
   ο (decide (t12<((fa:Nat):Int))) (
    ξ fh λd1=>
    ∃ζ,w.cell? (d1.add (t12.toNat*1))=some (.int .u8 ζ)/\
    (κ prog 191 #[.int .u32 (IntKind.u32.wrap (BitVec.ofInt IntKind.u32.bits t5^^^BitVec.ofInt IntKind.u32.bits (IntKind.u32.wrap ((IntKind.u32.wrap ζ)*2^(min 24 IntKind.u32.bits)))).toNat)] w (λv1 δ=>
     bq .u32 v1 λτ=>
     aS τ fh fa fq t11 (IntKind.i64.wrap (t12+1)) δ) (aB R))))) (
  R (.returned (.int .u32 (IntKind.u32.wrap (BitVec.ofInt IntKind.u32.bits (if IntKind.u32.signed then-1 else IntKind.u32.max)^^^BitVec.ofInt IntKind.u32.bits t5).toNat))) w)
def tt.bd:=pD tt.ε
def tt.main(a0:Int)(gv:J)(fc gz:Nat)(w:World)(R:ak):Prop:=
 tt.bd (IntKind.u32.wrap (BitVec.ofInt IntKind.u32.bits (if IntKind.u32.signed then-1 else IntKind.u32.max)^^^BitVec.ofInt IntKind.u32.bits a0).toNat) gv fc gz ((fc:Nat):Int) 0 w R
abbrev tt.C(a0:Int)(gv:J)(fc gz:Nat):=Calls prog 175 #[.int .u32 a0,.slice gv fc gz]
theorem tt.ok:k6 tt.main tt.C:=λ{_ _ _ _ _ R}h=>fg func175 [.tmp 4] 25 (.seq .leaf (.seq .leaf (.seq (.seq .leaf (.block (.loop [(5,.int .u32),(10,.slice),(11,.int .i64),(12,.int .i64)] (tt.bd · · · · · · · R) λaS=>.leaf))) .leaf))) h
def cmp_isNaN_int.main(a0:Int)(w:World)(R:ak):Prop:=
 R (.returned (.bool (a0 !=a0))) w
abbrev cmp_isNaN_int.C(a0:Int):=Calls prog 176 #[a0]
theorem cmp_isNaN_int.ok:ic cmp_isNaN_int.main cmp_isNaN_int.C:=λh=>dt func176 [.tmp 2] 6 h
def E1.main(a0 aq:Int)(dN:Nat)(w:World)(R:ak):Prop:=
 ∃ad aD c1,w.cell? ⟨dN,0,none⟩=some (.slice ad aD c1)/\
 (κ prog 179 #[.slice ad aD c1,a0,aq] w (λv1 δ=>
  b6 v1 λbT=>
  ξ (bT[0]?) λv2=>
  bq .i64 v2 λζ=>
  ξ (bT[1]?) λv3=>
  bq .i64 v3 λτ=>
  R (.returned (.int .i64 ζ)) δ) (aB R))
abbrev E1.C(a0 aq:Int)(dN:Nat):=Calls prog 178 #[a0,aq,.pointer (some ⟨dN,0,none⟩)]
theorem E1.ok:iL E1.main E1.C:=λh=>dt func178 [.tmp 5] 16 h
def DH.main(bD:J)(a6 bx:Nat)(aq a2:Int)(w:World)(R:ak):Prop:=
 κ prog 189 #[a2] w (λv1 δ=>
  dD v1 λε=>
  cond (!ε) (
   R (.returned (.tuple #[(0:Int),(1:Int)])) δ) (
   cond (decide (aq<0)) (
    R (.returned (.tuple #[(0:Int),(3:Int)])) δ) (
    cond (decide (aq>(IntKind.i64.wrap (((a6:Nat):Int)-a2)))) (
     R (.returned (.tuple #[(0:Int),(3:Int)])) δ) (
     ο (decide (0<=(IntKind.i64.wrap (aq+a2)))) (
      ο (decide ((IntKind.i64.wrap (aq+a2))<=((bx:Nat):Int))) (
       ο (decide (0<=aq)) (
        ο (decide (aq<=(((IntKind.i64.wrap (aq+a2)).toNat:Nat):Int))) (
         κ prog 193 #[.slice (dA bD bx aq.toNat 1) ((IntKind.i64.wrap (aq+a2)).toNat-aq.toNat) (bx-aq.toNat)] δ (λv2 aa=>
          bq .i64 v2 λζ=>
          R (.returned (.tuple #[ζ,(0:Int)])) aa) (aB R))))))))) (aB R)
abbrev DH.C(bD:J)(a6 bx:Nat)(aq a2:Int):=Calls prog 179 #[.slice bD a6 bx,aq,a2]
theorem DH.ok:vy DH.main DH.C:=λh=>dt func179 [.tmp 6,.tmp 7] 30 h
def sK.ε(cj:J)(cb cu:Nat)(t1:Int)(kM:J)(ka lS:Nat)(w:World)(R:ak)(aS:J->Nat->Nat->Int->J->Nat->Nat->ai):Prop:=
 cond (decide (((cb:Nat):Int)>0)) (
  ο (decide (0<=t1)) (
   ο (decide (t1<=((cu:Nat):Int))) (
    κ prog 193 #[.slice (dA cj cu 0 1) t1.toNat cu] w (λv2 aa=>
     bq .i64 v2 λζ=>
     aR aa #[ζ] 3 λι aG=>
     gD aG kM ka lS 1 (a8 aG (some ⟨ι,0,none⟩)) 3 1 8 #[(0:Int)] λad c1 ba=>
     ο (decide (0<=t1)) (
      ο (decide (t1<=((cb:Nat):Int))) (
       aS (dA cj cu t1.toNat 1) (cb-t1.toNat) (cu-t1.toNat) t1 ad (ka+1) c1 ba))) (aB R)))) (
  R (.returned (.tuple #[.slice kM ka lS,(0:Int)])) w)
def sK.bd:=KZ sK.ε
def sK.main(bD:J)(a6 bx:Nat)(aq:Int)(w:World)(R:ak):Prop:=
 κ prog 189 #[aq] w (λv1 δ=>
  dD v1 λε=>
  cond (!ε) (
   R (.returned (.tuple #[.slice none 0 0,(1:Int)])) δ) (
   ο (decide (aq≠0)) (
    cond ((Int.tmod ((a6:Nat):Int) aq)!=0) (
     R (.returned (.tuple #[.slice none 0 0,(6:Int)])) δ) (
     sK.bd bD a6 bx aq none 0 0 δ R)))) (aB R)
abbrev sK.C(bD:J)(a6 bx:Nat)(aq:Int):=Calls prog 180 #[.slice bD a6 bx,aq]
theorem sK.ok:k6 sK.main sK.C:=λ{_ _ _ _ _ R}h=>fg func180 [.tmp 4,.tmp 5] 31 (.seq .leaf (.seq .leaf (.seq .leaf (.seq (.block (.loop [(0,.slice),(1,.int .i64),(6,.slice)] (sK.bd · · · · · · · · R) λaS=>.leaf)) .leaf)))) h
def D0.main(fl gn oE oF:Int)(xf xe:Nat)(w:World)(R:ak):Prop:=
 aR w #[fl,gn,oE,oF,.complex .f64 xf xe] 155 λε δ=>
 ∃(aQ:ah),aQ.size=5/\aw δ ⟨ε,0,none⟩ aQ.toList/\
 (κ prog 155 #[.agg aQ] δ (λv1 υ=>
  bq .i64 v1 λζ=>
  cond (ζ !=0) (
   R (.returned (.tuple #[.slice none 0 0,ζ])) υ) (
   ∃τ,υ.cell? ⟨ε,0,none⟩=some (.int .i64 τ)/\
   (∃ab,υ.cell? ⟨ε,1,none⟩=some (.int .i64 ab)/\
    (∃aA,υ.cell? ⟨ε,2,none⟩=some (.int .i64 aA)/\
     (∃al,υ.cell? ⟨ε,3,none⟩=some (.int .i64 al)/\
      (∃cS m1,υ.cell? ⟨ε,4,none⟩=some (.complex .f64 cS m1)/\
       (ξ ((FloatKind.f64.decode cS).toInt .zero) λaJ=>
        ο (decide (IntKind.u8.min<=aJ)) (
         ο (decide (aJ<=IntKind.u8.max)) (
          ∃fX m2,υ.cell? ⟨ε,4,none⟩=some (.complex .f64 fX m2)/\
          (ξ ((FloatKind.f64.decode m2).toInt .zero) λaV=>
           ο (decide (IntKind.u8.min<=aV)) (
            ο (decide (aV<=IntKind.u8.max)) (
            aR υ #[.int .u8 (IntKind.u8.wrap τ),.int .u8 (IntKind.u8.wrap (IntKind.i64.wrap (BitVec.ofInt IntKind.i64.bits (IntKind.i64.wrap (ab*2^(min 4 IntKind.i64.bits)))|||BitVec.ofInt IntKind.i64.bits aA).toNat)),.int .u8 (IntKind.u8.wrap al),.int .u8 aJ,.int .u8 aV] 5 λι ax=>
            R (.returned (.tuple #[.slice (some ⟨ι,0,none⟩) 5 5,(0:Int)])) ax)))))))))))) (aB R))
abbrev D0.C(fl gn oE oF:Int)(xf xe:Nat):=Calls prog 181 #[.agg #[fl,gn,oE,oF,.complex .f64 xf xe]]
theorem D0.ok:yq D0.main D0.C:=λh=>dt func181 [.tmp 2,.tmp 3] 32 h
def sR.aZ(t1 t2:Nat)(t4:Bool)(w:World)(R:ak):Prop:=
 cond t4 (
  ∃aV,w.cell? ⟨t1,3,none⟩=some (.int .i64 aV)/\
  (κ prog 112 #[aV,(0:Int),(32:Int)] w (λv5 gj=>
    dD v5 λiZ=>
    ef gj ⟨t1,3,none⟩ (.int .i64 0) λeK=>
    (∃(kp:ah),kp.size=5/\aw eK ⟨t1,0,none⟩ kp.toList/\
     (ο (decide (kp.size=5)) (
       bM eK ⟨t2,0,none⟩ kp.toList λkx=>
       (∃(j6:ah),j6.size=5/\aw kx ⟨t2,0,none⟩ j6.toList/\
        (R (.returned (.tuple #[.agg j6,.bool iZ])) kx)))))) (aB R))) (
  ef w ⟨t1,3,none⟩ (.int .i64 0) λfY=>
  (∃(my:ah),my.size=5/\aw fY ⟨t1,0,none⟩ my.toList/\
   (ο (decide (my.size=5)) (
     bM fY ⟨t2,0,none⟩ my.toList λk3=>
     (∃(mz:ah),mz.size=5/\aw k3 ⟨t2,0,none⟩ mz.toList/\
      (R (.returned (.tuple #[.agg mz,.bool false])) k3))))))
def sR.main(fl gn oE oF:Int)(xf xe:Nat)(w:World)(R:ak):Prop:=
 aR w #[fl,gn,oE,oF,.complex .f64 xf xe] 155 λε δ=>
 aR δ #[(0:Int),(0:Int),(0:Int),(0:Int),.complex .f64 0 0] 155 λι υ=>
 ∃ζ,υ.cell? ⟨ε,1,none⟩=some (.int .i64 ζ)/\
 (κ prog 112 #[ζ,(0:Int),(8:Int)] υ (λv1 aa=>
  dD v1 λaH=>
  ∃τ,aa.cell? ⟨ε,0,none⟩=some (.int .i64 τ)/\
  (cond (τ==1) (
   cond aH (
    ∃ab,aa.cell? ⟨ε,3,none⟩=some (.int .i64 ab)/\
    (κ prog 112 #[ab,(1:Int),(33:Int)] aa (λv2 aG=>
      dD v2 λaf=>
      ef aG ⟨ε,3,none⟩ (.int .i64 0) λbk=>
      (∃(b2:ah),b2.size=5/\aw bk ⟨ε,0,none⟩ b2.toList/\
       (ο (decide (b2.size=5)) (
         bM bk ⟨ι,0,none⟩ b2.toList λiW=>
         (∃(bY:ah),bY.size=5/\aw iW ⟨ι,0,none⟩ bY.toList/\
          (R (.returned (.tuple #[.agg bY,.bool af])) iW)))))) (aB R))) (
    ef aa ⟨ε,3,none⟩ (.int .i64 0) λb9=>
    (∃(cN:ah),cN.size=5/\aw b9 ⟨ε,0,none⟩ cN.toList/\
     (ο (decide (cN.size=5)) (
       bM b9 ⟨ι,0,none⟩ cN.toList λfT=>
       (∃(dU:ah),dU.size=5/\aw fT ⟨ι,0,none⟩ dU.toList/\
        (R (.returned (.tuple #[.agg dU,.bool false])) fT))))))) (
   cond (τ==2) (
    ∃(hc:ah),hc.size=5/\aw aa ⟨ε,0,none⟩ hc.toList/\
    (ο (decide (hc.size=5)) (
      bM aa ⟨ι,0,none⟩ hc.toList λqF=>
      (∃(hB:ah),hB.size=5/\aw qF ⟨ι,0,none⟩ hB.toList/\
       (R (.returned (.tuple #[.agg hB,.bool aH])) qF))))) (
    cond (τ==3) (
     cond aH (
      ∃aA,aa.cell? ⟨ε,2,none⟩=some (.int .i64 aA)/\
      (κ prog 112 #[aA,(0:Int),(8:Int)] aa (λv3 ca=>
        dD v3 λdC=>
        cond dC (
         ∃al,ca.cell? ⟨ε,2,none⟩=some (.int .i64 al)/\
         (∃aJ,ca.cell? ⟨ε,1,none⟩=some (.int .i64 aJ)/\
          (ef ca ⟨ε,2,none⟩ (.int .i64 0) λcH=>
           (∃(hy:ah),hy.size=5/\aw cH ⟨ε,0,none⟩ hy.toList/\
           (ο (decide (hy.size=5)) (
           bM cH ⟨ι,0,none⟩ hy.toList λhg=>
           (∃(iN:ah),iN.size=5/\aw hg ⟨ι,0,none⟩ iN.toList/\
           (R (.returned (.tuple #[.agg iN,.bool (al !=aJ)])) hg)))))))) (
         ef ca ⟨ε,2,none⟩ (.int .i64 0) λcn=>
         (∃(ko:ah),ko.size=5/\aw cn ⟨ε,0,none⟩ ko.toList/\
          (ο (decide (ko.size=5)) (
           bM cn ⟨ι,0,none⟩ ko.toList λiX=>
           (∃(lF:ah),lF.size=5/\aw iX ⟨ι,0,none⟩ lF.toList/\
           (R (.returned (.tuple #[.agg lF,.bool false])) iX))))))) (aB R))) (
      ef aa ⟨ε,2,none⟩ (.int .i64 0) λde=>
      (∃(oL:ah),oL.size=5/\aw de ⟨ε,0,none⟩ oL.toList/\
       (ο (decide (oL.size=5)) (
         bM de ⟨ι,0,none⟩ oL.toList λjf=>
         (∃(oM:ah),oM.size=5/\aw jf ⟨ι,0,none⟩ oM.toList/\
          (R (.returned (.tuple #[.agg oM,.bool false])) jf))))))) (
     cond (τ==4) (
      cond aH (
       ∃cS m1,aa.cell? ⟨ε,4,none⟩=some (.complex .f64 cS m1)/\
       (κ prog 115 #[.complex .f64 cS m1] aa (λv4 dJ=>
         dD v4 λgb=>
         ef dJ ⟨ε,4,none⟩ (.complex .f64 0 0) λeO=>
         (sR.aZ ε ι gb eO R)) (aB R))) (
       ef aa ⟨ε,4,none⟩ (.complex .f64 0 0) λgP=>
       (sR.aZ ε ι false gP R))) (
      cond (τ==5) (
       sR.aZ ε ι aH aa R) (
       ∃(aQ:ah),aQ.size=5/\aw aa ⟨ε,0,none⟩ aQ.toList/\
       (ο (decide (aQ.size=5)) (
         bM aa ⟨ι,0,none⟩ aQ.toList λfb=>
         (∃(bK:ah),bK.size=5/\aw fb ⟨ι,0,none⟩ bK.toList/\
          (R (.returned (.tuple #[.agg bK,.bool aH])) fb))))))))))) (aB R))
abbrev sR.C(fl gn oE oF:Int)(xf xe:Nat):=Calls prog 182 #[.agg #[fl,gn,oE,oF,.complex .f64 xf xe]]
theorem sR.ok:yq sR.main sR.C:=λ{_ _ _ _ _ _ _ R}h=>fg func182 [.cell 2 155,.tmp 3] 57 (.seq .leaf (.seq .leaf (.seq (.seq .leaf (.block (.cut [(1,.c5),(2,.c5),(4,.bool)] (sR.aZ · · · · R) .leaf .leaf))) .leaf))) h
def sO.ε(t3:Int)(kM:J)(ka lS:Nat)(t7 t8:Int)(w:World)(R:ak)(aS:Int->J->Nat->Nat->Int->Int->ai):Prop:=
 cond (decide (t8<t7)) (
  ο (decide (0<=t8)) (
   ο (decide (t8<((ka:Nat):Int))) (
    ξ kM λd1=>
    ∃ζ,w.cell? (d1.add (t8.toNat*1))=some (.int .i64 ζ)/\
    (cond (ζ !=t3) (
     R (.returned (.int .i64 ζ)) w) (
     aS t3 kM ka lS t7 (IntKind.i64.wrap (t8+1)) w))))) (
  R (.returned (.int .i64 t3)) w)
def sO.bd:=pD sO.ε
def sO.main(bD:J)(a6 bx:Nat)(w:World)(R:ak):Prop:=
 sO.bd 0 bD a6 bx ((a6:Nat):Int) 0 w R
abbrev sO.C(bD:J)(a6 bx:Nat):=Calls prog 187 #[.slice bD a6 bx]
theorem sO.ok:iL sO.main sO.C:=λ{_ _ _ _ R}h=>fg func187 [.tmp 2] 18 (.seq .leaf (.seq .leaf (.seq (.seq .leaf (.block (.loop [(3,.int .i64),(6,.slice),(7,.int .i64),(8,.int .i64)] (sO.bd · · · · · · · R) λaS=>.leaf))) .leaf))) h
def DN.main(a0 aq:Nat)(w:World)(R:ak):Prop:=
 κ prog 206 #[.float .f64 a0] w (λv1 δ=>
  dD v1 λε=>
  κ prog 206 #[.float .f64 aq] δ (λv2 aa=>
   dD v2 λι=>
   cond ε (
    cond ι (
     R (.returned (.int .i64 0)) aa) (
     R (.returned (.int .i64 (-1))) aa)) (
    cond ι (
     R (.returned (.int .i64 1)) aa) (
     cond (ey .lss a0 aq) (
      R (.returned (.int .i64 (-1))) aa) (
      cond (ey .gtr a0 aq) (
       R (.returned (.int .i64 1)) aa) (
       R (.returned (.int .i64 0)) aa))))) (aB R)) (aB R)
abbrev DN.C(a0 aq:Nat):=Calls prog 188 #[.float .f64 a0,.float .f64 aq]
theorem DN.ok:jT DN.main DN.C:=λh=>dt func188 [.tmp 4] 20 h
def DI.main(a0:Int)(w:World)(R:ak):Prop:=
 cond (decide (a0>=1)) (
  R (.returned (.bool (decide (a0<=4)))) w) (
  R (.returned (.bool false)) w)
abbrev DI.C(a0:Int):=Calls prog 189 #[a0]
theorem DI.ok:ic DI.main DI.C:=λh=>dt func189 [.tmp 2] 9 h
def uk.ε(cj:J)(cb cu:Nat)(t2 t8:Int)(w:World)(R:ak)(aS:J->Nat->Nat->Int->Int->ai):Prop:=
 cond (decide (t8>=0)) (
  ο (decide (0<=(IntKind.i64.wrap (8*t8)))) (
   aR w #[.int .u8 (IntKind.u8.wrap (Int.fdiv t2 (2^(min (IntKind.i64.wrap (8*t8)).toNat IntKind.i64.bits))))] 5 λε δ=>
   gD δ cj cb cu 1 (a8 δ (some ⟨ε,0,none⟩)) 5 1 1 #[.int .u8 0] λad c1 υ=>
   aS ad (cb+1) c1 t2 (IntKind.i64.wrap (t8-1)) υ)) (
  R (.returned (.tuple #[.slice cj cb cu,(0:Int)])) w)
def uk.bd:=Cj uk.ε
def uk.main(bD:J)(a6 bx:Nat)(aq a2:Int)(w:World)(R:ak):Prop:=
 cond (decide (a2<0)) (
  R (.returned (.tuple #[.slice none 0 0,(5:Int)])) w) (
  ο (decide (0<=(IntKind.i64.wrap (8*aq)))) (
   cond ((Int.fdiv a2 (2^(min (IntKind.i64.wrap (8*aq)).toNat IntKind.i64.bits)))!=0) (
    R (.returned (.tuple #[.slice none 0 0,(5:Int)])) w) (
    uk.bd bD a6 bx a2 (IntKind.i64.wrap (aq-1)) w R)))
abbrev uk.C(bD:J)(a6 bx:Nat)(aq a2:Int):=Calls prog 190 #[.slice bD a6 bx,aq,a2]
theorem uk.ok:vy uk.main uk.C:=λ{_ _ _ _ _ _ R}h=>fg func190 [.tmp 6,.tmp 7] 33 (.seq .leaf (.seq .leaf (.seq (.seq .leaf (.block (.loop [(0,.slice),(2,.int .i64),(8,.int .i64)] (uk.bd · · · · · · R) λaS=>.leaf))) .leaf))) h
def tu.ε(t0 t4:Int)(w:World)(R:ak)(aS:Int->Int->ai):Prop:=
 cond (decide (t4<8)) (
  aS (IntKind.u32.wrap (BitVec.ofInt IntKind.u32.bits (IntKind.u32.wrap (t0*2^(min 1 IntKind.u32.bits)))^^^BitVec.ofInt IntKind.u32.bits (IntKind.u32.wrap (79764919*(Int.fdiv t0 (2^(min 31 IntKind.u32.bits)))))).toNat) (IntKind.i64.wrap (t4+1)) w) (
  R (.returned (.int .u32 t0)) w)
def tu.bd:=acn tu.ε
def tu.main(a0:Int)(w:World)(R:ak):Prop:=
 tu.bd a0 0 w R
abbrev tu.C(a0:Int):=Calls prog 191 #[.int .u32 a0]
theorem tu.ok:ic tu.main tu.C:=λ{_ _ R}h=>fg func191 [.tmp 2] 16 (.seq .leaf (.seq (.seq .leaf (.block (.loop [(0,.int .u32),(4,.int .i64)] (tu.bd · · · R) λaS=>.leaf))) .leaf)) h
def uj.ε(t3:Int)(kM:J)(ka lS:Nat)(t7 t8:Int)(w:World)(R:ak)(aS:Int->J->Nat->Nat->Int->Int->ai):Prop:=
 cond (decide (t8<t7)) (
  ο (decide (0<=t8)) (
   ο (decide (t8<((ka:Nat):Int))) (
    ξ kM λd1=>
    ∃ζ,w.cell? (d1.add (t8.toNat*1))=some (.int .u8 ζ)/\
    (aS (IntKind.i64.wrap (BitVec.ofInt IntKind.i64.bits (IntKind.i64.wrap (t3*2^(min 8 IntKind.i64.bits)))|||BitVec.ofInt IntKind.i64.bits (IntKind.i64.wrap ζ)).toNat) kM ka lS t7 (IntKind.i64.wrap (t8+1)) w)))) (
  R (.returned (.int .i64 t3)) w)
def uj.bd:=pD uj.ε
def uj.main(bD:J)(a6 bx:Nat)(w:World)(R:ak):Prop:=
 uj.bd 0 bD a6 bx ((a6:Nat):Int) 0 w R
abbrev uj.C(bD:J)(a6 bx:Nat):=Calls prog 193 #[.slice bD a6 bx]
theorem uj.ok:iL uj.main uj.C:=λ{_ _ _ _ R}h=>fg func193 [.tmp 2] 19 (.seq .leaf (.seq .leaf (.seq (.seq .leaf (.block (.loop [(3,.int .i64),(6,.slice),(7,.int .i64),(8,.int .i64)] (uj.bd · · · · · · · R) λaS=>.leaf))) .leaf))) h
def DP.main(a0:Nat)(w:World)(R:ak):Prop:=
 R (.returned (.bool (ey .neq a0 a0))) w
abbrev DP.C(a0:Nat):=Calls prog 206 #[.float .f64 a0]
theorem DP.ok:ic DP.main DP.C:=λh=>dt func206 [.tmp 2] 6 h
def dK.s9(t0:J)(t3:ByteArray)(t4:Int)(t5:Nat)(t6:Int)(w:World)(R:ak)(aS:J->ByteArray->Int->ai)(fG:J->ByteArray->Int->Nat->Int->ai):Prop:=
 fG t0 t3 t4 t5 (IntKind.i64.wrap (t6+1)) w
def dK.uM(t0:J)(t3:ByteArray)(t4:Int)(t5:Nat)(t6:Int)(w:World)(R:ak)(aS:J->ByteArray->Int->ai)(fG:J->ByteArray->Int->Nat->Int->ai):Prop:=
 κ prog 17 #[.pointer t0,t4,t6] w (λv2 ba=>
  lH v2 λs1=>
  ο (fits t3 s1) (
   dK.s9 t0 (t3++s1) t4 t5 t6 ba R aS fG)) (aB R)
def dK.AA(t0:J)(t3:ByteArray)(t4:Int)(w:World)(R:ak)(aS:J->ByteArray->Int->ai):Prop:=
 aS t0 t3 (IntKind.i64.wrap (t4+1)) w
def dK.ι(t0:J)(t3:ByteArray)(t4:Int)(t5:Nat)(t6:Int)(w:World)(R:ak)(aS:J->ByteArray->Int->ai)(fG:J->ByteArray->Int->Nat->Int->ai):Prop:=
 ∃ej iA fU,w.cell? ⟨t5,4,none⟩=some (.slice ej iA fU)/\
 (ο (decide (1<((iA:Nat):Int))) (
  ξ ej λd3=>
  ∃aA,w.cell? (d3.add 1)=some (.int .i64 aA)/\
  (cond (decide (t6<aA)) (
   dK.uM t0 t3 t4 t5 t6 w R aS fG) (
   dK.AA t0 t3 t4 w R aS))))
def dK.fm:=aqd dK.ι
def dK.hU(t0:J)(t3:ByteArray)(t4:Int)(t5:Nat)(t6:Int)(w:World)(R:ak)(aS:J->ByteArray->Int->ai):Prop:=
 dK.fm t0 t3 t4 t5 t6 w R aS
def dK.fN(t0:J)(t3:ByteArray)(t4:Int)(t5:Nat)(w:World)(R:ak)(aS:J->ByteArray->Int->ai):Prop:=
 dK.hU t0 t3 t4 t5 0 w R aS
def dK.hK(t0:J)(t3:ByteArray)(t4:Int)(t5:Nat)(w:World)(R:ak)(aS:J->ByteArray->Int->ai):Prop:=
 ∃aX br c2,w.drew.cell? ⟨t5,4,none⟩=some (.slice aX br c2)/\
 (ο (decide (0<((br:Nat):Int))) (
  ξ aX λd1=>
  ∃τ,w.drew.cell? d1=some (.int .i64 τ)/\
  (∃bl dz bJ,w.drew.cell? ⟨t5,4,none⟩=some (.slice bl dz bJ)/\
   (ο (decide (1<((dz:Nat):Int))) (
    ξ bl λd2=>
    ∃ab,w.drew.cell? (d2.add 1)=some (.int .i64 ab)/\
    (aR w.drew #[.int .u8 (IntKind.u8.wrap τ),.int .u8 (IntKind.u8.wrap ab)] 5 λι aG=>
     ∃(kh:ao),kh.length=2/\a8 aG (some ⟨ι,0,none⟩) (kh.map (.int .u8))/\
     (ο (fits t3 (strOf kh)) (
      dK.fN t0 (t3++(strOf kh)) t4 t5 aG R aS))))))))
def dK.dP(t0:J)(t3:ByteArray)(t4:Int)(t5:Nat)(t23:Bool)(w:World)(R:ak)(aS:J->ByteArray->Int->ai):Prop:=
 cond t23 (
  ο (fits t3 (⟨#[45]⟩:ByteArray)) (
   dK.AA t0 (t3++(⟨#[45]⟩:ByteArray)) t4 w R aS)) (
  dK.hK t0 t3 t4 t5 w R aS)
def dK.ea(t0:J)(t3:ByteArray)(t4:Int)(t5:Nat)(w:World)(R:ak)(aS:J->ByteArray->Int->ai):Prop:=
 ∃ζ,w.cell? ⟨t5,1,none⟩=some (.int .i64 ζ)/\
 (cond (ζ !=0) (
  dK.dP t0 t3 t4 t5 true w R aS) (
  ∃ad aD c1,w.cell? ⟨t5,4,none⟩=some (.slice ad aD c1)/\
  (dK.dP t0 t3 t4 t5 (((aD:Nat):Int)!=2) w R aS)))
def dK.cp(t0:J)(t3:ByteArray)(t4:Int)(w:World)(R:ak)(aS:J->ByteArray->Int->ai):Prop:=
 κ prog 28 #[.pointer t0,.agg #[(9:Int),t4,(0:Int),(0:Int),.slice none 0 0]] w (λv1 δ=>
  dZ v1 λaQ=>
  aR δ #[(0:Int),(0:Int),(0:Int),.slice none 0 0,.slice none 0 0] 37 λε aa=>
  ο (decide (aQ.size=5)) (
   bM aa ⟨ε,0,none⟩ aQ.toList λax=>
   (dK.ea t0 t3 t4 ε ax R aS))) (aB R)
def dK.ε(t0:J)(t3:ByteArray)(t4:Int)(w:World)(R:ak)(aS:J->ByteArray->Int->ai):Prop:=
 cond (decide (t4<8)) (
  dK.cp t0 t3 t4 w R aS) (
  R (.returned (.string t3)) w)
def dK.bd:=HU dK.ε
def dK.b7(t0:J)(t3:ByteArray)(t4:Int)(w:World)(R:ak):Prop:=
 dK.bd t0 t3 t4 w R
def dK.bP(t0:J)(t3:ByteArray)(w:World)(R:ak):Prop:=
 dK.b7 t0 t3 0 w R
def dK.aZ(t0:J)(w:World)(R:ak):Prop:=
 dK.bP t0 (⟨#[]⟩:ByteArray) w R
def dK.main(a0:J)(w:World)(R:ak):Prop:=
 dK.aZ a0 w R
abbrev dK.C(a0:J):=Calls prog 19 #[.pointer a0]
theorem dK.ok:ic dK.main dK.C:=λ{_ _ R}h=>fg func19 [.tmp 2] 55 (.cut [(0,.ptr)] (dK.aZ · · R) .leaf (.cut [(0,.ptr),(3,.str)] (dK.bP · · · R) .leaf (.seq (.cut [(0,.ptr),(3,.str),(4,.int .i64)] (dK.b7 · · · · R) .leaf (.block (.loop [(0,.ptr),(3,.str),(4,.int .i64)] (dK.bd · · · · R) λaS=>(.cut [(0,.ptr),(3,.str),(4,.int .i64)] (dK.cp · · · · R aS) .leaf (.cut [(0,.ptr),(3,.str),(4,.int .i64)] (dK.AA · · · · R aS) (.block (.cut [(0,.ptr),(3,.str),(4,.int .i64),(5,.c5)] (dK.ea · · · · · R aS) .leaf (.cut [(0,.ptr),(3,.str),(4,.int .i64),(5,.c5)] (dK.hK · · · · · R aS) (.cut [(0,.ptr),(3,.str),(4,.int .i64),(5,.c5),(23,.bool)] (dK.dP · · · · · · R aS) .leaf .leaf) (.cut [(0,.ptr),(3,.str),(4,.int .i64),(5,.c5)] (dK.fN · · · · · R aS) .leaf (.cut [(0,.ptr),(3,.str),(4,.int .i64),(5,.c5),(6,.int .i64)] (dK.hU · · · · · · R aS) .leaf (.block (.loop [(0,.ptr),(3,.str),(4,.int .i64),(5,.c5),(6,.int .i64)] (dK.fm · · · · · · R aS) λfG=>(.cut [(0,.ptr),(3,.str),(4,.int .i64),(5,.c5),(6,.int .i64)] (dK.uM · · · · · · R aS fG) .leaf (.cut [(0,.ptr),(3,.str),(4,.int .i64),(5,.c5),(6,.int .i64)] (dK.s9 · · · · · · R aS fG) .leaf .leaf))))))))) .leaf))))) .leaf))) h
def Fx.main(a0:J)(w:World)(R:ak):Prop:=
 cond (Option.isNone a0) (
  R (.returned (.int .i64 0)) w) (
  ξ a0 λd1=>
  ∃ad,w.cell? d1=some (.pointer ad)/\
  (κ prog 34 #[.pointer ad] w (λv1 δ=>
   bq .i64 v1 λζ=>
   R (.returned (.int .i64 ζ)) δ) (aB R)))
abbrev Fx.C(a0:J):=Calls prog 21 #[.pointer a0]
theorem Fx.ok:ic Fx.main Fx.C:=λh=>dt func21 [.tmp 2] 10 h
end Go.Proofs.YtcpdfhkhaekekaaGreat.G

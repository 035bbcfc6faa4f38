/- The walk of the functions, and the plain laws of the model: part of the proof. Conditions: none. -/
import Derived.Test.YtcpdfhkhaekekaaGreatA3
set_option linter.unusedVariables false
set_option linter.unusedSimpArgs false
namespace Go.Proofs.YtcpdfhkhaekekaaGreat.G
open Tryz
open Go.bO
set_option maxRecDepth 100000
def yg.main(a0:J)(w:World)(R:aq):Prop:=
 aN w #[(0:Int),(0:Int),(0:Int),(0:Int),.slice none 0 0] 40 λδ γ=>
 cond (Option.isNone a0) (
  bG γ ⟨δ,0,none⟩ [(.int .i64 0),(.int .i64 0),(.int .i64 0),(.int .i64 0),(.slice none 0 0)] λτ=>
  (∃(aK:ag),aK.size=5/\aw τ ⟨δ,0,none⟩ aK.toList/\
   (R (.returned (.tuple #[(0:Int),.agg aK,(1:Int)])) τ))) (
  ξ a0 λd1=>
  ∃ab ay c1,γ.cell? d1=some (.slice ab ay c1)/\
  (cond (((ay:Nat):Int)==0) (
    bG γ ⟨δ,0,none⟩ [(.int .i64 0),(.int .i64 0),(.int .i64 0),(.int .i64 0),(.slice none 0 0)] λaa=>
    (∃(bF:ag),bF.size=5/\aw aa ⟨δ,0,none⟩ bF.toList/\
     (R (.returned (.tuple #[(0:Int),.agg bF,(4:Int)])) aa))) (
    ξ a0 λd2=>
    ∃aX bu c2,γ.cell? d2=some (.slice aX bu c2)/\
    (ο (decide (0<((bu:Nat):Int))) (
      ξ aX λd3=>
      ∃(v1:Value),γ.cell? d3=some v1/\
      ((match v1 with| .iface my v2=>ο (decide (my=126)) (
         dq v2 λbZ=>
         aN γ #[(0:Int),(0:Int),(0:Int),(0:Int),.slice none 0 0,(0:Int)] 126 λθ az=>
         ο (decide (bZ.size=6)) (
           bG az ⟨θ,0,none⟩ bZ.toList λaE=>
           (∃ζ,aE.drew.cell? ⟨θ,5,none⟩=some (.int .i64 ζ)/\
             (∃(bW:ag),bW.size=5/\aw aE.drew ⟨θ,0,none⟩ bW.toList/\
               (κ prog 61 #[.agg bW] aE.drew (λv3 ba=>
                 dq v3 λcE=>
                 ba.cell? ⟨θ,5,none⟩=some (.int .i64 ζ)/\
                 (ο (decide (cE.size=5)) (
                 bG ba ⟨δ,0,none⟩ cE.toList λb5=>
                 (∃(dM:ag),dM.size=5/\aw b5 ⟨δ,0,none⟩ dM.toList/\
                 (R (.returned (.tuple #[ζ,.agg dM,(0:Int)])) b5))))) (au R))))))|_=>False)))))))
abbrev yg.C(a0:J):=Calls prog 44 #[.pointer a0]
theorem yg.ok:ic yg.main yg.C:=λh=>dg func44 [.tmp 2,.cell 3 40,.tmp 4] 37 h
def E2.main(dP dQ fQ:Nat)(w:World)(R:aq):Prop:=
 ∃ab,w.cell? ⟨dP,0,none⟩=some (.pointer ab)/\
 (∃(aK:ag),aK.size=5/\aw w ⟨dQ,0,none⟩ aK.toList/\
  (κ prog 46 #[.pointer ab,.agg aK,.pointer (some ⟨fQ,0,none⟩)] w (λv1 γ=>
   b0 v1 λbN=>
   R (.returned (.tuple #[])) γ) (au R)))
abbrev E2.C(dP dQ fQ:Nat):=Calls prog 45 #[.pointer (some ⟨dP,0,none⟩),.pointer (some ⟨dQ,0,none⟩),.pointer (some ⟨fQ,0,none⟩)]
theorem E2.ok:iB E2.main E2.C:=λh=>dg func45 [] 6 h
def uL.a1(t2:J)(t11:Nat)(t12:Int)(w:World)(R:aq):Prop:=
 κ prog 52 #[t12] w (λv33 mB=>
  b0 v33 λax1=>
  ∃rf,mB.cell? ⟨t11,0,none⟩=some (.int .i64 rf)/\
  (∃rh,mB.cell? ⟨t11,1,none⟩=some (.int .i64 rh)/\
   (aN mB #[rf,rh] 3 λc8 u6=>
    ξ t2 λd13=>
    ed u6 (d13.add 4) (.slice (some ⟨c8,0,none⟩) 2 2) λnz=>
    (R (.returned (.tuple #[])) nz)))) (au R)
def uL.main(a0:J)(eM eN jX jY:Int)(kH:J)(kG kF:Nat)(a2:J)(w:World)(R:aq):Prop:=
 aN w #[eM,eN,jX,jY,.slice kH kG kF] 40 λδ γ=>
 ∃ζ,γ.cell? ⟨δ,0,none⟩=some (.int .i64 ζ)/\
 (cond (ζ==1) (
  ξ a0 λd1=>
  ∃ab,γ.drew.cell? (d1.add 4)=some (.pointer ab)/\
  (∃σ,γ.drew.cell? ⟨δ,3,none⟩=some (.int .i64 σ)/\
   (κ prog 74 #[.pointer ab,σ] γ.drew (λv1 τ=>
     b0 v1 λbN=>
     ξ (bN[0]?) λv2=>
     br .i64 v2 λad=>
     ξ (bN[1]?) λv3=>
     br .i64 v3 λaA=>
     ξ a2 λd2=>
     ed τ (d2.add 2) (.int .i64 ad) λaz=>
     (κ prog 52 #[aA] az (λv4 aE=>
       b0 v4 λeI=>
       ξ a2 λd3=>
       ∃ak,aE.drew.cell? (d3.add 2)=some (.int .i64 ak)/\
       (∃aI,aE.drew.cell? ⟨δ,3,none⟩=some (.int .i64 aI)/\
        (κ prog 75 #[.pointer a0,.agg #[(1:Int),ak,(0:Int),aI,.complex .f64 0 0]] aE.drew (λv5 bm=>
          b0 v5 λhY=>
          R (.returned (.tuple #[])) bm) (au R)))) (au R))) (au R)))) (
  cond (ζ==2) (
   ξ a0 λd4=>
   ∃aX,γ.drew.cell? (d4.add 4)=some (.pointer aX)/\
   (∃aV,γ.drew.cell? ⟨δ,1,none⟩=some (.int .i64 aV)/\
    (κ prog 76 #[.pointer aX,aV] γ.drew (λv6 cf=>
      br .i64 v6 λcg=>
      κ prog 52 #[cg] cf (λfJ cA=>
       b0 fJ λmz=>
       ∃cm,cA.cell? ⟨δ,1,none⟩=some (.int .i64 cm)/\
       (κ prog 75 #[.pointer a0,.agg #[(2:Int),cm,(0:Int),(0:Int),.complex .f64 0 0]] cA (λbj dn=>
         b0 bj λso=>
         R (.returned (.tuple #[])) dn) (au R))) (au R)) (au R)))) (
   cond (ζ==3) (
    ξ a0 λd5=>
    ∃bh,γ.drew.cell? (d5.add 4)=some (.pointer bh)/\
    (∃eK,γ.drew.cell? ⟨δ,1,none⟩=some (.int .i64 eK)/\
     (κ prog 77 #[.pointer bh,eK] γ.drew (λv9 eA=>
       b0 v9 λAV=>
       ξ (AV[0]?) λv10=>
       br .i64 v10 λfl=>
       ξ (AV[1]?) λv11=>
       br .i64 v11 λc7=>
       ξ a2 λd6=>
       ed eA (d6.add 2) (.int .i64 fl) λga=>
       (κ prog 52 #[c7] ga (λv12 fO=>
         b0 v12 λQc=>
         ∃gb,fO.drew.cell? ⟨δ,1,none⟩=some (.int .i64 gb)/\
         (ξ a2 λd7=>
          ∃j7,fO.drew.cell? (d7.add 2)=some (.int .i64 j7)/\
          (κ prog 75 #[.pointer a0,.agg #[(3:Int),gb,j7,(0:Int),.complex .f64 0 0]] fO.drew (λny eD=>
            b0 ny λQd=>
            R (.returned (.tuple #[])) eD) (au R)))) (au R))) (au R)))) (
    cond (ζ==4) (
     ∃(aK:ag),aK.size=5/\aw γ ⟨δ,0,none⟩ aK.toList/\
     (κ prog 78 #[.pointer a0,.agg aK] γ (λqo eJ=>
       cN qo λeg ay c1=>
       ξ a2 λd8=>
       ed eJ (d8.add 3) (.slice eg ay c1) λfw=>
       (R (.returned (.tuple #[])) fw)) (au R))) (
     cond (ζ==5) (
      ∃(bF:ag),bF.size=5/\aw γ ⟨δ,0,none⟩ bF.toList/\
      (κ prog 79 #[.pointer a0,.agg bF] γ (λsl sq=>
        b0 sl λagR=>
        R (.returned (.tuple #[])) sq) (au R))) (
      cond (ζ==6) (
       ξ a0 λd9=>
       ∃fH,γ.drew.cell? (d9.add 4)=some (.pointer fH)/\
       (∃l3,γ.drew.cell? ⟨δ,1,none⟩=some (.int .i64 l3)/\
        (∃jm,γ.drew.cell? ⟨δ,2,none⟩=some (.int .i64 jm)/\
         (κ prog 80 #[.pointer fH,l3,jm,.complex .f64 0 0,.bool false] γ.drew (λsm h0=>
           br .i64 sm λre=>
           κ prog 52 #[re] h0 (λv17 kR=>
            b0 v17 λQa=>
            ∃wj,kR.cell? ⟨δ,1,none⟩=some (.int .i64 wj)/\
            (∃sx,kR.cell? ⟨δ,2,none⟩=some (.int .i64 sx)/\
            (κ prog 75 #[.pointer a0,.agg #[(5:Int),wj,(0:Int),sx,.complex .f64 0 0]] kR (λu2 zg=>
            b0 u2 λagN=>
            R (.returned (.tuple #[])) zg) (au R)))) (au R)) (au R))))) (
       cond (ζ==7) (
        κ prog 81 #[.pointer a0] γ (λu3 sr=>
         b0 u3 λQb=>
         R (.returned (.tuple #[])) sr) (au R)) (
        cond (ζ==8) (
         κ prog 48 #[.pointer a0] γ (λv20 ra=>
          dq v20 λbZ=>
          κ prog 82 #[.agg bZ] ra (λv21 mA=>
           b0 v21 λWy=>
           ξ (Wy[0]?) λv22=>
           br .i64 v22 λod=>
           ξ (Wy[1]?) λv23=>
           br .i64 v23 λwk=>
           ξ a0 λd10=>
           ∃(bW:ag),bW.size=2/\aw mA (d10.add 2) bW.toList/\
           (κ prog 83 #[.agg bW] mA (λv24 qq=>
            b0 v24 λagO=>
            ξ (agO[0]?) λv25=>
            br .i64 v25 λnA=>
            ξ (agO[1]?) λv26=>
            br .i64 v26 λCw=>
            aN qq #[od,nA] 3 λθ tH=>
            ξ a2 λd11=>
            ed tH (d11.add 4) (.slice (some ⟨θ,0,none⟩) 2 2) λavO=>
            (R (.returned (.tuple #[])) avO)) (au R))) (au R)) (au R)) (
         cond (ζ==9) (
          ξ a0 λd12=>
          ∃jG,γ.drew.cell? (d12.add 4)=some (.pointer jG)/\
          (∃nB,γ.drew.cell? ⟨δ,1,none⟩=some (.int .i64 nB)/\
           ((κ prog 84 #[.pointer jG,nB] γ.drew (λLU Gi=>
            b0 LU λagP=>
            ξ (agP[0]?) λv28=>
            dq v28 λcE=>
            ξ (agP[1]?) λGh=>
            br .i64 Gh λQk=>
            aN Gi #[(0:Int),(0:Int)] 84 λaF zh=>
            ο (decide (cE.size=2)) (
            bG zh ⟨aF,0,none⟩ cE.toList λL1=>
            (uL.a1 a2 aF Qk L1 R))) (au R))/\
            (aN γ.drew #[(0:Int),(0:Int)] 84 λae L2=>
            L2.cell? ⟨δ,1,none⟩=some (.int .i64 nB)/\
            (L2.cell? (d12.add 4)=some (.pointer jG)/\
            (κ prog 84 #[.pointer jG,nB] L2 (λv30 WD=>
            b0 v30 λagQ=>
            ξ (agQ[0]?) λv31=>
            dq v31 λdM=>
            ξ (agQ[1]?) λv32=>
            br .i64 v32 λqu=>
            ο (decide (dM.size=2)) (
            bG WD ⟨ae,0,none⟩ dM.toList λoc=>
            (uL.a1 a2 ae qu oc R))) (au R))))))) (
          R (.returned (.tuple #[])) γ))))))))))
abbrev uL.C(a0:J)(eM eN jX jY:Int)(kH:J)(kG kF:Nat)(a2:J):=Calls prog 46 #[.pointer a0,.agg #[eM,eN,jX,jY,.slice kH kG kF],.pointer a2]
theorem uL.ok:ait uL.main uL.C:=λ{_ _ _ _ _ _ _ _ _ _ R}h=>fc func46 [] 162 (.seq .leaf (.seq .leaf (.seq .leaf (.block (.seq .leaf (.cond .leaf (.seq .leaf (.cond .leaf (.seq .leaf (.cond .leaf (.seq .leaf (.cond .leaf (.seq .leaf (.cond .leaf (.seq .leaf (.cond .leaf (.seq .leaf (.cond .leaf (.seq .leaf (.cond .leaf (.seq .leaf (.cond (.cut [(2,.ptr),(11,.cY),(12,.int .i64)] (uL.a1 · · · · R) .leaf .leaf) .leaf)))))))))))))))))))))) h
def EX.main(a0:J)(w:World)(R:aq):Prop:=
 aN w #[(0:Int),(0:Int),(0:Int),(0:Int),(0:Int),(0:Int),(0:Int),(0:Int),(0:Int),(0:Int),(0:Int),(0:Int),(0:Int),(0:Int),(0:Int),(0:Int),.slice none 0 0,.slice none 0 0,.slice none 0 0,.slice none 0 0,.slice none 0 0,.slice none 0 0,.slice none 0 0,.slice none 0 0] 89 λδ γ=>
 cond (Option.isNone a0) (
  bG γ ⟨δ,0,none⟩ [(.int .i64 0),(.int .i64 0),(.int .i64 0),(.int .i64 0),(.int .i64 0),(.int .i64 0),(.int .i64 0),(.int .i64 0),(.int .i64 0),(.int .i64 0),(.int .i64 0),(.int .i64 0),(.int .i64 0),(.int .i64 0),(.int .i64 0),(.int .i64 0),(.slice none 0 0),(.slice none 0 0),(.slice none 0 0),(.slice none 0 0),(.slice none 0 0),(.slice none 0 0),(.slice none 0 0),(.slice none 0 0)] λτ=>
  (∃(aK:ag),aK.size=24/\aw τ ⟨δ,0,none⟩ aK.toList/\
   (R (.returned (.agg aK)) τ))) (
  ξ a0 λd1=>
  ∃ab,γ.cell? (d1.add 4)=some (.pointer ab)/\
  (κ prog 86 #[.pointer ab] γ (λv1 aa=>
    dq v1 λbF=>
    κ prog 85 #[.agg bF] aa (λv2 aE=>
     dq v2 λbZ=>
     ο (decide (bZ.size=24)) (
      bG aE ⟨δ,0,none⟩ bZ.toList λbm=>
      (∃(bW:ag),bW.size=24/\aw bm ⟨δ,0,none⟩ bW.toList/\
       (R (.returned (.agg bW)) bm)))) (au R)) (au R)))
abbrev EX.C(a0:J):=Calls prog 48 #[.pointer a0]
theorem EX.ok:ic EX.main EX.C:=λh=>dg func48 [.cell 2 89] 12 h
def sH.δ(nv:J)(mV oY:Nat)(y3:J)(y2 Cn:Nat)(t29 t30:Int)(w:World)(R:aq)(a8:J->Nat->Nat->J->Nat->Nat->Int->Int->ao):Prop:=
 cond (decide (t30<t29)) (
  ο (decide (0<=t30)) (
   ο (decide (t30<((y2:Nat):Int))) (
    ξ y3 λd1=>
    ∃cG m1,w.cell? (d1.add (t30.toNat*1))=some (.complex .f64 cG m1)/\
    (ξ ((FloatKind.f64.decode cG).toInt .zero) λaA=>
     ο (decide (IntKind.i64.min<=aA)) (
      ο (decide (aA<=IntKind.i64.max)) (
       ο (decide (0<=aA)) (
        ο (decide (aA<((mV:Nat):Int))) (
         ξ nv λd2=>
         ∃ak,w.cell? (d2.add (aA.toNat*1))=some (.int .i64 ak)/\
         (ο (decide (0<=aA)) (
          ο (decide (aA<((mV:Nat):Int))) (
           ξ nv λd3=>
           ed w (d3.add (aA.toNat*1)) (.int .i64 (IntKind.i64.wrap (ak+1))) λb5=>
           (a8 nv mV oY y3 y2 Cn t29 (IntKind.i64.wrap (t30+1)) b5)))))))))))) (
  R (.returned (.tuple #[.slice nv mV oY,(0:Int)])) w)
def sH.bd:=Hy sH.δ
def sH.main(a0:ag)(eM eN:Int)(w:World)(R:aq):Prop:=
 aN w a0 89 λδ γ=>
 aN γ #[eM,eN] 28 λθ τ=>
 ∃(aK:ag),aK.size=24/\aw τ ⟨δ,0,none⟩ aK.toList/\
 (∃(bF:ag),bF.size=2/\aw τ ⟨θ,0,none⟩ bF.toList/\
  (κ prog 87 #[.agg aK,.agg bF] τ (λv1 aa=>
   br .i64 v1 λζ=>
   cond (ζ !=0) (
    R (.returned (.tuple #[.slice none 0 0,ζ])) aa) (
    ∃σ,aa.cell? ⟨θ,0,none⟩=some (.int .i64 σ)/\
    (ο (decide (0<=σ)) (
     ο (decide (σ<=σ)) (
      ο (decide ((8:Int)*σ<=281474976710656/\σ<=9223372036854775807)) (
       aN aa (madeCells #[(0:Int)] (σ.toNat*1)) 3 λaF aE=>
       ∃(bZ:ag),bZ.size=24/\aw aE ⟨δ,0,none⟩ bZ.toList/\
       (κ prog 88 #[.agg bZ] aE (λv2 ba=>
        b0 v2 λbN=>
        ξ (bN[0]?) λv3=>
        cN v3 λab ay c1=>
        ξ (bN[1]?) λv4=>
        cN v4 λaX bu c2=>
        ξ (bN[2]?) λv5=>
        br .i64 v5 λad=>
        sH.bd (some ⟨aF,0,none⟩) σ.toNat σ.toNat ab ay c1 ((ay:Nat):Int) 0 ba R) (au R)))))))) (au R)))
abbrev sH.C(a0:ag)(eM eN:Int):=Calls prog 49 #[.agg a0,.agg #[eM,eN]]
theorem sH.ok:iB sH.main sH.C:=λ{_ _ _ _ R}h=>fc func49 [.tmp 4,.tmp 5] 44 (.seq .leaf (.seq .leaf (.seq .leaf (.seq .leaf (.seq (.seq .leaf (.block (.loop [(7,.slice),(28,.slice),(29,.int .i64),(30,.int .i64)] (sH.bd · · · · · · · · · R) λa8=>.leaf))) .leaf))))) h
def FN.main(a0:J)(w:World)(R:aq):Prop:=
 cond (Option.isNone a0) (
  R (.returned (.tuple #[.slice none 0 0,(-1:Int)])) w) (
  ξ a0 λd1=>
  ∃ab ay c1,w.drew.cell? (d1.add 2)=some (.slice ab ay c1)/\
  (ξ a0 λd2=>
   ∃ζ,w.drew.cell? (d2.add 3)=some (.int .i64 ζ)/\
   (κ prog 89 #[.slice ab ay c1] w.drew (λv1 γ=>
    cN v1 λaX bu c2=>
    γ.cell? (d2.add 3)=some (.int .i64 ζ)/\
    (R (.returned (.tuple #[.slice aX bu c2,ζ])) γ)) (au R))))
abbrev FN.C(a0:J):=Calls prog 50 #[.pointer a0]
theorem FN.ok:ic FN.main FN.C:=λh=>dg func50 [.tmp 2,.tmp 3] 15 h
def iX.bP(e8:J)(e0 fN:Nat)(cR:J)(cM de t4:Nat)(e7:J)(eV fi:Nat)(jw:J)(jI jH:Nat)(hM:J)(fu h8:Nat)(t13 t15 t16:Int)(kB:J)(kA lC:Nat)(t34 t35:Int)(t72:Bool)(w:World)(R:aq)(a8:J->Nat->Nat->J->Nat->Nat->Nat->J->Nat->Nat->J->Nat->Nat->J->Nat->Nat->J->Nat->Nat->Int->Int->ao):Prop:=
 cond t72 (
  aN w #[t15] 3 λaF ba=>
  gK ba e7 eV fi 1 (a7 ba (some ⟨aF,0,none⟩)) 3 1 8 #[(0:Int)] λab c1 bm=>
  aN bm #[t16] 3 λae b5=>
  gK b5 jw jI jH 1 (a7 b5 (some ⟨ae,0,none⟩)) 3 1 8 #[(0:Int)] λaX c2 cf=>
  aN cf #[t13] 3 λc8 c6=>
  gK c6 hM fu h8 1 (a7 c6 (some ⟨c8,0,none⟩)) 3 1 8 #[(0:Int)] λbh bI cA=>
  a8 e8 e0 fN cR cM de t4 ab (eV+1) c1 aX (jI+1) c2 bh (fu+1) bI kB kA lC t34 (IntKind.i64.wrap (t35+1)) cA) (
  a8 e8 e0 fN cR cM de t4 e7 eV fi jw jI jH hM fu h8 kB kA lC t34 (IntKind.i64.wrap (t35+1)) w)
def iX.a1(e8:J)(e0 fN:Nat)(cR:J)(cM de t4:Nat)(e7:J)(eV fi:Nat)(jw:J)(jI jH:Nat)(hM:J)(fu h8:Nat)(t13 t14 t15 t16:Int)(kB:J)(kA lC:Nat)(t34 t35:Int)(w:World)(R:aq)(a8:J->Nat->Nat->J->Nat->Nat->Nat->J->Nat->Nat->J->Nat->Nat->J->Nat->Nat->J->Nat->Nat->Int->Int->ao):Prop:=
 cond (decide (t14>0)) (
  ∃cm,w.cell? ⟨t4,1,none⟩=some (.int .i64 cm)/\
  (iX.bP e8 e0 fN cR cM de t4 e7 eV fi jw jI jH hM fu h8 t13 t15 t16 kB kA lC t34 t35 (decide (t14<cm)) w R a8)) (
  iX.bP e8 e0 fN cR cM de t4 e7 eV fi jw jI jH hM fu h8 t13 t15 t16 kB kA lC t34 t35 false w R a8)
def iX.θ(e8:J)(e0 fN:Nat)(cR:J)(cM de t4:Nat)(e7:J)(eV fi:Nat)(jw:J)(jI jH:Nat)(hM:J)(fu h8:Nat)(t13 t14 t15 t16:Int)(kB:J)(kA lC:Nat)(t34 t35:Int)(y7:J)(y6 AQ:Nat)(t56 t57:Int)(w:World)(R:aq)(a8:J->Nat->Nat->J->Nat->Nat->Nat->J->Nat->Nat->J->Nat->Nat->J->Nat->Nat->J->Nat->Nat->Int->Int->ao)(hJ:J->Nat->Nat->J->Nat->Nat->Nat->J->Nat->Nat->J->Nat->Nat->J->Nat->Nat->Int->Int->Int->Int->J->Nat->Nat->Int->Int->J->Nat->Nat->Int->Int->ao):Prop:=
 cond (decide (t57<t56)) (
  ο (decide (0<=t57)) (
   ο (decide (t57<((y6:Nat):Int))) (
    ξ y7 λd3=>
    ∃cg,w.cell? (d3.add (t57.toNat*1))=some (.int .i64 cg)/\
    (cond (cg==t13) (
     a8 e8 e0 fN cR cM de t4 e7 eV fi jw jI jH hM fu h8 kB kA lC t34 (IntKind.i64.wrap (t35+1)) w) (
     hJ e8 e0 fN cR cM de t4 e7 eV fi jw jI jH hM fu h8 t13 t14 t15 t16 kB kA lC t34 t35 y7 y6 AQ t56 (IntKind.i64.wrap (t57+1)) w))))) (
  iX.a1 e8 e0 fN cR cM de t4 e7 eV fi jw jI jH hM fu h8 t13 t14 t15 t16 kB kA lC t34 t35 w R a8)
def iX.fG(e8:J)(e0 fN:Nat)(cR:J)(cM de t4:Nat)(e7:J)(eV fi:Nat)(jw:J)(jI jH:Nat)(hM:J)(fu h8:Nat)(t13 t14 t15 t16:Int)(kB:J)(kA lC:Nat)(t34 t35:Int)(y7:J)(y6 AQ:Nat)(t56 t57:Int)(w:World)(R:aq)(a8:J->Nat->Nat->J->Nat->Nat->Nat->J->Nat->Nat->J->Nat->Nat->J->Nat->Nat->J->Nat->Nat->Int->Int->ao):Prop:=
 ∃(bD:J->Nat->Nat->J->Nat->Nat->Nat->J->Nat->Nat->J->Nat->Nat->J->Nat->Nat->Int->Int->Int->Int->J->Nat->Nat->Int->Int->J->Nat->Nat->Int->Int->ao)(m:J->Nat->Nat->J->Nat->Nat->Nat->J->Nat->Nat->J->Nat->Nat->J->Nat->Nat->Int->Int->Int->Int->J->Nat->Nat->Int->Int->J->Nat->Nat->Int->Int->World->Nat),bD e8 e0 fN cR cM de t4 e7 eV fi jw jI jH hM fu h8 t13 t14 t15 t16 kB kA lC t34 t35 y7 y6 AQ t56 t57 w/\
 ∀(e8:J)(e0:Nat)(fN:Nat)(cR:J)(cM:Nat)(de:Nat)(t4:Nat)(e7:J)(eV:Nat)(fi:Nat)(jw:J)(jI:Nat)(jH:Nat)(hM:J)(fu:Nat)(h8:Nat)(t13:Int)(t14:Int)(t15:Int)(t16:Int)(kB:J)(kA:Nat)(lC:Nat)(t34:Int)(t35:Int)(y7:J)(y6:Nat)(AQ:Nat)(t56:Int)(t57:Int)(w:World),bD e8 e0 fN cR cM de t4 e7 eV fi jw jI jH hM fu h8 t13 t14 t15 t16 kB kA lC t34 t35 y7 y6 AQ t56 t57 w->
 iX.θ e8 e0 fN cR cM de t4 e7 eV fi jw jI jH hM fu h8 t13 t14 t15 t16 kB kA lC t34 t35 y7 y6 AQ t56 t57 w R a8 λF2 F1 AL AO AN xG xH FU FT FR FX FW FV FZ y0 FY aeE wb PB PC F4 F3 AM F5 uY aeJ aeI aeH aeK aeL w'=>bD F2 F1 AL AO AN xG xH FU FT FR FX FW FV FZ y0 FY aeE wb PB PC F4 F3 AM F5 uY aeJ aeI aeH aeK aeL w'/\m F2 F1 AL AO AN xG xH FU FT FR FX FW FV FZ y0 FY aeE wb PB PC F4 F3 AM F5 uY aeJ aeI aeH aeK aeL w'<m e8 e0 fN cR cM de t4 e7 eV fi jw jI jH hM fu h8 t13 t14 t15 t16 kB kA lC t34 t35 y7 y6 AQ t56 t57 w
def iX.cd(e7:J)(eV fi:Nat)(jw:J)(jI jH:Nat)(hM:J)(fu h8:Nat)(w:World)(R:aq):Prop:=
 cond (((fu:Nat):Int)==0) (
  R (.returned (.tuple #[(0:Int),(4:Int)])) w) (
  κ prog 92 #[.slice e7 eV fi,.slice jw jI jH] w (λv6 cn=>
   b0 v6 λeI=>
   ξ (eI[0]?) λfJ=>
   br .i64 fJ λeK=>
   ξ (eI[1]?) λbj=>
   br .i64 bj λfl=>
   ο (decide (0<=eK)) (
    ο (decide (eK<((fu:Nat):Int))) (
     ξ hM λd4=>
     ∃c7,cn.cell? (d4.add (eK.toNat*1))=some (.int .i64 c7)/\
     (R (.returned (.tuple #[c7,fl])) cn)))) (au R))
def iX.δ(e8:J)(e0 fN:Nat)(cR:J)(cM de t4:Nat)(e7:J)(eV fi:Nat)(jw:J)(jI jH:Nat)(hM:J)(fu h8:Nat)(kB:J)(kA lC:Nat)(t34 t35:Int)(w:World)(R:aq)(a8:J->Nat->Nat->J->Nat->Nat->Nat->J->Nat->Nat->J->Nat->Nat->J->Nat->Nat->J->Nat->Nat->Int->Int->ao):Prop:=
 cond (decide (t35<t34)) (
  ο (decide (0<=t35)) (
   ο (decide (t35<((kA:Nat):Int))) (
    ξ kB λd1=>
    ∃σ,w.cell? (d1.add (t35.toNat*1))=some (.int .i64 σ)/\
    (∃ad,w.drew.cell? ⟨t4,1,none⟩=some (.int .i64 ad)/\
     (ο (decide (0<=t35)) (
      ο (decide (t35<((e0:Nat):Int))) (
       ξ e8 λd2=>
       ∃aA,w.drew.cell? (d2.add (t35.toNat*1))=some (.int .i64 aA)/\
       (κ prog 91 #[σ,ad,aA] w.drew (λv2 az=>
        b0 v2 λbN=>
        ξ (bN[0]?) λv3=>
        br .i64 v3 λak=>
        ξ (bN[1]?) λv4=>
        br .i64 v4 λaI=>
        ξ (bN[2]?) λv5=>
        br .i64 v5 λaV=>
        cond (aV !=0) (
         R (.returned (.tuple #[(0:Int),aV])) az) (
         iX.fG e8 e0 fN cR cM de t4 e7 eV fi jw jI jH hM fu h8 t35 σ ak aI kB kA lC t34 t35 cR cM de ((cM:Nat):Int) 0 az R a8)) (au R))))))))) (
  iX.cd e7 eV fi jw jI jH hM fu h8 w R)
def iX.bd(e8:J)(e0 fN:Nat)(cR:J)(cM de t4:Nat)(e7:J)(eV fi:Nat)(jw:J)(jI jH:Nat)(hM:J)(fu h8:Nat)(kB:J)(kA lC:Nat)(t34 t35:Int)(w:World)(R:aq):Prop:=
 ∃(bD:J->Nat->Nat->J->Nat->Nat->Nat->J->Nat->Nat->J->Nat->Nat->J->Nat->Nat->J->Nat->Nat->Int->Int->ao)(m:J->Nat->Nat->J->Nat->Nat->Nat->J->Nat->Nat->J->Nat->Nat->J->Nat->Nat->J->Nat->Nat->Int->Int->World->Nat),bD e8 e0 fN cR cM de t4 e7 eV fi jw jI jH hM fu h8 kB kA lC t34 t35 w/\
 ∀(e8:J)(e0:Nat)(fN:Nat)(cR:J)(cM:Nat)(de:Nat)(t4:Nat)(e7:J)(eV:Nat)(fi:Nat)(jw:J)(jI:Nat)(jH:Nat)(hM:J)(fu:Nat)(h8:Nat)(kB:J)(kA:Nat)(lC:Nat)(t34:Int)(t35:Int)(w:World),bD e8 e0 fN cR cM de t4 e7 eV fi jw jI jH hM fu h8 kB kA lC t34 t35 w->
 iX.δ e8 e0 fN cR cM de t4 e7 eV fi jw jI jH hM fu h8 kB kA lC t34 t35 w R λF2 F1 AL AO AN xG xH FU FT FR FX FW FV FZ y0 FY F4 F3 AM F5 uY w'=>bD F2 F1 AL AO AN xG xH FU FT FR FX FW FV FZ y0 FY F4 F3 AM F5 uY w'/\m F2 F1 AL AO AN xG xH FU FT FR FX FW FV FZ y0 FY F4 F3 AM F5 uY w'<m e8 e0 fN cR cM de t4 e7 eV fi jw jI jH hM fu h8 kB kA lC t34 t35 w
def iX.main(fg fW:Int)(gg:J)(e1 gk:Nat)(iW:J)(et jZ:Nat)(qC:J)(pI qB:Nat)(w:World)(R:aq):Prop:=
 aN w #[fg,fW] 28 λδ γ=>
 ∃(aK:ag),aK.size=2/\aw γ ⟨δ,0,none⟩ aK.toList/\
 (κ prog 90 #[.agg aK,.slice gg e1 gk] γ (λv1 τ=>
  dw v1 λθ=>
  cond (!θ) (
   R (.returned (.tuple #[(0:Int),(1:Int)])) τ) (
   ∃ζ,τ.cell? ⟨δ,0,none⟩=some (.int .i64 ζ)/\
   (cond (((et:Nat):Int)!=ζ) (
    R (.returned (.tuple #[(0:Int),(1:Int)])) τ) (
    iX.bd iW et jZ qC pI qB δ none 0 0 none 0 0 none 0 0 gg e1 gk ((e1:Nat):Int) 0 τ R)))) (au R))
abbrev iX.C(fg fW:Int)(gg:J)(e1 gk:Nat)(iW:J)(et jZ:Nat)(qC:J)(pI qB:Nat):=Calls prog 51 #[.agg #[fg,fW],.slice gg e1 gk,.slice iW et jZ,.slice qC pI qB]
theorem iX.ok:ais iX.main iX.C:=λ{_ _ _ _ _ _ _ _ _ _ _ _ R}h=>fc func51 [.tmp 8,.tmp 9] 100 (.seq .leaf (.block (.seq .leaf (.seq .leaf (.seq .leaf (.cut [(10,.slice),(11,.slice),(12,.slice)] (iX.cd · · · · · · · · · · R) (.seq .leaf (.block (.loop [(2,.slice),(3,.slice),(4,.cY),(10,.slice),(11,.slice),(12,.slice),(33,.slice),(34,.int .i64),(35,.int .i64)] (iX.bd · · · · · · · · · · · · · · · · · · · · · · R) λa8=>(.seq .leaf (.seq .leaf (.seq (.block (.seq .leaf (.seq .leaf (.seq .leaf (.cut [(2,.slice),(3,.slice),(4,.cY),(10,.slice),(11,.slice),(12,.slice),(13,.int .i64),(14,.int .i64),(15,.int .i64),(16,.int .i64),(33,.slice),(34,.int .i64),(35,.int .i64)] (iX.a1 · · · · · · · · · · · · · · · · · · · · · · · · · · R a8) (.seq .leaf (.block (.loop [(2,.slice),(3,.slice),(4,.cY),(10,.slice),(11,.slice),(12,.slice),(13,.int .i64),(14,.int .i64),(15,.int .i64),(16,.int .i64),(33,.slice),(34,.int .i64),(35,.int .i64),(55,.slice),(56,.int .i64),(57,.int .i64)] (iX.fG · · · · · · · · · · · · · · · · · · · · · · · · · · · · · · · R a8) λhJ=>.leaf))) (.cut [(2,.slice),(3,.slice),(4,.cY),(10,.slice),(11,.slice),(12,.slice),(13,.int .i64),(15,.int .i64),(16,.int .i64),(33,.slice),(34,.int .i64),(35,.int .i64),(72,.bool)] (iX.bP · · · · · · · · · · · · · · · · · · · · · · · · · · R a8) .leaf .leaf)))))) .leaf)))))) .leaf)))))) h
def Ax.main(a0:Int)(w:World)(R:aq):Prop:=
 cond (a0 !=0) (
  R (.panicked [{v:=(.iface 104 (.agg #[a0])),recovered:=false}]) w) (
  R (.returned (.tuple #[])) w)
abbrev Ax.C(a0:Int):=Calls prog 52 #[a0]
theorem Ax.ok:ic Ax.main Ax.C:=λh=>dg func52 [] 7 h
def De.main(a0:ag)(eM eN a2:Int)(w:World)(R:aq):Prop:=
 aN w a0 89 λδ γ=>
 aN γ #[eM,eN] 28 λθ τ=>
 aN τ #[a2] 3 λaF aa=>
 ∃(aK:ag),aK.size=24/\aw aa ⟨δ,0,none⟩ aK.toList/\
 (∃(bF:ag),bF.size=2/\aw aa ⟨θ,0,none⟩ bF.toList/\
  (κ prog 87 #[.agg aK,.agg bF] aa (λv1 az=>
   br .i64 v1 λζ=>
   cond (ζ !=0) (
    R (.returned (.tuple #[.slice none 0 0,ζ])) az) (
    ∃σ,az.cell? ⟨aF,0,none⟩=some (.int .i64 σ)/\
    (cond (decide (σ<0)) (
     R (.returned (.tuple #[.slice none 0 0,(1:Int)])) az) (
     ∃ad,az.cell? ⟨aF,0,none⟩=some (.int .i64 ad)/\
     (∃aA,az.cell? ⟨θ,0,none⟩=some (.int .i64 aA)/\
      (cond (decide (ad>=aA)) (
       R (.returned (.tuple #[.slice none 0 0,(1:Int)])) az) (
       ∃(bZ:ag),bZ.size=24/\aw az ⟨δ,0,none⟩ bZ.toList/\
       (κ prog 88 #[.agg bZ] az (λv2 ba=>
        b0 v2 λbN=>
        ξ (bN[0]?) λv3=>
        cN v3 λab ay c1=>
        ξ (bN[1]?) λv4=>
        cN v4 λaX bu c2=>
        ξ (bN[2]?) λv5=>
        br .i64 v5 λak=>
        κ prog 93 #[.slice ab ay c1,.func (.func 94) #[] #[.pointer (some ⟨aF,0,none⟩)]] ba (λv6 b5=>
         cN v6 λbh dB bI=>
         R (.returned (.tuple #[.slice bh dB bI,(0:Int)])) b5) (au R)) (au R))))))))) (au R)))
abbrev De.C(a0:ag)(eM eN a2:Int):=Calls prog 53 #[.agg a0,.agg #[eM,eN],a2]
theorem De.ok:kT De.main De.C:=λh=>dg func53 [.tmp 6,.tmp 7] 35 h
def yN.main(fg fW:Int)(ru rr:Nat)(w:World)(R:aq):Prop:=
 aN w #[fg,fW] 28 λδ γ=>
 ∃(aK:ag),aK.size=2/\aw γ ⟨δ,0,none⟩ aK.toList/\
 (κ prog 73 #[.agg aK] γ (λv1 τ=>
  br .i64 v1 λζ=>
  cond (ζ !=0) (
   R (.returned (.tuple #[(0:Int),ζ])) τ) (
   ∃σ,τ.cell? ⟨δ,1,none⟩=some (.int .i64 σ)/\
   (κ prog 95 #[.complex .f64 ru rr,σ] τ (λv2 az=>
    b0 v2 λbN=>
    ξ (bN[0]?) λv3=>
    br .i64 v3 λad=>
    ξ (bN[1]?) λv4=>
    br .i64 v4 λaA=>
    cond (aA !=0) (
     R (.returned (.tuple #[(0:Int),aA])) az) (
     ∃ak,az.cell? ⟨δ,0,none⟩=some (.int .i64 ak)/\
     (∃aI,az.cell? ⟨δ,1,none⟩=some (.int .i64 aI)/\
      (cond (decide (ad>=(IntKind.i64.wrap (ak*aI)))) (
       R (.returned (.tuple #[(0:Int),(5:Int)])) az) (
       R (.returned (.tuple #[(IntKind.i64.wrap (40+ad)),(0:Int)])) az))))) (au R)))) (au R))
abbrev yN.C(fg fW:Int)(ru rr:Nat):=Calls prog 54 #[.agg #[fg,fW],.complex .f64 ru rr]
theorem yN.ok:kT yN.main yN.C:=λh=>dg func54 [.tmp 4,.tmp 5] 35 h
def E0.main(a0 gg:J)(e1 gk:Nat)(a2:Int)(w:World)(R:aq):Prop:=
 ξ a0 λd1=>
 ∃ab,w.cell? (d1.add 5)=some (.pointer ab)/\
 (κ prog 96 #[.pointer ab,a2] w (λv1 γ=>
  b0 v1 λbN=>
  ξ (bN[0]?) λv2=>
  lq v2 λcG m1=>
  ξ (bN[1]?) λv3=>
  br .i64 v3 λζ=>
  κ prog 52 #[ζ] γ (λv4 aa=>
   b0 v4 λeI=>
   ξ a0 λd2=>
   ∃(aK:ag),aK.size=2/\aw aa (d2.add 2) aK.toList/\
   (κ prog 54 #[.agg aK,.complex .f64 cG m1] aa (λv5 aE=>
    b0 v5 λhY=>
    ξ (hY[0]?) λv6=>
    br .i64 v6 λσ=>
    ξ (hY[1]?) λfJ=>
    br .i64 fJ λad=>
    ξ a0 λd3=>
    ∃aX,aE.cell? (d3.add 1)=some (.pointer aX)/\
    (aN aE #[σ,.slice gg e1 gk] 130 λδ bm=>
     κ prog 63 #[.pointer aX,.slice (some ⟨δ,0,none⟩) 1 1] bm (λbj b5=>
      br .i64 bj λaA=>
      κ prog 52 #[aA] b5 (λv9 c6=>
       b0 v9 λmz=>
       ξ a0 λd4=>
       ∃bh ay c1,c6.drew.cell? (d4.add 11)=some (.slice bh ay c1)/\
       (ξ ((FloatKind.f64.decode cG).toInt .zero) λak=>
        ο (decide (IntKind.i64.min<=ak)) (
         ο (decide (ak<=IntKind.i64.max)) (
          ξ a0 λd5=>
          ∃aI,c6.drew.cell? (d5.add 10)=some (.int .i64 aI)/\
          (ο (decide (0<=ak)) (
           ο (decide (ak<((ay:Nat):Int))) (
           ξ bh λd6=>
           (c6.drew.cell? (d6.add (ak.toNat*1))).isSome=true/\c6.drew.frozen? (d6.add (ak.toNat*1))=false/\∀cn,cn=c6.drew.setCell (d6.add (ak.toNat*1)) (.int .i64 aI)->
           (R (.returned (.complex .f64 cG m1)) cn)))))))) (au R)) (au R))) (au R))) (au R)) (au R))
abbrev E0.C(a0 gg:J)(e1 gk:Nat)(a2:Int):=Calls prog 55 #[.pointer a0,.slice gg e1 gk,a2]
theorem E0.ok:wz E0.main E0.C:=λh=>dg func55 [.tmp 6] 54 h
def ti.δ(lW:J)(lV py:Nat)(e8:J)(e0 fN t3 t6:Nat)(t17 t18:Int)(w:World)(R:aq)(a8:J->Nat->Nat->J->Nat->Nat->Nat->Nat->Int->Int->ao):Prop:=
 cond (decide (t18<t17)) (
  ∃(bF:ag),bF.size=24/\aw w.drew ⟨t3,0,none⟩ bF.toList/\
  (ο (decide (0<=t18)) (
   ο (decide (t18<((lV:Nat):Int))) (
    ξ lW λd1=>
    ∃cG m1,w.drew.cell? (d1.add (t18.toNat*1))=some (.complex .f64 cG m1)/\
    (ο (decide (0<=t18)) (
     ο (decide (t18<((e0:Nat):Int))) (
      ξ e8 λd2=>
      ∃fM m2,w.drew.cell? (d2.add (t18.toNat*1))=some (.complex .f64 fM m2)/\
      (κ prog 97 #[.agg bF,.complex .f64 cG m1,.complex .f64 fM m2] w.drew (λv1 az=>
       b0 v1 λbN=>
       ξ (bN[0]?) λv2=>
       dq v2 λbZ=>
       ξ (bN[1]?) λv3=>
       br .i64 v3 λζ=>
       ο (decide (bZ.size=24)) (
        bG az ⟨t3,0,none⟩ bZ.toList λba=>
        (cond (ζ !=0) (
         bG ba ⟨t6,0,none⟩ [(.int .i64 0),(.int .i64 0),(.int .i64 0),(.int .i64 0),(.int .i64 0),(.int .i64 0),(.int .i64 0),(.int .i64 0),(.int .i64 0),(.int .i64 0),(.int .i64 0),(.int .i64 0),(.int .i64 0),(.int .i64 0),(.int .i64 0),(.int .i64 0),(.slice none 0 0),(.slice none 0 0),(.slice none 0 0),(.slice none 0 0),(.slice none 0 0),(.slice none 0 0),(.slice none 0 0),(.slice none 0 0)] λbm=>
         (∃(bW:ag),bW.size=24/\aw bm ⟨t6,0,none⟩ bW.toList/\
         (R (.returned (.tuple #[.agg bW,ζ])) bm))) (
         a8 lW lV py e8 e0 fN t3 t6 t17 (IntKind.i64.wrap (t18+1)) ba)))) (au R))))))))) (
  ∃(cE:ag),cE.size=24/\aw w ⟨t3,0,none⟩ cE.toList/\
  (ο (decide (cE.size=24)) (
   bG w ⟨t6,0,none⟩ cE.toList λb5=>
   (∃(dM:ag),dM.size=24/\aw b5 ⟨t6,0,none⟩ dM.toList/\
    (R (.returned (.tuple #[.agg dM,(0:Int)])) b5)))))
def ti.bd:=abX ti.δ
def ti.main(a0:ag)(gg:J)(e1 gk:Nat)(iW:J)(et jZ:Nat)(w:World)(R:aq):Prop:=
 aN w a0 89 λδ γ=>
 aN γ #[(0:Int),(0:Int),(0:Int),(0:Int),(0:Int),(0:Int),(0:Int),(0:Int),(0:Int),(0:Int),(0:Int),(0:Int),(0:Int),(0:Int),(0:Int),(0:Int),.slice none 0 0,.slice none 0 0,.slice none 0 0,.slice none 0 0,.slice none 0 0,.slice none 0 0,.slice none 0 0,.slice none 0 0] 89 λθ τ=>
 cond (((e1:Nat):Int)!=((et:Nat):Int)) (
  bG τ ⟨θ,0,none⟩ [(.int .i64 0),(.int .i64 0),(.int .i64 0),(.int .i64 0),(.int .i64 0),(.int .i64 0),(.int .i64 0),(.int .i64 0),(.int .i64 0),(.int .i64 0),(.int .i64 0),(.int .i64 0),(.int .i64 0),(.int .i64 0),(.int .i64 0),(.int .i64 0),(.slice none 0 0),(.slice none 0 0),(.slice none 0 0),(.slice none 0 0),(.slice none 0 0),(.slice none 0 0),(.slice none 0 0),(.slice none 0 0)] λaa=>
  (∃(aK:ag),aK.size=24/\aw aa ⟨θ,0,none⟩ aK.toList/\
   (R (.returned (.tuple #[.agg aK,(1:Int)])) aa))) (
  ti.bd gg e1 gk iW et jZ δ θ ((e1:Nat):Int) 0 τ R)
abbrev ti.C(a0:ag)(gg:J)(e1 gk:Nat)(iW:J)(et jZ:Nat):=Calls prog 56 #[.agg a0,.slice gg e1 gk,.slice iW et jZ]
theorem ti.ok:Gv ti.main ti.C:=λ{_ _ _ _ _ _ _ _ R}h=>fc func56 [.cell 6 89,.tmp 7] 40 (.seq .leaf (.seq .leaf (.seq .leaf (.seq (.seq .leaf (.block (.loop [(1,.slice),(2,.slice),(3,.cY),(6,.cY),(17,.int .i64),(18,.int .i64)] (ti.bd · · · · · · · · · · · R) λa8=>.leaf))) .leaf)))) h
def C2.main(a0:J)(w:World)(R:aq):Prop:=
 κ prog 35 #[.pointer a0] w (λv1 γ=>
  br .i64 v1 λζ=>
  cond (ζ !=0) (
   R (.returned (.int .i64 ζ)) γ) (
   κ prog 98 #[.pointer a0] γ (λv2 aa=>
    dw v2 λδ=>
    cond δ (
     R (.returned (.int .i64 10)) aa) (
     ξ a0 λd1=>
     ∃ab ay c1,aa.drew.cell? d1=some (.slice ab ay c1)/\
     (ξ a0 λd2=>
      ∃aX bu c2,aa.drew.cell? (d2.add 1)=some (.slice aX bu c2)/\
      (vq aa.drew ab ay aX bu 64 λaE=>
       ξ a0 λd3=>
       ed aE (d3.add 2) (.slice none 0 0) λba=>
       (R (.returned (.int .i64 0)) ba))))) (au R))) (au R)
abbrev C2.C(a0:J):=Calls prog 57 #[.pointer a0]
theorem C2.ok:ic C2.main C2.C:=λh=>dg func57 [.tmp 2] 23 h
def pq.a1(t0 Cp:J)(Co F6:Nat)(t11:Int)(w:World)(R:aq):Prop:=
 κ prog 57 #[.pointer t0] w (λv6 c6=>
  br .i64 v6 λaA=>
  cond (aA !=0) (
   R (.returned (.int .i64 aA)) c6) (
   ο (decide (0<((Co:Nat):Int))) (
    ξ Cp λd2=>
    ∃bh dB bI,c6.cell? d2=some (.slice bh dB bI)/\
    (aN c6 #[t11,.slice bh dB bI] 130 λae cn=>
     κ prog 63 #[.pointer t0,.slice (some ⟨ae,0,none⟩) 1 1] cn (λfJ dn=>
      br .i64 fJ λak=>
      cond (ak !=0) (
       R (.returned (.int .i64 ak)) dn) (
       κ prog 57 #[.pointer t0] dn (λbj eA=>
        br .i64 bj λaI=>
        R (.returned (.int .i64 aI)) eA) (au R))) (au R))))) (au R)
def pq.δ(t0 Cp:J)(Co F6:Nat)(t11:Int)(PJ:J)(PI Wd:Nat)(t33 t34:Int)(w:World)(R:aq)(a8:J->J->Nat->Nat->Int->J->Nat->Nat->Int->Int->ao):Prop:=
 cond (decide (t34<t33)) (
  ο (decide (0<=t34)) (
   ο (decide (t34<((PI:Nat):Int))) (
    ξ PJ λd1=>
    ∃aX bu c2,w.cell? (d1.add (t34.toNat*1))=some (.slice aX bu c2)/\
    (aN w #[(IntKind.i64.wrap ((IntKind.i64.wrap (t11+1))+t34)),.slice aX bu c2] 130 λaF bm=>
     κ prog 63 #[.pointer t0,.slice (some ⟨aF,0,none⟩) 1 1] bm (λv5 b5=>
      br .i64 v5 λad=>
      cond (ad !=0) (
       R (.returned (.int .i64 ad)) b5) (
       a8 t0 Cp Co F6 t11 PJ PI Wd t33 (IntKind.i64.wrap (t34+1)) b5)) (au R))))) (
  pq.a1 t0 Cp Co F6 t11 w R)
def pq.bd:=abX pq.δ
def pq.main(a0:J)(ar:ag)(Q8 Q9 a3:Int)(w:World)(R:aq):Prop:=
 aN w ar 89 λδ γ=>
 aN γ #[Q8,Q9] 28 λθ τ=>
 cond (Option.isNone a0) (
  R (.returned (.int .i64 1)) τ) (
  ∃(aK:ag),aK.size=24/\aw τ ⟨δ,0,none⟩ aK.toList/\
  (∃(bF:ag),bF.size=2/\aw τ ⟨θ,0,none⟩ bF.toList/\
   (κ prog 99 #[.agg aK,.agg bF,a3] τ (λv1 aa=>
    b0 v1 λbN=>
    ξ (bN[0]?) λv2=>
    cN v2 λab ay c1=>
    ξ (bN[1]?) λv3=>
    br .i64 v3 λζ=>
    cond (ζ !=0) (
     R (.returned (.int .i64 ζ)) aa) (
     κ prog 100 #[a3] aa (λv4 aE=>
      br .i64 v4 λσ=>
      ο (decide (1<=((ay:Nat):Int))) (
       pq.bd a0 ab ay c1 σ (du ab c1 1 1) (ay-1) (c1-1) (((ay-1):Nat):Int) 0 aE R)) (au R))) (au R))))
abbrev pq.C(a0:J)(ar:ag)(Q8 Q9 a3:Int):=Calls prog 58 #[.pointer a0,.agg ar,.agg #[Q8,Q9],a3]
theorem pq.ok:wz pq.main pq.C:=λ{_ _ _ _ _ _ R}h=>fc func58 [.tmp 8] 70 (.seq .leaf (.seq .leaf (.seq .leaf (.seq .leaf (.seq .leaf (.cut [(0,.ptr),(9,.slice),(11,.int .i64)] (pq.a1 · · · · · · R) (.seq .leaf (.block (.loop [(0,.ptr),(9,.slice),(11,.int .i64),(32,.slice),(33,.int .i64),(34,.int .i64)] (pq.bd · · · · · · · · · · · R) λa8=>.leaf))) .leaf)))))) h
def sh.a1(t0:J)(t1:Int)(t7:Bool)(w:World)(R:aq):Prop:=
 cond t7 (
  R (.returned (.int .i64 1)) w) (
  ξ t0 λd2=>
  ∃σ,w.cell? (d2.add 3)=some (.int .i64 σ)/\
  (cond (t1==σ) (
   R (.returned (.int .i64 12)) w) (
   ξ t0 λd3=>
   ∃ab ay c1,w.cell? (d3.add 2)=some (.slice ab ay c1)/\
   (κ prog 68 #[.slice ab ay c1,t1] w (λv1 γ=>
    dw v1 λδ=>
    cond δ (
     R (.returned (.int .i64 12)) γ) (
     ξ t0 λd4=>
     ∃aX bu c2,γ.cell? (d4.add 2)=some (.slice aX bu c2)/\
     (κ prog 101 #[.slice aX bu c2,t1] γ (λv2 aa=>
      b0 v2 λbN=>
      ξ (bN[0]?) λv3=>
      br .i64 v3 λad=>
      ξ (bN[1]?) λv4=>
      dw v4 λθ=>
      ξ t0 λd5=>
      ∃bh dB bI,aa.cell? (d5.add 2)=some (.slice bh dB bI)/\
      (aN aa #[t1] 3 λaF aE=>
       κ prog 102 #[.slice bh dB bI,ad,.slice (some ⟨aF,0,none⟩) 1 1] aE (λv5 ba=>
        cN v5 λeg jg hs=>
        ξ t0 λd6=>
        ed ba (d6.add 2) (.slice eg jg hs) λb5=>
        (R (.returned (.int .i64 0)) b5)) (au R))) (au R)))) (au R)))))
def sh.main(a0:J)(ar:Int)(w:World)(R:aq):Prop:=
 cond (Option.isNone a0) (
  sh.a1 a0 ar true w R) (
  cond (decide (ar<0)) (
   sh.a1 a0 ar true w R) (
   ξ a0 λd1=>
   ∃ζ,w.cell? d1=some (.int .i64 ζ)/\
   (sh.a1 a0 ar (decide (ar>=ζ)) w R)))
abbrev sh.C(a0:J)(ar:Int):=Calls prog 59 #[.pointer a0,ar]
theorem sh.ok:jL sh.main sh.C:=λ{_ _ _ R}h=>fc func59 [.tmp 4] 58 (.seq .leaf (.seq (.block (.cut [(0,.ptr),(1,.int .i64),(7,.bool)] (sh.a1 · · · · R) .leaf .leaf)) .leaf)) h
def DF.main(fg fW oi oj:Int)(CQ:J)(CP CO:Nat)(w:World)(R:aq):Prop:=
 aN w #[fg,fW,oi,oj,.slice CQ CP CO] 40 λδ γ=>
 ∃ζ,γ.cell? ⟨δ,0,none⟩=some (.int .i64 ζ)/\
 (cond (decide (ζ<1)) (
  R (.returned (.int .i64 1)) γ) (
  ∃σ,γ.cell? ⟨δ,0,none⟩=some (.int .i64 σ)/\
  (cond (decide (σ>9)) (
   R (.returned (.int .i64 1)) γ) (
   R (.returned (.int .i64 0)) γ))))
abbrev DF.C(fg fW oi oj:Int)(CQ:J)(CP CO:Nat):=Calls prog 60 #[.agg #[fg,fW,oi,oj,.slice CQ CP CO]]
theorem DF.ok:Gv DF.main DF.C:=λh=>dg func60 [.tmp 2] 11 h
def DK.main(fg fW oi oj:Int)(CQ:J)(CP CO:Nat)(w:World)(R:aq):Prop:=
 aN w #[fg,fW,oi,oj,.slice CQ CP CO] 40 λδ γ=>
 aN γ #[(0:Int),(0:Int),(0:Int),(0:Int),.slice none 0 0] 40 λθ τ=>
 ∃ab ay c1,τ.cell? ⟨δ,4,none⟩=some (.slice ab ay c1)/\
 (κ prog 36 #[.slice ab ay c1] τ (λv1 aa=>
  cN v1 λaX bu c2=>
  ed aa ⟨δ,4,none⟩ (.slice aX bu c2) λaE=>
  (∃(aK:ag),aK.size=5/\aw aE ⟨δ,0,none⟩ aK.toList/\
   (ο (decide (aK.size=5)) (
    bG aE ⟨θ,0,none⟩ aK.toList λba=>
    (∃(bF:ag),bF.size=5/\aw ba ⟨θ,0,none⟩ bF.toList/\
     (R (.returned (.agg bF)) ba)))))) (au R))
abbrev DK.C(fg fW oi oj:Int)(CQ:J)(CP CO:Nat):=Calls prog 61 #[.agg #[fg,fW,oi,oj,.slice CQ CP CO]]
theorem DK.ok:Gv DK.main DK.C:=λh=>dg func61 [.cell 2 40] 8 h
def EW.main(fg fW:Int)(w:World)(R:aq):Prop:=
 aN w #[fg,fW] 28 λδ γ=>
 ∃(aK:ag),aK.size=2/\aw γ ⟨δ,0,none⟩ aK.toList/\
 (κ prog 73 #[.agg aK] γ (λv1 τ=>
  br .i64 v1 λζ=>
  cond (ζ !=0) (
   R (.returned (.tuple #[(0:Int),ζ])) τ) (
   ∃σ,τ.cell? ⟨δ,0,none⟩=some (.int .i64 σ)/\
   (∃ad,τ.cell? ⟨δ,1,none⟩=some (.int .i64 ad)/\
    (R (.returned (.tuple #[(IntKind.i64.wrap (40+(IntKind.i64.wrap (σ*ad)))),(0:Int)])) τ)))) (au R))
abbrev EW.C(fg fW:Int):=Calls prog 62 #[.agg #[fg,fW]]
theorem EW.ok:jL EW.main EW.C:=λh=>dg func62 [.tmp 2,.tmp 3] 16 h
def rA.δ(t2:Nat)(Ly:J)(Lx PG:Nat)(t19 t20:Int)(w:World)(R:aq)(a8:Nat->J->Nat->Nat->Int->Int->ao):Prop:=
 cond (decide (t20<t19)) (
  ο (decide (0<=t20)) (
   ο (decide (t20<((Lx:Nat):Int))) (
    ξ Ly λd1=>
    ∃(aK:ag),aK.size=2/\aw w (d1.add (t20.toNat*2)) aK.toList/\
    (aN w #[(0:Int),.slice none 0 0] 130 λae b5=>
     ο (decide (aK.size=2)) (
      bG b5 ⟨ae,0,none⟩ aK.toList λcf=>
      (∃aX,cf.cell? ⟨t2,0,none⟩=some (.pointer aX)/\
       (κ prog 98 #[.pointer aX] cf (λv4 c6=>
        dw v4 λc8=>
        cond c8 (
         R (.returned (.int .i64 10)) c6) (
         ∃bh,c6.drew.cell? ⟨t2,0,none⟩=some (.pointer bh)/\
         (ξ bh λd2=>
          ∃eg ay c1,c6.drew.cell? (d2.add 1)=some (.slice eg ay c1)/\
          (∃σ,c6.drew.cell? ⟨ae,0,none⟩=some (.int .i64 σ)/\
           (∃fH bu c2,c6.drew.cell? ⟨ae,1,none⟩=some (.slice fH bu c2)/\
            (ο (decide (64<=bu)) (
            ξ fH λd3=>
            ∃(bF:ag),bF.size=64/\aw c6.drew d3 bF.toList/\
            (ο (decide (0<=σ)) (
            ο (decide (σ<((ay:Nat):Int))) (
            ξ eg λd4=>
            ο (decide (bF.size=64)) (
            bG c6.drew (d4.add (σ.toNat*64)) bF.toList λcn=>
            (∃jG,cn.drew.cell? ⟨t2,0,none⟩=some (.pointer jG)/\
            (∃p8,cn.drew.cell? ⟨t2,0,none⟩=some (.pointer p8)/\
            (ξ p8 λd5=>
            ∃iM dB bI,cn.drew.cell? (d5.add 2)=some (.slice iM dB bI)/\
            (∃ad,cn.drew.cell? ⟨ae,0,none⟩=some (.int .i64 ad)/\
            (∃eY jg hs,cn.drew.cell? ⟨ae,1,none⟩=some (.slice eY jg hs)/\
            (ο (decide (64<=jg)) (
            ξ eY λd6=>
            ∃(bZ:ag),bZ.size=64/\aw cn.drew d6 bZ.toList/\
            (ξ (Instr.fill (λi=>[(0,1),(1,64)].toArray[i]?) #[(0:Int),.int .u8 0,.int .u8 0,.int .u8 0,.int .u8 0,.int .u8 0,.int .u8 0,.int .u8 0,.int .u8 0,.int .u8 0,.int .u8 0,.int .u8 0,.int .u8 0,.int .u8 0,.int .u8 0,.int .u8 0,.int .u8 0,.int .u8 0,.int .u8 0,.int .u8 0,.int .u8 0,.int .u8 0,.int .u8 0,.int .u8 0,.int .u8 0,.int .u8 0,.int .u8 0,.int .u8 0,.int .u8 0,.int .u8 0,.int .u8 0,.int .u8 0,.int .u8 0,.int .u8 0,.int .u8 0,.int .u8 0,.int .u8 0,.int .u8 0,.int .u8 0,.int .u8 0,.int .u8 0,.int .u8 0,.int .u8 0,.int .u8 0,.int .u8 0,.int .u8 0,.int .u8 0,.int .u8 0,.int .u8 0,.int .u8 0,.int .u8 0,.int .u8 0,.int .u8 0,.int .u8 0,.int .u8 0,.int .u8 0,.int .u8 0,.int .u8 0,.int .u8 0,.int .u8 0,.int .u8 0,.int .u8 0,.int .u8 0,.int .u8 0,.int .u8 0] [(0,(.int .i64 ad)),(1,(.agg bZ))]) λbW=>
            ξ (Instr.fill (λi=>some (i*65,65)) (madeCells #[(0:Int),.int .u8 0,.int .u8 0,.int .u8 0,.int .u8 0,.int .u8 0,.int .u8 0,.int .u8 0,.int .u8 0,.int .u8 0,.int .u8 0,.int .u8 0,.int .u8 0,.int .u8 0,.int .u8 0,.int .u8 0,.int .u8 0,.int .u8 0,.int .u8 0,.int .u8 0,.int .u8 0,.int .u8 0,.int .u8 0,.int .u8 0,.int .u8 0,.int .u8 0,.int .u8 0,.int .u8 0,.int .u8 0,.int .u8 0,.int .u8 0,.int .u8 0,.int .u8 0,.int .u8 0,.int .u8 0,.int .u8 0,.int .u8 0,.int .u8 0,.int .u8 0,.int .u8 0,.int .u8 0,.int .u8 0,.int .u8 0,.int .u8 0,.int .u8 0,.int .u8 0,.int .u8 0,.int .u8 0,.int .u8 0,.int .u8 0,.int .u8 0,.int .u8 0,.int .u8 0,.int .u8 0,.int .u8 0,.int .u8 0,.int .u8 0,.int .u8 0,.int .u8 0,.int .u8 0,.int .u8 0,.int .u8 0,.int .u8 0,.int .u8 0,.int .u8 0] (1*65)) [(0,(.agg bW))]) λcE=>
            aN cn.drew cE 189 λfq dn=>
            dn.cell? (d5.add 2)=some (.slice iM dB bI)/\
            (dn.cell? ⟨t2,0,none⟩=some (.pointer p8)/\
            (dn.cell? ⟨t2,0,none⟩=some (.pointer jG)/\
            (gK dn iM dB bI 1 (a7 dn (some ⟨fq,0,none⟩)) 189 65 72 #[(0:Int),.int .u8 0,.int .u8 0,.int .u8 0,.int .u8 0,.int .u8 0,.int .u8 0,.int .u8 0,.int .u8 0,.int .u8 0,.int .u8 0,.int .u8 0,.int .u8 0,.int .u8 0,.int .u8 0,.int .u8 0,.int .u8 0,.int .u8 0,.int .u8 0,.int .u8 0,.int .u8 0,.int .u8 0,.int .u8 0,.int .u8 0,.int .u8 0,.int .u8 0,.int .u8 0,.int .u8 0,.int .u8 0,.int .u8 0,.int .u8 0,.int .u8 0,.int .u8 0,.int .u8 0,.int .u8 0,.int .u8 0,.int .u8 0,.int .u8 0,.int .u8 0,.int .u8 0,.int .u8 0,.int .u8 0,.int .u8 0,.int .u8 0,.int .u8 0,.int .u8 0,.int .u8 0,.int .u8 0,.int .u8 0,.int .u8 0,.int .u8 0,.int .u8 0,.int .u8 0,.int .u8 0,.int .u8 0,.int .u8 0,.int .u8 0,.int .u8 0,.int .u8 0,.int .u8 0,.int .u8 0,.int .u8 0,.int .u8 0,.int .u8 0,.int .u8 0] λVb iC dX=>
            dX.cell? ⟨t2,0,none⟩=some (.pointer jG)/\
            (ξ jG λd7=>
            ed dX (d7.add 2) (.slice Vb (dB+1) iC) λeA=>
            (a8 t2 Ly Lx PG t19 (IntKind.i64.wrap (t20+1)) eA)))))))))))))))))))))))) (au R)))))))) (
  R (.returned (.int .i64 0)) w)
def rA.bd:=ph rA.δ
def rA.main(a0 gg:J)(e1 gk:Nat)(w:World)(R:aq):Prop:=
 aN w #[.pointer a0] 23 λδ γ=>
 ∃ab,γ.cell? ⟨δ,0,none⟩=some (.pointer ab)/\
 (κ prog 35 #[.pointer ab] γ (λv1 τ=>
  br .i64 v1 λζ=>
  cond (ζ !=0) (
   R (.returned (.int .i64 ζ)) τ) (
   κ prog 103 #[.slice gg e1 gk,.func (.func 104) #[] #[]] τ (λv2 az=>
    dw v2 λθ=>
    cond θ (
     R (.returned (.int .i64 6)) az) (
     κ prog 103 #[.slice gg e1 gk,.func (.func 105) #[] #[.pointer (some ⟨δ,0,none⟩)]] az (λv3 ba=>
      dw v3 λaF=>
      cond aF (
       R (.returned (.int .i64 5)) ba) (
       rA.bd δ gg e1 gk ((e1:Nat):Int) 0 ba R)) (au R))) (au R))) (au R))
abbrev rA.C(a0 gg:J)(e1 gk:Nat):=Calls prog 63 #[.pointer a0,.slice gg e1 gk]
theorem rA.ok:kT rA.main rA.C:=λ{_ _ _ _ _ R}h=>fc func63 [.tmp 4] 54 (.seq .leaf (.seq .leaf (.seq .leaf (.seq .leaf (.seq (.seq .leaf (.block (.loop [(2,.cY),(18,.slice),(19,.int .i64),(20,.int .i64)] (rA.bd · · · · · · · R) λa8=>.leaf))) .leaf))))) h
def oX.a1(t2 t3:Nat)(t4:Int)(w:World)(R:aq):Prop:=
 cond (t4==0) (
  ∃(jB:ag),jB.size=24/\aw w.drew ⟨t2,0,none⟩ jB.toList/\
  (∃(kJ:ag),kJ.size=2/\aw w.drew ⟨t3,0,none⟩ kJ.toList/\
   (ο (decide (jB.size=24)) (
    bG w.drew ⟨t2,0,none⟩ jB.toList λfE=>
    (ο (decide (kJ.size=2)) (
     aw fE ⟨t3,0,none⟩ kJ.toList/\
     (ο (decide (kJ.size=2)) (
      bG fE ⟨t3,0,none⟩ kJ.toList λeD=>
      (∃(mF:ag),mF.size=24/\aw eD ⟨t2,0,none⟩ mF.toList/\
       (∃(mG:ag),mG.size=2/\aw eD ⟨t3,0,none⟩ mG.toList/\
        (R (.returned (.tuple #[.agg mF,.agg mG,(0:Int),(11:Int)])) eD))))))))))) (
  ∃(jO:ag),jO.size=24/\aw w.drew ⟨t2,0,none⟩ jO.toList/\
  (∃(j0:ag),j0.size=2/\aw w.drew ⟨t3,0,none⟩ j0.toList/\
   (ο (decide (jO.size=24)) (
    bG w.drew ⟨t2,0,none⟩ jO.toList λfv=>
    (ο (decide (j0.size=2)) (
     aw fv ⟨t3,0,none⟩ j0.toList/\
     (ο (decide (j0.size=2)) (
      bG fv ⟨t3,0,none⟩ j0.toList λeJ=>
      (∃(mb:ag),mb.size=24/\aw eJ ⟨t2,0,none⟩ mb.toList/\
       (∃(mc:ag),mc.size=2/\aw eJ ⟨t3,0,none⟩ mc.toList/\
        (R (.returned (.tuple #[.agg mb,.agg mc,t4,(0:Int)])) eJ)))))))))))
def oX.δ(t0:J)(t2 t3:Nat)(t4 t17:Int)(w:World)(R:aq)(a8:J->Nat->Nat->Int->Int->ao):Prop:=
 cond (decide (t17<2)) (
  κ prog 100 #[t17] w (λv1 aE=>
   br .i64 v1 λζ=>
   κ prog 106 #[.pointer t0,ζ] aE (λv2 bm=>
    b0 v2 λbN=>
    ξ (bN[0]?) λv3=>
    cN v3 λab ay c1=>
    ξ (bN[1]?) λv4=>
    br .i64 v4 λσ=>
    cond (σ==10) (
     bG bm ⟨t2,0,none⟩ [(.int .i64 0),(.int .i64 0),(.int .i64 0),(.int .i64 0),(.int .i64 0),(.int .i64 0),(.int .i64 0),(.int .i64 0),(.int .i64 0),(.int .i64 0),(.int .i64 0),(.int .i64 0),(.int .i64 0),(.int .i64 0),(.int .i64 0),(.int .i64 0),(.slice none 0 0),(.slice none 0 0),(.slice none 0 0),(.slice none 0 0),(.slice none 0 0),(.slice none 0 0),(.slice none 0 0),(.slice none 0 0)] λcf=>
     (bG cf ⟨t3,0,none⟩ [(.int .i64 0),(.int .i64 0)] λc6=>
      (∃(cE:ag),cE.size=24/\aw c6 ⟨t2,0,none⟩ cE.toList/\
       (∃(dM:ag),dM.size=2/\aw c6 ⟨t3,0,none⟩ dM.toList/\
        (R (.returned (.tuple #[.agg cE,.agg dM,(0:Int),σ])) c6))))) (
     κ prog 107 #[.slice ab ay c1] bm (λv5 cA=>
      b0 v5 λeI=>
      ξ (eI[0]?) λv6=>
      dq v6 λgv=>
      ξ (eI[1]?) λfJ=>
      dq fJ λgM=>
      ξ (eI[2]?) λbj=>
      br .i64 bj λad=>
      ξ (eI[3]?) λv9=>
      br .i64 v9 λaA=>
      aN cA #[(0:Int),(0:Int),(0:Int),(0:Int),(0:Int),(0:Int),(0:Int),(0:Int),(0:Int),(0:Int),(0:Int),(0:Int),(0:Int),(0:Int),(0:Int),(0:Int),.slice none 0 0,.slice none 0 0,.slice none 0 0,.slice none 0 0,.slice none 0 0,.slice none 0 0,.slice none 0 0,.slice none 0 0] 89 λaF dn=>
      aN dn #[(0:Int),(0:Int)] 28 λae dX=>
      ο (decide (gv.size=24)) (
       bG dX ⟨aF,0,none⟩ gv.toList λeA=>
       (ο (decide (gM.size=2)) (
         bG eA ⟨ae,0,none⟩ gM.toList λeR=>
         (cond (aA==0) (
          cond (decide (ad>t4)) (
           ∃(gN:ag),gN.size=24/\aw eR.drew ⟨aF,0,none⟩ gN.toList/\
           (∃(iE:ag),iE.size=2/\aw eR.drew ⟨ae,0,none⟩ iE.toList/\
            (ο (decide (gN.size=24)) (
            bG eR.drew ⟨t2,0,none⟩ gN.toList λga=>
            (ο (decide (iE.size=2)) (
            aw ga ⟨ae,0,none⟩ iE.toList/\
            (ο (decide (iE.size=2)) (
            bG ga ⟨t3,0,none⟩ iE.toList λfO=>
            (a8 t0 t2 t3 ad (IntKind.i64.wrap (t17+1)) fO))))))))) (
           a8 t0 t2 t3 t4 (IntKind.i64.wrap (t17+1)) eR)) (
          a8 t0 t2 t3 t4 (IntKind.i64.wrap (t17+1)) eR)))))) (au R))) (au R)) (au R)) (
  oX.a1 t2 t3 t4 w R)
def oX.bd:=Aj oX.δ
def oX.main(a0:J)(w:World)(R:aq):Prop:=
 aN w #[(0:Int),(0:Int),(0:Int),(0:Int),(0:Int),(0:Int),(0:Int),(0:Int),(0:Int),(0:Int),(0:Int),(0:Int),(0:Int),(0:Int),(0:Int),(0:Int),.slice none 0 0,.slice none 0 0,.slice none 0 0,.slice none 0 0,.slice none 0 0,.slice none 0 0,.slice none 0 0,.slice none 0 0] 89 λδ γ=>
 aN γ #[(0:Int),(0:Int)] 28 λθ τ=>
 cond (Option.isNone a0) (
  ∃(aK:ag),aK.size=24/\aw τ.drew ⟨δ,0,none⟩ aK.toList/\
  (∃(bF:ag),bF.size=2/\aw τ.drew ⟨θ,0,none⟩ bF.toList/\
   (ο (decide (aK.size=24)) (
    bG τ.drew ⟨δ,0,none⟩ aK.toList λaa=>
    (ο (decide (bF.size=2)) (
     aw aa ⟨θ,0,none⟩ bF.toList/\
     (ο (decide (bF.size=2)) (
      bG aa ⟨θ,0,none⟩ bF.toList λaz=>
      (∃(bZ:ag),bZ.size=24/\aw az ⟨δ,0,none⟩ bZ.toList/\
       (∃(bW:ag),bW.size=2/\aw az ⟨θ,0,none⟩ bW.toList/\
        (R (.returned (.tuple #[.agg bZ,.agg bW,(0:Int),(1:Int)])) az))))))))))) (
  oX.bd a0 δ θ 0 0 τ R)
abbrev oX.C(a0:J):=Calls prog 64 #[.pointer a0]
theorem oX.ok:ic oX.main oX.C:=λ{_ _ R}h=>fc func64 [.cell 2 89,.cell 3 28,.tmp 4,.tmp 5] 57 (.seq .leaf (.seq .leaf (.cut [(2,.cY),(3,.cY),(4,.int .i64)] (oX.a1 · · · · R) (.seq .leaf (.block (.loop [(0,.ptr),(2,.cY),(3,.cY),(4,.int .i64),(17,.int .i64)] (oX.bd · · · · · · R) λa8=>.leaf))) .leaf))) h
def tx.δ(t0:J)(t1:Int)(nv:J)(mV oY:Nat)(t23:Int)(w:World)(R:aq)(a8:J->Int->J->Nat->Nat->Int->ao):Prop:=
 cond (decide (t23<16)) (
  κ prog 23 #[.pointer t0,(IntKind.i64.wrap (24+t23))] w (λv1 γ=>
   b0 v1 λbN=>
   ξ (bN[0]?) λv2=>
   cN v2 λab ay c1=>
   ξ (bN[1]?) λv3=>
   br .i64 v3 λζ=>
   cond (ζ !=0) (
    R (.returned (.tuple #[.slice none 0 0,(0:Int),ζ])) γ) (
    κ prog 108 #[.slice ab ay c1,t1,t23] γ (λv4 aa=>
     b0 v4 λeI=>
     ξ (eI[0]?) λv5=>
     cN v5 λaX bu c2=>
     ξ (eI[1]?) λv6=>
     dw v6 λδ=>
     cond (!δ) (
      R (.returned (.tuple #[.slice nv mV oY,t23,(0:Int)])) aa) (
      gK aa nv mV oY bu (a7 aa aX) 155 5 48 #[(0:Int),(0:Int),(0:Int),(0:Int),.complex .f64 0 0] λbh bI aE=>
      a8 t0 t1 bh (mV+bu) bI (IntKind.i64.wrap (t23+1)) aE)) (au R))) (au R)) (
  R (.returned (.tuple #[.slice nv mV oY,(16:Int),(0:Int)])) w)
def tx.bd:=ph tx.δ
def tx.main(a0:J)(ar:Int)(w:World)(R:aq):Prop:=
 cond (Option.isNone a0) (
  R (.returned (.tuple #[.slice none 0 0,(0:Int),(1:Int)])) w) (
  cond (decide (ar<1)) (
   R (.returned (.tuple #[.slice none 0 0,(0:Int),(1:Int)])) w) (
   cond (decide (ar>1073741824)) (
    R (.returned (.tuple #[.slice none 0 0,(0:Int),(1:Int)])) w) (
    tx.bd a0 ar none 0 0 0 w R)))
abbrev tx.C(a0:J)(ar:Int):=Calls prog 65 #[.pointer a0,ar]
theorem tx.ok:jL tx.main tx.C:=λ{_ _ _ R}h=>fc func65 [.tmp 4,.tmp 5,.tmp 6] 52 (.seq .leaf (.seq .leaf (.seq .leaf (.seq (.seq .leaf (.block (.loop [(0,.ptr),(1,.int .i64),(7,.slice),(23,.int .i64)] (tx.bd · · · · · · · R) λa8=>.leaf))) .leaf)))) h
def sL.δ(t2 t4:Nat)(PE:J)(PD Wc:Nat)(t17 t18:Int)(w:World)(R:aq)(a8:Nat->Nat->J->Nat->Nat->Int->Int->ao):Prop:=
 cond (decide (t18<t17)) (
  ο (decide (0<=t18)) (
   ο (decide (t18<((PD:Nat):Int))) (
    ξ PE λd1=>
    ∃(cE:ag),cE.size=5/\aw w (d1.add (t18.toNat*5)) cE.toList/\
    (aN w #[(0:Int),(0:Int),(0:Int),(0:Int),.complex .f64 0 0] 155 λae cf=>
     ο (decide (cE.size=5)) (
      bG cf ⟨ae,0,none⟩ cE.toList λc6=>
      (∃(dM:ag),dM.size=5/\aw c6 ⟨ae,0,none⟩ dM.toList/\
       (κ prog 109 #[.pointer (some ⟨t2,0,none⟩),.agg dM] c6 (λv3 cA=>
        br .i64 v3 λζ=>
        cond (ζ !=0) (
         bG cA ⟨t4,0,none⟩ [(.int .i64 0),(.int .i64 0),(.int .i64 0),(.int .i64 0),(.int .i64 0),(.int .i64 0),(.int .i64 0),(.int .i64 0),(.int .i64 0),(.int .i64 0),(.int .i64 0),(.int .i64 0),(.int .i64 0),(.int .i64 0),(.int .i64 0),(.int .i64 0),(.slice none 0 0),(.slice none 0 0),(.slice none 0 0),(.slice none 0 0),(.slice none 0 0),(.slice none 0 0),(.slice none 0 0),(.slice none 0 0)] λdn=>
         (∃(gv:ag),gv.size=24/\aw dn ⟨t4,0,none⟩ gv.toList/\
          (R (.returned (.tuple #[.agg gv,t18,ζ])) dn))) (
         a8 t2 t4 PE PD Wc t17 (IntKind.i64.wrap (t18+1)) cA)) (au R)))))))) (
  ∃(gM:ag),gM.size=24/\aw w ⟨t2,0,none⟩ gM.toList/\
  (ο (decide (gM.size=24)) (
    bG w ⟨t4,0,none⟩ gM.toList λdX=>
    (∃(gN:ag),gN.size=24/\aw dX ⟨t4,0,none⟩ gN.toList/\
     (R (.returned (.tuple #[.agg gN,(0:Int),(0:Int)])) dX)))))
def sL.bd:=Ev sL.δ
def sL.main(a0:ag)(gg:J)(e1 gk:Nat)(w:World)(R:aq):Prop:=
 aN w a0 89 λδ γ=>
 aN γ #[(0:Int),(0:Int),(0:Int),(0:Int),(0:Int),(0:Int),(0:Int),(0:Int),(0:Int),(0:Int),(0:Int),(0:Int),(0:Int),(0:Int),(0:Int),(0:Int),.slice none 0 0,.slice none 0 0,.slice none 0 0,.slice none 0 0,.slice none 0 0,.slice none 0 0,.slice none 0 0,.slice none 0 0] 89 λθ τ=>
 ∃(aK:ag),aK.size=24/\aw τ ⟨δ,0,none⟩ aK.toList/\
 (κ prog 69 #[.agg aK] τ (λv1 aa=>
  dw v1 λaF=>
  cond (!aF) (
   bG aa ⟨θ,0,none⟩ [(.int .i64 0),(.int .i64 0),(.int .i64 0),(.int .i64 0),(.int .i64 0),(.int .i64 0),(.int .i64 0),(.int .i64 0),(.int .i64 0),(.int .i64 0),(.int .i64 0),(.int .i64 0),(.int .i64 0),(.int .i64 0),(.int .i64 0),(.int .i64 0),(.slice none 0 0),(.slice none 0 0),(.slice none 0 0),(.slice none 0 0),(.slice none 0 0),(.slice none 0 0),(.slice none 0 0),(.slice none 0 0)] λaE=>
   (∃(bF:ag),bF.size=24/\aw aE ⟨θ,0,none⟩ bF.toList/\
    (R (.returned (.tuple #[.agg bF,(0:Int),(2:Int)])) aE))) (
   ∃(bZ:ag),bZ.size=24/\aw aa ⟨δ,0,none⟩ bZ.toList/\
   (κ prog 85 #[.agg bZ] aa (λv2 ba=>
     dq v2 λbW=>
     ο (decide (bW.size=24)) (
      bG ba ⟨δ,0,none⟩ bW.toList λb5=>
      (sL.bd δ θ gg e1 gk ((e1:Nat):Int) 0 b5 R))) (au R)))) (au R))
abbrev sL.C(a0:ag)(gg:J)(e1 gk:Nat):=Calls prog 66 #[.agg a0,.slice gg e1 gk]
theorem sL.ok:kT sL.main sL.C:=λ{_ _ _ _ _ R}h=>fc func66 [.cell 4 89,.tmp 5,.tmp 6] 32 (.seq .leaf (.seq .leaf (.seq .leaf (.seq (.seq .leaf (.block (.loop [(2,.cY),(4,.cY),(16,.slice),(17,.int .i64),(18,.int .i64)] (sL.bd · · · · · · · · R) λa8=>.leaf))) .leaf)))) h
def EP.main(a0:ag)(eM eN:Int)(w:World)(R:aq):Prop:=
 aN w a0 89 λδ γ=>
 aN γ #[eM,eN] 28 λθ τ=>
 ∃(aK:ag),aK.size=24/\aw τ ⟨δ,0,none⟩ aK.toList/\
 (∃(bF:ag),bF.size=2/\aw τ ⟨θ,0,none⟩ bF.toList/\
  (κ prog 87 #[.agg aK,.agg bF] τ (λv1 aa=>
   br .i64 v1 λζ=>
   cond (ζ !=0) (
    R (.returned (.int .i64 ζ)) aa) (
    ∃(bZ:ag),bZ.size=2/\aw aa ⟨θ,0,none⟩ bZ.toList/\
    (κ prog 83 #[.agg bZ] aa (λv2 aE=>
     b0 v2 λbN=>
     ξ (bN[0]?) λv3=>
     br .i64 v3 λσ=>
     ξ (bN[1]?) λv4=>
     br .i64 v4 λad=>
     ∃(bW:ag),bW.size=24/\aw aE ⟨δ,0,none⟩ bW.toList/\
     (κ prog 110 #[.agg bW] aE (λv5 bm=>
      pQ v5 λcG=>
      UD bm cG λaA=>
      cond (decide (aA>σ)) (
       R (.returned (.int .i64 9)) bm) (
       R (.returned (.int .i64 0)) bm)) (au R))) (au R)))) (au R)))
abbrev EP.C(a0:ag)(eM eN:Int):=Calls prog 67 #[.agg a0,.agg #[eM,eN]]
theorem EP.ok:iB EP.main EP.C:=λh=>dg func67 [.tmp 4] 24 h
def FC.main(bC:J)(aY bx:Nat)(ar:Int)(w:World)(R:aq):Prop:=
 κ prog 111 #[.slice bC aY bx,ar] w (λv1 γ=>
  br .i64 v1 λζ=>
  R (.returned (.bool (decide (ζ>=0)))) γ) (au R)
abbrev FC.C(bC:J)(aY bx:Nat)(ar:Int):=Calls prog 68 #[.slice bC aY bx,ar]
theorem FC.ok:kT FC.main FC.C:=λh=>dg func68 [.tmp 4] 9 h
def sM.δ(t1:Nat)(t7:ag)(t8:Int)(w:World)(R:aq)(a8:Nat->ag->Int->ao):Prop:=
 cond (decide (t8<8)) (
  ο (decide (0<=t8)) (
   ο (decide (t8<(8:Int))) (
    aN w #[(0:Int),(0:Int)] 84 λθ τ=>
    ο (decide ((t7.extract (t8.toNat*2) ((t8.toNat*2)+2)).size=2)) (
     bG τ ⟨θ,0,none⟩ ((t7.extract (t8.toNat*2) ((t8.toNat*2)+2)).toList) λaa=>
     (ο (decide (0<=t8)) (
      ο (decide (t8<(8:Int))) (
       ∃ab ay c1,aa.cell? (Addr.add ⟨t1,16,none⟩ (t8.toNat*1))=some (.slice ab ay c1)/\
       (∃ζ,aa.cell? ⟨θ,1,none⟩=some (.int .i64 ζ)/\
        (cond (((ay:Nat):Int)!=ζ) (
         R (.returned (.bool false)) aa) (
         ∃σ,aa.cell? ⟨θ,0,none⟩=some (.int .i64 σ)/\
         (cond (σ==0) (
          ∃ad,aa.cell? ⟨θ,1,none⟩=some (.int .i64 ad)/\
          (cond (ad !=0) (
          R (.returned (.bool false)) aa) (
          ∃aA,aa.cell? ⟨θ,0,none⟩=some (.int .i64 aA)/\
          (κ prog 112 #[aA,(0:Int),(3:Int)] aa (λv1 az=>
          dw v1 λaF=>
          cond (!aF) (
          R (.returned (.bool false)) az) (
          ∃ak,az.cell? ⟨θ,0,none⟩=some (.int .i64 ak)/\
          (cond (ak !=0) (
          ∃aI,az.cell? ⟨θ,1,none⟩=some (.int .i64 aI)/\
          (κ prog 112 #[aI,(1:Int),(33:Int)] az (λv2 ba=>
          dw v2 λae=>
          cond (!ae) (
          R (.returned (.bool false)) ba) (
          κ prog 113 #[.slice ab ay c1,.func (.func 114) #[] #[]] ba (λv5 cn=>
          dw v5 λiv=>
          cond iv (
          R (.returned (.bool false)) cn) (
          a8 t1 t7 (IntKind.i64.wrap (t8+1)) cn)) (au R))) (au R))) (
          κ prog 113 #[.slice ab ay c1,.func (.func 114) #[] #[]] az (λv6 dX=>
          dw v6 λpL=>
          cond pL (
          R (.returned (.bool false)) dX) (
          a8 t1 t7 (IntKind.i64.wrap (t8+1)) dX)) (au R))))) (au R))))) (
          ∃aV,aa.cell? ⟨θ,0,none⟩=some (.int .i64 aV)/\
          (κ prog 112 #[aV,(0:Int),(3:Int)] aa (λv3 b5=>
          dw v3 λc8=>
          cond (!c8) (
          R (.returned (.bool false)) b5) (
          ∃cg,b5.cell? ⟨θ,0,none⟩=some (.int .i64 cg)/\
          (cond (cg !=0) (
          ∃cm,b5.cell? ⟨θ,1,none⟩=some (.int .i64 cm)/\
          (κ prog 112 #[cm,(1:Int),(33:Int)] b5 (λv4 c6=>
          dw v4 λfq=>
          cond (!fq) (
          R (.returned (.bool false)) c6) (
          κ prog 113 #[.slice ab ay c1,.func (.func 114) #[] #[]] c6 (λfJ eR=>
          dw fJ λzB=>
          cond zB (
          R (.returned (.bool false)) eR) (
          a8 t1 t7 (IntKind.i64.wrap (t8+1)) eR)) (au R))) (au R))) (
          κ prog 113 #[.slice ab ay c1,.func (.func 114) #[] #[]] b5 (λbj fO=>
          dw bj λvn=>
          cond vn (
          R (.returned (.bool false)) fO) (
          a8 t1 t7 (IntKind.i64.wrap (t8+1)) fO)) (au R))))) (au R)))))))))))))) (
  R (.returned (.bool true)) w)
def sM.bd:=Hx sM.δ
def sM.main(a0:ag)(w:World)(R:aq):Prop:=
 aN w a0 89 λδ γ=>
 ∃(aK:ag),aK.size=16/\aw γ ⟨δ,0,none⟩ aK.toList/\
 (sM.bd δ aK 0 γ R)
abbrev sM.C(a0:ag):=Calls prog 69 #[.agg a0]
theorem sM.ok:ic sM.main sM.C:=λ{_ _ R}h=>fc func69 [.tmp 2] 51 (.seq .leaf (.seq (.seq .leaf (.block (.loop [(1,.cY),(7,.agg),(8,.int .i64)] (sM.bd · · · · R) λa8=>.leaf))) .leaf)) h
def Fl.main(w:World)(R:aq):Prop:=
 aN w #[(0:Int),(0:Int),(0:Int),(0:Int),(0:Int),(0:Int),(0:Int),(0:Int),(0:Int),(0:Int),(0:Int),(0:Int),(0:Int),(0:Int),(0:Int),(0:Int),.pointer none,.pointer none,.pointer none,.pointer none,.pointer none,.pointer none,.pointer none,.pointer none] 144 λδ γ=>
 R (.returned (.pointer (some ⟨δ,0,none⟩))) γ
abbrev Fl.C:=Calls prog 70 #[]
theorem Fl.ok:QQ Fl.main Fl.C:=λh=>dg func70 [.tmp 0] 3 h
def y8.main(a0:Int)(w:World)(R:aq):Prop:=
 cond (decide (a0<1)) (
  R (.returned (.tuple #[.pointer none,(1:Int)])) w) (
  cond (decide (a0>32)) (
   R (.returned (.tuple #[.pointer none,(1:Int)])) w) (
   ο (decide (0<=(IntKind.i64.wrap (Int.tdiv (IntKind.i64.wrap ((IntKind.i64.wrap (a0+8))-1)) 8)))) (
    ο (decide ((IntKind.i64.wrap (Int.tdiv (IntKind.i64.wrap ((IntKind.i64.wrap (a0+8))-1)) 8))<=(IntKind.i64.wrap (Int.tdiv (IntKind.i64.wrap ((IntKind.i64.wrap (a0+8))-1)) 8)))) (
     ο (decide ((8:Int)*(IntKind.i64.wrap (Int.tdiv (IntKind.i64.wrap ((IntKind.i64.wrap (a0+8))-1)) 8))<=281474976710656/\(IntKind.i64.wrap (Int.tdiv (IntKind.i64.wrap ((IntKind.i64.wrap (a0+8))-1)) 8))<=9223372036854775807)) (
      aN w (madeCells #[.pointer none] ((IntKind.i64.wrap (Int.tdiv (IntKind.i64.wrap ((IntKind.i64.wrap (a0+8))-1)) 8)).toNat*1)) 250 λδ γ=>
      aN γ #[a0,.slice (some ⟨δ,0,none⟩) ((IntKind.i64.wrap (Int.tdiv (IntKind.i64.wrap ((IntKind.i64.wrap (a0+8))-1)) 8)).toNat) ((IntKind.i64.wrap (Int.tdiv (IntKind.i64.wrap ((IntKind.i64.wrap (a0+8))-1)) 8)).toNat)] 203 λθ τ=>
      R (.returned (.tuple #[.pointer (some ⟨θ,0,none⟩),(0:Int)])) τ)))))
abbrev y8.C(a0:Int):=Calls prog 71 #[a0]
theorem y8.ok:ic y8.main y8.C:=λh=>dg func71 [.tmp 2,.tmp 3] 18 h
def Ga.main(a0:J)(ar:Int)(pH pG:Nat)(w:World)(R:aq):Prop:=
 κ prog 116 #[.pointer a0,ar] w (λv1 γ=>
  br .i64 v1 λζ=>
  cond (ζ !=0) (
   R (.returned (.tuple #[.pointer none,ζ])) γ) (
   κ prog 115 #[.complex .f64 pH pG] γ (λv2 aa=>
    dw v2 λδ=>
    cond (!δ) (
     R (.returned (.tuple #[.pointer none,(2:Int)])) aa) (
     ξ (tZ pH 0) λcG=>
     ξ (tZ pG 0) λm1=>
     κ prog 117 #[.pointer a0,ar,.complex .f64 cG m1] aa (λv3 aE=>
      gX v3 λab=>
      R (.returned (.tuple #[.pointer ab,(0:Int)])) aE) (au R))) (au R))) (au R)
abbrev Ga.C(a0:J)(ar:Int)(pH pG:Nat):=Calls prog 72 #[.pointer a0,ar,.complex .f64 pH pG]
theorem Ga.ok:kT Ga.main Ga.C:=λh=>dg func72 [.tmp 6,.tmp 7] 23 h
def yO.main(fg fW:Int)(w:World)(R:aq):Prop:=
 aN w #[fg,fW] 28 λδ γ=>
 ∃ζ,γ.cell? ⟨δ,0,none⟩=some (.int .i64 ζ)/\
 (cond (decide (ζ<6)) (
  R (.returned (.int .i64 1)) γ) (
  ∃σ,γ.cell? ⟨δ,0,none⟩=some (.int .i64 σ)/\
  (cond (decide (σ>24)) (
   R (.returned (.int .i64 1)) γ) (
   ∃ad,γ.cell? ⟨δ,1,none⟩=some (.int .i64 ad)/\
   (cond (decide (ad<2)) (
    R (.returned (.int .i64 1)) γ) (
    ∃aA,γ.cell? ⟨δ,1,none⟩=some (.int .i64 aA)/\
    (cond (decide (aA>16)) (
     R (.returned (.int .i64 1)) γ) (
     R (.returned (.int .i64 0)) γ))))))))
abbrev yO.C(fg fW:Int):=Calls prog 73 #[.agg #[fg,fW]]
theorem yO.ok:jL yO.main yO.C:=λh=>dg func73 [.tmp 2] 21 h
def yX.main(a0:J)(ar:Int)(w:World)(R:aq):Prop:=
 cond (Option.isNone a0) (
  R (.returned (.tuple #[(0:Int),(1:Int)])) w) (
  κ prog 71 #[ar] w (λv1 γ=>
   b0 v1 λbN=>
   ξ (bN[0]?) λv2=>
   gX v2 λab=>
   ξ (bN[1]?) λv3=>
   br .i64 v3 λζ=>
   cond (ζ !=0) (
    R (.returned (.tuple #[(0:Int),(5:Int)])) γ) (
    κ prog 118 #[.pointer a0] γ (λv4 aa=>
     b0 v4 λeI=>
     ξ (eI[0]?) λv5=>
     br .i64 v5 λσ=>
     ξ (eI[1]?) λv6=>
     br .i64 v6 λad=>
     cond (ad==0) (
      ξ a0 λd1=>
      ο (decide (0<=σ)) (
       ο (decide (σ<(8:Int))) (
        ξ a0 λd2=>
        bG aa.drew (d1.add (σ.toNat*2)) [(.int .i64 1),(.int .i64 ar)] λaE=>
        (ο (decide (0<=σ)) (
         ο (decide (σ<(8:Int))) (
          ed aE ((d2.add 16).add (σ.toNat*1)) (.pointer ab) λba=>
          (R (.returned (.tuple #[σ,ad])) ba))))))) (
      R (.returned (.tuple #[σ,ad])) aa)) (au R))) (au R))
abbrev yX.C(a0:J)(ar:Int):=Calls prog 74 #[.pointer a0,ar]
theorem yX.ok:jL yX.main yX.C:=λh=>dg func74 [.tmp 4,.tmp 5] 40 h
end Go.Proofs.YtcpdfhkhaekekaaGreat.G

/- The walk of the functions, and the plain laws of the model: part of the proof. Conditions: none. -/
import Derived.Test.YtcpdfhkhaekekaaGreatA4
set_option linter.unusedVariables false
set_option linter.unusedSimpArgs false
namespace Go.Proofs.YtcpdfhkhaekekaaGreat.G
open Tryz
open Go.bO
set_option maxRecDepth 100000
def EZ.main(a0:J)(eM eN jX jY:Int)(Q7 Q6:Nat)(w:World)(R:aq):Prop:=
 aN w #[eM,eN,jX,jY,.complex .f64 Q7 Q6] 155 λδ γ=>
 ξ a0 λd1=>
 ∃ab ay c1,γ.drew.cell? (d1.add 8)=some (.slice ab ay c1)/\
 (∃(aK:ag),aK.size=5/\aw γ.drew ⟨δ,0,none⟩ aK.toList/\
  (ξ (Instr.fill (λi=>some (i*5,5)) (madeCells #[(0:Int),(0:Int),(0:Int),(0:Int),.complex .f64 0 0] (1*5)) [(0,(.agg aK))]) λbF=>
   aN γ.drew bF 155 λθ τ=>
   τ.cell? (d1.add 8)=some (.slice ab ay c1)/\
   (gK τ ab ay c1 1 (a7 τ (some ⟨θ,0,none⟩)) 155 5 48 #[(0:Int),(0:Int),(0:Int),(0:Int),.complex .f64 0 0] λaX c2 aa=>
    ξ a0 λd2=>
    ed aa (d2.add 8) (.slice aX (ay+1) c2) λaz=>
    (ξ a0 λd3=>
     ed az (d3.add 9) (.bool true) λaE=>
     (R (.returned (.tuple #[])) aE)))))
abbrev EZ.C(a0:J)(eM eN jX jY:Int)(Q7 Q6:Nat):=Calls prog 75 #[.pointer a0,.agg #[eM,eN,jX,jY,.complex .f64 Q7 Q6]]
theorem EZ.ok:Gv EZ.main EZ.C:=λh=>dg func75 [] 17 h
def Fm.main(a0:J)(ar:Int)(w:World)(R:aq):Prop:=
 κ prog 84 #[.pointer a0,ar] w (λv1 γ=>
  b0 v1 λbN=>
  ξ (bN[0]?) λv2=>
  dq v2 λaK=>
  ξ (bN[1]?) λv3=>
  br .i64 v3 λζ=>
  aN γ #[(0:Int),(0:Int)] 84 λδ aa=>
  ο (decide (aK.size=2)) (
   bG aa ⟨δ,0,none⟩ aK.toList λaz=>
   (cond (ζ==0) (
    ξ a0 λd1=>
    ο (decide (0<=ar)) (
     ο (decide (ar<(8:Int))) (
      ξ a0 λd2=>
      bG az.drew (d1.add (ar.toNat*2)) [(.int .i64 0),(.int .i64 0)] λaE=>
      (ο (decide (0<=ar)) (
       ο (decide (ar<(8:Int))) (
        ed aE ((d2.add 16).add (ar.toNat*1)) (.pointer none) λba=>
        (R (.returned (.int .i64 ζ)) ba))))))) (
    R (.returned (.int .i64 ζ)) az)))) (au R)
abbrev Fm.C(a0:J)(ar:Int):=Calls prog 76 #[.pointer a0,ar]
theorem Fm.ok:jL Fm.main Fm.C:=λh=>dg func76 [.tmp 4] 27 h
def Fq.main(a0:J)(ar:Int)(w:World)(R:aq):Prop:=
 κ prog 84 #[.pointer a0,ar] w (λv1 γ=>
  b0 v1 λbN=>
  ξ (bN[0]?) λv2=>
  dq v2 λaK=>
  ξ (bN[1]?) λv3=>
  br .i64 v3 λζ=>
  aN γ #[(0:Int),(0:Int)] 84 λδ aa=>
  ο (decide (aK.size=2)) (
   bG aa ⟨δ,0,none⟩ aK.toList λaz=>
   (cond (ζ !=0) (
    R (.returned (.tuple #[(0:Int),ζ])) az) (
    κ prog 118 #[.pointer a0] az (λv4 aE=>
     b0 v4 λeI=>
     ξ (eI[0]?) λv5=>
     br .i64 v5 λσ=>
     ξ (eI[1]?) λv6=>
     br .i64 v6 λad=>
     cond (ad==0) (
      ∃aA,aE.drew.cell? ⟨δ,1,none⟩=some (.int .i64 aA)/\
      (ξ a0 λd1=>
       ο (decide (0<=ar)) (
        ο (decide (ar<(8:Int))) (
         ∃ab,aE.drew.cell? ((d1.add 16).add (ar.toNat*1))=some (.pointer ab)/\
         (ξ a0 λd2=>
          ο (decide (0<=σ)) (
           ο (decide (σ<(8:Int))) (
            ξ a0 λd3=>
            bG aE.drew (d2.add (σ.toNat*2)) [(.int .i64 2),(.int .i64 aA)] λbm=>
            (ο (decide (0<=σ)) (
            ο (decide (σ<(8:Int))) (
            ed bm ((d3.add 16).add (σ.toNat*1)) (.pointer ab) λb5=>
            (R (.returned (.tuple #[σ,ad])) b5))))))))))) (
      R (.returned (.tuple #[σ,ad])) aE)) (au R))))) (au R)
abbrev Fq.C(a0:J)(ar:Int):=Calls prog 77 #[.pointer a0,ar]
theorem Fq.ok:jL Fq.main Fq.C:=λh=>dg func77 [.tmp 4,.tmp 5] 46 h
def E1.main(a0:J)(eM eN jX jY:Int)(kH:J)(kG kF:Nat)(w:World)(R:aq):Prop:=
 aN w #[eM,eN,jX,jY,.slice kH kG kF] 40 λδ γ=>
 ξ a0 λd1=>
 ∃ab,γ.drew.cell? (d1.add 4)=some (.pointer ab)/\
 (∃ζ,γ.drew.cell? ⟨δ,1,none⟩=some (.int .i64 ζ)/\
  (∃σ,γ.drew.cell? ⟨δ,2,none⟩=some (.int .i64 σ)/\
   (κ prog 119 #[.pointer ab,ζ,σ] γ.drew (λv1 τ=>
    b0 v1 λbN=>
    ξ (bN[0]?) λv2=>
    lq v2 λcG m1=>
    ξ (bN[1]?) λv3=>
    dw v3 λθ=>
    ξ (bN[2]?) λv4=>
    br .i64 v4 λad=>
    κ prog 52 #[ad] τ (λv5 az=>
     b0 v5 λeI=>
     cond (!θ) (
      aN az (madeCells #[.int .u8 0] (64*1)) 5 λaF ba=>
      R (.returned (.slice (some ⟨aF,0,none⟩) 64 64)) ba) (
      ξ a0 λd2=>
      ∃(aK:ag),aK.size=2/\aw az (d2.add 2) aK.toList/\
      (κ prog 54 #[.agg aK,.complex .f64 cG m1] az (λv6 bm=>
       b0 v6 λhY=>
       ξ (hY[0]?) λfJ=>
       br .i64 fJ λaA=>
       ξ (hY[1]?) λbj=>
       br .i64 bj λak=>
       ξ a0 λd3=>
       ∃aX,bm.cell? (d3.add 1)=some (.pointer aX)/\
       (κ prog 23 #[.pointer aX,aA] bm (λv9 cf=>
        b0 v9 λmz=>
        ξ (mz[0]?) λv10=>
        cN v10 λbh ay c1=>
        ξ (mz[1]?) λv11=>
        br .i64 v11 λaI=>
        κ prog 52 #[aI] cf (λv12 cA=>
         b0 v12 λso=>
         R (.returned (.slice bh ay c1)) cA) (au R)) (au R))) (au R)))) (au R)) (au R))))
abbrev E1.C(a0:J)(eM eN jX jY:Int)(kH:J)(kG kF:Nat):=Calls prog 78 #[.pointer a0,.agg #[eM,eN,jX,jY,.slice kH kG kF]]
theorem E1.ok:A6 E1.main E1.C:=λh=>dg func78 [.tmp 4] 50 h
def kf.cd(t0:J)(t3:Nat)(w:World)(R:aq):Prop:=
 ∃eg bu c2,w.cell? ⟨t3,4,none⟩=some (.slice eg bu c2)/\
 (κ prog 55 #[.pointer t0,.slice eg bu c2,(2:Int)] w (λv21 j6=>
  lq v21 λcG m1=>
  ξ t0 λd4=>
  ∃fH,j6.drew.cell? (d4.add 4)=some (.pointer fH)/\
  (∃c7,j6.drew.cell? ⟨t3,1,none⟩=some (.int .i64 c7)/\
   (∃gb,j6.drew.cell? ⟨t3,2,none⟩=some (.int .i64 gb)/\
    (κ prog 80 #[.pointer fH,c7,gb,.complex .f64 cG m1,.bool true] j6.drew (λv22 iz=>
     br .i64 v22 λj7=>
     κ prog 52 #[j7] iz (λv23 u5=>
      b0 v23 λagN=>
      ∃l3,u5.cell? ⟨t3,1,none⟩=some (.int .i64 l3)/\
      (∃jm,u5.cell? ⟨t3,2,none⟩=some (.int .i64 jm)/\
       (κ prog 75 #[.pointer t0,.agg #[(4:Int),l3,(0:Int),jm,.complex .f64 cG m1]] u5 (λv24 o2=>
        b0 v24 λQb=>
        R (.returned (.tuple #[])) o2) (au R)))) (au R)) (au R))))) (au R))
def kf.bP(t0:J)(t3:Nat)(t6 t8:Int)(t42:Bool)(w:World)(R:aq):Prop:=
 cond t42 (
  κ prog 52 #[(5:Int)] w (λsm eD=>
   b0 sm λQc=>
   kf.cd t0 t3 eD R) (au R)) (
  ∃aX ay c1,w.cell? ⟨t3,4,none⟩=some (.slice aX ay c1)/\
  (cond (((ay:Nat):Int)!=64) (
    κ prog 52 #[(6:Int)] w (λv17 eJ=>
     b0 v17 λQd=>
     kf.cd t0 t3 eJ R) (au R)) (
    cond (decide ((IntKind.i64.wrap (t6+1))>t8)) (
     κ prog 52 #[(9:Int)] w (λu2 fw=>
      b0 u2 λagR=>
      kf.cd t0 t3 fw R) (au R)) (
     ξ t0 λd3=>
     ∃bh,w.cell? (d3.add 5)=some (.pointer bh)/\
     (κ prog 120 #[.pointer bh,(2:Int)] w (λu3 gi=>
       dw u3 λae=>
       cond (!ae) (
        κ prog 52 #[(12:Int)] gi (λv20 hP=>
         b0 v20 λQa=>
         kf.cd t0 t3 hP R) (au R)) (
        kf.cd t0 t3 gi R)) (au R))))))
def kf.a1(t0:J)(t3 t4:Nat)(t5:Int)(w:World)(R:aq):Prop:=
 κ prog 52 #[t5] w (λfJ c6=>
  b0 fJ λhY=>
  κ prog 48 #[.pointer t0] c6 (λbj cn=>
   dq bj λbZ=>
   κ prog 82 #[.agg bZ] cn (λv9 dX=>
    b0 v9 λmz=>
    ξ (mz[0]?) λv10=>
    br .i64 v10 λaA=>
    ξ (mz[1]?) λv11=>
    br .i64 v11 λak=>
    ξ t0 λd2=>
    ∃(bW:ag),bW.size=2/\aw dX (d2.add 2) bW.toList/\
    (κ prog 83 #[.agg bW] dX (λv12 eR=>
     b0 v12 λso=>
     ξ (so[0]?) λny=>
     br .i64 ny λaI=>
     ξ (so[1]?) λqo=>
     br .i64 qo λaV=>
     ∃cg,eR.cell? ⟨t4,0,none⟩=some (.int .i64 cg)/\
     (cond (cg==2) (
      κ prog 52 #[(8:Int)] eR (λsl fO=>
       b0 sl λAV=>
       kf.cd t0 t3 fO R) (au R)) (
      ∃cm,eR.cell? ⟨t3,2,none⟩=some (.int .i64 cm)/\
      (cond (decide (cm<0)) (
        kf.bP t0 t3 aA aI true eR R) (
        ∃eK,eR.cell? ⟨t3,2,none⟩=some (.int .i64 eK)/\
        (∃fl,eR.cell? ⟨t4,1,none⟩=some (.int .i64 fl)/\
         (kf.bP t0 t3 aA aI (decide (eK>=fl)) eR R))))))) (au R))) (au R)) (au R)) (au R)
def kf.main(a0:J)(eM eN jX jY:Int)(kH:J)(kG kF:Nat)(w:World)(R:aq):Prop:=
 aN w #[eM,eN,jX,jY,.slice kH kG kF] 40 λδ γ=>
 ξ a0 λd1=>
 ∃ab,γ.drew.cell? (d1.add 4)=some (.pointer ab)/\
 (∃ζ,γ.drew.cell? ⟨δ,1,none⟩=some (.int .i64 ζ)/\
  ((κ prog 84 #[.pointer ab,ζ] γ.drew (λv1 τ=>
     b0 v1 λbN=>
     ξ (bN[0]?) λv2=>
     dq v2 λaK=>
     ξ (bN[1]?) λv3=>
     br .i64 v3 λσ=>
     aN τ #[(0:Int),(0:Int)] 84 λθ az=>
     ο (decide (aK.size=2)) (
      bG az ⟨θ,0,none⟩ aK.toList λaE=>
      (kf.a1 a0 δ θ σ aE R))) (au R))/\
   (aN γ.drew #[(0:Int),(0:Int)] 84 λaF ba=>
    ba.cell? ⟨δ,1,none⟩=some (.int .i64 ζ)/\
    (ba.cell? (d1.add 4)=some (.pointer ab)/\
     (κ prog 84 #[.pointer ab,ζ] ba (λv4 bm=>
       b0 v4 λeI=>
       ξ (eI[0]?) λv5=>
       dq v5 λbF=>
       ξ (eI[1]?) λv6=>
       br .i64 v6 λad=>
       ο (decide (bF.size=2)) (
        bG bm ⟨aF,0,none⟩ bF.toList λcf=>
        (kf.a1 a0 δ aF ad cf R))) (au R))))))
abbrev kf.C(a0:J)(eM eN jX jY:Int)(kH:J)(kG kF:Nat):=Calls prog 79 #[.pointer a0,.agg #[eM,eN,jX,jY,.slice kH kG kF]]
theorem kf.ok:A6 kf.main kf.C:=λ{_ _ _ _ _ _ _ _ _ R}h=>fc func79 [] 97 (.seq .leaf (.cut [(0,.ptr),(3,.cY),(4,.cY),(5,.int .i64)] (kf.a1 · · · · · R) .leaf (.seq .leaf (.seq .leaf (.seq .leaf (.cut [(0,.ptr),(3,.cY)] (kf.cd · · · R) (.block (.seq .leaf (.cond .leaf (.cut [(0,.ptr),(3,.cY),(6,.int .i64),(8,.int .i64),(42,.bool)] (kf.bP · · · · · · R) .leaf .leaf)))) .leaf)))))) h
def oV.bP(t0:J)(t1 t2:Int)(LJ LI:Nat)(t4:Bool)(w:World)(R:aq):Prop:=
 ξ t0 λd1=>
 ο (decide (0<=t1)) (
  ο (decide (t1<(8:Int))) (
   ∃ab,w.cell? ((d1.add 16).add (t1.toNat*1))=some (.pointer ab)/\
   (cond t4 (
    κ prog 72 #[.pointer ab,t2,.complex .f64 LJ LI] w (λv5 bm=>
     b0 v5 λeI=>
     ξ (eI[0]?) λv6=>
     gX v6 λaX=>
     ξ (eI[1]?) λfJ=>
     br .i64 fJ λaA=>
     ξ t0 λd2=>
     ο (decide (0<=t1)) (
      ο (decide (t1<(8:Int))) (
       ed bm ((d2.add 16).add (t1.toNat*1)) (.pointer aX) λcA=>
       (R (.returned (.int .i64 0)) cA)))) (au R)) (
    κ prog 121 #[.pointer ab,t2] w (λbj cf=>
     b0 bj λhY=>
     ξ (hY[0]?) λv9=>
     gX v9 λbh=>
     ξ (hY[1]?) λv10=>
     br .i64 v10 λak=>
     ξ t0 λd3=>
     ο (decide (0<=t1)) (
      ο (decide (t1<(8:Int))) (
       ed cf ((d3.add 16).add (t1.toNat*1)) (.pointer bh) λcn=>
       (R (.returned (.int .i64 0)) cn)))) (au R)))))
def oV.a1(t0:J)(t1 t2:Int)(LJ LI:Nat)(t4 t28:Bool)(w:World)(R:aq):Prop:=
 cond t28 (
  R (.returned (.int .i64 5)) w) (
  cond t4 (
   κ prog 115 #[.complex .f64 LJ LI] w (λv4 aE=>
    dw v4 λθ=>
    cond (!θ) (
     R (.returned (.int .i64 2)) aE) (
     oV.bP t0 t1 t2 LJ LI t4 aE R)) (au R)) (
   oV.bP t0 t1 t2 LJ LI t4 w R))
def oV.main(a0:J)(ar a2:Int)(MA Mz:Nat)(a4:Bool)(w:World)(R:aq):Prop:=
 κ prog 84 #[.pointer a0,ar] w (λv1 γ=>
  b0 v1 λbN=>
  ξ (bN[0]?) λv2=>
  dq v2 λaK=>
  ξ (bN[1]?) λv3=>
  br .i64 v3 λζ=>
  aN γ #[(0:Int),(0:Int)] 84 λδ aa=>
  ο (decide (aK.size=2)) (
   bG aa ⟨δ,0,none⟩ aK.toList λaz=>
   (cond (ζ !=0) (
    R (.returned (.int .i64 ζ)) az) (
    ∃σ,az.cell? ⟨δ,0,none⟩=some (.int .i64 σ)/\
    (cond (σ==2) (
     R (.returned (.int .i64 8)) az) (
     cond (decide (a2<0)) (
      oV.a1 a0 ar a2 MA Mz a4 true az R) (
      ∃ad,az.cell? ⟨δ,1,none⟩=some (.int .i64 ad)/\
      (oV.a1 a0 ar a2 MA Mz a4 (decide (a2>=ad)) az R)))))))) (au R)
abbrev oV.C(a0:J)(ar a2:Int)(MA Mz:Nat)(a4:Bool):=Calls prog 80 #[.pointer a0,ar,a2,.complex .f64 MA Mz,.bool a4]
theorem oV.ok:xY oV.main oV.C:=λ{_ _ _ _ _ _ _ R}h=>fc func80 [.tmp 10] 70 (.seq .leaf (.seq .leaf (.cut [(0,.ptr),(1,.int .i64),(2,.int .i64),(3,.pP),(4,.bool)] (oV.bP · · · · · · · R) (.block (.seq .leaf (.cond .leaf (.seq .leaf (.cond .leaf (.cut [(0,.ptr),(1,.int .i64),(2,.int .i64),(3,.pP),(4,.bool),(28,.bool)] (oV.a1 · · · · · · · · R) .leaf .leaf)))))) .leaf))) h
def E3.main(a0:J)(w:World)(R:aq):Prop:=
 ξ a0 λd1=>
 ∃δ,w.cell? (d1.add 9)=some (.bool δ)/\
 (cond (!δ) (
  R (.returned (.tuple #[])) w) (
  ξ a0 λd2=>
  ∃ab ay c1,w.cell? (d2.add 8)=some (.slice ab ay c1)/\
  (ξ a0 λd3=>
   ∃ζ,w.cell? (d3.add 7)=some (.int .i64 ζ)/\
   (∀a1:Nat,
    cond (decide (((ay:Nat):Int)>(IntKind.i64.wrap ((IntKind.i64.wrap (16-ζ))*6)))) (
     κ prog 32 #[.pointer a0] (w.drewN a1) (λv1 γ=>
      b0 v1 λbN=>
      R (.returned (.tuple #[])) γ) (au R)) (
     ξ a0 λd4=>
     ∃aX,(w.drewN a1).cell? (d4.add 1)=some (.pointer aX)/\
     (κ prog 57 #[.pointer aX] (w.drewN a1) (λv2 aa=>
       br .i64 v2 λσ=>
       κ prog 52 #[σ] aa (λv3 aE=>
        b0 v3 λeI=>
        ξ a0 λd5=>
        ∃bh,aE.drew.cell? (d5.add 1)=some (.pointer bh)/\
        (ξ a0 λd6=>
         ∃ad,aE.drew.cell? (d6.add 6)=some (.int .i64 ad)/\
         (ξ a0 λd7=>
          ∃aA,aE.drew.cell? (d7.add 7)=some (.int .i64 aA)/\
          (ξ a0 λd8=>
           ∃eg bu c2,aE.drew.cell? (d8.add 8)=some (.slice eg bu c2)/\
           (κ prog 122 #[.pointer bh,ad,aA,.slice eg bu c2] aE.drew (λv4 bm=>
            b0 v4 λhY=>
            ξ (hY[0]?) λv5=>
            br .i64 v5 λak=>
            ξ (hY[1]?) λv6=>
            br .i64 v6 λaI=>
            κ prog 52 #[aI] bm (λfJ cf=>
            b0 fJ λmz=>
            ξ a0 λd9=>
            ∃fH,cf.cell? (d9.add 1)=some (.pointer fH)/\
            (κ prog 57 #[.pointer fH] cf (λbj cA=>
            br .i64 bj λaV=>
            κ prog 52 #[aV] cA (λv9 dn=>
            b0 v9 λso=>
            ξ a0 λd10=>
            ed dn (d10.add 7) (.int .i64 ak) λeA=>
            (ξ a0 λd11=>
            ed eA (d11.add 8) (.slice none 0 0) λeR=>
            (ξ a0 λd12=>
            ed eR (d12.add 9) (.bool false) λga=>
            (R (.returned (.tuple #[])) ga)))) (au R)) (au R))) (au R)) (au R)))))) (au R)) (au R)))))))
abbrev E3.C(a0:J):=Calls prog 81 #[.pointer a0]
theorem E3.ok:ic E3.main E3.C:=λh=>dg func81 [] 67 h
def ER.main(a0:ag)(w:World)(R:aq):Prop:=
 aN w a0 89 λδ γ=>
 ∃(aK:ag),aK.size=24/\aw γ ⟨δ,0,none⟩ aK.toList/\
 (κ prog 69 #[.agg aK] γ (λv1 τ=>
  dw v1 λθ=>
  cond (!θ) (
   R (.returned (.tuple #[(0:Int),(2:Int)])) τ) (
   ∃(bF:ag),bF.size=24/\aw τ ⟨δ,0,none⟩ bF.toList/\
   (κ prog 110 #[.agg bF] τ (λv2 az=>
    pQ v2 λcG=>
    UD az cG λζ=>
    R (.returned (.tuple #[ζ,(0:Int)])) az) (au R)))) (au R))
abbrev ER.C(a0:ag):=Calls prog 82 #[.agg a0]
theorem ER.ok:ic ER.main ER.C:=λh=>dg func82 [.tmp 2,.tmp 3] 10 h
def EV.main(fg fW:Int)(w:World)(R:aq):Prop:=
 aN w #[fg,fW] 28 λδ γ=>
 ∃(aK:ag),aK.size=2/\aw γ ⟨δ,0,none⟩ aK.toList/\
 (κ prog 73 #[.agg aK] γ (λv1 τ=>
  br .i64 v1 λζ=>
  cond (ζ !=0) (
   R (.returned (.tuple #[(0:Int),ζ])) τ) (
   ∃σ,τ.cell? ⟨δ,0,none⟩=some (.int .i64 σ)/\
   (∃ad,τ.cell? ⟨δ,1,none⟩=some (.int .i64 ad)/\
    (R (.returned (.tuple #[(IntKind.i64.wrap ((IntKind.i64.wrap ((IntKind.i64.wrap (σ-2))-2))*ad)),(0:Int)])) τ)))) (au R))
abbrev EV.C(fg fW:Int):=Calls prog 83 #[.agg #[fg,fW]]
theorem EV.ok:jL EV.main EV.C:=λh=>dg func83 [.tmp 2,.tmp 3] 17 h
def Fo.main(a0:J)(ar:Int)(w:World)(R:aq):Prop:=
 aN w #[(0:Int),(0:Int)] 84 λδ γ=>
 cond (Option.isNone a0) (
  bG γ ⟨δ,0,none⟩ [(.int .i64 0),(.int .i64 0)] λτ=>
  (∃(aK:ag),aK.size=2/\aw τ ⟨δ,0,none⟩ aK.toList/\
   (R (.returned (.tuple #[.agg aK,(1:Int)])) τ))) (
  cond (decide (ar<0)) (
   bG γ ⟨δ,0,none⟩ [(.int .i64 0),(.int .i64 0)] λaa=>
   (∃(bF:ag),bF.size=2/\aw aa ⟨δ,0,none⟩ bF.toList/\
    (R (.returned (.tuple #[.agg bF,(4:Int)])) aa))) (
   cond (decide (ar>=8)) (
    bG γ ⟨δ,0,none⟩ [(.int .i64 0),(.int .i64 0)] λaz=>
    (∃(bZ:ag),bZ.size=2/\aw az ⟨δ,0,none⟩ bZ.toList/\
     (R (.returned (.tuple #[.agg bZ,(4:Int)])) az))) (
    ξ a0 λd1=>
    ο (decide (0<=ar)) (
     ο (decide (ar<(8:Int))) (
      ∃ζ,γ.cell? (d1.add (ar.toNat*2))=some (.int .i64 ζ)/\
      (cond (ζ==0) (
       bG γ ⟨δ,0,none⟩ [(.int .i64 0),(.int .i64 0)] λaE=>
       (∃(bW:ag),bW.size=2/\aw aE ⟨δ,0,none⟩ bW.toList/\
        (R (.returned (.tuple #[.agg bW,(4:Int)])) aE))) (
       ξ a0 λd2=>
       ο (decide (0<=ar)) (
        ο (decide (ar<(8:Int))) (
         ∃(cE:ag),cE.size=2/\aw γ (d2.add (ar.toNat*2)) cE.toList/\
         (ο (decide (cE.size=2)) (
          bG γ ⟨δ,0,none⟩ cE.toList λba=>
          (∃(dM:ag),dM.size=2/\aw ba ⟨δ,0,none⟩ dM.toList/\
           (R (.returned (.tuple #[.agg dM,(0:Int)])) ba)))))))))))))
abbrev Fo.C(a0:J)(ar:Int):=Calls prog 84 #[.pointer a0,ar]
theorem Fo.ok:jL Fo.main Fo.C:=λh=>dg func84 [.cell 4 84,.tmp 5] 34 h
def rF.δ(t1 t2:Nat)(t4:Int)(w:World)(R:aq)(a8:Nat->Nat->Int->ao):Prop:=
 cond (decide (t4<8)) (
  ο (decide (0<=t4)) (
   ο (decide (t4<(8:Int))) (
    ∃ab ay c1,w.cell? (Addr.add ⟨t1,16,none⟩ (t4.toNat*1))=some (.slice ab ay c1)/\
    (κ prog 123 #[.slice ab ay c1] w (λv1 aa=>
      cN v1 λaX bu c2=>
      ο (decide (0<=t4)) (
       ο (decide (t4<(8:Int))) (
        ed aa (Addr.add ⟨t1,16,none⟩ (t4.toNat*1)) (.slice aX bu c2) λaE=>
        (a8 t1 t2 (IntKind.i64.wrap (t4+1)) aE)))) (au R))))) (
  ∃(aK:ag),aK.size=24/\aw w ⟨t1,0,none⟩ aK.toList/\
  (ο (decide (aK.size=24)) (
    bG w ⟨t2,0,none⟩ aK.toList λba=>
    (∃(bF:ag),bF.size=24/\aw ba ⟨t2,0,none⟩ bF.toList/\
     (R (.returned (.agg bF)) ba)))))
def rF.bd:=Hx rF.δ
def rF.main(a0:ag)(w:World)(R:aq):Prop:=
 aN w a0 89 λδ γ=>
 aN γ #[(0:Int),(0:Int),(0:Int),(0:Int),(0:Int),(0:Int),(0:Int),(0:Int),(0:Int),(0:Int),(0:Int),(0:Int),(0:Int),(0:Int),(0:Int),(0:Int),.slice none 0 0,.slice none 0 0,.slice none 0 0,.slice none 0 0,.slice none 0 0,.slice none 0 0,.slice none 0 0,.slice none 0 0] 89 λθ τ=>
 rF.bd δ θ 0 τ R
abbrev rF.C(a0:ag):=Calls prog 85 #[.agg a0]
theorem rF.ok:ic rF.main rF.C:=λ{_ _ R}h=>fc func85 [.cell 2 89] 17 (.seq .leaf (.seq (.seq .leaf (.block (.loop [(1,.cY),(2,.cY),(4,.int .i64)] (rF.bd · · · · R) λa8=>.leaf))) .leaf)) h
def sg.δ(t2 t3:Nat)(t17:ag)(t18:Int)(w:World)(R:aq)(a8:Nat->Nat->ag->Int->ao):Prop:=
 cond (decide (t18<8)) (
  ο (decide (0<=t18)) (
   ο (decide (t18<(8:Int))) (
    ξ (t17[(t18.toNat*1)]?) λv1=>
    gX v1 λab=>
    κ prog 124 #[.pointer ab] w (λv2 aE=>
     cN v2 λaX ay c1=>
     ο (decide (0<=t18)) (
      ο (decide (t18<(8:Int))) (
       ed aE (Addr.add ⟨t3,16,none⟩ (t18.toNat*1)) (.slice aX ay c1) λbm=>
       (a8 t2 t3 t17 (IntKind.i64.wrap (t18+1)) bm)))) (au R)))) (
  ∃(cE:ag),cE.size=24/\aw w ⟨t3,0,none⟩ cE.toList/\
  (ο (decide (cE.size=24)) (
    bG w ⟨t2,0,none⟩ cE.toList λb5=>
    (∃(dM:ag),dM.size=24/\aw b5 ⟨t2,0,none⟩ dM.toList/\
     (R (.returned (.agg dM)) b5)))))
def sg.bd:=Oj sg.δ
def sg.main(a0:J)(w:World)(R:aq):Prop:=
 aN w #[(0:Int),(0:Int),(0:Int),(0:Int),(0:Int),(0:Int),(0:Int),(0:Int),(0:Int),(0:Int),(0:Int),(0:Int),(0:Int),(0:Int),(0:Int),(0:Int),.slice none 0 0,.slice none 0 0,.slice none 0 0,.slice none 0 0,.slice none 0 0,.slice none 0 0,.slice none 0 0,.slice none 0 0] 89 λδ γ=>
 aN γ #[(0:Int),(0:Int),(0:Int),(0:Int),(0:Int),(0:Int),(0:Int),(0:Int),(0:Int),(0:Int),(0:Int),(0:Int),(0:Int),(0:Int),(0:Int),(0:Int),.slice none 0 0,.slice none 0 0,.slice none 0 0,.slice none 0 0,.slice none 0 0,.slice none 0 0,.slice none 0 0,.slice none 0 0] 89 λθ τ=>
 cond (Option.isNone a0) (
  ∃(aK:ag),aK.size=24/\aw τ ⟨θ,0,none⟩ aK.toList/\
  (ο (decide (aK.size=24)) (
   bG τ ⟨δ,0,none⟩ aK.toList λaa=>
   (∃(bF:ag),bF.size=24/\aw aa ⟨δ,0,none⟩ bF.toList/\
    (R (.returned (.agg bF)) aa))))) (
  ξ a0 λd1=>
  ∃(bZ:ag),bZ.size=16/\aw τ d1 bZ.toList/\
  (ο (decide (bZ.size=16)) (
   bG τ ⟨θ,0,none⟩ bZ.toList λaz=>
   (ξ a0 λd2=>
    ∃(bW:ag),bW.size=8/\aw az (d2.add 16) bW.toList/\
    (sg.bd δ θ bW 0 az R)))))
abbrev sg.C(a0:J):=Calls prog 86 #[.pointer a0]
theorem sg.ok:ic sg.main sg.C:=λ{_ _ R}h=>fc func86 [.cell 2 89] 29 (.seq .leaf (.seq .leaf (.seq .leaf (.seq .leaf (.seq (.seq .leaf (.block (.loop [(2,.cY),(3,.cY),(17,.agg),(18,.int .i64)] (sg.bd · · · · · R) λa8=>.leaf))) .leaf))))) h
def s9.δ(t3:Nat)(t17:ag)(t18:Int)(w:World)(R:aq)(a8:Nat->ag->Int->ao):Prop:=
 cond (decide (t18<8)) (
  ο (decide (0<=t18)) (
   ο (decide (t18<(8:Int))) (
    ξ (t17[(t18.toNat*1)]?) λv3=>
    cN v3 λab ay c1=>
    κ prog 113 #[.slice ab ay c1,.func (.func 125) #[] #[.pointer (some ⟨t3,0,none⟩)]] w (λv4 bm=>
     dw v4 λae=>
     cond ae (
      R (.returned (.int .i64 5)) bm) (
      a8 t3 t17 (IntKind.i64.wrap (t18+1)) bm)) (au R)))) (
  R (.returned (.int .i64 0)) w)
def s9.bd:=Hx s9.δ
def s9.main(a0:ag)(eM eN:Int)(w:World)(R:aq):Prop:=
 aN w a0 89 λδ γ=>
 aN γ #[eM,eN] 28 λθ τ=>
 ∃(aK:ag),aK.size=2/\aw τ ⟨θ,0,none⟩ aK.toList/\
 (κ prog 73 #[.agg aK] τ (λv1 aa=>
  br .i64 v1 λζ=>
  cond (ζ !=0) (
   R (.returned (.int .i64 ζ)) aa) (
   ∃(bF:ag),bF.size=24/\aw aa ⟨δ,0,none⟩ bF.toList/\
   (κ prog 69 #[.agg bF] aa (λv2 aE=>
    dw v2 λaF=>
    cond (!aF) (
     R (.returned (.int .i64 2)) aE) (
     ∃(bZ:ag),bZ.size=8/\aw aE ⟨δ,16,none⟩ bZ.toList/\
     (s9.bd θ bZ 0 aE R))) (au R)))) (au R))
abbrev s9.C(a0:ag)(eM eN:Int):=Calls prog 87 #[.agg a0,.agg #[eM,eN]]
theorem s9.ok:iB s9.main s9.C:=λ{_ _ _ _ R}h=>fc func87 [.tmp 4] 25 (.seq .leaf (.seq .leaf (.seq .leaf (.seq (.seq .leaf (.block (.loop [(3,.cY),(17,.agg),(18,.int .i64)] (s9.bd · · · · R) λa8=>.leaf))) .leaf)))) h
def kd.bP(kC:J)(j4 lE:Nat)(jk:J)(hX iV:Nat)(w:World)(R:aq):Prop:=
 R (.returned (.tuple #[.slice kC j4 lE,.slice jk hX iV,(0:Int)])) w
def kd.θ(t5:Option Nat)(kC:J)(j4 lE:Nat)(jk:J)(hX iV:Nat)(LC:J)(LB PH:Nat)(t32 t33:Int)(w:World)(R:aq)(hJ:Option Nat->J->Nat->Nat->J->Nat->Nat->J->Nat->Nat->Int->Int->ao):Prop:=
 cond (decide (t33<t32)) (
  ο (decide (0<=t33)) (
   ο (decide (t33<((LB:Nat):Int))) (
    ξ LC λd1=>
    ∃iU m2,w.cell? (d1.add (t33.toNat*1))=some (.complex .f64 iU m2)/\
    (Hw prog w t5 iU m2 213 (.slice none 0 0) λbj=>
     cN bj λbh bu bI=>
     aN w #[.slice bh bu bI] 213 λc8 cn=>
     gK cn jk hX iV 1 (a7 cn (some ⟨c8,0,none⟩)) 213 1 24 #[.slice none 0 0] λeg hs dn=>
     hJ t5 kC j4 lE eg (hX+1) hs LC LB PH t32 (IntKind.i64.wrap (t33+1)) dn)))) (
  kd.bP kC j4 lE jk hX iV w R)
def kd.fG:=apx kd.θ
def kd.a1(t5:Option Nat)(kC:J)(j4 lE:Nat)(w:World)(R:aq):Prop:=
 κ prog 126 #[.slice kC j4 lE] w (λv5 c6=>
  b0 v5 λbN=>
  ξ (bN[0]?) λv6=>
  cN v6 λaX ay c2=>
  ξ (bN[1]?) λfJ=>
  br .i64 fJ λζ=>
  kd.fG t5 aX ay c2 none 0 0 aX ay c2 ((ay:Nat):Int) 0 c6 R) (au R)
def kd.δ(t5:Option Nat)(kC:J)(j4 lE t17:Nat)(w:World)(R:aq)(a8:Option Nat->J->Nat->Nat->Nat->ao):Prop:=
 UI w ⟨t17,0,none⟩ (
  kd.a1 t5 kC j4 lE w R) λaO bm=>
 R5 bm ⟨t17,0,none⟩ λv3 v4=>
 lq v3 λfM m1=>
 aN bm #[.complex .f64 fM m1] 113 λae b5=>
 gK b5 kC j4 lE 1 (a7 b5 (some ⟨ae,0,none⟩)) 113 1 16 #[.complex .f64 0 0] λab c1 cf=>
 a8 t5 ab (j4+1) c1 t17 cf
def kd.bd:=Aj kd.δ
def kd.main(a0:ag)(w:World)(R:aq):Prop:=
 aN w a0 89 λδ γ=>
 ∃(aK:ag),aK.size=24/\aw γ ⟨δ,0,none⟩ aK.toList/\
 (κ prog 69 #[.agg aK] γ (λv1 τ=>
  dw v1 λθ=>
  cond (!θ) (
   R (.returned (.tuple #[.slice none 0 0,.slice none 0 0,(2:Int)])) τ) (
   ∃(bF:ag),bF.size=24/\aw τ ⟨δ,0,none⟩ bF.toList/\
   (κ prog 110 #[.agg bF] τ (λv2 az=>
    pQ v2 λcG=>
    adH az cG λaF ba=>
    kd.bd cG none 0 0 aF ba R) (au R)))) (au R))
abbrev kd.C(a0:ag):=Calls prog 88 #[.agg a0]
theorem kd.ok:ic kd.main kd.C:=λ{_ _ R}h=>fc func88 [.tmp 2,.tmp 3,.tmp 4] 46 (.seq .leaf (.seq .leaf (.seq .leaf (.seq .leaf (.cut [(5,.map),(6,.slice)] (kd.a1 · · · · · R) (.seq .leaf (.block (.loop [(5,.map),(6,.slice),(17,.cY)] (kd.bd · · · · · · R) λa8=>.leaf))) (.seq .leaf (.seq .leaf (.cut [(6,.slice),(8,.slice)] (kd.bP · · · · · · · R) (.seq .leaf (.block (.loop [(5,.map),(6,.slice),(8,.slice),(31,.slice),(32,.int .i64),(33,.int .i64)] (kd.fG · · · · · · · · · · · · · R) λhJ=>.leaf))) .leaf)))))))) h
def FB.main(bC:J)(aY bx:Nat)(w:World)(R:aq):Prop:=
 cond (Option.isNone bC) (
  R (.returned (.slice none 0 0)) w) (
  aN w #[] 3 λδ γ=>
  gK γ (some ⟨δ,0,none⟩) 0 0 aY (a7 γ bC) 3 1 8 #[(0:Int)] λab c1 τ=>
  R (.returned (.slice ab (0+aY) c1)) τ)
abbrev FB.C(bC:J)(aY bx:Nat):=Calls prog 89 #[.slice bC aY bx]
theorem FB.ok:iB FB.main FB.C:=λh=>dg func89 [.tmp 2] 8 h
def Dg.main(fg fW:Int)(gg:J)(e1 gk:Nat)(w:World)(R:aq):Prop:=
 aN w #[fg,fW] 28 λδ γ=>
 ∃(aK:ag),aK.size=2/\aw γ ⟨δ,0,none⟩ aK.toList/\
 (κ prog 73 #[.agg aK] γ (λv1 τ=>
  br .i64 v1 λζ=>
  cond (ζ==0) (
   ∃σ,τ.cell? ⟨δ,0,none⟩=some (.int .i64 σ)/\
   (cond (((e1:Nat):Int)==σ) (
    κ prog 127 #[.slice gg e1 gk,.func (.func 128) #[] #[.pointer (some ⟨δ,0,none⟩)]] τ (λv2 az=>
     dw v2 λθ=>
     R (.returned (.bool (!θ))) az) (au R)) (
    R (.returned (.bool false)) τ))) (
   R (.returned (.bool false)) τ)) (au R))
abbrev Dg.C(fg fW:Int)(gg:J)(e1 gk:Nat):=Calls prog 90 #[.agg #[fg,fW],.slice gg e1 gk]
theorem Dg.ok:wz Dg.main Dg.C:=λh=>dg func90 [.tmp 4] 21 h
def Fg.main(a0 ar a2:Int)(w:World)(R:aq):Prop:=
 cond (decide (ar<2)) (
  R (.returned (.tuple #[(0:Int),(0:Int),(1:Int)])) w) (
  cond (decide (ar>16)) (
   R (.returned (.tuple #[(0:Int),(0:Int),(1:Int)])) w) (
   cond (decide (a0<0)) (
    R (.returned (.tuple #[(0:Int),(0:Int),(1:Int)])) w) (
    cond (decide (a0>ar)) (
     R (.returned (.tuple #[(0:Int),(0:Int),(1:Int)])) w) (
     cond (decide (a2<0)) (
      R (.returned (.tuple #[(0:Int),(0:Int),(1:Int)])) w) (
      cond (decide (a2>=65536)) (
       R (.returned (.tuple #[(0:Int),(0:Int),(1:Int)])) w) (
       R (.returned (.tuple #[(IntKind.i64.wrap ((IntKind.i64.wrap (ar-a0))*(IntKind.i64.wrap (a2+1)))),(IntKind.i64.wrap (ar+a0)),(0:Int)])) w))))))
abbrev Fg.C(a0 ar a2:Int):=Calls prog 91 #[a0,ar,a2]
theorem Fg.ok:iB Fg.main Fg.C:=λh=>dg func91 [.tmp 6,.tmp 7,.tmp 8] 41 h
def tg.δ(cb:J)(b8 ck:Nat)(lW:J)(lV py:Nat)(t6 t24 t25:Int)(w:World)(R:aq)(a8:J->Nat->Nat->J->Nat->Nat->Int->Int->Int->ao):Prop:=
 cond (decide (t25<t24)) (
  ο (decide (0<=t25)) (
   ο (decide (t25<((b8:Nat):Int))) (
    ξ cb λd1=>
    ∃ζ,w.drew.cell? (d1.add (t25.toNat*1))=some (.int .i64 ζ)/\
    (ο (decide (0<=t25)) (
     ο (decide (t25<((lV:Nat):Int))) (
      ξ lW λd2=>
      ∃σ,w.drew.cell? (d2.add (t25.toNat*1))=some (.int .i64 σ)/\
      (κ prog 129 #[ζ,σ] w.drew (λv1 γ=>
       dw v1 λδ=>
       cond (!δ) (
        R (.returned (.tuple #[(0:Int),(1:Int)])) γ) (
        ο (decide (0<=t25)) (
         ο (decide (t25<((b8:Nat):Int))) (
          ξ cb λd3=>
          ∃ad,γ.drew.cell? (d3.add (t25.toNat*1))=some (.int .i64 ad)/\
          (ο (decide (0<=t25)) (
           ο (decide (t25<((lV:Nat):Int))) (
           ξ lW λd4=>
           ∃aA,γ.drew.cell? (d4.add (t25.toNat*1))=some (.int .i64 aA)/\
           (ο (decide (0<=t6)) (
           ο (decide (t6<((b8:Nat):Int))) (
           ξ cb λd5=>
           ∃ak,γ.drew.cell? (d5.add (t6.toNat*1))=some (.int .i64 ak)/\
           (ο (decide (0<=t6)) (
           ο (decide (t6<((lV:Nat):Int))) (
           ξ lW λd6=>
           ∃aI,γ.drew.cell? (d6.add (t6.toNat*1))=some (.int .i64 aI)/\
           (κ prog 130 #[ad,aA,ak,aI] γ.drew (λv2 aa=>
           br .i64 v2 λaV=>
           cond (decide (aV>0)) (
           a8 cb b8 ck lW lV py t25 t24 (IntKind.i64.wrap (t25+1)) aa) (
           a8 cb b8 ck lW lV py t6 t24 (IntKind.i64.wrap (t25+1)) aa)) (au R))))))))))))))) (au R)))))))) (
  R (.returned (.tuple #[t6,(0:Int)])) w)
def tg.bd:=Ux tg.δ
def tg.main(bC:J)(aY bx:Nat)(gg:J)(e1 gk:Nat)(w:World)(R:aq):Prop:=
 cond (((aY:Nat):Int)!=((e1:Nat):Int)) (
  R (.returned (.tuple #[(0:Int),(1:Int)])) w) (
  cond (((aY:Nat):Int)==0) (
   R (.returned (.tuple #[(0:Int),(1:Int)])) w) (
   cond (decide (((aY:Nat):Int)>4096)) (
    R (.returned (.tuple #[(0:Int),(1:Int)])) w) (
    tg.bd bC aY bx gg e1 gk 0 ((aY:Nat):Int) 0 w R)))
abbrev tg.C(bC:J)(aY bx:Nat)(gg:J)(e1 gk:Nat):=Calls prog 92 #[.slice bC aY bx,.slice gg e1 gk]
theorem tg.ok:xY tg.main tg.C:=λ{_ _ _ _ _ _ _ R}h=>fc func92 [.tmp 4,.tmp 5] 59 (.seq .leaf (.seq .leaf (.seq .leaf (.seq (.seq .leaf (.block (.loop [(0,.slice),(1,.slice),(6,.int .i64),(24,.int .i64),(25,.int .i64)] (tg.bd · · · · · · · · · · R) λa8=>.leaf))) .leaf)))) h
def Df.main(jn jA dP:Nat)(w:World)(R:aq):Prop:=
 ξ ((FloatKind.f64.decode jn).toInt .zero) λζ=>
 ο (decide (IntKind.i64.min<=ζ)) (
  ο (decide (ζ<=IntKind.i64.max)) (
   ∃σ,w.cell? ⟨dP,0,none⟩=some (.int .i64 σ)/\
   (R (.returned (.bool (ζ !=σ))) w)))
abbrev Df.C(jn jA dP:Nat):=Calls prog 94 #[.complex .f64 jn jA,.pointer (some ⟨dP,0,none⟩)]
theorem Df.ok:iB Df.main Df.C:=λh=>dg func94 [.tmp 3] 9 h
def CT.main(jn jA:Nat)(ar:Int)(w:World)(R:aq):Prop:=
 κ prog 132 #[.complex .f64 jn jA] w (λv1 γ=>
  b0 v1 λbN=>
  ξ (bN[0]?) λv2=>
  br .i64 v2 λζ=>
  ξ (bN[1]?) λv3=>
  br .i64 v3 λσ=>
  ξ (bN[2]?) λv4=>
  br .i64 v4 λad=>
  κ prog 133 #[ar] γ (λv5 aa=>
   dw v5 λδ=>
   cond (!δ) (
    R (.returned (.tuple #[(0:Int),(1:Int)])) aa) (
    cond (ad !=0) (
     R (.returned (.tuple #[(0:Int),ad])) aa) (
     cond (decide (σ>=ar)) (
      R (.returned (.tuple #[(0:Int),(5:Int)])) aa) (
      R (.returned (.tuple #[(IntKind.i64.wrap ((IntKind.i64.wrap (ζ*ar))+σ)),(0:Int)])) aa)))) (au R)) (au R)
abbrev CT.C(jn jA:Nat)(ar:Int):=Calls prog 95 #[.complex .f64 jn jA,ar]
theorem CT.ok:iB CT.main CT.C:=λh=>dg func95 [.tmp 4,.tmp 5] 32 h
def px.bP(t0:J)(w:World)(R:aq):Prop:=
 ξ t0 λd7=>
 ∃σ,w.drew.cell? (d7.add 3)=some (.int .i64 σ)/\
 (ξ t0 λd8=>
  ∃ad,w.drew.cell? (d8.add 1)=some (.int .i64 ad)/\
  (ξ t0 λd9=>
   ∃aA,w.drew.cell? (d9.add 4)=some (.int .i64 aA)/\
   (ξ t0 λd10=>
    ∃ak,w.drew.cell? (d10.add 1)=some (.int .i64 ak)/\
    (κ prog 135 #[(IntKind.i64.wrap ((IntKind.i64.wrap (σ*ad))+aA)),ak] w.drew (λv4 c6=>
     b0 v4 λbN=>
     ξ (bN[0]?) λv5=>
     lq v5 λcG m1=>
     ξ (bN[1]?) λv6=>
     br .i64 v6 λaI=>
     ξ t0 λd11=>
     ∃aV,c6.cell? (d11.add 4)=some (.int .i64 aV)/\
     (ξ t0 λd12=>
      ed c6 (d12.add 4) (.int .i64 (IntKind.i64.wrap (aV+1))) λcn=>
      (R (.returned (.tuple #[.complex .f64 cG m1,(0:Int)])) cn))) (au R)))))
def px.a1(t0:J)(t1:Int)(t8:Bool)(w:World)(R:aq):Prop:=
 cond t8 (
  R (.returned (.tuple #[.complex .f64 0 0,(1:Int)])) w) (
  κ prog 120 #[.pointer t0,t1] w (λv1 γ=>
   dw v1 λδ=>
   cond (!δ) (
    R (.returned (.tuple #[.complex .f64 0 0,(9:Int)])) γ) (
    κ prog 134 #[.pointer t0] γ (λv2 aa=>
     dw v2 λθ=>
     cond θ (
      ξ t0 λd1=>
      ∃ab ay c1,aa.drew.cell? (d1.add 2)=some (.slice ab ay c1)/\
      (ο (decide (0<((ay:Nat):Int))) (
       ξ ab λd2=>
       ∃ζ,aa.drew.cell? d2=some (.int .i64 ζ)/\
       (ξ t0 λd3=>
        ∃aX bu c2,aa.drew.cell? (d3.add 2)=some (.slice aX bu c2)/\
        (ο (decide (1<=((bu:Nat):Int))) (
         κ prog 89 #[.slice (du aX c2 1 1) (bu-1) (c2-1)] aa.drew (λv3 aE=>
          cN v3 λbh dB bI=>
          aE.cell? d2=some (.int .i64 ζ)/\
          (aE.cell? (d1.add 2)=some (.slice ab ay c1)/\
           (ξ t0 λd4=>
           ed aE (d4.add 3) (.int .i64 ζ) λbm=>
           (ξ t0 λd5=>
           ed bm (d5.add 4) (.int .i64 0) λb5=>
           (ξ t0 λd6=>
           ed b5 (d6.add 2) (.slice bh dB bI) λcf=>
           (px.bP t0 cf R)))))) (au R))))))) (
      px.bP t0 aa R)) (au R))) (au R))
def px.main(a0:J)(ar:Int)(w:World)(R:aq):Prop:=
 cond (Option.isNone a0) (
  px.a1 a0 ar true w R) (
  px.a1 a0 ar (decide (ar<0)) w R)
abbrev px.C(a0:J)(ar:Int):=Calls prog 96 #[.pointer a0,ar]
theorem px.ok:jL px.main px.C:=λ{_ _ _ R}h=>fc func96 [.tmp 4,.tmp 5] 76 (.seq .leaf (.cut [(0,.ptr)] (px.bP · · R) (.block (.cut [(0,.ptr),(1,.int .i64),(8,.bool)] (px.a1 · · · · R) .leaf .leaf)) .leaf)) h
def oP.δ(q4 q3 t3 t6:Nat)(PR:J)(PQ Wg:Nat)(t51 t52:Int)(w:World)(R:aq)(a8:Nat->Nat->Nat->Nat->J->Nat->Nat->Int->Int->ao):Prop:=
 cond (decide (t52<t51)) (
  ο (decide (0<=t52)) (
   ο (decide (t52<((PQ:Nat):Int))) (
    ξ PR λd1=>
    ∃(iE:ag),iE.size=2/\aw w (d1.add (t52.toNat*2)) iE.toList/\
    (aN w #[(0:Int),(0:Int)] 221 λfq fE=>
     ο (decide (iE.size=2)) (
      bG fE ⟨fq,0,none⟩ iE.toList λeD=>
      (∃ζ,eD.drew.cell? ⟨fq,0,none⟩=some (.int .i64 ζ)/\
       (ο (decide (0<=ζ)) (
        ο (decide (ζ<(8:Int))) (
         ∃eg jg hs,eD.drew.cell? (Addr.add ⟨t3,16,none⟩ (ζ.toNat*1))=some (.slice eg jg hs)/\
         (∃σ,eD.drew.cell? ⟨fq,1,none⟩=some (.int .i64 σ)/\
          (ξ (tZ q4 0) λfM=>
           ξ (tZ q3 0) λm1=>
           ο (decide (0<=σ)) (
            ο (decide (σ<((jg:Nat):Int))) (
            ξ eg λd2=>
            (eD.drew.cell? (d2.add (σ.toNat*1))).isSome=true/\eD.drew.frozen? (d2.add (σ.toNat*1))=false/\∀fv,fv=eD.drew.setCell (d2.add (σ.toNat*1)) (.complex .f64 fM m1)->
            (a8 q4 q3 t3 t6 PR PQ Wg t51 (IntKind.i64.wrap (t52+1)) fv)))))))))))))) (
  ∃(jB:ag),jB.size=24/\aw w ⟨t3,0,none⟩ jB.toList/\
  (ο (decide (jB.size=24)) (
    bG w ⟨t6,0,none⟩ jB.toList λeJ=>
    (∃(kJ:ag),kJ.size=24/\aw eJ ⟨t6,0,none⟩ kJ.toList/\
     (R (.returned (.tuple #[.agg kJ,(0:Int)])) eJ)))))
def oP.bd:=Ux oP.δ
def oP.a1(atn atm q4 q3 t3 t6:Nat)(t8:Option Nat)(w:World)(R:aq):Prop:=
 ∃(gM:ag),gM.size=24/\aw w ⟨t3,0,none⟩ gM.toList/\
 (κ prog 85 #[.agg gM] w (λfJ eR=>
  dq fJ λgN=>
  ο (decide (gN.size=24)) (
   bG eR ⟨t3,0,none⟩ gN.toList λfO=>
   (Hw prog fO t8 atn atm 213 (.slice none 0 0) λbj=>
    cN bj λbh dB bI=>
    oP.bd q4 q3 t3 t6 bh dB bI ((dB:Nat):Int) 0 fO R))) (au R))
def oP.main(a0:ag)(ru rr pH pG:Nat)(w:World)(R:aq):Prop:=
 aN w a0 89 λδ γ=>
 aN γ #[(0:Int),(0:Int),(0:Int),(0:Int),(0:Int),(0:Int),(0:Int),(0:Int),(0:Int),(0:Int),(0:Int),(0:Int),(0:Int),(0:Int),(0:Int),(0:Int),.slice none 0 0,.slice none 0 0,.slice none 0 0,.slice none 0 0,.slice none 0 0,.slice none 0 0,.slice none 0 0,.slice none 0 0] 89 λθ τ=>
 ∃(aK:ag),aK.size=24/\aw τ ⟨δ,0,none⟩ aK.toList/\
 (κ prog 69 #[.agg aK] τ (λv1 aa=>
  dw v1 λaF=>
  cond (!aF) (
   bG aa ⟨θ,0,none⟩ [(.int .i64 0),(.int .i64 0),(.int .i64 0),(.int .i64 0),(.int .i64 0),(.int .i64 0),(.int .i64 0),(.int .i64 0),(.int .i64 0),(.int .i64 0),(.int .i64 0),(.int .i64 0),(.int .i64 0),(.int .i64 0),(.int .i64 0),(.int .i64 0),(.slice none 0 0),(.slice none 0 0),(.slice none 0 0),(.slice none 0 0),(.slice none 0 0),(.slice none 0 0),(.slice none 0 0),(.slice none 0 0)] λcf=>
   (∃(bF:ag),bF.size=24/\aw cf ⟨θ,0,none⟩ bF.toList/\
    (R (.returned (.tuple #[.agg bF,(2:Int)])) cf))) (
   κ prog 115 #[.complex .f64 ru rr] aa (λv2 aE=>
    dw v2 λae=>
    cond (!ae) (
     bG aE ⟨θ,0,none⟩ [(.int .i64 0),(.int .i64 0),(.int .i64 0),(.int .i64 0),(.int .i64 0),(.int .i64 0),(.int .i64 0),(.int .i64 0),(.int .i64 0),(.int .i64 0),(.int .i64 0),(.int .i64 0),(.int .i64 0),(.int .i64 0),(.int .i64 0),(.int .i64 0),(.slice none 0 0),(.slice none 0 0),(.slice none 0 0),(.slice none 0 0),(.slice none 0 0),(.slice none 0 0),(.slice none 0 0),(.slice none 0 0)] λc6=>
     (∃(bZ:ag),bZ.size=24/\aw c6 ⟨θ,0,none⟩ bZ.toList/\
      (R (.returned (.tuple #[.agg bZ,(2:Int)])) c6))) (
     κ prog 115 #[.complex .f64 pH pG] aE (λv3 bm=>
      dw v3 λc8=>
      cond (!c8) (
       bG bm ⟨θ,0,none⟩ [(.int .i64 0),(.int .i64 0),(.int .i64 0),(.int .i64 0),(.int .i64 0),(.int .i64 0),(.int .i64 0),(.int .i64 0),(.int .i64 0),(.int .i64 0),(.int .i64 0),(.int .i64 0),(.int .i64 0),(.int .i64 0),(.int .i64 0),(.int .i64 0),(.slice none 0 0),(.slice none 0 0),(.slice none 0 0),(.slice none 0 0),(.slice none 0 0),(.slice none 0 0),(.slice none 0 0),(.slice none 0 0)] λcA=>
       (∃(bW:ag),bW.size=24/\aw cA ⟨θ,0,none⟩ bW.toList/\
        (R (.returned (.tuple #[.agg bW,(2:Int)])) cA))) (
       ∃(cE:ag),cE.size=24/\aw bm ⟨δ,0,none⟩ cE.toList/\
       (κ prog 110 #[.agg cE] bm (λv4 cn=>
         pQ v4 λcG=>
         Hw prog cn cG ru rr 213 (.slice none 0 0) λv5=>
         cN v5 λab ay c1=>
         cond (((ay:Nat):Int)==0) (
          bG cn ⟨θ,0,none⟩ [(.int .i64 0),(.int .i64 0),(.int .i64 0),(.int .i64 0),(.int .i64 0),(.int .i64 0),(.int .i64 0),(.int .i64 0),(.int .i64 0),(.int .i64 0),(.int .i64 0),(.int .i64 0),(.int .i64 0),(.int .i64 0),(.int .i64 0),(.int .i64 0),(.slice none 0 0),(.slice none 0 0),(.slice none 0 0),(.slice none 0 0),(.slice none 0 0),(.slice none 0 0),(.slice none 0 0),(.slice none 0 0)] λdX=>
          (∃(dM:ag),dM.size=24/\aw dX ⟨θ,0,none⟩ dM.toList/\
           (R (.returned (.tuple #[.agg dM,(4:Int)])) dX))) (
          cond (!(ek .eql ru pH&&ek .eql rr pG)) (
           Hw prog cn cG pH pG 213 (.slice none 0 0) λv6=>
           cN v6 λaX bu c2=>
           cond (decide (((bu:Nat):Int)>0)) (
            bG cn ⟨θ,0,none⟩ [(.int .i64 0),(.int .i64 0),(.int .i64 0),(.int .i64 0),(.int .i64 0),(.int .i64 0),(.int .i64 0),(.int .i64 0),(.int .i64 0),(.int .i64 0),(.int .i64 0),(.int .i64 0),(.int .i64 0),(.int .i64 0),(.int .i64 0),(.int .i64 0),(.slice none 0 0),(.slice none 0 0),(.slice none 0 0),(.slice none 0 0),(.slice none 0 0),(.slice none 0 0),(.slice none 0 0),(.slice none 0 0)] λeA=>
            (∃(gv:ag),gv.size=24/\aw eA ⟨θ,0,none⟩ gv.toList/\
            (R (.returned (.tuple #[.agg gv,(12:Int)])) eA))) (
            oP.a1 ru rr pH pG δ θ cG cn R)) (
           oP.a1 ru rr pH pG δ θ cG cn R))) (au R)))) (au R))) (au R))) (au R))
abbrev oP.C(a0:ag)(ru rr pH pG:Nat):=Calls prog 97 #[.agg a0,.complex .f64 ru rr,.complex .f64 pH pG]
theorem oP.ok:wz oP.main oP.C:=λ{_ _ _ _ _ _ R}h=>fc func97 [.cell 6 89,.tmp 7] 68 (.seq .leaf (.seq .leaf (.seq .leaf (.cut [(1,.pP),(2,.pP),(3,.cY),(6,.cY),(8,.map)] (oP.a1 · · · · · · · · R) .leaf (.seq .leaf (.seq (.seq .leaf (.block (.loop [(2,.pP),(3,.cY),(6,.cY),(50,.slice),(51,.int .i64),(52,.int .i64)] (oP.bd · · · · · · · · · · R) λa8=>.leaf))) .leaf)))))) h
def C8.main(a0:J)(w:World)(R:aq):Prop:=
 ξ a0 λd1=>
 ∃ζ,w.cell? (d1.add 3)=some (.int .i64 ζ)/\
 (cond (ζ==0) (
  ξ a0 λd2=>
  ed w (d2.add 4) (.bool true) λγ=>
  (ξ a0 λd6=>
   ∃δ,γ.cell? (d6.add 4)=some (.bool δ)/\
   (R (.returned (.bool δ)) γ))) (
  ξ a0 λd3=>
  ∃σ,w.cell? (d3.add 3)=some (.int .i64 σ)/\
  (cond (decide (σ>0)) (
    ξ a0 λd4=>
    ∃ad,w.cell? (d4.add 3)=some (.int .i64 ad)/\
    (ξ a0 λd5=>
     ed w (d5.add 3) (.int .i64 (IntKind.i64.wrap (ad-1))) λτ=>
     (ξ a0 λd7=>
      ∃θ,τ.cell? (d7.add 4)=some (.bool θ)/\
      (R (.returned (.bool θ)) τ)))) (
    ξ a0 λd8=>
    ∃aF,w.cell? (d8.add 4)=some (.bool aF)/\
    (R (.returned (.bool aF)) w)))))
abbrev C8.C(a0:J):=Calls prog 98 #[.pointer a0]
theorem C8.ok:ic C8.main C8.C:=λh=>dg func98 [.tmp 2] 27 h
def bq.ρ(α:Type)(fo:World->ao)(bD:List α->ao)(pre:List α)(x:α)(fw:World)(ae:Nat)(eY:J)(dB:Nat)(hR:Nat)(cA:World):Prop:=
 ed fw ⟨ae,0,none⟩ (Value.slice eY (dB+1) hR) λsq=>
 (KeepsOthers cA sq/\fo cA sq/\bD (pre++[x]) sq)
def bq.ai(α:Type)(fo:World->ao)(bD:List α->ao)(pre:List α)(x:α)(hZ:World)(bh:J)(dB:Nat)(bI:Nat)(iv:Nat)(ae:Nat)(cA:World):Prop:=
 gK hZ bh dB bI 1 (a7 hZ (some ⟨iv,0,none⟩)) 34 1 24 #[(Value.slice none 0 0)] λeY hR fw=>
 bq.ρ α fo bD pre x fw ae eY dB hR cA
def bq.bo(α:Type)(fo:World->ao)(bD:List α->ao)(pre:List α)(x:α)(fv:World)(iM:J)(n7:Nat)(l9:Nat)(ae:Nat)(bh:J)(dB:Nat)(bI:Nat)(cA:World):Prop:=
 aN fv #[(Value.slice iM n7 l9)] 34 λiv hZ=>
 hZ.cell? (⟨ae,0,none⟩:Addr)=some (Value.slice bh dB bI)/\
 (bq.ai α fo bD pre x hZ bh dB bI iv ae cA)
def bq.cx(α:Type)(fo:World->ao)(bD:List α->ao)(pre:List α)(x:α)(p8:J)(n6:Nat)(bu:Nat)(nb:Nat)(eD:World)(ae:Nat)(bh:J)(dB:Nat)(bI:Nat)(cA:World):Prop:=
 κ prog 138 #[(Value.slice p8 (n6+bu) nb)] eD (λv6 fv=>
 cN v6 λiM n7 l9=>
 fv.cell? (⟨ae,0,none⟩:Addr)=some (Value.slice bh dB bI)/\
 (bq.bo α fo bD pre x fv iM n7 l9 ae bh dB bI cA)) λcQ eJ=>False
def bq.cu(α:Type)(fo:World->ao)(bD:List α->ao)(pre:List α)(x:α)(fO:World)(jG:J)(n6:Nat)(rD:Nat)(bu:Nat)(aX:J)(ae:Nat)(bh:J)(dB:Nat)(bI:Nat)(cA:World):Prop:=
 gK fO jG n6 rD bu (a7 fO aX) 5 1 1 #[(Value.int .u8 0)] λp8 nb eD=>
 eD.cell? (⟨ae,0,none⟩:Addr)=some (Value.slice bh dB bI)/\
 (bq.cx α fo bD pre x p8 n6 bu nb eD ae bh dB bI cA)
def bq.bS(α:Type)(fo:World->ao)(bD:List α->ao)(pre:List α)(x:α)(fH:J)(rY:Nat)(iC:Nat)(fq:Nat)(ga:World)(ae:Nat)(bh:J)(dB:Nat)(bI:Nat)(bu:Nat)(aX:J)(cA:World):Prop:=
 κ prog 139 #[(Value.slice fH rY iC),(Value.int .i64 1),(Value.slice (some ⟨fq,0,none⟩) 2 2)] ga (λv5 fO=>
 cN v5 λjG n6 rD=>
 fO.cell? (⟨ae,0,none⟩:Addr)=some (Value.slice bh dB bI)/\
 (bq.cu α fo bD pre x fO jG n6 rD bu aX ae bh dB bI cA)) λcQ fE=>False
def bq.er(α:Type)(fo:World->ao)(bD:List α->ao)(pre:List α)(x:α)(eA:World)(jg:Nat)(bu:Nat)(ae:Nat)(bh:J)(dB:Nat)(bI:Nat)(fH:J)(rY:Nat)(iC:Nat)(aX:J)(cA:World):Prop:=
 aN eA #[(Value.int .i64 ((jg:Nat):Int)),(Value.int .i64 ((bu:Nat):Int))] 3 λfq ga=>
 ga.cell? (⟨ae,0,none⟩:Addr)=some (Value.slice bh dB bI)/\
 (bq.bS α fo bD pre x fH rY iC fq ga ae bh dB bI bu aX cA)
def bq.e6(α:Type)(fo:World->ao)(bD:List α->ao)(pre:List α)(x:α)(c8:Nat)(gi:World)(ae:Nat)(bh:J)(dB:Nat)(bI:Nat)(pL:Nat)(bu:Nat)(aX:J)(cA:World):Prop:=
 κ prog 139 #[(Value.slice none 0 0),(Value.int .i64 4),(Value.slice (some ⟨c8,0,none⟩) 1 1)] gi (λfJ h0=>
 cN fJ λVb n8 ajO=>
 h0.cell? (⟨ae,0,none⟩:Addr)=some (Value.slice bh dB bI)/\
 (bq.bS α fo bD pre x Vb n8 ajO pL h0 ae bh dB bI bu aX cA)) λcQ hP=>False
def bq.jh(α:Type)(fo:World->ao)(bD:List α->ao)(pre:List α)(x:α)(c8:Nat)(dX:World)(ae:Nat)(eg:J)(jg:Nat)(hs:Nat)(bh:J)(dB:Nat)(bI:Nat)(bu:Nat)(aX:J)(cA:World):Prop:=
 (κ prog 139 #[(Value.slice none 0 0),(Value.int .i64 4),(Value.slice (some ⟨c8,0,none⟩) 1 1)] dX (λv4 eA=>
 cN v4 λfH rY iC=>
 eA.cell? (⟨ae,0,none⟩:Addr)=some (Value.slice eg jg hs)/\
 (eA.cell? (⟨ae,0,none⟩:Addr)=some (Value.slice bh dB bI)/\
 (bq.er α fo bD pre x eA jg bu ae bh dB bI fH rY iC aX cA))) λcQ eR=>False)/\
 (aN dX #[(Value.int .i64 ((jg:Nat):Int)),(Value.int .i64 ((bu:Nat):Int))] 3 λpL gi=>
 gi.cell? (⟨ae,0,none⟩:Addr)=some (Value.slice bh dB bI)/\
 (bq.e6 α fo bD pre x c8 gi ae bh dB bI pL bu aX cA))
def bq.p4(α:Type)(fo:World->ao)(bD:List α->ao)(pre:List α)(x:α)(mA:World)(aA:Int)(ae:Nat)(bh:J)(dB:Nat)(bI:Nat)(vn:Nat)(bu:Nat)(aX:J)(cA:World):Prop:=
 aN mA #[(Value.int .i64 aA)] 3 λJc qp=>
 qp.cell? (⟨ae,0,none⟩:Addr)=some (Value.slice bh dB bI)/\
 (bq.e6 α fo bD pre x Jc qp ae bh dB bI vn bu aX cA)
def bq.r0(α:Type)(fo:World->ao)(bD:List α->ao)(pre:List α)(x:α)(cA:World)(aA:Int)(ae:Nat)(eg:J)(jg:Nat)(hs:Nat)(bh:J)(dB:Nat)(bI:Nat)(bu:Nat)(aX:J)(aF:Nat):Prop:=
 (aN cA.drew #[(Value.int .i64 aA)] 3 λc8 dX=>
 dX.cell? (⟨ae,0,none⟩:Addr)=some (Value.slice eg jg hs)/\
 (dX.cell? (⟨ae,0,none⟩:Addr)=some (Value.slice bh dB bI)/\
 (bq.jh α fo bD pre x c8 dX ae eg jg hs bh dB bI bu aX cA)))/\
 (aN cA.drew #[(Value.int .i64 ((jg:Nat):Int)),(Value.int .i64 ((bu:Nat):Int))] 3 λvn mA=>
 mA.cell? (⟨aF,0,none⟩:Addr)=some (Value.int .i64 aA)/\
 (mA.cell? (⟨ae,0,none⟩:Addr)=some (Value.slice bh dB bI)/\
 (bq.p4 α fo bD pre x mA aA ae bh dB bI vn bu aX cA)))
def bq.Al(D:Nat)(AW:World)(wH:Nat)(n18:Nat)(mP:J)(R:aq):Prop:=
 gK AW (some ⟨wH,0,none⟩) 1 1 n18 (a7 AW mP) 34 1 24 #[(Value.slice none 0 0)] λVc Rk u7=>
 u7.heap[D]?=some (Obj.deferred (some []))/\
 R (.returned (Value.tuple #[(Value.slice Vc (1+n18) Rk),(Value.int .i64 0)])) (u7.putObj D (Obj.deferred none))
def bq.xm(D:Nat)(ss:World)(B4:J)(n20:Nat)(Bm:Nat)(ae:Nat)(mP:J)(n18:Nat)(ot:Nat)(R:aq):Prop:=
 aN ss #[(Value.slice B4 n20 Bm)] 34 λwH AW=>
 AW.cell? (⟨ae,0,none⟩:Addr)=some (Value.slice mP n18 ot)/\
 (bq.Al D AW wH n18 mP R)
def bq.r1(D:Nat)(KO:J)(n19:Nat)(Jh:Nat)(Cu:World)(ae:Nat)(mP:J)(n18:Nat)(ot:Nat)(R:aq):Prop:=
 κ prog 138 #[(Value.slice KO n19 Jh)] Cu (λu2 ss=>
 cN u2 λB4 n20 Bm=>
 ss.cell? (⟨ae,0,none⟩:Addr)=some (Value.slice mP n18 ot)/\
 (bq.xm D ss B4 n20 Bm ae mP n18 ot R)) (λcQ II=>II.heap[D]?=some (Obj.deferred (some []))/\
 R (.panicked cQ) (II.putObj D (Obj.deferred none)))
def bq.s5(D:Nat)(vQ:J)(n17:Nat)(vo:Nat)(CX:Nat)(L5:World)(ae:Nat)(mP:J)(n18:Nat)(ot:Nat)(R:aq):Prop:=
 κ prog 139 #[(Value.slice vQ n17 vo),(Value.int .i64 4),(Value.slice (some ⟨CX,0,none⟩) 1 1)] L5 (λv17 Cu=>
 cN v17 λKO n19 Jh=>
 Cu.cell? (⟨ae,0,none⟩:Addr)=some (Value.slice mP n18 ot)/\
 (bq.r1 D KO n19 Jh Cu ae mP n18 ot R)) (λcQ bY=>bY.heap[D]?=some (Obj.deferred (some []))/\
 R (.panicked cQ) (bY.putObj D (Obj.deferred none)))
def bq.uG(D:Nat)(Gk:World)(cg:Int)(ae:Nat)(mP:J)(n18:Nat)(ot:Nat)(vQ:J)(n17:Nat)(vo:Nat)(R:aq):Prop:=
 aN Gk #[(Value.int .i64 (IntKind.i64.wrap cg))] 3 λCX L5=>
 L5.cell? (⟨ae,0,none⟩:Addr)=some (Value.slice mP n18 ot)/\
 (bq.s5 D vQ n17 vo CX L5 ae mP n18 ot R)
def bq.B0(D:Nat)(ab:J)(ay:Nat)(c1:Nat)(o3:World)(ae:Nat)(mP:J)(n18:Nat)(ot:Nat)(vQ:J)(n17:Nat)(vo:Nat)(R:aq):Prop:=
 κ prog 140 #[(Value.slice ab ay c1)] o3.drew (λsm Gk=>
 br .u32 sm λcg=>
 Gk.cell? (⟨ae,0,none⟩:Addr)=some (Value.slice mP n18 ot)/\
 (bq.uG D Gk cg ae mP n18 ot vQ n17 vo R)) (λcQ Qf=>Qf.heap[D]?=some (Obj.deferred (some []))/\
 R (.panicked cQ) (Qf.putObj D (Obj.deferred none)))
def bq.pj(D:Nat)(r5:J)(n16:Nat)(rC:Nat)(pK:Nat)(xR:World)(ae:Nat)(ab:J)(ay:Nat)(c1:Nat)(R:aq):Prop:=
 κ prog 139 #[(Value.slice r5 n16 rC),(Value.int .i64 2),(Value.slice (some ⟨pK,0,none⟩) 1 1)] xR (λsl o3=>
 cN sl λvQ n17 vo=>
 ∃(mP:J)(n18:Nat)(ot:Nat),o3.drew.cell? (⟨ae,0,none⟩:Addr)=some (Value.slice mP n18 ot)/\
 (bq.B0 D ab ay c1 o3 ae mP n18 ot vQ n17 vo R)) (λcQ L4=>L4.heap[D]?=some (Obj.deferred (some []))/\
 R (.panicked cQ) (L4.putObj D (Obj.deferred none)))
def bq.KE(D:Nat)(xQ:World)(ay:Nat)(r5:J)(n16:Nat)(rC:Nat)(ae:Nat)(ab:J)(c1:Nat)(R:aq):Prop:=
 aN xQ #[(Value.int .i64 ((ay:Nat):Int))] 3 λpK xR=>
 bq.pj D r5 n16 rC pK xR ae ab ay c1 R
def bq.p5(D:Nat)(kO:J)(n15:Nat)(kI:Nat)(oq:Nat)(zi:World)(x8:Nat)(ae:Nat)(ab:J)(ay:Nat)(c1:Nat)(R:aq):Prop:=
 κ prog 139 #[(Value.slice kO n15 kI),(Value.int .i64 1),(Value.slice (some ⟨oq,0,none⟩) 3 3)] zi (λu3 Qg=>
 cN u3 λac6 n21 GD=>
 bq.pj D ac6 n21 GD x8 Qg ae ab ay c1 R) (λcQ Qh=>Qh.heap[D]?=some (Obj.deferred (some []))/\
 R (.panicked cQ) (Qh.putObj D (Obj.deferred none)))
def bq.kn(D:Nat)(kO:J)(n15:Nat)(kI:Nat)(oq:Nat)(nz:World)(ay:Nat)(ae:Nat)(ab:J)(c1:Nat)(R:aq):Prop:=
 (κ prog 139 #[(Value.slice kO n15 kI),(Value.int .i64 1),(Value.slice (some ⟨oq,0,none⟩) 3 3)] nz (λqo xQ=>
 cN qo λr5 n16 rC=>
 bq.KE D xQ ay r5 n16 rC ae ab c1 R) (λcQ Gj=>Gj.heap[D]?=some (Obj.deferred (some []))/\
 R (.panicked cQ) (Gj.putObj D (Obj.deferred none))))/\
 (aN nz #[(Value.int .i64 ((ay:Nat):Int))] 3 λx8 zi=>
 bq.p5 D kO n15 kI oq zi x8 ae ab ay c1 R)
def bq.Am(D:Nat)(tJ:World)(aI:Int)(aV:Int)(n14:Nat)(kO:J)(n15:Nat)(kI:Nat)(CY:Nat)(ae:Nat)(ab:J)(ay:Nat)(c1:Nat)(R:aq):Prop:=
 aN tJ #[(Value.int .i64 aI),(Value.int .i64 aV),(Value.int .i64 ((n14:Nat):Int))] 3 λYl Qi=>
 bq.p5 D kO n15 kI Yl Qi CY ae ab ay c1 R
def bq.vL(D:Nat)(rb:World)(aI:Int)(aV:Int)(n14:Nat)(kO:J)(n15:Nat)(kI:Nat)(ay:Nat)(ae:Nat)(ab:J)(c1:Nat)(cw:J)(cv:Nat)(θ:Nat)(R:aq):Prop:=
 (aN rb #[(Value.int .i64 aI),(Value.int .i64 aV),(Value.int .i64 ((n14:Nat):Int))] 3 λoq nz=>
 bq.kn D kO n15 kI oq nz ay ae ab c1 R)/\
 (aN rb #[(Value.int .i64 ((ay:Nat):Int))] 3 λCY tJ=>
 tJ.cell? (⟨ae,0,none⟩:Addr)=some (Value.slice cw n14 cv)/\
 (tJ.cell? (⟨θ,1,none⟩:Addr)=some (Value.int .i64 aV)/\
 (tJ.cell? (⟨θ,0,none⟩:Addr)=some (Value.int .i64 aI)/\
 (bq.Am D tJ aI aV n14 kO n15 kI CY ae ab ay c1 R))))
def bq.B1(D:Nat)(cT:Nat)(jN:Nat)(xK:World)(tV:Nat)(C0:Nat)(ae:Nat)(ab:J)(ay:Nat)(c1:Nat)(R:aq):Prop:=
 κ prog 139 #[(Value.slice (some ⟨cT,0,none⟩) 4 4),(Value.int .i64 4),(Value.slice (some ⟨jN,0,none⟩) 1 1)] xK (λv40 agW=>
 cN v40 λac8 n42 YH=>
 bq.p5 D ac8 n42 YH tV agW C0 ae ab ay c1 R) (λcQ agX=>agX.heap[D]?=some (Obj.deferred (some []))/\
 R (.panicked cQ) (agX.putObj D (Obj.deferred none)))
def bq.EA(D:Nat)(cT:Nat)(jN:Nat)(xS:World)(tV:Nat)(ay:Nat)(ae:Nat)(ab:J)(c1:Nat)(R:aq):Prop:=
 (κ prog 139 #[(Value.slice (some ⟨cT,0,none⟩) 4 4),(Value.int .i64 4),(Value.slice (some ⟨jN,0,none⟩) 1 1)] xS (λGh ahg=>
 cN Gh λac7 n31 YG=>
 bq.kn D ac7 n31 YG tV ahg ay ae ab c1 R) (λcQ agS=>agS.heap[D]?=some (Obj.deferred (some []))/\
 R (.panicked cQ) (agS.putObj D (Obj.deferred none))))/\
 (aN xS #[(Value.int .i64 ((ay:Nat):Int))] 3 λC0 xK=>
 bq.B1 D cT jN xK tV C0 ae ab ay c1 R)
def bq.EB(D:Nat)(cT:Nat)(jN:Nat)(tD:World)(ae:Nat)(cw:J)(n14:Nat)(cv:Nat)(θ:Nat)(aV:Int)(aI:Int)(Bg:Nat)(ab:J)(ay:Nat)(c1:Nat)(R:aq):Prop:=
 (κ prog 139 #[(Value.slice (some ⟨cT,0,none⟩) 4 4),(Value.int .i64 4),(Value.slice (some ⟨jN,0,none⟩) 1 1)] tD (λv46 LX=>
 cN v46 λac9 n48 YI=>
 LX.cell? (⟨ae,0,none⟩:Addr)=some (Value.slice cw n14 cv)/\
 (LX.cell? (⟨θ,1,none⟩:Addr)=some (Value.int .i64 aV)/\
 (LX.cell? (⟨θ,0,none⟩:Addr)=some (Value.int .i64 aI)/\
 (bq.Am D LX aI aV n14 ac9 n48 YI Bg ae ab ay c1 R)))) (λcQ agZ=>agZ.heap[D]?=some (Obj.deferred (some []))/\
 R (.panicked cQ) (agZ.putObj D (Obj.deferred none))))/\
 (aN tD #[(Value.int .i64 aI),(Value.int .i64 aV),(Value.int .i64 ((n14:Nat):Int))] 3 λYx ag1=>
 bq.B1 D cT jN ag1 Yx Bg ae ab ay c1 R)
def bq.r2(D:Nat)(cT:Nat)(jN:Nat)(mB:World)(ae:Nat)(cw:J)(n14:Nat)(cv:Nat)(θ:Nat)(aV:Int)(aI:Int)(ay:Nat)(ab:J)(c1:Nat)(R:aq):Prop:=
 (κ prog 139 #[(Value.slice (some ⟨cT,0,none⟩) 4 4),(Value.int .i64 4),(Value.slice (some ⟨jN,0,none⟩) 1 1)] mB (λny rb=>
 cN ny λkO n15 kI=>
 rb.cell? (⟨ae,0,none⟩:Addr)=some (Value.slice cw n14 cv)/\
 (rb.cell? (⟨θ,1,none⟩:Addr)=some (Value.int .i64 aV)/\
 (rb.cell? (⟨θ,0,none⟩:Addr)=some (Value.int .i64 aI)/\
 (bq.vL D rb aI aV n14 kO n15 kI ay ae ab c1 cw cv θ R)))) (λcQ u6=>u6.heap[D]?=some (Obj.deferred (some []))/\
 R (.panicked cQ) (u6.putObj D (Obj.deferred none))))/\
 (aN mB #[(Value.int .i64 aI),(Value.int .i64 aV),(Value.int .i64 ((n14:Nat):Int))] 3 λtV xS=>
 bq.EA D cT jN xS tV ay ae ab c1 R)/\
 (aN mB #[(Value.int .i64 ((ay:Nat):Int))] 3 λBg tD=>
 tD.cell? (⟨ae,0,none⟩:Addr)=some (Value.slice cw n14 cv)/\
 (tD.cell? (⟨θ,1,none⟩:Addr)=some (Value.int .i64 aV)/\
 (tD.cell? (⟨θ,0,none⟩:Addr)=some (Value.int .i64 aI)/\
 (bq.EB D cT jN tD ae cw n14 cv θ aV aI Bg ab ay c1 R))))
def bq.EC(D:Nat)(xN:World)(ak:Int)(cT:Nat)(tW:Nat)(C1:Nat)(ae:Nat)(ab:J)(ay:Nat)(c1:Nat)(R:aq):Prop:=
 aN xN #[(Value.int .i64 ak)] 3 λYz ag3=>
 bq.B1 D cT Yz ag3 tW C1 ae ab ay c1 R
def bq.Ox(D:Nat)(xM:World)(ak:Int)(cT:Nat)(tW:Nat)(ay:Nat)(ae:Nat)(ab:J)(c1:Nat)(aF:Nat)(R:aq):Prop:=
 (aN xM #[(Value.int .i64 ak)] 3 λYy ag2=>
 bq.EA D cT Yy ag2 tW ay ae ab c1 R)/\
 (aN xM #[(Value.int .i64 ((ay:Nat):Int))] 3 λC1 xN=>
 xN.cell? (⟨aF,0,none⟩:Addr)=some (Value.int .i64 ak)/\
 (bq.EC D xN ak cT tW C1 ae ab ay c1 R))
def bq.B2(D:Nat)(tF:World)(ak:Int)(ae:Nat)(cw:J)(n14:Nat)(cv:Nat)(θ:Nat)(aV:Int)(aI:Int)(cT:Nat)(Bh:Nat)(ab:J)(ay:Nat)(c1:Nat)(aF:Nat)(R:aq):Prop:=
 (aN tF #[(Value.int .i64 ak)] 3 λYA LZ=>
 LZ.cell? (⟨ae,0,none⟩:Addr)=some (Value.slice cw n14 cv)/\
 (LZ.cell? (⟨θ,1,none⟩:Addr)=some (Value.int .i64 aV)/\
 (LZ.cell? (⟨θ,0,none⟩:Addr)=some (Value.int .i64 aI)/\
 (bq.EB D cT YA LZ ae cw n14 cv θ aV aI Bh ab ay c1 R))))/\
 (aN tF #[(Value.int .i64 aI),(Value.int .i64 aV),(Value.int .i64 ((n14:Nat):Int))] 3 λYB WC=>
 WC.cell? (⟨aF,0,none⟩:Addr)=some (Value.int .i64 ak)/\
 (bq.EC D WC ak cT YB Bh ae ab ay c1 R))
def bq.HJ(D:Nat)(oc:World)(ak:Int)(ae:Nat)(cw:J)(n14:Nat)(cv:Nat)(θ:Nat)(aV:Int)(aI:Int)(cT:Nat)(ay:Nat)(ab:J)(c1:Nat)(aF:Nat)(R:aq):Prop:=
 (aN oc #[(Value.int .i64 ak)] 3 λjN mB=>
 mB.cell? (⟨ae,0,none⟩:Addr)=some (Value.slice cw n14 cv)/\
 (mB.cell? (⟨θ,1,none⟩:Addr)=some (Value.int .i64 aV)/\
 (mB.cell? (⟨θ,0,none⟩:Addr)=some (Value.int .i64 aI)/\
 (bq.r2 D cT jN mB ae cw n14 cv θ aV aI ay ab c1 R))))/\
 (aN oc #[(Value.int .i64 aI),(Value.int .i64 aV),(Value.int .i64 ((n14:Nat):Int))] 3 λtW xM=>
 xM.cell? (⟨aF,0,none⟩:Addr)=some (Value.int .i64 ak)/\
 (bq.Ox D xM ak cT tW ay ae ab c1 aF R))/\
 (aN oc #[(Value.int .i64 ((ay:Nat):Int))] 3 λBh tF=>
 tF.cell? (⟨ae,0,none⟩:Addr)=some (Value.slice cw n14 cv)/\
 (tF.cell? (⟨θ,1,none⟩:Addr)=some (Value.int .i64 aV)/\
 (tF.cell? (⟨θ,0,none⟩:Addr)=some (Value.int .i64 aI)/\
 (tF.cell? (⟨aF,0,none⟩:Addr)=some (Value.int .i64 ak)/\
 (bq.B2 D tF ak ae cw n14 cv θ aV aI cT Bh ab ay c1 aF R)))))
def bq.r3(D:Nat)(xP:World)(cT:Nat)(kW:Nat)(tX:Nat)(CW:Nat)(ae:Nat)(ab:J)(ay:Nat)(c1:Nat)(R:aq):Prop:=
 xi xP ⟨cT,0,none⟩ λag5=>
 bq.B1 D cT kW ag5 tX CW ae ab ay c1 R
def bq.ED(D:Nat)(xO:World)(cT:Nat)(kW:Nat)(tX:Nat)(ay:Nat)(ae:Nat)(ab:J)(c1:Nat)(R:aq):Prop:=
 (xi xO ⟨cT,0,none⟩ λag4=>
 bq.EA D cT kW ag4 tX ay ae ab c1 R)/\
 (aN xO #[(Value.int .i64 ((ay:Nat):Int))] 3 λCW xP=>
 bq.r3 D xP cT kW tX CW ae ab ay c1 R)
def bq.EE(D:Nat)(tI:World)(cT:Nat)(ae:Nat)(cw:J)(n14:Nat)(cv:Nat)(θ:Nat)(aV:Int)(aI:Int)(kW:Nat)(Bc:Nat)(ab:J)(ay:Nat)(c1:Nat)(R:aq):Prop:=
 (xi tI ⟨cT,0,none⟩ λL3=>
 L3.cell? (⟨ae,0,none⟩:Addr)=some (Value.slice cw n14 cv)/\
 (L3.cell? (⟨θ,1,none⟩:Addr)=some (Value.int .i64 aV)/\
 (L3.cell? (⟨θ,0,none⟩:Addr)=some (Value.int .i64 aI)/\
 (bq.EB D cT kW L3 ae cw n14 cv θ aV aI Bc ab ay c1 R))))/\
 (aN tI #[(Value.int .i64 aI),(Value.int .i64 aV),(Value.int .i64 ((n14:Nat):Int))] 3 λYf ag6=>
 bq.r3 D ag6 cT kW Yf Bc ae ab ay c1 R)
def bq.Oy(D:Nat)(tG:World)(cT:Nat)(ae:Nat)(cw:J)(n14:Nat)(cv:Nat)(θ:Nat)(aV:Int)(aI:Int)(kW:Nat)(ay:Nat)(ab:J)(c1:Nat)(R:aq):Prop:=
 (xi tG ⟨cT,0,none⟩ λL0=>
 L0.cell? (⟨ae,0,none⟩:Addr)=some (Value.slice cw n14 cv)/\
 (L0.cell? (⟨θ,1,none⟩:Addr)=some (Value.int .i64 aV)/\
 (L0.cell? (⟨θ,0,none⟩:Addr)=some (Value.int .i64 aI)/\
 (bq.r2 D cT kW L0 ae cw n14 cv θ aV aI ay ab c1 R))))/\
 (aN tG #[(Value.int .i64 aI),(Value.int .i64 aV),(Value.int .i64 ((n14:Nat):Int))] 3 λtX xO=>
 bq.ED D xO cT kW tX ay ae ab c1 R)/\
 (aN tG #[(Value.int .i64 ((ay:Nat):Int))] 3 λBc tI=>
 tI.cell? (⟨ae,0,none⟩:Addr)=some (Value.slice cw n14 cv)/\
 (tI.cell? (⟨θ,1,none⟩:Addr)=some (Value.int .i64 aV)/\
 (tI.cell? (⟨θ,0,none⟩:Addr)=some (Value.int .i64 aI)/\
 (bq.EE D tI cT ae cw n14 cv θ aV aI kW Bc ab ay c1 R))))
def bq.An(D:Nat)(wh:World)(cT:Nat)(aF:Nat)(ak:Int)(ry:Nat)(Bd:Nat)(ae:Nat)(ab:J)(ay:Nat)(c1:Nat)(R:aq):Prop:=
 (xi wh ⟨cT,0,none⟩ λWG=>
 WG.cell? (⟨aF,0,none⟩:Addr)=some (Value.int .i64 ak)/\
 (bq.EC D WG ak cT ry Bd ae ab ay c1 R))/\
 (aN wh #[(Value.int .i64 ak)] 3 λYh ag8=>
 bq.r3 D ag8 cT Yh ry Bd ae ab ay c1 R)
def bq.EF(D:Nat)(wg:World)(cT:Nat)(aF:Nat)(ak:Int)(ry:Nat)(ay:Nat)(ae:Nat)(ab:J)(c1:Nat)(R:aq):Prop:=
 (xi wg ⟨cT,0,none⟩ λWE=>
 WE.cell? (⟨aF,0,none⟩:Addr)=some (Value.int .i64 ak)/\
 (bq.Ox D WE ak cT ry ay ae ab c1 aF R))/\
 (aN wg #[(Value.int .i64 ak)] 3 λYg ag7=>
 bq.ED D ag7 cT Yg ry ay ae ab c1 R)/\
 (aN wg #[(Value.int .i64 ((ay:Nat):Int))] 3 λBd wh=>
 wh.cell? (⟨aF,0,none⟩:Addr)=some (Value.int .i64 ak)/\
 (bq.An D wh cT aF ak ry Bd ae ab ay c1 R))
def bq.HK(D:Nat)(su:World)(cT:Nat)(ae:Nat)(cw:J)(n14:Nat)(cv:Nat)(θ:Nat)(aV:Int)(aI:Int)(aF:Nat)(ak:Int)(zz:Nat)(ab:J)(ay:Nat)(c1:Nat)(R:aq):Prop:=
 (xi su ⟨cT,0,none⟩ λIJ=>
 IJ.cell? (⟨ae,0,none⟩:Addr)=some (Value.slice cw n14 cv)/\
 (IJ.cell? (⟨θ,1,none⟩:Addr)=some (Value.int .i64 aV)/\
 (IJ.cell? (⟨θ,0,none⟩:Addr)=some (Value.int .i64 aI)/\
 (IJ.cell? (⟨aF,0,none⟩:Addr)=some (Value.int .i64 ak)/\
 (bq.B2 D IJ ak ae cw n14 cv θ aV aI cT zz ab ay c1 aF R)))))/\
 (aN su #[(Value.int .i64 ak)] 3 λYi L6=>
 L6.cell? (⟨ae,0,none⟩:Addr)=some (Value.slice cw n14 cv)/\
 (L6.cell? (⟨θ,1,none⟩:Addr)=some (Value.int .i64 aV)/\
 (L6.cell? (⟨θ,0,none⟩:Addr)=some (Value.int .i64 aI)/\
 (bq.EE D L6 cT ae cw n14 cv θ aV aI Yi zz ab ay c1 R))))/\
 (aN su #[(Value.int .i64 aI),(Value.int .i64 aV),(Value.int .i64 ((n14:Nat):Int))] 3 λYj WI=>
 WI.cell? (⟨aF,0,none⟩:Addr)=some (Value.int .i64 ak)/\
 (bq.An D WI cT aF ak Yj zz ae ab ay c1 R))
def bq.KG(D:Nat)(qt:World)(cT:Nat)(ae:Nat)(cw:J)(n14:Nat)(cv:Nat)(θ:Nat)(aV:Int)(aI:Int)(aF:Nat)(ak:Int)(ay:Nat)(ab:J)(c1:Nat)(R:aq):Prop:=
 (xi qt ⟨cT,0,none⟩ λoc=>
 oc.cell? (⟨ae,0,none⟩:Addr)=some (Value.slice cw n14 cv)/\
 (oc.cell? (⟨θ,1,none⟩:Addr)=some (Value.int .i64 aV)/\
 (oc.cell? (⟨θ,0,none⟩:Addr)=some (Value.int .i64 aI)/\
 (oc.cell? (⟨aF,0,none⟩:Addr)=some (Value.int .i64 ak)/\
 (bq.HJ D oc ak ae cw n14 cv θ aV aI cT ay ab c1 aF R)))))/\
 (aN qt #[(Value.int .i64 ak)] 3 λkW tG=>
 tG.cell? (⟨ae,0,none⟩:Addr)=some (Value.slice cw n14 cv)/\
 (tG.cell? (⟨θ,1,none⟩:Addr)=some (Value.int .i64 aV)/\
 (tG.cell? (⟨θ,0,none⟩:Addr)=some (Value.int .i64 aI)/\
 (bq.Oy D tG cT ae cw n14 cv θ aV aI kW ay ab c1 R))))/\
 (aN qt #[(Value.int .i64 aI),(Value.int .i64 aV),(Value.int .i64 ((n14:Nat):Int))] 3 λry wg=>
 wg.cell? (⟨aF,0,none⟩:Addr)=some (Value.int .i64 ak)/\
 (bq.EF D wg cT aF ak ry ay ae ab c1 R))/\
 (aN qt #[(Value.int .i64 ((ay:Nat):Int))] 3 λzz su=>
 su.cell? (⟨ae,0,none⟩:Addr)=some (Value.slice cw n14 cv)/\
 (su.cell? (⟨θ,1,none⟩:Addr)=some (Value.int .i64 aV)/\
 (su.cell? (⟨θ,0,none⟩:Addr)=some (Value.int .i64 aI)/\
 (su.cell? (⟨aF,0,none⟩:Addr)=some (Value.int .i64 ak)/\
 (bq.HK D su cT ae cw n14 cv θ aV aI aF ak zz ab ay c1 R)))))
def bq.EH(D:Nat)(zf:World)(kV:Nat)(tU:Nat)(CZ:Nat)(ae:Nat)(ab:J)(ay:Nat)(c1:Nat)(R:aq):Prop:=
 aN zf #[(Value.int .u8 83),(Value.int .u8 76),(Value.int .u8 65),(Value.int .u8 84)] 5 λYn agU=>
 bq.r3 D agU Yn kV tU CZ ae ab ay c1 R
def bq.EI(D:Nat)(ze:World)(kV:Nat)(tU:Nat)(ay:Nat)(ae:Nat)(ab:J)(c1:Nat)(R:aq):Prop:=
 (aN ze #[(Value.int .u8 83),(Value.int .u8 76),(Value.int .u8 65),(Value.int .u8 84)] 5 λYm agT=>
 bq.ED D agT Ym kV tU ay ae ab c1 R)/\
 (aN ze #[(Value.int .i64 ((ay:Nat):Int))] 3 λCZ zf=>
 bq.EH D zf kV tU CZ ae ab ay c1 R)
def bq.Oz(D:Nat)(u4:World)(ae:Nat)(cw:J)(n14:Nat)(cv:Nat)(θ:Nat)(aV:Int)(aI:Int)(kV:Nat)(Be:Nat)(ab:J)(ay:Nat)(c1:Nat)(R:aq):Prop:=
 (aN u4 #[(Value.int .u8 83),(Value.int .u8 76),(Value.int .u8 65),(Value.int .u8 84)] 5 λYo LW=>
 LW.cell? (⟨ae,0,none⟩:Addr)=some (Value.slice cw n14 cv)/\
 (LW.cell? (⟨θ,1,none⟩:Addr)=some (Value.int .i64 aV)/\
 (LW.cell? (⟨θ,0,none⟩:Addr)=some (Value.int .i64 aI)/\
 (bq.EE D LW Yo ae cw n14 cv θ aV aI kV Be ab ay c1 R))))/\
 (aN u4 #[(Value.int .i64 aI),(Value.int .i64 aV),(Value.int .i64 ((n14:Nat):Int))] 3 λYp agV=>
 bq.EH D agV kV Yp Be ae ab ay c1 R)
def bq.UQ(D:Nat)(u9:World)(ae:Nat)(cw:J)(n14:Nat)(cv:Nat)(θ:Nat)(aV:Int)(aI:Int)(kV:Nat)(ay:Nat)(ab:J)(c1:Nat)(R:aq):Prop:=
 (aN u9 #[(Value.int .u8 83),(Value.int .u8 76),(Value.int .u8 65),(Value.int .u8 84)] 5 λYk L7=>
 L7.cell? (⟨ae,0,none⟩:Addr)=some (Value.slice cw n14 cv)/\
 (L7.cell? (⟨θ,1,none⟩:Addr)=some (Value.int .i64 aV)/\
 (L7.cell? (⟨θ,0,none⟩:Addr)=some (Value.int .i64 aI)/\
 (bq.Oy D L7 Yk ae cw n14 cv θ aV aI kV ay ab c1 R))))/\
 (aN u9 #[(Value.int .i64 aI),(Value.int .i64 aV),(Value.int .i64 ((n14:Nat):Int))] 3 λtU ze=>
 bq.EI D ze kV tU ay ae ab c1 R)/\
 (aN u9 #[(Value.int .i64 ((ay:Nat):Int))] 3 λBe u4=>
 u4.cell? (⟨ae,0,none⟩:Addr)=some (Value.slice cw n14 cv)/\
 (u4.cell? (⟨θ,1,none⟩:Addr)=some (Value.int .i64 aV)/\
 (u4.cell? (⟨θ,0,none⟩:Addr)=some (Value.int .i64 aI)/\
 (bq.Oz D u4 ae cw n14 cv θ aV aI kV Be ab ay c1 R))))
def bq.OA(D:Nat)(xL:World)(aF:Nat)(ak:Int)(rz:Nat)(Bf:Nat)(ae:Nat)(ab:J)(ay:Nat)(c1:Nat)(R:aq):Prop:=
 (aN xL #[(Value.int .u8 83),(Value.int .u8 76),(Value.int .u8 65),(Value.int .u8 84)] 5 λYs WA=>
 WA.cell? (⟨aF,0,none⟩:Addr)=some (Value.int .i64 ak)/\
 (bq.An D WA Ys aF ak rz Bf ae ab ay c1 R))/\
 (aN xL #[(Value.int .i64 ak)] 3 λYt ag0=>
 bq.EH D ag0 Yt rz Bf ae ab ay c1 R)
def bq.UR(D:Nat)(xJ:World)(aF:Nat)(ak:Int)(rz:Nat)(ay:Nat)(ae:Nat)(ab:J)(c1:Nat)(R:aq):Prop:=
 (aN xJ #[(Value.int .u8 83),(Value.int .u8 76),(Value.int .u8 65),(Value.int .u8 84)] 5 λYq Wz=>
 Wz.cell? (⟨aF,0,none⟩:Addr)=some (Value.int .i64 ak)/\
 (bq.EF D Wz Yq aF ak rz ay ae ab c1 R))/\
 (aN xJ #[(Value.int .i64 ak)] 3 λYr agY=>
 bq.EI D agY Yr rz ay ae ab c1 R)/\
 (aN xJ #[(Value.int .i64 ((ay:Nat):Int))] 3 λBf xL=>
 xL.cell? (⟨aF,0,none⟩:Addr)=some (Value.int .i64 ak)/\
 (bq.OA D xL aF ak rz Bf ae ab ay c1 R))
def bq.US(D:Nat)(tE:World)(ae:Nat)(cw:J)(n14:Nat)(cv:Nat)(θ:Nat)(aV:Int)(aI:Int)(aF:Nat)(ak:Int)(zA:Nat)(ab:J)(ay:Nat)(c1:Nat)(R:aq):Prop:=
 (aN tE #[(Value.int .u8 83),(Value.int .u8 76),(Value.int .u8 65),(Value.int .u8 84)] 5 λYu IG=>
 IG.cell? (⟨ae,0,none⟩:Addr)=some (Value.slice cw n14 cv)/\
 (IG.cell? (⟨θ,1,none⟩:Addr)=some (Value.int .i64 aV)/\
 (IG.cell? (⟨θ,0,none⟩:Addr)=some (Value.int .i64 aI)/\
 (IG.cell? (⟨aF,0,none⟩:Addr)=some (Value.int .i64 ak)/\
 (bq.HK D IG Yu ae cw n14 cv θ aV aI aF ak zA ab ay c1 R)))))/\
 (aN tE #[(Value.int .i64 ak)] 3 λYv LY=>
 LY.cell? (⟨ae,0,none⟩:Addr)=some (Value.slice cw n14 cv)/\
 (LY.cell? (⟨θ,1,none⟩:Addr)=some (Value.int .i64 aV)/\
 (LY.cell? (⟨θ,0,none⟩:Addr)=some (Value.int .i64 aI)/\
 (bq.Oz D LY ae cw n14 cv θ aV aI Yv zA ab ay c1 R))))/\
 (aN tE #[(Value.int .i64 aI),(Value.int .i64 aV),(Value.int .i64 ((n14:Nat):Int))] 3 λYw WB=>
 WB.cell? (⟨aF,0,none⟩:Addr)=some (Value.int .i64 ak)/\
 (bq.OA D WB aF ak Yw zA ae ab ay c1 R))
def bq.UT(D:Nat)(cn:World)(ae:Nat)(cw:J)(n14:Nat)(cv:Nat)(θ:Nat)(aV:Int)(aI:Int)(aF:Nat)(ak:Int)(ay:Nat)(ab:J)(c1:Nat)(R:aq):Prop:=
 (aN cn.drew #[(Value.int .u8 83),(Value.int .u8 76),(Value.int .u8 65),(Value.int .u8 84)] 5 λcT qt=>
 qt.cell? (⟨ae,0,none⟩:Addr)=some (Value.slice cw n14 cv)/\
 (qt.cell? (⟨θ,1,none⟩:Addr)=some (Value.int .i64 aV)/\
 (qt.cell? (⟨θ,0,none⟩:Addr)=some (Value.int .i64 aI)/\
 (qt.cell? (⟨aF,0,none⟩:Addr)=some (Value.int .i64 ak)/\
 (bq.KG D qt cT ae cw n14 cv θ aV aI aF ak ay ab c1 R)))))/\
 (aN cn.drew #[(Value.int .i64 ak)] 3 λkV u9=>
 u9.cell? (⟨ae,0,none⟩:Addr)=some (Value.slice cw n14 cv)/\
 (u9.cell? (⟨θ,1,none⟩:Addr)=some (Value.int .i64 aV)/\
 (u9.cell? (⟨θ,0,none⟩:Addr)=some (Value.int .i64 aI)/\
 (bq.UQ D u9 ae cw n14 cv θ aV aI kV ay ab c1 R))))/\
 (aN cn.drew #[(Value.int .i64 aI),(Value.int .i64 aV),(Value.int .i64 ((n14:Nat):Int))] 3 λrz xJ=>
 xJ.cell? (⟨aF,0,none⟩:Addr)=some (Value.int .i64 ak)/\
 (bq.UR D xJ aF ak rz ay ae ab c1 R))/\
 (aN cn.drew #[(Value.int .i64 ((ay:Nat):Int))] 3 λzA tE=>
 tE.cell? (⟨ae,0,none⟩:Addr)=some (Value.slice cw n14 cv)/\
 (tE.cell? (⟨θ,1,none⟩:Addr)=some (Value.int .i64 aV)/\
 (tE.cell? (⟨θ,0,none⟩:Addr)=some (Value.int .i64 aI)/\
 (tE.cell? (⟨aF,0,none⟩:Addr)=some (Value.int .i64 ak)/\
 (bq.US D tE ae cw n14 cv θ aV aI aF ak zA ab ay c1 R)))))
def bq.main(a0:ag)(eM eN a2:Int)(w:World)(R:aq):Prop:=
 aN w a0 89 λδ γ=>
 aN γ #[eM,eN] 28 λθ τ=>
 aN τ #[a2] 3 λaF aa=>
 ∃ζ,aa.cell? ⟨aF,0,none⟩=some (.int .i64 ζ)/\
 (cond (decide (ζ<1)) (
  R (.returned (.tuple #[.slice none 0 0,(1:Int)])) aa) (
  ∃σ,aa.cell? ⟨aF,0,none⟩=some (.int .i64 σ)/\
  (cond (decide (σ>1073741824)) (
   R (.returned (.tuple #[.slice none 0 0,(1:Int)])) aa) (
   ∃(aK:ag),aK.size=24/\aw aa ⟨δ,0,none⟩ aK.toList/\
   (∃(bF:ag),bF.size=2/\aw aa ⟨θ,0,none⟩ bF.toList/\
    (κ prog 67 #[.agg aK,.agg bF] aa (λv1 az=>
     br .i64 v1 λad=>
     cond (ad !=0) (
      R (.returned (.tuple #[.slice none 0 0,ad])) az) (
      ∃(bZ:ag),bZ.size=24/\aw az ⟨δ,0,none⟩ bZ.toList/\
      (∃(bW:ag),bW.size=2/\aw az ⟨θ,0,none⟩ bW.toList/\
       (κ prog 136 #[.agg bZ,.agg bW] az (λv2 ba=>
        cN v2 λab ay c1=>
        aN ba #[.slice none 0 0] 178 λae b5=>
        κ prog 137 #[.slice ab ay c1,(52:Int)] b5 (λv3 cf=>
         Jm v3 λgf jD lb=>
         ο (Nat.beq jD.size 0&&bA.fns.contains gf&&true&&true&&true&&true) (
         ∃(α:Type)(enc:α->Value)(fo:World->ao)(S Sp:List α->Prop)(N:Nat)(bD pE:List α->ao),QS prog gf lb enc fo S Sp N bD pE cf/\
         ((∀(pre:List α)(x:α)(cA:World),bD pre cA->pre.length<N->
         cN (enc x) λaX bu c2=>
         ∃bh dB bI,cA.drew.cell? ⟨ae,0,none⟩=some (.slice bh dB bI)/\
         (∃aA,cA.drew.cell? ⟨aF,0,none⟩=some (.int .i64 aA)/\
         (∃eg jg hs,cA.drew.cell? ⟨ae,0,none⟩=some (.slice eg jg hs)/\
         (bq.r0 α fo bD pre x cA aA ae eg jg hs bh dB bI bu aX aF))))/\
         ((∀(D:Nat)(xs:List α)(cn:World),cf.heap.size<=D->S xs->bD xs cn->cn.heap[D]?=some (Obj.deferred (some []))->
         ∃ak,cn.drew.cell? ⟨aF,0,none⟩=some (.int .i64 ak)/\
         (∃aI,cn.drew.cell? ⟨θ,0,none⟩=some (.int .i64 aI)/\
         (∃aV,cn.drew.cell? ⟨θ,1,none⟩=some (.int .i64 aV)/\
         (∃cw n14 cv,cn.drew.cell? ⟨ae,0,none⟩=some (.slice cw n14 cv)/\
         (bq.UT D cn ae cw n14 cv θ aV aI aF ak ay ab c1 R)))))/\
         (∀(D:Nat)(pre:List α)(dn:World),cf.heap.size<=D->Sp pre->pE pre dn->dn.heap[D]?=some (Obj.deferred (some []))->
         dn.heap[D]?=some (Obj.deferred (some []))/\
         R (.returned (.tuple #[.slice none 0 0,(0:Int)])) (dn.putObj D (Obj.deferred none))))))) (au R)) (au R))))) (au R)))))))
abbrev bq.C(a0:ag)(eM eN a2:Int):=Calls prog 99 #[.agg a0,.agg #[eM,eN],a2]
theorem bq.ok:kT bq.main bq.C:=λ{_ _ _ _ _ R}h=>acS func99 [.tmp 6,.tmp 7] 73 (.seq .leaf (.seq .leaf (.seq .leaf (.seq .leaf (.seq .leaf (.xD .leaf)))))) h
def Fx.main(a0:Int)(w:World)(R:aq):Prop:=
 R (.returned (.int .i64 (IntKind.i64.wrap (0+(IntKind.i64.wrap ((Int.tmod a0 2)*12)))))) w
abbrev Fx.C(a0:Int):=Calls prog 100 #[a0]
theorem Fx.ok:ic Fx.main Fx.C:=λh=>dg func100 [.tmp 2] 7 h
def qg.a1(cb:J)(b8 ck:Nat)(t1 t6 t7:Int)(w:World)(R:aq):Prop:=
 cond (decide (t7<t6)) (
  ο (decide (0<=t7)) (
   ο (decide (t7<((b8:Nat):Int))) (
    ξ cb λd2=>
    ∃σ,w.cell? (d2.add (t7.toNat*1))=some (.int .i64 σ)/\
    (cond (σ==t1) (
     R (.returned (.tuple #[t7,.bool true])) w) (
     ο (decide (0<=t7)) (
      ο (decide (t7<((b8:Nat):Int))) (
       ξ cb λd3=>
       ∃ad,w.cell? (d3.add (t7.toNat*1))=some (.int .i64 ad)/\
       (κ prog 142 #[ad] w (λv2 aa=>
        dw v2 λθ=>
        cond θ (
         κ prog 142 #[t1] aa (λv3 aE=>
          dw v3 λaF=>
          R (.returned (.tuple #[t7,.bool aF])) aE) (au R)) (
         R (.returned (.tuple #[t7,.bool false])) aa)) (au R))))))))) (
  R (.returned (.tuple #[t7,.bool false])) w)
def qg.δ(cb:J)(b8 ck:Nat)(t1 t6 t7 t8:Int)(w:World)(R:aq)(a8:J->Nat->Nat->Int->Int->Int->Int->ao):Prop:=
 cond (decide (t7<t8)) (
  ο (decide (0<=(IntKind.i64.wrap (Int.fdiv (IntKind.u64.wrap (IntKind.i64.wrap (t7+t8))) (2^(min 1 IntKind.u64.bits)))))) (
   ο (decide ((IntKind.i64.wrap (Int.fdiv (IntKind.u64.wrap (IntKind.i64.wrap (t7+t8))) (2^(min 1 IntKind.u64.bits))))<((b8:Nat):Int))) (
    ξ cb λd1=>
    ∃ζ,w.cell? (d1.add ((IntKind.i64.wrap (Int.fdiv (IntKind.u64.wrap (IntKind.i64.wrap (t7+t8))) (2^(min 1 IntKind.u64.bits)))).toNat*1))=some (.int .i64 ζ)/\
    (κ prog 141 #[ζ,t1] w (λv1 γ=>
     dw v1 λδ=>
     cond δ (
      a8 cb b8 ck t1 t6 (IntKind.i64.wrap ((IntKind.i64.wrap (Int.fdiv (IntKind.u64.wrap (IntKind.i64.wrap (t7+t8))) (2^(min 1 IntKind.u64.bits))))+1)) t8 γ) (
      a8 cb b8 ck t1 t6 t7 (IntKind.i64.wrap (Int.fdiv (IntKind.u64.wrap (IntKind.i64.wrap (t7+t8))) (2^(min 1 IntKind.u64.bits)))) γ)) (au R))))) (
  qg.a1 cb b8 ck t1 t6 t7 w R)
def qg.bd:=Ev qg.δ
def qg.main(bC:J)(aY bx:Nat)(ar:Int)(w:World)(R:aq):Prop:=
 qg.bd bC aY bx ar ((aY:Nat):Int) 0 ((aY:Nat):Int) w R
abbrev qg.C(bC:J)(aY bx:Nat)(ar:Int):=Calls prog 101 #[.slice bC aY bx,ar]
theorem qg.ok:kT qg.main qg.C:=λ{_ _ _ _ _ R}h=>fc func101 [.tmp 4,.tmp 5] 54 (.seq .leaf (.seq .leaf (.seq .leaf (.cut [(0,.slice),(1,.int .i64),(6,.int .i64),(7,.int .i64)] (qg.a1 · · · · · · · R) (.block (.loop [(0,.slice),(1,.int .i64),(6,.int .i64),(7,.int .i64),(8,.int .i64)] (qg.bd · · · · · · · · R) λa8=>.leaf)) .leaf)))) h
def FD.main(bC:J)(aY bx:Nat)(ar:Int)(iW:J)(et jZ:Nat)(w:World)(R:aq):Prop:=
 ο (decide (0<=ar)) (
  ο (decide (ar<=((aY:Nat):Int))) (
   cond (((et:Nat):Int)==0) (
    R (.returned (.slice bC aY bx)) w) (
    cond (ar==((aY:Nat):Int)) (
     gK w bC aY bx et (a7 w iW) 3 1 8 #[(0:Int)] λab c1 γ=>
     R (.returned (.slice ab (aY+et) c1)) γ) (
     cond (decide ((IntKind.i64.wrap (((aY:Nat):Int)+((et:Nat):Int)))>((bx:Nat):Int))) (
      ο (decide (0<=ar)) (
       ο (decide (ar<=((bx:Nat):Int))) (
        ο (decide (0<=(IntKind.i64.wrap ((IntKind.i64.wrap (((aY:Nat):Int)+((et:Nat):Int)))-ar)))) (
         MD w (du bC bx 0 1) ar.toNat bx ((IntKind.i64.wrap ((IntKind.i64.wrap (((aY:Nat):Int)+((et:Nat):Int)))-ar)).toNat) 3 1 8 #[(0:Int)] λaX c2 τ=>
         ο (decide (0<=ar)) (
          ο (decide (ar<=(((ar.toNat+(IntKind.i64.wrap ((IntKind.i64.wrap (((aY:Nat):Int)+((et:Nat):Int)))-ar)).toNat):Nat):Int))) (
           vq τ (du aX c2 ar.toNat 1) ((ar.toNat+(IntKind.i64.wrap ((IntKind.i64.wrap (((aY:Nat):Int)+((et:Nat):Int)))-ar)).toNat)-ar.toNat) iW et 1 λaa=>
           ο (decide (0<=(IntKind.i64.wrap (ar+((et:Nat):Int))))) (
            ο (decide ((IntKind.i64.wrap (ar+((et:Nat):Int)))<=(((ar.toNat+(IntKind.i64.wrap ((IntKind.i64.wrap (((aY:Nat):Int)+((et:Nat):Int)))-ar)).toNat):Nat):Int))) (
             ο (decide (0<=ar)) (
             ο (decide (ar<=((aY:Nat):Int))) (
             vq aa.drew (du aX c2 ((IntKind.i64.wrap (ar+((et:Nat):Int))).toNat) 1) ((ar.toNat+(IntKind.i64.wrap ((IntKind.i64.wrap (((aY:Nat):Int)+((et:Nat):Int)))-ar)).toNat)-(IntKind.i64.wrap (ar+((et:Nat):Int))).toNat) (du bC bx ar.toNat 1) (aY-ar.toNat) 1 λaz=>
             R (.returned (.slice aX (ar.toNat+(IntKind.i64.wrap ((IntKind.i64.wrap (((aY:Nat):Int)+((et:Nat):Int)))-ar)).toNat) c2)) az)))))))))) (
      ο (decide (0<=(IntKind.i64.wrap (((aY:Nat):Int)+((et:Nat):Int))))) (
       ο (decide ((IntKind.i64.wrap (((aY:Nat):Int)+((et:Nat):Int)))<=((bx:Nat):Int))) (
        ο (decide (0<=(IntKind.i64.wrap (ar+((et:Nat):Int))))) (
         ο (decide ((IntKind.i64.wrap (ar+((et:Nat):Int)))<=(((IntKind.i64.wrap (((aY:Nat):Int)+((et:Nat):Int))).toNat:Nat):Int))) (
          Sd prog 143 #[.slice iW et jZ,.slice (du (du bC bx 0 1) bx ((IntKind.i64.wrap (ar+((et:Nat):Int))).toNat) 1) ((IntKind.i64.wrap (((aY:Nat):Int)+((et:Nat):Int))).toNat-(IntKind.i64.wrap (ar+((et:Nat):Int))).toNat) (bx-(IntKind.i64.wrap (ar+((et:Nat):Int))).toNat)] w λv1 aE=>
          dw v1 λδ=>
          cond (!δ) (
           ο (decide (0<=(IntKind.i64.wrap (ar+((et:Nat):Int))))) (
            ο (decide ((IntKind.i64.wrap (ar+((et:Nat):Int)))<=(((IntKind.i64.wrap (((aY:Nat):Int)+((et:Nat):Int))).toNat:Nat):Int))) (
             ο (decide (0<=ar)) (
             ο (decide (ar<=(((IntKind.i64.wrap (((aY:Nat):Int)+((et:Nat):Int))).toNat:Nat):Int))) (
             vq aE.drew (du (du bC bx 0 1) bx ((IntKind.i64.wrap (ar+((et:Nat):Int))).toNat) 1) ((IntKind.i64.wrap (((aY:Nat):Int)+((et:Nat):Int))).toNat-(IntKind.i64.wrap (ar+((et:Nat):Int))).toNat) (du (du bC bx 0 1) bx ar.toNat 1) ((IntKind.i64.wrap (((aY:Nat):Int)+((et:Nat):Int))).toNat-ar.toNat) 1 λba=>
             ο (decide (0<=ar)) (
             ο (decide (ar<=(((IntKind.i64.wrap (((aY:Nat):Int)+((et:Nat):Int))).toNat:Nat):Int))) (
             vq ba (du (du bC bx 0 1) bx ar.toNat 1) ((IntKind.i64.wrap (((aY:Nat):Int)+((et:Nat):Int))).toNat-ar.toNat) iW et 1 λbm=>
             R (.returned (.slice (du bC bx 0 1) ((IntKind.i64.wrap (((aY:Nat):Int)+((et:Nat):Int))).toNat) bx)) bm))))))) (
           ο (decide (0<=((aY:Nat):Int))) (
            ο (decide (((aY:Nat):Int)<=(((IntKind.i64.wrap (((aY:Nat):Int)+((et:Nat):Int))).toNat:Nat):Int))) (
             vq aE (du (du bC bx 0 1) bx aY 1) ((IntKind.i64.wrap (((aY:Nat):Int)+((et:Nat):Int))).toNat-aY) iW et 1 λb5=>
             ο (decide (0<=ar)) (
             ο (decide (ar<=(((IntKind.i64.wrap (((aY:Nat):Int)+((et:Nat):Int))).toNat:Nat):Int))) (
             κ prog 144 #[.slice (du (du bC bx 0 1) bx ar.toNat 1) ((IntKind.i64.wrap (((aY:Nat):Int)+((et:Nat):Int))).toNat-ar.toNat) (bx-ar.toNat),((et:Nat):Int)] b5 (λv2 cf=>
             b0 v2 λbN=>
             R (.returned (.slice (du bC bx 0 1) ((IntKind.i64.wrap (((aY:Nat):Int)+((et:Nat):Int))).toNat) bx)) cf) (au R)))))))))))))))
abbrev FD.C(bC:J)(aY bx:Nat)(ar:Int)(iW:J)(et jZ:Nat):=Calls prog 102 #[.slice bC aY bx,ar,.slice iW et jZ]
theorem FD.ok:Gv FD.main FD.C:=λh=>dg func102 [.tmp 6] 95 h
def x3.main(bC:J)(aY bx:Nat)(ar:Value)(w:World)(R:aq):Prop:=
 κ prog 145 #[.slice bC aY bx,ar] w (λv1 γ=>
  br .i64 v1 λζ=>
  R (.returned (.bool (decide (ζ>=0)))) γ) (au R)
abbrev x3.C(bC:J)(aY bx:Nat)(ar:Value):=Calls prog 103 #[.slice bC aY bx,ar]
theorem x3.ok:kT x3.main x3.C:=λh=>dg func103 [.tmp 4] 9 h
def C4.main(fg:Int)(CN:J)(CM CL:Nat)(w:World)(R:aq):Prop:=
 aN w #[fg,.slice CN CM CL] 130 λδ γ=>
 ∃ab ay c1,γ.cell? ⟨δ,1,none⟩=some (.slice ab ay c1)/\
 (R (.returned (.bool (((ay:Nat):Int)!=64))) γ)
abbrev C4.C(fg:Int)(CN:J)(CM CL:Nat):=Calls prog 104 #[.agg #[fg,.slice CN CM CL]]
theorem C4.ok:kT C4.main C4.C:=λh=>dg func104 [.tmp 2] 7 h
def C5.main(fg:Int)(CN:J)(CM CL dP:Nat)(w:World)(R:aq):Prop:=
 aN w #[fg,.slice CN CM CL] 130 λδ γ=>
 ∃ζ,γ.cell? ⟨δ,0,none⟩=some (.int .i64 ζ)/\
 (cond (decide (ζ<0)) (
  ∀a1:Nat,
  R (.returned (.bool true)) (γ.drewN a1)) (
  ∃σ,γ.cell? ⟨δ,0,none⟩=some (.int .i64 σ)/\
  (∃ab,γ.cell? ⟨dP,0,none⟩=some (.pointer ab)/\
   (ξ ab λd1=>
    ∃aX ay c1,γ.cell? (d1.add 1)=some (.slice aX ay c1)/\
    (∀a1:Nat,
     R (.returned (.bool (decide (σ>=((ay:Nat):Int))))) (γ.drewN a1))))))
abbrev C5.C(fg:Int)(CN:J)(CM CL dP:Nat):=Calls prog 105 #[.agg #[fg,.slice CN CM CL],.pointer (some ⟨dP,0,none⟩)]
theorem C5.ok:wz C5.main C5.C:=λh=>dg func105 [.tmp 3] 17 h
end Go.Proofs.YtcpdfhkhaekekaaGreat.G

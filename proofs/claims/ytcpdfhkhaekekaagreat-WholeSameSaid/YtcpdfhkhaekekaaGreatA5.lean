/- The walk of the functions, and the plain laws of the model: part of the proof. Conditions: none. -/
import Derived.Test.YtcpdfhkhaekekaaGreatA4
set_option linter.unusedVariables false
set_option linter.unusedSimpArgs false
namespace Go.Proofs.YtcpdfhkhaekekaaGreat.G
open Tryz
open Go.bJ
set_option maxRecDepth 100000
def GU.main(a0:γ)(e8 e9 ks kt:Int)(TC TB:Nat)(w:World)(R:au):Prop:=
 aK w #[e8,e9,ks,kt,.complex .f64 TC TB] 155 λδ ε=>
 ξ a0 λd1=>
 ∃ae aD c1,ε.drew.cell? (d1.add 8)=some (.slice ae aD c1)/\
 (∃(aE:aj),aE.size=5/\aB ε.drew ⟨δ,0,none⟩ aE.toList/\
  (ξ (Instr.fill (λi=>some (i*5,5)) (madeCells #[(0:Int),(0:Int),(0:Int),(0:Int),.complex .f64 0 0] (1*5)) [(0,(.agg aE))]) λbz=>
   aK ε.drew bz 155 λζ υ=>
   υ.cell? (d1.add 8)=some (.slice ae aD c1)/\
   (ho υ ae aD c1 1 (bd υ (some ⟨ζ,0,none⟩)) 155 5 48 #[(0:Int),(0:Int),(0:Int),(0:Int),.complex .f64 0 0] λaX c2 χ=>
    ξ a0 λd2=>
    (χ.cell? (d2.add 8)).isSome=true/\χ.frozen? (d2.add 8)=false/\∀ao,ao=χ.setCell (d2.add 8) (.slice aX (aD+1) c2)->
    (ξ a0 λd3=>
     (ao.cell? (d3.add 9)).isSome=true/\ao.frozen? (d3.add 9)=false/\∀an,an=ao.setCell (d3.add 9) (.bool true)->
     (R (.returned (.tuple #[])) an)))))
abbrev GU.C(a0:γ)(e8 e9 ks kt:Int)(TC TB:Nat):=Calls prog 75 #[.pointer a0,.agg #[e8,e9,ks,kt,.complex .f64 TC TB]]
theorem GU.ok:Iu GU.main GU.C:=λh=>dA func75 [] 17 h
def Hi.main(a0:γ)(aw:Int)(w:World)(R:au):Prop:=
 κ prog 84 #[.pointer a0,aw] w (λv1 ε=>
  b7 v1 λbN=>
  ξ (bN[0]?) λv2=>
  cv v2 λaE=>
  ξ (bN[1]?) λv3=>
  br .i64 v3 λθ=>
  aK ε #[(0:Int),(0:Int)] 84 λδ χ=>
  ν (decide (aE.size=2)) (
   a6 χ ⟨δ,0,none⟩ aE.toList/\∀ao,ao=χ.setCells (⟨δ,0,none⟩:Addr).block (⟨δ,0,none⟩:Addr).off aE.toList->
   (cond (θ==0) (
    ξ a0 λd1=>
    ν (decide (0<=aw)) (
     ν (decide (aw<(8:Int))) (
      ξ a0 λd2=>
      a6 ao.drew (d1.add (aw.toNat*2)) [(.int .i64 0),(.int .i64 0)]/\∀an,an=ao.drew.setCells (d1.add (aw.toNat*2)).block (d1.add (aw.toNat*2)).off [(.int .i64 0),(.int .i64 0)]->
      (ν (decide (0<=aw)) (
       ν (decide (aw<(8:Int))) (
        (an.cell? ((d2.add 16).add (aw.toNat*1))).isSome=true/\an.frozen? ((d2.add 16).add (aw.toNat*1))=false/\∀aZ,aZ=an.setCell ((d2.add 16).add (aw.toNat*1)) (.pointer none)->
        (R (.returned (.int .i64 θ)) aZ))))))) (
    R (.returned (.int .i64 θ)) ao)))) (ai R)
abbrev Hi.C(a0:γ)(aw:Int):=Calls prog 76 #[.pointer a0,aw]
theorem Hi.ok:kn Hi.main Hi.C:=λh=>dA func76 [.tmp 4] 27 h
def Hl.main(a0:γ)(aw:Int)(w:World)(R:au):Prop:=
 κ prog 84 #[.pointer a0,aw] w (λv1 ε=>
  b7 v1 λbN=>
  ξ (bN[0]?) λv2=>
  cv v2 λaE=>
  ξ (bN[1]?) λv3=>
  br .i64 v3 λθ=>
  aK ε #[(0:Int),(0:Int)] 84 λδ χ=>
  ν (decide (aE.size=2)) (
   a6 χ ⟨δ,0,none⟩ aE.toList/\∀ao,ao=χ.setCells (⟨δ,0,none⟩:Addr).block (⟨δ,0,none⟩:Addr).off aE.toList->
   (cond (θ !=0) (
    R (.returned (.tuple #[(0:Int),θ])) ao) (
    κ prog 118 #[.pointer a0] ao (λv4 an=>
     b7 v4 λeY=>
     ξ (eY[0]?) λv5=>
     br .i64 v5 λρ=>
     ξ (eY[1]?) λv6=>
     br .i64 v6 λad=>
     cond (ad==0) (
      ∃aC,an.drew.cell? ⟨δ,1,none⟩=some (.int .i64 aC)/\
      (ξ a0 λd1=>
       ν (decide (0<=aw)) (
        ν (decide (aw<(8:Int))) (
         ∃ae,an.drew.cell? ((d1.add 16).add (aw.toNat*1))=some (.pointer ae)/\
         (ξ a0 λd2=>
          ν (decide (0<=ρ)) (
           ν (decide (ρ<(8:Int))) (
            ξ a0 λd3=>
            a6 an.drew (d2.add (ρ.toNat*2)) [(.int .i64 2),(.int .i64 aC)]/\∀a8,a8=an.drew.setCells (d2.add (ρ.toNat*2)).block (d2.add (ρ.toNat*2)).off [(.int .i64 2),(.int .i64 aC)]->
            (ν (decide (0<=ρ)) (
            ν (decide (ρ<(8:Int))) (
            (a8.cell? ((d3.add 16).add (ρ.toNat*1))).isSome=true/\a8.frozen? ((d3.add 16).add (ρ.toNat*1))=false/\∀bV,bV=a8.setCell ((d3.add 16).add (ρ.toNat*1)) (.pointer ae)->
            (R (.returned (.tuple #[ρ,ad])) bV))))))))))) (
      R (.returned (.tuple #[ρ,ad])) an)) (ai R))))) (ai R)
abbrev Hl.C(a0:γ)(aw:Int):=Calls prog 77 #[.pointer a0,aw]
theorem Hl.ok:kn Hl.main Hl.C:=λh=>dA func77 [.tmp 4,.tmp 5] 46 h
def GW.main(a0:γ)(e8 e9 ks kt:Int)(lA:γ)(lz ly:Nat)(w:World)(R:au):Prop:=
 aK w #[e8,e9,ks,kt,.slice lA lz ly] 40 λδ ε=>
 ξ a0 λd1=>
 ∃ae,ε.drew.cell? (d1.add 4)=some (.pointer ae)/\
 (∃θ,ε.drew.cell? ⟨δ,1,none⟩=some (.int .i64 θ)/\
  (∃ρ,ε.drew.cell? ⟨δ,2,none⟩=some (.int .i64 ρ)/\
   (κ prog 119 #[.pointer ae,θ,ρ] ε.drew (λv1 υ=>
    b7 v1 λbN=>
    ξ (bN[0]?) λv2=>
    mA v2 λcM m1=>
    ξ (bN[1]?) λv3=>
    dF v3 λζ=>
    ξ (bN[2]?) λv4=>
    br .i64 v4 λad=>
    κ prog 52 #[ad] υ (λv5 ao=>
     b7 v5 λeY=>
     cond (!ζ) (
      aK ao (madeCells #[.int .u8 0] (64*1)) 5 λax aZ=>
      R (.returned (.slice (some ⟨ax,0,none⟩) 64 64)) aZ) (
      ξ a0 λd2=>
      ∃(aE:aj),aE.size=2/\aB ao (d2.add 2) aE.toList/\
      (κ prog 54 #[.agg aE,.complex .f64 cM m1] ao (λv6 a8=>
       b7 v6 λh5=>
       ξ (h5[0]?) λfm=>
       br .i64 fm λaC=>
       ξ (h5[1]?) λa7=>
       br .i64 a7 λay=>
       ξ a0 λd3=>
       ∃aX,a8.cell? (d3.add 1)=some (.pointer aX)/\
       (κ prog 23 #[.pointer aX,aC] a8 (λv9 bW=>
        b7 v9 λnT=>
        ξ (nT[0]?) λv10=>
        cX v10 λbj aD c1=>
        ξ (nT[1]?) λv11=>
        br .i64 v11 λaM=>
        κ prog 52 #[aM] bW (λv12 cd=>
         b7 v12 λtE=>
         R (.returned (.slice bj aD c1)) cd) (ai R)) (ai R))) (ai R)))) (ai R)) (ai R))))
abbrev GW.C(a0:γ)(e8 e9 ks kt:Int)(lA:γ)(lz ly:Nat):=Calls prog 78 #[.pointer a0,.agg #[e8,e9,ks,kt,.slice lA lz ly]]
theorem GW.ok:CG GW.main GW.C:=λh=>dA func78 [.tmp 4] 50 h
def kJ.b4(t0:γ)(t3:Nat)(w:World)(R:au):Prop:=
 ∃eo bu c2,w.cell? ⟨t3,4,none⟩=some (.slice eo bu c2)/\
 (κ prog 55 #[.pointer t0,.slice eo bu c2,(2:Int)] w (λv21 hv=>
  mA v21 λcM m1=>
  ξ t0 λd4=>
  ∃gp,hv.drew.cell? (d4.add 4)=some (.pointer gp)/\
  (∃df,hv.drew.cell? ⟨t3,1,none⟩=some (.int .i64 df)/\
   (∃gb,hv.drew.cell? ⟨t3,2,none⟩=some (.int .i64 gb)/\
    (κ prog 80 #[.pointer gp,df,gb,.complex .f64 cM m1,.bool true] hv.drew (λv22 ga=>
     br .i64 v22 λjo=>
     κ prog 52 #[jo] ga (λv23 kY=>
      b7 v23 λai4=>
      ∃mo,kY.cell? ⟨t3,1,none⟩=some (.int .i64 mo)/\
      (∃jb,kY.cell? ⟨t3,2,none⟩=some (.int .i64 jb)/\
       (κ prog 75 #[.pointer t0,.agg #[(4:Int),mo,(0:Int),jb,.complex .f64 cM m1]] kY (λv24 kZ=>
        b7 v24 λSG=>
        R (.returned (.tuple #[])) kZ) (ai R)))) (ai R)) (ai R))))) (ai R))
def kJ.bK(t0:γ)(t3:Nat)(t6 t8:Int)(t42:Bool)(w:World)(R:au):Prop:=
 cond t42 (
  κ prog 52 #[(5:Int)] w (λnS ey=>
   b7 nS λSH=>
   kJ.b4 t0 t3 ey R) (ai R)) (
  ∃aX aD c1,w.cell? ⟨t3,4,none⟩=some (.slice aX aD c1)/\
  (cond (((aD:Nat):Int)!=64) (
    κ prog 52 #[(6:Int)] w (λv17 eg=>
     b7 v17 λSI=>
     kJ.b4 t0 t3 eg R) (ai R)) (
    cond (decide ((IntKind.i64.wrap (t6+1))>t8)) (
     κ prog 52 #[(9:Int)] w (λoR eP=>
      b7 oR λai8=>
      kJ.b4 t0 t3 eP R) (ai R)) (
     ξ t0 λd3=>
     ∃bj,w.cell? (d3.add 5)=some (.pointer bj)/\
     (κ prog 120 #[.pointer bj,(2:Int)] w (λqw fb=>
       dF qw λaa=>
       cond (!aa) (
        κ prog 52 #[(12:Int)] fb (λv20 gh=>
         b7 v20 λSF=>
         kJ.b4 t0 t3 gh R) (ai R)) (
        kJ.b4 t0 t3 fb R)) (ai R))))))
def kJ.aV(t0:γ)(t3 t4:Nat)(t5:Int)(w:World)(R:au):Prop:=
 κ prog 52 #[t5] w (λfm c4=>
  b7 fm λh5=>
  κ prog 48 #[.pointer t0] c4 (λa7 cm=>
   cv a7 λbO=>
   κ prog 82 #[.agg bO] cm (λv9 da=>
    b7 v9 λnT=>
    ξ (nT[0]?) λv10=>
    br .i64 v10 λaC=>
    ξ (nT[1]?) λv11=>
    br .i64 v11 λay=>
    ξ t0 λd2=>
    ∃(bC:aj),bC.size=2/\aB da (d2.add 2) bC.toList/\
    (κ prog 83 #[.agg bC] da (λv12 ed=>
     b7 v12 λtE=>
     ξ (tE[0]?) λkA=>
     br .i64 kA λaM=>
     ξ (tE[1]?) λmM=>
     br .i64 mM λaU=>
     ∃cj,ed.cell? ⟨t4,0,none⟩=some (.int .i64 cj)/\
     (cond (cj==2) (
      κ prog 52 #[(8:Int)] ed (λnR eO=>
       b7 nR λCw=>
       kJ.b4 t0 t3 eO R) (ai R)) (
      ∃ct,ed.cell? ⟨t3,2,none⟩=some (.int .i64 ct)/\
      (cond (decide (ct<0)) (
        kJ.bK t0 t3 aC aM true ed R) (
        ∃ez,ed.cell? ⟨t3,2,none⟩=some (.int .i64 ez)/\
        (∃eW,ed.cell? ⟨t4,1,none⟩=some (.int .i64 eW)/\
         (kJ.bK t0 t3 aC aM (decide (ez>=eW)) ed R))))))) (ai R))) (ai R)) (ai R)) (ai R)
def kJ.main(a0:γ)(e8 e9 ks kt:Int)(lA:γ)(lz ly:Nat)(w:World)(R:au):Prop:=
 aK w #[e8,e9,ks,kt,.slice lA lz ly] 40 λδ ε=>
 ξ a0 λd1=>
 ∃ae,ε.drew.cell? (d1.add 4)=some (.pointer ae)/\
 (∃θ,ε.drew.cell? ⟨δ,1,none⟩=some (.int .i64 θ)/\
  ((κ prog 84 #[.pointer ae,θ] ε.drew (λv1 υ=>
     b7 v1 λbN=>
     ξ (bN[0]?) λv2=>
     cv v2 λaE=>
     ξ (bN[1]?) λv3=>
     br .i64 v3 λρ=>
     aK υ #[(0:Int),(0:Int)] 84 λζ ao=>
     ν (decide (aE.size=2)) (
      a6 ao ⟨ζ,0,none⟩ aE.toList/\∀an,an=ao.setCells (⟨ζ,0,none⟩:Addr).block (⟨ζ,0,none⟩:Addr).off aE.toList->
      (kJ.aV a0 δ ζ ρ an R))) (ai R))/\
   (aK ε.drew #[(0:Int),(0:Int)] 84 λax aZ=>
    aZ.cell? ⟨δ,1,none⟩=some (.int .i64 θ)/\
    (aZ.cell? (d1.add 4)=some (.pointer ae)/\
     (κ prog 84 #[.pointer ae,θ] aZ (λv4 a8=>
       b7 v4 λeY=>
       ξ (eY[0]?) λv5=>
       cv v5 λbz=>
       ξ (eY[1]?) λv6=>
       br .i64 v6 λad=>
       ν (decide (bz.size=2)) (
        a6 a8 ⟨ax,0,none⟩ bz.toList/\∀bW,bW=a8.setCells (⟨ax,0,none⟩:Addr).block (⟨ax,0,none⟩:Addr).off bz.toList->
        (kJ.aV a0 δ ax ad bW R))) (ai R))))))
abbrev kJ.C(a0:γ)(e8 e9 ks kt:Int)(lA:γ)(lz ly:Nat):=Calls prog 79 #[.pointer a0,.agg #[e8,e9,ks,kt,.slice lA lz ly]]
theorem kJ.ok:CG kJ.main kJ.C:=λ{_ _ _ _ _ _ _ _ _ R}h=>fo func79 [] 97 (.seq .leaf (.cut [(0,.ptr),(3,.cA),(4,.cA),(5,.int .i64)] (kJ.aV · · · · · R) .leaf (.seq .leaf (.seq .leaf (.seq .leaf (.cut [(0,.ptr),(3,.cA)] (kJ.b4 · · · R) (.block (.seq .leaf (.cond .leaf (.cut [(0,.ptr),(3,.cA),(6,.int .i64),(8,.int .i64),(42,.bool)] (kJ.bK · · · · · · R) .leaf .leaf)))) .leaf)))))) h
def ql.bK(t0:γ)(t1 t2:Int)(N5 N4:Nat)(t4:Bool)(w:World)(R:au):Prop:=
 ξ t0 λd1=>
 ν (decide (0<=t1)) (
  ν (decide (t1<(8:Int))) (
   ∃ae,w.cell? ((d1.add 16).add (t1.toNat*1))=some (.pointer ae)/\
   (cond t4 (
    κ prog 72 #[.pointer ae,t2,.complex .f64 N5 N4] w (λv5 a8=>
     b7 v5 λeY=>
     ξ (eY[0]?) λv6=>
     gI v6 λaX=>
     ξ (eY[1]?) λfm=>
     br .i64 fm λaC=>
     ξ t0 λd2=>
     ν (decide (0<=t1)) (
      ν (decide (t1<(8:Int))) (
       (a8.cell? ((d2.add 16).add (t1.toNat*1))).isSome=true/\a8.frozen? ((d2.add 16).add (t1.toNat*1))=false/\∀cd,cd=a8.setCell ((d2.add 16).add (t1.toNat*1)) (.pointer aX)->
       (R (.returned (.int .i64 0)) cd)))) (ai R)) (
    κ prog 121 #[.pointer ae,t2] w (λa7 bW=>
     b7 a7 λh5=>
     ξ (h5[0]?) λv9=>
     gI v9 λbj=>
     ξ (h5[1]?) λv10=>
     br .i64 v10 λay=>
     ξ t0 λd3=>
     ν (decide (0<=t1)) (
      ν (decide (t1<(8:Int))) (
       (bW.cell? ((d3.add 16).add (t1.toNat*1))).isSome=true/\bW.frozen? ((d3.add 16).add (t1.toNat*1))=false/\∀cm,cm=bW.setCell ((d3.add 16).add (t1.toNat*1)) (.pointer bj)->
       (R (.returned (.int .i64 0)) cm)))) (ai R)))))
def ql.aV(t0:γ)(t1 t2:Int)(N5 N4:Nat)(t4 t28:Bool)(w:World)(R:au):Prop:=
 cond t28 (
  R (.returned (.int .i64 5)) w) (
  cond t4 (
   κ prog 115 #[.complex .f64 N5 N4] w (λv4 an=>
    dF v4 λζ=>
    cond (!ζ) (
     R (.returned (.int .i64 2)) an) (
     ql.bK t0 t1 t2 N5 N4 t4 an R)) (ai R)) (
   ql.bK t0 t1 t2 N5 N4 t4 w R))
def ql.main(a0:γ)(aw a2:Int)(O7 O6:Nat)(a4:Bool)(w:World)(R:au):Prop:=
 κ prog 84 #[.pointer a0,aw] w (λv1 ε=>
  b7 v1 λbN=>
  ξ (bN[0]?) λv2=>
  cv v2 λaE=>
  ξ (bN[1]?) λv3=>
  br .i64 v3 λθ=>
  aK ε #[(0:Int),(0:Int)] 84 λδ χ=>
  ν (decide (aE.size=2)) (
   a6 χ ⟨δ,0,none⟩ aE.toList/\∀ao,ao=χ.setCells (⟨δ,0,none⟩:Addr).block (⟨δ,0,none⟩:Addr).off aE.toList->
   (cond (θ !=0) (
    R (.returned (.int .i64 θ)) ao) (
    ∃ρ,ao.cell? ⟨δ,0,none⟩=some (.int .i64 ρ)/\
    (cond (ρ==2) (
     R (.returned (.int .i64 8)) ao) (
     cond (decide (a2<0)) (
      ql.aV a0 aw a2 O7 O6 a4 true ao R) (
      ∃ad,ao.cell? ⟨δ,1,none⟩=some (.int .i64 ad)/\
      (ql.aV a0 aw a2 O7 O6 a4 (decide (a2>=ad)) ao R)))))))) (ai R)
abbrev ql.C(a0:γ)(aw a2:Int)(O7 O6:Nat)(a4:Bool):=Calls prog 80 #[.pointer a0,aw,a2,.complex .f64 O7 O6,.bool a4]
theorem ql.ok:xW ql.main ql.C:=λ{_ _ _ _ _ _ _ R}h=>fo func80 [.tmp 10] 70 (.seq .leaf (.seq .leaf (.cut [(0,.ptr),(1,.int .i64),(2,.int .i64),(3,.re),(4,.bool)] (ql.bK · · · · · · · R) (.block (.seq .leaf (.cond .leaf (.seq .leaf (.cond .leaf (.cut [(0,.ptr),(1,.int .i64),(2,.int .i64),(3,.re),(4,.bool),(28,.bool)] (ql.aV · · · · · · · · R) .leaf .leaf)))))) .leaf))) h
def GY.main(a0:γ)(w:World)(R:au):Prop:=
 ξ a0 λd1=>
 ∃δ,w.cell? (d1.add 9)=some (.bool δ)/\
 (cond (!δ) (
  R (.returned (.tuple #[])) w) (
  ξ a0 λd2=>
  ∃ae aD c1,w.cell? (d2.add 8)=some (.slice ae aD c1)/\
  (ξ a0 λd3=>
   ∃θ,w.cell? (d3.add 7)=some (.int .i64 θ)/\
   (∀aV:Nat,
    cond (decide (((aD:Nat):Int)>(IntKind.i64.wrap ((IntKind.i64.wrap (16-θ))*6)))) (
     κ prog 32 #[.pointer a0] (w.drewN aV) (λv1 ε=>
      b7 v1 λbN=>
      R (.returned (.tuple #[])) ε) (ai R)) (
     ξ a0 λd4=>
     ∃aX,(w.drewN aV).cell? (d4.add 1)=some (.pointer aX)/\
     (κ prog 57 #[.pointer aX] (w.drewN aV) (λv2 χ=>
       br .i64 v2 λρ=>
       κ prog 52 #[ρ] χ (λv3 an=>
        b7 v3 λeY=>
        ξ a0 λd5=>
        ∃bj,an.drew.cell? (d5.add 1)=some (.pointer bj)/\
        (ξ a0 λd6=>
         ∃ad,an.drew.cell? (d6.add 6)=some (.int .i64 ad)/\
         (ξ a0 λd7=>
          ∃aC,an.drew.cell? (d7.add 7)=some (.int .i64 aC)/\
          (ξ a0 λd8=>
           ∃eo bu c2,an.drew.cell? (d8.add 8)=some (.slice eo bu c2)/\
           (κ prog 122 #[.pointer bj,ad,aC,.slice eo bu c2] an.drew (λv4 a8=>
            b7 v4 λh5=>
            ξ (h5[0]?) λv5=>
            br .i64 v5 λay=>
            ξ (h5[1]?) λv6=>
            br .i64 v6 λaM=>
            κ prog 52 #[aM] a8 (λfm bW=>
            b7 fm λnT=>
            ξ a0 λd9=>
            ∃gp,bW.cell? (d9.add 1)=some (.pointer gp)/\
            (κ prog 57 #[.pointer gp] bW (λa7 cd=>
            br .i64 a7 λaU=>
            κ prog 52 #[aU] cd (λv9 cE=>
            b7 v9 λtE=>
            ξ a0 λd10=>
            (cE.cell? (d10.add 7)).isSome=true/\cE.frozen? (d10.add 7)=false/\∀dp,dp=cE.setCell (d10.add 7) (.int .i64 ay)->
            (ξ a0 λd11=>
            (dp.cell? (d11.add 8)).isSome=true/\dp.frozen? (d11.add 8)=false/\∀ed,ed=dp.setCell (d11.add 8) (.slice none 0 0)->
            (ξ a0 λd12=>
            (ed.cell? (d12.add 9)).isSome=true/\ed.frozen? (d12.add 9)=false/\∀dP,dP=ed.setCell (d12.add 9) (.bool false)->
            (R (.returned (.tuple #[])) dP)))) (ai R)) (ai R))) (ai R)) (ai R)))))) (ai R)) (ai R)))))))
abbrev GY.C(a0:γ):=Calls prog 81 #[.pointer a0]
theorem GY.ok:iS GY.main GY.C:=λh=>dA func81 [] 67 h
def GL.main(a0:aj)(w:World)(R:au):Prop:=
 aK w a0 89 λδ ε=>
 ∃(aE:aj),aE.size=24/\aB ε ⟨δ,0,none⟩ aE.toList/\
 (κ prog 69 #[.agg aE] ε (λv1 υ=>
  dF v1 λζ=>
  cond (!ζ) (
   R (.returned (.tuple #[(0:Int),(2:Int)])) υ) (
   ∃(bz:aj),bz.size=24/\aB υ ⟨δ,0,none⟩ bz.toList/\
   (κ prog 110 #[.agg bz] υ (λv2 ao=>
    rf v2 λcM=>
    W6 ao cM λθ=>
    R (.returned (.tuple #[θ,(0:Int)])) ao) (ai R)))) (ai R))
abbrev GL.C(a0:aj):=Calls prog 82 #[.agg a0]
theorem GL.ok:iS GL.main GL.C:=λh=>dA func82 [.tmp 2,.tmp 3] 10 h
def GP.main(fM gH:Int)(w:World)(R:au):Prop:=
 aK w #[fM,gH] 28 λδ ε=>
 ∃(aE:aj),aE.size=2/\aB ε ⟨δ,0,none⟩ aE.toList/\
 (κ prog 73 #[.agg aE] ε (λv1 υ=>
  br .i64 v1 λθ=>
  cond (θ !=0) (
   R (.returned (.tuple #[(0:Int),θ])) υ) (
   ∃ρ,υ.cell? ⟨δ,0,none⟩=some (.int .i64 ρ)/\
   (∃ad,υ.cell? ⟨δ,1,none⟩=some (.int .i64 ad)/\
    (R (.returned (.tuple #[(IntKind.i64.wrap ((IntKind.i64.wrap ((IntKind.i64.wrap (ρ-2))-2))*ad)),(0:Int)])) υ)))) (ai R))
abbrev GP.C(fM gH:Int):=Calls prog 83 #[.agg #[fM,gH]]
theorem GP.ok:kn GP.main GP.C:=λh=>dA func83 [.tmp 2,.tmp 3] 17 h
def Hj.main(a0:γ)(aw:Int)(w:World)(R:au):Prop:=
 aK w #[(0:Int),(0:Int)] 84 λδ ε=>
 cond (Option.isNone a0) (
  a6 ε ⟨δ,0,none⟩ [(.int .i64 0),(.int .i64 0)]/\∀υ,υ=ε.setCells (⟨δ,0,none⟩:Addr).block (⟨δ,0,none⟩:Addr).off [(.int .i64 0),(.int .i64 0)]->
  (∃(aE:aj),aE.size=2/\aB υ ⟨δ,0,none⟩ aE.toList/\
   (R (.returned (.tuple #[.agg aE,(1:Int)])) υ))) (
  cond (decide (aw<0)) (
   a6 ε ⟨δ,0,none⟩ [(.int .i64 0),(.int .i64 0)]/\∀χ,χ=ε.setCells (⟨δ,0,none⟩:Addr).block (⟨δ,0,none⟩:Addr).off [(.int .i64 0),(.int .i64 0)]->
   (∃(bz:aj),bz.size=2/\aB χ ⟨δ,0,none⟩ bz.toList/\
    (R (.returned (.tuple #[.agg bz,(4:Int)])) χ))) (
   cond (decide (aw>=8)) (
    a6 ε ⟨δ,0,none⟩ [(.int .i64 0),(.int .i64 0)]/\∀ao,ao=ε.setCells (⟨δ,0,none⟩:Addr).block (⟨δ,0,none⟩:Addr).off [(.int .i64 0),(.int .i64 0)]->
    (∃(bO:aj),bO.size=2/\aB ao ⟨δ,0,none⟩ bO.toList/\
     (R (.returned (.tuple #[.agg bO,(4:Int)])) ao))) (
    ξ a0 λd1=>
    ν (decide (0<=aw)) (
     ν (decide (aw<(8:Int))) (
      ∃θ,ε.cell? (d1.add (aw.toNat*2))=some (.int .i64 θ)/\
      (cond (θ==0) (
       a6 ε ⟨δ,0,none⟩ [(.int .i64 0),(.int .i64 0)]/\∀an,an=ε.setCells (⟨δ,0,none⟩:Addr).block (⟨δ,0,none⟩:Addr).off [(.int .i64 0),(.int .i64 0)]->
       (∃(bC:aj),bC.size=2/\aB an ⟨δ,0,none⟩ bC.toList/\
        (R (.returned (.tuple #[.agg bC,(4:Int)])) an))) (
       ξ a0 λd2=>
       ν (decide (0<=aw)) (
        ν (decide (aw<(8:Int))) (
         ∃(b0:aj),b0.size=2/\aB ε (d2.add (aw.toNat*2)) b0.toList/\
         (ν (decide (b0.size=2)) (
          a6 ε ⟨δ,0,none⟩ b0.toList/\∀aZ,aZ=ε.setCells (⟨δ,0,none⟩:Addr).block (⟨δ,0,none⟩:Addr).off b0.toList->
          (∃(dr:aj),dr.size=2/\aB aZ ⟨δ,0,none⟩ dr.toList/\
           (R (.returned (.tuple #[.agg dr,(0:Int)])) aZ)))))))))))))
abbrev Hj.C(a0:γ)(aw:Int):=Calls prog 84 #[.pointer a0,aw]
theorem Hj.ok:kn Hj.main Hj.C:=λh=>dA func84 [.cell 4 84,.tmp 5] 34 h
def sW.δ(t1 t2:Nat)(t4:Int)(w:World)(R:au)(a1:Nat->Nat->Int->al):Prop:=
 cond (decide (t4<8)) (
  ν (decide (0<=t4)) (
   ν (decide (t4<(8:Int))) (
    ∃ae aD c1,w.cell? (Addr.add ⟨t1,16,none⟩ (t4.toNat*1))=some (.slice ae aD c1)/\
    (κ prog 123 #[.slice ae aD c1] w (λv1 χ=>
      cX v1 λaX bu c2=>
      ν (decide (0<=t4)) (
       ν (decide (t4<(8:Int))) (
        (χ.cell? (Addr.add ⟨t1,16,none⟩ (t4.toNat*1))).isSome=true/\χ.frozen? (Addr.add ⟨t1,16,none⟩ (t4.toNat*1))=false/\∀an,an=χ.setCell (Addr.add ⟨t1,16,none⟩ (t4.toNat*1)) (.slice aX bu c2)->
        (a1 t1 t2 (IntKind.i64.wrap (t4+1)) an)))) (ai R))))) (
  ∃(aE:aj),aE.size=24/\aB w ⟨t1,0,none⟩ aE.toList/\
  (ν (decide (aE.size=24)) (
    a6 w ⟨t2,0,none⟩ aE.toList/\∀aZ,aZ=w.setCells (⟨t2,0,none⟩:Addr).block (⟨t2,0,none⟩:Addr).off aE.toList->
    (∃(bz:aj),bz.size=24/\aB aZ ⟨t2,0,none⟩ bz.toList/\
     (R (.returned (.agg bz)) aZ)))))
def sW.bb:=DB sW.δ
def sW.main(a0:aj)(w:World)(R:au):Prop:=
 aK w a0 89 λδ ε=>
 aK ε #[(0:Int),(0:Int),(0:Int),(0:Int),(0:Int),(0:Int),(0:Int),(0:Int),(0:Int),(0:Int),(0:Int),(0:Int),(0:Int),(0:Int),(0:Int),(0:Int),.slice none 0 0,.slice none 0 0,.slice none 0 0,.slice none 0 0,.slice none 0 0,.slice none 0 0,.slice none 0 0,.slice none 0 0] 89 λζ υ=>
 sW.bb δ ζ 0 υ R
abbrev sW.C(a0:aj):=Calls prog 85 #[.agg a0]
theorem sW.ok:iS sW.main sW.C:=λ{_ _ R}h=>fo func85 [.cell 2 89] 17 (.seq .leaf (.seq (.seq .leaf (.block (.loop [(1,.cA),(2,.cA),(4,.int .i64)] (sW.bb · · · · R) λa1=>.leaf))) .leaf)) h
def tw.δ(t2 t3:Nat)(t17:aj)(t18:Int)(w:World)(R:au)(a1:Nat->Nat->aj->Int->al):Prop:=
 cond (decide (t18<8)) (
  ν (decide (0<=t18)) (
   ν (decide (t18<(8:Int))) (
    ξ (t17[(t18.toNat*1)]?) λv1=>
    gI v1 λae=>
    κ prog 124 #[.pointer ae] w (λv2 an=>
     cX v2 λaX aD c1=>
     ν (decide (0<=t18)) (
      ν (decide (t18<(8:Int))) (
       (an.cell? (Addr.add ⟨t3,16,none⟩ (t18.toNat*1))).isSome=true/\an.frozen? (Addr.add ⟨t3,16,none⟩ (t18.toNat*1))=false/\∀a8,a8=an.setCell (Addr.add ⟨t3,16,none⟩ (t18.toNat*1)) (.slice aX aD c1)->
       (a1 t2 t3 t17 (IntKind.i64.wrap (t18+1)) a8)))) (ai R)))) (
  ∃(b0:aj),b0.size=24/\aB w ⟨t3,0,none⟩ b0.toList/\
  (ν (decide (b0.size=24)) (
    a6 w ⟨t2,0,none⟩ b0.toList/\∀bV,bV=w.setCells (⟨t2,0,none⟩:Addr).block (⟨t2,0,none⟩:Addr).off b0.toList->
    (∃(dr:aj),dr.size=24/\aB bV ⟨t2,0,none⟩ dr.toList/\
     (R (.returned (.agg dr)) bV)))))
def tw.bb:=MF tw.δ
def tw.main(a0:γ)(w:World)(R:au):Prop:=
 aK w #[(0:Int),(0:Int),(0:Int),(0:Int),(0:Int),(0:Int),(0:Int),(0:Int),(0:Int),(0:Int),(0:Int),(0:Int),(0:Int),(0:Int),(0:Int),(0:Int),.slice none 0 0,.slice none 0 0,.slice none 0 0,.slice none 0 0,.slice none 0 0,.slice none 0 0,.slice none 0 0,.slice none 0 0] 89 λδ ε=>
 aK ε #[(0:Int),(0:Int),(0:Int),(0:Int),(0:Int),(0:Int),(0:Int),(0:Int),(0:Int),(0:Int),(0:Int),(0:Int),(0:Int),(0:Int),(0:Int),(0:Int),.slice none 0 0,.slice none 0 0,.slice none 0 0,.slice none 0 0,.slice none 0 0,.slice none 0 0,.slice none 0 0,.slice none 0 0] 89 λζ υ=>
 cond (Option.isNone a0) (
  ∃(aE:aj),aE.size=24/\aB υ ⟨ζ,0,none⟩ aE.toList/\
  (ν (decide (aE.size=24)) (
   a6 υ ⟨δ,0,none⟩ aE.toList/\∀χ,χ=υ.setCells (⟨δ,0,none⟩:Addr).block (⟨δ,0,none⟩:Addr).off aE.toList->
   (∃(bz:aj),bz.size=24/\aB χ ⟨δ,0,none⟩ bz.toList/\
    (R (.returned (.agg bz)) χ))))) (
  ξ a0 λd1=>
  ∃(bO:aj),bO.size=16/\aB υ d1 bO.toList/\
  (ν (decide (bO.size=16)) (
   a6 υ ⟨ζ,0,none⟩ bO.toList/\∀ao,ao=υ.setCells (⟨ζ,0,none⟩:Addr).block (⟨ζ,0,none⟩:Addr).off bO.toList->
   (ξ a0 λd2=>
    ∃(bC:aj),bC.size=8/\aB ao (d2.add 16) bC.toList/\
    (tw.bb δ ζ bC 0 ao R)))))
abbrev tw.C(a0:γ):=Calls prog 86 #[.pointer a0]
theorem tw.ok:iS tw.main tw.C:=λ{_ _ R}h=>fo func86 [.cell 2 89] 29 (.seq .leaf (.seq .leaf (.seq .leaf (.seq .leaf (.seq (.seq .leaf (.block (.loop [(2,.cA),(3,.cA),(17,.agg),(18,.int .i64)] (tw.bb · · · · · R) λa1=>.leaf))) .leaf))))) h
def uE.δ(t3:Nat)(t17:aj)(t18:Int)(w:World)(R:au)(a1:Nat->aj->Int->al):Prop:=
 cond (decide (t18<8)) (
  ν (decide (0<=t18)) (
   ν (decide (t18<(8:Int))) (
    ξ (t17[(t18.toNat*1)]?) λv3=>
    cX v3 λae aD c1=>
    κ prog 113 #[.slice ae aD c1,.func (.func 125) #[] #[.pointer (some ⟨t3,0,none⟩)]] w (λv4 a8=>
     dF v4 λaa=>
     cond aa (
      R (.returned (.int .i64 5)) a8) (
      a1 t3 t17 (IntKind.i64.wrap (t18+1)) a8)) (ai R)))) (
  R (.returned (.int .i64 0)) w)
def uE.bb:=DB uE.δ
def uE.main(a0:aj)(e8 e9:Int)(w:World)(R:au):Prop:=
 aK w a0 89 λδ ε=>
 aK ε #[e8,e9] 28 λζ υ=>
 ∃(aE:aj),aE.size=2/\aB υ ⟨ζ,0,none⟩ aE.toList/\
 (κ prog 73 #[.agg aE] υ (λv1 χ=>
  br .i64 v1 λθ=>
  cond (θ !=0) (
   R (.returned (.int .i64 θ)) χ) (
   ∃(bz:aj),bz.size=24/\aB χ ⟨δ,0,none⟩ bz.toList/\
   (κ prog 69 #[.agg bz] χ (λv2 an=>
    dF v2 λax=>
    cond (!ax) (
     R (.returned (.int .i64 2)) an) (
     ∃(bO:aj),bO.size=8/\aB an ⟨δ,16,none⟩ bO.toList/\
     (uE.bb ζ bO 0 an R))) (ai R)))) (ai R))
abbrev uE.C(a0:aj)(e8 e9:Int):=Calls prog 87 #[.agg a0,.agg #[e8,e9]]
theorem uE.ok:ji uE.main uE.C:=λ{_ _ _ _ R}h=>fo func87 [.tmp 4] 25 (.seq .leaf (.seq .leaf (.seq .leaf (.seq (.seq .leaf (.block (.loop [(3,.cA),(17,.agg),(18,.int .i64)] (uE.bb · · · · R) λa1=>.leaf))) .leaf)))) h
def kI.bK(lo:γ)(ky mL:Nat)(jP:γ)(iD jC:Nat)(w:World)(R:au):Prop:=
 R (.returned (.tuple #[.slice lo ky mL,.slice jP iD jC,(0:Int)])) w
def kI.ζ(t5:Option Nat)(lo:γ)(ky mL:Nat)(jP:γ)(iD jC:Nat)(NZ:γ)(NY Sc:Nat)(t32 t33:Int)(w:World)(R:au)(gi:Option Nat->γ->Nat->Nat->γ->Nat->Nat->γ->Nat->Nat->Int->Int->al):Prop:=
 cond (decide (t33<t32)) (
  ν (decide (0<=t33)) (
   ν (decide (t33<((NY:Nat):Int))) (
    ξ NZ λd1=>
    ∃iY m2,w.cell? (d1.add (t33.toNat*1))=some (.complex .f64 iY m2)/\
    (Jo prog w t5 iY m2 213 (.slice none 0 0) λa7=>
     cX a7 λbj bu bP=>
     aK w #[.slice bj bu bP] 213 λcu cm=>
     ho cm jP iD jC 1 (bd cm (some ⟨cu,0,none⟩)) 213 1 24 #[.slice none 0 0] λeo h0 cE=>
     gi t5 lo ky mL eo (iD+1) h0 NZ NY Sc t32 (IntKind.i64.wrap (t33+1)) cE)))) (
  kI.bK lo ky mL jP iD jC w R)
def kI.eZ:=ar4 kI.ζ
def kI.aV(t5:Option Nat)(lo:γ)(ky mL:Nat)(w:World)(R:au):Prop:=
 κ prog 126 #[.slice lo ky mL] w (λv5 c4=>
  b7 v5 λbN=>
  ξ (bN[0]?) λv6=>
  cX v6 λaX aD c2=>
  ξ (bN[1]?) λfm=>
  br .i64 fm λθ=>
  kI.eZ t5 aX aD c2 none 0 0 aX aD c2 ((aD:Nat):Int) 0 c4 R) (ai R)
def kI.δ(t5:Option Nat)(lo:γ)(ky mL t17:Nat)(w:World)(R:au)(a1:Option Nat->γ->Nat->Nat->Nat->al):Prop:=
 Xb w ⟨t17,0,none⟩ (
  kI.aV t5 lo ky mL w R) λaP a8=>
 UC a8 ⟨t17,0,none⟩ λv3 v4=>
 mA v3 λfC m1=>
 aK a8 #[.complex .f64 fC m1] 113 λaa bV=>
 ho bV lo ky mL 1 (bd bV (some ⟨aa,0,none⟩)) 113 1 16 #[.complex .f64 0 0] λae c1 bW=>
 a1 t5 ae (ky+1) c1 t17 bW
def kI.bb:=yH kI.δ
def kI.main(a0:aj)(w:World)(R:au):Prop:=
 aK w a0 89 λδ ε=>
 ∃(aE:aj),aE.size=24/\aB ε ⟨δ,0,none⟩ aE.toList/\
 (κ prog 69 #[.agg aE] ε (λv1 υ=>
  dF v1 λζ=>
  cond (!ζ) (
   R (.returned (.tuple #[.slice none 0 0,.slice none 0 0,(2:Int)])) υ) (
   ∃(bz:aj),bz.size=24/\aB υ ⟨δ,0,none⟩ bz.toList/\
   (κ prog 110 #[.agg bz] υ (λv2 ao=>
    rf v2 λcM=>
    afV ao cM λax aZ=>
    kI.bb cM none 0 0 ax aZ R) (ai R)))) (ai R))
abbrev kI.C(a0:aj):=Calls prog 88 #[.agg a0]
theorem kI.ok:iS kI.main kI.C:=λ{_ _ R}h=>fo func88 [.tmp 2,.tmp 3,.tmp 4] 46 (.seq .leaf (.seq .leaf (.seq .leaf (.seq .leaf (.cut [(5,.map),(6,.slice)] (kI.aV · · · · · R) (.seq .leaf (.block (.loop [(5,.map),(6,.slice),(17,.cA)] (kI.bb · · · · · · R) λa1=>.leaf))) (.seq .leaf (.seq .leaf (.cut [(6,.slice),(8,.slice)] (kI.bK · · · · · · · R) (.seq .leaf (.block (.loop [(5,.map),(6,.slice),(8,.slice),(31,.slice),(32,.int .i64),(33,.int .i64)] (kI.eZ · · · · · · · · · · · · · R) λgi=>.leaf))) .leaf)))))))) h
def Hw.main(bG:γ)(bf bD:Nat)(w:World)(R:au):Prop:=
 cond (Option.isNone bG) (
  R (.returned (.slice none 0 0)) w) (
  aK w #[] 3 λδ ε=>
  ho ε (some ⟨δ,0,none⟩) 0 0 bf (bd ε bG) 3 1 8 #[(0:Int)] λae c1 υ=>
  R (.returned (.slice ae (0+bf) c1)) υ)
abbrev Hw.C(bG:γ)(bf bD:Nat):=Calls prog 89 #[.slice bG bf bD]
theorem Hw.ok:ji Hw.main Hw.C:=λh=>dA func89 [.tmp 2] 8 h
def E5.main(fM gH:Int)(gQ:γ)(fy gS:Nat)(w:World)(R:au):Prop:=
 aK w #[fM,gH] 28 λδ ε=>
 ∃(aE:aj),aE.size=2/\aB ε ⟨δ,0,none⟩ aE.toList/\
 (κ prog 73 #[.agg aE] ε (λv1 υ=>
  br .i64 v1 λθ=>
  cond (θ==0) (
   ∃ρ,υ.cell? ⟨δ,0,none⟩=some (.int .i64 ρ)/\
   (cond (((fy:Nat):Int)==ρ) (
    κ prog 127 #[.slice gQ fy gS,.func (.func 128) #[] #[.pointer (some ⟨δ,0,none⟩)]] υ (λv2 ao=>
     dF v2 λζ=>
     R (.returned (.bool (!ζ))) ao) (ai R)) (
    R (.returned (.bool false)) υ))) (
   R (.returned (.bool false)) υ)) (ai R))
abbrev E5.C(fM gH:Int)(gQ:γ)(fy gS:Nat):=Calls prog 90 #[.agg #[fM,gH],.slice gQ fy gS]
theorem E5.ok:vg E5.main E5.C:=λh=>dA func90 [.tmp 4] 21 h
def Hb.main(a0 aw a2:Int)(w:World)(R:au):Prop:=
 cond (decide (aw<2)) (
  R (.returned (.tuple #[(0:Int),(0:Int),(1:Int)])) w) (
  cond (decide (aw>16)) (
   R (.returned (.tuple #[(0:Int),(0:Int),(1:Int)])) w) (
   cond (decide (a0<0)) (
    R (.returned (.tuple #[(0:Int),(0:Int),(1:Int)])) w) (
    cond (decide (a0>aw)) (
     R (.returned (.tuple #[(0:Int),(0:Int),(1:Int)])) w) (
     cond (decide (a2<0)) (
      R (.returned (.tuple #[(0:Int),(0:Int),(1:Int)])) w) (
      cond (decide (a2>=65536)) (
       R (.returned (.tuple #[(0:Int),(0:Int),(1:Int)])) w) (
       R (.returned (.tuple #[(IntKind.i64.wrap ((IntKind.i64.wrap (aw-a0))*(IntKind.i64.wrap (a2+1)))),(IntKind.i64.wrap (aw+a0)),(0:Int)])) w))))))
abbrev Hb.C(a0 aw a2:Int):=Calls prog 91 #[a0,aw,a2]
theorem Hb.ok:ji Hb.main Hb.C:=λh=>dA func91 [.tmp 6,.tmp 7,.tmp 8] 41 h
def uL.δ(cy:γ)(cp cG:Nat)(nh:γ)(ng qT:Nat)(t6 t24 t25:Int)(w:World)(R:au)(a1:γ->Nat->Nat->γ->Nat->Nat->Int->Int->Int->al):Prop:=
 cond (decide (t25<t24)) (
  ν (decide (0<=t25)) (
   ν (decide (t25<((cp:Nat):Int))) (
    ξ cy λd1=>
    ∃θ,w.drew.cell? (d1.add (t25.toNat*1))=some (.int .i64 θ)/\
    (ν (decide (0<=t25)) (
     ν (decide (t25<((ng:Nat):Int))) (
      ξ nh λd2=>
      ∃ρ,w.drew.cell? (d2.add (t25.toNat*1))=some (.int .i64 ρ)/\
      (κ prog 129 #[θ,ρ] w.drew (λv1 ε=>
       dF v1 λδ=>
       cond (!δ) (
        R (.returned (.tuple #[(0:Int),(1:Int)])) ε) (
        ν (decide (0<=t25)) (
         ν (decide (t25<((cp:Nat):Int))) (
          ξ cy λd3=>
          ∃ad,ε.drew.cell? (d3.add (t25.toNat*1))=some (.int .i64 ad)/\
          (ν (decide (0<=t25)) (
           ν (decide (t25<((ng:Nat):Int))) (
           ξ nh λd4=>
           ∃aC,ε.drew.cell? (d4.add (t25.toNat*1))=some (.int .i64 aC)/\
           (ν (decide (0<=t6)) (
           ν (decide (t6<((cp:Nat):Int))) (
           ξ cy λd5=>
           ∃ay,ε.drew.cell? (d5.add (t6.toNat*1))=some (.int .i64 ay)/\
           (ν (decide (0<=t6)) (
           ν (decide (t6<((ng:Nat):Int))) (
           ξ nh λd6=>
           ∃aM,ε.drew.cell? (d6.add (t6.toNat*1))=some (.int .i64 aM)/\
           (κ prog 130 #[ad,aC,ay,aM] ε.drew (λv2 χ=>
           br .i64 v2 λaU=>
           cond (decide (aU>0)) (
           a1 cy cp cG nh ng qT t25 t24 (IntKind.i64.wrap (t25+1)) χ) (
           a1 cy cp cG nh ng qT t6 t24 (IntKind.i64.wrap (t25+1)) χ)) (ai R))))))))))))))) (ai R)))))))) (
  R (.returned (.tuple #[t6,(0:Int)])) w)
def uL.bb:=W0 uL.δ
def uL.main(bG:γ)(bf bD:Nat)(gQ:γ)(fy gS:Nat)(w:World)(R:au):Prop:=
 cond (((bf:Nat):Int)!=((fy:Nat):Int)) (
  R (.returned (.tuple #[(0:Int),(1:Int)])) w) (
  cond (((bf:Nat):Int)==0) (
   R (.returned (.tuple #[(0:Int),(1:Int)])) w) (
   cond (decide (((bf:Nat):Int)>4096)) (
    R (.returned (.tuple #[(0:Int),(1:Int)])) w) (
    uL.bb bG bf bD gQ fy gS 0 ((bf:Nat):Int) 0 w R)))
abbrev uL.C(bG:γ)(bf bD:Nat)(gQ:γ)(fy gS:Nat):=Calls prog 92 #[.slice bG bf bD,.slice gQ fy gS]
theorem uL.ok:xW uL.main uL.C:=λ{_ _ _ _ _ _ _ R}h=>fo func92 [.tmp 4,.tmp 5] 59 (.seq .leaf (.seq .leaf (.seq .leaf (.seq (.seq .leaf (.block (.loop [(0,.slice),(1,.slice),(6,.int .i64),(24,.int .i64),(25,.int .i64)] (uL.bb · · · · · · · · · · R) λa1=>.leaf))) .leaf)))) h
def E4.main(jU ka eu:Nat)(w:World)(R:au):Prop:=
 ξ ((FloatKind.f64.decode jU).toInt .zero) λθ=>
 ν (decide (IntKind.i64.min<=θ)) (
  ν (decide (θ<=IntKind.i64.max)) (
   ∃ρ,w.cell? ⟨eu,0,none⟩=some (.int .i64 ρ)/\
   (R (.returned (.bool (θ !=ρ))) w)))
abbrev E4.C(jU ka eu:Nat):=Calls prog 94 #[.complex .f64 jU ka,.pointer (some ⟨eu,0,none⟩)]
theorem E4.ok:ji E4.main E4.C:=λh=>dA func94 [.tmp 3] 9 h
def EI.main(jU ka:Nat)(aw:Int)(w:World)(R:au):Prop:=
 κ prog 132 #[.complex .f64 jU ka] w (λv1 ε=>
  b7 v1 λbN=>
  ξ (bN[0]?) λv2=>
  br .i64 v2 λθ=>
  ξ (bN[1]?) λv3=>
  br .i64 v3 λρ=>
  ξ (bN[2]?) λv4=>
  br .i64 v4 λad=>
  κ prog 133 #[aw] ε (λv5 χ=>
   dF v5 λδ=>
   cond (!δ) (
    R (.returned (.tuple #[(0:Int),(1:Int)])) χ) (
    cond (ad !=0) (
     R (.returned (.tuple #[(0:Int),ad])) χ) (
     cond (decide (ρ>=aw)) (
      R (.returned (.tuple #[(0:Int),(5:Int)])) χ) (
      R (.returned (.tuple #[(IntKind.i64.wrap ((IntKind.i64.wrap (θ*aw))+ρ)),(0:Int)])) χ)))) (ai R)) (ai R)
abbrev EI.C(jU ka:Nat)(aw:Int):=Calls prog 95 #[.complex .f64 jU ka,aw]
theorem EI.ok:ji EI.main EI.C:=λh=>dA func95 [.tmp 4,.tmp 5] 32 h
def qS.bK(t0:γ)(w:World)(R:au):Prop:=
 ξ t0 λd7=>
 ∃ρ,w.drew.cell? (d7.add 3)=some (.int .i64 ρ)/\
 (ξ t0 λd8=>
  ∃ad,w.drew.cell? (d8.add 1)=some (.int .i64 ad)/\
  (ξ t0 λd9=>
   ∃aC,w.drew.cell? (d9.add 4)=some (.int .i64 aC)/\
   (ξ t0 λd10=>
    ∃ay,w.drew.cell? (d10.add 1)=some (.int .i64 ay)/\
    (κ prog 135 #[(IntKind.i64.wrap ((IntKind.i64.wrap (ρ*ad))+aC)),ay] w.drew (λv4 c4=>
     b7 v4 λbN=>
     ξ (bN[0]?) λv5=>
     mA v5 λcM m1=>
     ξ (bN[1]?) λv6=>
     br .i64 v6 λaM=>
     ξ t0 λd11=>
     ∃aU,c4.cell? (d11.add 4)=some (.int .i64 aU)/\
     (ξ t0 λd12=>
      (c4.cell? (d12.add 4)).isSome=true/\c4.frozen? (d12.add 4)=false/\∀cm,cm=c4.setCell (d12.add 4) (.int .i64 (IntKind.i64.wrap (aU+1)))->
      (R (.returned (.tuple #[.complex .f64 cM m1,(0:Int)])) cm))) (ai R)))))
def qS.aV(t0:γ)(t1:Int)(t8:Bool)(w:World)(R:au):Prop:=
 cond t8 (
  R (.returned (.tuple #[.complex .f64 0 0,(1:Int)])) w) (
  κ prog 120 #[.pointer t0,t1] w (λv1 ε=>
   dF v1 λδ=>
   cond (!δ) (
    R (.returned (.tuple #[.complex .f64 0 0,(9:Int)])) ε) (
    κ prog 134 #[.pointer t0] ε (λv2 χ=>
     dF v2 λζ=>
     cond ζ (
      ξ t0 λd1=>
      ∃ae aD c1,χ.drew.cell? (d1.add 2)=some (.slice ae aD c1)/\
      (ν (decide (0<((aD:Nat):Int))) (
       ξ ae λd2=>
       ∃θ,χ.drew.cell? d2=some (.int .i64 θ)/\
       (ξ t0 λd3=>
        ∃aX bu c2,χ.drew.cell? (d3.add 2)=some (.slice aX bu c2)/\
        (ν (decide (1<=((bu:Nat):Int))) (
         κ prog 89 #[.slice (dL aX c2 1 1) (bu-1) (c2-1)] χ.drew (λv3 an=>
          cX v3 λbj dU bP=>
          an.cell? d2=some (.int .i64 θ)/\
          (an.cell? (d1.add 2)=some (.slice ae aD c1)/\
           (ξ t0 λd4=>
           (an.cell? (d4.add 3)).isSome=true/\an.frozen? (d4.add 3)=false/\∀a8,a8=an.setCell (d4.add 3) (.int .i64 θ)->
           (ξ t0 λd5=>
           (a8.cell? (d5.add 4)).isSome=true/\a8.frozen? (d5.add 4)=false/\∀bV,bV=a8.setCell (d5.add 4) (.int .i64 0)->
           (ξ t0 λd6=>
           (bV.cell? (d6.add 2)).isSome=true/\bV.frozen? (d6.add 2)=false/\∀bW,bW=bV.setCell (d6.add 2) (.slice bj dU bP)->
           (qS.bK t0 bW R)))))) (ai R))))))) (
      qS.bK t0 χ R)) (ai R))) (ai R))
def qS.main(a0:γ)(aw:Int)(w:World)(R:au):Prop:=
 cond (Option.isNone a0) (
  qS.aV a0 aw true w R) (
  qS.aV a0 aw (decide (aw<0)) w R)
abbrev qS.C(a0:γ)(aw:Int):=Calls prog 96 #[.pointer a0,aw]
theorem qS.ok:kn qS.main qS.C:=λ{_ _ _ R}h=>fo func96 [.tmp 4,.tmp 5] 76 (.seq .leaf (.cut [(0,.ptr)] (qS.bK · · R) (.block (.cut [(0,.ptr),(1,.int .i64),(8,.bool)] (qS.aV · · · · R) .leaf .leaf)) .leaf)) h
def qe.δ(sw sv t3 t6:Nat)(Sl:γ)(Sk YD:Nat)(t51 t52:Int)(w:World)(R:au)(a1:Nat->Nat->Nat->Nat->γ->Nat->Nat->Int->Int->al):Prop:=
 cond (decide (t52<t51)) (
  ν (decide (0<=t52)) (
   ν (decide (t52<((Sk:Nat):Int))) (
    ξ Sl λd1=>
    ∃(hJ:aj),hJ.size=2/\aB w (d1.add (t52.toNat*2)) hJ.toList/\
    (aK w #[(0:Int),(0:Int)] 221 λdR eE=>
     ν (decide (hJ.size=2)) (
      a6 eE ⟨dR,0,none⟩ hJ.toList/\∀ey,ey=eE.setCells (⟨dR,0,none⟩:Addr).block (⟨dR,0,none⟩:Addr).off hJ.toList->
      (∃θ,ey.drew.cell? ⟨dR,0,none⟩=some (.int .i64 θ)/\
       (ν (decide (0<=θ)) (
        ν (decide (θ<(8:Int))) (
         ∃eo jK h0,ey.drew.cell? (Addr.add ⟨t3,16,none⟩ (θ.toNat*1))=some (.slice eo jK h0)/\
         (∃ρ,ey.drew.cell? ⟨dR,1,none⟩=some (.int .i64 ρ)/\
          (ξ (vq sw 0) λfC=>
           ξ (vq sv 0) λm1=>
           ν (decide (0<=ρ)) (
            ν (decide (ρ<((jK:Nat):Int))) (
            ξ eo λd2=>
            (ey.drew.cell? (d2.add (ρ.toNat*1))).isSome=true/\ey.drew.frozen? (d2.add (ρ.toNat*1))=false/\∀dM,dM=ey.drew.setCell (d2.add (ρ.toNat*1)) (.complex .f64 fC m1)->
            (a1 sw sv t3 t6 Sl Sk YD t51 (IntKind.i64.wrap (t52+1)) dM)))))))))))))) (
  ∃(hK:aj),hK.size=24/\aB w ⟨t3,0,none⟩ hK.toList/\
  (ν (decide (hK.size=24)) (
    a6 w ⟨t6,0,none⟩ hK.toList/\∀eg,eg=w.setCells (⟨t6,0,none⟩:Addr).block (⟨t6,0,none⟩:Addr).off hK.toList->
    (∃(kb:aj),kb.size=24/\aB eg ⟨t6,0,none⟩ kb.toList/\
     (R (.returned (.tuple #[.agg kb,(0:Int)])) eg)))))
def qe.bb:=W0 qe.δ
def qe.aV(avU avT sw sv t3 t6:Nat)(t8:Option Nat)(w:World)(R:au):Prop:=
 ∃(fD:aj),fD.size=24/\aB w ⟨t3,0,none⟩ fD.toList/\
 (κ prog 85 #[.agg fD] w (λfm ed=>
  cv fm λfE=>
  ν (decide (fE.size=24)) (
   a6 ed ⟨t3,0,none⟩ fE.toList/\∀eO,eO=ed.setCells (⟨t3,0,none⟩:Addr).block (⟨t3,0,none⟩:Addr).off fE.toList->
   (Jo prog eO t8 avU avT 213 (.slice none 0 0) λa7=>
    cX a7 λbj dU bP=>
    qe.bb sw sv t3 t6 bj dU bP ((dU:Nat):Int) 0 eO R))) (ai R))
def qe.main(a0:aj)(sK sJ q6 q5:Nat)(w:World)(R:au):Prop:=
 aK w a0 89 λδ ε=>
 aK ε #[(0:Int),(0:Int),(0:Int),(0:Int),(0:Int),(0:Int),(0:Int),(0:Int),(0:Int),(0:Int),(0:Int),(0:Int),(0:Int),(0:Int),(0:Int),(0:Int),.slice none 0 0,.slice none 0 0,.slice none 0 0,.slice none 0 0,.slice none 0 0,.slice none 0 0,.slice none 0 0,.slice none 0 0] 89 λζ υ=>
 ∃(aE:aj),aE.size=24/\aB υ ⟨δ,0,none⟩ aE.toList/\
 (κ prog 69 #[.agg aE] υ (λv1 χ=>
  dF v1 λax=>
  cond (!ax) (
   a6 χ ⟨ζ,0,none⟩ [(.int .i64 0),(.int .i64 0),(.int .i64 0),(.int .i64 0),(.int .i64 0),(.int .i64 0),(.int .i64 0),(.int .i64 0),(.int .i64 0),(.int .i64 0),(.int .i64 0),(.int .i64 0),(.int .i64 0),(.int .i64 0),(.int .i64 0),(.int .i64 0),(.slice none 0 0),(.slice none 0 0),(.slice none 0 0),(.slice none 0 0),(.slice none 0 0),(.slice none 0 0),(.slice none 0 0),(.slice none 0 0)]/\∀bW,bW=χ.setCells (⟨ζ,0,none⟩:Addr).block (⟨ζ,0,none⟩:Addr).off [(.int .i64 0),(.int .i64 0),(.int .i64 0),(.int .i64 0),(.int .i64 0),(.int .i64 0),(.int .i64 0),(.int .i64 0),(.int .i64 0),(.int .i64 0),(.int .i64 0),(.int .i64 0),(.int .i64 0),(.int .i64 0),(.int .i64 0),(.int .i64 0),(.slice none 0 0),(.slice none 0 0),(.slice none 0 0),(.slice none 0 0),(.slice none 0 0),(.slice none 0 0),(.slice none 0 0),(.slice none 0 0)]->
   (∃(bz:aj),bz.size=24/\aB bW ⟨ζ,0,none⟩ bz.toList/\
    (R (.returned (.tuple #[.agg bz,(2:Int)])) bW))) (
   κ prog 115 #[.complex .f64 sK sJ] χ (λv2 an=>
    dF v2 λaa=>
    cond (!aa) (
     a6 an ⟨ζ,0,none⟩ [(.int .i64 0),(.int .i64 0),(.int .i64 0),(.int .i64 0),(.int .i64 0),(.int .i64 0),(.int .i64 0),(.int .i64 0),(.int .i64 0),(.int .i64 0),(.int .i64 0),(.int .i64 0),(.int .i64 0),(.int .i64 0),(.int .i64 0),(.int .i64 0),(.slice none 0 0),(.slice none 0 0),(.slice none 0 0),(.slice none 0 0),(.slice none 0 0),(.slice none 0 0),(.slice none 0 0),(.slice none 0 0)]/\∀c4,c4=an.setCells (⟨ζ,0,none⟩:Addr).block (⟨ζ,0,none⟩:Addr).off [(.int .i64 0),(.int .i64 0),(.int .i64 0),(.int .i64 0),(.int .i64 0),(.int .i64 0),(.int .i64 0),(.int .i64 0),(.int .i64 0),(.int .i64 0),(.int .i64 0),(.int .i64 0),(.int .i64 0),(.int .i64 0),(.int .i64 0),(.int .i64 0),(.slice none 0 0),(.slice none 0 0),(.slice none 0 0),(.slice none 0 0),(.slice none 0 0),(.slice none 0 0),(.slice none 0 0),(.slice none 0 0)]->
     (∃(bO:aj),bO.size=24/\aB c4 ⟨ζ,0,none⟩ bO.toList/\
      (R (.returned (.tuple #[.agg bO,(2:Int)])) c4))) (
     κ prog 115 #[.complex .f64 q6 q5] an (λv3 a8=>
      dF v3 λcu=>
      cond (!cu) (
       a6 a8 ⟨ζ,0,none⟩ [(.int .i64 0),(.int .i64 0),(.int .i64 0),(.int .i64 0),(.int .i64 0),(.int .i64 0),(.int .i64 0),(.int .i64 0),(.int .i64 0),(.int .i64 0),(.int .i64 0),(.int .i64 0),(.int .i64 0),(.int .i64 0),(.int .i64 0),(.int .i64 0),(.slice none 0 0),(.slice none 0 0),(.slice none 0 0),(.slice none 0 0),(.slice none 0 0),(.slice none 0 0),(.slice none 0 0),(.slice none 0 0)]/\∀cd,cd=a8.setCells (⟨ζ,0,none⟩:Addr).block (⟨ζ,0,none⟩:Addr).off [(.int .i64 0),(.int .i64 0),(.int .i64 0),(.int .i64 0),(.int .i64 0),(.int .i64 0),(.int .i64 0),(.int .i64 0),(.int .i64 0),(.int .i64 0),(.int .i64 0),(.int .i64 0),(.int .i64 0),(.int .i64 0),(.int .i64 0),(.int .i64 0),(.slice none 0 0),(.slice none 0 0),(.slice none 0 0),(.slice none 0 0),(.slice none 0 0),(.slice none 0 0),(.slice none 0 0),(.slice none 0 0)]->
       (∃(bC:aj),bC.size=24/\aB cd ⟨ζ,0,none⟩ bC.toList/\
        (R (.returned (.tuple #[.agg bC,(2:Int)])) cd))) (
       ∃(b0:aj),b0.size=24/\aB a8 ⟨δ,0,none⟩ b0.toList/\
       (κ prog 110 #[.agg b0] a8 (λv4 cm=>
         rf v4 λcM=>
         Jo prog cm cM sK sJ 213 (.slice none 0 0) λv5=>
         cX v5 λae aD c1=>
         cond (((aD:Nat):Int)==0) (
          a6 cm ⟨ζ,0,none⟩ [(.int .i64 0),(.int .i64 0),(.int .i64 0),(.int .i64 0),(.int .i64 0),(.int .i64 0),(.int .i64 0),(.int .i64 0),(.int .i64 0),(.int .i64 0),(.int .i64 0),(.int .i64 0),(.int .i64 0),(.int .i64 0),(.int .i64 0),(.int .i64 0),(.slice none 0 0),(.slice none 0 0),(.slice none 0 0),(.slice none 0 0),(.slice none 0 0),(.slice none 0 0),(.slice none 0 0),(.slice none 0 0)]/\∀da,da=cm.setCells (⟨ζ,0,none⟩:Addr).block (⟨ζ,0,none⟩:Addr).off [(.int .i64 0),(.int .i64 0),(.int .i64 0),(.int .i64 0),(.int .i64 0),(.int .i64 0),(.int .i64 0),(.int .i64 0),(.int .i64 0),(.int .i64 0),(.int .i64 0),(.int .i64 0),(.int .i64 0),(.int .i64 0),(.int .i64 0),(.int .i64 0),(.slice none 0 0),(.slice none 0 0),(.slice none 0 0),(.slice none 0 0),(.slice none 0 0),(.slice none 0 0),(.slice none 0 0),(.slice none 0 0)]->
          (∃(dr:aj),dr.size=24/\aB da ⟨ζ,0,none⟩ dr.toList/\
           (R (.returned (.tuple #[.agg dr,(4:Int)])) da))) (
          cond (!(eQ .eql sK q6&&eQ .eql sJ q5)) (
           Jo prog cm cM q6 q5 213 (.slice none 0 0) λv6=>
           cX v6 λaX bu c2=>
           cond (decide (((bu:Nat):Int)>0)) (
            a6 cm ⟨ζ,0,none⟩ [(.int .i64 0),(.int .i64 0),(.int .i64 0),(.int .i64 0),(.int .i64 0),(.int .i64 0),(.int .i64 0),(.int .i64 0),(.int .i64 0),(.int .i64 0),(.int .i64 0),(.int .i64 0),(.int .i64 0),(.int .i64 0),(.int .i64 0),(.int .i64 0),(.slice none 0 0),(.slice none 0 0),(.slice none 0 0),(.slice none 0 0),(.slice none 0 0),(.slice none 0 0),(.slice none 0 0),(.slice none 0 0)]/\∀dp,dp=cm.setCells (⟨ζ,0,none⟩:Addr).block (⟨ζ,0,none⟩:Addr).off [(.int .i64 0),(.int .i64 0),(.int .i64 0),(.int .i64 0),(.int .i64 0),(.int .i64 0),(.int .i64 0),(.int .i64 0),(.int .i64 0),(.int .i64 0),(.int .i64 0),(.int .i64 0),(.int .i64 0),(.int .i64 0),(.int .i64 0),(.int .i64 0),(.slice none 0 0),(.slice none 0 0),(.slice none 0 0),(.slice none 0 0),(.slice none 0 0),(.slice none 0 0),(.slice none 0 0),(.slice none 0 0)]->
            (∃(fu:aj),fu.size=24/\aB dp ⟨ζ,0,none⟩ fu.toList/\
            (R (.returned (.tuple #[.agg fu,(12:Int)])) dp))) (
            qe.aV sK sJ q6 q5 δ ζ cM cm R)) (
           qe.aV sK sJ q6 q5 δ ζ cM cm R))) (ai R)))) (ai R))) (ai R))) (ai R))
abbrev qe.C(a0:aj)(sK sJ q6 q5:Nat):=Calls prog 97 #[.agg a0,.complex .f64 sK sJ,.complex .f64 q6 q5]
theorem qe.ok:vg qe.main qe.C:=λ{_ _ _ _ _ _ R}h=>fo func97 [.cell 6 89,.tmp 7] 68 (.seq .leaf (.seq .leaf (.seq .leaf (.cut [(1,.re),(2,.re),(3,.cA),(6,.cA),(8,.map)] (qe.aV · · · · · · · · R) .leaf (.seq .leaf (.seq (.seq .leaf (.block (.loop [(2,.re),(3,.cA),(6,.cA),(50,.slice),(51,.int .i64),(52,.int .i64)] (qe.bb · · · · · · · · · · R) λa1=>.leaf))) .leaf)))))) h
def EX.main(a0:γ)(w:World)(R:au):Prop:=
 ξ a0 λd1=>
 ∃θ,w.cell? (d1.add 3)=some (.int .i64 θ)/\
 (cond (θ==0) (
  ξ a0 λd2=>
  (w.cell? (d2.add 4)).isSome=true/\w.frozen? (d2.add 4)=false/\∀ε,ε=w.setCell (d2.add 4) (.bool true)->
  (ξ a0 λd6=>
   ∃δ,ε.cell? (d6.add 4)=some (.bool δ)/\
   (R (.returned (.bool δ)) ε))) (
  ξ a0 λd3=>
  ∃ρ,w.cell? (d3.add 3)=some (.int .i64 ρ)/\
  (cond (decide (ρ>0)) (
    ξ a0 λd4=>
    ∃ad,w.cell? (d4.add 3)=some (.int .i64 ad)/\
    (ξ a0 λd5=>
     (w.cell? (d5.add 3)).isSome=true/\w.frozen? (d5.add 3)=false/\∀υ,υ=w.setCell (d5.add 3) (.int .i64 (IntKind.i64.wrap (ad-1)))->
     (ξ a0 λd7=>
      ∃ζ,υ.cell? (d7.add 4)=some (.bool ζ)/\
      (R (.returned (.bool ζ)) υ)))) (
    ξ a0 λd8=>
    ∃ax,w.cell? (d8.add 4)=some (.bool ax)/\
    (R (.returned (.bool ax)) w)))))
abbrev EX.C(a0:γ):=Calls prog 98 #[.pointer a0]
theorem EX.ok:iS EX.main EX.C:=λh=>dA func98 [.tmp 2] 27 h
def bx.σ(α:Type)(fU:World->al)(bE:List α->al)(pre:List α)(x:α)(eP:World)(aa:Nat)(fv:γ)(dU:Nat)(iw:Nat)(cd:World):Prop:=
 (eP.cell? (⟨aa,0,none⟩:Addr)).isSome=true/\eP.frozen? (⟨aa,0,none⟩:Addr)=false/\∀kX,kX=eP.setCell (⟨aa,0,none⟩:Addr) (Value.slice fv (dU+1) iw)->
 (KeepsOthers cd kX/\fU cd kX/\bE (pre++[x]) kX)
def bx.af(α:Type)(fU:World->al)(bE:List α->al)(pre:List α)(x:α)(gr:World)(bj:γ)(dU:Nat)(bP:Nat)(gu:Nat)(aa:Nat)(cd:World):Prop:=
 ho gr bj dU bP 1 (bd gr (some ⟨gu,0,none⟩)) 34 1 24 #[(Value.slice none 0 0)] λfv iw eP=>
 bx.σ α fU bE pre x eP aa fv dU iw cd
def bx.bh(α:Type)(fU:World->al)(bE:List α->al)(pre:List α)(x:α)(dM:World)(jv:γ)(n7:Nat)(nA:Nat)(aa:Nat)(bj:γ)(dU:Nat)(bP:Nat)(cd:World):Prop:=
 aK dM #[(Value.slice jv n7 nA)] 34 λgu gr=>
 gr.cell? (⟨aa,0,none⟩:Addr)=some (Value.slice bj dU bP)/\
 (bx.af α fU bE pre x gr bj dU bP gu aa cd)
def bx.cJ(α:Type)(fU:World->al)(bE:List α->al)(pre:List α)(x:α)(rG:γ)(n6:Nat)(bu:Nat)(oy:Nat)(ey:World)(aa:Nat)(bj:γ)(dU:Nat)(bP:Nat)(cd:World):Prop:=
 κ prog 138 #[(Value.slice rG (n6+bu) oy)] ey (λv6 dM=>
 cX v6 λjv n7 nA=>
 dM.cell? (⟨aa,0,none⟩:Addr)=some (Value.slice bj dU bP)/\
 (bx.bh α fU bE pre x dM jv n7 nA aa bj dU bP cd)) (λdg eg=>False)
def bx.cB(α:Type)(fU:World->al)(bE:List α->al)(pre:List α)(x:α)(eO:World)(kh:γ)(n6:Nat)(sS:Nat)(bu:Nat)(aX:γ)(aa:Nat)(bj:γ)(dU:Nat)(bP:Nat)(cd:World):Prop:=
 ho eO kh n6 sS bu (bd eO aX) 5 1 1 #[(Value.int .u8 0)] λrG oy ey=>
 ey.cell? (⟨aa,0,none⟩:Addr)=some (Value.slice bj dU bP)/\
 (bx.cJ α fU bE pre x rG n6 bu oy ey aa bj dU bP cd)
def bx.bY(α:Type)(fU:World->al)(bE:List α->al)(pre:List α)(x:α)(gp:γ)(ti:Nat)(jk:Nat)(dR:Nat)(dP:World)(aa:Nat)(bj:γ)(dU:Nat)(bP:Nat)(bu:Nat)(aX:γ)(cd:World):Prop:=
 κ prog 139 #[(Value.slice gp ti jk),(Value.int .i64 1),(Value.slice (some ⟨dR,0,none⟩) 2 2)] dP (λv5 eO=>
 cX v5 λkh n6 sS=>
 eO.cell? (⟨aa,0,none⟩:Addr)=some (Value.slice bj dU bP)/\
 (bx.cB α fU bE pre x eO kh n6 sS bu aX aa bj dU bP cd)) (λdg eE=>False)
def bx.eN(α:Type)(fU:World->al)(bE:List α->al)(pre:List α)(x:α)(dp:World)(jK:Nat)(bu:Nat)(aa:Nat)(bj:γ)(dU:Nat)(bP:Nat)(gp:γ)(ti:Nat)(jk:Nat)(aX:γ)(cd:World):Prop:=
 aK dp #[(Value.int .i64 ((jK:Nat):Int)),(Value.int .i64 ((bu:Nat):Int))] 3 λdR dP=>
 dP.cell? (⟨aa,0,none⟩:Addr)=some (Value.slice bj dU bP)/\
 (bx.bY α fU bE pre x gp ti jk dR dP aa bj dU bP bu aX cd)
def bx.e4(α:Type)(fU:World->al)(bE:List α->al)(pre:List α)(x:α)(cu:Nat)(fb:World)(aa:Nat)(bj:γ)(dU:Nat)(bP:Nat)(kp:Nat)(bu:Nat)(aX:γ)(cd:World):Prop:=
 κ prog 139 #[(Value.slice none 0 0),(Value.int .i64 4),(Value.slice (some ⟨cu,0,none⟩) 1 1)] fb (λfm eJ=>
 cX fm λXC n8 aml=>
 eJ.cell? (⟨aa,0,none⟩:Addr)=some (Value.slice bj dU bP)/\
 (bx.bY α fU bE pre x XC n8 aml kp eJ aa bj dU bP bu aX cd)) (λdg gh=>False)
def bx.iV(α:Type)(fU:World->al)(bE:List α->al)(pre:List α)(x:α)(cu:Nat)(da:World)(aa:Nat)(eo:γ)(jK:Nat)(h0:Nat)(bj:γ)(dU:Nat)(bP:Nat)(bu:Nat)(aX:γ)(cd:World):Prop:=
 (κ prog 139 #[(Value.slice none 0 0),(Value.int .i64 4),(Value.slice (some ⟨cu,0,none⟩) 1 1)] da (λv4 dp=>
 cX v4 λgp ti jk=>
 dp.cell? (⟨aa,0,none⟩:Addr)=some (Value.slice eo jK h0)/\
 (dp.cell? (⟨aa,0,none⟩:Addr)=some (Value.slice bj dU bP)/\
 (bx.eN α fU bE pre x dp jK bu aa bj dU bP gp ti jk aX cd))) (λdg ed=>False))/\
 (aK da #[(Value.int .i64 ((jK:Nat):Int)),(Value.int .i64 ((bu:Nat):Int))] 3 λkp fb=>
 fb.cell? (⟨aa,0,none⟩:Addr)=some (Value.slice bj dU bP)/\
 (bx.e4 α fU bE pre x cu fb aa bj dU bP kp bu aX cd))
def bx.rA(α:Type)(fU:World->al)(bE:List α->al)(pre:List α)(x:α)(jT:World)(aC:Int)(aa:Nat)(bj:γ)(dU:Nat)(bP:Nat)(nY:Nat)(bu:Nat)(aX:γ)(cd:World):Prop:=
 aK jT #[(Value.int .i64 aC)] 3 λwP lp=>
 lp.cell? (⟨aa,0,none⟩:Addr)=some (Value.slice bj dU bP)/\
 (bx.e4 α fU bE pre x wP lp aa bj dU bP nY bu aX cd)
def bx.tk(α:Type)(fU:World->al)(bE:List α->al)(pre:List α)(x:α)(cd:World)(aC:Int)(aa:Nat)(eo:γ)(jK:Nat)(h0:Nat)(bj:γ)(dU:Nat)(bP:Nat)(bu:Nat)(aX:γ)(ax:Nat):Prop:=
 (aK cd.drew #[(Value.int .i64 aC)] 3 λcu da=>
 da.cell? (⟨aa,0,none⟩:Addr)=some (Value.slice eo jK h0)/\
 (da.cell? (⟨aa,0,none⟩:Addr)=some (Value.slice bj dU bP)/\
 (bx.iV α fU bE pre x cu da aa eo jK h0 bj dU bP bu aX cd)))/\
 (aK cd.drew #[(Value.int .i64 ((jK:Nat):Int)),(Value.int .i64 ((bu:Nat):Int))] 3 λnY jT=>
 jT.cell? (⟨ax,0,none⟩:Addr)=some (Value.int .i64 aC)/\
 (jT.cell? (⟨aa,0,none⟩:Addr)=some (Value.slice bj dU bP)/\
 (bx.rA α fU bE pre x jT aC aa bj dU bP nY bu aX cd)))
def bx.BU(D:Nat)(Cx:World)(qA:Nat)(n18:Nat)(od:γ)(R:au):Prop:=
 ho Cx (some ⟨qA,0,none⟩) 1 1 n18 (bd Cx od) 34 1 24 #[(Value.slice none 0 0)] λXD TO tG=>
 tG.heap[D]?=some (Obj.deferred (some []))/\
 R (.returned (Value.tuple #[(Value.slice XD (1+n18) TO),(Value.int .i64 0)])) (tG.putObj D (Obj.deferred none))
def bx.rB(D:Nat)(pF:World)(DJ:γ)(n20:Nat)(CX:Nat)(aa:Nat)(od:γ)(n18:Nat)(pQ:Nat)(R:au):Prop:=
 aK pF #[(Value.slice DJ n20 CX)] 34 λqA Cx=>
 Cx.cell? (⟨aa,0,none⟩:Addr)=some (Value.slice od n18 pQ)/\
 (bx.BU D Cx qA n18 od R)
def bx.qa(D:Nat)(M0:γ)(n19:Nat)(K0:Nat)(vb:World)(aa:Nat)(od:γ)(n18:Nat)(pQ:Nat)(R:au):Prop:=
 κ prog 138 #[(Value.slice M0 n19 K0)] vb (λoR pF=>
 cX oR λDJ n20 CX=>
 pF.cell? (⟨aa,0,none⟩:Addr)=some (Value.slice od n18 pQ)/\
 (bx.rB D pF DJ n20 CX aa od n18 pQ R)) (λdg AR=>AR.heap[D]?=some (Obj.deferred (some []))/\
 R (.panicked dg) (AR.putObj D (Obj.deferred none)))
def bx.uz(D:Nat)(xr:γ)(n17:Nat)(wQ:Nat)(tU:Nat)(Ou:World)(aa:Nat)(od:γ)(n18:Nat)(pQ:Nat)(R:au):Prop:=
 κ prog 139 #[(Value.slice xr n17 wQ),(Value.int .i64 4),(Value.slice (some ⟨tU,0,none⟩) 1 1)] Ou (λv17 vb=>
 cX v17 λM0 n19 K0=>
 vb.cell? (⟨aa,0,none⟩:Addr)=some (Value.slice od n18 pQ)/\
 (bx.qa D M0 n19 K0 vb aa od n18 pQ R)) (λdg bS=>bS.heap[D]?=some (Obj.deferred (some []))/\
 R (.panicked dg) (bS.putObj D (Obj.deferred none)))
def bx.vT(D:Nat)(Ef:World)(cj:Int)(aa:Nat)(od:γ)(n18:Nat)(pQ:Nat)(xr:γ)(n17:Nat)(wQ:Nat)(R:au):Prop:=
 aK Ef #[(Value.int .i64 (IntKind.i64.wrap cj))] 3 λtU Ou=>
 Ou.cell? (⟨aa,0,none⟩:Addr)=some (Value.slice od n18 pQ)/\
 (bx.uz D xr n17 wQ tU Ou aa od n18 pQ R)
def bx.xl(D:Nat)(ae:γ)(aD:Nat)(c1:Nat)(nt:World)(aa:Nat)(od:γ)(n18:Nat)(pQ:Nat)(xr:γ)(n17:Nat)(wQ:Nat)(R:au):Prop:=
 κ prog 140 #[(Value.slice ae aD c1)] nt.drew (λnS Ef=>
 br .u32 nS λcj=>
 Ef.cell? (⟨aa,0,none⟩:Addr)=some (Value.slice od n18 pQ)/\
 (bx.vT D Ef cj aa od n18 pQ xr n17 wQ R)) (λdg Eg=>Eg.heap[D]?=some (Obj.deferred (some []))/\
 R (.panicked dg) (Eg.putObj D (Obj.deferred none)))
def bx.oJ(D:Nat)(tm:γ)(n16:Nat)(sR:Nat)(jy:Nat)(tF:World)(aa:Nat)(ae:γ)(aD:Nat)(c1:Nat)(R:au):Prop:=
 κ prog 139 #[(Value.slice tm n16 sR),(Value.int .i64 2),(Value.slice (some ⟨jy,0,none⟩) 1 1)] tF (λnR nt=>
 cX nR λxr n17 wQ=>
 ∃(od:γ)(n18:Nat)(pQ:Nat),nt.drew.cell? (⟨aa,0,none⟩:Addr)=some (Value.slice od n18 pQ)/\
 (bx.xl D ae aD c1 nt aa od n18 pQ xr n17 wQ R)) (λdg Ee=>Ee.heap[D]?=some (Obj.deferred (some []))/\
 R (.panicked dg) (Ee.putObj D (Obj.deferred none)))
def bx.MQ(D:Nat)(zi:World)(aD:Nat)(tm:γ)(n16:Nat)(sR:Nat)(aa:Nat)(ae:γ)(c1:Nat)(R:au):Prop:=
 aK zi #[(Value.int .i64 ((aD:Nat):Int))] 3 λjy tF=>
 bx.oJ D tm n16 sR jy tF aa ae aD c1 R
def bx.rC(D:Nat)(lK:γ)(n15:Nat)(lB:Nat)(lT:Nat)(AS:World)(q9:Nat)(aa:Nat)(ae:γ)(aD:Nat)(c1:Nat)(R:au):Prop:=
 κ prog 139 #[(Value.slice lK n15 lB),(Value.int .i64 1),(Value.slice (some ⟨lT,0,none⟩) 3 3)] AS (λqw Eh=>
 cX qw λafm n21 IB=>
 bx.oJ D afm n21 IB q9 Eh aa ae aD c1 R) (λdg AT=>AT.heap[D]?=some (Obj.deferred (some []))/\
 R (.panicked dg) (AT.putObj D (Obj.deferred none)))
def bx.j2(D:Nat)(lK:γ)(n15:Nat)(lB:Nat)(lT:Nat)(lO:World)(aD:Nat)(aa:Nat)(ae:γ)(c1:Nat)(R:au):Prop:=
 (κ prog 139 #[(Value.slice lK n15 lB),(Value.int .i64 1),(Value.slice (some ⟨lT,0,none⟩) 3 3)] lO (λmM zi=>
 cX mM λtm n16 sR=>
 bx.MQ D zi aD tm n16 sR aa ae c1 R) (λdg wv=>wv.heap[D]?=some (Obj.deferred (some []))/\
 R (.panicked dg) (wv.putObj D (Obj.deferred none))))/\
 (aK lO #[(Value.int .i64 ((aD:Nat):Int))] 3 λq9 AS=>
 bx.rC D lK n15 lB lT AS q9 aa ae aD c1 R)
def bx.BV(D:Nat)(pG:World)(aM:Int)(aU:Int)(n14:Nat)(lK:γ)(n15:Nat)(lB:Nat)(EM:Nat)(aa:Nat)(ae:γ)(aD:Nat)(c1:Nat)(R:au):Prop:=
 aK pG #[(Value.int .i64 aM),(Value.int .i64 aU),(Value.int .i64 ((n14:Nat):Int))] 3 λaaK Ei=>
 bx.rC D lK n15 lB aaK Ei EM aa ae aD c1 R
def bx.uA(D:Nat)(oS:World)(aM:Int)(aU:Int)(n14:Nat)(lK:γ)(n15:Nat)(lB:Nat)(aD:Nat)(aa:Nat)(ae:γ)(c1:Nat)(cO:γ)(cN:Nat)(ζ:Nat)(R:au):Prop:=
 (aK oS #[(Value.int .i64 aM),(Value.int .i64 aU),(Value.int .i64 ((n14:Nat):Int))] 3 λlT lO=>
 bx.j2 D lK n15 lB lT lO aD aa ae c1 R)/\
 (aK oS #[(Value.int .i64 ((aD:Nat):Int))] 3 λEM pG=>
 pG.cell? (⟨aa,0,none⟩:Addr)=some (Value.slice cO n14 cN)/\
 (pG.cell? (⟨ζ,1,none⟩:Addr)=some (Value.int .i64 aU)/\
 (pG.cell? (⟨ζ,0,none⟩:Addr)=some (Value.int .i64 aM)/\
 (bx.BV D pG aM aU n14 lK n15 lB EM aa ae aD c1 R))))
def bx.DH(D:Nat)(c7:Nat)(je:Nat)(zb:World)(vn:Nat)(EO:Nat)(aa:Nat)(ae:γ)(aD:Nat)(c1:Nat)(R:au):Prop:=
 κ prog 139 #[(Value.slice (some ⟨c7,0,none⟩) 4 4),(Value.int .i64 4),(Value.slice (some ⟨je,0,none⟩) 1 1)] zb (λv40 ajd=>
 cX v40 λafo n42 aa6=>
 bx.rC D afo n42 aa6 vn ajd EO aa ae aD c1 R) (λdg aje=>aje.heap[D]?=some (Obj.deferred (some []))/\
 R (.panicked dg) (aje.putObj D (Obj.deferred none)))
def bx.Gx(D:Nat)(c7:Nat)(je:Nat)(zj:World)(vn:Nat)(aD:Nat)(aa:Nat)(ae:γ)(c1:Nat)(R:au):Prop:=
 (κ prog 139 #[(Value.slice (some ⟨c7,0,none⟩) 4 4),(Value.int .i64 4),(Value.slice (some ⟨je,0,none⟩) 1 1)] zj (λIg ajw=>
 cX Ig λafn n31 aa5=>
 bx.j2 D afn n31 aa5 vn ajw aD aa ae c1 R) (λdg ai9=>ai9.heap[D]?=some (Obj.deferred (some []))/\
 R (.panicked dg) (ai9.putObj D (Obj.deferred none))))/\
 (aK zj #[(Value.int .i64 ((aD:Nat):Int))] 3 λEO zb=>
 bx.DH D c7 je zb vn EO aa ae aD c1 R)
def bx.BW(D:Nat)(c7:Nat)(je:Nat)(u5:World)(aa:Nat)(cO:γ)(n14:Nat)(cN:Nat)(ζ:Nat)(aU:Int)(aM:Int)(CR:Nat)(ae:γ)(aD:Nat)(c1:Nat)(R:au):Prop:=
 (κ prog 139 #[(Value.slice (some ⟨c7,0,none⟩) 4 4),(Value.int .i64 4),(Value.slice (some ⟨je,0,none⟩) 1 1)] u5 (λv46 Ol=>
 cX v46 λafp n48 aa7=>
 Ol.cell? (⟨aa,0,none⟩:Addr)=some (Value.slice cO n14 cN)/\
 (Ol.cell? (⟨ζ,1,none⟩:Addr)=some (Value.int .i64 aU)/\
 (Ol.cell? (⟨ζ,0,none⟩:Addr)=some (Value.int .i64 aM)/\
 (bx.BV D Ol aM aU n14 afp n48 aa7 CR aa ae aD c1 R)))) (λdg ajg=>ajg.heap[D]?=some (Obj.deferred (some []))/\
 R (.panicked dg) (ajg.putObj D (Obj.deferred none))))/\
 (aK u5 #[(Value.int .i64 aM),(Value.int .i64 aU),(Value.int .i64 ((n14:Nat):Int))] 3 λaaW aji=>
 bx.DH D c7 je aji aaW CR aa ae aD c1 R)
def bx.qG(D:Nat)(c7:Nat)(je:Nat)(k1:World)(aa:Nat)(cO:γ)(n14:Nat)(cN:Nat)(ζ:Nat)(aU:Int)(aM:Int)(aD:Nat)(ae:γ)(c1:Nat)(R:au):Prop:=
 (κ prog 139 #[(Value.slice (some ⟨c7,0,none⟩) 4 4),(Value.int .i64 4),(Value.slice (some ⟨je,0,none⟩) 1 1)] k1 (λkA oS=>
 cX kA λlK n15 lB=>
 oS.cell? (⟨aa,0,none⟩:Addr)=some (Value.slice cO n14 cN)/\
 (oS.cell? (⟨ζ,1,none⟩:Addr)=some (Value.int .i64 aU)/\
 (oS.cell? (⟨ζ,0,none⟩:Addr)=some (Value.int .i64 aM)/\
 (bx.uA D oS aM aU n14 lK n15 lB aD aa ae c1 cO cN ζ R)))) (λdg qZ=>qZ.heap[D]?=some (Obj.deferred (some []))/\
 R (.panicked dg) (qZ.putObj D (Obj.deferred none))))/\
 (aK k1 #[(Value.int .i64 aM),(Value.int .i64 aU),(Value.int .i64 ((n14:Nat):Int))] 3 λvn zj=>
 bx.Gx D c7 je zj vn aD aa ae c1 R)/\
 (aK k1 #[(Value.int .i64 ((aD:Nat):Int))] 3 λCR u5=>
 u5.cell? (⟨aa,0,none⟩:Addr)=some (Value.slice cO n14 cN)/\
 (u5.cell? (⟨ζ,1,none⟩:Addr)=some (Value.int .i64 aU)/\
 (u5.cell? (⟨ζ,0,none⟩:Addr)=some (Value.int .i64 aM)/\
 (bx.BW D c7 je u5 aa cO n14 cN ζ aU aM CR ae aD c1 R))))
def bx.BX(D:Nat)(ze:World)(ay:Int)(c7:Nat)(vo:Nat)(EP:Nat)(aa:Nat)(ae:γ)(aD:Nat)(c1:Nat)(R:au):Prop:=
 aK ze #[(Value.int .i64 ay)] 3 λaaY ajk=>
 bx.DH D c7 aaY ajk vo EP aa ae aD c1 R
def bx.QX(D:Nat)(zd:World)(ay:Int)(c7:Nat)(vo:Nat)(aD:Nat)(aa:Nat)(ae:γ)(c1:Nat)(ax:Nat)(R:au):Prop:=
 (aK zd #[(Value.int .i64 ay)] 3 λaaX ajj=>
 bx.Gx D c7 aaX ajj vo aD aa ae c1 R)/\
 (aK zd #[(Value.int .i64 ((aD:Nat):Int))] 3 λEP ze=>
 ze.cell? (⟨ax,0,none⟩:Addr)=some (Value.int .i64 ay)/\
 (bx.BX D ze ay c7 vo EP aa ae aD c1 R))
def bx.xm(D:Nat)(u7:World)(ay:Int)(aa:Nat)(cO:γ)(n14:Nat)(cN:Nat)(ζ:Nat)(aU:Int)(aM:Int)(c7:Nat)(CS:Nat)(ae:γ)(aD:Nat)(c1:Nat)(ax:Nat)(R:au):Prop:=
 (aK u7 #[(Value.int .i64 ay)] 3 λaaZ On=>
 On.cell? (⟨aa,0,none⟩:Addr)=some (Value.slice cO n14 cN)/\
 (On.cell? (⟨ζ,1,none⟩:Addr)=some (Value.int .i64 aU)/\
 (On.cell? (⟨ζ,0,none⟩:Addr)=some (Value.int .i64 aM)/\
 (bx.BW D c7 aaZ On aa cO n14 cN ζ aU aM CS ae aD c1 R))))/\
 (aK u7 #[(Value.int .i64 aM),(Value.int .i64 aU),(Value.int .i64 ((n14:Nat):Int))] 3 λaa0 YY=>
 YY.cell? (⟨ax,0,none⟩:Addr)=some (Value.int .i64 ay)/\
 (bx.BX D YY ay c7 aa0 CS aa ae aD c1 R))
def bx.yL(D:Nat)(k0:World)(ay:Int)(aa:Nat)(cO:γ)(n14:Nat)(cN:Nat)(ζ:Nat)(aU:Int)(aM:Int)(c7:Nat)(aD:Nat)(ae:γ)(c1:Nat)(ax:Nat)(R:au):Prop:=
 (aK k0 #[(Value.int .i64 ay)] 3 λje k1=>
 k1.cell? (⟨aa,0,none⟩:Addr)=some (Value.slice cO n14 cN)/\
 (k1.cell? (⟨ζ,1,none⟩:Addr)=some (Value.int .i64 aU)/\
 (k1.cell? (⟨ζ,0,none⟩:Addr)=some (Value.int .i64 aM)/\
 (bx.qG D c7 je k1 aa cO n14 cN ζ aU aM aD ae c1 R))))/\
 (aK k0 #[(Value.int .i64 aM),(Value.int .i64 aU),(Value.int .i64 ((n14:Nat):Int))] 3 λvo zd=>
 zd.cell? (⟨ax,0,none⟩:Addr)=some (Value.int .i64 ay)/\
 (bx.QX D zd ay c7 vo aD aa ae c1 ax R))/\
 (aK k0 #[(Value.int .i64 ((aD:Nat):Int))] 3 λCS u7=>
 u7.cell? (⟨aa,0,none⟩:Addr)=some (Value.slice cO n14 cN)/\
 (u7.cell? (⟨ζ,1,none⟩:Addr)=some (Value.int .i64 aU)/\
 (u7.cell? (⟨ζ,0,none⟩:Addr)=some (Value.int .i64 aM)/\
 (u7.cell? (⟨ax,0,none⟩:Addr)=some (Value.int .i64 ay)/\
 (bx.xm D u7 ay aa cO n14 cN ζ aU aM c7 CS ae aD c1 ax R)))))
def bx.qH(D:Nat)(zh:World)(c7:Nat)(lV:Nat)(vp:Nat)(EL:Nat)(aa:Nat)(ae:γ)(aD:Nat)(c1:Nat)(R:au):Prop:=
 yK zh ⟨c7,0,none⟩ λajm=>
 bx.DH D c7 lV ajm vp EL aa ae aD c1 R
def bx.Gy(D:Nat)(zf:World)(c7:Nat)(lV:Nat)(vp:Nat)(aD:Nat)(aa:Nat)(ae:γ)(c1:Nat)(R:au):Prop:=
 (yK zf ⟨c7,0,none⟩ λajl=>
 bx.Gx D c7 lV ajl vp aD aa ae c1 R)/\
 (aK zf #[(Value.int .i64 ((aD:Nat):Int))] 3 λEL zh=>
 bx.qH D zh c7 lV vp EL aa ae aD c1 R)
def bx.BY(D:Nat)(va:World)(c7:Nat)(aa:Nat)(cO:γ)(n14:Nat)(cN:Nat)(ζ:Nat)(aU:Int)(aM:Int)(lV:Nat)(CN:Nat)(ae:γ)(aD:Nat)(c1:Nat)(R:au):Prop:=
 (yK va ⟨c7,0,none⟩ λOt=>
 Ot.cell? (⟨aa,0,none⟩:Addr)=some (Value.slice cO n14 cN)/\
 (Ot.cell? (⟨ζ,1,none⟩:Addr)=some (Value.int .i64 aU)/\
 (Ot.cell? (⟨ζ,0,none⟩:Addr)=some (Value.int .i64 aM)/\
 (bx.BW D c7 lV Ot aa cO n14 cN ζ aU aM CN ae aD c1 R))))/\
 (aK va #[(Value.int .i64 aM),(Value.int .i64 aU),(Value.int .i64 ((n14:Nat):Int))] 3 λaaE ajn=>
 bx.qH D ajn c7 lV aaE CN aa ae aD c1 R)
def bx.QY(D:Nat)(u9:World)(c7:Nat)(aa:Nat)(cO:γ)(n14:Nat)(cN:Nat)(ζ:Nat)(aU:Int)(aM:Int)(lV:Nat)(aD:Nat)(ae:γ)(c1:Nat)(R:au):Prop:=
 (yK u9 ⟨c7,0,none⟩ λOo=>
 Oo.cell? (⟨aa,0,none⟩:Addr)=some (Value.slice cO n14 cN)/\
 (Oo.cell? (⟨ζ,1,none⟩:Addr)=some (Value.int .i64 aU)/\
 (Oo.cell? (⟨ζ,0,none⟩:Addr)=some (Value.int .i64 aM)/\
 (bx.qG D c7 lV Oo aa cO n14 cN ζ aU aM aD ae c1 R))))/\
 (aK u9 #[(Value.int .i64 aM),(Value.int .i64 aU),(Value.int .i64 ((n14:Nat):Int))] 3 λvp zf=>
 bx.Gy D zf c7 lV vp aD aa ae c1 R)/\
 (aK u9 #[(Value.int .i64 ((aD:Nat):Int))] 3 λCN va=>
 va.cell? (⟨aa,0,none⟩:Addr)=some (Value.slice cO n14 cN)/\
 (va.cell? (⟨ζ,1,none⟩:Addr)=some (Value.int .i64 aU)/\
 (va.cell? (⟨ζ,0,none⟩:Addr)=some (Value.int .i64 aM)/\
 (bx.BY D va c7 aa cO n14 cN ζ aU aM lV CN ae aD c1 R))))
def bx.yM(D:Nat)(xN:World)(c7:Nat)(ax:Nat)(ay:Int)(sN:Nat)(CO:Nat)(aa:Nat)(ae:γ)(aD:Nat)(c1:Nat)(R:au):Prop:=
 (yK xN ⟨c7,0,none⟩ λY0=>
 Y0.cell? (⟨ax,0,none⟩:Addr)=some (Value.int .i64 ay)/\
 (bx.BX D Y0 ay c7 sN CO aa ae aD c1 R))/\
 (aK xN #[(Value.int .i64 ay)] 3 λaaG ajp=>
 bx.qH D ajp c7 aaG sN CO aa ae aD c1 R)
def bx.Gz(D:Nat)(xM:World)(c7:Nat)(ax:Nat)(ay:Int)(sN:Nat)(aD:Nat)(aa:Nat)(ae:γ)(c1:Nat)(R:au):Prop:=
 (yK xM ⟨c7,0,none⟩ λYZ=>
 YZ.cell? (⟨ax,0,none⟩:Addr)=some (Value.int .i64 ay)/\
 (bx.QX D YZ ay c7 sN aD aa ae c1 ax R))/\
 (aK xM #[(Value.int .i64 ay)] 3 λaaF ajo=>
 bx.Gy D ajo c7 aaF sN aD aa ae c1 R)/\
 (aK xM #[(Value.int .i64 ((aD:Nat):Int))] 3 λCO xN=>
 xN.cell? (⟨ax,0,none⟩:Addr)=some (Value.int .i64 ay)/\
 (bx.yM D xN c7 ax ay sN CO aa ae aD c1 R))
def bx.JA(D:Nat)(tH:World)(c7:Nat)(aa:Nat)(cO:γ)(n14:Nat)(cN:Nat)(ζ:Nat)(aU:Int)(aM:Int)(ax:Nat)(ay:Int)(Bd:Nat)(ae:γ)(aD:Nat)(c1:Nat)(R:au):Prop:=
 (yK tH ⟨c7,0,none⟩ λKu=>
 Ku.cell? (⟨aa,0,none⟩:Addr)=some (Value.slice cO n14 cN)/\
 (Ku.cell? (⟨ζ,1,none⟩:Addr)=some (Value.int .i64 aU)/\
 (Ku.cell? (⟨ζ,0,none⟩:Addr)=some (Value.int .i64 aM)/\
 (Ku.cell? (⟨ax,0,none⟩:Addr)=some (Value.int .i64 ay)/\
 (bx.xm D Ku ay aa cO n14 cN ζ aU aM c7 Bd ae aD c1 ax R)))))/\
 (aK tH #[(Value.int .i64 ay)] 3 λaaH Oy=>
 Oy.cell? (⟨aa,0,none⟩:Addr)=some (Value.slice cO n14 cN)/\
 (Oy.cell? (⟨ζ,1,none⟩:Addr)=some (Value.int .i64 aU)/\
 (Oy.cell? (⟨ζ,0,none⟩:Addr)=some (Value.int .i64 aM)/\
 (bx.BY D Oy c7 aa cO n14 cN ζ aU aM aaH Bd ae aD c1 R))))/\
 (aK tH #[(Value.int .i64 aM),(Value.int .i64 aU),(Value.int .i64 ((n14:Nat):Int))] 3 λaaI Y1=>
 Y1.cell? (⟨ax,0,none⟩:Addr)=some (Value.int .i64 ay)/\
 (bx.yM D Y1 c7 ax ay aaI Bd aa ae aD c1 R))
def bx.MS(D:Nat)(qY:World)(c7:Nat)(aa:Nat)(cO:γ)(n14:Nat)(cN:Nat)(ζ:Nat)(aU:Int)(aM:Int)(ax:Nat)(ay:Int)(aD:Nat)(ae:γ)(c1:Nat)(R:au):Prop:=
 (yK qY ⟨c7,0,none⟩ λk0=>
 k0.cell? (⟨aa,0,none⟩:Addr)=some (Value.slice cO n14 cN)/\
 (k0.cell? (⟨ζ,1,none⟩:Addr)=some (Value.int .i64 aU)/\
 (k0.cell? (⟨ζ,0,none⟩:Addr)=some (Value.int .i64 aM)/\
 (k0.cell? (⟨ax,0,none⟩:Addr)=some (Value.int .i64 ay)/\
 (bx.yL D k0 ay aa cO n14 cN ζ aU aM c7 aD ae c1 ax R)))))/\
 (aK qY #[(Value.int .i64 ay)] 3 λlV u9=>
 u9.cell? (⟨aa,0,none⟩:Addr)=some (Value.slice cO n14 cN)/\
 (u9.cell? (⟨ζ,1,none⟩:Addr)=some (Value.int .i64 aU)/\
 (u9.cell? (⟨ζ,0,none⟩:Addr)=some (Value.int .i64 aM)/\
 (bx.QY D u9 c7 aa cO n14 cN ζ aU aM lV aD ae c1 R))))/\
 (aK qY #[(Value.int .i64 aM),(Value.int .i64 aU),(Value.int .i64 ((n14:Nat):Int))] 3 λsN xM=>
 xM.cell? (⟨ax,0,none⟩:Addr)=some (Value.int .i64 ay)/\
 (bx.Gz D xM c7 ax ay sN aD aa ae c1 R))/\
 (aK qY #[(Value.int .i64 ((aD:Nat):Int))] 3 λBd tH=>
 tH.cell? (⟨aa,0,none⟩:Addr)=some (Value.slice cO n14 cN)/\
 (tH.cell? (⟨ζ,1,none⟩:Addr)=some (Value.int .i64 aU)/\
 (tH.cell? (⟨ζ,0,none⟩:Addr)=some (Value.int .i64 aM)/\
 (tH.cell? (⟨ax,0,none⟩:Addr)=some (Value.int .i64 ay)/\
 (bx.JA D tH c7 aa cO n14 cN ζ aU aM ax ay Bd ae aD c1 R)))))
def bx.GB(D:Nat)(AQ:World)(lU:Nat)(vm:Nat)(EN:Nat)(aa:Nat)(ae:γ)(aD:Nat)(c1:Nat)(R:au):Prop:=
 aK AQ #[(Value.int .u8 83),(Value.int .u8 76),(Value.int .u8 65),(Value.int .u8 84)] 5 λaaM ajb=>
 bx.qH D ajb aaM lU vm EN aa ae aD c1 R
def bx.GC(D:Nat)(AP:World)(lU:Nat)(vm:Nat)(aD:Nat)(aa:Nat)(ae:γ)(c1:Nat)(R:au):Prop:=
 (aK AP #[(Value.int .u8 83),(Value.int .u8 76),(Value.int .u8 65),(Value.int .u8 84)] 5 λaaL aja=>
 bx.Gy D aja aaL lU vm aD aa ae c1 R)/\
 (aK AP #[(Value.int .i64 ((aD:Nat):Int))] 3 λEN AQ=>
 bx.GB D AQ lU vm EN aa ae aD c1 R)
def bx.QZ(D:Nat)(wu:World)(aa:Nat)(cO:γ)(n14:Nat)(cN:Nat)(ζ:Nat)(aU:Int)(aM:Int)(lU:Nat)(CP:Nat)(ae:γ)(aD:Nat)(c1:Nat)(R:au):Prop:=
 (aK wu #[(Value.int .u8 83),(Value.int .u8 76),(Value.int .u8 65),(Value.int .u8 84)] 5 λaaN Oj=>
 Oj.cell? (⟨aa,0,none⟩:Addr)=some (Value.slice cO n14 cN)/\
 (Oj.cell? (⟨ζ,1,none⟩:Addr)=some (Value.int .i64 aU)/\
 (Oj.cell? (⟨ζ,0,none⟩:Addr)=some (Value.int .i64 aM)/\
 (bx.BY D Oj aaN aa cO n14 cN ζ aU aM lU CP ae aD c1 R))))/\
 (aK wu #[(Value.int .i64 aM),(Value.int .i64 aU),(Value.int .i64 ((n14:Nat):Int))] 3 λaaO ajc=>
 bx.GB D ajc lU aaO CP aa ae aD c1 R)
def bx.Xi(D:Nat)(wx:World)(aa:Nat)(cO:γ)(n14:Nat)(cN:Nat)(ζ:Nat)(aU:Int)(aM:Int)(lU:Nat)(aD:Nat)(ae:γ)(c1:Nat)(R:au):Prop:=
 (aK wx #[(Value.int .u8 83),(Value.int .u8 76),(Value.int .u8 65),(Value.int .u8 84)] 5 λaaJ OC=>
 OC.cell? (⟨aa,0,none⟩:Addr)=some (Value.slice cO n14 cN)/\
 (OC.cell? (⟨ζ,1,none⟩:Addr)=some (Value.int .i64 aU)/\
 (OC.cell? (⟨ζ,0,none⟩:Addr)=some (Value.int .i64 aM)/\
 (bx.QY D OC aaJ aa cO n14 cN ζ aU aM lU aD ae c1 R))))/\
 (aK wx #[(Value.int .i64 aM),(Value.int .i64 aU),(Value.int .i64 ((n14:Nat):Int))] 3 λvm AP=>
 bx.GC D AP lU vm aD aa ae c1 R)/\
 (aK wx #[(Value.int .i64 ((aD:Nat):Int))] 3 λCP wu=>
 wu.cell? (⟨aa,0,none⟩:Addr)=some (Value.slice cO n14 cN)/\
 (wu.cell? (⟨ζ,1,none⟩:Addr)=some (Value.int .i64 aU)/\
 (wu.cell? (⟨ζ,0,none⟩:Addr)=some (Value.int .i64 aM)/\
 (bx.QZ D wu aa cO n14 cN ζ aU aM lU CP ae aD c1 R))))
def bx.Q0(D:Nat)(zc:World)(ax:Nat)(ay:Int)(sO:Nat)(CQ:Nat)(aa:Nat)(ae:γ)(aD:Nat)(c1:Nat)(R:au):Prop:=
 (aK zc #[(Value.int .u8 83),(Value.int .u8 76),(Value.int .u8 65),(Value.int .u8 84)] 5 λaaR YW=>
 YW.cell? (⟨ax,0,none⟩:Addr)=some (Value.int .i64 ay)/\
 (bx.yM D YW aaR ax ay sO CQ aa ae aD c1 R))/\
 (aK zc #[(Value.int .i64 ay)] 3 λaaS ajh=>
 bx.GB D ajh aaS sO CQ aa ae aD c1 R)
def bx.Xj(D:Nat)(za:World)(ax:Nat)(ay:Int)(sO:Nat)(aD:Nat)(aa:Nat)(ae:γ)(c1:Nat)(R:au):Prop:=
 (aK za #[(Value.int .u8 83),(Value.int .u8 76),(Value.int .u8 65),(Value.int .u8 84)] 5 λaaP YV=>
 YV.cell? (⟨ax,0,none⟩:Addr)=some (Value.int .i64 ay)/\
 (bx.Gz D YV aaP ax ay sO aD aa ae c1 R))/\
 (aK za #[(Value.int .i64 ay)] 3 λaaQ ajf=>
 bx.GC D ajf aaQ sO aD aa ae c1 R)/\
 (aK za #[(Value.int .i64 ((aD:Nat):Int))] 3 λCQ zc=>
 zc.cell? (⟨ax,0,none⟩:Addr)=some (Value.int .i64 ay)/\
 (bx.Q0 D zc ax ay sO CQ aa ae aD c1 R))
def bx.Xk(D:Nat)(u6:World)(aa:Nat)(cO:γ)(n14:Nat)(cN:Nat)(ζ:Nat)(aU:Int)(aM:Int)(ax:Nat)(ay:Int)(Be:Nat)(ae:γ)(aD:Nat)(c1:Nat)(R:au):Prop:=
 (aK u6 #[(Value.int .u8 83),(Value.int .u8 76),(Value.int .u8 65),(Value.int .u8 84)] 5 λaaT Ks=>
 Ks.cell? (⟨aa,0,none⟩:Addr)=some (Value.slice cO n14 cN)/\
 (Ks.cell? (⟨ζ,1,none⟩:Addr)=some (Value.int .i64 aU)/\
 (Ks.cell? (⟨ζ,0,none⟩:Addr)=some (Value.int .i64 aM)/\
 (Ks.cell? (⟨ax,0,none⟩:Addr)=some (Value.int .i64 ay)/\
 (bx.JA D Ks aaT aa cO n14 cN ζ aU aM ax ay Be ae aD c1 R)))))/\
 (aK u6 #[(Value.int .i64 ay)] 3 λaaU Om=>
 Om.cell? (⟨aa,0,none⟩:Addr)=some (Value.slice cO n14 cN)/\
 (Om.cell? (⟨ζ,1,none⟩:Addr)=some (Value.int .i64 aU)/\
 (Om.cell? (⟨ζ,0,none⟩:Addr)=some (Value.int .i64 aM)/\
 (bx.QZ D Om aa cO n14 cN ζ aU aM aaU Be ae aD c1 R))))/\
 (aK u6 #[(Value.int .i64 aM),(Value.int .i64 aU),(Value.int .i64 ((n14:Nat):Int))] 3 λaaV YX=>
 YX.cell? (⟨ax,0,none⟩:Addr)=some (Value.int .i64 ay)/\
 (bx.Q0 D YX ax ay aaV Be aa ae aD c1 R))
def bx.Xl(D:Nat)(cm:World)(aa:Nat)(cO:γ)(n14:Nat)(cN:Nat)(ζ:Nat)(aU:Int)(aM:Int)(ax:Nat)(ay:Int)(aD:Nat)(ae:γ)(c1:Nat)(R:au):Prop:=
 (aK cm.drew #[(Value.int .u8 83),(Value.int .u8 76),(Value.int .u8 65),(Value.int .u8 84)] 5 λc7 qY=>
 qY.cell? (⟨aa,0,none⟩:Addr)=some (Value.slice cO n14 cN)/\
 (qY.cell? (⟨ζ,1,none⟩:Addr)=some (Value.int .i64 aU)/\
 (qY.cell? (⟨ζ,0,none⟩:Addr)=some (Value.int .i64 aM)/\
 (qY.cell? (⟨ax,0,none⟩:Addr)=some (Value.int .i64 ay)/\
 (bx.MS D qY c7 aa cO n14 cN ζ aU aM ax ay aD ae c1 R)))))/\
 (aK cm.drew #[(Value.int .i64 ay)] 3 λlU wx=>
 wx.cell? (⟨aa,0,none⟩:Addr)=some (Value.slice cO n14 cN)/\
 (wx.cell? (⟨ζ,1,none⟩:Addr)=some (Value.int .i64 aU)/\
 (wx.cell? (⟨ζ,0,none⟩:Addr)=some (Value.int .i64 aM)/\
 (bx.Xi D wx aa cO n14 cN ζ aU aM lU aD ae c1 R))))/\
 (aK cm.drew #[(Value.int .i64 aM),(Value.int .i64 aU),(Value.int .i64 ((n14:Nat):Int))] 3 λsO za=>
 za.cell? (⟨ax,0,none⟩:Addr)=some (Value.int .i64 ay)/\
 (bx.Xj D za ax ay sO aD aa ae c1 R))/\
 (aK cm.drew #[(Value.int .i64 ((aD:Nat):Int))] 3 λBe u6=>
 u6.cell? (⟨aa,0,none⟩:Addr)=some (Value.slice cO n14 cN)/\
 (u6.cell? (⟨ζ,1,none⟩:Addr)=some (Value.int .i64 aU)/\
 (u6.cell? (⟨ζ,0,none⟩:Addr)=some (Value.int .i64 aM)/\
 (u6.cell? (⟨ax,0,none⟩:Addr)=some (Value.int .i64 ay)/\
 (bx.Xk D u6 aa cO n14 cN ζ aU aM ax ay Be ae aD c1 R)))))
def bx.main(a0:aj)(e8 e9 a2:Int)(w:World)(R:au):Prop:=
 aK w a0 89 λδ ε=>
 aK ε #[e8,e9] 28 λζ υ=>
 aK υ #[a2] 3 λax χ=>
 ∃θ,χ.cell? ⟨ax,0,none⟩=some (.int .i64 θ)/\
 (cond (decide (θ<1)) (
  R (.returned (.tuple #[.slice none 0 0,(1:Int)])) χ) (
  ∃ρ,χ.cell? ⟨ax,0,none⟩=some (.int .i64 ρ)/\
  (cond (decide (ρ>1073741824)) (
   R (.returned (.tuple #[.slice none 0 0,(1:Int)])) χ) (
   ∃(aE:aj),aE.size=24/\aB χ ⟨δ,0,none⟩ aE.toList/\
   (∃(bz:aj),bz.size=2/\aB χ ⟨ζ,0,none⟩ bz.toList/\
    (κ prog 67 #[.agg aE,.agg bz] χ (λv1 ao=>
     br .i64 v1 λad=>
     cond (ad !=0) (
      R (.returned (.tuple #[.slice none 0 0,ad])) ao) (
      ∃(bO:aj),bO.size=24/\aB ao ⟨δ,0,none⟩ bO.toList/\
      (∃(bC:aj),bC.size=2/\aB ao ⟨ζ,0,none⟩ bC.toList/\
       (κ prog 136 #[.agg bO,.agg bC] ao (λv2 aZ=>
        cX v2 λae aD c1=>
        aK aZ #[.slice none 0 0] 178 λaa bV=>
        κ prog 137 #[.slice ae aD c1,(52:Int)] bV (λv3 bW=>
         K9 v3 λgf kd lb=>
         ν (Nat.beq kd.size 0&&bF.fns.contains gf&&true&&true&&true&&true) (
         ∃(α:Type)(enc:α->Value)(fU:World->al)(S Sp:List α->Prop)(N:Nat)(bE q2:List α->al),Tn prog gf lb enc fU S Sp N bE q2 bW/\
         ((∀(pre:List α)(x:α)(cd:World),bE pre cd->pre.length<N->
         cX (enc x) λaX bu c2=>
         ∃bj dU bP,cd.drew.cell? ⟨aa,0,none⟩=some (.slice bj dU bP)/\
         (∃aC,cd.drew.cell? ⟨ax,0,none⟩=some (.int .i64 aC)/\
         (∃eo jK h0,cd.drew.cell? ⟨aa,0,none⟩=some (.slice eo jK h0)/\
         (bx.tk α fU bE pre x cd aC aa eo jK h0 bj dU bP bu aX ax))))/\
         ((∀(D:Nat)(xs:List α)(cm:World),bW.heap.size<=D->S xs->bE xs cm->cm.heap[D]?=some (Obj.deferred (some []))->
         ∃ay,cm.drew.cell? ⟨ax,0,none⟩=some (.int .i64 ay)/\
         (∃aM,cm.drew.cell? ⟨ζ,0,none⟩=some (.int .i64 aM)/\
         (∃aU,cm.drew.cell? ⟨ζ,1,none⟩=some (.int .i64 aU)/\
         (∃cO n14 cN,cm.drew.cell? ⟨aa,0,none⟩=some (.slice cO n14 cN)/\
         (bx.Xl D cm aa cO n14 cN ζ aU aM ax ay aD ae c1 R)))))/\
         (∀(D:Nat)(pre:List α)(cE:World),bW.heap.size<=D->Sp pre->q2 pre cE->cE.heap[D]?=some (Obj.deferred (some []))->
         cE.heap[D]?=some (Obj.deferred (some []))/\
         R (.returned (.tuple #[.slice none 0 0,(0:Int)])) (cE.putObj D (Obj.deferred none))))))) (ai R)) (ai R))))) (ai R)))))))
abbrev bx.C(a0:aj)(e8 e9 a2:Int):=Calls prog 99 #[.agg a0,.agg #[e8,e9],a2]
theorem bx.ok:lu bx.main bx.C:=λ{_ _ _ _ _ R}h=>ae7 func99 [.tmp 6,.tmp 7] 73 (.seq .leaf (.seq .leaf (.seq .leaf (.seq .leaf (.seq .leaf (.y4 .leaf)))))) h
def Hs.main(a0:Int)(w:World)(R:au):Prop:=
 R (.returned (.int .i64 (IntKind.i64.wrap (0+(IntKind.i64.wrap ((Int.tmod a0 2)*12)))))) w
abbrev Hs.C(a0:Int):=Calls prog 100 #[a0]
theorem Hs.ok:iS Hs.main Hs.C:=λh=>dA func100 [.tmp 2] 7 h
def rQ.aV(cy:γ)(cp cG:Nat)(t1 t6 t7:Int)(w:World)(R:au):Prop:=
 cond (decide (t7<t6)) (
  ν (decide (0<=t7)) (
   ν (decide (t7<((cp:Nat):Int))) (
    ξ cy λd2=>
    ∃ρ,w.cell? (d2.add (t7.toNat*1))=some (.int .i64 ρ)/\
    (cond (ρ==t1) (
     R (.returned (.tuple #[t7,.bool true])) w) (
     ν (decide (0<=t7)) (
      ν (decide (t7<((cp:Nat):Int))) (
       ξ cy λd3=>
       ∃ad,w.cell? (d3.add (t7.toNat*1))=some (.int .i64 ad)/\
       (κ prog 142 #[ad] w (λv2 χ=>
        dF v2 λζ=>
        cond ζ (
         κ prog 142 #[t1] χ (λv3 an=>
          dF v3 λax=>
          R (.returned (.tuple #[t7,.bool ax])) an) (ai R)) (
         R (.returned (.tuple #[t7,.bool false])) χ)) (ai R))))))))) (
  R (.returned (.tuple #[t7,.bool false])) w)
def rQ.δ(cy:γ)(cp cG:Nat)(t1 t6 t7 t8:Int)(w:World)(R:au)(a1:γ->Nat->Nat->Int->Int->Int->Int->al):Prop:=
 cond (decide (t7<t8)) (
  ν (decide (0<=(IntKind.i64.wrap (Int.fdiv (IntKind.u64.wrap (IntKind.i64.wrap (t7+t8))) (2^(min 1 IntKind.u64.bits)))))) (
   ν (decide ((IntKind.i64.wrap (Int.fdiv (IntKind.u64.wrap (IntKind.i64.wrap (t7+t8))) (2^(min 1 IntKind.u64.bits))))<((cp:Nat):Int))) (
    ξ cy λd1=>
    ∃θ,w.cell? (d1.add ((IntKind.i64.wrap (Int.fdiv (IntKind.u64.wrap (IntKind.i64.wrap (t7+t8))) (2^(min 1 IntKind.u64.bits)))).toNat*1))=some (.int .i64 θ)/\
    (κ prog 141 #[θ,t1] w (λv1 ε=>
     dF v1 λδ=>
     cond δ (
      a1 cy cp cG t1 t6 (IntKind.i64.wrap ((IntKind.i64.wrap (Int.fdiv (IntKind.u64.wrap (IntKind.i64.wrap (t7+t8))) (2^(min 1 IntKind.u64.bits))))+1)) t8 ε) (
      a1 cy cp cG t1 t6 t7 (IntKind.i64.wrap (Int.fdiv (IntKind.u64.wrap (IntKind.i64.wrap (t7+t8))) (2^(min 1 IntKind.u64.bits)))) ε)) (ai R))))) (
  rQ.aV cy cp cG t1 t6 t7 w R)
def rQ.bb:=DC rQ.δ
def rQ.main(bG:γ)(bf bD:Nat)(aw:Int)(w:World)(R:au):Prop:=
 rQ.bb bG bf bD aw ((bf:Nat):Int) 0 ((bf:Nat):Int) w R
abbrev rQ.C(bG:γ)(bf bD:Nat)(aw:Int):=Calls prog 101 #[.slice bG bf bD,aw]
theorem rQ.ok:lu rQ.main rQ.C:=λ{_ _ _ _ _ R}h=>fo func101 [.tmp 4,.tmp 5] 54 (.seq .leaf (.seq .leaf (.seq .leaf (.cut [(0,.slice),(1,.int .i64),(6,.int .i64),(7,.int .i64)] (rQ.aV · · · · · · · R) (.block (.loop [(0,.slice),(1,.int .i64),(6,.int .i64),(7,.int .i64),(8,.int .i64)] (rQ.bb · · · · · · · · R) λa1=>.leaf)) .leaf)))) h
def Hy.main(bG:γ)(bf bD:Nat)(aw:Int)(hI:γ)(ev ij:Nat)(w:World)(R:au):Prop:=
 ν (decide (0<=aw)) (
  ν (decide (aw<=((bf:Nat):Int))) (
   cond (((ev:Nat):Int)==0) (
    R (.returned (.slice bG bf bD)) w) (
    cond (aw==((bf:Nat):Int)) (
     ho w bG bf bD ev (bd w hI) 3 1 8 #[(0:Int)] λae c1 ε=>
     R (.returned (.slice ae (bf+ev) c1)) ε) (
     cond (decide ((IntKind.i64.wrap (((bf:Nat):Int)+((ev:Nat):Int)))>((bD:Nat):Int))) (
      ν (decide (0<=aw)) (
       ν (decide (aw<=((bD:Nat):Int))) (
        ν (decide (0<=(IntKind.i64.wrap ((IntKind.i64.wrap (((bf:Nat):Int)+((ev:Nat):Int)))-aw)))) (
         Pa w (dL bG bD 0 1) aw.toNat bD ((IntKind.i64.wrap ((IntKind.i64.wrap (((bf:Nat):Int)+((ev:Nat):Int)))-aw)).toNat) 3 1 8 #[(0:Int)] λaX c2 υ=>
         ν (decide (0<=aw)) (
          ν (decide (aw<=(((aw.toNat+(IntKind.i64.wrap ((IntKind.i64.wrap (((bf:Nat):Int)+((ev:Nat):Int)))-aw)).toNat):Nat):Int))) (
           wS υ (dL aX c2 aw.toNat 1) ((aw.toNat+(IntKind.i64.wrap ((IntKind.i64.wrap (((bf:Nat):Int)+((ev:Nat):Int)))-aw)).toNat)-aw.toNat) hI ev 1 λχ=>
           ν (decide (0<=(IntKind.i64.wrap (aw+((ev:Nat):Int))))) (
            ν (decide ((IntKind.i64.wrap (aw+((ev:Nat):Int)))<=(((aw.toNat+(IntKind.i64.wrap ((IntKind.i64.wrap (((bf:Nat):Int)+((ev:Nat):Int)))-aw)).toNat):Nat):Int))) (
             ν (decide (0<=aw)) (
             ν (decide (aw<=((bf:Nat):Int))) (
             wS χ.drew (dL aX c2 ((IntKind.i64.wrap (aw+((ev:Nat):Int))).toNat) 1) ((aw.toNat+(IntKind.i64.wrap ((IntKind.i64.wrap (((bf:Nat):Int)+((ev:Nat):Int)))-aw)).toNat)-(IntKind.i64.wrap (aw+((ev:Nat):Int))).toNat) (dL bG bD aw.toNat 1) (bf-aw.toNat) 1 λao=>
             R (.returned (.slice aX (aw.toNat+(IntKind.i64.wrap ((IntKind.i64.wrap (((bf:Nat):Int)+((ev:Nat):Int)))-aw)).toNat) c2)) ao)))))))))) (
      ν (decide (0<=(IntKind.i64.wrap (((bf:Nat):Int)+((ev:Nat):Int))))) (
       ν (decide ((IntKind.i64.wrap (((bf:Nat):Int)+((ev:Nat):Int)))<=((bD:Nat):Int))) (
        ν (decide (0<=(IntKind.i64.wrap (aw+((ev:Nat):Int))))) (
         ν (decide ((IntKind.i64.wrap (aw+((ev:Nat):Int)))<=(((IntKind.i64.wrap (((bf:Nat):Int)+((ev:Nat):Int))).toNat:Nat):Int))) (
          UK prog 143 #[.slice hI ev ij,.slice (dL (dL bG bD 0 1) bD ((IntKind.i64.wrap (aw+((ev:Nat):Int))).toNat) 1) ((IntKind.i64.wrap (((bf:Nat):Int)+((ev:Nat):Int))).toNat-(IntKind.i64.wrap (aw+((ev:Nat):Int))).toNat) (bD-(IntKind.i64.wrap (aw+((ev:Nat):Int))).toNat)] w λv1 an=>
          dF v1 λδ=>
          cond (!δ) (
           ν (decide (0<=(IntKind.i64.wrap (aw+((ev:Nat):Int))))) (
            ν (decide ((IntKind.i64.wrap (aw+((ev:Nat):Int)))<=(((IntKind.i64.wrap (((bf:Nat):Int)+((ev:Nat):Int))).toNat:Nat):Int))) (
             ν (decide (0<=aw)) (
             ν (decide (aw<=(((IntKind.i64.wrap (((bf:Nat):Int)+((ev:Nat):Int))).toNat:Nat):Int))) (
             wS an.drew (dL (dL bG bD 0 1) bD ((IntKind.i64.wrap (aw+((ev:Nat):Int))).toNat) 1) ((IntKind.i64.wrap (((bf:Nat):Int)+((ev:Nat):Int))).toNat-(IntKind.i64.wrap (aw+((ev:Nat):Int))).toNat) (dL (dL bG bD 0 1) bD aw.toNat 1) ((IntKind.i64.wrap (((bf:Nat):Int)+((ev:Nat):Int))).toNat-aw.toNat) 1 λaZ=>
             ν (decide (0<=aw)) (
             ν (decide (aw<=(((IntKind.i64.wrap (((bf:Nat):Int)+((ev:Nat):Int))).toNat:Nat):Int))) (
             wS aZ (dL (dL bG bD 0 1) bD aw.toNat 1) ((IntKind.i64.wrap (((bf:Nat):Int)+((ev:Nat):Int))).toNat-aw.toNat) hI ev 1 λa8=>
             R (.returned (.slice (dL bG bD 0 1) ((IntKind.i64.wrap (((bf:Nat):Int)+((ev:Nat):Int))).toNat) bD)) a8))))))) (
           ν (decide (0<=((bf:Nat):Int))) (
            ν (decide (((bf:Nat):Int)<=(((IntKind.i64.wrap (((bf:Nat):Int)+((ev:Nat):Int))).toNat:Nat):Int))) (
             wS an (dL (dL bG bD 0 1) bD bf 1) ((IntKind.i64.wrap (((bf:Nat):Int)+((ev:Nat):Int))).toNat-bf) hI ev 1 λbV=>
             ν (decide (0<=aw)) (
             ν (decide (aw<=(((IntKind.i64.wrap (((bf:Nat):Int)+((ev:Nat):Int))).toNat:Nat):Int))) (
             κ prog 144 #[.slice (dL (dL bG bD 0 1) bD aw.toNat 1) ((IntKind.i64.wrap (((bf:Nat):Int)+((ev:Nat):Int))).toNat-aw.toNat) (bD-aw.toNat),((ev:Nat):Int)] bV (λv2 bW=>
             b7 v2 λbN=>
             R (.returned (.slice (dL bG bD 0 1) ((IntKind.i64.wrap (((bf:Nat):Int)+((ev:Nat):Int))).toNat) bD)) bW) (ai R)))))))))))))))
abbrev Hy.C(bG:γ)(bf bD:Nat)(aw:Int)(hI:γ)(ev ij:Nat):=Calls prog 102 #[.slice bG bf bD,aw,.slice hI ev ij]
theorem Hy.ok:Iu Hy.main Hy.C:=λh=>dA func102 [.tmp 6] 95 h
def zx.main(bG:γ)(bf bD:Nat)(aw:Value)(w:World)(R:au):Prop:=
 κ prog 145 #[.slice bG bf bD,aw] w (λv1 ε=>
  br .i64 v1 λθ=>
  R (.returned (.bool (decide (θ>=0)))) ε) (ai R)
abbrev zx.C(bG:γ)(bf bD:Nat)(aw:Value):=Calls prog 103 #[.slice bG bf bD,aw]
theorem zx.ok:lu zx.main zx.C:=λh=>dA func103 [.tmp 4] 9 h
def ET.main(fM:Int)(EC:γ)(EB EA:Nat)(w:World)(R:au):Prop:=
 aK w #[fM,.slice EC EB EA] 130 λδ ε=>
 ∃ae aD c1,ε.cell? ⟨δ,1,none⟩=some (.slice ae aD c1)/\
 (R (.returned (.bool (((aD:Nat):Int)!=64))) ε)
abbrev ET.C(fM:Int)(EC:γ)(EB EA:Nat):=Calls prog 104 #[.agg #[fM,.slice EC EB EA]]
theorem ET.ok:lu ET.main ET.C:=λh=>dA func104 [.tmp 2] 7 h
def EU.main(fM:Int)(EC:γ)(EB EA eu:Nat)(w:World)(R:au):Prop:=
 aK w #[fM,.slice EC EB EA] 130 λδ ε=>
 ∃θ,ε.cell? ⟨δ,0,none⟩=some (.int .i64 θ)/\
 (cond (decide (θ<0)) (
  ∀aV:Nat,
  R (.returned (.bool true)) (ε.drewN aV)) (
  ∃ρ,ε.cell? ⟨δ,0,none⟩=some (.int .i64 ρ)/\
  (∃ae,ε.cell? ⟨eu,0,none⟩=some (.pointer ae)/\
   (ξ ae λd1=>
    ∃aX aD c1,ε.cell? (d1.add 1)=some (.slice aX aD c1)/\
    (∀aV:Nat,
     R (.returned (.bool (decide (ρ>=((aD:Nat):Int))))) (ε.drewN aV))))))
abbrev EU.C(fM:Int)(EC:γ)(EB EA eu:Nat):=Calls prog 105 #[.agg #[fM,.slice EC EB EA],.pointer (some ⟨eu,0,none⟩)]
theorem EU.ok:vg EU.main EU.C:=λh=>dA func105 [.tmp 3] 17 h
end Go.Proofs.YtcpdfhkhaekekaaGreat.G

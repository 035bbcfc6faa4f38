/- The walk of the functions, and the plain laws of the model: part of the proof. Conditions: none. -/
import Derived.Test.YtcpdfhkhaekekaaGreatA3
set_option linter.unusedVariables false
set_option linter.unusedSimpArgs false
namespace Go.Proofs.YtcpdfhkhaekekaaGreat.G
open Tryz
open Go.bJ
set_option maxRecDepth 100000
def zH.main(a0:γ)(w:World)(R:au):Prop:=
 aK w #[(0:Int),(0:Int),(0:Int),(0:Int),.slice none 0 0] 40 λδ ε=>
 cond (Option.isNone a0) (
  a6 ε ⟨δ,0,none⟩ [(.int .i64 0),(.int .i64 0),(.int .i64 0),(.int .i64 0),(.slice none 0 0)]/\∀υ,υ=ε.setCells (⟨δ,0,none⟩:Addr).block (⟨δ,0,none⟩:Addr).off [(.int .i64 0),(.int .i64 0),(.int .i64 0),(.int .i64 0),(.slice none 0 0)]->
  (∃(aE:aj),aE.size=5/\aB υ ⟨δ,0,none⟩ aE.toList/\
   (R (.returned (.tuple #[(0:Int),.agg aE,(1:Int)])) υ))) (
  ξ a0 λd1=>
  ∃ae aD c1,ε.cell? d1=some (.slice ae aD c1)/\
  (cond (((aD:Nat):Int)==0) (
    a6 ε ⟨δ,0,none⟩ [(.int .i64 0),(.int .i64 0),(.int .i64 0),(.int .i64 0),(.slice none 0 0)]/\∀χ,χ=ε.setCells (⟨δ,0,none⟩:Addr).block (⟨δ,0,none⟩:Addr).off [(.int .i64 0),(.int .i64 0),(.int .i64 0),(.int .i64 0),(.slice none 0 0)]->
    (∃(bz:aj),bz.size=5/\aB χ ⟨δ,0,none⟩ bz.toList/\
     (R (.returned (.tuple #[(0:Int),.agg bz,(4:Int)])) χ))) (
    ξ a0 λd2=>
    ∃aX bu c2,ε.cell? d2=some (.slice aX bu c2)/\
    (ν (decide (0<((bu:Nat):Int))) (
      ξ aX λd3=>
      ∃(v1:Value),ε.cell? d3=some v1/\
      ((match v1 with| .iface nQ v2=>ν (decide (nQ=126)) (
         cv v2 λbO=>
         aK ε #[(0:Int),(0:Int),(0:Int),(0:Int),.slice none 0 0,(0:Int)] 126 λζ ao=>
         ν (decide (bO.size=6)) (
           a6 ao ⟨ζ,0,none⟩ bO.toList/\∀an,an=ao.setCells (⟨ζ,0,none⟩:Addr).block (⟨ζ,0,none⟩:Addr).off bO.toList->
           (∃θ,an.drew.cell? ⟨ζ,5,none⟩=some (.int .i64 θ)/\
             (∃(bC:aj),bC.size=5/\aB an.drew ⟨ζ,0,none⟩ bC.toList/\
               (κ prog 61 #[.agg bC] an.drew (λv3 aZ=>
                 cv v3 λb0=>
                 aZ.cell? ⟨ζ,5,none⟩=some (.int .i64 θ)/\
                 (ν (decide (b0.size=5)) (
                 a6 aZ ⟨δ,0,none⟩ b0.toList/\∀bV,bV=aZ.setCells (⟨δ,0,none⟩:Addr).block (⟨δ,0,none⟩:Addr).off b0.toList->
                 (∃(dr:aj),dr.size=5/\aB bV ⟨δ,0,none⟩ dr.toList/\
                 (R (.returned (.tuple #[θ,.agg dr,(0:Int)])) bV))))) (ai R))))))|_=>False)))))))
abbrev zH.C(a0:γ):=Calls prog 44 #[.pointer a0]
theorem zH.ok:iS zH.main zH.C:=λh=>dA func44 [.tmp 2,.cell 3 40,.tmp 4] 37 h
def GX.main(eu dK fp:Nat)(w:World)(R:au):Prop:=
 ∃ae,w.cell? ⟨eu,0,none⟩=some (.pointer ae)/\
 (∃(aE:aj),aE.size=5/\aB w ⟨dK,0,none⟩ aE.toList/\
  (κ prog 46 #[.pointer ae,.agg aE,.pointer (some ⟨fp,0,none⟩)] w (λv1 ε=>
   b7 v1 λbN=>
   R (.returned (.tuple #[])) ε) (ai R)))
abbrev GX.C(eu dK fp:Nat):=Calls prog 45 #[.pointer (some ⟨eu,0,none⟩),.pointer (some ⟨dK,0,none⟩),.pointer (some ⟨fp,0,none⟩)]
theorem GX.ok:ji GX.main GX.C:=λh=>dA func45 [] 6 h
def vY.aV(t2:γ)(t11:Nat)(t12:Int)(w:World)(R:au):Prop:=
 κ prog 52 #[t12] w (λv33 k1=>
  b7 v33 λaAu=>
  ∃nu,k1.cell? ⟨t11,0,none⟩=some (.int .i64 nu)/\
  (∃oV,k1.cell? ⟨t11,1,none⟩=some (.int .i64 oV)/\
   (aK k1 #[nu,oV] 3 λcu qZ=>
    ξ t2 λd13=>
    (qZ.cell? (d13.add 4)).isSome=true/\qZ.frozen? (d13.add 4)=false/\∀lO,lO=qZ.setCell (d13.add 4) (.slice (some ⟨cu,0,none⟩) 2 2)->
    (R (.returned (.tuple #[])) lO)))) (ai R)
def vY.main(a0:γ)(e8 e9 ks kt:Int)(lA:γ)(lz ly:Nat)(a2:γ)(w:World)(R:au):Prop:=
 aK w #[e8,e9,ks,kt,.slice lA lz ly] 40 λδ ε=>
 ∃θ,ε.cell? ⟨δ,0,none⟩=some (.int .i64 θ)/\
 (cond (θ==1) (
  ξ a0 λd1=>
  ∃ae,ε.drew.cell? (d1.add 4)=some (.pointer ae)/\
  (∃ρ,ε.drew.cell? ⟨δ,3,none⟩=some (.int .i64 ρ)/\
   (κ prog 74 #[.pointer ae,ρ] ε.drew (λv1 υ=>
     b7 v1 λbN=>
     ξ (bN[0]?) λv2=>
     br .i64 v2 λad=>
     ξ (bN[1]?) λv3=>
     br .i64 v3 λaC=>
     ξ a2 λd2=>
     (υ.cell? (d2.add 2)).isSome=true/\υ.frozen? (d2.add 2)=false/\∀ao,ao=υ.setCell (d2.add 2) (.int .i64 ad)->
     (κ prog 52 #[aC] ao (λv4 an=>
       b7 v4 λeY=>
       ξ a2 λd3=>
       ∃ay,an.drew.cell? (d3.add 2)=some (.int .i64 ay)/\
       (∃aM,an.drew.cell? ⟨δ,3,none⟩=some (.int .i64 aM)/\
        (κ prog 75 #[.pointer a0,.agg #[(1:Int),ay,(0:Int),aM,.complex .f64 0 0]] an.drew (λv5 a8=>
          b7 v5 λh5=>
          R (.returned (.tuple #[])) a8) (ai R)))) (ai R))) (ai R)))) (
  cond (θ==2) (
   ξ a0 λd4=>
   ∃aX,ε.drew.cell? (d4.add 4)=some (.pointer aX)/\
   (∃aU,ε.drew.cell? ⟨δ,1,none⟩=some (.int .i64 aU)/\
    (κ prog 76 #[.pointer aX,aU] ε.drew (λv6 bW=>
      br .i64 v6 λcj=>
      κ prog 52 #[cj] bW (λfm cd=>
       b7 fm λnT=>
       ∃ct,cd.cell? ⟨δ,1,none⟩=some (.int .i64 ct)/\
       (κ prog 75 #[.pointer a0,.agg #[(2:Int),ct,(0:Int),(0:Int),.complex .f64 0 0]] cd (λa7 cE=>
         b7 a7 λtE=>
         R (.returned (.tuple #[])) cE) (ai R))) (ai R)) (ai R)))) (
   cond (θ==3) (
    ξ a0 λd5=>
    ∃bj,ε.drew.cell? (d5.add 4)=some (.pointer bj)/\
    (∃ez,ε.drew.cell? ⟨δ,1,none⟩=some (.int .i64 ez)/\
     (κ prog 77 #[.pointer bj,ez] ε.drew (λv9 dp=>
       b7 v9 λCw=>
       ξ (Cw[0]?) λv10=>
       br .i64 v10 λeW=>
       ξ (Cw[1]?) λv11=>
       br .i64 v11 λdf=>
       ξ a2 λd6=>
       (dp.cell? (d6.add 2)).isSome=true/\dp.frozen? (d6.add 2)=false/\∀dP,dP=dp.setCell (d6.add 2) (.int .i64 eW)->
       (κ prog 52 #[df] dP (λv12 eO=>
         b7 v12 λSH=>
         ∃gb,eO.drew.cell? ⟨δ,1,none⟩=some (.int .i64 gb)/\
         (ξ a2 λd7=>
          ∃jo,eO.drew.cell? (d7.add 2)=some (.int .i64 jo)/\
          (κ prog 75 #[.pointer a0,.agg #[(3:Int),gb,jo,(0:Int),.complex .f64 0 0]] eO.drew (λkA ey=>
            b7 kA λSI=>
            R (.returned (.tuple #[])) ey) (ai R)))) (ai R))) (ai R)))) (
    cond (θ==4) (
     ∃(aE:aj),aE.size=5/\aB ε ⟨δ,0,none⟩ aE.toList/\
     (κ prog 78 #[.pointer a0,.agg aE] ε (λmM eg=>
       cX mM λeo aD c1=>
       ξ a2 λd8=>
       (eg.cell? (d8.add 3)).isSome=true/\eg.frozen? (d8.add 3)=false/\∀eP,eP=eg.setCell (d8.add 3) (.slice eo aD c1)->
       (R (.returned (.tuple #[])) eP)) (ai R))) (
     cond (θ==5) (
      ∃(bz:aj),bz.size=5/\aB ε ⟨δ,0,none⟩ bz.toList/\
      (κ prog 79 #[.pointer a0,.agg bz] ε (λnR kX=>
        b7 nR λai8=>
        R (.returned (.tuple #[])) kX) (ai R))) (
      cond (θ==6) (
       ξ a0 λd9=>
       ∃gp,ε.drew.cell? (d9.add 4)=some (.pointer gp)/\
       (∃mo,ε.drew.cell? ⟨δ,1,none⟩=some (.int .i64 mo)/\
        (∃jb,ε.drew.cell? ⟨δ,2,none⟩=some (.int .i64 jb)/\
         (κ prog 80 #[.pointer gp,mo,jb,.complex .f64 0 0,.bool false] ε.drew (λnS eJ=>
           br .i64 nS λoT=>
           κ prog 52 #[oT] eJ (λv17 ja=>
            b7 v17 λSF=>
            ∃tL,ja.cell? ⟨δ,1,none⟩=some (.int .i64 tL)/\
            (∃q0,ja.cell? ⟨δ,2,none⟩=some (.int .i64 q0)/\
            (κ prog 75 #[.pointer a0,.agg #[(5:Int),tL,(0:Int),q0,.complex .f64 0 0]] ja (λoR nq=>
            b7 oR λai4=>
            R (.returned (.tuple #[])) nq) (ai R)))) (ai R)) (ai R))))) (
       cond (θ==7) (
        κ prog 81 #[.pointer a0] ε (λqw nr=>
         b7 qw λSG=>
         R (.returned (.tuple #[])) nr) (ai R)) (
        cond (θ==8) (
         κ prog 48 #[.pointer a0] ε (λv20 jS=>
          cv v20 λbO=>
          κ prog 82 #[.agg bO] jS (λv21 jT=>
           b7 v21 λYU=>
           ξ (YU[0]?) λv22=>
           br .i64 v22 λpH=>
           ξ (YU[1]?) λv23=>
           br .i64 v23 λtM=>
           ξ a0 λd10=>
           ∃(bC:aj),bC.size=2/\aB jT (d10.add 2) bC.toList/\
           (κ prog 83 #[.agg bC] jT (λv24 mn=>
            b7 v24 λai5=>
            ξ (ai5[0]?) λv25=>
            br .i64 v25 λoU=>
            ξ (ai5[1]?) λv26=>
            br .i64 v26 λwy=>
            aK mn #[pH,oU] 3 λζ ns=>
            ξ a2 λd11=>
            (ns.cell? (d11.add 4)).isSome=true/\ns.frozen? (d11.add 4)=false/\∀Kt,Kt=ns.setCell (d11.add 4) (.slice (some ⟨ζ,0,none⟩) 2 2)->
            (R (.returned (.tuple #[])) Kt)) (ai R))) (ai R)) (ai R)) (
         cond (θ==9) (
          ξ a0 λd12=>
          ∃kh,ε.drew.cell? (d12.add 4)=some (.pointer kh)/\
          (∃lP,ε.drew.cell? ⟨δ,1,none⟩=some (.int .i64 lP)/\
           ((κ prog 84 #[.pointer kh,lP] ε.drew (λOf qX=>
            b7 Of λai6=>
            ξ (ai6[0]?) λv28=>
            cv v28 λb0=>
            ξ (ai6[1]?) λIg=>
            br .i64 Ig λAX=>
            aK qX #[(0:Int),(0:Int)] 84 λax pE=>
            ν (decide (b0.size=2)) (
            a6 pE ⟨ax,0,none⟩ b0.toList/\∀xL,xL=pE.setCells (⟨ax,0,none⟩:Addr).block (⟨ax,0,none⟩:Addr).off b0.toList->
            (vY.aV a2 ax AX xL R))) (ai R))/\
            (aK ε.drew #[(0:Int),(0:Int)] 84 λaa Oq=>
            Oq.cell? ⟨δ,1,none⟩=some (.int .i64 lP)/\
            (Oq.cell? (d12.add 4)=some (.pointer kh)/\
            (κ prog 84 #[.pointer kh,lP] Oq (λv30 Ed=>
            b7 v30 λai7=>
            ξ (ai7[0]?) λv31=>
            cv v31 λdr=>
            ξ (ai7[1]?) λv32=>
            br .i64 v32 λpI=>
            ν (decide (dr.size=2)) (
            a6 Ed ⟨aa,0,none⟩ dr.toList/\∀k0,k0=Ed.setCells (⟨aa,0,none⟩:Addr).block (⟨aa,0,none⟩:Addr).off dr.toList->
            (vY.aV a2 aa pI k0 R))) (ai R))))))) (
          R (.returned (.tuple #[])) ε))))))))))
abbrev vY.C(a0:γ)(e8 e9 ks kt:Int)(lA:γ)(lz ly:Nat)(a2:γ):=Calls prog 46 #[.pointer a0,.agg #[e8,e9,ks,kt,.slice lA lz ly],.pointer a2]
theorem vY.ok:akN vY.main vY.C:=λ{_ _ _ _ _ _ _ _ _ _ R}h=>fo func46 [] 162 (.seq .leaf (.seq .leaf (.seq .leaf (.block (.seq .leaf (.cond .leaf (.seq .leaf (.cond .leaf (.seq .leaf (.cond .leaf (.seq .leaf (.cond .leaf (.seq .leaf (.cond .leaf (.seq .leaf (.cond .leaf (.seq .leaf (.cond .leaf (.seq .leaf (.cond .leaf (.seq .leaf (.cond (.cut [(2,.ptr),(11,.cA),(12,.int .i64)] (vY.aV · · · · R) .leaf .leaf) .leaf)))))))))))))))))))))) h
def GR.main(a0:γ)(w:World)(R:au):Prop:=
 aK w #[(0:Int),(0:Int),(0:Int),(0:Int),(0:Int),(0:Int),(0:Int),(0:Int),(0:Int),(0:Int),(0:Int),(0:Int),(0:Int),(0:Int),(0:Int),(0:Int),.slice none 0 0,.slice none 0 0,.slice none 0 0,.slice none 0 0,.slice none 0 0,.slice none 0 0,.slice none 0 0,.slice none 0 0] 89 λδ ε=>
 cond (Option.isNone a0) (
  a6 ε ⟨δ,0,none⟩ [(.int .i64 0),(.int .i64 0),(.int .i64 0),(.int .i64 0),(.int .i64 0),(.int .i64 0),(.int .i64 0),(.int .i64 0),(.int .i64 0),(.int .i64 0),(.int .i64 0),(.int .i64 0),(.int .i64 0),(.int .i64 0),(.int .i64 0),(.int .i64 0),(.slice none 0 0),(.slice none 0 0),(.slice none 0 0),(.slice none 0 0),(.slice none 0 0),(.slice none 0 0),(.slice none 0 0),(.slice none 0 0)]/\∀υ,υ=ε.setCells (⟨δ,0,none⟩:Addr).block (⟨δ,0,none⟩:Addr).off [(.int .i64 0),(.int .i64 0),(.int .i64 0),(.int .i64 0),(.int .i64 0),(.int .i64 0),(.int .i64 0),(.int .i64 0),(.int .i64 0),(.int .i64 0),(.int .i64 0),(.int .i64 0),(.int .i64 0),(.int .i64 0),(.int .i64 0),(.int .i64 0),(.slice none 0 0),(.slice none 0 0),(.slice none 0 0),(.slice none 0 0),(.slice none 0 0),(.slice none 0 0),(.slice none 0 0),(.slice none 0 0)]->
  (∃(aE:aj),aE.size=24/\aB υ ⟨δ,0,none⟩ aE.toList/\
   (R (.returned (.agg aE)) υ))) (
  ξ a0 λd1=>
  ∃ae,ε.cell? (d1.add 4)=some (.pointer ae)/\
  (κ prog 86 #[.pointer ae] ε (λv1 χ=>
    cv v1 λbz=>
    κ prog 85 #[.agg bz] χ (λv2 an=>
     cv v2 λbO=>
     ν (decide (bO.size=24)) (
      a6 an ⟨δ,0,none⟩ bO.toList/\∀a8,a8=an.setCells (⟨δ,0,none⟩:Addr).block (⟨δ,0,none⟩:Addr).off bO.toList->
      (∃(bC:aj),bC.size=24/\aB a8 ⟨δ,0,none⟩ bC.toList/\
       (R (.returned (.agg bC)) a8)))) (ai R)) (ai R)))
abbrev GR.C(a0:γ):=Calls prog 48 #[.pointer a0]
theorem GR.ok:iS GR.main GR.C:=λh=>dA func48 [.cell 2 89] 12 h
def tY.δ(oO:γ)(oq qo:Nat)(AB:γ)(AA D6:Nat)(t29 t30:Int)(w:World)(R:au)(a1:γ->Nat->Nat->γ->Nat->Nat->Int->Int->al):Prop:=
 cond (decide (t30<t29)) (
  ν (decide (0<=t30)) (
   ν (decide (t30<((AA:Nat):Int))) (
    ξ AB λd1=>
    ∃cM m1,w.cell? (d1.add (t30.toNat*1))=some (.complex .f64 cM m1)/\
    (ξ ((FloatKind.f64.decode cM).toInt .zero) λaC=>
     ν (decide (IntKind.i64.min<=aC)) (
      ν (decide (aC<=IntKind.i64.max)) (
       ν (decide (0<=aC)) (
        ν (decide (aC<((oq:Nat):Int))) (
         ξ oO λd2=>
         ∃ay,w.cell? (d2.add (aC.toNat*1))=some (.int .i64 ay)/\
         (ν (decide (0<=aC)) (
          ν (decide (aC<((oq:Nat):Int))) (
           ξ oO λd3=>
           (w.cell? (d3.add (aC.toNat*1))).isSome=true/\w.frozen? (d3.add (aC.toNat*1))=false/\∀bV,bV=w.setCell (d3.add (aC.toNat*1)) (.int .i64 (IntKind.i64.wrap (ay+1)))->
           (a1 oO oq qo AB AA D6 t29 (IntKind.i64.wrap (t30+1)) bV)))))))))))) (
  R (.returned (.tuple #[.slice oO oq qo,(0:Int)])) w)
def tY.bb:=Jp tY.δ
def tY.main(a0:aj)(e8 e9:Int)(w:World)(R:au):Prop:=
 aK w a0 89 λδ ε=>
 aK ε #[e8,e9] 28 λζ υ=>
 ∃(aE:aj),aE.size=24/\aB υ ⟨δ,0,none⟩ aE.toList/\
 (∃(bz:aj),bz.size=2/\aB υ ⟨ζ,0,none⟩ bz.toList/\
  (κ prog 87 #[.agg aE,.agg bz] υ (λv1 χ=>
   br .i64 v1 λθ=>
   cond (θ !=0) (
    R (.returned (.tuple #[.slice none 0 0,θ])) χ) (
    ∃ρ,χ.cell? ⟨ζ,0,none⟩=some (.int .i64 ρ)/\
    (ν (decide (0<=ρ)) (
     ν (decide (ρ<=ρ)) (
      ν (decide ((8:Int)*ρ<=281474976710656/\ρ<=9223372036854775807)) (
       aK χ (madeCells #[(0:Int)] (ρ.toNat*1)) 3 λax an=>
       ∃(bO:aj),bO.size=24/\aB an ⟨δ,0,none⟩ bO.toList/\
       (κ prog 88 #[.agg bO] an (λv2 aZ=>
        b7 v2 λbN=>
        ξ (bN[0]?) λv3=>
        cX v3 λae aD c1=>
        ξ (bN[1]?) λv4=>
        cX v4 λaX bu c2=>
        ξ (bN[2]?) λv5=>
        br .i64 v5 λad=>
        tY.bb (some ⟨ax,0,none⟩) ρ.toNat ρ.toNat ae aD c1 ((aD:Nat):Int) 0 aZ R) (ai R)))))))) (ai R)))
abbrev tY.C(a0:aj)(e8 e9:Int):=Calls prog 49 #[.agg a0,.agg #[e8,e9]]
theorem tY.ok:ji tY.main tY.C:=λ{_ _ _ _ R}h=>fo func49 [.tmp 4,.tmp 5] 44 (.seq .leaf (.seq .leaf (.seq .leaf (.seq .leaf (.seq (.seq .leaf (.block (.loop [(7,.slice),(28,.slice),(29,.int .i64),(30,.int .i64)] (tY.bb · · · · · · · · · R) λa1=>.leaf))) .leaf))))) h
def HI.main(a0:γ)(w:World)(R:au):Prop:=
 cond (Option.isNone a0) (
  R (.returned (.tuple #[.slice none 0 0,(-1:Int)])) w) (
  ξ a0 λd1=>
  ∃ae aD c1,w.drew.cell? (d1.add 2)=some (.slice ae aD c1)/\
  (ξ a0 λd2=>
   ∃θ,w.drew.cell? (d2.add 3)=some (.int .i64 θ)/\
   (κ prog 89 #[.slice ae aD c1] w.drew (λv1 ε=>
    cX v1 λaX bu c2=>
    ε.cell? (d2.add 3)=some (.int .i64 θ)/\
    (R (.returned (.tuple #[.slice aX bu c2,θ])) ε)) (ai R))))
abbrev HI.C(a0:γ):=Calls prog 50 #[.pointer a0]
theorem HI.ok:iS HI.main HI.C:=λh=>dA func50 [.tmp 2,.tmp 3] 15 h
def jD.bK(dw:γ)(dh ef:Nat)(de:γ)(c3 dy t4:Nat)(fH:γ)(fq fQ:Nat)(j6:γ)(kl kk:Nat)(ir:γ)(fZ iQ:Nat)(t13 t15 t16:Int)(ln:γ)(ll mJ:Nat)(t34 t35:Int)(t72:Bool)(w:World)(R:au)(a1:γ->Nat->Nat->γ->Nat->Nat->Nat->γ->Nat->Nat->γ->Nat->Nat->γ->Nat->Nat->γ->Nat->Nat->Int->Int->al):Prop:=
 cond t72 (
  aK w #[t15] 3 λax aZ=>
  ho aZ fH fq fQ 1 (bd aZ (some ⟨ax,0,none⟩)) 3 1 8 #[(0:Int)] λae c1 a8=>
  aK a8 #[t16] 3 λaa bV=>
  ho bV j6 kl kk 1 (bd bV (some ⟨aa,0,none⟩)) 3 1 8 #[(0:Int)] λaX c2 bW=>
  aK bW #[t13] 3 λcu c4=>
  ho c4 ir fZ iQ 1 (bd c4 (some ⟨cu,0,none⟩)) 3 1 8 #[(0:Int)] λbj bP cd=>
  a1 dw dh ef de c3 dy t4 ae (fq+1) c1 aX (kl+1) c2 bj (fZ+1) bP ln ll mJ t34 (IntKind.i64.wrap (t35+1)) cd) (
  a1 dw dh ef de c3 dy t4 fH fq fQ j6 kl kk ir fZ iQ ln ll mJ t34 (IntKind.i64.wrap (t35+1)) w)
def jD.aV(dw:γ)(dh ef:Nat)(de:γ)(c3 dy t4:Nat)(fH:γ)(fq fQ:Nat)(j6:γ)(kl kk:Nat)(ir:γ)(fZ iQ:Nat)(t13 t14 t15 t16:Int)(ln:γ)(ll mJ:Nat)(t34 t35:Int)(w:World)(R:au)(a1:γ->Nat->Nat->γ->Nat->Nat->Nat->γ->Nat->Nat->γ->Nat->Nat->γ->Nat->Nat->γ->Nat->Nat->Int->Int->al):Prop:=
 cond (decide (t14>0)) (
  ∃ct,w.cell? ⟨t4,1,none⟩=some (.int .i64 ct)/\
  (jD.bK dw dh ef de c3 dy t4 fH fq fQ j6 kl kk ir fZ iQ t13 t15 t16 ln ll mJ t34 t35 (decide (t14<ct)) w R a1)) (
  jD.bK dw dh ef de c3 dy t4 fH fq fQ j6 kl kk ir fZ iQ t13 t15 t16 ln ll mJ t34 t35 false w R a1)
def jD.ζ(dw:γ)(dh ef:Nat)(de:γ)(c3 dy t4:Nat)(fH:γ)(fq fQ:Nat)(j6:γ)(kl kk:Nat)(ir:γ)(fZ iQ:Nat)(t13 t14 t15 t16:Int)(ln:γ)(ll mJ:Nat)(t34 t35:Int)(AG:γ)(AF Cs:Nat)(t56 t57:Int)(w:World)(R:au)(a1:γ->Nat->Nat->γ->Nat->Nat->Nat->γ->Nat->Nat->γ->Nat->Nat->γ->Nat->Nat->γ->Nat->Nat->Int->Int->al)(gi:γ->Nat->Nat->γ->Nat->Nat->Nat->γ->Nat->Nat->γ->Nat->Nat->γ->Nat->Nat->Int->Int->Int->Int->γ->Nat->Nat->Int->Int->γ->Nat->Nat->Int->Int->al):Prop:=
 cond (decide (t57<t56)) (
  ν (decide (0<=t57)) (
   ν (decide (t57<((AF:Nat):Int))) (
    ξ AG λd3=>
    ∃cj,w.cell? (d3.add (t57.toNat*1))=some (.int .i64 cj)/\
    (cond (cj==t13) (
     a1 dw dh ef de c3 dy t4 fH fq fQ j6 kl kk ir fZ iQ ln ll mJ t34 (IntKind.i64.wrap (t35+1)) w) (
     gi dw dh ef de c3 dy t4 fH fq fQ j6 kl kk ir fZ iQ t13 t14 t15 t16 ln ll mJ t34 t35 AG AF Cs t56 (IntKind.i64.wrap (t57+1)) w))))) (
  jD.aV dw dh ef de c3 dy t4 fH fq fQ j6 kl kk ir fZ iQ t13 t14 t15 t16 ln ll mJ t34 t35 w R a1)
def jD.eZ(dw:γ)(dh ef:Nat)(de:γ)(c3 dy t4:Nat)(fH:γ)(fq fQ:Nat)(j6:γ)(kl kk:Nat)(ir:γ)(fZ iQ:Nat)(t13 t14 t15 t16:Int)(ln:γ)(ll mJ:Nat)(t34 t35:Int)(AG:γ)(AF Cs:Nat)(t56 t57:Int)(w:World)(R:au)(a1:γ->Nat->Nat->γ->Nat->Nat->Nat->γ->Nat->Nat->γ->Nat->Nat->γ->Nat->Nat->γ->Nat->Nat->Int->Int->al):Prop:=
 ∃(bE:γ->Nat->Nat->γ->Nat->Nat->Nat->γ->Nat->Nat->γ->Nat->Nat->γ->Nat->Nat->Int->Int->Int->Int->γ->Nat->Nat->Int->Int->γ->Nat->Nat->Int->Int->al)(m:γ->Nat->Nat->γ->Nat->Nat->Nat->γ->Nat->Nat->γ->Nat->Nat->γ->Nat->Nat->Int->Int->Int->Int->γ->Nat->Nat->Int->Int->γ->Nat->Nat->Int->Int->World->Nat),bE dw dh ef de c3 dy t4 fH fq fQ j6 kl kk ir fZ iQ t13 t14 t15 t16 ln ll mJ t34 t35 AG AF Cs t56 t57 w/\
 ∀(dw:γ)(dh:Nat)(ef:Nat)(de:γ)(c3:Nat)(dy:Nat)(t4:Nat)(fH:γ)(fq:Nat)(fQ:Nat)(j6:γ)(kl:Nat)(kk:Nat)(ir:γ)(fZ:Nat)(iQ:Nat)(t13:Int)(t14:Int)(t15:Int)(t16:Int)(ln:γ)(ll:Nat)(mJ:Nat)(t34:Int)(t35:Int)(AG:γ)(AF:Nat)(Cs:Nat)(t56:Int)(t57:Int)(w:World),bE dw dh ef de c3 dy t4 fH fq fQ j6 kl kk ir fZ iQ t13 t14 t15 t16 ln ll mJ t34 t35 AG AF Cs t56 t57 w->
 jD.ζ dw dh ef de c3 dy t4 fH fq fQ j6 kl kk ir fZ iQ t13 t14 t15 t16 ln ll mJ t34 t35 AG AF Cs t56 t57 w R a1 (λHW HV Cn Cq Cp y7 y8 HO HN HM HR HQ HP HT Ay HS agU xH R6 R7 HY HX Co HZ wk agZ agY agX ag0 ag1 w'=>bE HW HV Cn Cq Cp y7 y8 HO HN HM HR HQ HP HT Ay HS agU xH R6 R7 HY HX Co HZ wk agZ agY agX ag0 ag1 w'/\m HW HV Cn Cq Cp y7 y8 HO HN HM HR HQ HP HT Ay HS agU xH R6 R7 HY HX Co HZ wk agZ agY agX ag0 ag1 w'<m dw dh ef de c3 dy t4 fH fq fQ j6 kl kk ir fZ iQ t13 t14 t15 t16 ln ll mJ t34 t35 AG AF Cs t56 t57 w)
def jD.b4(fH:γ)(fq fQ:Nat)(j6:γ)(kl kk:Nat)(ir:γ)(fZ iQ:Nat)(w:World)(R:au):Prop:=
 cond (((fZ:Nat):Int)==0) (
  R (.returned (.tuple #[(0:Int),(4:Int)])) w) (
  κ prog 92 #[.slice fH fq fQ,.slice j6 kl kk] w (λv6 cm=>
   b7 v6 λeY=>
   ξ (eY[0]?) λfm=>
   br .i64 fm λez=>
   ξ (eY[1]?) λa7=>
   br .i64 a7 λeW=>
   ν (decide (0<=ez)) (
    ν (decide (ez<((fZ:Nat):Int))) (
     ξ ir λd4=>
     ∃df,cm.cell? (d4.add (ez.toNat*1))=some (.int .i64 df)/\
     (R (.returned (.tuple #[df,eW])) cm)))) (ai R))
def jD.δ(dw:γ)(dh ef:Nat)(de:γ)(c3 dy t4:Nat)(fH:γ)(fq fQ:Nat)(j6:γ)(kl kk:Nat)(ir:γ)(fZ iQ:Nat)(ln:γ)(ll mJ:Nat)(t34 t35:Int)(w:World)(R:au)(a1:γ->Nat->Nat->γ->Nat->Nat->Nat->γ->Nat->Nat->γ->Nat->Nat->γ->Nat->Nat->γ->Nat->Nat->Int->Int->al):Prop:=
 cond (decide (t35<t34)) (
  ν (decide (0<=t35)) (
   ν (decide (t35<((ll:Nat):Int))) (
    ξ ln λd1=>
    ∃ρ,w.cell? (d1.add (t35.toNat*1))=some (.int .i64 ρ)/\
    (∃ad,w.drew.cell? ⟨t4,1,none⟩=some (.int .i64 ad)/\
     (ν (decide (0<=t35)) (
      ν (decide (t35<((dh:Nat):Int))) (
       ξ dw λd2=>
       ∃aC,w.drew.cell? (d2.add (t35.toNat*1))=some (.int .i64 aC)/\
       (κ prog 91 #[ρ,ad,aC] w.drew (λv2 ao=>
        b7 v2 λbN=>
        ξ (bN[0]?) λv3=>
        br .i64 v3 λay=>
        ξ (bN[1]?) λv4=>
        br .i64 v4 λaM=>
        ξ (bN[2]?) λv5=>
        br .i64 v5 λaU=>
        cond (aU !=0) (
         R (.returned (.tuple #[(0:Int),aU])) ao) (
         jD.eZ dw dh ef de c3 dy t4 fH fq fQ j6 kl kk ir fZ iQ t35 ρ ay aM ln ll mJ t34 t35 de c3 dy ((c3:Nat):Int) 0 ao R a1)) (ai R))))))))) (
  jD.b4 fH fq fQ j6 kl kk ir fZ iQ w R)
def jD.bb(dw:γ)(dh ef:Nat)(de:γ)(c3 dy t4:Nat)(fH:γ)(fq fQ:Nat)(j6:γ)(kl kk:Nat)(ir:γ)(fZ iQ:Nat)(ln:γ)(ll mJ:Nat)(t34 t35:Int)(w:World)(R:au):Prop:=
 ∃(bE:γ->Nat->Nat->γ->Nat->Nat->Nat->γ->Nat->Nat->γ->Nat->Nat->γ->Nat->Nat->γ->Nat->Nat->Int->Int->al)(m:γ->Nat->Nat->γ->Nat->Nat->Nat->γ->Nat->Nat->γ->Nat->Nat->γ->Nat->Nat->γ->Nat->Nat->Int->Int->World->Nat),bE dw dh ef de c3 dy t4 fH fq fQ j6 kl kk ir fZ iQ ln ll mJ t34 t35 w/\
 ∀(dw:γ)(dh:Nat)(ef:Nat)(de:γ)(c3:Nat)(dy:Nat)(t4:Nat)(fH:γ)(fq:Nat)(fQ:Nat)(j6:γ)(kl:Nat)(kk:Nat)(ir:γ)(fZ:Nat)(iQ:Nat)(ln:γ)(ll:Nat)(mJ:Nat)(t34:Int)(t35:Int)(w:World),bE dw dh ef de c3 dy t4 fH fq fQ j6 kl kk ir fZ iQ ln ll mJ t34 t35 w->
 jD.δ dw dh ef de c3 dy t4 fH fq fQ j6 kl kk ir fZ iQ ln ll mJ t34 t35 w R (λHW HV Cn Cq Cp y7 y8 HO HN HM HR HQ HP HT Ay HS HY HX Co HZ wk w'=>bE HW HV Cn Cq Cp y7 y8 HO HN HM HR HQ HP HT Ay HS HY HX Co HZ wk w'/\m HW HV Cn Cq Cp y7 y8 HO HN HM HR HQ HP HT Ay HS HY HX Co HZ wk w'<m dw dh ef de c3 dy t4 fH fq fQ j6 kl kk ir fZ iQ ln ll mJ t34 t35 w)
def jD.main(fM gH:Int)(gQ:γ)(fy gS:Nat)(hI:γ)(ev ij:Nat)(r4:γ)(q7 r3:Nat)(w:World)(R:au):Prop:=
 aK w #[fM,gH] 28 λδ ε=>
 ∃(aE:aj),aE.size=2/\aB ε ⟨δ,0,none⟩ aE.toList/\
 (κ prog 90 #[.agg aE,.slice gQ fy gS] ε (λv1 υ=>
  dF v1 λζ=>
  cond (!ζ) (
   R (.returned (.tuple #[(0:Int),(1:Int)])) υ) (
   ∃θ,υ.cell? ⟨δ,0,none⟩=some (.int .i64 θ)/\
   (cond (((ev:Nat):Int)!=θ) (
    R (.returned (.tuple #[(0:Int),(1:Int)])) υ) (
    jD.bb hI ev ij r4 q7 r3 δ none 0 0 none 0 0 none 0 0 gQ fy gS ((fy:Nat):Int) 0 υ R)))) (ai R))
abbrev jD.C(fM gH:Int)(gQ:γ)(fy gS:Nat)(hI:γ)(ev ij:Nat)(r4:γ)(q7 r3:Nat):=Calls prog 51 #[.agg #[fM,gH],.slice gQ fy gS,.slice hI ev ij,.slice r4 q7 r3]
theorem jD.ok:akM jD.main jD.C:=λ{_ _ _ _ _ _ _ _ _ _ _ _ R}h=>fo func51 [.tmp 8,.tmp 9] 100 (.seq .leaf (.block (.seq .leaf (.seq .leaf (.seq .leaf (.cut [(10,.slice),(11,.slice),(12,.slice)] (jD.b4 · · · · · · · · · · R) (.seq .leaf (.block (.loop [(2,.slice),(3,.slice),(4,.cA),(10,.slice),(11,.slice),(12,.slice),(33,.slice),(34,.int .i64),(35,.int .i64)] (jD.bb · · · · · · · · · · · · · · · · · · · · · · R) λa1=>(.seq .leaf (.seq .leaf (.seq (.block (.seq .leaf (.seq .leaf (.seq .leaf (.cut [(2,.slice),(3,.slice),(4,.cA),(10,.slice),(11,.slice),(12,.slice),(13,.int .i64),(14,.int .i64),(15,.int .i64),(16,.int .i64),(33,.slice),(34,.int .i64),(35,.int .i64)] (jD.aV · · · · · · · · · · · · · · · · · · · · · · · · · · R a1) (.seq .leaf (.block (.loop [(2,.slice),(3,.slice),(4,.cA),(10,.slice),(11,.slice),(12,.slice),(13,.int .i64),(14,.int .i64),(15,.int .i64),(16,.int .i64),(33,.slice),(34,.int .i64),(35,.int .i64),(55,.slice),(56,.int .i64),(57,.int .i64)] (jD.eZ · · · · · · · · · · · · · · · · · · · · · · · · · · · · · · · R a1) λgi=>.leaf))) (.cut [(2,.slice),(3,.slice),(4,.cA),(10,.slice),(11,.slice),(12,.slice),(13,.int .i64),(15,.int .i64),(16,.int .i64),(33,.slice),(34,.int .i64),(35,.int .i64),(72,.bool)] (jD.bK · · · · · · · · · · · · · · · · · · · · · · · · · · R a1) .leaf .leaf)))))) .leaf)))))) .leaf)))))) h
def B6.main(a0:Int)(w:World)(R:au):Prop:=
 cond (a0 !=0) (
  R (.panicked [{v:=(.iface 104 (.agg #[a0])),recovered:=false}]) w) (
  R (.returned (.tuple #[])) w)
abbrev B6.C(a0:Int):=Calls prog 52 #[a0]
theorem B6.ok:iS B6.main B6.C:=λh=>dA func52 [] 7 h
def E3.main(a0:aj)(e8 e9 a2:Int)(w:World)(R:au):Prop:=
 aK w a0 89 λδ ε=>
 aK ε #[e8,e9] 28 λζ υ=>
 aK υ #[a2] 3 λax χ=>
 ∃(aE:aj),aE.size=24/\aB χ ⟨δ,0,none⟩ aE.toList/\
 (∃(bz:aj),bz.size=2/\aB χ ⟨ζ,0,none⟩ bz.toList/\
  (κ prog 87 #[.agg aE,.agg bz] χ (λv1 ao=>
   br .i64 v1 λθ=>
   cond (θ !=0) (
    R (.returned (.tuple #[.slice none 0 0,θ])) ao) (
    ∃ρ,ao.cell? ⟨ax,0,none⟩=some (.int .i64 ρ)/\
    (cond (decide (ρ<0)) (
     R (.returned (.tuple #[.slice none 0 0,(1:Int)])) ao) (
     ∃ad,ao.cell? ⟨ax,0,none⟩=some (.int .i64 ad)/\
     (∃aC,ao.cell? ⟨ζ,0,none⟩=some (.int .i64 aC)/\
      (cond (decide (ad>=aC)) (
       R (.returned (.tuple #[.slice none 0 0,(1:Int)])) ao) (
       ∃(bO:aj),bO.size=24/\aB ao ⟨δ,0,none⟩ bO.toList/\
       (κ prog 88 #[.agg bO] ao (λv2 aZ=>
        b7 v2 λbN=>
        ξ (bN[0]?) λv3=>
        cX v3 λae aD c1=>
        ξ (bN[1]?) λv4=>
        cX v4 λaX bu c2=>
        ξ (bN[2]?) λv5=>
        br .i64 v5 λay=>
        κ prog 93 #[.slice ae aD c1,.func (.func 94) #[] #[.pointer (some ⟨ax,0,none⟩)]] aZ (λv6 bV=>
         cX v6 λbj dU bP=>
         R (.returned (.tuple #[.slice bj dU bP,(0:Int)])) bV) (ai R)) (ai R))))))))) (ai R)))
abbrev E3.C(a0:aj)(e8 e9 a2:Int):=Calls prog 53 #[.agg a0,.agg #[e8,e9],a2]
theorem E3.ok:lu E3.main E3.C:=λh=>dA func53 [.tmp 6,.tmp 7] 35 h
def An.main(fM gH:Int)(sK sJ:Nat)(w:World)(R:au):Prop:=
 aK w #[fM,gH] 28 λδ ε=>
 ∃(aE:aj),aE.size=2/\aB ε ⟨δ,0,none⟩ aE.toList/\
 (κ prog 73 #[.agg aE] ε (λv1 υ=>
  br .i64 v1 λθ=>
  cond (θ !=0) (
   R (.returned (.tuple #[(0:Int),θ])) υ) (
   ∃ρ,υ.cell? ⟨δ,1,none⟩=some (.int .i64 ρ)/\
   (κ prog 95 #[.complex .f64 sK sJ,ρ] υ (λv2 ao=>
    b7 v2 λbN=>
    ξ (bN[0]?) λv3=>
    br .i64 v3 λad=>
    ξ (bN[1]?) λv4=>
    br .i64 v4 λaC=>
    cond (aC !=0) (
     R (.returned (.tuple #[(0:Int),aC])) ao) (
     ∃ay,ao.cell? ⟨δ,0,none⟩=some (.int .i64 ay)/\
     (∃aM,ao.cell? ⟨δ,1,none⟩=some (.int .i64 aM)/\
      (cond (decide (ad>=(IntKind.i64.wrap (ay*aM)))) (
       R (.returned (.tuple #[(0:Int),(5:Int)])) ao) (
       R (.returned (.tuple #[(IntKind.i64.wrap (40+ad)),(0:Int)])) ao))))) (ai R)))) (ai R))
abbrev An.C(fM gH:Int)(sK sJ:Nat):=Calls prog 54 #[.agg #[fM,gH],.complex .f64 sK sJ]
theorem An.ok:lu An.main An.C:=λh=>dA func54 [.tmp 4,.tmp 5] 35 h
def GV.main(a0 gQ:γ)(fy gS:Nat)(a2:Int)(w:World)(R:au):Prop:=
 ξ a0 λd1=>
 ∃ae,w.cell? (d1.add 5)=some (.pointer ae)/\
 (κ prog 96 #[.pointer ae,a2] w (λv1 ε=>
  b7 v1 λbN=>
  ξ (bN[0]?) λv2=>
  mA v2 λcM m1=>
  ξ (bN[1]?) λv3=>
  br .i64 v3 λθ=>
  κ prog 52 #[θ] ε (λv4 χ=>
   b7 v4 λeY=>
   ξ a0 λd2=>
   ∃(aE:aj),aE.size=2/\aB χ (d2.add 2) aE.toList/\
   (κ prog 54 #[.agg aE,.complex .f64 cM m1] χ (λv5 an=>
    b7 v5 λh5=>
    ξ (h5[0]?) λv6=>
    br .i64 v6 λρ=>
    ξ (h5[1]?) λfm=>
    br .i64 fm λad=>
    ξ a0 λd3=>
    ∃aX,an.cell? (d3.add 1)=some (.pointer aX)/\
    (aK an #[ρ,.slice gQ fy gS] 130 λδ a8=>
     κ prog 63 #[.pointer aX,.slice (some ⟨δ,0,none⟩) 1 1] a8 (λa7 bV=>
      br .i64 a7 λaC=>
      κ prog 52 #[aC] bV (λv9 c4=>
       b7 v9 λnT=>
       ξ a0 λd4=>
       ∃bj aD c1,c4.drew.cell? (d4.add 11)=some (.slice bj aD c1)/\
       (ξ ((FloatKind.f64.decode cM).toInt .zero) λay=>
        ν (decide (IntKind.i64.min<=ay)) (
         ν (decide (ay<=IntKind.i64.max)) (
          ξ a0 λd5=>
          ∃aM,c4.drew.cell? (d5.add 10)=some (.int .i64 aM)/\
          (ν (decide (0<=ay)) (
           ν (decide (ay<((aD:Nat):Int))) (
           ξ bj λd6=>
           (c4.drew.cell? (d6.add (ay.toNat*1))).isSome=true/\c4.drew.frozen? (d6.add (ay.toNat*1))=false/\∀cm,cm=c4.drew.setCell (d6.add (ay.toNat*1)) (.int .i64 aM)->
           (R (.returned (.complex .f64 cM m1)) cm)))))))) (ai R)) (ai R))) (ai R))) (ai R)) (ai R))
abbrev GV.C(a0 gQ:γ)(fy gS:Nat)(a2:Int):=Calls prog 55 #[.pointer a0,.slice gQ fy gS,a2]
theorem GV.ok:vg GV.main GV.C:=λh=>dA func55 [.tmp 6] 54 h
def uN.δ(nh:γ)(ng qT:Nat)(dw:γ)(dh ef t3 t6:Nat)(t17 t18:Int)(w:World)(R:au)(a1:γ->Nat->Nat->γ->Nat->Nat->Nat->Nat->Int->Int->al):Prop:=
 cond (decide (t18<t17)) (
  ∃(bz:aj),bz.size=24/\aB w.drew ⟨t3,0,none⟩ bz.toList/\
  (ν (decide (0<=t18)) (
   ν (decide (t18<((ng:Nat):Int))) (
    ξ nh λd1=>
    ∃cM m1,w.drew.cell? (d1.add (t18.toNat*1))=some (.complex .f64 cM m1)/\
    (ν (decide (0<=t18)) (
     ν (decide (t18<((dh:Nat):Int))) (
      ξ dw λd2=>
      ∃fC m2,w.drew.cell? (d2.add (t18.toNat*1))=some (.complex .f64 fC m2)/\
      (κ prog 97 #[.agg bz,.complex .f64 cM m1,.complex .f64 fC m2] w.drew (λv1 ao=>
       b7 v1 λbN=>
       ξ (bN[0]?) λv2=>
       cv v2 λbO=>
       ξ (bN[1]?) λv3=>
       br .i64 v3 λθ=>
       ν (decide (bO.size=24)) (
        a6 ao ⟨t3,0,none⟩ bO.toList/\∀aZ,aZ=ao.setCells (⟨t3,0,none⟩:Addr).block (⟨t3,0,none⟩:Addr).off bO.toList->
        (cond (θ !=0) (
         a6 aZ ⟨t6,0,none⟩ [(.int .i64 0),(.int .i64 0),(.int .i64 0),(.int .i64 0),(.int .i64 0),(.int .i64 0),(.int .i64 0),(.int .i64 0),(.int .i64 0),(.int .i64 0),(.int .i64 0),(.int .i64 0),(.int .i64 0),(.int .i64 0),(.int .i64 0),(.int .i64 0),(.slice none 0 0),(.slice none 0 0),(.slice none 0 0),(.slice none 0 0),(.slice none 0 0),(.slice none 0 0),(.slice none 0 0),(.slice none 0 0)]/\∀a8,a8=aZ.setCells (⟨t6,0,none⟩:Addr).block (⟨t6,0,none⟩:Addr).off [(.int .i64 0),(.int .i64 0),(.int .i64 0),(.int .i64 0),(.int .i64 0),(.int .i64 0),(.int .i64 0),(.int .i64 0),(.int .i64 0),(.int .i64 0),(.int .i64 0),(.int .i64 0),(.int .i64 0),(.int .i64 0),(.int .i64 0),(.int .i64 0),(.slice none 0 0),(.slice none 0 0),(.slice none 0 0),(.slice none 0 0),(.slice none 0 0),(.slice none 0 0),(.slice none 0 0),(.slice none 0 0)]->
         (∃(bC:aj),bC.size=24/\aB a8 ⟨t6,0,none⟩ bC.toList/\
         (R (.returned (.tuple #[.agg bC,θ])) a8))) (
         a1 nh ng qT dw dh ef t3 t6 t17 (IntKind.i64.wrap (t18+1)) aZ)))) (ai R))))))))) (
  ∃(b0:aj),b0.size=24/\aB w ⟨t3,0,none⟩ b0.toList/\
  (ν (decide (b0.size=24)) (
   a6 w ⟨t6,0,none⟩ b0.toList/\∀bV,bV=w.setCells (⟨t6,0,none⟩:Addr).block (⟨t6,0,none⟩:Addr).off b0.toList->
   (∃(dr:aj),dr.size=24/\aB bV ⟨t6,0,none⟩ dr.toList/\
    (R (.returned (.tuple #[.agg dr,(0:Int)])) bV)))))
def uN.bb:=aei uN.δ
def uN.main(a0:aj)(gQ:γ)(fy gS:Nat)(hI:γ)(ev ij:Nat)(w:World)(R:au):Prop:=
 aK w a0 89 λδ ε=>
 aK ε #[(0:Int),(0:Int),(0:Int),(0:Int),(0:Int),(0:Int),(0:Int),(0:Int),(0:Int),(0:Int),(0:Int),(0:Int),(0:Int),(0:Int),(0:Int),(0:Int),.slice none 0 0,.slice none 0 0,.slice none 0 0,.slice none 0 0,.slice none 0 0,.slice none 0 0,.slice none 0 0,.slice none 0 0] 89 λζ υ=>
 cond (((fy:Nat):Int)!=((ev:Nat):Int)) (
  a6 υ ⟨ζ,0,none⟩ [(.int .i64 0),(.int .i64 0),(.int .i64 0),(.int .i64 0),(.int .i64 0),(.int .i64 0),(.int .i64 0),(.int .i64 0),(.int .i64 0),(.int .i64 0),(.int .i64 0),(.int .i64 0),(.int .i64 0),(.int .i64 0),(.int .i64 0),(.int .i64 0),(.slice none 0 0),(.slice none 0 0),(.slice none 0 0),(.slice none 0 0),(.slice none 0 0),(.slice none 0 0),(.slice none 0 0),(.slice none 0 0)]/\∀χ,χ=υ.setCells (⟨ζ,0,none⟩:Addr).block (⟨ζ,0,none⟩:Addr).off [(.int .i64 0),(.int .i64 0),(.int .i64 0),(.int .i64 0),(.int .i64 0),(.int .i64 0),(.int .i64 0),(.int .i64 0),(.int .i64 0),(.int .i64 0),(.int .i64 0),(.int .i64 0),(.int .i64 0),(.int .i64 0),(.int .i64 0),(.int .i64 0),(.slice none 0 0),(.slice none 0 0),(.slice none 0 0),(.slice none 0 0),(.slice none 0 0),(.slice none 0 0),(.slice none 0 0),(.slice none 0 0)]->
  (∃(aE:aj),aE.size=24/\aB χ ⟨ζ,0,none⟩ aE.toList/\
   (R (.returned (.tuple #[.agg aE,(1:Int)])) χ))) (
  uN.bb gQ fy gS hI ev ij δ ζ ((fy:Nat):Int) 0 υ R)
abbrev uN.C(a0:aj)(gQ:γ)(fy gS:Nat)(hI:γ)(ev ij:Nat):=Calls prog 56 #[.agg a0,.slice gQ fy gS,.slice hI ev ij]
theorem uN.ok:Iu uN.main uN.C:=λ{_ _ _ _ _ _ _ _ R}h=>fo func56 [.cell 6 89,.tmp 7] 40 (.seq .leaf (.seq .leaf (.seq .leaf (.seq (.seq .leaf (.block (.loop [(1,.slice),(2,.slice),(3,.cA),(6,.cA),(17,.int .i64),(18,.int .i64)] (uN.bb · · · · · · · · · · · R) λa1=>.leaf))) .leaf)))) h
def ER.main(a0:γ)(w:World)(R:au):Prop:=
 κ prog 35 #[.pointer a0] w (λv1 ε=>
  br .i64 v1 λθ=>
  cond (θ !=0) (
   R (.returned (.int .i64 θ)) ε) (
   κ prog 98 #[.pointer a0] ε (λv2 χ=>
    dF v2 λδ=>
    cond δ (
     R (.returned (.int .i64 10)) χ) (
     ξ a0 λd1=>
     ∃ae aD c1,χ.drew.cell? d1=some (.slice ae aD c1)/\
     (ξ a0 λd2=>
      ∃aX bu c2,χ.drew.cell? (d2.add 1)=some (.slice aX bu c2)/\
      (wS χ.drew ae aD aX bu 64 λan=>
       ξ a0 λd3=>
       (an.cell? (d3.add 2)).isSome=true/\an.frozen? (d3.add 2)=false/\∀aZ,aZ=an.setCell (d3.add 2) (.slice none 0 0)->
       (R (.returned (.int .i64 0)) aZ))))) (ai R))) (ai R)
abbrev ER.C(a0:γ):=Calls prog 57 #[.pointer a0]
theorem ER.ok:iS ER.main ER.C:=λh=>dA func57 [.tmp 2] 23 h
def qN.aV(t0 D8:γ)(D7 H0:Nat)(t11:Int)(w:World)(R:au):Prop:=
 κ prog 57 #[.pointer t0] w (λv6 c4=>
  br .i64 v6 λaC=>
  cond (aC !=0) (
   R (.returned (.int .i64 aC)) c4) (
   ν (decide (0<((D7:Nat):Int))) (
    ξ D8 λd2=>
    ∃bj dU bP,c4.cell? d2=some (.slice bj dU bP)/\
    (aK c4 #[t11,.slice bj dU bP] 130 λaa cm=>
     κ prog 63 #[.pointer t0,.slice (some ⟨aa,0,none⟩) 1 1] cm (λfm cE=>
      br .i64 fm λay=>
      cond (ay !=0) (
       R (.returned (.int .i64 ay)) cE) (
       κ prog 57 #[.pointer t0] cE (λa7 dp=>
        br .i64 a7 λaM=>
        R (.returned (.int .i64 aM)) dp) (ai R))) (ai R))))) (ai R)
def qN.δ(t0 D8:γ)(D7 H0:Nat)(t11:Int)(Se:γ)(Sd YA:Nat)(t33 t34:Int)(w:World)(R:au)(a1:γ->γ->Nat->Nat->Int->γ->Nat->Nat->Int->Int->al):Prop:=
 cond (decide (t34<t33)) (
  ν (decide (0<=t34)) (
   ν (decide (t34<((Sd:Nat):Int))) (
    ξ Se λd1=>
    ∃aX bu c2,w.cell? (d1.add (t34.toNat*1))=some (.slice aX bu c2)/\
    (aK w #[(IntKind.i64.wrap ((IntKind.i64.wrap (t11+1))+t34)),.slice aX bu c2] 130 λax a8=>
     κ prog 63 #[.pointer t0,.slice (some ⟨ax,0,none⟩) 1 1] a8 (λv5 bV=>
      br .i64 v5 λad=>
      cond (ad !=0) (
       R (.returned (.int .i64 ad)) bV) (
       a1 t0 D8 D7 H0 t11 Se Sd YA t33 (IntKind.i64.wrap (t34+1)) bV)) (ai R))))) (
  qN.aV t0 D8 D7 H0 t11 w R)
def qN.bb:=aei qN.δ
def qN.main(a0:γ)(aw:aj)(TD TE a3:Int)(w:World)(R:au):Prop:=
 aK w aw 89 λδ ε=>
 aK ε #[TD,TE] 28 λζ υ=>
 cond (Option.isNone a0) (
  R (.returned (.int .i64 1)) υ) (
  ∃(aE:aj),aE.size=24/\aB υ ⟨δ,0,none⟩ aE.toList/\
  (∃(bz:aj),bz.size=2/\aB υ ⟨ζ,0,none⟩ bz.toList/\
   (κ prog 99 #[.agg aE,.agg bz,a3] υ (λv1 χ=>
    b7 v1 λbN=>
    ξ (bN[0]?) λv2=>
    cX v2 λae aD c1=>
    ξ (bN[1]?) λv3=>
    br .i64 v3 λθ=>
    cond (θ !=0) (
     R (.returned (.int .i64 θ)) χ) (
     κ prog 100 #[a3] χ (λv4 an=>
      br .i64 v4 λρ=>
      ν (decide (1<=((aD:Nat):Int))) (
       qN.bb a0 ae aD c1 ρ (dL ae c1 1 1) (aD-1) (c1-1) (((aD-1):Nat):Int) 0 an R)) (ai R))) (ai R))))
abbrev qN.C(a0:γ)(aw:aj)(TD TE a3:Int):=Calls prog 58 #[.pointer a0,.agg aw,.agg #[TD,TE],a3]
theorem qN.ok:vg qN.main qN.C:=λ{_ _ _ _ _ _ R}h=>fo func58 [.tmp 8] 70 (.seq .leaf (.seq .leaf (.seq .leaf (.seq .leaf (.seq .leaf (.cut [(0,.ptr),(9,.slice),(11,.int .i64)] (qN.aV · · · · · · R) (.seq .leaf (.block (.loop [(0,.ptr),(9,.slice),(11,.int .i64),(32,.slice),(33,.int .i64),(34,.int .i64)] (qN.bb · · · · · · · · · · · R) λa1=>.leaf))) .leaf)))))) h
def tA.aV(t0:γ)(t1:Int)(t7:Bool)(w:World)(R:au):Prop:=
 cond t7 (
  R (.returned (.int .i64 1)) w) (
  ξ t0 λd2=>
  ∃ρ,w.cell? (d2.add 3)=some (.int .i64 ρ)/\
  (cond (t1==ρ) (
   R (.returned (.int .i64 12)) w) (
   ξ t0 λd3=>
   ∃ae aD c1,w.cell? (d3.add 2)=some (.slice ae aD c1)/\
   (κ prog 68 #[.slice ae aD c1,t1] w (λv1 ε=>
    dF v1 λδ=>
    cond δ (
     R (.returned (.int .i64 12)) ε) (
     ξ t0 λd4=>
     ∃aX bu c2,ε.cell? (d4.add 2)=some (.slice aX bu c2)/\
     (κ prog 101 #[.slice aX bu c2,t1] ε (λv2 χ=>
      b7 v2 λbN=>
      ξ (bN[0]?) λv3=>
      br .i64 v3 λad=>
      ξ (bN[1]?) λv4=>
      dF v4 λζ=>
      ξ t0 λd5=>
      ∃bj dU bP,χ.cell? (d5.add 2)=some (.slice bj dU bP)/\
      (aK χ #[t1] 3 λax an=>
       κ prog 102 #[.slice bj dU bP,ad,.slice (some ⟨ax,0,none⟩) 1 1] an (λv5 aZ=>
        cX v5 λeo jK h0=>
        ξ t0 λd6=>
        (aZ.cell? (d6.add 2)).isSome=true/\aZ.frozen? (d6.add 2)=false/\∀bV,bV=aZ.setCell (d6.add 2) (.slice eo jK h0)->
        (R (.returned (.int .i64 0)) bV)) (ai R))) (ai R)))) (ai R)))))
def tA.main(a0:γ)(aw:Int)(w:World)(R:au):Prop:=
 cond (Option.isNone a0) (
  tA.aV a0 aw true w R) (
  cond (decide (aw<0)) (
   tA.aV a0 aw true w R) (
   ξ a0 λd1=>
   ∃θ,w.cell? d1=some (.int .i64 θ)/\
   (tA.aV a0 aw (decide (aw>=θ)) w R)))
abbrev tA.C(a0:γ)(aw:Int):=Calls prog 59 #[.pointer a0,aw]
theorem tA.ok:kn tA.main tA.C:=λ{_ _ _ R}h=>fo func59 [.tmp 4] 58 (.seq .leaf (.seq (.block (.cut [(0,.ptr),(1,.int .i64),(7,.bool)] (tA.aV · · · · R) .leaf .leaf)) .leaf)) h
def FA.main(fM gH pL pM:Int)(EF:γ)(EE ED:Nat)(w:World)(R:au):Prop:=
 aK w #[fM,gH,pL,pM,.slice EF EE ED] 40 λδ ε=>
 ∃θ,ε.cell? ⟨δ,0,none⟩=some (.int .i64 θ)/\
 (cond (decide (θ<1)) (
  R (.returned (.int .i64 1)) ε) (
  ∃ρ,ε.cell? ⟨δ,0,none⟩=some (.int .i64 ρ)/\
  (cond (decide (ρ>9)) (
   R (.returned (.int .i64 1)) ε) (
   R (.returned (.int .i64 0)) ε))))
abbrev FA.C(fM gH pL pM:Int)(EF:γ)(EE ED:Nat):=Calls prog 60 #[.agg #[fM,gH,pL,pM,.slice EF EE ED]]
theorem FA.ok:Iu FA.main FA.C:=λh=>dA func60 [.tmp 2] 11 h
def FF.main(fM gH pL pM:Int)(EF:γ)(EE ED:Nat)(w:World)(R:au):Prop:=
 aK w #[fM,gH,pL,pM,.slice EF EE ED] 40 λδ ε=>
 aK ε #[(0:Int),(0:Int),(0:Int),(0:Int),.slice none 0 0] 40 λζ υ=>
 ∃ae aD c1,υ.cell? ⟨δ,4,none⟩=some (.slice ae aD c1)/\
 (κ prog 36 #[.slice ae aD c1] υ (λv1 χ=>
  cX v1 λaX bu c2=>
  (χ.cell? ⟨δ,4,none⟩).isSome=true/\χ.frozen? ⟨δ,4,none⟩=false/\∀an,an=χ.setCell ⟨δ,4,none⟩ (.slice aX bu c2)->
  (∃(aE:aj),aE.size=5/\aB an ⟨δ,0,none⟩ aE.toList/\
   (ν (decide (aE.size=5)) (
    a6 an ⟨ζ,0,none⟩ aE.toList/\∀aZ,aZ=an.setCells (⟨ζ,0,none⟩:Addr).block (⟨ζ,0,none⟩:Addr).off aE.toList->
    (∃(bz:aj),bz.size=5/\aB aZ ⟨ζ,0,none⟩ bz.toList/\
     (R (.returned (.agg bz)) aZ)))))) (ai R))
abbrev FF.C(fM gH pL pM:Int)(EF:γ)(EE ED:Nat):=Calls prog 61 #[.agg #[fM,gH,pL,pM,.slice EF EE ED]]
theorem FF.ok:Iu FF.main FF.C:=λh=>dA func61 [.cell 2 40] 8 h
def GQ.main(fM gH:Int)(w:World)(R:au):Prop:=
 aK w #[fM,gH] 28 λδ ε=>
 ∃(aE:aj),aE.size=2/\aB ε ⟨δ,0,none⟩ aE.toList/\
 (κ prog 73 #[.agg aE] ε (λv1 υ=>
  br .i64 v1 λθ=>
  cond (θ !=0) (
   R (.returned (.tuple #[(0:Int),θ])) υ) (
   ∃ρ,υ.cell? ⟨δ,0,none⟩=some (.int .i64 ρ)/\
   (∃ad,υ.cell? ⟨δ,1,none⟩=some (.int .i64 ad)/\
    (R (.returned (.tuple #[(IntKind.i64.wrap (40+(IntKind.i64.wrap (ρ*ad)))),(0:Int)])) υ)))) (ai R))
abbrev GQ.C(fM gH:Int):=Calls prog 62 #[.agg #[fM,gH]]
theorem GQ.ok:kn GQ.main GQ.C:=λh=>dA func62 [.tmp 2,.tmp 3] 16 h
def sP.δ(t2:Nat)(NV:γ)(NU Sb:Nat)(t19 t20:Int)(w:World)(R:au)(a1:Nat->γ->Nat->Nat->Int->Int->al):Prop:=
 cond (decide (t20<t19)) (
  ν (decide (0<=t20)) (
   ν (decide (t20<((NU:Nat):Int))) (
    ξ NV λd1=>
    ∃(aE:aj),aE.size=2/\aB w (d1.add (t20.toNat*2)) aE.toList/\
    (aK w #[(0:Int),.slice none 0 0] 130 λaa bV=>
     ν (decide (aE.size=2)) (
      a6 bV ⟨aa,0,none⟩ aE.toList/\∀bW,bW=bV.setCells (⟨aa,0,none⟩:Addr).block (⟨aa,0,none⟩:Addr).off aE.toList->
      (∃aX,bW.cell? ⟨t2,0,none⟩=some (.pointer aX)/\
       (κ prog 98 #[.pointer aX] bW (λv4 c4=>
        dF v4 λcu=>
        cond cu (
         R (.returned (.int .i64 10)) c4) (
         ∃bj,c4.drew.cell? ⟨t2,0,none⟩=some (.pointer bj)/\
         (ξ bj λd2=>
          ∃eo aD c1,c4.drew.cell? (d2.add 1)=some (.slice eo aD c1)/\
          (∃ρ,c4.drew.cell? ⟨aa,0,none⟩=some (.int .i64 ρ)/\
           (∃gp bu c2,c4.drew.cell? ⟨aa,1,none⟩=some (.slice gp bu c2)/\
            (ν (decide (64<=bu)) (
            ξ gp λd3=>
            ∃(bz:aj),bz.size=64/\aB c4.drew d3 bz.toList/\
            (ν (decide (0<=ρ)) (
            ν (decide (ρ<((aD:Nat):Int))) (
            ξ eo λd4=>
            ν (decide (bz.size=64)) (
            a6 c4.drew (d4.add (ρ.toNat*64)) bz.toList/\∀cm,cm=c4.drew.setCells (d4.add (ρ.toNat*64)).block (d4.add (ρ.toNat*64)).off bz.toList->
            (∃kh,cm.drew.cell? ⟨t2,0,none⟩=some (.pointer kh)/\
            (∃rG,cm.drew.cell? ⟨t2,0,none⟩=some (.pointer rG)/\
            (ξ rG λd5=>
            ∃jv dU bP,cm.drew.cell? (d5.add 2)=some (.slice jv dU bP)/\
            (∃ad,cm.drew.cell? ⟨aa,0,none⟩=some (.int .i64 ad)/\
            (∃fv jK h0,cm.drew.cell? ⟨aa,1,none⟩=some (.slice fv jK h0)/\
            (ν (decide (64<=jK)) (
            ξ fv λd6=>
            ∃(bO:aj),bO.size=64/\aB cm.drew d6 bO.toList/\
            (ξ (Instr.fill (λi=>[(0,1),(1,64)].toArray[i]?) #[(0:Int),.int .u8 0,.int .u8 0,.int .u8 0,.int .u8 0,.int .u8 0,.int .u8 0,.int .u8 0,.int .u8 0,.int .u8 0,.int .u8 0,.int .u8 0,.int .u8 0,.int .u8 0,.int .u8 0,.int .u8 0,.int .u8 0,.int .u8 0,.int .u8 0,.int .u8 0,.int .u8 0,.int .u8 0,.int .u8 0,.int .u8 0,.int .u8 0,.int .u8 0,.int .u8 0,.int .u8 0,.int .u8 0,.int .u8 0,.int .u8 0,.int .u8 0,.int .u8 0,.int .u8 0,.int .u8 0,.int .u8 0,.int .u8 0,.int .u8 0,.int .u8 0,.int .u8 0,.int .u8 0,.int .u8 0,.int .u8 0,.int .u8 0,.int .u8 0,.int .u8 0,.int .u8 0,.int .u8 0,.int .u8 0,.int .u8 0,.int .u8 0,.int .u8 0,.int .u8 0,.int .u8 0,.int .u8 0,.int .u8 0,.int .u8 0,.int .u8 0,.int .u8 0,.int .u8 0,.int .u8 0,.int .u8 0,.int .u8 0,.int .u8 0,.int .u8 0] [(0,(.int .i64 ad)),(1,(.agg bO))]) λbC=>
            ξ (Instr.fill (λi=>some (i*65,65)) (madeCells #[(0:Int),.int .u8 0,.int .u8 0,.int .u8 0,.int .u8 0,.int .u8 0,.int .u8 0,.int .u8 0,.int .u8 0,.int .u8 0,.int .u8 0,.int .u8 0,.int .u8 0,.int .u8 0,.int .u8 0,.int .u8 0,.int .u8 0,.int .u8 0,.int .u8 0,.int .u8 0,.int .u8 0,.int .u8 0,.int .u8 0,.int .u8 0,.int .u8 0,.int .u8 0,.int .u8 0,.int .u8 0,.int .u8 0,.int .u8 0,.int .u8 0,.int .u8 0,.int .u8 0,.int .u8 0,.int .u8 0,.int .u8 0,.int .u8 0,.int .u8 0,.int .u8 0,.int .u8 0,.int .u8 0,.int .u8 0,.int .u8 0,.int .u8 0,.int .u8 0,.int .u8 0,.int .u8 0,.int .u8 0,.int .u8 0,.int .u8 0,.int .u8 0,.int .u8 0,.int .u8 0,.int .u8 0,.int .u8 0,.int .u8 0,.int .u8 0,.int .u8 0,.int .u8 0,.int .u8 0,.int .u8 0,.int .u8 0,.int .u8 0,.int .u8 0,.int .u8 0] (1*65)) [(0,(.agg bC))]) λb0=>
            aK cm.drew b0 189 λdR cE=>
            cE.cell? (d5.add 2)=some (.slice jv dU bP)/\
            (cE.cell? ⟨t2,0,none⟩=some (.pointer rG)/\
            (cE.cell? ⟨t2,0,none⟩=some (.pointer kh)/\
            (ho cE jv dU bP 1 (bd cE (some ⟨dR,0,none⟩)) 189 65 72 #[(0:Int),.int .u8 0,.int .u8 0,.int .u8 0,.int .u8 0,.int .u8 0,.int .u8 0,.int .u8 0,.int .u8 0,.int .u8 0,.int .u8 0,.int .u8 0,.int .u8 0,.int .u8 0,.int .u8 0,.int .u8 0,.int .u8 0,.int .u8 0,.int .u8 0,.int .u8 0,.int .u8 0,.int .u8 0,.int .u8 0,.int .u8 0,.int .u8 0,.int .u8 0,.int .u8 0,.int .u8 0,.int .u8 0,.int .u8 0,.int .u8 0,.int .u8 0,.int .u8 0,.int .u8 0,.int .u8 0,.int .u8 0,.int .u8 0,.int .u8 0,.int .u8 0,.int .u8 0,.int .u8 0,.int .u8 0,.int .u8 0,.int .u8 0,.int .u8 0,.int .u8 0,.int .u8 0,.int .u8 0,.int .u8 0,.int .u8 0,.int .u8 0,.int .u8 0,.int .u8 0,.int .u8 0,.int .u8 0,.int .u8 0,.int .u8 0,.int .u8 0,.int .u8 0,.int .u8 0,.int .u8 0,.int .u8 0,.int .u8 0,.int .u8 0,.int .u8 0] λXC jk da=>
            da.cell? ⟨t2,0,none⟩=some (.pointer kh)/\
            (ξ kh λd7=>
            (da.cell? (d7.add 2)).isSome=true/\da.frozen? (d7.add 2)=false/\∀dp,dp=da.setCell (d7.add 2) (.slice XC (dU+1) jk)->
            (a1 t2 NV NU Sb t19 (IntKind.i64.wrap (t20+1)) dp)))))))))))))))))))))))) (ai R)))))))) (
  R (.returned (.int .i64 0)) w)
def sP.bb:=oc sP.δ
def sP.main(a0 gQ:γ)(fy gS:Nat)(w:World)(R:au):Prop:=
 aK w #[.pointer a0] 23 λδ ε=>
 ∃ae,ε.cell? ⟨δ,0,none⟩=some (.pointer ae)/\
 (κ prog 35 #[.pointer ae] ε (λv1 υ=>
  br .i64 v1 λθ=>
  cond (θ !=0) (
   R (.returned (.int .i64 θ)) υ) (
   κ prog 103 #[.slice gQ fy gS,.func (.func 104) #[] #[]] υ (λv2 ao=>
    dF v2 λζ=>
    cond ζ (
     R (.returned (.int .i64 6)) ao) (
     κ prog 103 #[.slice gQ fy gS,.func (.func 105) #[] #[.pointer (some ⟨δ,0,none⟩)]] ao (λv3 aZ=>
      dF v3 λax=>
      cond ax (
       R (.returned (.int .i64 5)) aZ) (
       sP.bb δ gQ fy gS ((fy:Nat):Int) 0 aZ R)) (ai R))) (ai R))) (ai R))
abbrev sP.C(a0 gQ:γ)(fy gS:Nat):=Calls prog 63 #[.pointer a0,.slice gQ fy gS]
theorem sP.ok:lu sP.main sP.C:=λ{_ _ _ _ _ R}h=>fo func63 [.tmp 4] 54 (.seq .leaf (.seq .leaf (.seq .leaf (.seq .leaf (.seq (.seq .leaf (.block (.loop [(2,.cA),(18,.slice),(19,.int .i64),(20,.int .i64)] (sP.bb · · · · · · · R) λa1=>.leaf))) .leaf))))) h
def qn.aV(t2 t3:Nat)(t4:Int)(w:World)(R:au):Prop:=
 cond (t4==0) (
  ∃(hK:aj),hK.size=24/\aB w.drew ⟨t2,0,none⟩ hK.toList/\
  (∃(kb:aj),kb.size=2/\aB w.drew ⟨t3,0,none⟩ kb.toList/\
   (ν (decide (hK.size=24)) (
    a6 w.drew ⟨t2,0,none⟩ hK.toList/\∀eE,eE=w.drew.setCells (⟨t2,0,none⟩:Addr).block (⟨t2,0,none⟩:Addr).off hK.toList->
    (ν (decide (kb.size=2)) (
     aB eE ⟨t3,0,none⟩ kb.toList/\
     (ν (decide (kb.size=2)) (
      a6 eE ⟨t3,0,none⟩ kb.toList/\∀ey,ey=eE.setCells (⟨t3,0,none⟩:Addr).block (⟨t3,0,none⟩:Addr).off kb.toList->
      (∃(kO:aj),kO.size=24/\aB ey ⟨t2,0,none⟩ kO.toList/\
       (∃(kP:aj),kP.size=2/\aB ey ⟨t3,0,none⟩ kP.toList/\
        (R (.returned (.tuple #[.agg kO,.agg kP,(0:Int),(11:Int)])) ey))))))))))) (
  ∃(iG:aj),iG.size=24/\aB w.drew ⟨t2,0,none⟩ iG.toList/\
  (∃(iH:aj),iH.size=2/\aB w.drew ⟨t3,0,none⟩ iH.toList/\
   (ν (decide (iG.size=24)) (
    a6 w.drew ⟨t2,0,none⟩ iG.toList/\∀dM,dM=w.drew.setCells (⟨t2,0,none⟩:Addr).block (⟨t2,0,none⟩:Addr).off iG.toList->
    (ν (decide (iH.size=2)) (
     aB dM ⟨t3,0,none⟩ iH.toList/\
     (ν (decide (iH.size=2)) (
      a6 dM ⟨t3,0,none⟩ iH.toList/\∀eg,eg=dM.setCells (⟨t3,0,none⟩:Addr).block (⟨t3,0,none⟩:Addr).off iH.toList->
      (∃(kQ:aj),kQ.size=24/\aB eg ⟨t2,0,none⟩ kQ.toList/\
       (∃(kR:aj),kR.size=2/\aB eg ⟨t3,0,none⟩ kR.toList/\
        (R (.returned (.tuple #[.agg kQ,.agg kR,t4,(0:Int)])) eg)))))))))))
def qn.δ(t0:γ)(t2 t3:Nat)(t4 t17:Int)(w:World)(R:au)(a1:γ->Nat->Nat->Int->Int->al):Prop:=
 cond (decide (t17<2)) (
  κ prog 100 #[t17] w (λv1 an=>
   br .i64 v1 λθ=>
   κ prog 106 #[.pointer t0,θ] an (λv2 a8=>
    b7 v2 λbN=>
    ξ (bN[0]?) λv3=>
    cX v3 λae aD c1=>
    ξ (bN[1]?) λv4=>
    br .i64 v4 λρ=>
    cond (ρ==10) (
     a6 a8 ⟨t2,0,none⟩ [(.int .i64 0),(.int .i64 0),(.int .i64 0),(.int .i64 0),(.int .i64 0),(.int .i64 0),(.int .i64 0),(.int .i64 0),(.int .i64 0),(.int .i64 0),(.int .i64 0),(.int .i64 0),(.int .i64 0),(.int .i64 0),(.int .i64 0),(.int .i64 0),(.slice none 0 0),(.slice none 0 0),(.slice none 0 0),(.slice none 0 0),(.slice none 0 0),(.slice none 0 0),(.slice none 0 0),(.slice none 0 0)]/\∀bW,bW=a8.setCells (⟨t2,0,none⟩:Addr).block (⟨t2,0,none⟩:Addr).off [(.int .i64 0),(.int .i64 0),(.int .i64 0),(.int .i64 0),(.int .i64 0),(.int .i64 0),(.int .i64 0),(.int .i64 0),(.int .i64 0),(.int .i64 0),(.int .i64 0),(.int .i64 0),(.int .i64 0),(.int .i64 0),(.int .i64 0),(.int .i64 0),(.slice none 0 0),(.slice none 0 0),(.slice none 0 0),(.slice none 0 0),(.slice none 0 0),(.slice none 0 0),(.slice none 0 0),(.slice none 0 0)]->
     (a6 bW ⟨t3,0,none⟩ [(.int .i64 0),(.int .i64 0)]/\∀c4,c4=bW.setCells (⟨t3,0,none⟩:Addr).block (⟨t3,0,none⟩:Addr).off [(.int .i64 0),(.int .i64 0)]->
      (∃(b0:aj),b0.size=24/\aB c4 ⟨t2,0,none⟩ b0.toList/\
       (∃(dr:aj),dr.size=2/\aB c4 ⟨t3,0,none⟩ dr.toList/\
        (R (.returned (.tuple #[.agg b0,.agg dr,(0:Int),ρ])) c4))))) (
     κ prog 107 #[.slice ae aD c1] a8 (λv5 cd=>
      b7 v5 λeY=>
      ξ (eY[0]?) λv6=>
      cv v6 λfu=>
      ξ (eY[1]?) λfm=>
      cv fm λfD=>
      ξ (eY[2]?) λa7=>
      br .i64 a7 λad=>
      ξ (eY[3]?) λv9=>
      br .i64 v9 λaC=>
      aK cd #[(0:Int),(0:Int),(0:Int),(0:Int),(0:Int),(0:Int),(0:Int),(0:Int),(0:Int),(0:Int),(0:Int),(0:Int),(0:Int),(0:Int),(0:Int),(0:Int),.slice none 0 0,.slice none 0 0,.slice none 0 0,.slice none 0 0,.slice none 0 0,.slice none 0 0,.slice none 0 0,.slice none 0 0] 89 λax cE=>
      aK cE #[(0:Int),(0:Int)] 28 λaa da=>
      ν (decide (fu.size=24)) (
       a6 da ⟨ax,0,none⟩ fu.toList/\∀dp,dp=da.setCells (⟨ax,0,none⟩:Addr).block (⟨ax,0,none⟩:Addr).off fu.toList->
       (ν (decide (fD.size=2)) (
         a6 dp ⟨aa,0,none⟩ fD.toList/\∀ed,ed=dp.setCells (⟨aa,0,none⟩:Addr).block (⟨aa,0,none⟩:Addr).off fD.toList->
         (cond (aC==0) (
          cond (decide (ad>t4)) (
           ∃(fE:aj),fE.size=24/\aB ed.drew ⟨ax,0,none⟩ fE.toList/\
           (∃(hJ:aj),hJ.size=2/\aB ed.drew ⟨aa,0,none⟩ hJ.toList/\
            (ν (decide (fE.size=24)) (
            a6 ed.drew ⟨t2,0,none⟩ fE.toList/\∀dP,dP=ed.drew.setCells (⟨t2,0,none⟩:Addr).block (⟨t2,0,none⟩:Addr).off fE.toList->
            (ν (decide (hJ.size=2)) (
            aB dP ⟨aa,0,none⟩ hJ.toList/\
            (ν (decide (hJ.size=2)) (
            a6 dP ⟨t3,0,none⟩ hJ.toList/\∀eO,eO=dP.setCells (⟨t3,0,none⟩:Addr).block (⟨t3,0,none⟩:Addr).off hJ.toList->
            (a1 t0 t2 t3 ad (IntKind.i64.wrap (t17+1)) eO))))))))) (
           a1 t0 t2 t3 t4 (IntKind.i64.wrap (t17+1)) ed)) (
          a1 t0 t2 t3 t4 (IntKind.i64.wrap (t17+1)) ed)))))) (ai R))) (ai R)) (ai R)) (
  qn.aV t2 t3 t4 w R)
def qn.bb:=yH qn.δ
def qn.main(a0:γ)(w:World)(R:au):Prop:=
 aK w #[(0:Int),(0:Int),(0:Int),(0:Int),(0:Int),(0:Int),(0:Int),(0:Int),(0:Int),(0:Int),(0:Int),(0:Int),(0:Int),(0:Int),(0:Int),(0:Int),.slice none 0 0,.slice none 0 0,.slice none 0 0,.slice none 0 0,.slice none 0 0,.slice none 0 0,.slice none 0 0,.slice none 0 0] 89 λδ ε=>
 aK ε #[(0:Int),(0:Int)] 28 λζ υ=>
 cond (Option.isNone a0) (
  ∃(aE:aj),aE.size=24/\aB υ.drew ⟨δ,0,none⟩ aE.toList/\
  (∃(bz:aj),bz.size=2/\aB υ.drew ⟨ζ,0,none⟩ bz.toList/\
   (ν (decide (aE.size=24)) (
    a6 υ.drew ⟨δ,0,none⟩ aE.toList/\∀χ,χ=υ.drew.setCells (⟨δ,0,none⟩:Addr).block (⟨δ,0,none⟩:Addr).off aE.toList->
    (ν (decide (bz.size=2)) (
     aB χ ⟨ζ,0,none⟩ bz.toList/\
     (ν (decide (bz.size=2)) (
      a6 χ ⟨ζ,0,none⟩ bz.toList/\∀ao,ao=χ.setCells (⟨ζ,0,none⟩:Addr).block (⟨ζ,0,none⟩:Addr).off bz.toList->
      (∃(bO:aj),bO.size=24/\aB ao ⟨δ,0,none⟩ bO.toList/\
       (∃(bC:aj),bC.size=2/\aB ao ⟨ζ,0,none⟩ bC.toList/\
        (R (.returned (.tuple #[.agg bO,.agg bC,(0:Int),(1:Int)])) ao))))))))))) (
  qn.bb a0 δ ζ 0 0 υ R)
abbrev qn.C(a0:γ):=Calls prog 64 #[.pointer a0]
theorem qn.ok:iS qn.main qn.C:=λ{_ _ R}h=>fo func64 [.cell 2 89,.cell 3 28,.tmp 4,.tmp 5] 57 (.seq .leaf (.seq .leaf (.cut [(2,.cA),(3,.cA),(4,.int .i64)] (qn.aV · · · · R) (.seq .leaf (.block (.loop [(0,.ptr),(2,.cA),(3,.cA),(4,.int .i64),(17,.int .i64)] (qn.bb · · · · · · R) λa1=>.leaf))) .leaf))) h
def u0.δ(t0:γ)(t1:Int)(oO:γ)(oq qo:Nat)(t23:Int)(w:World)(R:au)(a1:γ->Int->γ->Nat->Nat->Int->al):Prop:=
 cond (decide (t23<16)) (
  κ prog 23 #[.pointer t0,(IntKind.i64.wrap (24+t23))] w (λv1 ε=>
   b7 v1 λbN=>
   ξ (bN[0]?) λv2=>
   cX v2 λae aD c1=>
   ξ (bN[1]?) λv3=>
   br .i64 v3 λθ=>
   cond (θ !=0) (
    R (.returned (.tuple #[.slice none 0 0,(0:Int),θ])) ε) (
    κ prog 108 #[.slice ae aD c1,t1,t23] ε (λv4 χ=>
     b7 v4 λeY=>
     ξ (eY[0]?) λv5=>
     cX v5 λaX bu c2=>
     ξ (eY[1]?) λv6=>
     dF v6 λδ=>
     cond (!δ) (
      R (.returned (.tuple #[.slice oO oq qo,t23,(0:Int)])) χ) (
      ho χ oO oq qo bu (bd χ aX) 155 5 48 #[(0:Int),(0:Int),(0:Int),(0:Int),.complex .f64 0 0] λbj bP an=>
      a1 t0 t1 bj (oq+bu) bP (IntKind.i64.wrap (t23+1)) an)) (ai R))) (ai R)) (
  R (.returned (.tuple #[.slice oO oq qo,(16:Int),(0:Int)])) w)
def u0.bb:=oc u0.δ
def u0.main(a0:γ)(aw:Int)(w:World)(R:au):Prop:=
 cond (Option.isNone a0) (
  R (.returned (.tuple #[.slice none 0 0,(0:Int),(1:Int)])) w) (
  cond (decide (aw<1)) (
   R (.returned (.tuple #[.slice none 0 0,(0:Int),(1:Int)])) w) (
   cond (decide (aw>1073741824)) (
    R (.returned (.tuple #[.slice none 0 0,(0:Int),(1:Int)])) w) (
    u0.bb a0 aw none 0 0 0 w R)))
abbrev u0.C(a0:γ)(aw:Int):=Calls prog 65 #[.pointer a0,aw]
theorem u0.ok:kn u0.main u0.C:=λ{_ _ _ R}h=>fo func65 [.tmp 4,.tmp 5,.tmp 6] 52 (.seq .leaf (.seq .leaf (.seq .leaf (.seq (.seq .leaf (.block (.loop [(0,.ptr),(1,.int .i64),(7,.slice),(23,.int .i64)] (u0.bb · · · · · · · R) λa1=>.leaf))) .leaf)))) h
def uc.δ(t2 t4:Nat)(R9:γ)(R8 Yz:Nat)(t17 t18:Int)(w:World)(R:au)(a1:Nat->Nat->γ->Nat->Nat->Int->Int->al):Prop:=
 cond (decide (t18<t17)) (
  ν (decide (0<=t18)) (
   ν (decide (t18<((R8:Nat):Int))) (
    ξ R9 λd1=>
    ∃(b0:aj),b0.size=5/\aB w (d1.add (t18.toNat*5)) b0.toList/\
    (aK w #[(0:Int),(0:Int),(0:Int),(0:Int),.complex .f64 0 0] 155 λaa bW=>
     ν (decide (b0.size=5)) (
      a6 bW ⟨aa,0,none⟩ b0.toList/\∀c4,c4=bW.setCells (⟨aa,0,none⟩:Addr).block (⟨aa,0,none⟩:Addr).off b0.toList->
      (∃(dr:aj),dr.size=5/\aB c4 ⟨aa,0,none⟩ dr.toList/\
       (κ prog 109 #[.pointer (some ⟨t2,0,none⟩),.agg dr] c4 (λv3 cd=>
        br .i64 v3 λθ=>
        cond (θ !=0) (
         a6 cd ⟨t4,0,none⟩ [(.int .i64 0),(.int .i64 0),(.int .i64 0),(.int .i64 0),(.int .i64 0),(.int .i64 0),(.int .i64 0),(.int .i64 0),(.int .i64 0),(.int .i64 0),(.int .i64 0),(.int .i64 0),(.int .i64 0),(.int .i64 0),(.int .i64 0),(.int .i64 0),(.slice none 0 0),(.slice none 0 0),(.slice none 0 0),(.slice none 0 0),(.slice none 0 0),(.slice none 0 0),(.slice none 0 0),(.slice none 0 0)]/\∀cE,cE=cd.setCells (⟨t4,0,none⟩:Addr).block (⟨t4,0,none⟩:Addr).off [(.int .i64 0),(.int .i64 0),(.int .i64 0),(.int .i64 0),(.int .i64 0),(.int .i64 0),(.int .i64 0),(.int .i64 0),(.int .i64 0),(.int .i64 0),(.int .i64 0),(.int .i64 0),(.int .i64 0),(.int .i64 0),(.int .i64 0),(.int .i64 0),(.slice none 0 0),(.slice none 0 0),(.slice none 0 0),(.slice none 0 0),(.slice none 0 0),(.slice none 0 0),(.slice none 0 0),(.slice none 0 0)]->
         (∃(fu:aj),fu.size=24/\aB cE ⟨t4,0,none⟩ fu.toList/\
          (R (.returned (.tuple #[.agg fu,t18,θ])) cE))) (
         a1 t2 t4 R9 R8 Yz t17 (IntKind.i64.wrap (t18+1)) cd)) (ai R)))))))) (
  ∃(fD:aj),fD.size=24/\aB w ⟨t2,0,none⟩ fD.toList/\
  (ν (decide (fD.size=24)) (
    a6 w ⟨t4,0,none⟩ fD.toList/\∀da,da=w.setCells (⟨t4,0,none⟩:Addr).block (⟨t4,0,none⟩:Addr).off fD.toList->
    (∃(fE:aj),fE.size=24/\aB da ⟨t4,0,none⟩ fE.toList/\
     (R (.returned (.tuple #[.agg fE,(0:Int),(0:Int)])) da)))))
def uc.bb:=DC uc.δ
def uc.main(a0:aj)(gQ:γ)(fy gS:Nat)(w:World)(R:au):Prop:=
 aK w a0 89 λδ ε=>
 aK ε #[(0:Int),(0:Int),(0:Int),(0:Int),(0:Int),(0:Int),(0:Int),(0:Int),(0:Int),(0:Int),(0:Int),(0:Int),(0:Int),(0:Int),(0:Int),(0:Int),.slice none 0 0,.slice none 0 0,.slice none 0 0,.slice none 0 0,.slice none 0 0,.slice none 0 0,.slice none 0 0,.slice none 0 0] 89 λζ υ=>
 ∃(aE:aj),aE.size=24/\aB υ ⟨δ,0,none⟩ aE.toList/\
 (κ prog 69 #[.agg aE] υ (λv1 χ=>
  dF v1 λax=>
  cond (!ax) (
   a6 χ ⟨ζ,0,none⟩ [(.int .i64 0),(.int .i64 0),(.int .i64 0),(.int .i64 0),(.int .i64 0),(.int .i64 0),(.int .i64 0),(.int .i64 0),(.int .i64 0),(.int .i64 0),(.int .i64 0),(.int .i64 0),(.int .i64 0),(.int .i64 0),(.int .i64 0),(.int .i64 0),(.slice none 0 0),(.slice none 0 0),(.slice none 0 0),(.slice none 0 0),(.slice none 0 0),(.slice none 0 0),(.slice none 0 0),(.slice none 0 0)]/\∀an,an=χ.setCells (⟨ζ,0,none⟩:Addr).block (⟨ζ,0,none⟩:Addr).off [(.int .i64 0),(.int .i64 0),(.int .i64 0),(.int .i64 0),(.int .i64 0),(.int .i64 0),(.int .i64 0),(.int .i64 0),(.int .i64 0),(.int .i64 0),(.int .i64 0),(.int .i64 0),(.int .i64 0),(.int .i64 0),(.int .i64 0),(.int .i64 0),(.slice none 0 0),(.slice none 0 0),(.slice none 0 0),(.slice none 0 0),(.slice none 0 0),(.slice none 0 0),(.slice none 0 0),(.slice none 0 0)]->
   (∃(bz:aj),bz.size=24/\aB an ⟨ζ,0,none⟩ bz.toList/\
    (R (.returned (.tuple #[.agg bz,(0:Int),(2:Int)])) an))) (
   ∃(bO:aj),bO.size=24/\aB χ ⟨δ,0,none⟩ bO.toList/\
   (κ prog 85 #[.agg bO] χ (λv2 aZ=>
     cv v2 λbC=>
     ν (decide (bC.size=24)) (
      a6 aZ ⟨δ,0,none⟩ bC.toList/\∀bV,bV=aZ.setCells (⟨δ,0,none⟩:Addr).block (⟨δ,0,none⟩:Addr).off bC.toList->
      (uc.bb δ ζ gQ fy gS ((fy:Nat):Int) 0 bV R))) (ai R)))) (ai R))
abbrev uc.C(a0:aj)(gQ:γ)(fy gS:Nat):=Calls prog 66 #[.agg a0,.slice gQ fy gS]
theorem uc.ok:lu uc.main uc.C:=λ{_ _ _ _ _ R}h=>fo func66 [.cell 4 89,.tmp 5,.tmp 6] 32 (.seq .leaf (.seq .leaf (.seq .leaf (.seq (.seq .leaf (.block (.loop [(2,.cA),(4,.cA),(16,.slice),(17,.int .i64),(18,.int .i64)] (uc.bb · · · · · · · · R) λa1=>.leaf))) .leaf)))) h
def GK.main(a0:aj)(e8 e9:Int)(w:World)(R:au):Prop:=
 aK w a0 89 λδ ε=>
 aK ε #[e8,e9] 28 λζ υ=>
 ∃(aE:aj),aE.size=24/\aB υ ⟨δ,0,none⟩ aE.toList/\
 (∃(bz:aj),bz.size=2/\aB υ ⟨ζ,0,none⟩ bz.toList/\
  (κ prog 87 #[.agg aE,.agg bz] υ (λv1 χ=>
   br .i64 v1 λθ=>
   cond (θ !=0) (
    R (.returned (.int .i64 θ)) χ) (
    ∃(bO:aj),bO.size=2/\aB χ ⟨ζ,0,none⟩ bO.toList/\
    (κ prog 83 #[.agg bO] χ (λv2 an=>
     b7 v2 λbN=>
     ξ (bN[0]?) λv3=>
     br .i64 v3 λρ=>
     ξ (bN[1]?) λv4=>
     br .i64 v4 λad=>
     ∃(bC:aj),bC.size=24/\aB an ⟨δ,0,none⟩ bC.toList/\
     (κ prog 110 #[.agg bC] an (λv5 a8=>
      rf v5 λcM=>
      W6 a8 cM λaC=>
      cond (decide (aC>ρ)) (
       R (.returned (.int .i64 9)) a8) (
       R (.returned (.int .i64 0)) a8)) (ai R))) (ai R)))) (ai R)))
abbrev GK.C(a0:aj)(e8 e9:Int):=Calls prog 67 #[.agg a0,.agg #[e8,e9]]
theorem GK.ok:ji GK.main GK.C:=λh=>dA func67 [.tmp 4] 24 h
def Hx.main(bG:γ)(bf bD:Nat)(aw:Int)(w:World)(R:au):Prop:=
 κ prog 111 #[.slice bG bf bD,aw] w (λv1 ε=>
  br .i64 v1 λθ=>
  R (.returned (.bool (decide (θ>=0)))) ε) (ai R)
abbrev Hx.C(bG:γ)(bf bD:Nat)(aw:Int):=Calls prog 68 #[.slice bG bf bD,aw]
theorem Hx.ok:lu Hx.main Hx.C:=λh=>dA func68 [.tmp 4] 9 h
def ud.δ(t1:Nat)(t7:aj)(t8:Int)(w:World)(R:au)(a1:Nat->aj->Int->al):Prop:=
 cond (decide (t8<8)) (
  ν (decide (0<=t8)) (
   ν (decide (t8<(8:Int))) (
    aK w #[(0:Int),(0:Int)] 84 λζ υ=>
    ν (decide ((t7.extract (t8.toNat*2) ((t8.toNat*2)+2)).size=2)) (
     a6 υ ⟨ζ,0,none⟩ ((t7.extract (t8.toNat*2) ((t8.toNat*2)+2)).toList)/\∀χ,χ=υ.setCells (⟨ζ,0,none⟩:Addr).block (⟨ζ,0,none⟩:Addr).off ((t7.extract (t8.toNat*2) ((t8.toNat*2)+2)).toList)->
     (ν (decide (0<=t8)) (
      ν (decide (t8<(8:Int))) (
       ∃ae aD c1,χ.cell? (Addr.add ⟨t1,16,none⟩ (t8.toNat*1))=some (.slice ae aD c1)/\
       (∃θ,χ.cell? ⟨ζ,1,none⟩=some (.int .i64 θ)/\
        (cond (((aD:Nat):Int)!=θ) (
         R (.returned (.bool false)) χ) (
         ∃ρ,χ.cell? ⟨ζ,0,none⟩=some (.int .i64 ρ)/\
         (cond (ρ==0) (
          ∃ad,χ.cell? ⟨ζ,1,none⟩=some (.int .i64 ad)/\
          (cond (ad !=0) (
          R (.returned (.bool false)) χ) (
          ∃aC,χ.cell? ⟨ζ,0,none⟩=some (.int .i64 aC)/\
          (κ prog 112 #[aC,(0:Int),(3:Int)] χ (λv1 ao=>
          dF v1 λax=>
          cond (!ax) (
          R (.returned (.bool false)) ao) (
          ∃ay,ao.cell? ⟨ζ,0,none⟩=some (.int .i64 ay)/\
          (cond (ay !=0) (
          ∃aM,ao.cell? ⟨ζ,1,none⟩=some (.int .i64 aM)/\
          (κ prog 112 #[aM,(1:Int),(33:Int)] ao (λv2 aZ=>
          dF v2 λaa=>
          cond (!aa) (
          R (.returned (.bool false)) aZ) (
          κ prog 113 #[.slice ae aD c1,.func (.func 114) #[] #[]] aZ (λv5 cm=>
          dF v5 λgu=>
          cond gu (
          R (.returned (.bool false)) cm) (
          a1 t1 t7 (IntKind.i64.wrap (t8+1)) cm)) (ai R))) (ai R))) (
          κ prog 113 #[.slice ae aD c1,.func (.func 114) #[] #[]] ao (λv6 da=>
          dF v6 λkp=>
          cond kp (
          R (.returned (.bool false)) da) (
          a1 t1 t7 (IntKind.i64.wrap (t8+1)) da)) (ai R))))) (ai R))))) (
          ∃aU,χ.cell? ⟨ζ,0,none⟩=some (.int .i64 aU)/\
          (κ prog 112 #[aU,(0:Int),(3:Int)] χ (λv3 bV=>
          dF v3 λcu=>
          cond (!cu) (
          R (.returned (.bool false)) bV) (
          ∃cj,bV.cell? ⟨ζ,0,none⟩=some (.int .i64 cj)/\
          (cond (cj !=0) (
          ∃ct,bV.cell? ⟨ζ,1,none⟩=some (.int .i64 ct)/\
          (κ prog 112 #[ct,(1:Int),(33:Int)] bV (λv4 c4=>
          dF v4 λdR=>
          cond (!dR) (
          R (.returned (.bool false)) c4) (
          κ prog 113 #[.slice ae aD c1,.func (.func 114) #[] #[]] c4 (λfm ed=>
          dF fm λk5=>
          cond k5 (
          R (.returned (.bool false)) ed) (
          a1 t1 t7 (IntKind.i64.wrap (t8+1)) ed)) (ai R))) (ai R))) (
          κ prog 113 #[.slice ae aD c1,.func (.func 114) #[] #[]] bV (λa7 eO=>
          dF a7 λnY=>
          cond nY (
          R (.returned (.bool false)) eO) (
          a1 t1 t7 (IntKind.i64.wrap (t8+1)) eO)) (ai R))))) (ai R)))))))))))))) (
  R (.returned (.bool true)) w)
def ud.bb:=DB ud.δ
def ud.main(a0:aj)(w:World)(R:au):Prop:=
 aK w a0 89 λδ ε=>
 ∃(aE:aj),aE.size=16/\aB ε ⟨δ,0,none⟩ aE.toList/\
 (ud.bb δ aE 0 ε R)
abbrev ud.C(a0:aj):=Calls prog 69 #[.agg a0]
theorem ud.ok:iS ud.main ud.C:=λ{_ _ R}h=>fo func69 [.tmp 2] 51 (.seq .leaf (.seq (.seq .leaf (.block (.loop [(1,.cA),(7,.agg),(8,.int .i64)] (ud.bb · · · · R) λa1=>.leaf))) .leaf)) h
def Hh.main(w:World)(R:au):Prop:=
 aK w #[(0:Int),(0:Int),(0:Int),(0:Int),(0:Int),(0:Int),(0:Int),(0:Int),(0:Int),(0:Int),(0:Int),(0:Int),(0:Int),(0:Int),(0:Int),(0:Int),.pointer none,.pointer none,.pointer none,.pointer none,.pointer none,.pointer none,.pointer none,.pointer none] 144 λδ ε=>
 R (.returned (.pointer (some ⟨δ,0,none⟩))) ε
abbrev Hh.C:=Calls prog 70 #[]
theorem Hh.ok:Tk Hh.main Hh.C:=λh=>dA func70 [.tmp 0] 3 h
def AH.main(a0:Int)(w:World)(R:au):Prop:=
 cond (decide (a0<1)) (
  R (.returned (.tuple #[.pointer none,(1:Int)])) w) (
  cond (decide (a0>32)) (
   R (.returned (.tuple #[.pointer none,(1:Int)])) w) (
   ν (decide (0<=(IntKind.i64.wrap (Int.tdiv (IntKind.i64.wrap ((IntKind.i64.wrap (a0+8))-1)) 8)))) (
    ν (decide ((IntKind.i64.wrap (Int.tdiv (IntKind.i64.wrap ((IntKind.i64.wrap (a0+8))-1)) 8))<=(IntKind.i64.wrap (Int.tdiv (IntKind.i64.wrap ((IntKind.i64.wrap (a0+8))-1)) 8)))) (
     ν (decide ((8:Int)*(IntKind.i64.wrap (Int.tdiv (IntKind.i64.wrap ((IntKind.i64.wrap (a0+8))-1)) 8))<=281474976710656/\(IntKind.i64.wrap (Int.tdiv (IntKind.i64.wrap ((IntKind.i64.wrap (a0+8))-1)) 8))<=9223372036854775807)) (
      aK w (madeCells #[.pointer none] ((IntKind.i64.wrap (Int.tdiv (IntKind.i64.wrap ((IntKind.i64.wrap (a0+8))-1)) 8)).toNat*1)) 250 λδ ε=>
      aK ε #[a0,.slice (some ⟨δ,0,none⟩) ((IntKind.i64.wrap (Int.tdiv (IntKind.i64.wrap ((IntKind.i64.wrap (a0+8))-1)) 8)).toNat) ((IntKind.i64.wrap (Int.tdiv (IntKind.i64.wrap ((IntKind.i64.wrap (a0+8))-1)) 8)).toNat)] 203 λζ υ=>
      R (.returned (.tuple #[.pointer (some ⟨ζ,0,none⟩),(0:Int)])) υ)))))
abbrev AH.C(a0:Int):=Calls prog 71 #[a0]
theorem AH.ok:iS AH.main AH.C:=λh=>dA func71 [.tmp 2,.tmp 3] 18 h
def H5.main(a0:γ)(aw:Int)(q6 q5:Nat)(w:World)(R:au):Prop:=
 κ prog 116 #[.pointer a0,aw] w (λv1 ε=>
  br .i64 v1 λθ=>
  cond (θ !=0) (
   R (.returned (.tuple #[.pointer none,θ])) ε) (
   κ prog 115 #[.complex .f64 q6 q5] ε (λv2 χ=>
    dF v2 λδ=>
    cond (!δ) (
     R (.returned (.tuple #[.pointer none,(2:Int)])) χ) (
     ξ (vq q6 0) λcM=>
     ξ (vq q5 0) λm1=>
     κ prog 117 #[.pointer a0,aw,.complex .f64 cM m1] χ (λv3 an=>
      gI v3 λae=>
      R (.returned (.tuple #[.pointer ae,(0:Int)])) an) (ai R))) (ai R))) (ai R)
abbrev H5.C(a0:γ)(aw:Int)(q6 q5:Nat):=Calls prog 72 #[.pointer a0,aw,.complex .f64 q6 q5]
theorem H5.ok:lu H5.main H5.C:=λh=>dA func72 [.tmp 6,.tmp 7] 23 h
def Ao.main(fM gH:Int)(w:World)(R:au):Prop:=
 aK w #[fM,gH] 28 λδ ε=>
 ∃θ,ε.cell? ⟨δ,0,none⟩=some (.int .i64 θ)/\
 (cond (decide (θ<6)) (
  R (.returned (.int .i64 1)) ε) (
  ∃ρ,ε.cell? ⟨δ,0,none⟩=some (.int .i64 ρ)/\
  (cond (decide (ρ>24)) (
   R (.returned (.int .i64 1)) ε) (
   ∃ad,ε.cell? ⟨δ,1,none⟩=some (.int .i64 ad)/\
   (cond (decide (ad<2)) (
    R (.returned (.int .i64 1)) ε) (
    ∃aC,ε.cell? ⟨δ,1,none⟩=some (.int .i64 aC)/\
    (cond (decide (aC>16)) (
     R (.returned (.int .i64 1)) ε) (
     R (.returned (.int .i64 0)) ε))))))))
abbrev Ao.C(fM gH:Int):=Calls prog 73 #[.agg #[fM,gH]]
theorem Ao.ok:kn Ao.main Ao.C:=λh=>dA func73 [.tmp 2] 21 h
def Av.main(a0:γ)(aw:Int)(w:World)(R:au):Prop:=
 cond (Option.isNone a0) (
  R (.returned (.tuple #[(0:Int),(1:Int)])) w) (
  κ prog 71 #[aw] w (λv1 ε=>
   b7 v1 λbN=>
   ξ (bN[0]?) λv2=>
   gI v2 λae=>
   ξ (bN[1]?) λv3=>
   br .i64 v3 λθ=>
   cond (θ !=0) (
    R (.returned (.tuple #[(0:Int),(5:Int)])) ε) (
    κ prog 118 #[.pointer a0] ε (λv4 χ=>
     b7 v4 λeY=>
     ξ (eY[0]?) λv5=>
     br .i64 v5 λρ=>
     ξ (eY[1]?) λv6=>
     br .i64 v6 λad=>
     cond (ad==0) (
      ξ a0 λd1=>
      ν (decide (0<=ρ)) (
       ν (decide (ρ<(8:Int))) (
        ξ a0 λd2=>
        a6 χ.drew (d1.add (ρ.toNat*2)) [(.int .i64 1),(.int .i64 aw)]/\∀an,an=χ.drew.setCells (d1.add (ρ.toNat*2)).block (d1.add (ρ.toNat*2)).off [(.int .i64 1),(.int .i64 aw)]->
        (ν (decide (0<=ρ)) (
         ν (decide (ρ<(8:Int))) (
          (an.cell? ((d2.add 16).add (ρ.toNat*1))).isSome=true/\an.frozen? ((d2.add 16).add (ρ.toNat*1))=false/\∀aZ,aZ=an.setCell ((d2.add 16).add (ρ.toNat*1)) (.pointer ae)->
          (R (.returned (.tuple #[ρ,ad])) aZ))))))) (
      R (.returned (.tuple #[ρ,ad])) χ)) (ai R))) (ai R))
abbrev Av.C(a0:γ)(aw:Int):=Calls prog 74 #[.pointer a0,aw]
theorem Av.ok:kn Av.main Av.C:=λh=>dA func74 [.tmp 4,.tmp 5] 40 h
end Go.Proofs.YtcpdfhkhaekekaaGreat.G

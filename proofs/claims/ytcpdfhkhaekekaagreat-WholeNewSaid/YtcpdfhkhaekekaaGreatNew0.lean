/- The law WholeNew of the given program is proved. Conditions: none. -/
import Derived.Test.YtcpdfhkhaekekaaGreatA15
set_option linter.unusedVariables false
set_option linter.unusedSimpArgs false
namespace Go.Proofs.YtcpdfhkhaekekaaGreat.G
open Tryz
open Go.bJ
set_option maxRecDepth 100000
def iP.b4(t10:γ)(t12:Int)(t13 t15:Nat)(w:World)(R:au):Prop:=
 ∃aC,w.cell? ⟨t15,1,none⟩=some (.int .i64 aC)/\
 (cond (aC !=0) (
  ∃ay,w.cell? ⟨t15,1,none⟩=some (.int .i64 ay)/\
  (R (.returned (.bool (ay==9))) w)) (
  ∃aM,w.cell? ⟨t13,2,none⟩=some (.int .i64 aM)/\
  (κ prog 14 #[.pointer t10,.agg #[(6:Int),aM,(IntKind.i64.wrap (t12-1)),(0:Int),.slice none 0 0]] w (λnS jT=>
   cv nS λfE=>
   aK jT #[(0:Int),(0:Int),(0:Int),.slice none 0 0,.slice none 0 0] 37 λkp mn=>
   ν (decide (fE.size=5)) (
    a6 mn ⟨kp,0,none⟩ fE.toList/\∀lN,lN=mn.setCells (⟨kp,0,none⟩:Addr).block (⟨kp,0,none⟩:Addr).off fE.toList->
    (∃aU,lN.drew.cell? ⟨kp,1,none⟩=some (.int .i64 aU)/\
     (cond (aU==0) (
      ∃cj,lN.drew.cell? ⟨t13,2,none⟩=some (.int .i64 cj)/\
      ((κ prog 17 #[.pointer t10,cj,(IntKind.i64.wrap (t12-1))] lN.drew (λv17 ns=>
         iI v17 λjO=>
         aK ns (madeCells #[.int .u8 0] (64*1)) 5 λk5 qX=>
         ∃(Gw:aq),Gw.length=64/\bd qX (some ⟨k5,0,none⟩) (Gw.map (.int .u8))/\
         (R (.returned (.bool (jO.toList==(strOf Gw).toList))) qX)) (ai R))/\
       (aK lN.drew (madeCells #[.int .u8 0] (64*1)) 5 λnY zg=>
        zg.cell? ⟨t13,2,none⟩=some (.int .i64 cj)/\
        (∃(QU:aq),QU.length=64/\bd zg (some ⟨nY,0,none⟩) (QU.map (.int .u8))/\
         (κ prog 17 #[.pointer t10,cj,(IntKind.i64.wrap (t12-1))] zg (λoR pE=>
          iI oR λmI=>
          ∃(Xh:aq),Xh.length=64/\bd pE (some ⟨nY,0,none⟩) (Xh.map (.int .u8))/\
          ((Value.string (strOf Xh))=(.string (strOf QU))/\
          (R (.returned (.bool (mI.toList==(strOf QU).toList))) pE))) (ai R)))))) (
      (R (.returned (.bool false)) lN.drew)/\
      (R (.returned (.bool false)) lN.drew)))))) (ai R))))
def iP.bK(t10:γ)(t12:Int)(t13:Nat)(w:World)(R:au):Prop:=
 ∃ad,w.drew.cell? ⟨t13,2,none⟩=some (.int .i64 ad)/\
 ((κ prog 15 #[.int .u8 7] w.drew (λv11 dM=>
    cX v11 λbj aD c1=>
    dM.cell? ⟨t13,2,none⟩=some (.int .i64 ad)/\
    ((κ prog 14 #[.pointer t10,.agg #[(5:Int),ad,(IntKind.i64.wrap (t12-1)),(0:Int),.slice bj aD c1]] dM (λv12 gr=>
       cv v12 λdr=>
       aK gr #[(0:Int),(0:Int),(0:Int),.slice none 0 0,.slice none 0 0] 37 λcu kX=>
       ν (decide (dr.size=5)) (
        a6 kX ⟨cu,0,none⟩ dr.toList/\∀fb,fb=kX.setCells (⟨cu,0,none⟩:Addr).block (⟨cu,0,none⟩:Addr).off dr.toList->
        (iP.b4 t10 t12 t13 cu fb R))) (ai R))/\
     (aK dM #[(0:Int),(0:Int),(0:Int),.slice none 0 0,.slice none 0 0] 37 λdR eJ=>
      (Value.agg #[(5:Int),ad,(IntKind.i64.wrap (t12-1)),(0:Int),.slice bj aD c1])=(.agg #[(5:Int),ad,(IntKind.i64.wrap (t12-1)),(0:Int),.slice bj aD c1])/\
      (eJ.cell? ⟨t13,2,none⟩=some (.int .i64 ad)/\
       (κ prog 14 #[.pointer t10,.agg #[(5:Int),ad,(IntKind.i64.wrap (t12-1)),(0:Int),.slice bj aD c1]] eJ (λkA gh=>
         cv kA λfu=>
         ν (decide (fu.size=5)) (
          a6 gh ⟨dR,0,none⟩ fu.toList/\∀hv,hv=gh.setCells (⟨dR,0,none⟩:Addr).block (⟨dR,0,none⟩:Addr).off fu.toList->
          (iP.b4 t10 t12 t13 dR hv R))) (ai R)))))) (ai R))/\
  (aK w.drew #[(0:Int),(0:Int),(0:Int),.slice none 0 0,.slice none 0 0] 37 λgu nq=>
   nq.cell? ⟨t13,2,none⟩=some (.int .i64 ad)/\
   (κ prog 15 #[.int .u8 7] nq (λmM ga=>
     cX mM λeo bu c2=>
     ga.cell? ⟨t13,2,none⟩=some (.int .i64 ad)/\
     (κ prog 14 #[.pointer t10,.agg #[(5:Int),ad,(IntKind.i64.wrap (t12-1)),(0:Int),.slice eo bu c2]] ga (λnR kY=>
       cv nR λfD=>
       ν (decide (fD.size=5)) (
        a6 kY ⟨gu,0,none⟩ fD.toList/\∀kZ,kZ=kY.setCells (⟨gu,0,none⟩:Addr).block (⟨gu,0,none⟩:Addr).off fD.toList->
        (iP.b4 t10 t12 t13 gu kZ R))) (ai R))) (ai R))))
def iP.ζ(t10:γ)(t12:Int)(t13:Nat)(t14:Int)(w:World)(R:au)(gi:γ->Int->Nat->Int->al):Prop:=
 cond (decide (t14<t12)) (
  ∃ρ,w.drew.cell? ⟨t13,2,none⟩=some (.int .i64 ρ)/\
  ((κ prog 17 #[.pointer t10,ρ,t14] w.drew (λv9 dp=>
     iI v9 λs1=>
     aK dp (madeCells #[.int .u8 0] (64*1)) 5 λax dP=>
     ∃(lJ:aq),lJ.length=64/\bd dP (some ⟨ax,0,none⟩) (lJ.map (.int .u8))/\
     (cond (!(s1.toList==(strOf lJ).toList)) (
      R (.returned (.bool false)) dP) (
      gi t10 t12 t13 (IntKind.i64.wrap (t14+1)) dP))) (ai R))/\
   (aK w.drew (madeCells #[.int .u8 0] (64*1)) 5 λaa eO=>
    eO.cell? ⟨t13,2,none⟩=some (.int .i64 ρ)/\
    (∃(xj:aq),xj.length=64/\bd eO (some ⟨aa,0,none⟩) (xj.map (.int .u8))/\
     (κ prog 17 #[.pointer t10,ρ,t14] eO (λv10 eE=>
      iI v10 λs2=>
      ∃(Gv:aq),Gv.length=64/\bd eE (some ⟨aa,0,none⟩) (Gv.map (.int .u8))/\
      ((Value.string (strOf Gv))=(.string (strOf xj))/\
       (cond (!(s2.toList==(strOf xj).toList)) (
        R (.returned (.bool false)) eE) (
        gi t10 t12 t13 (IntKind.i64.wrap (t14+1)) eE)))) (ai R)))))) (
  iP.bK t10 t12 t13 w R)
def iP.eZ:=MF iP.ζ
def iP.aV(t3:Int)(t10:γ)(w:World)(R:au):Prop:=
 κ prog 14 #[.pointer t10,.agg #[(2:Int),(IntKind.i64.wrap (Int.tmod t3 8)),(0:Int),(0:Int),.slice none 0 0]] w (λfm bW=>
  cv fm λbC=>
  κ prog 14 #[.pointer t10,.agg #[(1:Int),(0:Int),(0:Int),(IntKind.i64.wrap (1+(IntKind.i64.wrap (Int.tmod t3 32)))),.slice none 0 0]] bW (λa7 cd=>
   cv a7 λb0=>
   aK cd #[(0:Int),(0:Int),(0:Int),.slice none 0 0,.slice none 0 0] 37 λζ cE=>
   ν (decide (b0.size=5)) (
    a6 cE ⟨ζ,0,none⟩ b0.toList/\∀da,da=cE.setCells (⟨ζ,0,none⟩:Addr).block (⟨ζ,0,none⟩:Addr).off b0.toList->
    (∃θ,da.cell? ⟨ζ,1,none⟩=some (.int .i64 θ)/\
     (cond (θ !=0) (
      R (.returned (.bool false)) da) (
      iP.eZ t10 (IntKind.i64.wrap (1+(IntKind.i64.wrap (Int.tmod t3 32)))) ζ 0 da R))))) (ai R)) (ai R)
def iP.δ(dw:γ)(dh ef:Nat)(t3:Int)(t10:γ)(t11:Int)(w:World)(R:au)(a1:γ->Nat->Nat->Int->γ->Int->al):Prop:=
 cond (decide (t11<((dh:Nat):Int))) (
  cond (decide (t11<60)) (
   ν (decide (0<=t11)) (
    ν (decide (t11<((dh:Nat):Int))) (
     ξ dw λd1=>
     ∃(bz:aj),bz.size=5/\aB w (d1.add (t11.toNat*5)) bz.toList/\
     (κ prog 14 #[.pointer t10,.agg bz] w (λv6 a8=>
      cv v6 λbO=>
      a1 dw dh ef t3 t10 (IntKind.i64.wrap (t11+1)) a8) (ai R))))) (
   iP.aV t3 t10 w R)) (
  iP.aV t3 t10 w R)
def iP.bb:=oc iP.δ
def iP.main(a0 aw:Int)(hI:γ)(ev ij:Nat)(a3:Int)(w:World)(R:au):Prop:=
 κ prog 12 #[.int .u8 a0,.int .u8 aw] w (λv1 ε=>
  cv v1 λaE=>
  κ prog 11 #[.agg aE] ε (λv2 χ=>
   b7 v2 λbN=>
   ξ (bN[0]?) λv3=>
   gI v3 λae=>
   ξ (bN[1]?) λv4=>
   gI v4 λaX=>
   cond (Option.isNone aX) (
    R (.returned (.bool false)) χ) (
    κ prog 13 #[] χ (λv5 an=>
     dF v5 λδ=>
     cond (!δ) (
      R (.returned (.bool false)) an) (
      iP.bb hI ev ij a3 aX 0 an R)) (ai R))) (ai R)) (ai R)
abbrev iP.C(a0 aw:Int)(hI:γ)(ev ij:Nat)(a3:Int):=Calls prog 8 #[.int .u8 a0,.int .u8 aw,.slice hI ev ij,.int .u8 a3]
theorem iP.ok:xW iP.main iP.C:=λ{_ _ _ _ _ _ _ R}h=>fo func8 [.tmp 8] 111 (.seq .leaf (.seq .leaf (.seq .leaf (.cut [(3,.int .u8),(10,.ptr)] (iP.aV · · · R) (.seq .leaf (.block (.loop [(2,.slice),(3,.int .u8),(10,.ptr),(11,.int .i64)] (iP.bb · · · · · · · R) λa1=>.leaf))) (.seq .leaf (.seq .leaf (.seq .leaf (.seq .leaf (.cut [(10,.ptr),(12,.int .i64),(13,.cA)] (iP.bK · · · · R) (.seq .leaf (.block (.loop [(10,.ptr),(12,.int .i64),(13,.cA),(14,.int .i64)] (iP.eZ · · · · · R) λgi=>.leaf))) (.cut [(10,.ptr),(12,.int .i64),(13,.cA),(15,.cA)] (iP.b4 · · · · · R) .leaf .leaf)))))))))) h
end Go.Proofs.YtcpdfhkhaekekaaGreat.G

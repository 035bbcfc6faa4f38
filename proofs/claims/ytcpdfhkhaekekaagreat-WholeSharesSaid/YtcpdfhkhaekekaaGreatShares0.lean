/- The law WholeShares of the given program is proved. Conditions: none. -/
import Derived.Test.YtcpdfhkhaekekaaGreatA15
set_option linter.unusedVariables false
set_option linter.unusedSimpArgs false
namespace Go.Proofs.YtcpdfhkhaekekaaGreat.G
open Tryz
open Go.bJ
set_option maxRecDepth 100000
def fl.cI(t3:Int)(t9:Nat)(t11:γ)(t12 t15 t16:Int)(t17:Nat)(t87 t88:Int)(t89:Bool)(w:World)(R:au)(rZ:Int->Nat->γ->Int->Int->Int->al):Prop:=
 ∃cj,w.cell? ⟨t17,1,none⟩=some (.int .i64 cj)/\
 (∃ct,w.cell? ⟨t9,0,none⟩=some (.int .i64 ct)/\
  (∃ez,w.cell? ⟨t9,1,none⟩=some (.int .i64 ez)/\
   (cond (!((cj==0)==(decide ((IntKind.i64.wrap (t12+t15))<=(IntKind.i64.wrap ((IntKind.i64.wrap (ct-4))*ez)))))) (
    ∃eW,w.cell? ⟨t17,1,none⟩=some (.int .i64 eW)/\
    (cond (eW !=9) (
      R (.returned (.bool false)) w) (
      κ prog 18 #[.pointer t11] w (λnS kX=>
       br .i64 nS λdf=>
       cond (df !=(IntKind.i64.wrap (t12+t15))) (
        R (.returned (.bool false)) kX) (
        rZ t3 t9 t11 t12 t15 (IntKind.i64.wrap (t16+1)) kX)) (ai R)))) (
    κ prog 18 #[.pointer t11] w (λv17 eJ=>
     br .i64 v17 λgb=>
     cond (gb !=(IntKind.i64.wrap (t12+t15))) (
      R (.returned (.bool false)) eJ) (
      rZ t3 t9 t11 t12 t15 (IntKind.i64.wrap (t16+1)) eJ)) (ai R)))))
def fl.eD(t11:γ)(t12:Int)(w:World)(R:au):Prop:=
 κ prog 18 #[.pointer t11] w (λv20 nq=>
  br .i64 v20 λmo=>
  cond (mo !=t12) (
   R (.returned (.bool false)) nq) (
   κ prog 14 #[.pointer t11,.agg #[(2:Int),(0:Int),(0:Int),(0:Int),.slice none 0 0]] nq (λv21 nr=>
    cv v21 λfD=>
    ξ (fD[1]?) λv22=>
    br .i64 v22 λjb=>
    cond (jb==0) (
     κ prog 18 #[.pointer t11] nr (λv23 jS=>
      br .i64 v23 λoT=>
      R (.returned (.bool (oT==0))) jS) (ai R)) (
     R (.returned (.bool false)) nr)) (ai R))) (ai R)
def fl.aa(t11:γ)(t12 t18:Int)(w:World)(R:au)(tO:γ->Int->Int->al):Prop:=
 cond (decide (t18<4)) (
  κ prog 14 #[.pointer t11,.agg #[(2:Int),t18,(0:Int),(0:Int),.slice none 0 0]] w (λoR ja=>
   cv oR λfu=>
   ξ (fu[1]?) λqw=>
   br .i64 qw λjo=>
   cond (jo !=0) (
    R (.returned (.bool false)) ja) (
    tO t11 t12 (IntKind.i64.wrap (t18+1)) ja)) (ai R)) (
  fl.eD t11 t12 w R)
def fl.p7:=DB fl.aa
def fl.dT(t11:γ)(t12:Int)(w:World)(R:au):Prop:=
 fl.p7 t11 t12 1 w R
def fl.ax(t3:Int)(t9:Nat)(t11:γ)(t12 t15 t16:Int)(w:World)(R:au)(rZ:Int->Nat->γ->Int->Int->Int->al):Prop:=
 cond (decide (t16<(IntKind.i64.wrap (Int.tmod t3 8)))) (
  cond (decide (t16<t12)) (
   κ prog 15 #[.int .u8 200] w (λmM eE=>
    cX mM λeo bu c2=>
    κ prog 14 #[.pointer t11,.agg #[(5:Int),(0:Int),t16,(0:Int),.slice eo bu c2]] eE (λnR dM=>
     cv nR λdr=>
     aK dM #[(0:Int),(0:Int),(0:Int),.slice none 0 0,.slice none 0 0] 37 λax gr=>
     ν (decide (dr.size=5)) (
      a6 gr ⟨ax,0,none⟩ dr.toList/\∀eP,eP=gr.setCells (⟨ax,0,none⟩:Addr).block (⟨ax,0,none⟩:Addr).off dr.toList->
      (∃aU,eP.cell? ⟨ax,1,none⟩=some (.int .i64 aU)/\
       (cond (aU==0) (
        fl.cI t3 t9 t11 t12 (IntKind.i64.wrap (t15+1)) t16 ax t16 t12 (decide (t16<t12)) eP R rZ) (
        fl.cI t3 t9 t11 t12 t15 t16 ax t16 t12 (decide (t16<t12)) eP R rZ))))) (ai R)) (ai R)) (
   fl.dT t11 t12 w R)) (
  fl.dT t11 t12 w R)
def fl.ob:=oc fl.ax
def fl.b4(t3:Int)(t9:Nat)(t11:γ)(t12:Int)(w:World)(R:au):Prop:=
 fl.ob t3 t9 t11 t12 0 0 w R
def fl.ζ(t3:Int)(t9:Nat)(t11:γ)(t12 t14:Int)(w:World)(R:au)(gi:Int->Nat->γ->Int->Int->al):Prop:=
 cond (decide (t14<3)) (
  κ prog 14 #[.pointer t11,.agg #[(3:Int),t14,(0:Int),(0:Int),.slice none 0 0]] w (λv11 dp=>
   cv v11 λb0=>
   ξ (b0[1]?) λv12=>
   br .i64 v12 λay=>
   cond (ay !=0) (
    R (.returned (.bool false)) dp) (
    κ prog 18 #[.pointer t11] dp (λkA dP=>
     br .i64 kA λaM=>
     cond (aM !=t12) (
      R (.returned (.bool false)) dP) (
      gi t3 t9 t11 t12 (IntKind.i64.wrap (t14+1)) dP)) (ai R))) (ai R)) (
  fl.b4 t3 t9 t11 t12 w R)
def fl.eZ:=yH fl.ζ
def fl.bK(t3:Int)(t9:Nat)(t11:γ)(t12:Int)(w:World)(R:au):Prop:=
 fl.eZ t3 t9 t11 t12 0 w R
def fl.δ(t3:Int)(t9:Nat)(t11:γ)(t12 t13:Int)(w:World)(R:au)(a1:Int->Nat->γ->Int->Int->al):Prop:=
 cond (decide (t13<t12)) (
  κ prog 15 #[.int .u8 (IntKind.u8.wrap t13)] w (λa7 cd=>
   cX a7 λbj aD c1=>
   κ prog 14 #[.pointer t11,.agg #[(5:Int),(0:Int),t13,(0:Int),.slice bj aD c1]] cd (λv9 cE=>
    cv v9 λbC=>
    ξ (bC[1]?) λv10=>
    br .i64 v10 λaC=>
    cond (aC !=0) (
     R (.returned (.bool false)) cE) (
     a1 t3 t9 t11 t12 (IntKind.i64.wrap (t13+1)) cE)) (ai R)) (ai R)) (
  fl.bK t3 t9 t11 t12 w R)
def fl.bb:=yH fl.δ
def fl.aV(t3:Int)(t9:Nat)(t11:γ)(t12:Int)(w:World)(R:au):Prop:=
 κ prog 14 #[.pointer t11,.agg #[(1:Int),(0:Int),(0:Int),t12,.slice none 0 0]] w (λv6 bW=>
  cv v6 λbO=>
  ξ (bO[1]?) λfm=>
  br .i64 fm λad=>
  cond (ad !=0) (
   R (.returned (.bool false)) bW) (
   fl.bb t3 t9 t11 t12 0 bW R)) (ai R)
def fl.main(a0 aw a2 a3:Int)(w:World)(R:au):Prop:=
 κ prog 12 #[.int .u8 a0,.int .u8 aw] w (λv1 ε=>
  cv v1 λaE=>
  aK ε #[(0:Int),(0:Int)] 28 λδ χ=>
  ν (decide (aE.size=2)) (
   a6 χ ⟨δ,0,none⟩ aE.toList/\∀ao,ao=χ.setCells (⟨δ,0,none⟩:Addr).block (⟨δ,0,none⟩:Addr).off aE.toList->
   (∃(bz:aj),bz.size=2/\aB ao ⟨δ,0,none⟩ bz.toList/\
    (κ prog 11 #[.agg bz] ao (λv2 an=>
     b7 v2 λbN=>
     ξ (bN[0]?) λv3=>
     gI v3 λae=>
     ξ (bN[1]?) λv4=>
     gI v4 λaX=>
     cond (Option.isNone aX) (
      R (.returned (.bool false)) an) (
      κ prog 13 #[] an (λv5 a8=>
       dF v5 λζ=>
       cond (!ζ) (
        R (.returned (.bool false)) a8) (
        ∃θ,a8.cell? ⟨δ,0,none⟩=some (.int .i64 θ)/\
        (∃ρ,a8.cell? ⟨δ,1,none⟩=some (.int .i64 ρ)/\
         (ν (decide ((IntKind.i64.wrap ((IntKind.i64.wrap (θ-4))*ρ))≠0)) (
          cond (decide ((IntKind.i64.wrap (1+(Int.tmod (IntKind.i64.wrap a2) (IntKind.i64.wrap ((IntKind.i64.wrap (θ-4))*ρ)))))>32)) (
           fl.aV a3 δ aX 32 a8 R) (
           fl.aV a3 δ aX (IntKind.i64.wrap (1+(Int.tmod (IntKind.i64.wrap a2) (IntKind.i64.wrap ((IntKind.i64.wrap (θ-4))*ρ))))) a8 R)))))) (ai R))) (ai R))))) (ai R)
abbrev fl.C(a0 aw a2 a3:Int):=Calls prog 5 #[.int .u8 a0,.int .u8 aw,.int .u8 a2,.int .u8 a3]
theorem fl.ok:lu fl.main fl.C:=λ{_ _ _ _ _ R}h=>fo func5 [.tmp 8] 154 (.seq .leaf (.seq .leaf (.seq .leaf (.seq .leaf (.seq .leaf (.cut [(3,.int .u8),(9,.cA),(11,.ptr),(12,.int .i64)] (fl.aV · · · · · R) .leaf (.seq .leaf (.cut [(3,.int .u8),(9,.cA),(11,.ptr),(12,.int .i64)] (fl.bK · · · · · R) (.seq .leaf (.block (.loop [(3,.int .u8),(9,.cA),(11,.ptr),(12,.int .i64),(13,.int .i64)] (fl.bb · · · · · · R) λa1=>.leaf))) (.cut [(3,.int .u8),(9,.cA),(11,.ptr),(12,.int .i64)] (fl.b4 · · · · · R) (.seq .leaf (.block (.loop [(3,.int .u8),(9,.cA),(11,.ptr),(12,.int .i64),(14,.int .i64)] (fl.eZ · · · · · · R) λgi=>.leaf))) (.seq .leaf (.cut [(11,.ptr),(12,.int .i64)] (fl.dT · · · R) (.seq .leaf (.block (.loop [(3,.int .u8),(9,.cA),(11,.ptr),(12,.int .i64),(15,.int .i64),(16,.int .i64)] (fl.ob · · · · · · · R) λrZ=>(.seq .leaf (.seq (.block (.seq .leaf (.cut [(3,.int .u8),(9,.cA),(11,.ptr),(12,.int .i64),(15,.int .i64),(16,.int .i64),(17,.cA),(87,.int .i64),(88,.int .i64),(89,.bool)] (fl.cI · · · · · · · · · · · R rZ) .leaf .leaf))) .leaf))))) (.cut [(11,.ptr),(12,.int .i64)] (fl.eD · · · R) (.seq .leaf (.block (.loop [(11,.ptr),(12,.int .i64),(18,.int .i64)] (fl.p7 · · · · R) λtO=>.leaf))) .leaf)))))))))))) h
end Go.Proofs.YtcpdfhkhaekekaaGreat.G

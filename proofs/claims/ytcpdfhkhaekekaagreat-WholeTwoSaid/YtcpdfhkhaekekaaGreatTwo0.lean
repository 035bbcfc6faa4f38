/- The law WholeTwo of the given program is proved. Conditions: none. -/
import Derived.Test.YtcpdfhkhaekekaaGreatA15
set_option linter.unusedVariables false
set_option linter.unusedSimpArgs false
namespace Go.Proofs.YtcpdfhkhaekekaaGreat.G
open Tryz
open Go.bJ
set_option maxRecDepth 100000
def kj.b4(dw:γ)(dh ef:Nat)(t8:γ)(t9 t10:Nat)(t11 t13:Int)(t14:ByteArray)(t15:Nat)(t56:Int)(t57:Bool)(w:World)(R:au)(a1:γ->Nat->Nat->γ->Nat->Nat->Int->al):Prop:=
 ∃(bC:aj),bC.size=5/\aB w ⟨t15,0,none⟩ bC.toList/\
 (κ prog 14 #[.pointer t8,.agg bC] w (λmM ga=>
  cv mM λb0=>
  aK ga #[(0:Int),(0:Int),(0:Int),.slice none 0 0,.slice none 0 0] 37 λdR kY=>
  ν (decide (b0.size=5)) (
   a6 kY ⟨dR,0,none⟩ b0.toList/\∀jS,jS=kY.setCells (⟨dR,0,none⟩:Addr).block (⟨dR,0,none⟩:Addr).off b0.toList->
   (∃gb,jS.cell? ⟨dR,1,none⟩=some (.int .i64 gb)/\
    (cond (gb !=0) (
     ∃jo,jS.cell? ⟨dR,1,none⟩=some (.int .i64 jo)/\
     (cond (jo !=9) (
       R (.returned (.bool false)) jS) (
       κ prog 17 #[.pointer t8,t13,(0:Int)] jS (λnR kZ=>
        iI nR λHn=>
        κ prog 17 #[.pointer t8,t13,(1:Int)] kZ (λnS lp=>
         iI nS λNH=>
         ν (decide (((Hn.size+NH.size:Nat):Int)<=IntKind.i64.max)) (
          κ prog 17 #[.pointer t8,t13,(2:Int)] lp (λv17 lN=>
           iI v17 λNI=>
           ν (decide ((((Hn++NH).size+NI.size:Nat):Int)<=IntKind.i64.max)) (
           κ prog 17 #[.pointer t8,t13,(3:Int)] lN (λoR Kt=>
           iI oR λRR=>
           ν (decide (((((Hn++NH)++NI).size+RR.size:Nat):Int)<=IntKind.i64.max)) (
           cond (!((((Hn++NH)++NI)++RR).toList==t14.toList)) (
           R (.returned (.bool false)) Kt) (
           a1 dw dh ef t8 t9 t10 (IntKind.i64.wrap (t11+1)) Kt))) (ai R))) (ai R))) (ai R)) (ai R)))) (
     κ prog 17 #[.pointer t8,t13,(0:Int)] jS (λqw zg=>
      iI qw λRS=>
      κ prog 17 #[.pointer t8,t13,(1:Int)] zg (λv20 xL=>
       iI v20 λRQ=>
       ν (decide (((RS.size+RQ.size:Nat):Int)<=IntKind.i64.max)) (
        κ prog 17 #[.pointer t8,t13,(2:Int)] xL (λv21 Ed=>
         iI v21 λNG=>
         ν (decide ((((RS++RQ).size+NG.size:Nat):Int)<=IntKind.i64.max)) (
          κ prog 17 #[.pointer t8,t13,(3:Int)] Ed (λv22 k0=>
           iI v22 λagc=>
           ν (decide (((((RS++RQ)++NG).size+agc.size:Nat):Int)<=IntKind.i64.max)) (
           cond (!((((RS++RQ)++NG)++agc).toList==t14.toList)) (
           R (.returned (.bool false)) k0) (
           a1 dw dh ef t8 t9 t10 (IntKind.i64.wrap (t11+1)) k0))) (ai R))) (ai R))) (ai R)) (ai R)))))) (ai R))
def kj.bK(dw:γ)(dh ef:Nat)(t8:γ)(t9 t10:Nat)(t11 t13:Int)(t14:ByteArray)(t15:Nat)(t56:Int)(t57:Bool)(w:World)(R:au)(a1:γ->Nat->Nat->γ->Nat->Nat->Int->al):Prop:=
 ν (decide (0<=t11)) (
  ν (decide (t11<((dh:Nat):Int))) (
   ξ dw λd4=>
   ∃df,w.cell? (d4.add (t11.toNat*1))=some (.int .u16 df)/\
   (cond ((Int.tmod df 5)==0) (
    (w.cell? ⟨t15,0,none⟩).isSome=true/\w.frozen? ⟨t15,0,none⟩=false/\∀nq,nq=w.setCell ⟨t15,0,none⟩ (.int .i64 6)->
    (kj.b4 dw dh ef t8 t9 t10 t11 t13 t14 t15 t56 t57 nq R a1)) (
    kj.b4 dw dh ef t8 t9 t10 t11 t13 t14 t15 t56 t57 w R a1))))
def kj.aV(dw:γ)(dh ef:Nat)(t8:γ)(t9 t10:Nat)(t11 t12 t13 t56:Int)(t57:Bool)(w:World)(R:au)(a1:γ->Nat->Nat->γ->Nat->Nat->Int->al):Prop:=
 κ prog 17 #[.pointer t8,t13,(0:Int)] w (λa7 dp=>
  iI a7 λs1=>
  κ prog 17 #[.pointer t8,t13,(1:Int)] dp (λv9 dP=>
   iI v9 λs2=>
   ν (decide (((s1.size+s2.size:Nat):Int)<=IntKind.i64.max)) (
    κ prog 17 #[.pointer t8,t13,(2:Int)] dP (λv10 eE=>
     iI v10 λjO=>
     ν (decide ((((s1++s2).size+jO.size:Nat):Int)<=IntKind.i64.max)) (
      κ prog 17 #[.pointer t8,t13,(3:Int)] eE (λv11 dM=>
       iI v11 λmI=>
       ν (decide (((((s1++s2)++jO).size+mI.size:Nat):Int)<=IntKind.i64.max)) (
        ν (decide (0<=t11)) (
         ν (decide (t11<((dh:Nat):Int))) (
          ξ dw λd2=>
          ∃ez,dM.drew.cell? (d2.add (t11.toNat*1))=some (.int .u16 ez)/\
          (ν (decide (0<=t11)) (
           ν (decide (t11<((dh:Nat):Int))) (
            ξ dw λd3=>
            ∃eW,dM.drew.cell? (d3.add (t11.toNat*1))=some (.int .u16 eW)/\
            ((κ prog 15 #[.int .u8 (IntKind.u8.wrap (Int.fdiv eW (2^(min 8 IntKind.u16.bits))))] dM.drew (λv12 gr=>
            cX v12 λbj aD c1=>
            gr.cell? (d2.add (t11.toNat*1))=some (.int .u16 ez)/\
            (aK gr #[(0:Int),(0:Int),(0:Int),(0:Int),.slice none 0 0] 40 λaa kX=>
            (Value.agg #[(5:Int),t12,(Int.tmod (IntKind.i64.wrap (IntKind.u16.wrap (Int.tdiv ez 2))) 4),(0:Int),.slice bj aD c1])=(.agg #[(5:Int),t12,(Int.tmod (IntKind.i64.wrap (IntKind.u16.wrap (Int.tdiv ez 2))) 4),(0:Int),.slice bj aD c1])/\
            (kX.cell? (d2.add (t11.toNat*1))=some (.int .u16 ez)/\
            (a6 kX ⟨aa,0,none⟩ [(.int .i64 5),(.int .i64 t12),(.int .i64 (Int.tmod (IntKind.i64.wrap (IntKind.u16.wrap (Int.tdiv ez 2))) 4)),(.int .i64 0),(.slice bj aD c1)]/\∀fb,fb=kX.setCells (⟨aa,0,none⟩:Addr).block (⟨aa,0,none⟩:Addr).off [(.int .i64 5),(.int .i64 t12),(.int .i64 (Int.tmod (IntKind.i64.wrap (IntKind.u16.wrap (Int.tdiv ez 2))) 4)),(.int .i64 0),(.slice bj aD c1)]->
            (kj.bK dw dh ef t8 t9 t10 t11 t13 (((s1++s2)++jO)++mI) aa t56 t57 fb R a1))))) (ai R))/\
            (aK dM.drew #[(0:Int),(0:Int),(0:Int),(0:Int),.slice none 0 0] 40 λcu eJ=>
            eJ.cell? (d3.add (t11.toNat*1))=some (.int .u16 eW)/\
            (eJ.cell? (d2.add (t11.toNat*1))=some (.int .u16 ez)/\
            (κ prog 15 #[.int .u8 (IntKind.u8.wrap (Int.fdiv eW (2^(min 8 IntKind.u16.bits))))] eJ (λkA gh=>
            cX kA λeo bu c2=>
            gh.cell? (d2.add (t11.toNat*1))=some (.int .u16 ez)/\
            (a6 gh ⟨cu,0,none⟩ [(.int .i64 5),(.int .i64 t12),(.int .i64 (Int.tmod (IntKind.i64.wrap (IntKind.u16.wrap (Int.tdiv ez 2))) 4)),(.int .i64 0),(.slice eo bu c2)]/\∀hv,hv=gh.setCells (⟨cu,0,none⟩:Addr).block (⟨cu,0,none⟩:Addr).off [(.int .i64 5),(.int .i64 t12),(.int .i64 (Int.tmod (IntKind.i64.wrap (IntKind.u16.wrap (Int.tdiv ez 2))) 4)),(.int .i64 0),(.slice eo bu c2)]->
            (kj.bK dw dh ef t8 t9 t10 t11 t13 (((s1++s2)++jO)++mI) cu t56 t57 hv R a1))) (ai R)))))))))))) (ai R))) (ai R))) (ai R)) (ai R)
def kj.δ(dw:γ)(dh ef:Nat)(t8:γ)(t9 t10:Nat)(t11:Int)(w:World)(R:au)(a1:γ->Nat->Nat->γ->Nat->Nat->Int->al):Prop:=
 cond (decide (t11<((dh:Nat):Int))) (
  cond (decide (t11<80)) (
   ∃ay,w.cell? ⟨t9,2,none⟩=some (.int .i64 ay)/\
   (∃aM,w.cell? ⟨t10,2,none⟩=some (.int .i64 aM)/\
    (∀aV:Nat,
     ν (decide (0<=t11)) (
      ν (decide (t11<((dh:Nat):Int))) (
       ξ dw λd1=>
       ∃aU,(w.drewN aV).cell? (d1.add (t11.toNat*1))=some (.int .u16 aU)/\
       (cond ((Int.tmod aU 2)==1) (
        ∃cj,(w.drewN aV).cell? ⟨t10,2,none⟩=some (.int .i64 cj)/\
        (∃ct,(w.drewN aV).cell? ⟨t9,2,none⟩=some (.int .i64 ct)/\
         (∀bK:Nat,
          kj.aV dw dh ef t8 t9 t10 t11 cj ct t11 (decide (t11<80)) ((w.drewN aV).drewN bK) R a1))) (
        kj.aV dw dh ef t8 t9 t10 t11 ay aM t11 (decide (t11<80)) (w.drewN aV) R a1))))))) (
   R (.returned (.bool true)) w)) (
  R (.returned (.bool true)) w)
def kj.bb:=DC kj.δ
def kj.main(a0 aw:Int)(hI:γ)(ev ij:Nat)(w:World)(R:au):Prop:=
 κ prog 12 #[.int .u8 a0,.int .u8 aw] w (λv1 ε=>
  cv v1 λaE=>
  κ prog 11 #[.agg aE] ε (λv2 χ=>
   b7 v2 λbN=>
   ξ (bN[0]?) λv3=>
   gI v3 λae=>
   ξ (bN[1]?) λv4=>
   gI v4 λaX=>
   cond (Option.isNone aX) (
    R (.returned (.bool false)) χ) (
    κ prog 13 #[] χ (λv5 an=>
     dF v5 λδ=>
     cond (!δ) (
      R (.returned (.bool false)) an) (
      κ prog 14 #[.pointer aX,.agg #[(1:Int),(0:Int),(0:Int),(4:Int),.slice none 0 0]] an (λv6 a8=>
       cv v6 λbz=>
       κ prog 14 #[.pointer aX,.agg #[(1:Int),(0:Int),(0:Int),(4:Int),.slice none 0 0]] a8 (λfm bW=>
        cv fm λbO=>
        aK bW #[(0:Int),(0:Int),(0:Int),.slice none 0 0,.slice none 0 0] 37 λζ cd=>
        aK cd #[(0:Int),(0:Int),(0:Int),.slice none 0 0,.slice none 0 0] 37 λax cm=>
        ν (decide (bz.size=5)) (
         a6 cm ⟨ζ,0,none⟩ bz.toList/\∀cE,cE=cm.setCells (⟨ζ,0,none⟩:Addr).block (⟨ζ,0,none⟩:Addr).off bz.toList->
         (ν (decide (bO.size=5)) (
          a6 cE ⟨ax,0,none⟩ bO.toList/\∀da,da=cE.setCells (⟨ax,0,none⟩:Addr).block (⟨ax,0,none⟩:Addr).off bO.toList->
          (∃θ,da.cell? ⟨ζ,1,none⟩=some (.int .i64 θ)/\
           (cond (θ !=0) (
            R (.returned (.bool false)) da) (
            ∃ρ,da.cell? ⟨ax,1,none⟩=some (.int .i64 ρ)/\
            (cond (ρ !=0) (
            R (.returned (.bool false)) da) (
            ∃ad,da.cell? ⟨ζ,2,none⟩=some (.int .i64 ad)/\
            (∃aC,da.cell? ⟨ax,2,none⟩=some (.int .i64 aC)/\
            (cond (ad==aC) (
            R (.returned (.bool false)) da) (
            kj.bb hI ev ij aX ζ ax 0 da R)))))))))))) (ai R)) (ai R))) (ai R))) (ai R)) (ai R)
abbrev kj.C(a0 aw:Int)(hI:γ)(ev ij:Nat):=Calls prog 7 #[.int .u8 a0,.int .u8 aw,.slice hI ev ij]
theorem kj.ok:vg kj.main kj.C:=λ{_ _ _ _ _ _ R}h=>fo func7 [.tmp 6] 143 (.seq .leaf (.seq .leaf (.seq .leaf (.seq .leaf (.seq .leaf (.seq (.seq .leaf (.block (.loop [(2,.slice),(8,.ptr),(9,.cA),(10,.cA),(11,.int .i64)] (kj.bb · · · · · · · · R) λa1=>(.seq .leaf (.seq (.block (.seq .leaf (.cut [(2,.slice),(8,.ptr),(9,.cA),(10,.cA),(11,.int .i64),(12,.int .i64),(13,.int .i64),(56,.int .i64),(57,.bool)] (kj.aV · · · · · · · · · · · · R a1) .leaf (.seq .leaf (.cut [(2,.slice),(8,.ptr),(9,.cA),(10,.cA),(11,.int .i64),(13,.int .i64),(14,.str),(15,.cA),(56,.int .i64),(57,.bool)] (kj.bK · · · · · · · · · · · · · R a1) .leaf (.cut [(2,.slice),(8,.ptr),(9,.cA),(10,.cA),(11,.int .i64),(13,.int .i64),(14,.str),(15,.cA),(56,.int .i64),(57,.bool)] (kj.b4 · · · · · · · · · · · · · R a1) .leaf .leaf)))))) .leaf))))) .leaf)))))) h
end Go.Proofs.YtcpdfhkhaekekaaGreat.G

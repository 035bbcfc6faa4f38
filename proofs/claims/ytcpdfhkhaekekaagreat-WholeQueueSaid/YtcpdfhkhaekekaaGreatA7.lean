/- The walk of the functions, and the plain laws of the model: part of the proof. Conditions: none. -/
import Derived.Lib.Overlaps
import Derived.Test.YtcpdfhkhaekekaaGreatA6
set_option linter.unusedVariables false
set_option linter.unusedSimpArgs false
namespace Go.Proofs.YtcpdfhkhaekekaaGreat.G
open Tryz
open Go.bI
set_option maxRecDepth 100000
def pM.aZ(cj:J)(cb cu:Nat)(t5:Int)(w:World)(R:ak):Prop:=
 ο (decide (0<=t5)) (
  ο (decide (t5<=((cb:Nat):Int))) (
   Sc w (dA cj cu t5.toNat 1) (cb-t5.toNat) #[.complex .f64 0 0] λba=>
   ο (decide (0<=t5)) (
    ο (decide (t5<=((cu:Nat):Int))) (
     R (.returned (.slice (dA cj cu 0 1) t5.toNat cu)) ba))))
def pM.ε(cj:J)(cb cu t1:Nat)(t5 t6:Int)(w:World)(R:ak)(aS:J->Nat->Nat->Nat->Int->Int->ai):Prop:=
 cond (decide (t6<((cb:Nat):Int))) (
  ο (decide (0<=t6)) (
   ο (decide (t6<((cb:Nat):Int))) (
    ξ cj λd1=>
    ∃cS m1,w.cell? (d1.add (t6.toNat*1))=some (.complex .f64 cS m1)/\
    (κ prog 94 #[.complex .f64 cS m1,.pointer (some ⟨t1,0,none⟩)] w (λv2 aa=>
     dD v2 λε=>
     cond (!ε) (
      ο (decide (0<=t5)) (
       ο (decide (t5<((cb:Nat):Int))) (
        ξ cj λd2=>
        ef aa (d2.add (t5.toNat*1)) (.complex .f64 cS m1) λaG=>
        (aS cj cb cu t1 (IntKind.i64.wrap (t5+1)) (IntKind.i64.wrap (t6+1)) aG)))) (
      aS cj cb cu t1 t5 (IntKind.i64.wrap (t6+1)) aa)) (aB R))))) (
  pM.aZ cj cb cu t5 w R)
def pM.bd:=pD pM.ε
def pM.main(bD:J)(a6 bx nW:Nat)(w:World)(R:ak):Prop:=
 κ prog 131 #[.slice bD a6 bx,.func (.func 94) #[] #[.pointer (some ⟨nW,0,none⟩)]] w (λv1 δ=>
  bq .i64 v1 λζ=>
  cond (ζ==(-1)) (
   R (.returned (.slice bD a6 bx)) δ) (
   pM.bd bD a6 bx nW ζ (IntKind.i64.wrap (ζ+1)) δ R)) (aB R)
abbrev pM.C(bD:J)(a6 bx nW:Nat):=Calls prog 93 #[.slice bD a6 bx,.func (.func 94) #[] #[.pointer (some ⟨nW,0,none⟩)]]
theorem pM.ok:k6 pM.main pM.C:=λ{_ _ _ _ _ R}h=>fg func93 [.tmp 4] 42 (.seq .leaf (.seq .leaf (.seq .leaf (.cut [(0,.slice),(5,.int .i64)] (pM.aZ · · · · · R) (.seq .leaf (.block (.loop [(0,.slice),(1,.uA 94),(5,.int .i64),(6,.int .i64)] (pM.bd · · · · · · · R) λaS=>.leaf))) .leaf)))) h
def tB.ε(cj:J)(cb cu:Nat)(t7 t8:Int)(w:World)(R:ak)(aS:J->Nat->Nat->Int->Int->ai):Prop:=
 cond (decide (t8<t7)) (
  ο (decide (0<=t8)) (
   ο (decide (t8<((cb:Nat):Int))) (
    ξ cj λd1=>
    ∃cS m1,w.cell? (d1.add (t8.toNat*1))=some (.complex .f64 cS m1)/\
    (κ prog 114 #[.complex .f64 cS m1] w (λv1 δ=>
     dD v1 λε=>
     cond ε (
      R (.returned (.int .i64 t8)) δ) (
      aS cj cb cu t7 (IntKind.i64.wrap (t8+1)) δ)) (aB R))))) (
  R (.returned (.int .i64 (-1))) w)
def tB.bd:=Cj tB.ε
def tB.main(bD:J)(a6 bx:Nat)(w:World)(R:ak):Prop:=
 tB.bd bD a6 bx ((a6:Nat):Int) 0 w R
abbrev tB.C(bD:J)(a6 bx:Nat):=Calls prog 131 #[.slice bD a6 bx,.func (.func 114) #[] #[]]
theorem tB.ok:iL tB.main tB.C:=λ{_ _ _ _ R}h=>fg func131 [.tmp 4] 19 (.seq .leaf (.seq (.seq .leaf (.block (.loop [(0,.slice),(1,.uz 114),(7,.int .i64),(8,.int .i64)] (tB.bd · · · · · · R) λaS=>.leaf))) .leaf)) h
def tC.ε(cj:J)(cb cu t1:Nat)(t7 t8:Int)(w:World)(R:ak)(aS:J->Nat->Nat->Nat->Int->Int->ai):Prop:=
 cond (decide (t8<t7)) (
  ο (decide (0<=t8)) (
   ο (decide (t8<((cb:Nat):Int))) (
    ξ cj λd1=>
    ∃cS m1,w.cell? (d1.add (t8.toNat*1))=some (.complex .f64 cS m1)/\
    (κ prog 125 #[.complex .f64 cS m1,.pointer (some ⟨t1,0,none⟩)] w (λv1 δ=>
     dD v1 λε=>
     cond ε (
      R (.returned (.int .i64 t8)) δ) (
      aS cj cb cu t1 t7 (IntKind.i64.wrap (t8+1)) δ)) (aB R))))) (
  R (.returned (.int .i64 (-1))) w)
def tC.bd:=pD tC.ε
def tC.main(bD:J)(a6 bx nW:Nat)(w:World)(R:ak):Prop:=
 tC.bd bD a6 bx nW ((a6:Nat):Int) 0 w R
abbrev tC.C(bD:J)(a6 bx nW:Nat):=Calls prog 131 #[.slice bD a6 bx,.func (.func 125) #[] #[.pointer (some ⟨nW,0,none⟩)]]
theorem tC.ok:k6 tC.main tC.C:=λ{_ _ _ _ _ R}h=>fg func131 [.tmp 4] 19 (.seq .leaf (.seq (.seq .leaf (.block (.loop [(0,.slice),(1,.uA 125),(7,.int .i64),(8,.int .i64)] (tC.bd · · · · · · · R) λaS=>.leaf))) .leaf)) h
def tE.ε(cj:J)(cb cu t1:Nat)(t7 t8:Int)(w:World)(R:ak)(aS:J->Nat->Nat->Nat->Int->Int->ai):Prop:=
 cond (decide (t8<t7)) (
  ο (decide (0<=t8)) (
   ο (decide (t8<((cb:Nat):Int))) (
    ξ cj λd1=>
    ∃cS m1,w.cell? (d1.add (t8.toNat*1))=some (.complex .f64 cS m1)/\
    (κ prog 94 #[.complex .f64 cS m1,.pointer (some ⟨t1,0,none⟩)] w (λv1 δ=>
     dD v1 λε=>
     cond ε (
      R (.returned (.int .i64 t8)) δ) (
      aS cj cb cu t1 t7 (IntKind.i64.wrap (t8+1)) δ)) (aB R))))) (
  R (.returned (.int .i64 (-1))) w)
def tE.bd:=pD tE.ε
def tE.main(bD:J)(a6 bx nW:Nat)(w:World)(R:ak):Prop:=
 tE.bd bD a6 bx nW ((a6:Nat):Int) 0 w R
abbrev tE.C(bD:J)(a6 bx nW:Nat):=Calls prog 131 #[.slice bD a6 bx,.func (.func 94) #[] #[.pointer (some ⟨nW,0,none⟩)]]
theorem tE.ok:k6 tE.main tE.C:=λ{_ _ _ _ _ R}h=>fg func131 [.tmp 4] 19 (.seq .leaf (.seq (.seq .leaf (.block (.loop [(0,.slice),(1,.uA 94),(7,.int .i64),(8,.int .i64)] (tE.bd · · · · · · · R) λaS=>.leaf))) .leaf)) h
def tD.ε(cj:J)(cb cu:Nat)(t7 t8:Int)(w:World)(R:ak)(aS:J->Nat->Nat->Int->Int->ai):Prop:=
 cond (decide (t8<t7)) (
  ο (decide (0<=t8)) (
   ο (decide (t8<((cb:Nat):Int))) (
    ξ cj λd1=>
    ∃cS m1,w.cell? (d1.add (t8.toNat*1))=some (.complex .f64 cS m1)/\
    (κ prog 160 #[.complex .f64 cS m1] w (λv1 δ=>
     dD v1 λε=>
     cond ε (
      R (.returned (.int .i64 t8)) δ) (
      aS cj cb cu t7 (IntKind.i64.wrap (t8+1)) δ)) (aB R))))) (
  R (.returned (.int .i64 (-1))) w)
def tD.bd:=Cj tD.ε
def tD.main(bD:J)(a6 bx:Nat)(w:World)(R:ak):Prop:=
 tD.bd bD a6 bx ((a6:Nat):Int) 0 w R
abbrev tD.C(bD:J)(a6 bx:Nat):=Calls prog 131 #[.slice bD a6 bx,.func (.func 160) #[] #[]]
theorem tD.ok:iL tD.main tD.C:=λ{_ _ _ _ R}h=>fg func131 [.tmp 4] 19 (.seq .leaf (.seq (.seq .leaf (.block (.loop [(0,.slice),(1,.uz 160),(7,.int .i64),(8,.int .i64)] (tD.bd · · · · · · R) λaS=>.leaf))) .leaf)) h
def ua.ε(cj:J)(cb cu:Nat)(t7 t8:Int)(w:World)(R:ak)(aS:J->Nat->Nat->Int->Int->ai):Prop:=
 cond (decide (t8<t7)) (
  ο (decide (0<=t8)) (
   ο (decide (t8<((cb:Nat):Int))) (
    ξ cj λd1=>
    ∃(aQ:ah),aQ.size=2/\aw w (d1.add (t8.toNat*2)) aQ.toList/\
    (κ prog 104 #[.agg aQ] w (λv1 δ=>
     dD v1 λε=>
     cond ε (
      R (.returned (.int .i64 t8)) δ) (
      aS cj cb cu t7 (IntKind.i64.wrap (t8+1)) δ)) (aB R))))) (
  R (.returned (.int .i64 (-1))) w)
def ua.bd:=Cj ua.ε
def ua.main(bD:J)(a6 bx:Nat)(w:World)(R:ak):Prop:=
 ua.bd bD a6 bx ((a6:Nat):Int) 0 w R
abbrev ua.C(bD:J)(a6 bx:Nat):=Calls prog 145 #[.slice bD a6 bx,.func (.func 104) #[] #[]]
theorem ua.ok:iL ua.main ua.C:=λ{_ _ _ _ R}h=>fg func145 [.tmp 4] 19 (.seq .leaf (.seq (.seq .leaf (.block (.loop [(0,.slice),(1,.uz 104),(7,.int .i64),(8,.int .i64)] (ua.bd · · · · · · R) λaS=>.leaf))) .leaf)) h
def ub.ε(cj:J)(cb cu t1:Nat)(t7 t8:Int)(w:World)(R:ak)(aS:J->Nat->Nat->Nat->Int->Int->ai):Prop:=
 cond (decide (t8<t7)) (
  ο (decide (0<=t8)) (
   ο (decide (t8<((cb:Nat):Int))) (
    ξ cj λd1=>
    ∃(aQ:ah),aQ.size=2/\aw w (d1.add (t8.toNat*2)) aQ.toList/\
    (κ prog 105 #[.agg aQ,.pointer (some ⟨t1,0,none⟩)] w (λv1 δ=>
     dD v1 λε=>
     cond ε (
      R (.returned (.int .i64 t8)) δ) (
      aS cj cb cu t1 t7 (IntKind.i64.wrap (t8+1)) δ)) (aB R))))) (
  R (.returned (.int .i64 (-1))) w)
def ub.bd:=pD ub.ε
def ub.main(bD:J)(a6 bx nW:Nat)(w:World)(R:ak):Prop:=
 ub.bd bD a6 bx nW ((a6:Nat):Int) 0 w R
abbrev ub.C(bD:J)(a6 bx nW:Nat):=Calls prog 145 #[.slice bD a6 bx,.func (.func 105) #[] #[.pointer (some ⟨nW,0,none⟩)]]
theorem ub.ok:k6 ub.main ub.C:=λ{_ _ _ _ _ R}h=>fg func145 [.tmp 4] 19 (.seq .leaf (.seq (.seq .leaf (.block (.loop [(0,.slice),(1,.uA 105),(7,.int .i64),(8,.int .i64)] (ub.bd · · · · · · · R) λaS=>.leaf))) .leaf)) h
def tz.ε(mg:J)(mf pR:Nat)(sm:J)(sl vc:Nat)(t16 t17:Int)(w:World)(R:ak)(aS:J->Nat->Nat->J->Nat->Nat->Int->Int->ai):Prop:=
 cond (decide (t17<t16)) (
  ο (decide (0<=t17)) (
   ο (decide (t17<((sl:Nat):Int))) (
    ξ sm λd1=>
    ∃ad aD c1,w.cell? (d1.add (t17.toNat*1))=some (.slice ad aD c1)/\
    (ο (decide (0<=t17)) (
     ο (decide (t17<((mf:Nat):Int))) (
      ξ mg λd2=>
      ∃aX br c2,w.cell? (d2.add (t17.toNat*1))=some (.slice aX br c2)/\
      (κ prog 151 #[.slice ad aD c1,.slice aX br c2] w (λv1 δ=>
       dD v1 λε=>
       cond (!ε) (
        R (.returned (.bool false)) δ) (
        aS mg mf pR sm sl vc t16 (IntKind.i64.wrap (t17+1)) δ)) (aB R)))))))) (
  R (.returned (.bool true)) w)
def tz.bd:=K0 tz.ε
def tz.main(bD:J)(a6 bx:Nat)(gv:J)(fc gz:Nat)(w:World)(R:ak):Prop:=
 cond (((a6:Nat):Int)!=((fc:Nat):Int)) (
  R (.returned (.bool false)) w) (
  tz.bd gv fc gz bD a6 bx ((a6:Nat):Int) 0 w R)
abbrev tz.C(bD:J)(a6 bx:Nat)(gv:J)(fc gz:Nat):=Calls prog 150 #[.slice bD a6 bx,.slice gv fc gz,.func (.func 151) #[] #[]]
theorem tz.ok:yq tz.main tz.C:=λ{_ _ _ _ _ _ _ R}h=>fg func150 [.tmp 6] 32 (.seq .leaf (.seq .leaf (.seq (.seq .leaf (.block (.loop [(1,.slice),(2,.uz 151),(15,.slice),(16,.int .i64),(17,.int .i64)] (tz.bd · · · · · · · · · R) λaS=>.leaf))) .leaf))) h
def tZ.ε(cj:J)(cb cu:Nat)(t7 t8:Int)(w:World)(R:ak)(aS:J->Nat->Nat->Int->Int->ai):Prop:=
 cond (decide (t8<t7)) (
  ο (decide (0<=t8)) (
   ο (decide (t8<((cb:Nat):Int))) (
    ξ cj λd1=>
    ∃(aQ:ah),aQ.size=2/\aw w (d1.add (t8.toNat*2)) aQ.toList/\
    (κ prog 162 #[.agg aQ] w (λv1 δ=>
     dD v1 λε=>
     cond ε (
      R (.returned (.int .i64 t8)) δ) (
      aS cj cb cu t7 (IntKind.i64.wrap (t8+1)) δ)) (aB R))))) (
  R (.returned (.int .i64 (-1))) w)
def tZ.bd:=Cj tZ.ε
def tZ.main(bD:J)(a6 bx:Nat)(w:World)(R:ak):Prop:=
 tZ.bd bD a6 bx ((a6:Nat):Int) 0 w R
abbrev tZ.C(bD:J)(a6 bx:Nat):=Calls prog 161 #[.slice bD a6 bx,.func (.func 162) #[] #[]]
theorem tZ.ok:iL tZ.main tZ.C:=λ{_ _ _ _ R}h=>fg func161 [.tmp 4] 19 (.seq .leaf (.seq (.seq .leaf (.block (.loop [(0,.slice),(1,.uz 162),(7,.int .i64),(8,.int .i64)] (tZ.bd · · · · · · R) λaS=>.leaf))) .leaf)) h
def tF.ε(cj:J)(cb cu t1:Nat)(t7 t8:Int)(w:World)(R:ak)(aS:J->Nat->Nat->Nat->Int->Int->ai):Prop:=
 cond (decide (t8<t7)) (
  ο (decide (0<=t8)) (
   ο (decide (t8<((cb:Nat):Int))) (
    ξ cj λd1=>
    ∃ζ,w.cell? (d1.add (t8.toNat*1))=some (.int .i64 ζ)/\
    (κ prog 128 #[ζ,.pointer (some ⟨t1,0,none⟩)] w (λv1 δ=>
     dD v1 λε=>
     cond ε (
      R (.returned (.int .i64 t8)) δ) (
      aS cj cb cu t1 t7 (IntKind.i64.wrap (t8+1)) δ)) (aB R))))) (
  R (.returned (.int .i64 (-1))) w)
def tF.bd:=pD tF.ε
def tF.main(bD:J)(a6 bx nW:Nat)(w:World)(R:ak):Prop:=
 tF.bd bD a6 bx nW ((a6:Nat):Int) 0 w R
abbrev tF.C(bD:J)(a6 bx nW:Nat):=Calls prog 170 #[.slice bD a6 bx,.func (.func 128) #[] #[.pointer (some ⟨nW,0,none⟩)]]
theorem tF.ok:k6 tF.main tF.C:=λ{_ _ _ _ _ R}h=>fg func170 [.tmp 4] 19 (.seq .leaf (.seq (.seq .leaf (.block (.loop [(0,.slice),(1,.uA 128),(7,.int .i64),(8,.int .i64)] (tF.bd · · · · · · · R) λaS=>.leaf))) .leaf)) h
def tx.ε(t0 t1 t2:Nat)(t4:Int)(w:World)(R:ak)(aS:Nat->Nat->Nat->Int->ai):Prop:=
 ∃ad aD c1,w.cell? ⟨t1,0,none⟩=some (.slice ad aD c1)/\
 (cond (decide (t4<((aD:Nat):Int))) (
  ∃ζ,w.drew.cell? ⟨t2,0,none⟩=some (.int .i64 ζ)/\
  (∃aX br c2,w.drew.cell? ⟨t1,0,none⟩=some (.slice aX br c2)/\
   (ο (decide (0<=t4)) (
    ο (decide (t4<=((br:Nat):Int))) (
     ∃bl dz bJ,w.drew.cell? ⟨t1,0,none⟩=some (.slice bl dz bJ)/\
     (ο (decide (0<=(IntKind.i64.wrap (t4+(min2 ζ (((br-t4.toNat):Nat):Int)))))) (
      ο (decide ((IntKind.i64.wrap (t4+(min2 ζ (((br-t4.toNat):Nat):Int))))<=((bJ:Nat):Int))) (
       ο (decide (0<=(IntKind.i64.wrap (t4+(min2 ζ (((br-t4.toNat):Nat):Int)))))) (
        ο (decide ((IntKind.i64.wrap (t4+(min2 ζ (((br-t4.toNat):Nat):Int))))<=(((IntKind.i64.wrap (t4+(min2 ζ (((br-t4.toNat):Nat):Int)))).toNat:Nat):Int))) (
         ο (decide (0<=t4)) (
          ο (decide (t4<=(((IntKind.i64.wrap (t4+(min2 ζ (((br-t4.toNat):Nat):Int)))).toNat:Nat):Int))) (
          Xu prog t0 #[.slice (dA bl ((IntKind.i64.wrap (t4+(min2 ζ (((br-t4.toNat):Nat):Int)))).toNat) t4.toNat 1) ((IntKind.i64.wrap (t4+(min2 ζ (((br-t4.toNat):Nat):Int)))).toNat-t4.toNat) ((IntKind.i64.wrap (t4+(min2 ζ (((br-t4.toNat):Nat):Int)))).toNat-t4.toNat)] w.drew λv1 δ=>
          dD v1 λε=>
          cond (!ε) (
          R (.returned (.tuple #[])) δ) (
          ∃τ,δ.cell? ⟨t2,0,none⟩=some (.int .i64 τ)/\
          (aS t0 t1 t2 (IntKind.i64.wrap (t4+τ)) δ)))))))))))))) (
  R (.returned (.tuple #[])) w))
def tx.bd:=OY tx.ε
def tx.main(l dN cW:Nat)(w:World)(R:ak):Prop:=
 tx.bd l dN cW 0 w R
abbrev tx.C(l dN cW:Nat):=CallsIn Fence.wide 0 prog 172 #[.func (.yield l) #[] #[],.pointer (some ⟨dN,0,none⟩),.pointer (some ⟨cW,0,none⟩)]
theorem tx.ok:iL tx.main tx.C:=λ{_ _ _ _ R}h=>adi func172 [] 31 (.seq .leaf (.block (.loop [(0,.zO),(1,.c5),(2,.c5),(4,.int .i64)] (tx.bd · · · · · R) λaS=>.leaf))) h
def sG.ε(t0 t1 t2:Nat)(t4:Int)(w:World)(R:ak)(aS:Nat->Nat->Nat->Int->ai):Prop:=
 ∃ad aD c1,w.cell? ⟨t1,0,none⟩=some (.slice ad aD c1)/\
 (cond (decide (t4<((aD:Nat):Int))) (
  ∃ζ,w.drew.cell? ⟨t2,0,none⟩=some (.int .i64 ζ)/\
  (∃aX br c2,w.drew.cell? ⟨t1,0,none⟩=some (.slice aX br c2)/\
   (ο (decide (0<=t4)) (
    ο (decide (t4<=((br:Nat):Int))) (
     ∃bl dz bJ,w.drew.cell? ⟨t1,0,none⟩=some (.slice bl dz bJ)/\
     (ο (decide (0<=(IntKind.i64.wrap (t4+(min2 ζ (((br-t4.toNat):Nat):Int)))))) (
      ο (decide ((IntKind.i64.wrap (t4+(min2 ζ (((br-t4.toNat):Nat):Int))))<=((bJ:Nat):Int))) (
       ο (decide (0<=(IntKind.i64.wrap (t4+(min2 ζ (((br-t4.toNat):Nat):Int)))))) (
        ο (decide ((IntKind.i64.wrap (t4+(min2 ζ (((br-t4.toNat):Nat):Int))))<=(((IntKind.i64.wrap (t4+(min2 ζ (((br-t4.toNat):Nat):Int)))).toNat:Nat):Int))) (
         ο (decide (0<=t4)) (
          ο (decide (t4<=(((IntKind.i64.wrap (t4+(min2 ζ (((br-t4.toNat):Nat):Int)))).toNat:Nat):Int))) (
          Xu prog t0 #[.slice (dA bl ((IntKind.i64.wrap (t4+(min2 ζ (((br-t4.toNat):Nat):Int)))).toNat) t4.toNat 5) ((IntKind.i64.wrap (t4+(min2 ζ (((br-t4.toNat):Nat):Int)))).toNat-t4.toNat) ((IntKind.i64.wrap (t4+(min2 ζ (((br-t4.toNat):Nat):Int)))).toNat-t4.toNat)] w.drew λv1 δ=>
          dD v1 λε=>
          cond (!ε) (
          R (.returned (.tuple #[])) δ) (
          ∃τ,δ.cell? ⟨t2,0,none⟩=some (.int .i64 τ)/\
          (aS t0 t1 t2 (IntKind.i64.wrap (t4+τ)) δ)))))))))))))) (
  R (.returned (.tuple #[])) w))
def sG.bd:=OY sG.ε
def sG.main(l dN cW:Nat)(w:World)(R:ak):Prop:=
 sG.bd l dN cW 0 w R
abbrev sG.C(l dN cW:Nat):=CallsIn Fence.wide 0 prog 184 #[.func (.yield l) #[] #[],.pointer (some ⟨dN,0,none⟩),.pointer (some ⟨cW,0,none⟩)]
theorem sG.ok:iL sG.main sG.C:=λ{_ _ _ _ R}h=>adi func184 [] 31 (.seq .leaf (.block (.loop [(0,.zO),(1,.c5),(2,.c5),(4,.int .i64)] (sG.bd · · · · · R) λaS=>.leaf))) h
end Go.Proofs.YtcpdfhkhaekekaaGreat.G
namespace Go.bI
open Go.RowKit
theorem μ.at{w:World}{B:Nat}{e:TypeId}{sz b:Nat}{n c:Nat}{xs:aU}(h:μ w B e sz (some ⟨b,0,none⟩) n c xs){j:Nat}{v:Value}(χ:xs[j]?=some v):w.cell? (⟨b,j,none⟩:Addr)=some v:=by
 have:=h.cells j v χ
 have oQ:(⟨b,0,none⟩:Addr).add j=⟨b,j,none⟩:=by rw[Addr.add_lit];simp
 rwa[oQ]at this
theorem μ.put{w:World}{B:Nat}{e:TypeId}{sz b:Nat}{xs cs:aU}(aE:μ w B e sz (some ⟨b,0,none⟩) 1 1 xs)(an:cs.length=sz)(h1:∀y∈cs,y.oneCell'=true){N:ai}
  (K:∀υ,Kp w υ (λi=>i=b)->μ υ B e sz (some ⟨b,0,none⟩) 1 1 cs->N υ):hG w (⟨b,0,none⟩:Addr) cs/\∀υ,υ=w.setCells (⟨b,0,none⟩:Addr).block (⟨b,0,none⟩:Addr).off cs->N υ:=by
 obtain⟨aZ,bP,b7⟩:=aE.writes 0 cs (by omega) h1;have I:=aE.1;have hI:(⟨b,0,none⟩:Addr).add 0=⟨b,0,none⟩:=Addr.add_zero' _;refine⟨?_,λυ hw=>?_⟩
 ·have:hG w ((⟨b,0,none⟩:Addr).add 0) cs:=aZ
  rwa[hI]at this
 ·have oU:k1 w (some ⟨b,0,none⟩) 0 cs=υ:=by rw[hw];rfl
  rw[oU]at bP b7;refine K υ (b7.mono λi _⟨x,I,o⟩=>by cases I;exact o.symm) ?_;rw[FF,r9,mN,an,q7 (by omega),pI]at bP;exact bP
theorem μ.dj{w:World}{B:Nat}{e:TypeId}{sz b n c:Nat}{xs:aU}(aE:μ w B e sz (some ⟨b,0,none⟩) n c xs){j:Nat}(χ:j<n*sz){v:Value}(aL:v.oneCell'=true){N:ai}
  (K:∀υ,Kp w υ (λi=>i=b)->μ υ B e sz (some ⟨b,0,none⟩) n c (xs.set j v)->N υ):(w.cell? (⟨b,j,none⟩:Addr)).isSome=true/\w.frozen? (⟨b,j,none⟩:Addr)=false/\∀υ,υ=w.setCell (⟨b,j,none⟩:Addr) v->N υ:=by
 obtain⟨h1,η,au⟩:=aE.writes j [v] (by simp;omega) (by simpa using aL);have oQ:(⟨b,0,none⟩:Addr).add j=⟨b,j,none⟩:=by rw[Addr.add_lit];simp
 have uB:hG w ((⟨b,0,none⟩:Addr).add j) [v]:=h1;rw[oQ]at uB;have j0:=uB.2.1 0 (by simp);refine⟨j0.1,j0.2,λυ hw=>?_⟩;have oU:k1 w (some ⟨b,0,none⟩) j [v]=υ:=by rw[hw];show w.setCell ⟨b,0+j,none⟩ v=_;rw[mN]
 rw[oU]at η au;have jN:=aE.1;have gw:xs.take j++[v]++xs.drop (j+[v].length)=xs.set j v:=by rw[List.set_eq_take_append_cons_drop,aY (by omega)];simp
 rw[gw]at η;exact K υ (au.mono λi _⟨x,I,o⟩=>by cases I;exact o.symm) η
theorem μ.new{w:World}(cs:aU)(e:TypeId):μ (w.alloc (.cells cs.toArray e)) w.heap.size e cs.length (some ⟨w.heap.size,0,none⟩) 1 1 cs:=μ.alloc cs e cs.length 1 (by omega)
theorem θ.then{w δ υ:World}{S:a1}(h:θ w δ)(k:Kp δ υ S)(ed:∀i,S i->w.heap.size<=i):θ w υ:=
 Kp.trans h k (λ_ _ h=>h) λi o s=>absurd (ed i s) (by omega)
theorem a8.one{w:World}{p:J}{xs:aU}(h:a8 w p xs){v:Value}(aF:xs[0]?=some v):∃a,p=some a/\w.cell? a=some v:=by
 cases p with
 |none=>have:xs=[]:=h;subst this;simp at aF
 |some a=>
  refine⟨a,rfl,?_⟩
  have:=h 0 v aF
  rwa[show a.add 0=a from Addr.add_zero' a]at this
theorem a8.many{w:World}{p:J}{xs:aU}(h:a8 w p xs){j:Nat}{v:Value}(aF:xs[j]?=some v):∃a,p=some a/\w.cell? (a.add j)=some v:=by
 cases p with
 |none=>have:xs=[]:=h;subst this;simp at aF
 |some a=>exact⟨a,rfl,h j v aF⟩
def Typed(w:World)(e:TypeId)(i:Nat):Prop:=∃cur fr,w.heap[i]?=some (.cells cur e fr)
theorem Typed.ne{w:World}{e f:TypeId}{i j:Nat}(h:Typed w e i)(k:Typed w f j)(cc:e≠f):i≠j:=by
 rintro rfl;obtain⟨c,fr,h⟩:=h;obtain⟨aT,axa,k⟩:=k;rw[h]at k;injection k with k
 injection k with _ k _
 exact cc k
theorem μ.typed{w:World}{B:Nat}{e:TypeId}{sz:Nat}{p:J}{n c:Nat}{xs:aU}(h:μ w B e sz p n c xs){x:Addr}(I:p=some x):Typed w e x.block/\B<=x.block/\x.block<w.heap.size:=by
 refine⟨?_,h.ge I⟩;obtain⟨_,_,⟨hp,_⟩|⟨b,cur,fr,hp,_,ω,_⟩⟩:=h
 ·rw[hp]at I;cases I
 ·rw[hp]at I;cases I;exact⟨cur,fr,ω⟩
def kO(w:World)(B:Nat)(e:TypeId)(sz:Nat)(p:J)(n c:Nat)(xs:aU):Prop:=
 xs.length=n*sz/\n<=c/\((p=none/\c=0)\/∃b γ cur fr,p=some ⟨b,γ,none⟩/\B<=b/\w.heap[b]?=some (.cells cur e fr)/\xa fr cur.size/\γ+c*sz<=cur.size/\(cur.toList.drop γ).take (n*sz)=xs)
theorem μ.ahv{w:World}{B:Nat}{e:TypeId}{sz:Nat}{p:J}{n c:Nat}{xs:aU}(h:μ w B e sz p n c xs):kO w B e sz p n c xs:=by
 obtain⟨an,ar,h⟩:=h;refine⟨an,ar,?_⟩;rcases h with h|⟨b,cur,fr,hp,dR,ω,jx,π,I⟩
 ·exact .inl h
 ·exact .inr ⟨b,0,cur,fr,hp,dR,ω,jx,by omega,by simpa using I⟩
theorem kO.cells{w:World}{B:Nat}{e:TypeId}{sz:Nat}{p:J}{n c:Nat}{xs:aU}(h:kO w B e sz p n c xs):a8 w p xs:=by
 obtain⟨an,ar,h⟩:=h;rcases h with⟨rfl,rfl⟩|⟨b,γ,cur,fr,rfl,dR,ω,jx,π,I⟩
 ·have:n=0:=by omega
  subst this
  have:xs=[]:=q9 (by rw[an];simp)
  subst this;rfl
 ·intro j v aL;have oQ:(⟨b,γ,none⟩:Addr).add j=⟨b,γ+j,none⟩:=by rw[Addr.add_lit]
  rw[oQ,cell_of_block ω];rw[<-I,List.getElem?_take]at aL;split at aL
  ·rw[List.getElem?_drop]at aL;rw[<-Array.getElem?_toList];exact aL
  ·simp at aL
theorem kO.typed{w:World}{B:Nat}{e:TypeId}{sz:Nat}{p:J}{n c:Nat}{xs:aU}(h:kO w B e sz p n c xs){x:Addr}(I:p=some x):Typed w e x.block/\B<=x.block/\x.block<w.heap.size:=by
 obtain⟨_,_,⟨hp,_⟩|⟨b,γ,cur,fr,hp,dR,ω,_⟩⟩:=h
 ·rw[hp]at I;cases I
 ·rw[hp]at I;cases I;refine⟨⟨cur,fr,ω⟩,dR,?_⟩;rcases Is b w.heap.size with h|h
  ·exact h
  ·rw[Array.getElem?_eq_none h]at ω;cases ω
theorem kO.aC{w w':World}{S:a1}{B:Nat}{e:TypeId}{sz:Nat}{p:J}{n c:Nat}{xs:aU}(h:kO w B e sz p n c xs)(hk:Kp w w' S)(ψ:∀x,p=some x->¬S x.block):kO w' B e sz p n c xs:=by
 have y3:=@kO.typed _ _ _ _ _ _ _ _ h;obtain⟨an,ar,h⟩:=h;refine⟨an,ar,?_⟩;rcases h with h|⟨b,γ,cur,fr,rfl,dR,ω,jx,π,I⟩
 ·exact .inl h
 ·refine .inr ⟨b,γ,cur,fr,rfl,dR,?_,jx,π,I⟩;rw[hk.block b (y3 rfl).2.2 (ψ _ rfl)];exact ω
theorem kO.ex{w w':World}{B:Nat}{e:TypeId}{sz:Nat}{p:J}{n c:Nat}{xs:aU}(h:kO w B e sz p n c xs)(hk:θ w w'):kO w' B e sz p n c xs:=h.aC hk λ_ _ h=>h
theorem kO.lower{w:World}{B B':Nat}{e:TypeId}{sz:Nat}{p:J}{n c:Nat}{xs:aU}(h:kO w B e sz p n c xs)(dR:B'<=B):kO w B' e sz p n c xs:=by
 obtain⟨an,ar,h⟩:=h;refine⟨an,ar,?_⟩;rcases h with h|⟨b,γ,cur,fr,hp,ω,r⟩
 ·exact .inl h
 ·exact .inr ⟨b,γ,cur,fr,hp,fo dR ω,r⟩
theorem kO.nil(w:World)(B:Nat)(e:TypeId)(sz:Nat):kO w B e sz none 0 0 []:=(μ.nil w B e sz).ahv
theorem kO.tail{w:World}{B:Nat}{e:TypeId}{sz:Nat}{p:J}{n c:Nat}{xs:aU}(h:kO w B e sz p n c xs)(aF:1<=n)(fj:0<sz):kO w B e sz (dA p c 1 sz) (n-1) (c-1) (xs.drop sz):=by
 obtain⟨an,ar,h⟩:=h;have aM:(n-1)*sz=n*sz-sz:=by rw[Nat.sub_mul,FI]
 have bz:(c-1)*sz=c*sz-sz:=by rw[Nat.sub_mul,FI]
 have gw:1*sz<=n*sz:=tq _ aF;have iS:n*sz<=c*sz:=tq _ ar;refine⟨by rw[kI,an,aM],by omega,?_⟩;rcases h with⟨_,π⟩|⟨b,γ,cur,fr,rfl,dR,ω,jx,π,I⟩
 ·omega
 ·unfold dA;by_cases h1:c=1
  ·subst h1
   have:n=1:=by omega
   subst this;refine .inr ⟨b,γ,cur,fr,by simp,dR,ω,jx,(by have:cur.toList.length=cur.size:=k0;rw[u4,Nat.zero_mul];omega),?_⟩;have ae:xs.drop sz=[]:=q7 (by rw[an];omega);rw[ae,u4,Nat.zero_mul,FF]
  ·rw[aN h1];refine .inr ⟨b,γ+sz,cur,fr,?_,dR,ω,jx,by omega,?_⟩
   ·rw[FI,jd,Addr.add_lit]
   ·rw[<-I,aM,<-PB,FE]
theorem aki{w:World}{B:Nat}{e:TypeId}{sz:Nat}{p:J}{n c m bytes:Nat}{xs:aU}{zero:ah}{Src:aU->Prop}{N:J->Nat->ai}
  (aE:kO w B e sz p n c xs)(dR:B<=w.heap.size)(ys:aU)(ψ:Src ys)(an:ys.length=m*sz)(h1:∀y∈ys,y.oneCell'=true)(aI:zero.size=sz)
  (ω:(n+m)*bytes<=140737488355328)(Ak:n+m<=9223372036854775807)
  (K:∀bU aT w',kO w' B e sz bU (n+m) aT (xs++ys)->Kp w w' (λi=>∃x,p=some x/\x.block=i)->N bU aT w'):gD w p n c m Src e sz bytes zero N:=by
 have kW:=aE.cells;obtain⟨jN,pA,hp⟩:=aE;refine⟨ys,an,ψ,λmE=>?_,λabb=>⟨ω,Ak,xs,jN,kW,λb aT w' xy Er fW=>?_⟩⟩
 ·rcases hp with⟨rfl,rfl⟩|⟨b,γ,cur,fr,rfl,Ei,px,jx,π,I⟩
  ·refine⟨trivial,λw' fW=>?_⟩;have hm:m=0:=by omega
   have ar:n=0:=by omega
   subst hm ar
   have:ys=[]:=q9 (by rw[an];simp)
   subst this;subst fW;refine K _ _ _ ⟨by simpa using jN,da _,.inl ⟨rfl,rfl⟩⟩ (Kp.refl _ _)
  ·have hmul:(n+m)*sz<=c*sz:=tq _ mE;have B6:(n+m)*sz=n*sz+m*sz:=lr _ _ _;have oQ:(⟨b,γ,none⟩:Addr).add (n*sz)=⟨b,γ+n*sz,none⟩:=by rw[Addr.add_lit]
   refine⟨?_,λw' fW=>?_⟩
   ·show hG w ((⟨b,γ,none⟩:Addr).add (n*sz)) ys;rw[oQ];refine⟨rfl,λj χ=>⟨?_,?_⟩,h1⟩<;>dsimp only
    ·rw[cell_of_block px,Array.getElem?_eq_getElem (by omega)];rfl
    ·rw[JX px];rcases jx with h|h<;>simp<;>omega
   ·have hw:w'=w.setCells b (γ+n*sz) ys:=by rw[fW];simp[k1]
    subst hw;have ee:=Kh b ys (γ+n*sz) w cur px;refine K _ _ _ ⟨by simp[jN,an,B6],mE,.inr ⟨b,γ,_,fr,rfl,Ei,ee,by rw[size_put];exact jx,by rw[size_put];exact π,?_⟩⟩ (Kp.setCells b ⟨_,rfl,rfl⟩ ys (γ+n*sz) w);have gg:cur.toList.length=cur.size:=k0;rw[GG _ _ _ (by omega),B6];have t1:(cur.toList.take (γ+n*sz)++ys++cur.toList.drop (γ+n*sz+ys.length)).drop γ=xs++ys++cur.toList.drop (γ+n*sz+ys.length):=by rw[mc,CB (by rw[gY];omega),FE,show γ+n*sz-γ=n*sz by omega,I,mc]
    rw[t1,pb (by simp[jN,an])];rw[hr (by simp[jN,an])]
 ·subst fW xy;have Ax:(Builtin.zeroCells zero (aT-(n+m))).size=(aT-(n+m))*sz:=by rw[size_zeroCells,aI]
  have fj:(xs.toArray++ys.toArray++Builtin.zeroCells zero (aT-(n+m))).size=aT*sz:=by
   have:aT*sz=(n+m)*sz+(aT-(n+m))*sz:=by rw[<-lr];congr 1;omega
   simp only[LH,fp,Ax,jN,an,this,lr]
  have xH:=μ.made (w:=w.drew) (e:=e) (sz:=sz) (n:=n+m) (c:=aT) (cur:=xs.toArray++ys.toArray++Builtin.zeroCells zero (aT-(n+m))) (fr:=(0,0)) Er (by rw[fj];exact eF _) (xa.zero _);have xI:(xs.toArray++ys.toArray++Builtin.zeroCells zero (aT-(n+m))).toList.take ((n+m)*sz)=xs++ys:=by
   have hI:(xs.toArray++ys.toArray++Builtin.zeroCells zero (aT-(n+m))).toList=(xs++ys)++(Builtin.zeroCells zero (aT-(n+m))).toList:=by simp
   rw[hI,pb (by simp[jN,an,lr]),hr (by simp[jN,an,lr])]
  rw[xI]at xH;exact K _ _ _ (xH.lower dR).ahv ((θ.trans (θ.drew w) (θ.alloc _ _)).mono λ_ _ h=>h.elim)
theorem μ.cI{w w':World}{S:a1}{B:Nat}{e:TypeId}{sz:Nat}{p:J}{n c:Nat}{xs:aU}(h:μ w B e sz p n c xs)(k:Kp w w' S)(f:TypeId)(ψ:∀i,S i->Typed w f i)(cc:e≠f):μ w' B e sz p n c xs:=
 h.aC k λx I hm=>(h.typed I).1.ne (ψ _ hm) cc rfl
theorem kO.cI{w w':World}{S:a1}{B:Nat}{e:TypeId}{sz:Nat}{p:J}{n c:Nat}{xs:aU}(h:kO w B e sz p n c xs)(k:Kp w w' S)(f:TypeId)(ψ:∀i,S i->Typed w f i)(cc:e≠f):kO w' B e sz p n c xs:=
 h.aC k λx I hm=>(h.typed I).1.ne (ψ _ hm) cc rfl
theorem Kp.gr{w δ υ:World}{S:a1}(h:Kp w δ S)(k:Kp δ υ S):Kp w υ S:=Kp.trans h k (λ_ _ h=>h) λ_ _ h=>h
theorem θ.aC{w δ:World}(h:θ w δ)(S:a1):Kp w δ S:=h.mono λ_ _ h=>h.elim
theorem dF(b n:Nat):(⟨b,0,none⟩:Addr).add n=⟨b,n,none⟩:=by rw[Addr.add_lit];simp
theorem a8.row{w:World}{p:J}{rows:List aU}(h:a8 w p rows.flatten){k:Nat}(hk:∀r∈rows,r.length=k)(aF:0<k){i:Nat}{r:aU}(o:rows[i]?=some r):∃a,p=some a/\aw w (a.add (i*k)) r:=by
 have an:=hk r (eS o);have h1:=NU rows k hk i r o 0 aF;have hI:r[0]?=some r[0]:=List.getElem?_eq_getElem (by omega);rw[hI]at h1;obtain⟨a,rfl,_⟩:=h.many h1;refine⟨a,rfl,λj v χ=>?_⟩;have s5:=(List.getElem?_eq_some_iff.1 χ).1
 have:=NU rows k hk i r o j (by omega)
 rw[χ]at this;rw[add_add];exact h _ _ this
theorem aag:∀(cs:aU)(k γ:Nat)(a:ah),(cs.zipIdx k).foldl (λa(x:Value×Nat)=>a.setIfInBounds (γ+x.2) x.1) a=put a (γ+k) cs
 |[],_,_,_=>rfl
 |c::r,k,γ,a=>by rw[List.zipIdx_cons,List.foldl_cons,aag r (k+1) γ];rfl
theorem SX{place:Nat->Option (Nat×Nat)}{cells:ah}{i off size:Nat}{v:Value}{rest:List (Nat×Value)}(hp:place i=some (off,size))(aL:v.cells.size=size)(ψ:off+size<=cells.size):
  Instr.fill place cells ((i,v)::rest)=Instr.fill place (put cells off v.cells.toList) rest:=by
 rw[Instr.fill,hp];dsimp only;rw[aN (by simp[aL];omega)];congr 1;rw[<-Array.foldl_toList,Array.toList_zipIdx];exact aag v.cells.toList 0 off cells
theorem asb(z:ah)(cs:aU)(h:cs.length=z.size):put z 0 cs=cs.toArray:=by apply qq;have an:z.toList.length=z.size:=k0;rw[GG _ _ _ (by omega),FF,r9,mN,q7 (by omega),pI]
theorem NS(k:Nat)(z cs:ah)(aI:z.size=k)(π:cs.size=k):Instr.fill (λi=>some (i*k,k)) z [(0,.agg cs)]=some cs:=by rw[SX (off:=0) (size:=k) (v:=.agg cs) (by simp) π (by omega)];show some (put z 0 cs.toList)=some cs;rw[asb z cs.toList (by simp;omega)]
theorem amh(k:Nat)(z cs:ah)(v:Value)(aI:z.size=1+k)(aL:v.cells=#[v])(π:cs.size=k):Instr.fill (λi=>#[(0,1),(1,k)][i]?) z [(0,v),(1,.agg cs)]=some (v::cs.toList).toArray:=by rw[SX (off:=0) (size:=1) (by simp) (by rw[aL];rfl) (by omega),SX (off:=1) (size:=k) (v:=.agg cs) (by simp) π (by rw[size_put];omega)];show some _=some _;congr 1;have an:z.toList.length=z.size:=k0;apply qq;rw[aL];show(put (put z 0 [v]) 1 cs.toList).toList=v::cs.toList;have gg:cs.toList.length=cs.size:=k0;rw[GG _ _ _ (by rw[size_put];omega),GG _ _ _ (by simp;omega)];simp only[FF,r9,mN,List.length_cons,List.length_nil];rw[pb (by simp),q7 (by simp;omega)];simp
theorem E4(k m:Nat)(v:Value)(hk:0<k):madeCells (List.replicate k v).toArray m=(List.replicate m v).toArray:=by
 apply Array.ext
 ·simp[madeCells]
 ·intro i h1 η
  have:i%k<k:=Nat.mod_lt _ hk
  simp[madeCells,this]
theorem Z9{α:Type}{k:Nat}:∀(rows:List (List α))(i:Nat)(r:List α),(∀r∈rows,r.length=k)->i<rows.length->r.length=k->rows.flatten.take (i*k)++r++rows.flatten.drop (i*k+r.length)=(rows.set i r).flatten
 |[],i,r,_,h,_=>by simp at h
 |x::rs,0,r,hk,_,σ=>by have I:=hk x (by simp);simp only[Nat.zero_mul,FF,r9,mN,Cv,It];rw[CB (by omega),q7 (by omega),r9]
 |x::rs,i+1,r,hk,h,σ=>by have I:=hk x (by simp);have cq:=Z9 rs i r (λr σ=>hk r (h9 _ σ)) (by simpa using h) σ;rw[Cv,List.set_cons_succ,Cv,<-cq,lr,FI];rw[show i*k+k=x.length+i*k by omega,List.take_length_add_append,show x.length+i*k+r.length=x.length+(i*k+r.length)by omega,List.drop_length_add_append];simp[mc]
theorem ak1{w:World}{B:Nat}{e:TypeId}{sz:Nat}{p s:J}{n c nI:Nat}{xs ys:aU}{N:ai}(aE:μ w B e sz p n c xs)(ψ:a8 w s ys)(an:ys.length=nI*sz)(qg:nI<=n)(h1:∀y∈ys,y.oneCell'=true)
  (K:∀w',μ w' B e sz p n c (ys++xs.drop (nI*sz))->Kp w w' (λi=>∃x,p=some x/\x.block=i)->N w'):vL w p n s nI sz N:=by
 have hm:nI*sz<=n*sz:=tq _ qg;obtain⟨aZ,bP,b7⟩:=aE.writes 0 ys (by omega) h1;refine⟨ys,by rw[an];congr 1;exact(q8 qg).symm,ψ,aZ,λw' fW=>?_⟩;subst fW;rw[mN,an]at bP;exact K _ (by simpa using bP) b7
theorem By{w:World}{B:Nat}{e:TypeId}{sz:Nat}{p:J}{n c m bytes:Nat}{xs:aU}{zero:ah}{Src:aU->Prop}{N:J->Nat->ai}
  (aE:μ w B e sz p n c xs)(dR:B<=w.heap.size)(ys:aU)(ψ:Src ys)(an:ys.length=m*sz)(h1:∀y∈ys,y.oneCell'=true)(aI:zero.size=sz)
  (ω:(n+m)*bytes<=140737488355328)(Ak:n+m<=9223372036854775807)
  (K:∀bU aT w',μ w' B e sz bU (n+m) aT (xs++ys)->Kp w w' (λi=>∃x,p=some x/\x.block=i)->(bU=p\/∀x,bU=some x->w.heap.size<=x.block)->N bU aT w'):gD w p n c m Src e sz bytes zero N:=by
 have kW:=aE.cells;obtain⟨jN,pA,hp⟩:=aE;refine⟨ys,an,ψ,λmE=>?_,λabb=>⟨ω,Ak,xs,jN,kW,λb aT w' xy Er fW=>?_⟩⟩
 ·rcases hp with⟨rfl,rfl⟩|⟨b,cur,fr,rfl,Ei,px,jx,π,I⟩
  ·refine⟨trivial,λw' fW=>?_⟩;have hm:m=0:=by omega
   have ar:n=0:=by omega
   subst hm ar
   have:ys=[]:=q9 (by rw[an];simp)
   subst this;subst fW;refine K _ _ _ ⟨by simpa using jN,da _,.inl ⟨rfl,rfl⟩⟩ (Kp.refl _ _) (.inl rfl)
  ·have hmul:(n+m)*sz<=c*sz:=tq _ mE;have B6:(n+m)*sz=n*sz+m*sz:=lr _ _ _;have oQ:(⟨b,0,none⟩:Addr).add (n*sz)=⟨b,n*sz,none⟩:=by rw[Addr.add_lit];simp
   refine⟨?_,λw' fW=>?_⟩
   ·show hG w ((⟨b,0,none⟩:Addr).add (n*sz)) ys;rw[oQ];refine⟨rfl,λj χ=>⟨?_,?_⟩,h1⟩<;>dsimp only
    ·rw[cell_of_block px,Array.getElem?_eq_getElem (by omega)];rfl
    ·rw[JX px];rcases jx with h|h<;>simp<;>omega
   ·have hw:w'=w.setCells b (n*sz) ys:=by rw[fW];simp[k1]
    subst hw;have ee:=Kh b ys (n*sz) w cur px;refine K _ _ _ ⟨by simp[jN,an,B6],mE,.inr ⟨b,_,fr,rfl,Ei,ee,by rw[size_put];exact jx,by rw[size_put];exact π,?_⟩⟩ (Kp.setCells b ⟨_,rfl,rfl⟩ ys (n*sz) w) (.inl rfl);rw[GG _ _ _ (by omega),B6,I,pb (by simp[jN,an])];rw[hr (by simp[jN,an])]
 ·subst fW xy;have Ax:(Builtin.zeroCells zero (aT-(n+m))).size=(aT-(n+m))*sz:=by rw[size_zeroCells,aI]
  have fj:(xs.toArray++ys.toArray++Builtin.zeroCells zero (aT-(n+m))).size=aT*sz:=by
   have:aT*sz=(n+m)*sz+(aT-(n+m))*sz:=by rw[<-lr];congr 1;omega
   simp only[LH,fp,Ax,jN,an,this,lr]
  have xH:=μ.made (w:=w.drew) (e:=e) (sz:=sz) (n:=n+m) (c:=aT) (cur:=xs.toArray++ys.toArray++Builtin.zeroCells zero (aT-(n+m))) (fr:=(0,0)) Er (by rw[fj];exact eF _) (xa.zero _);have xI:(xs.toArray++ys.toArray++Builtin.zeroCells zero (aT-(n+m))).toList.take ((n+m)*sz)=xs++ys:=by
   have hI:(xs.toArray++ys.toArray++Builtin.zeroCells zero (aT-(n+m))).toList=(xs++ys)++(Builtin.zeroCells zero (aT-(n+m))).toList:=by simp
   rw[hI,pb (by simp[jN,an,lr]),hr (by simp[jN,an,lr])]
  rw[xI]at xH;exact K _ _ _ (xH.lower dR) ((θ.trans (θ.drew w) (θ.alloc _ _)).mono λ_ _ h=>h.elim) (.inr λx I=>by cases I;exact eF _)
theorem μ.more{w:World}{B:Nat}{e:TypeId}{sz b n c:Nat}{xs:aU}(h:μ w B e sz (some ⟨b,0,none⟩) n c xs){k:Nat}(hk:n<=k)(abh:k<=c):∃ys,ys.length=(k-n)*sz/\μ w B e sz (some ⟨b,0,none⟩) k c (xs++ys):=by
 obtain⟨an,ar,hp⟩:=h;rcases hp with⟨hp,_⟩|⟨gW,cur,fr,hp,dR,ω,jx,π,I⟩
 ·cases hp
 ·cases hp;have hm:k*sz<=c*sz:=tq _ abh;have aon:n*sz<=k*sz:=tq _ hk;have e:xs++(cur.toList.take (k*sz)).drop (n*sz)=cur.toList.take (k*sz):=by
   conv=>rhs;rw[<-zm (n*sz) (cur.toList.take (k*sz))]
   rw[AX,q8 aon,I]
  refine⟨(cur.toList.take (k*sz)).drop (n*sz),by simp[Nat.sub_mul];omega,?_⟩;rw[e];exact⟨by simp;omega,abh,.inr ⟨_,cur,fr,rfl,dR,ω,jx,π,rfl⟩⟩
theorem μ.less{w:World}{B:Nat}{e:TypeId}{sz n c:Nat}{p:J}{xs:aU}(h:μ w B e sz p n c xs){k:Nat}(hk:k<=n):μ w B e sz p k c (xs.take (k*sz)):=by
 obtain⟨an,ar,hp⟩:=h;have hm:k*sz<=n*sz:=tq _ hk;refine⟨by simp;omega,by omega,?_⟩;rcases hp with hp|⟨gW,cur,fr,hp,dR,ω,jx,π,I⟩
 ·exact .inl hp
 ·exact .inr ⟨gW,cur,fr,hp,dR,ω,jx,π,by rw[<-I,AX,q8 hm]⟩
theorem μ.atp{w:World}{B:Nat}{e:TypeId}{sz n c:Nat}{p:J}{xs:aU}(h:μ w B e sz p n c xs)(s:Nat):dA p c 0 s=p:=by
 unfold dA;split
 ·rfl
 ·rcases h.2.2 with⟨rfl,_⟩|⟨b,cur,fr,rfl,_⟩
  ·rfl
  ·simp only[jd,Addr.add_lit];simp
theorem Nu{w:World}{B:Nat}{e:TypeId}{p s:J}{n c nI ch:Nat}{xs ys:aU}{N:ai}(aE:μ w B e 1 p n c xs)(γ:Nat)(ψ:a8 w s ys)(an:ys.length=min nI ch)(σ:γ+ys.length<=n)(h1:∀y∈ys,y.oneCell'=true)
  (K:∀w',μ w' B e 1 p n c (xs.take γ++ys++xs.drop (γ+ys.length))->Kp w w' (λi=>∃x,p=some x/\x.block=i)->N w'):vL w (dA p c γ 1) ch s nI 1 N:=by
 obtain⟨aZ,bP,b7⟩:=aE.writes γ ys (by omega) h1;have key:M5 w (dA p c γ 1) 0 ys/\k1 w (dA p c γ 1) 0 ys=k1 w p γ ys:=by
  have ar:=aE.2.1;unfold dA;split
  ·rename_i axA
   have:ys=[]:=q9 (by omega)
   subst this;rcases aE.2.2 with⟨rfl,_⟩|⟨b,cur,fr,rfl,_⟩
   ·exact⟨trivial,rfl⟩
   ·refine⟨?_,rfl⟩;show hG w ((⟨b,0,none⟩:Addr).add 0) [];exact⟨by simp[Addr.add_lit],λj χ=>by simp at χ,λv aL=>by cases aL⟩
  ·rcases aE.2.2 with⟨rfl,_⟩|⟨b,cur,fr,rfl,_⟩
   ·exact⟨trivial,rfl⟩
   ·have aZ:hG w ((⟨b,0,none⟩:Addr).add γ) ys:=aZ;constructor
    ·show hG w (((⟨b,0,none⟩:Addr).add (γ*1)).add 0) ys;rw[add_add,eG,Nat.add_zero];exact aZ
    ·show w.setCells ((⟨b,0,none⟩:Addr).add (γ*1)).block (((⟨b,0,none⟩:Addr).add (γ*1)).off+0) ys=w.setCells b (0+γ) ys;rw[yv,Ju,eG,Nat.add_zero]
 refine⟨ys,by rw[an,eG],ψ,key.1,λw' fW=>?_⟩;subst fW;rw[key.2];exact K _ bP b7
theorem akk{w:World}{B:Nat}{e:TypeId}{p:J}{i c m bytes:Nat}{v:Value}{xs:aU}{N:J->Nat->ai}(aE:μ w B e 1 p i c xs)(bL:c<i+m)(ω:(i+m)*bytes<=140737488355328)(Ak:i+m<=9223372036854775807)
  (K:∀aT w' k5,k5.length=m->θ w w'->μ w' w.heap.size e 1 (some ⟨w.heap.size,0,none⟩) (i+m) aT (xs++k5)->N (some ⟨w.heap.size,0,none⟩) aT w'):Nd w p i c m e 1 bytes #[v] N:=by
 have KP:(Builtin.zeroCells #[v] m).size=m:=by simp[size_zeroCells]
 have aor:m*bytes<=(i+m)*bytes:=tq _ (by omega)
 refine⟨by have:((m*bytes:Nat):Int)<=281474976710656:=by omega
           rwa[Int.natCast_mul]at this,by omega,(Builtin.zeroCells #[v] m).toList,by simp[KP],by simp,λh=>by omega,λ_=>⟨ω,Ak,xs,aE.1,aE.cells,λb aT w' xy Er fW=>?_⟩⟩
 subst xy fW;have jN:xs.length=i:=by have:=aE.1;omega
 have Ax:(Builtin.zeroCells #[v] (aT-(i+m))).size=aT-(i+m):=by rw[size_zeroCells];simp
 have fj:(xs.toArray++(Builtin.zeroCells #[v] m).toList.toArray++Builtin.zeroCells #[v] (aT-(i+m))).size=aT:=by simp only[LH,fp,k0,Ax,KP,jN];omega
 have xH:=μ.made (w:=w.drew) (e:=e) (sz:=1) (n:=i+m) (c:=aT) (cur:=xs.toArray++(Builtin.zeroCells #[v] m).toList.toArray++Builtin.zeroCells #[v] (aT-(i+m))) (fr:=(0,0)) Er (by rw[fj];omega) (xa.zero _);have xI:(xs.toArray++(Builtin.zeroCells #[v] m).toList.toArray++Builtin.zeroCells #[v] (aT-(i+m))).toList.take ((i+m)*1)=xs++(Builtin.zeroCells #[v] m).toList:=by
  have hI:(xs.toArray++(Builtin.zeroCells #[v] m).toList.toArray++Builtin.zeroCells #[v] (aT-(i+m))).toList=(xs++(Builtin.zeroCells #[v] m).toList)++(Builtin.zeroCells #[v] (aT-(i+m))).toList:=by simp
  rw[hI,pb (by simp[jN,KP]),hr (by simp[jN,KP])]
 rw[xI]at xH;exact K aT _ _ (by simp[KP]) ((θ.drew w).trans (θ.alloc _ _)) xH
theorem al6{P:Program}{g:FuncId}{fn:Func}{t r e:TypeId}(bf:P.funcs[g]?=some fn)(Ku:(fn.name== "runtime.NumGoroutine")=false)(ω:fn.body.isNone=true)(ar:Extern.findNext fn=none)
  (he:Extern.find fn=some (Extern.SlicesOverlaps.overlaps #[t,t] #[r]))(aO:P.underlying t=some (.slice e)){size:Nat}(aI:∀w,(Go.sizeOf e).run P w=.ok size w)
  {w:World}{zI:Nat}{v:Value}{afH tb:TypeId}{cur:ah}{fr:Nat×Nat}{b γ:Nat}(aL:w.heap[zI]?=some (.cells #[v] afH))(hw:w.heap[b]?=some (.cells cur tb fr))(TF:cur.size≠0)(cc:zI≠b){U6 gF lb ja:Nat}
  {N:Value->ai}(h:N (.bool false) w):SS P g #[.slice (some ⟨zI,0,none⟩) U6 gF,.slice (some ⟨b,γ,none⟩) lb ja] w N:=by
 refine⟨.bool false,w,?_,h⟩;rw[run_callFunc_extern bf Ku ω ar he];rw[Lib.run_overlaps_apart w t r e aO size aI ⟨zI,0,none⟩ ⟨b,γ,none⟩ U6 gF lb ja cc afH tb 1 cur.size (by simp[World.shape?,aL]) (by simp[World.shape?,hw]) TF (by simp[World.frozen?,aL]) (by simp[World.frozen?,aL])];rfl
end Go.bI
namespace Go.Proofs.YtcpdfhkhaekekaaGreat.G
open Go.bI Go.RowKit
abbrev k7:=BitVec 32
def adN:k7:=79764919#32
def aeW(r:k7):k7:=(r<<<1)^^^(if r.msb then adN else 0#32)
def L3:Nat->k7->k7
 |0,r=>r
 |k+1,r=>aeW (L3 k r)
def R1(x:Int):k7:=BitVec.ofInt 32 x<<<24
def LP(r:k7)(xs:ao):k7:=xs.foldl (λr x=>L3 8 (r^^^R1 x)) r
def more(s:k7)(xs:ao):k7:= ~~~(LP (~~~s) xs)
def u(r:k7):Int:=(r.toNat:Int)
theorem QI(r:k7):0<=u r/\u r<4294967296:=by
 have:=r.isLt
 unfold u;omega
theorem Vx(r:k7):BitVec.ofInt 32 (u r)=r:=by simp[u]
theorem av8{x:Int}(aF:0<=x)(h1:x<4294967296):u (BitVec.ofInt 32 x)=x:=by unfold u;rw[BitVec.toNat_ofInt];omega
theorem akv:IntKind.u32.bits=32:=rfl
theorem wrap32(n:Int):IntKind.u32.wrap n=n%4294967296:=by simp[IntKind.wrap,IntKind.signed,IntKind.bits]
theorem ah9(r:k7):IntKind.u32.wrap (u r)=u r:=by
 rw[wrap32]
 have:=QI r
 omega
theorem aih(r s:k7):IntKind.u32.wrap ((BitVec.ofInt IntKind.u32.bits (u r)^^^BitVec.ofInt IntKind.u32.bits (u s)).toNat:Int)=u (r^^^s):=by show IntKind.u32.wrap ((BitVec.ofInt 32 (u r)^^^BitVec.ofInt 32 (u s)).toNat:Int)=_;rw[Vx,Vx];exact ah9 _
theorem acM(r:k7):IntKind.u32.wrap ((BitVec.ofInt IntKind.u32.bits (if IntKind.u32.signed then-1 else IntKind.u32.max)^^^BitVec.ofInt IntKind.u32.bits (u r)).toNat:Int)=u (~~~r):=by
 have e:BitVec.ofInt 32 (if IntKind.u32.signed then-1 else IntKind.u32.max)=BitVec.allOnes 32:=by decide
 show IntKind.u32.wrap ((BitVec.ofInt 32 (if IntKind.u32.signed then-1 else IntKind.u32.max)^^^BitVec.ofInt 32 (u r)).toNat:Int)=_;rw[e,Vx,BitVec.allOnes_xor];exact ah9 _
theorem aeA(r:k7)(k:Nat)(hk:k<=32):IntKind.u32.wrap (u r*2^(min k IntKind.u32.bits))=u (r<<<k):=by rw[akv,q8 hk,wrap32];unfold u;rw[BitVec.toNat_shiftLeft,Nat.shiftLeft_eq];simp
theorem avP(r:k7):Int.fdiv (u r) (2^(min 31 IntKind.u32.bits))=if r.msb then 1 else 0:=by
 show Int.fdiv (u r) 2147483648=_;rw[Il _ (by omega)];have h:=r.msb_eq_decide;have h1:=QI r;rw[h];unfold u at*;by_cases I:2147483648<=r.toNat
 ·rw[aY (by simpa using I)];omega
 ·rw[aN (by simpa using I)];omega
theorem ar1(r:k7):IntKind.u32.wrap (79764919*Int.fdiv (u r) (2^(min 31 IntKind.u32.bits)))=u (if r.msb then adN else 0#32):=by rw[avP];cases r.msb<;>decide
theorem atK(r:k7):IntKind.u32.wrap ((BitVec.ofInt IntKind.u32.bits (IntKind.u32.wrap (u r*2^(min 1 IntKind.u32.bits)))^^^BitVec.ofInt IntKind.u32.bits (IntKind.u32.wrap (79764919*Int.fdiv (u r) (2^(min 31 IntKind.u32.bits))))).toNat:Int)=u (aeW r):=by rw[aeA r 1 (by omega),ar1,aih];rfl
theorem Gd(r:k7)(w:World):tu.C (u r) w (φ λv w'=>v=.int .u32 (u (L3 8 r))/\θ w w'):=by
 apply tu.ok;unfold tu.main tu.bd;refine⟨λx i δ=>∃j:Nat,i=j/\j<=8/\x=u (L3 j r)/\w=δ,λ_ i _=>(8-i).toNat,⟨0,rfl,by omega,rfl,rfl⟩,?_⟩;rintro _ _ δ ⟨j,rfl,χ,rfl,rfl⟩;unfold tu.ε;by_cases bQ:(j:Int)<8
 ·rw[uo bQ,atK,b3 (by omega) (by omega)];exact⟨⟨j+1,by omega,by omega,rfl,rfl⟩,by((try dsimp only);omega)⟩
 ·rw[iM bQ];obtain rfl:j=8:=by omega
  exact φ.mk ⟨rfl,θ.refl w⟩
theorem akz{x:Int}(aF:0<=x)(h1:x<256):IntKind.u32.wrap (IntKind.u32.wrap x*2^(min 24 IntKind.u32.bits))=u (R1 x):=by
 have e:IntKind.u32.wrap x=u (BitVec.ofInt 32 x):=by rw[wrap32,av8 aF (by omega)];omega
 rw[e,aeA _ 24 (by omega)];rfl
theorem asG(r:k7)(xs:ao)(x:Int):LP r (xs++[x])=L3 8 (LP r xs^^^R1 x):=by simp[LP]
theorem at3{α:Type}{l:List α}{j:Nat}(χ:j<l.length):l.take (j+1)=l.take j++[l[j]]:=lq χ
theorem HV{w:World}{k:IntKind}{p:J}{xs:ao}(π:a8 w p (xs.map (Value.int k))){j:Nat}(χ:j<xs.length):∃a,p=some a/\w.cell? (a.add j)=some (.int k xs[j]):=by
 cases p with
 |none=>have:xs.map (Value.int k)=[]:=π;simp at this;subst this;simp at χ
 |some a=>exact⟨a,rfl,π j _ (by simp[χ])⟩
def bg(xs:ao):aU:=xs.map (.int .u8)
theorem ai9(s:k7)(p:J)(n c:Nat)(xs:ao)(w:World)(π:a8 w p (bg xs))(ar:xs.length=n)(an:n<=9223372036854775806)(ω:∀x∈xs,0<=x/\x<256):
  tt.C (u s) p n c w (φ λv w'=>v=.int .u32 (u (more s xs))/\θ w w'):=by
 apply tt.ok;unfold tt.main tt.bd;rw[acM];refine⟨λx ad aD c1 t i δ=>p=ad/\n=aD/\c=c1/\(n:Int)=t/\∃j:Nat,i=j/\j<=n/\x=u (LP (~~~s) (xs.take j))/\θ w δ,λ_ _ _ _ _ i _=>(n-i).toNat,⟨rfl,rfl,rfl,rfl,0,rfl,by omega,rfl,θ.refl w⟩,?_⟩;rintro _ _ _ _ _ _ δ ⟨rfl,rfl,rfl,rfl,j,rfl,χ,rfl,h1⟩;unfold tt.ε;by_cases bQ:(j:Int)<n
 ·rw[uo bQ];have s5:j<xs.length:=by omega
  obtain⟨aq,yZ,j0⟩:=HV (π.ex h1) s5;refine aW (by omega) (aW bQ (gK yZ ?_));refine⟨xs[j],by simpa using j0,?_⟩;obtain⟨qP,ε⟩:=ω xs[j] (hN _);rw[akz qP ε,aih];refine κ.use (Gd _ δ) ?_;rintro _ υ ⟨rfl,η⟩
  try dsimp only[NF]
  rw[b3 (by omega) (by omega)];refine⟨⟨rfl,rfl,rfl,rfl,j+1,by omega,by omega,?_,h1.trans η⟩,by((try dsimp only);omega)⟩;rw[at3 s5,asG]
 ·rw[iM bQ,acM]
  have:j=xs.length:=by omega
  subst this;rw[AV];exact φ.mk ⟨rfl,h1⟩
theorem Yd(p:J)(n c:Nat)(xs:ao)(w:World)(π:a8 w p (bg xs))(ar:xs.length=n)(an:n<=9223372036854775806)(ω:∀x∈xs,0<=x/\x<256):
  F0.C p n c w (φ λv w'=>v=.int .u32 (u (more 0#32 xs))/\θ w w'):=by
 apply F0.ok;unfold F0.main;refine κ.use (ai9 0#32 p n c xs w π ar an ω) ?_;rintro _ δ ⟨rfl,h1⟩
 try dsimp only[NF]
 exact φ.mk ⟨rfl,h1⟩
def Bytes(xs:ao):Prop:=∀x∈xs,0<=x/\x<256
theorem Bytes.append{xs ys:ao}(h:Bytes xs)(k:Bytes ys):Bytes (xs++ys):=λx I=>(iI.1 I).elim (h x) (k x)
theorem Bytes.k4(n:Nat):Bytes (List.replicate n 0):=λx I=>by rw[(List.mem_replicate.1 I).2];omega
theorem Bytes.take{xs:ao}(h:Bytes xs)(n:Nat):Bytes (xs.take n):=λx I=>h x (wD I)
theorem Bytes.drop{xs:ao}(h:Bytes xs)(n:Nat):Bytes (xs.drop n):=λx I=>h x (Im I)
def pad(xs:ao):ao:=xs++List.replicate (60-xs.length) 0
def L4(r:k7):ao:=[u r/16777216%256,u r/65536%256,u r/256%256,u r%256]
def kJ(xs:ao):ao:=pad xs++L4 (more 0#32 (pad xs))
def JJ(xs:ao):Int:=if 60<xs.length then 6 else 0
def um(xs:ao):ao:=if 60<xs.length then[]else kJ xs
def nC(xs:ao):Int:=if xs.length=64 then(if um (xs.take 60)=xs then 0 else 2)else 6
def xV(xs:ao):ao:=if xs.length=64 then(if um (xs.take 60)=xs then xs.take 60 else[])else[]
theorem Ll{xs:ao}(h:xs.length<=60):(pad xs).length=60:=by simp[pad];omega
theorem atO(r:k7):Bytes (L4 r):=by intro x I;simp only[L4,fE,oj,pa]at I;rcases I with rfl|rfl|rfl|rfl<;>exact⟨PK _ (by omega),PA _ (by omega)⟩
theorem adB{xs:ao}(h:Bytes xs):Bytes (pad xs):=h.append (Bytes.k4 _)
theorem IH{xs:ao}(h:Bytes xs):Bytes (kJ xs):=(adB h).append (atO _)
theorem akQ{xs:ao}(h:Bytes xs):Bytes (um xs):=by
 unfold um;split
 ·intro x I;cases I
 ·exact IH h
theorem atP(r:k7):[Value.int .u8 (IntKind.u8.wrap (Int.fdiv (u r) (2^(min 24 IntKind.u32.bits)))),Value.int .u8 (IntKind.u8.wrap (Int.fdiv (u r) (2^(min 16 IntKind.u32.bits)))),Value.int .u8 (IntKind.u8.wrap (Int.fdiv (u r) (2^(min 8 IntKind.u32.bits)))),Value.int .u8 (IntKind.u8.wrap (u r))]=bg (L4 r):=by
 have aM:(2:Int)^(min 24 IntKind.u32.bits)=16777216:=by decide
 have bz:(2:Int)^(min 16 IntKind.u32.bits)=65536:=by decide
 have gw:(2:Int)^(min 8 IntKind.u32.bits)=256:=by decide
 rw[aM,bz,gw,sy,sy,sy,sy,Il _ (by omega),Il _ (by omega),Il _ (by omega)];rfl
theorem CS(xs:ao):∀y∈bg xs,y.oneCell'=true:=GJ _ _
theorem I3(xs ys:ao):bg xs++bg ys=bg (xs++ys):=by simp[bg]
theorem rl(xs:ao):(bg xs).length=xs.length:=by simp[bg]
theorem Ns(p:J)(n c:Nat)(xs:ao)(w:World)(π:a8 w p (bg xs))(ar:xs.length=n)(an:n<=140737488355328):
  yC.C p n c w (φ λv w'=>∃bU aT,v=.slice bU n aT/\μ w' w.heap.size cG 1 bU n aT (bg xs)/\θ w w'):=by
 apply yC.ok;unfold yC.main;refine bA (λh=>?_) λh=>?_
 ·cases p with
  |none=>
   have e:xs=[]:=by have:bg xs=[]:=π;simpa[bg]using this
   subst e;obtain rfl:n=0:=by simpa using ar.symm
   exact φ.mk ⟨none,0,rfl,μ.nil _ _ _ _,θ.refl w⟩
  |some a=>cases h
 ·rintro b δ rfl rfl;refine kT (B:=w.heap.size) (μ.alloc (w:=w) [] 5 1 0 rfl) (θ.alloc w _).size (bg xs) (π.ex (θ.alloc w _)) (by rw[rl];omega) (CS _) rfl (by omega) (by omega) ?_;intro aX c2 υ lj qe;have hex:θ w υ:=Kp.trans (θ.alloc w _) qe (λ_ _ h=>h) (λi o⟨a,aP,Hl⟩=>by cases aP;dsimp only at Hl;omega);rw[mN]at lj;rw[mN];exact φ.mk ⟨aX,c2,rfl,lj,hex⟩
theorem XM(p:J)(n c:Nat)(q:J)(m d:Nat)(xs ys:ao)(w:World)(π:a8 w p (bg xs))(ar:xs.length=n)(ae:a8 w q (bg ys))(hm:ys.length=m)(ω:Bytes xs)(jj:Bytes ys):
  DE.C p n c q m d w (φ λv w'=>v=.bool (decide (xs=ys))/\θ w w'):=by
 apply DE.ok;unfold DE.main;refine⟨xs,ar,π,ys,hm,ae,φ.mk ⟨?_,θ.refl w⟩⟩;rw[aeX ω jj]
theorem Ra(p:J)(n c:Nat)(xs:ao)(w:World)(π:a8 w p (bg xs))(ar:xs.length=n)(ω:Bytes xs):
  FY.C p n c w (φ λv w'=>∃bU fk aT,v=.tuple #[.slice bU fk aT,.int .i64 (JJ xs)]/\fk<=64/\μ w' w.heap.size cG 1 bU fk aT (bg (um xs))/\θ w w'):=by
 apply FY.ok;unfold FY.main;by_cases yN:(n:Int)>60
 ·rw[uo yN];have e:60<xs.length:=by omega
  refine φ.mk ⟨none,0,0,by rw[JJ,aY e],by omega,?_,θ.refl w⟩;rw[um,aY e];exact μ.nil _ _ _ _
 ·rw[iM yN];have e:¬60<xs.length:=by omega
  rintro b δ rfl rfl;rw[aql];have l3:μ (w.alloc (.cells ((List.replicate (64*1) (0:Int)).map (Value.int .u8)).toArray 5)) w.heap.size cG 1 (some ⟨w.heap.size,0,none⟩) 60 64 (bg (List.replicate 60 0)):=by
   have:=μ.made (w:=w) (e:=cG) (sz:=1) (n:=60) (c:=64) (cur:=((List.replicate (64*1) (0:Int)).map (Value.int .u8)).toArray) (fr:=(0,0)) (by omega) (by simp) (xa.zero _)
   have bz:((List.replicate (64*1) (0:Int)).map (Value.int .u8)).toArray.toList.take (60*1)=bg (List.replicate 60 0):=by rw[List.toList_toArray,<-wF,PU];rfl
   rw[bz]at this;exact this
  refine ak0 l3 (π.ex (θ.alloc w _)) (by rw[rl];exact ar) (by omega) (CS _) ?_;intro υ lj qe;have gw:bg xs++(bg (List.replicate 60 0)).drop n=bg (pad xs):=by rw[bg,bg,<-x2,List.drop_replicate,<-qt,pad,ar];rfl
  rw[gw]at lj;have η:θ w υ:=Kp.trans (θ.alloc w _) qe (λ_ _ h=>h) (λi o⟨a,aP,Hl⟩=>by cases aP;dsimp only at Hl;omega);refine κ.use (Yd _ 60 64 (pad xs) υ lj.cells (Ll (by omega)) (by omega) (adB ω)) ?_;rintro _ aa ⟨rfl,au⟩
  try dsimp only[NF]
  rintro ι ax rfl rfl;have ψ:=atP (more 0#32 (pad xs));have bV:θ υ (aa.alloc (.cells #[Value.int .u8 (IntKind.u8.wrap (Int.fdiv (u (more 0#32 (pad xs))) (2^(min 24 IntKind.u32.bits)))),Value.int .u8 (IntKind.u8.wrap (Int.fdiv (u (more 0#32 (pad xs))) (2^(min 16 IntKind.u32.bits)))),Value.int .u8 (IntKind.u8.wrap (Int.fdiv (u (more 0#32 (pad xs))) (2^(min 8 IntKind.u32.bits)))),Value.int .u8 (IntKind.u8.wrap (u (more 0#32 (pad xs))))] 5)):=au.trans (θ.alloc _ _);refine kT (B:=w.heap.size) (lj.ex bV) (η.trans bV).size (bg (L4 (more 0#32 (pad xs)))) ?_ (by rw[rl];rfl) (CS _) rfl (by omega) (by omega) ?_
  ·rw[<-ψ];exact a8.alloc _ _
  intro fD h2 aG Ug yX;have c9:θ w aG:=Kp.trans (η.trans bV) yX (λ_ _ h=>h) (λi o⟨a,aP,Hl⟩=>by cases aP;dsimp only at Hl;omega);refine φ.mk ⟨fD,60+4,h2,by rw[JJ,aN e],by omega,?_,c9⟩;rw[um,aN e,kJ,<-I3];exact Ug
theorem zd{xs:ao}{p:J}{n c:Nat}{w:World}{B:Nat}{e:TypeId}(h:μ w B e 1 p n c (bg xs)):xs.length=n:=by
 have:=h.1
 rw[rl,eG]at this;exact this
theorem Jn(p:J)(n c:Nat)(xs:ao)(w:World)(π:a8 w p (bg xs))(ar:xs.length=n)(jZ:n<=c)(ω:Bytes xs):
  FZ.C p n c w (φ λv w'=>∃bU fk aT,v=.tuple #[.slice bU fk aT,.int .i64 (nC xs)]/\fk<=60/\μ w' w.heap.size cG 1 bU fk aT (bg (xV xs))/\θ w w'):=by
 apply FZ.ok;unfold FZ.main;by_cases uD:n=64
 ·subst uD;rw[cond_neg (by decide)];have iy:a8 w (dA p c 0 1) (bg (xs.take 60)):=by
   have:=a8.slice π c 0 60 (by rw[rl];omega)
   rw[PO,bg,<-wF]at this;exact this
  refine aW (by omega) ?_;refine κ.use (Ra _ 60 c (xs.take 60) w iy (by simp;omega) (ω.take 60)) ?_;rintro _ δ ⟨ad,aD,c1,rfl,qf,l3,h1⟩
  try dsimp only[bZ,cC,cD,bj,bH,er]
  refine κ.use (XM ad aD c1 p 64 c _ xs δ l3.cells (zd l3) (π.ex h1) ar (akQ (ω.take 60)) ω) ?_;rintro _ υ ⟨rfl,η⟩
  try dsimp only[dH]
  by_cases he:um (xs.take 60)=xs
  ·rw[cond_neg (by simp[he])];refine aW (by omega) ?_;refine κ.use (Ns _ 60 c (xs.take 60) υ (iy.ex (h1.trans η)) (by simp;omega) (by omega)) ?_;rintro _ aa ⟨bl,bJ,rfl,v8,au⟩
   try dsimp only[er]
   refine φ.mk ⟨bl,60,bJ,by rw[nC,aY ar,aY he],by omega,?_,(h1.trans η).trans au⟩;rw[xV,aY ar,aY he];exact v8.lower (h1.trans η).size
  ·rw[cond_pos (by simp[he])];refine φ.mk ⟨none,0,0,by rw[nC,aY ar,aN he],by omega,?_,h1.trans η⟩;rw[xV,aY ar,aN he];exact μ.nil _ _ _ _
 ·rw[cond_pos (by simp;omega)];have aaB:¬xs.length=64:=by omega
  refine φ.mk ⟨none,0,0,by rw[nC,aN aaB],by omega,?_,θ.refl w⟩;rw[xV,aN aaB];exact μ.nil _ _ _ _
theorem x8{xs:ao}(h:xs.length<=60):(kJ xs).length=64:=by simp only[kJ,e9,Ll h];rfl
theorem P5{xs:ao}(h:xs.length<=60):(kJ xs).take 60=pad xs:=by rw[kJ,List.take_left' (Ll h)]
theorem arz{xs:ao}(h:xs.length<=60):pad (pad xs)=pad xs:=by have e:pad (pad xs)=pad xs++List.replicate (60-(pad xs).length) 0:=rfl;rw[e,Ll h];simp
theorem Sa{xs:ao}(h:xs.length<=60):um xs=kJ xs:=by rw[um,aN (by omega)]
theorem Zs{xs:ao}(h:xs.length<=60):um ((kJ xs).take 60)=kJ xs:=by have h1:=Ll h;rw[P5 h,Sa (by omega),kJ,arz h];rfl
theorem adn{xs:ao}(h:xs.length<=60):nC (kJ xs)=0/\xV (kJ xs)=pad xs:=by rw[nC,xV,aY (x8 h),aY (x8 h),aY (Zs h),aY (Zs h),P5 h];exact⟨rfl,rfl⟩
end Go.Proofs.YtcpdfhkhaekekaaGreat.G
namespace Go.Proofs.YtcpdfhkhaekekaaGreat.G.bt
open Go.bI Go.RowKit
def be:Nat->Int->ao
 |0,_=>[]
 |k+1,n=>(n/256^k)%256::be k n
theorem sI:∀(k:Nat)(n:Int),(be k n).length=k
 |0,_=>rfl
 |k+1,n=>by simp[be,sI k n]
theorem BG:∀(k:Nat)(n:Int),∀x∈be k n,0<=x/\x<256
 |0,_,x,h=>by simp[be]at h
 |k+1,n,x,h=>by
  simp only[be,fE]at h;rcases h with rfl|h
  ·omega
  ·exact BG k n x h
abbrev bg(xs:ao):aU:=xs.map (Value.int .u8)
def og(s:Nat)(x:Int):Bool:=decide (0<=x)&&decide (x<256^s)
theorem Wu(n:Int)(w:World):DI.C n w (φ λv w'=>v=.bool (decide (1<=n)&&decide (n<=4))/\θ w w'):=by
 apply DI.ok;unfold DI.main;refine bA (λh=>?_) λh=>?_
 ·refine φ.mk ⟨?_,θ.refl w⟩;have h:1<=n:=cd h;simp[h]
 ·refine φ.mk ⟨?_,θ.refl w⟩;have h:¬1<=n:=dh h;simp[h]
theorem fdiv_pow{n:Int}(aF:0<=n){k:Int}{j:Nat}(hk:k=j)(χ:j<=4):Int.fdiv n (2^(min (IntKind.i64.wrap (8*k)).toNat IntKind.i64.bits))=n/256^j:=by
 subst hk;have aM:IntKind.i64.wrap (8*(j:Int))=8*j:=b3 (by omega) (by omega);rw[aM];have bz:min (8*(j:Int)).toNat IntKind.i64.bits=8*j:=by show min (8*(j:Int)).toNat 64=8*j;omega
 rw[bz,Il _ (by have:(0:Int)<2^(8*j):=Int.pow_pos (by omega)
                omega)]
 congr 1;rw[Int.pow_mul];rfl
theorem ZE{x m:Int}(aF:0<=x)(hm:0<m):x/m=0↔x<m:=by
 constructor
 ·intro h
  have:=Int.mul_ediv_add_emod x m
  have:=PA x hm
  rw[h]at*;omega
 ·intro h;exact LA aF h
theorem Ct(B:Nat)(p:J)(n c:Nat)(xs:ao)(s:Nat)(x:Int)(w:World)(aE:μ w B cG 1 p n c (bg xs))(dR:B<=w.heap.size)(h1:1<=s)(bV:s<=4)(an:n<=140737488351232):
  uk.C p n c s x w (φ λv w'=>∃bU fk aT,v=.tuple #[.slice bU fk aT,.int .i64 (if og s x then 0 else 5)]/\fk<=n+4/\μ w' B cG 1 bU fk aT (bg (if og s x then xs++be s x else[]))/\Kp w w' λi=>B<=i):=by
 apply uk.ok;unfold uk.main;by_cases rU:x<0
 ·rw[uo rU]
  have:og s x=false:=by simp[og];omega
  rw[this];exact φ.mk ⟨none,0,0,rfl,by omega,μ.nil _ _ _ _,Kp.refl _ _⟩
 ·rw[iM rU];have aM:IntKind.i64.wrap (8*(s:Int))=8*s:=b3 (by omega) (by omega);refine aW (by rw[aM];omega) ?_;rw[fdiv_pow (by omega) (j:=s) rfl bV];have hp:(0:Int)<256^s:=Int.pow_pos (by omega);by_cases I:x<256^s
  ·have aI:x/256^s=0:=(ZE (by omega) hp).2 I;have dq:og s x=true:=by simp[og];exact⟨by omega,I⟩
   rw[cond_neg (by simp[aI]),dq,b3 (by omega) (by omega)];refine⟨λad aD c1 ζ aZ δ=>ζ=x/\-1<=aZ/\aZ<s/\∃ys,ys++be (aZ+1).toNat x=xs++be s x/\aD+(aZ+1).toNat=n+s/\μ δ B cG 1 ad aD c1 (bg ys)/\Kp w δ λi=>B<=i,λ_ _ _ _ aZ _=>(aZ+1).toNat,
    ⟨rfl,by omega,by omega,xs,by rw[show((s:Int)-1+1).toNat=s by omega],by omega,aE,Kp.refl _ _⟩,?_⟩
   rintro ad aD c1 ζ aZ δ ⟨rfl,Hw,oS,ys,ET,qf,l3,n3⟩;unfold uk.ε;by_cases hk:aZ>=0
   ·rw[uo hk];obtain⟨j,rfl⟩:∃j:Nat,aZ=j:=⟨aZ.toNat,by omega⟩;have bz:IntKind.i64.wrap (8*(j:Int))=8*j:=b3 (by omega) (by omega);refine aW (by rw[bz];omega) ?_;rw[fdiv_pow (by omega) (j:=j) rfl (by omega),sy];intro ε υ ω hw;subst ω hw;refine kT (B:=B) (l3.ex (θ.alloc δ _)) (fo (fo dR n3.size) (θ.alloc δ _).size) [Value.int .u8 (ζ/256^j%256)] (a8.alloc _ _) rfl (by simp[Value.oneCell']) rfl (by omega) (by omega) ?_;intro bU aT w' lj qe;rw[b3 (by omega) (by omega)];refine⟨⟨rfl,by omega,by omega,ys++[ζ/256^j%256],?_,by omega,by simpa[bg]using lj,?_⟩,by((try dsimp only);omega)⟩
    ·rw[<-ET,mc];congr 1;rw[show((j:Int)-1+1).toNat=j by omega,show((j:Int)+1).toNat=j+1 by omega];rfl
    ·refine(n3.trans (θ.alloc δ _) (λ_ _ h=>h) λ_ _ h=>h.elim).trans qe (λ_ _ h=>h) ?_;rintro i o ⟨a,aP,rfl⟩;exact(l3.ge aP).1
   ·rw[iM hk]
    have:(aZ+1).toNat=0:=by omega
    rw[this]at ET;simp only[be,pI]at ET;subst ET;exact φ.mk ⟨ad,aD,c1,rfl,by omega,l3,n3⟩
  ·have aI:x/256^s≠0:=λh=>I ((ZE (by omega) hp).1 h);have dq:og s x=false:=by simp[og];intro _;omega
   rw[cond_pos (by simpa using aI),dq];exact φ.mk ⟨none,0,0,rfl,by omega,μ.nil _ _ _ _,Kp.refl _ _⟩
theorem VU{i j:Nat}(h:i<=j):(256:Int)^i<=256^j:=by
 have:=Nat.pow_le_pow_right (n:=256) (by omega) h
 rw[show(256:Int)=((256:Nat):Int)from rfl,<-Int.natCast_pow,<-Int.natCast_pow];exact Int.ofNat_le.2 this
theorem ar2{j:Nat}(h:j<=4):(0:Int)<256^j/\(256:Int)^j<=4294967296:=
 ⟨Int.pow_pos (by omega),by have:(256:Int)^j<=256^4:=VU h
                            have bV:(256:Int)^4=4294967296:=by decide
                            omega⟩
def num(l:ao):Int:=l.foldl (λa x=>a*256+x) 0
theorem acR(l:ao)(x:Int):num (l++[x])=num l*256+x:=by simp[num]
theorem atB{α:Type}{p:List α->Prop}(aF:p [])(h1:∀l x,p l->p (l++[x])):∀l,p l:=λl=>by
 have key:∀r:List α,p r.reverse:=by
  intro r
  induction r with
  |nil=>exact aF
  |cons x r cq=>rw[List.reverse_cons];exact h1 _ _ cq
 have:=key l.reverse
 rwa[List.reverse_reverse]at this
theorem O8:∀(l:ao),(∀x∈l,0<=x/\x<256)->0<=num l/\num l<256^l.length:=by refine atB (λ_=>by simp[num]) λl x cq h=>?_;obtain⟨aF,h1⟩:=cq λy ag=>h y (by simp[ag]);obtain⟨rU,Cc⟩:=h x (by simp);rw[acR,e9,AU,Int.pow_succ];omega
theorem VD{a x:Int}(aF:0<=a)(h1:a<4294967296)(rU:0<=x)(Cc:x<256):
  IntKind.i64.wrap (BitVec.ofInt IntKind.i64.bits (IntKind.i64.wrap (a*2^(min 8 IntKind.i64.bits)))|||BitVec.ofInt IntKind.i64.bits (IntKind.i64.wrap x)).toNat=a*256+x:=by
 have aM:a*2^(min 8 IntKind.i64.bits)=a*256:=rfl;rw[aM,b3 (x:=a*256) (by omega) (by omega),b3 (x:=x) (by omega) (by omega)];obtain⟨a,rfl⟩:=eR aF;obtain⟨x,rfl⟩:=eR rU;have bz:(BitVec.ofInt IntKind.i64.bits ((a:Int)*256)|||BitVec.ofInt IntKind.i64.bits (x:Int)).toNat=a*256+x:=by
  rw[BitVec.toNat_or,show((a:Int)*256)=((a*256:Nat):Int)by simp,BitVec.ofInt_natCast,BitVec.ofInt_natCast,BitVec.toNat_ofNat,BitVec.toNat_ofNat];show a*256%2^64|||x%2^64=_
  rw[LB (by omega),LB (by omega)]
  have:=Nat.shiftLeft_add_eq_or_of_lt (i:=8) (b:=x) (by omega) a
  rw[Nat.shiftLeft_eq]at this;exact this.symm
 rw[bz,b3 (by omega) (by omega)];omega
theorem a8.HV{w:World}{k:IntKind}{p:J}{xs:ao}(π:a8 w p (xs.map (Value.int k))){j:Nat}(χ:j<xs.length):∃a,p=some a/\w.cell? (a.add j)=some (.int k xs[j]):=by
 cases p with
 |none=>have:xs.map (Value.int k)=[]:=π;simp at this;subst this;simp at χ
 |some a=>exact⟨a,rfl,π j _ (by simp[χ])⟩
theorem aar(p:J)(n c:Nat)(xs:ao)(w:World)(π:a8 w p (bg xs))(ar:xs.length=n)(bV:n<=4)(ω:∀x∈xs,0<=x/\x<256):
  uj.C p n c w (φ λv w'=>v=.int .i64 (num xs)/\θ w w'):=by
 apply uj.ok;unfold uj.main;refine⟨λa ad aD c1 t i δ=>p=ad/\n=aD/\c=c1/\(n:Int)=t/\∃j:Nat,i=j/\j<=n/\num (xs.take j)=a/\w=δ,λ_ _ _ _ _ i _=>(n-i).toNat,⟨rfl,rfl,rfl,rfl,0,rfl,by omega,rfl,rfl⟩,?_⟩;rintro a _ _ _ _ i δ ⟨rfl,rfl,rfl,rfl,j,rfl,χ,rfl,rfl⟩;unfold uj.ε;by_cases h:(j:Int)<n
 ·rw[uo h];obtain⟨aq,yZ,j0⟩:=a8.HV π (j:=j) (by omega);refine aW (by omega) (aW h (gK yZ ?_));have bQ:j<xs.length:=by omega
  refine⟨xs[j],by simpa using j0,?_⟩;obtain⟨aF,h1⟩:=O8 (xs.take j) λx I=>ω x (wD I);have hle:(256:Int)^(xs.take j).length<=4294967296:=(ar2 (by simp;omega)).2;obtain⟨rU,Cc⟩:=ω xs[j] (hN _);rw[VD aF (by omega) rU Cc,b3 (by omega) (by omega)];refine⟨⟨rfl,rfl,rfl,rfl,j+1,by omega,by omega,?_,rfl⟩,by((try dsimp only);omega)⟩;rw[lq bQ,acR]
 ·rw[iM h]
  have:j=n:=by omega
  subst this;rw[hr (by omega)];exact φ.mk ⟨rfl,θ.refl _⟩
def oO(n:Nat)(at_ s:Int):Int:=if decide (1<=s)&&decide (s<=4)then(if decide (0<=at_)&&decide (at_+s<=n)then 0 else 3)else 1
def yL(xs:ao)(at_ s:Int):Int:=if decide (1<=s)&&decide (s<=4)then(if decide (0<=at_)&&decide (at_+s<=xs.length)then num ((xs.drop at_.toNat).take s.toNat)else 0)else 0
theorem amy{s:Int}(h:s<1\/4<s)(xs:ao)(n:Nat)(at_:Int):yL xs at_ s=0/\oO n at_ s=1:=by
 have:(decide (1<=s)&&decide (s<=4))=false:=by simp;omega
 simp[yL,oO,this]
theorem aaq{s at_:Int}(h1:1<=s)(bV:s<=4){xs:ao}{n:Nat}(ar:xs.length=n)(h:at_<0\/(n:Int)<at_+s):yL xs at_ s=0/\oO n at_ s=3:=by
 have aM:(decide (1<=s)&&decide (s<=4))=true:=by simp;omega
 have bz:(decide (0<=at_)&&decide (at_+s<=(n:Int)))=false:=by simp;omega
 simp[yL,oO,aM,ar,bz]
theorem S9{s at_:Int}(h1:1<=s)(bV:s<=4){xs:ao}{n:Nat}(ar:xs.length=n)(aF:0<=at_)(h:at_+s<=n):yL xs at_ s=num ((xs.drop at_.toNat).take s.toNat)/\oO n at_ s=0:=by
 have aM:(decide (1<=s)&&decide (s<=4))=true:=by simp;omega
 have bz:(decide (0<=at_)&&decide (at_+s<=(n:Int)))=true:=by simp;omega
 simp[yL,oO,aM,ar,bz]
theorem Bo(p:J)(n c:Nat)(xs:ao)(at_ s:Int)(w:World)(π:a8 w p (bg xs))(ar:xs.length=n)(jZ:n<=c)(an:n<=140737488351232)(ω:∀x∈xs,0<=x/\x<256)
  (axl:-9223372036854775808<=at_)(aP:at_<=9223372036854775807):
  DH.C p n c at_ s w (φ λv w'=>v=.tuple #[.int .i64 (yL xs at_ s),.int .i64 (oO n at_ s)]/\θ w w'):=by
 apply DH.ok;unfold DH.main;refine κ.use (Wu s w) ?_;rintro _ δ ⟨rfl,h1⟩
 try dsimp only[dH]
 cases fj:(decide (1<=s)&&decide (s<=4))with
 |false=>
  simp only[u1,zk,sa,wE];obtain⟨aM,bz⟩:=amy (s:=s) (by simp at fj;omega) xs n at_;rw[aM,bz];exact φ.mk ⟨rfl,h1⟩
 |true=>
  simp only[u1,zk,sa,wE];simp only[kH,pJ]at fj;by_cases bQ:at_<0
  ·obtain⟨aM,bz⟩:=aaq fj.1 fj.2 ar (.inl bQ);rw[uo bQ,aM,bz];exact φ.mk ⟨rfl,h1⟩
  rw[iM bQ];rw[b3 (x:=(n:Int)-s) (by omega) (by omega)];by_cases abc:at_>n-s
  ·obtain⟨aM,bz⟩:=aaq fj.1 fj.2 ar (at_:=at_) (.inr (by omega));rw[uo abc,aM,bz];exact φ.mk ⟨rfl,h1⟩
  obtain⟨aM,bz⟩:=S9 fj.1 fj.2 ar (at_:=at_) (by omega) (by omega);rw[iM abc,aM,bz];rw[b3 (x:=at_+s) (by omega) (by omega)];refine aW (by omega) (aW (by omega) (aW (by omega) (aW (by omega) ?_)));have nc:(at_+s).toNat-at_.toNat=s.toNat:=by omega
  rw[nc];have iy:a8 δ (dA p c at_.toNat 1) (bg ((xs.drop at_.toNat).take s.toNat)):=by
   have:=a8.slice (π.ex h1) c at_.toNat s.toNat (by simp;omega)
   simpa[bg,wF,x2]using this
  refine κ.use (aar _ s.toNat _ ((xs.drop at_.toNat).take s.toNat) δ iy (by simp;omega) (by omega) λx I=>ω x (Im (wD I))) ?_;rintro _ υ ⟨rfl,η⟩
  try dsimp only[bH]
  exact φ.mk ⟨rfl,h1.trans η⟩
def v64(l:ao):aU:=l.map (.int .i64)
def LU(s:Int)(l:ao):Int:=if decide (1<=s)&&decide (s<=4)then(if l.all (og s.toNat)then 0 else 5)else 1
def pg(s:Int)(l:ao):ao:=if decide (1<=s)&&decide (s<=4)then(if l.all (og s.toNat)then l.flatMap (be s.toNat)else[])else[]
theorem asU{s:Int}(h:s<1\/4<s)(l:ao):LU s l=1/\pg s l=[]:=by
 have:(decide (1<=s)&&decide (s<=4))=false:=by simp;omega
 simp[LU,pg,this]
theorem ID{k:Nat}(h1:1<=k)(bV:k<=4)(l:ao):LU k l=(if l.all (og k)then 0 else 5)/\pg k l=(if l.all (og k)then l.flatMap (be k)else[]):=by
 have:(decide (1<=(k:Int))&&decide ((k:Int)<=4))=true:=by simp;omega
 simp[LU,pg,this]
theorem asT(k:Nat)(l:ao):(l.flatMap (be k)).length=l.length*k:=by
 induction l with
 |nil=>simp
 |cons x r cq=>simp[zl,sI,cq,lr];omega
theorem ZV{w w':World}(h:Kp w w' λi=>w.heap.size<=i):θ w w':=h.mono λi o ω=>by omega
theorem aqL{l:ao}{j:Nat}(χ:j<l.length){f:Int->Bool}(h:f l[j]=false):l.all f=false:=by rw[List.all_eq_false];exact⟨l[j],hN _,by simp[h]⟩
theorem akd{l:ao}{j:Nat}(χ:j<l.length){f:Int->Bool}(h:f l[j]=true)(aP:(l.take j).all f=true):(l.take (j+1)).all f=true:=by rw[lq χ,LC,aP];simp[h]
theorem amn{l:ao}{j:Nat}(χ:j<l.length)(f:Int->ao):(l.take (j+1)).flatMap f=(l.take j).flatMap f++f l[j]:=by rw[lq χ,wG];simp[zl]
theorem X8(p:J)(n c:Nat)(l:ao)(s:Int)(w:World)(π:a8 w p (v64 l))(ar:l.length=n)(an:n<=1048576):
  sJ.C s p n c w (φ λv w'=>∃bU fk aT,v=.tuple #[.slice bU fk aT,.int .i64 (LU s l)]/\fk<=4*n/\μ w' w.heap.size cG 1 bU fk aT (bg (pg s l))/\θ w w'):=by
 apply sJ.ok;unfold sJ.main;refine κ.use (Wu s w) ?_;rintro _ δ ⟨rfl,h1⟩
 try dsimp only[dH]
 by_cases ψ:s<1\/4<s
 ·obtain⟨aM,bz⟩:=asU ψ l;rw[cond_pos (by simp;omega),aM,bz];exact φ.mk ⟨none,0,0,rfl,by omega,μ.nil _ _ _ _,h1⟩
 ·obtain⟨k,rfl⟩:∃k:Nat,s=k:=⟨s.toNat,by omega⟩;have v7:1<=k:=by omega
  have uG:k<=4:=by omega
  obtain⟨aM,bz⟩:=ID v7 uG l;rw[cond_neg (by simp;omega),aM,bz];unfold sJ.bd;refine⟨λs1 q m d ad aD c1 t i υ=>(k:Int)=s1/\p=ad/\n=aD/\c=c1/\(n:Int)=t/\∃j:Nat,i=j/\j<=n/\(l.take j).all (og k)=true/\m=j*k/\μ υ w.heap.size cG 1 q m d (bg ((l.take j).flatMap (be k)))/\θ w υ,
   λ_ _ _ _ _ _ _ _ i _=>(n-i).toNat,⟨rfl,rfl,rfl,rfl,rfl,0,rfl,by omega,by simp,by omega,by simpa using μ.nil _ _ _ _,h1⟩,?_⟩
  rintro _ q m d _ _ _ _ _ υ ⟨rfl,rfl,rfl,rfl,rfl,j,rfl,χ,dM,rfl,aE,η⟩;unfold sJ.ε;by_cases bQ:(j:Int)<n
  ·have s5:j<l.length:=by omega
   rw[uo bQ];obtain⟨aq,yZ,j0⟩:=a8.HV (π.ex η) s5;refine aW (by omega) (aW (by omega) (gK yZ ?_));refine⟨l[j],by simpa using j0,?_⟩;have uD:j*k<=1048576*4:=Nat.mul_le_mul (by omega) uG;refine κ.use (Ct w.heap.size q (j*k) d ((l.take j).flatMap (be k)) k l[j] υ aE η.size v7 uG (by omega)) ?_;rintro _ aa ⟨ng,m',d',rfl,axK,v8,au⟩
   try dsimp only[bZ,cC,cD,bj,bH,er]
   have hex:θ w aa:=ZV ((Kp.mono η λ_ _ h=>h.elim).trans au (λ_ _ h=>h) λ_ _ h=>h);cases dq:og k l[j]with
   |false=>
    rw[cond_pos (by decide)];rw[aqL s5 dq];exact φ.mk ⟨none,0,0,rfl,by omega,μ.nil _ _ _ _,hex⟩
   |true=>
    rw[dq]at v8;simp only[o9]at v8;rw[cond_neg (by decide),b3 (by omega) (by omega)];refine⟨⟨rfl,rfl,rfl,rfl,rfl,j+1,by omega,by omega,akd s5 dq dM,?_,?_,hex⟩,by((try dsimp only);omega)⟩
    ·have:=v8.1
     simp only[bg,jP,e9,asT,sI,gY]at this;rw[q8 (by omega)]at this;rw[lr];omega
    ·rw[amn s5];exact v8
  ·rw[iM bQ]
   have:j=l.length:=by omega
   subst this;rw[AV]at dM aE;rw[dM];simp only[o9];refine φ.mk ⟨q,_,d,rfl,?_,aE,η⟩
   have:l.length*k<=l.length*4:=Nat.mul_le_mul_left _ uG
   omega
def Ms(s:Int)(n:Nat):Int:=if decide (1<=s)&&decide (s<=4)then(if n%s.toNat=0 then 0 else 6)else 1
def mW(k:Nat)(xs:ao)(i:Nat):Int:=num ((xs.drop (i*k)).take k)
def jE(k m:Nat)(xs:ao):ao:=(List.range m).map (mW k xs)
def I2(s:Int)(xs:ao):ao:=if decide (1<=s)&&decide (s<=4)then(if xs.length%s.toNat=0 then jE s.toNat (xs.length/s.toNat) xs else[])else[]
theorem awf{s:Int}(h:s<1\/4<s)(n:Nat)(xs:ao):Ms s n=1/\I2 s xs=[]:=by
 have:(decide (1<=s)&&decide (s<=4))=false:=by simp;omega
 simp[Ms,I2,this]
theorem ahB{k:Nat}(h1:1<=k)(bV:k<=4)(n:Nat)(xs:ao):Ms k n=(if n%k=0 then 0 else 6)/\I2 k xs=(if xs.length%k=0 then jE k (xs.length/k) xs else[]):=by
 have:(decide (1<=(k:Int))&&decide ((k:Int)<=4))=true:=by simp;omega
 simp[Ms,I2,this]
theorem awb(k m:Nat)(xs:ao):jE k (m+1) xs=jE k m xs++[mW k xs m]:=by simp[jE,u2]
theorem W1(k m:Nat)(xs:ao):(jE k m xs).length=m:=by simp[jE]
theorem ajY(p:J)(n c:Nat)(xs:ao)(s:Int)(w:World)(π:a8 w p (bg xs))(ar:xs.length=n)(jZ:n<=c)(an:n<=8388608)(ω:∀x∈xs,0<=x/\x<256):
  sK.C p n c s w (φ λv w'=>∃bU fk aT,v=.tuple #[.slice bU fk aT,.int .i64 (Ms s n)]/\fk<=n/\μ w' w.heap.size ck 1 bU fk aT (v64 (I2 s xs))/\θ w w'):=by
 apply sK.ok;unfold sK.main;refine κ.use (Wu s w) ?_;rintro _ δ ⟨rfl,h1⟩
 try dsimp only[dH]
 by_cases ψ:s<1\/4<s
 ·obtain⟨aM,bz⟩:=awf ψ n xs;rw[cond_pos (by simp;omega),aM,bz];exact φ.mk ⟨none,0,0,rfl,by omega,μ.nil _ _ _ _,h1⟩
 obtain⟨k,rfl⟩:∃k:Nat,s=k:=⟨s.toNat,by omega⟩;have v7:1<=k:=by omega
 have uG:k<=4:=by omega
 obtain⟨aM,bz⟩:=ahB v7 uG n xs;rw[cond_neg (by simp;omega),aM,bz];refine aW (by omega) ?_;have em:Int.tmod (n:Int) (k:Int)=((n%k:Nat):Int):=by simp[Int.tmod]
 rw[em,ar];by_cases aI:n%k=0
 ·rw[cond_neg (by simp[aI]),aY aI,aY aI];obtain⟨q,rfl⟩:∃q,n=q*k:=⟨n/k,by rw[Nat.mul_comm];exact(Nat.mul_div_cancel' (Nat.dvd_of_mod_eq_zero aI)).symm⟩;rw[Nat.mul_div_cancel _ (by omega)];unfold sK.bd;refine⟨λad aD c1 s1 r m d υ=>(k:Int)=s1/\aD<=c1/\m*k+aD=q*k/\a8 w ad (bg (xs.drop (m*k)))/\μ υ w.heap.size ck 1 r m d (v64 (jE k m xs))/\θ w υ,
   λ_ aD _ _ _ _ _ _=>aD,⟨rfl,jZ,by omega,by simpa using π,by simpa[jE,v64]using μ.nil _ _ _ _,h1⟩,?_⟩
  rintro ad aD c1 _ r m d υ ⟨rfl,B0,hm,iy,aE,η⟩;unfold sK.ε;have aot:m*k+aD<=8388608:=by omega
  have B5:m<=m*k:=Nat.le_mul_of_pos_right _ (by omega);by_cases aF:(aD:Int)>0
  ·rw[uo aF];have abj:k<=aD:=by
    have bQ:m<q:=Nat.lt_of_mul_lt_mul_right (a:=k) (by omega)
    have:=tq k (show m+1<=q by omega)
    rw[lr]at this;omega
   refine aW (by omega) (aW (by omega) ?_);have xz:(xs.drop (m*k)).length=aD:=by rw[kI];omega
   have Ke:a8 υ (dA ad c1 0 1) (bg ((xs.drop (m*k)).take k)):=by
    have:=a8.slice (iy.ex η) c1 0 k (by simp[bg,xz];omega)
    simpa[bg,wF]using this
   rw[cP];refine κ.use (aar _ k c1 ((xs.drop (m*k)).take k) υ Ke (by simp;omega) uG λx I=>ω x (Im (wD I))) ?_;rintro _ aa ⟨rfl,au⟩
   try dsimp only[bH]
   rintro b ax rfl rfl;refine kT (B:=w.heap.size) ((aE.ex au).ex (θ.alloc aa _)) ((η.trans au).trans (θ.alloc aa _)).size [Value.int .i64 (mW k xs m)] (a8.alloc _ _) rfl (by simp[Value.oneCell']) rfl (by omega) (by omega) ?_;intro aX c2 aG Ug yX;have hex:θ w aG:=ZV (Kp.trans ((η.trans au).trans (θ.alloc aa _)) yX (λ_ _ h=>h.elim) λi o⟨a,aP,Hl⟩=>by have:=(aE.ge aP).1;omega);refine aW (by omega) (aW (by omega) ⟨⟨rfl,by omega,?_,?_,?_,hex⟩,?_⟩)
   ·rw[lr];omega
   ·have:=a8.slice iy c1 k (aD-k) (by simp[bg,xz];omega)
    rw[bg,<-x2,<-wF,PB,hr (by rw[kI];omega)]at this;rw[lr,FI];exact this
   ·rw[awb];simpa[v64]using Ug
   ·omega
  ·rw[iM aF]
   have:aD=0:=by omega
   subst this
   have:m=q:=Nat.eq_of_mul_eq_mul_right (by omega) hm
   subst this;exact φ.mk ⟨r,m,d,rfl,by omega,aE,η⟩
 ·rw[cond_pos (by simp;omega),aN aI,aN aI];exact φ.mk ⟨none,0,0,rfl,by omega,μ.nil _ _ _ _,h1⟩
end Go.Proofs.YtcpdfhkhaekekaaGreat.G.bt
namespace Go.bI
def vx(W:World)(B:Nat)(i:Nat):Prop:=B<=i/\∃γ:Obj,W.heap[i]?=some γ/\γ.isCells=false
theorem Kp.grown{B:Nat}{W bE:World}{row:Option Nat}(bL:W.grownBy bE row)(σ:∀r,row=some r->B<=r/\∃γ:Obj,W.heap[r]?=some γ/\γ.isCells=false):Kp W bE (vx W B):=
 ⟨bL.os,bL.tape,bL.output,bL.size,λi o ar=>bL.block i o λe=>ar (σ i e.symm)⟩
theorem Kp.putObj(W:World)(l:Nat)(γ:Obj):Kp W (W.putObj l γ) λi=>i=l:=
 have bL:=grownBy_putObj' W l γ
 ⟨bL.os,bL.tape,bL.output,bL.size,λi o ar=>bL.block i o λe=>ar (by cases e;rfl)⟩
theorem vx.typed{W:World}{B i:Nat}{e:TypeId}(h:vx W B i)(t:Typed W e i):False:=by obtain⟨_,γ,aE,π⟩:=h;obtain⟨cur,fr,aO⟩:=t;rw[aE]at aO;cases aO;cases π
theorem μ.grown{W bE:World}{B C:Nat}{e:TypeId}{sz:Nat}{p:J}{n c:Nat}{xs:aU}(h:μ W B e sz p n c xs)(k:Kp W bE (vx W C)):μ bE B e sz p n c xs:=
 h.aC k λx I ar=>ar.typed (h.typed I).1
theorem Kp.later{w W bE:World}{S:a1}{B:Nat}(h:Kp w W S)(k:Kp W bE (vx W B))(dR:w.heap.size<=B):Kp w bE S:=
 Kp.trans h k (λ_ _ h=>h) λi o ar=>absurd ar.1 (by omega)
theorem KeepsOthers.adf{w w':World}{S:a1}(k:Kp w w' S)(ed:∀i,i<w.heap.size->S i->∃e,Typed w e i):KeepsOthers w w':=
 ⟨k.size,λi γ o aE=>by
  have bQ:i<w.heap.size:=(Array.getElem?_eq_some_iff.1 o).1;rw[k.block i bQ λψ=>?_]
  ·exact o
  ·obtain⟨e,cur,fr,aO⟩:=ed i bQ ψ;rw[o]at aO;cases aO;cases aE⟩
theorem aat(W:World):W.grownBy W.drew none:=⟨rfl,rfl,rfl,eF _,λ_ _ _=>rfl⟩
theorem IL(p:J)(m s:Nat):dA p m 0 s=p:=by
 unfold dA;split
 ·rfl
 ·cases p with
  |none=>rfl
  |some a=>simp[Addr.add_zero']
def GP(dN cW:Nat)(v0 v1:Value)(w:World):Prop:=w.cell? (⟨dN,0,none⟩:Addr)=some v0/\w.cell? (⟨cW,0,none⟩:Addr)=some v1
def vv(dN cW:Nat)(A B:World):Prop:=∀v0 v1,GP dN cW v0 v1 A->GP dN cW v0 v1 B
theorem vv.trans{dN cW:Nat}{A B C:World}(h:vv dN cW A B)(k:vv dN cW B C):vv dN cW A C:=λv0 v1 c=>k v0 v1 (h v0 v1 c)
theorem Zp{W:World}{l:Nat}{γ hd:Obj}(h:W.heap[l]?=some γ)(π:γ.isCells=false){a:Addr}{v:Value}(aL:W.cell? a=some v):(W.putObj l hd).cell? a=some v:=by refine(Kp.putObj W l hd).cell aL λe=>?_;unfold World.cell? at aL;rw[e,h]at aL;cases γ<;>first|(simp at aL;done)|(cases π;done)
theorem vv.book{dN cW:Nat}(W:World)(l:Nat)(γ hd:Obj)(h:W.heap[l]?=some γ)(π:γ.isCells=false):vv dN cW W (W.putObj l hd):=λv0 v1 c=>⟨Zp h π c.1,Zp h π c.2⟩
end Go.bI
namespace Go.Proofs.YtcpdfhkhaekekaaGreat.G
open Tryz
open Go.bI Go.RowKit
def hA:aU:=[.int .i64 0,.int .i64 0,.int .i64 0,.int .i64 0,.int .i64 0,.int .i64 0,.int .i64 0,.int .i64 0,.int .i64 0,.int .i64 0,.int .i64 0,.int .i64 0,.int .i64 0,.int .i64 0,.int .i64 0,.int .i64 0,.slice none 0 0,.slice none 0 0,.slice none 0 0,.slice none 0 0,.slice none 0 0,.slice none 0 0,.slice none 0 0,.slice none 0 0]
theorem awO:∀z∈hA,z.oneCell'=true:=by
 intro z aI
 have:z=.int .i64 0\/z=.slice none 0 0:=by simp only[hA,fE,oj,pa]at aI;rcases aI with h|h|h|h|h|h|h|h|h|h|h|h|h|h|h|h|h|h|h|h|h|h|h|h<;>simp[h]
 rcases this with rfl|rfl<;>rfl
theorem nm{a b:Int}:∀z∈[Value.int .i64 a,.int .i64 b],z.oneCell'=true:=by intro z aI;simp only[fE,oj,pa]at aI;rcases aI with rfl|rfl<;>rfl
theorem Ay(n a b:Int)(w:World):yI.C n a b w (φ λv w'=>v=.bool (decide (a<=n)&&decide (n<b))/\w'=w):=by
 apply yI.ok;unfold yI.main;refine bA (λh=>?_) λh=>?_
 ·have h:a<=n:=cd h;exact φ.mk ⟨by simp[h],rfl⟩
 ·have h:¬a<=n:=dh h;exact φ.mk ⟨by simp[h],rfl⟩
theorem zZ(b k:Nat):(⟨b,16,none⟩:Addr).add (k*1)=⟨b,16+k,none⟩:=by rw[Addr.add_lit,eG]
theorem GL{k:Nat}(h:k<8):IntKind.i64.wrap ((k:Int)+1)=((k+1:Nat):Int):=by rw[b3 (by omega) (by omega)];rfl
theorem Ct{w:World}{B:Nat}{p:J}{n c:Nat}{xs:ao}(γ:μ w B cG 1 p n c (bg xs))(dR:B<=w.heap.size)(s:Int){q:J}{m d:Nat}{l:ao}(π:a8 w q (bt.v64 l))(an:l.length=m)(hm:m<=1000)(ar:n<=1000000):
  EZ.C p n c s q m d w (φ λv w'=>∃bU aT,v=.slice bU (n+(bt.pg s l).length) aT/\μ w' B cG 1 bU (n+(bt.pg s l).length) aT (bg (xs++bt.pg s l))/\Kp w w' λi=>∃x,p=some x/\x.block=i):=by
 apply EZ.ok;unfold EZ.main;refine κ.use (bt.X8 q m d l s w π an (by omega)) ?_;rintro _ δ ⟨ad,aD,c1,rfl,qf,ρ,ζ⟩
 try dsimp only[bZ,cC,cD,bj,bH,er]
 have hlen:(bt.pg s l).length=aD:=by have:=zd (xs:=bt.pg s l) ρ;exact this
 refine kT (B:=B) (γ.ex ζ) (fo dR ζ.size) (bg (bt.pg s l)) ρ.cells (by rw[rl,hlen,eG]) (CS _) rfl (by omega) (by omega) ?_;intro aX c2 υ az bP;rw[<-hlen]at az⊢;refine φ.mk ⟨aX,c2,rfl,by rw[<-I3];exact az,Kp.trans (ζ.aC _) bP (λi _ h=>h) λi _ h=>h⟩
theorem aeo(p:J)(n c:Nat)(xs:ao)(w:World)(π:a8 w p (bg xs))(ar:xs.length=n)(ω:Bytes xs)(yN:n<=60):
  E2.C p n c w (φ λv w'=>∃bU aT,v=.slice bU 64 aT/\μ w' w.heap.size cG 1 bU 64 aT (bg (kJ xs))/\θ w w'):=by
 apply E2.ok;unfold E2.main;refine κ.use (Ra p n c xs w π ar ω) ?_;rintro _ δ ⟨ad,aD,c1,rfl,qf,ρ,ζ⟩
 try dsimp only[bZ,cC,cD,bj,bH,er]
 have gg:um xs=kJ xs:=Sa (by omega);rw[gg]at ρ
 have:aD=64:=by have:=zd ρ;rw[x8 (by omega)]at this;exact this.symm
 subst this;exact φ.mk ⟨ad,c1,rfl,ρ,ζ⟩
theorem aej(a b:Int)(aP:0<=a/\a<256)(ω:0<=b/\b<256):bt.pg 1 [a,b]=[a,b]:=by
 have:=(bt.ID (k:=1) (by omega) (by omega) [a,b]).2
 have e:((1:Nat):Int)=1:=rfl;rw[e]at this;rw[this,aY (by simp[bt.og];omega)];simp[bt.be];omega
end Go.Proofs.YtcpdfhkhaekekaaGreat.G
namespace Go.Proofs.YtcpdfhkhaekekaaGreat.G
open Tryz
open Go.bI Go.RowKit
def lx:ao:=[83,76,65,84]
def e2(w:World)(b:Nat)(l:ao):Prop:=μ w 0 ck 1 (some ⟨b,0,none⟩) l.length l.length (bt.v64 l)
def cQ(W w:World)(p:J)(n c:Nat)(xs:ao):Prop:=μ w W.heap.size cG 1 p n c (bg xs)
def Raw(W w:World)(b:Nat):Prop:=W.heap.size<=b/\w.heap[b]?=some (.cells (bg lx).toArray cG (0,0))
theorem e2.ex{w w':World}{b:Nat}{l:ao}(h:e2 w b l)(x:θ w w'):e2 w' b l:=μ.ex h x
theorem cQ.ex{W w w':World}{p:J}{n c:Nat}{xs:ao}(h:cQ W w p n c xs)(x:θ w w'):cQ W w' p n c xs:=μ.ex h x
theorem Raw.ex{W w w':World}{b:Nat}(h:Raw W w b)(x:θ w w'):Raw W w' b:=⟨h.1,by rw[x.block b (Array.getElem?_eq_some_iff.1 h.2).1 id];exact h.2⟩
theorem hn{W w:World}(I:θ W w)(l:ao){N:Nat->ai}(K:∀b w',θ w w'->e2 w' b l->N b w'):aR w (bt.v64 l).toArray ck N:=by rintro b w' rfl rfl;have γ:=μ.alloc (w:=w) (bt.v64 l) ck 1 l.length (by simp[bt.v64]);exact K _ _ (θ.alloc w _) (γ.lower (da _))
theorem Ck{W w:World}(I:θ W w){N:Nat->ai}(K:∀b w',θ w w'->Raw W w' b->N b w'):aR w (bg lx).toArray cG N:=by rintro b w' rfl rfl;exact K _ _ (θ.alloc w _) ⟨I.size,Ev w _⟩
theorem mark{W w:World}{b:Nat}(I:θ W w)(h:Raw W w b){N:ai}(K:∀w',θ W w'->(∀b l,e2 w b l->e2 w' b l)->cQ W w' (some ⟨b,0,none⟩) 4 4 lx->N w'):xP w ⟨b,0,none⟩ N:=by
 refine⟨_,_,_,h.2,λw' hw=>?_⟩;subst hw;have k:=Kp.freeze w ⟨b,(bg lx).toArray.size,none⟩ 1;have t:Typed w cG b:=⟨_,_,h.2⟩;refine K _ (I.then k λi o=>?_) (λgW l ω=>?_) ?_
 ·dsimp only at o;rw[o];exact h.1
 ·exact μ.cI ω k cG (λi o=>by dsimp only at o;rw[o];exact t) (by decide)
 ·refine⟨rfl,eF _,.inr ⟨b,(bg lx).toArray,(4,5),rfl,h.1,?_,.inr (by decide),by decide,rfl⟩⟩;unfold World.freeze;simp[h.2,Array.getElem?_modify];rfl
theorem ar7{W w:World}{N:Value->ai}{X:List PanicEntry->ai}(I:θ W w){p:J}{n c:Nat}{xs:ao}(h1:cQ W w p n c xs){b:Nat}{l:ao}(η:e2 w b l){s:Int}{r:ao}(σ:bt.pg s l=r)(ar:n<=1000)(an:l.length<=10)
  (K:∀p c w',θ W w'->(∀b l,e2 w b l->e2 w' b l)->cQ W w' p (n+r.length) c (xs++r)->N (.slice p (n+r.length) c) w'):κ prog 139 #[.slice p n c,.int .i64 s,.slice (some ⟨b,0,none⟩) l.length l.length] w N X:=by
 refine κ.use (Ct h1 I.size s (μ.cells η) rfl (by omega) (by omega)) ?_;rintro _ w' ⟨bU,aT,rfl,γ,k⟩;rw[σ]at γ⊢;refine K bU aT w' (I.then k λi⟨x,e,o⟩=>by have:=(μ.ge h1 e).1;omega) (λgW oc ω=>?_) γ;exact μ.cI ω k cG (λi⟨x,e,o⟩=>o▸(μ.typed h1 e).1) (by decide)
end Go.Proofs.YtcpdfhkhaekekaaGreat.G
namespace Go.Proofs.YtcpdfhkhaekekaaGreat.G
open Go.bI Go.RowKit
theorem Q9(p:J)(n c:Nat)(w:World):F4.C p n c 52 w (φ λv w'=>∃dN cW,v=.func (.func 172) #[] #[.pointer (some ⟨dN,0,none⟩),.pointer (some ⟨cW,0,none⟩)]/\θ w w'/\μ w' w.heap.size gU 1 (some ⟨dN,0,none⟩) 1 1 [.slice p n c]/\μ w' w.heap.size ck 1 (some ⟨cW,0,none⟩) 1 1 [.int .i64 52]):=by apply F4.ok;unfold F4.main;rintro ε δ rfl rfl ι υ rfl rfl;have ρ:=μ.new (w:=w) [.slice p n c] gU;have ζ:=θ.alloc w (.cells [Value.slice p n c].toArray gU);generalize w.alloc (.cells #[.slice p n c] gU)=δ at ρ ζ⊢;have az:=μ.new (w:=δ) [.int .i64 52] ck;have τ:=θ.alloc δ (.cells [Value.int .i64 52].toArray ck);generalize δ.alloc (.cells #[.int .i64 52] ck)=υ at az τ⊢;refine⟨52,az.at (by rfl),?_⟩;rw[iM (by omega)];exact φ.mk ⟨_,_,rfl,ζ.trans τ,ρ.ex τ,az.lower ζ.size⟩
theorem aeD{p:J}{n c:Nat}:∀y∈[Value.slice p n c],y.oneCell'=true:=by intro y ag;simp only[lp]at ag;rw[ag];rfl
theorem Pj{xs:ao}(h:nC xs=0):xs.length=64/\xV xs=xs.take 60:=by
 unfold nC at h;unfold xV;split at h
 ·rename_i an;rw[aY an];split at h
  ·rename_i π;exact⟨an,by rw[aY π]⟩
  ·cases h
 ·cases h
def dn(xs:ao)(a s:Int):Int:=bt.yL (xs.take 60) a s
def BX(xs:ao):Prop:=nC xs=0/\(xs.take 60).take 4=lx
instance(xs:ao):Decidable (BX xs):=inferInstanceAs (Decidable (_/\_))
def qb(xs:ao):ao:=if BX xs then[dn xs 4 4,dn xs 8 1,dn xs 9 1,dn xs 10 1,dn xs 11 2]else[0,0,0,0,0]
def mD(xs:ao):Bool:=decide (BX xs)&&decide (1<=dn xs 4 4)&&decide (dn xs 4 4<=1073741824)&&decide (dn xs 10 1<12)
theorem TM(xs:ao):(qb xs).length=5:=by unfold qb;split<;>rfl
theorem Mv(l:ao):∀z∈bt.v64 l,z.oneCell'=true:=GJ _ _
theorem atv:(⟨#[83,76,65,84]⟩:ByteArray)=strOf lx:=by decide
theorem aeC:Bytes lx:=λx I=>by simp only[lx,fE,oj,pa]at I;omega
theorem JZ{w:World}{B dN:Nat}{p:J}{n c:Nat}{t:ao}(ho:μ w B gU 1 (some ⟨dN,0,none⟩) 1 1 [.slice p n c])(π:a8 w p (bg t))(ar:t.length=n)(jZ:n<=c)(an:n<=1000000)(ω:Bytes t)(a s:Int)(aP:0<=a/\a<=1000):
  E1.C a s dN w (φ λv w'=>v=.int .i64 (bt.yL t a s)/\θ w w'):=by
 apply E1.ok;unfold E1.main;refine⟨p,n,c,ho.at (by rfl),?_⟩;refine κ.use (bt.Bo p n c t a s w π ar jZ (by omega) ω (by omega) (by omega)) ?_;rintro _ δ ⟨rfl,ζ⟩
 try dsimp only[bZ,cC,cD,bj,bH]
 exact φ.mk ⟨rfl,ζ⟩
theorem Iy(p:J)(n c:Nat)(xs:ao)(w:World)(π:a8 w p (bg xs))(ar:xs.length=n)(jZ:n<=c)(ω:Bytes xs):
  E0.C p n c w (φ λv w'=>v=.tuple #[.agg (bt.v64 (qb xs)).toArray,.bool (mD xs)]/\θ w w'):=by
 apply E0.ok;unfold E0.main;rintro ε δ rfl rfl;have ρ:=μ.new (w:=w) (bt.v64 [0,0,0,0,0]) nL;have ζ:=θ.alloc w (.cells (bt.v64 [0,0,0,0,0]).toArray nL);have aM:w.alloc (.cells #[.int .i64 0,.int .i64 0,.int .i64 0,.int .i64 0,.int .i64 0] nL)=w.alloc (.cells (bt.v64 [0,0,0,0,0]).toArray nL):=rfl;have Ht:w.heap.size<=w.heap.size:=eF _;generalize eb:w.heap.size=ε at ρ Ht⊢;have Ht:w.heap.size<=ε:=by omega
 rw[aM];generalize w.alloc (.cells (bt.v64 [0,0,0,0,0]).toArray nL)=δ at ρ ζ⊢;refine κ.use (Jn p n c xs δ (π.ex ζ) ar jZ ω) ?_;rintro _ υ ⟨ad,aD,c1,rfl,qf,uV,τ⟩
 try dsimp only[bZ,cC,cD,bj,bH,er]
 rintro ι ax rfl rfl;have az:=μ.new (w:=υ) [.slice none 0 0] gU;have aA:=θ.alloc υ (.cells [Value.slice none 0 0].toArray gU);have ee:δ.heap.size<=υ.heap.size:=τ.size;have aaN:ε<δ.heap.size:=(ρ.ge rfl).2;have EO:w.heap.size<=δ.heap.size:=ζ.size;generalize υ.heap.size=ι at az ee⊢;generalize υ.alloc (.cells #[.slice none 0 0] gU)=ax at az aA⊢;refine az.dj (Iu 0) (by rfl) λaG ea cz=>?_;have js:=τ.trans aA;have pF:∀i,i=ι->δ.heap.size<=i:=λi o=>by omega
 have mn:θ δ aG:=js.then ea pF;have al:θ w aG:=ζ.trans mn;have AP:μ aG δ.heap.size cG 1 ad aD c1 (bg (xV xs)):=(uV.ex aA).cI ea gU (λi o=>by rw[o];exact(az.typed rfl).1) (by decide);have ρ:=ρ.ex mn;have cz:μ aG ι gU 1 (some ⟨ι,0,none⟩) 1 1 [.slice ad aD c1]:=cz
 have bad:∀{w':World},θ aG w'->¬BX xs->hG w' (⟨ε,0,none⟩:Addr) (bt.v64 [0,0,0,0,0])/\∀ba,ba=w'.setCells (⟨ε,0,none⟩:Addr).block (⟨ε,0,none⟩:Addr).off (bt.v64 [0,0,0,0,0])->
   ∃aQ:ah,aQ.size=5/\aw ba (⟨ε,0,none⟩:Addr) aQ.toList/\φ (λv w'=>v=.tuple #[.agg (bt.v64 (qb xs)).toArray,.bool (mD xs)]/\θ w w') (.returned (.tuple #[.agg aQ,.bool false])) ba:=by
  intro w' I hm;refine(ρ.ex I).put (by rfl) (Mv _) λba dP bS=>?_;refine⟨(bt.v64 [0,0,0,0,0]).toArray,rfl,bS.cells,φ.mk ⟨?_,(al.trans I).then dP λi o=>by omega⟩⟩;unfold qb mD;rw[aN hm,iJ hm];rfl
 refine bA (λh=>?_) λh=>?_
 ·have h:¬nC xs=0:=by simpa using h
  exact bad (θ.refl _) λm=>h m.1
 have h:nC xs=0:=by simpa using h
 obtain⟨uD,dR⟩:=Pj h;rw[dR]at AP;have Kt:aD=60:=by have:=zd AP;rw[gY,uD]at this;exact this.symm
 subst Kt;have rL:60<=c1:=AP.2.1;refine⟨ad,60,c1,cz.at (by rfl),?_⟩;refine bO (bC (by omega)) ?_;rw[IL];have aO:(xs.take 60).length=60:=by rw[gY,uD];rfl
 have qa:Bytes (xs.take 60):=ω.take _;refine⟨(xs.take 60).take 4,by rw[gY,aO];rfl,?_,?_⟩
 ·have:=AP.cells.take 4
  unfold bg at this
  rwa[<-wF]at this
 rw[atv,aeX (qa.take _) aeC];refine bA (λhm=>?_) λhm=>?_
 ·have hm:¬(xs.take 60).take 4=lx:=by simpa using hm
  exact bad (θ.refl _) λm=>hm m.2
 have hm:(xs.take 60).take 4=lx:=by simpa using hm
 have pw:BX xs:=⟨h,hm⟩;refine κ.use (JZ cz AP.cells aO rL (by omega) qa 4 4 (by omega)) ?_;rintro _ b9 ⟨rfl,ct⟩
 try dsimp only[bH]
 refine κ.use (JZ (cz.ex ct) (AP.ex ct).cells aO rL (by omega) qa 8 1 (by omega)) ?_;rintro _ dk ⟨rfl,e7⟩
 try dsimp only[bH]
 have nP:=ct.trans e7;refine κ.use (JZ (cz.ex nP) (AP.ex nP).cells aO rL (by omega) qa 9 1 (by omega)) ?_;rintro _ cn ⟨rfl,dG⟩
 try dsimp only[bH]
 have w7:=nP.trans dG;refine κ.use (JZ (cz.ex w7) (AP.ex w7).cells aO rL (by omega) qa 10 1 (by omega)) ?_;rintro _ dJ ⟨rfl,js⟩
 try dsimp only[bH]
 have Xr:=w7.trans js;refine κ.use (JZ (cz.ex Xr) (AP.ex Xr).cells aO rL (by omega) qa 11 2 (by omega)) ?_;rintro _ eO ⟨rfl,jR⟩
 try dsimp only[bH]
 have aij:=Xr.trans jR;rintro aH gj rfl rfl;have bu:=μ.new (w:=eO) (bt.v64 [0,0,0,0,0]) nL;have w4:=θ.alloc eO (.cells (bt.v64 [0,0,0,0,0]).toArray nL);have gw:eO.alloc (.cells #[.int .i64 0,.int .i64 0,.int .i64 0,.int .i64 0,.int .i64 0] nL)=eO.alloc (.cells (bt.v64 [0,0,0,0,0]).toArray nL):=rfl;rw[gw];have jc:aG.heap.size<=eO.heap.size:=aij.size;generalize eO.heap.size=aH at bu jc⊢;generalize eO.alloc (.cells (bt.v64 [0,0,0,0,0]).toArray nL)=gj at bu w4⊢;refine bu.put (cs:=bt.v64 [dn xs 4 4,dn xs 8 1,dn xs 9 1,dn xs 10 1,dn xs 11 2]) (by rfl) (Mv _) λfF y7 K9=>?_;have awI:θ aG fF:=(aij.trans w4).then y7 λi o=>by omega
 have aik:=awI.trans (θ.drew fF);have La:=K9.ex (θ.drew fF);have OK:ε<aG.heap.size:=(ρ.ge rfl).2;have cc:aH≠ε:=by omega
 have JQ:qb xs=[dn xs 4 4,dn xs 8 1,dn xs 9 1,dn xs 10 1,dn xs 11 2]:=by unfold qb;rw[aY pw]
 have fin:∀(g:Bool),g=mD xs->∀{N:ai},(∀eK,μ eK aH nL 5 (some ⟨aH,0,none⟩) 1 1 (bt.v64 [dn xs 4 4,dn xs 8 1,dn xs 9 1,dn xs 10 1,dn xs 11 2])->(∃bY:ah,bY.size=5/\aw eK (⟨ε,0,none⟩:Addr) bY.toList/\φ (λv w'=>v=.tuple #[.agg (bt.v64 (qb xs)).toArray,.bool (mD xs)]/\θ w w') (.returned (.tuple #[.agg bY,.bool g])) eK)->N eK)->
   hG fF.drew (⟨ε,0,none⟩:Addr) (bt.v64 [dn xs 4 4,dn xs 8 1,dn xs 9 1,dn xs 10 1,dn xs 11 2])/\∀eK,eK=fF.drew.setCells (⟨ε,0,none⟩:Addr).block (⟨ε,0,none⟩:Addr).off (bt.v64 [dn xs 4 4,dn xs 8 1,dn xs 9 1,dn xs 10 1,dn xs 11 2])->N eK:=by
  intro g bL N K;refine(ρ.ex aik).put (by rfl) (Mv _) λeK HN o4=>K eK (La.aC HN λy ag=>by cases ag;exact cc) ?_;refine⟨(bt.v64 (qb xs)).toArray,by rw[fp];unfold bt.v64;rw[jP];exact TM xs,by rw[JQ];exact o4.cells,φ.mk ⟨by rw[bL],(al.trans aik).then HN λi o=>by omega⟩⟩
 refine⟨(bt.v64 [dn xs 4 4,dn xs 8 1,dn xs 9 1,dn xs 10 1,dn xs 11 2]).toArray,rfl,La.cells,dn xs 4 4,La.at (by rfl),?_⟩;refine bA (λh1=>?_) λh1=>?_
 ·have h1:=cd h1;refine⟨dn xs 4 4,La.at (by rfl),?_⟩;refine bA (λη=>?_) λη=>?_
  ·have η:=cd η;refine⟨dn xs 10 1,La.at (by rfl),bO (by rfl) ?_⟩;refine fin (decide (dn xs 10 1<12)) ?_ ?_
   ·unfold mD;rw[bC pw,bC (show 1<=dn xs 4 4 from h1),bC η];rfl
   ·intro eK γ h;exact⟨γ.at (by rfl),h⟩
  ·have η:=dh η;refine bO (by rfl) ?_;refine fin false ?_ λeK γ h=>h;unfold mD;rw[iJ η];simp
 ·have h1:=dh h1;refine bO (by rfl) ?_;refine fin false ?_ λeK γ h=>h;unfold mD;rw[iJ (show¬1<=dn xs 4 4 from h1)];simp
def Sd(xs:ao):ao:=if mD xs then[dn xs 10 1,dn xs 4 4,0]else[0,0,11]
theorem aiz(p:J)(n c:Nat)(xs:ao)(w:World)(π:a8 w p (bg xs))(ar:xs.length=n)(jZ:n<=c)(ω:Bytes xs):
  EY.C p n c w (φ λv w'=>v=.tuple (bt.v64 (Sd xs)).toArray/\θ w w'):=by
 apply EY.ok;unfold EY.main;refine κ.use (Iy p n c xs w π ar jZ ω) ?_;rintro _ δ ⟨rfl,ζ⟩
 try dsimp only[bZ,cC,cD,bj,dH,hz,iG]
 rintro ι aa rfl rfl;have az:=μ.new (w:=δ) (bt.v64 [0,0,0,0,0]) nL;have ab:=θ.alloc δ (.cells (bt.v64 [0,0,0,0,0]).toArray nL);have aM:δ.alloc (.cells #[.int .i64 0,.int .i64 0,.int .i64 0,.int .i64 0,.int .i64 0] nL)=δ.alloc (.cells (bt.v64 [0,0,0,0,0]).toArray nL):=rfl;rw[aM];have ee:=ζ.size;generalize δ.heap.size=ι at az ee⊢;generalize δ.alloc (.cells (bt.v64 [0,0,0,0,0]).toArray nL)=aa at az ab⊢;have hlen:(bt.v64 (qb xs)).length=5:=by unfold bt.v64;rw[jP];exact TM xs
 refine bO (bC (by rw[fp];exact hlen)) ?_;refine az.put (cs:=bt.v64 (qb xs)) hlen (Mv _) λax cp cm=>?_;have aA:θ w ax:=(ζ.trans ab).then cp λi o=>by omega
 unfold Sd;cases aE:mD xs with
 |false=>
  simp only[u1,zk,sa,wE];exact φ.mk ⟨rfl,aA⟩
 |true=>
  simp only[u1,zk,sa,wE];have pw:BX xs:=by unfold mD at aE;simp only[kH,pJ]at aE;exact aE.1.1.1
  have JQ:qb xs=[dn xs 4 4,dn xs 8 1,dn xs 9 1,dn xs 10 1,dn xs 11 2]:=by unfold qb;rw[aY pw]
  rw[JQ]at cm;refine⟨dn xs 10 1,cm.at (by rfl),dn xs 4 4,cm.at (by rfl),λk=>?_⟩;exact φ.mk ⟨rfl,aA.trans (θ.drewN _ _)⟩
theorem putAt{w:World}{B:Nat}{e:TypeId}{sz b n c:Nat}{xs:aU}(aE:μ w B e sz (some ⟨b,0,none⟩) n c xs)(γ:Nat){ys:aU}(h:γ+ys.length<=n*sz)(h1:∀y∈ys,y.oneCell'=true){N:ai}
  (K:∀υ,Kp w υ (λi=>i=b)->μ υ B e sz (some ⟨b,0,none⟩) n c (xs.take γ++ys++xs.drop (γ+ys.length))->N υ):
  hG w ((⟨b,0,none⟩:Addr).add γ) ys/\∀υ,υ=w.setCells ((⟨b,0,none⟩:Addr).add γ).block ((⟨b,0,none⟩:Addr).add γ).off ys->N υ:=by
 obtain⟨aZ,bP,b7⟩:=aE.writes γ ys h h1;refine⟨aZ,λυ hw=>?_⟩;have aM:k1 w (some ⟨b,0,none⟩) γ ys=υ:=by
  rw[hw]
  have:(⟨b,0,none⟩:Addr).add γ=⟨b,γ,none⟩:=by rw[Addr.add_lit];simp
  rw[this];simp[k1]
 rw[aM]at bP b7;exact K υ (b7.mono λi _⟨x,I,o⟩=>by cases I;exact o.symm) bP
theorem awh(xs:ao)(n:Nat):bg (xs.drop n)=(bg xs).drop n:=by simp[bg,x2]
theorem from_{w:World}{p:J}{c:Nat}{xs:ao}(h:a8 w p (bg xs))(π:xs.length<=c)(i:Nat):a8 w (dA p c i 1) (bg (xs.drop i)):=by
 have:=h.slice c i xs.length (by rw[rl];exact π)
 rw[awh]
 rwa[hr (by rw[kI,rl];omega)]at this
abbrev eg:=Option (Nat×Nat)
def j7(n:Nat):Nat:=FloatKind.f64.nearest (n:Int)
def K3:Nat:=13830554455654793216
def eI:eg->Nat
 |none=>K3
 |some x=>j7 x.1
def eQ:eg->Nat
 |none=>0
 |some x=>j7 x.2
def dT(q:eg):Value:=.complex .f64 (eI q) (eQ q)
def ki:eg->Prop
 |none=>True
 |some x=>x.1<24/\x.2<16
theorem aqA:∀n:_root_.Fin 25,ey .geq (FloatKind.f64.nearest (n.val:Int)) 0=true/\ey .lss (FloatKind.f64.nearest (n.val:Int)) (FloatKind.f64.nearest 24)=decide (n.val<24)/\ey .lss (FloatKind.f64.nearest (n.val:Int)) (FloatKind.f64.nearest 16)=decide (n.val<16)/\
 (FloatKind.f64.decode (FloatKind.f64.nearest (n.val:Int))).toInt .zero=some (n.val:Int)/\ey .eql (FloatKind.f64.nearest (n.val:Int)) K3=false:=by decide+kernel
theorem aqB:∀a b:_root_.Fin 24,ey .eql (FloatKind.f64.nearest (a.val:Int)) (FloatKind.f64.nearest (b.val:Int))=decide (a.val=b.val):=by decide+kernel
theorem neg_eq:∀a:_root_.Fin 24,ey .eql K3 (FloatKind.f64.nearest (a.val:Int))=false:=by decide+kernel
theorem Cl{n:Nat}(h:n<=24):ey .geq (j7 n) 0=true/\ey .lss (j7 n) (FloatKind.f64.nearest 24)=decide (n<24)/\ey .lss (j7 n) (FloatKind.f64.nearest 16)=decide (n<16)/\(FloatKind.f64.decode (j7 n)).toInt .zero=some (n:Int)/\ey .eql (j7 n) K3=false:=aqA ⟨n,by omega⟩
theorem Vo{a b:Nat}(aP:a<24)(ω:b<24):ey .eql (j7 a) (j7 b)=decide (a=b):=aqB ⟨a,aP⟩ ⟨b,ω⟩
theorem acQ:j7 0=0:=by decide+kernel
theorem HL:IntKind.i64.min=-9223372036854775808:=by decide
theorem empty_eq{q:eg}(h:ki q):(!(ey .eql (eI q) 13830554455654793216&&ey .eql (eQ q) 0))=q.isSome:=by
 cases q with
 |none=>decide+kernel
 |some x=>
  have:ey .eql (eI (some x)) 13830554455654793216=false:=(Cl (n:=x.1) (by have:=h.1;omega)).2.2.2.2
  rw[this];rfl
theorem VS{q r:eg}(ay:ki q)(σ:ki r):(ey .eql (eI q) (eI r)&&ey .eql (eQ q) (eQ r))=decide (q=r):=by
 cases q with
 |none=>
  cases r with
  |none=>decide+kernel
  |some y=>
   have:ey .eql (eI none) (eI (some y))=false:=neg_eq ⟨y.1,σ.1⟩
   rw[this];simp
 |some x=>
  cases r with
  |none=>
   have:ey .eql (eI (some x)) (eI none)=false:=(Cl (n:=x.1) (by have:=ay.1;omega)).2.2.2.2
   rw[this];simp
  |some y=>
   have aM:ey .eql (eI (some x)) (eI (some y))=decide (x.1=y.1):=Vo ay.1 σ.1;have bz:ey .eql (eQ (some x)) (eQ (some y))=decide (x.2=y.2):=Vo (by have:=ay.2;omega) (by have:=σ.2;omega);rw[aM,bz];obtain⟨a,b⟩:=x;obtain⟨c,d⟩:=y;simp only[sb,FK];by_cases h1:a=c<;>by_cases η:b=d<;>simp[h1,η]
theorem adK(l:List eg):∀z∈l.map dT,z.oneCell'=true:=by intro z aI;obtain⟨q,_,rfl⟩:=gM.1 aI;rfl
theorem MK(n m:Nat)(ar:n<=24)(hm:m=24\/m=16)(w:World):uc.C (j7 n) m w (φ λv w'=>v=.bool (decide (n<m))/\w'=w):=by
 apply uc.ok;unfold uc.main;obtain⟨f1,f2,f3,f4,f5⟩:=Cl ar;rw[f1,cond_pos rfl];have f6:ey .lss (j7 n) (FloatKind.f64.nearest (m:Int))=decide (n<m):=by
  rcases hm with rfl|rfl
  ·exact f2
  ·exact f3
 rw[f6];refine bA (λh=>?_) λh=>?_
 ·have bQ:=cd h;rw[h];refine gK f4 (aW (by rw[HL];omega) (aW (by rw[we];omega) (φ.mk ⟨?_,rfl⟩)))
  have:=Vo (a:=n) (b:=n) (by rcases hm with rfl|rfl<;>omega) (by rcases hm with rfl|rfl<;>omega)
  rw[bC rfl]at this;exact gN Value.bool this
 ·rw[h];exact φ.mk ⟨rfl,rfl⟩
theorem awx(m:Int)(w:World):uc.C K3 m w (φ λv w'=>v=.bool false/\w'=w):=by apply uc.ok;unfold uc.main;rw[cond_neg (by decide+kernel)];exact φ.mk ⟨rfl,rfl⟩
theorem zX(q:eg)(h:ki q)(w:World):yz.C (eI q) (eQ q) w (φ λv w'=>v=.bool q.isSome/\w'=w):=by
 apply yz.ok;unfold yz.main;cases q with
 |none=>
  refine κ.use (awx 24 w) ?_;rintro _ _ ⟨rfl,rfl⟩
  try dsimp only[dH,jb]
  exact φ.mk ⟨rfl,rfl⟩
 |some x=>
  refine κ.use (MK x.1 24 (by have:=h.1;omega) (.inl rfl) w) ?_;rintro _ _ ⟨rfl,rfl⟩
  try dsimp only[dH]
  rw[bC h.1,cond_pos rfl];refine κ.use (MK x.2 16 (by have:=h.2;omega) (.inr rfl) _) ?_;rintro _ _ ⟨rfl,rfl⟩
  try dsimp only[dH]
  rw[bC h.2];exact φ.mk ⟨rfl,rfl⟩
def prt:eg->ao
 |none=>[0,0,2]
 |some x=>[x.1,x.2,0]
theorem ajm(q:eg)(h:ki q)(w:World):Dq.C (eI q) (eQ q) w (φ λv w'=>v=.tuple (bt.v64 (prt q)).toArray/\w'=w):=by
 apply Dq.ok;unfold Dq.main;refine κ.use (zX q h w) ?_;rintro _ _ ⟨rfl,rfl⟩
 try dsimp only[dH]
 cases q with
 |none=>
  rw[cond_pos (by rfl)];exact φ.mk ⟨rfl,rfl⟩
 |some x=>
  have h1:=h.1;have η:=h.2;rw[cond_neg (by rfl)];refine gK (Cl (n:=x.1) (by omega)).2.2.2.1 (aW (by rw[HL];omega) (aW (by rw[we];omega) ?_));refine gK (Cl (n:=x.2) (by omega)).2.2.2.1 (aW (by rw[HL];omega) (aW (by rw[we];omega) (φ.mk ⟨rfl,rfl⟩)))
theorem MJ(k:Int)(w:World):yA.C k w (φ λv w'=>v=.bool (decide (1<=k)&&decide (k<=16))/\w'=w):=by
 apply yA.ok;unfold yA.main;refine bA (λh=>?_) λh=>?_
 ·have h:1<=k:=cd h;exact φ.mk ⟨by rw[bC h];rfl,rfl⟩
 ·have h:¬1<=k:=dh h;exact φ.mk ⟨by rw[iJ h];rfl,rfl⟩
def vQ(k:Int):eg->ao
 |none=>[0,2]
 |some x=>if(x.2:Int)<k then[x.1*k+x.2,0]else[0,5]
theorem JW(k:Int)(x:Nat×Nat):vQ k (some x)=if(x.2:Int)<k then[x.1*k+x.2,0]else[0,5]:=rfl
theorem JV{a:Nat}{k:Int}(aP:a<24)(hk:1<=k/\k<=16):0<=(a:Int)*k/\(a:Int)*k<=368:=by have h1:(a:Int)*k<=23*16:=se (by omega) hk.2 (by omega) (by omega);have η:=zn (a:=(a:Int)) (b:=k) (by omega) (by omega);omega
theorem Rj(q:eg)(h:ki q)(k:Int)(hk:1<=k/\k<=16)(w:World):Dn.C (eI q) (eQ q) k w (φ λv w'=>v=.tuple (bt.v64 (vQ k q)).toArray/\w'=w):=by
 apply Dn.ok;unfold Dn.main;refine κ.use (ajm q h w) ?_;rintro _ _ ⟨rfl,rfl⟩;cases q with
 |none=>
  have e:(bt.v64 (prt none)).toArray=#[.int .i64 0,.int .i64 0,.int .i64 2]:=rfl;rw[e]
  try dsimp only[bZ,cC,cD,mY,bj,bH]
  refine κ.use (MJ k _) ?_;rintro _ _ ⟨rfl,rfl⟩;rw[bC hk.1,bC hk.2]
  try dsimp only[dH]
  rw[cond_neg (by rfl),cond_pos (by decide)];exact φ.mk ⟨rfl,rfl⟩
 |some x=>
  have e:(bt.v64 (prt (some x))).toArray=#[.int .i64 x.1,.int .i64 x.2,.int .i64 0]:=rfl;rw[e]
  try dsimp only[bZ,cC,cD,mY,bj,bH]
  refine κ.use (MJ k _) ?_;rintro _ _ ⟨rfl,rfl⟩;rw[bC hk.1,bC hk.2]
  try dsimp only[dH]
  have hm:=JV h.1 hk;have η:=h.2;rw[cond_neg (by rfl),cond_neg (by decide)];refine bA (λh=>?_) λh=>?_
  ·have h:¬(x.2:Int)<k:=by have:=cd h;omega
   refine φ.mk ⟨?_,rfl⟩;rw[JW,aN h];rfl
  ·have h:(x.2:Int)<k:=by have:=dh h;omega
   rw[b3 (x:=(x.1:Int)*k) (by omega) (by omega),b3 (by omega) (by omega)];refine φ.mk ⟨?_,rfl⟩;rw[JW,aY h];rfl
def may(s k:Int):Bool:=decide (6<=s)&&decide (s<=24)&&decide (2<=k)&&decide (k<=16)
theorem uQ{s k:Int}:may s k=true↔6<=s/\s<=24/\2<=k/\k<=16:=by simp[may,and_assoc]
theorem OZ{s k:Int}(h:¬(6<=s/\s<=24/\2<=k/\k<=16)):may s k=false:=by
 cases hm:may s k with
 |false=>rfl
 |true=>exact(h (uQ.1 hm)).elim
theorem Lr{s k:Int}(h:6<=s/\s<=24/\2<=k/\k<=16):0<=s*k/\s*k<=384:=by have h1:s*k<=24*16:=se h.2.1 h.2.2.2 (by omega) (by omega);have η:=zn (a:=s) (b:=k) (by omega) (by omega);omega
def two(s k:Int):aU:=[.int .i64 s,.int .i64 k]
theorem Jf(s k:Int)(w:World):zf.C s k w (φ λv w'=>v=.int .i64 (if may s k then 0 else 1)/\θ w w'):=by
 apply zf.ok;unfold zf.main;rintro b δ rfl rfl;have γ:=μ.new (w:=w) (two s k) b5;have I:=θ.alloc w (.cells (two s k).toArray b5);have aM:w.alloc (.cells #[.int .i64 s,.int .i64 k] b5)=w.alloc (.cells (two s k).toArray b5):=rfl;rw[aM];generalize w.alloc (.cells (two s k).toArray b5)=δ at γ I⊢;refine⟨s,γ.at (by rfl),bA (λh=>?_) λh=>?_⟩
 ·have:=cd h
  rw[OZ (by omega)];exact φ.mk ⟨rfl,I⟩
 have h1:=dh h;refine⟨s,γ.at (by rfl),bA (λh=>?_) λh=>?_⟩
 ·have:=cd h
  rw[OZ (by omega)];exact φ.mk ⟨rfl,I⟩
 have η:=dh h;refine⟨k,γ.at (by rfl),bA (λh=>?_) λh=>?_⟩
 ·have:=cd h
  rw[OZ (by omega)];exact φ.mk ⟨rfl,I⟩
 have au:=dh h;refine⟨k,γ.at (by rfl),bA (λh=>?_) λh=>?_⟩
 ·have:=cd h
  rw[OZ (by omega)];exact φ.mk ⟨rfl,I⟩
 have bV:=dh h;rw[uQ.2 (by omega)];exact φ.mk ⟨rfl,I⟩
theorem Q8(s k:Int)(eo:6<=s/\s<=24/\2<=k/\k<=16)(w:World):Ft.C s k w (φ λv w'=>v=.tuple #[.int .i64 ((s-4)*k),.int .i64 0]/\θ w w'):=by
 apply Ft.ok;unfold Ft.main;rintro b δ rfl rfl;have γ:=μ.new (w:=w) (two s k) b5;have I:=θ.alloc w (.cells (two s k).toArray b5);have aM:w.alloc (.cells #[.int .i64 s,.int .i64 k] b5)=w.alloc (.cells (two s k).toArray b5):=rfl;rw[aM];generalize w.alloc (.cells (two s k).toArray b5)=δ at γ I⊢;refine⟨(two s k).toArray,rfl,γ.cells,?_⟩;refine κ.use (Jf s k _) ?_;rintro _ υ ⟨rfl,η⟩
 try dsimp only[bH]
 rw[uQ.2 eo,cond_neg (by decide)];refine⟨s,(γ.ex η).at (by rfl),k,(γ.ex η).at (by rfl),φ.mk ⟨?_,I.trans η⟩⟩;have hp:=Lr eo;have e:(s-4)*k=s*k-4*k:=Int.sub_mul _ _ _;rw[b3 (x:=s-2) (by omega) (by omega),b3 (x:=s-2-2) (by omega) (by omega),show s-2-2=s-4 by omega,b3 (by omega) (by omega)]
def HM(s k:Int):eg->Bool
 |none=>false
 |some x=>decide ((x.2:Int)<k)&&decide ((x.1:Int)*k+x.2<s*k)
theorem KQ(s k:Int)(x:Nat×Nat):HM s k (some x)=(decide ((x.2:Int)<k)&&decide ((x.1:Int)*k+x.2<s*k)):=rfl
theorem aip(s k:Int)(eo:6<=s/\s<=24/\2<=k/\k<=16)(q:eg)(h:ki q)(w:World):
  ze.C s k (eI q) (eQ q) w (φ λv w'=>(∃x e,v=.tuple #[.int .i64 x,.int .i64 e]/\(e !=0)=!(HM s k q))/\θ w w'):=by
 apply ze.ok;unfold ze.main;rintro ε δ rfl rfl;have γ:=μ.new (w:=w) (two s k) b5;have I:=θ.alloc w (.cells (two s k).toArray b5);have aM:w.alloc (.cells #[.int .i64 s,.int .i64 k] b5)=w.alloc (.cells (two s k).toArray b5):=rfl;rw[aM];generalize w.alloc (.cells (two s k).toArray b5)=δ at γ I⊢;refine⟨(two s k).toArray,rfl,γ.cells,?_⟩;refine κ.use (Jf s k _) ?_;rintro _ υ ⟨rfl,η⟩;rw[uQ.2 eo]
 try dsimp only[bH]
 rw[cond_neg (by decide)];refine⟨k,(γ.ex η).at (by rfl),?_⟩;refine κ.use (Rj q h k (by omega) υ) ?_;rintro _ _ ⟨rfl,rfl⟩;cases q with
 |none=>
  have e:(bt.v64 (vQ k none)).toArray=#[.int .i64 0,.int .i64 2]:=rfl;rw[e]
  try dsimp only[bZ,cC,cD,bj,bH]
  rw[cond_pos (by decide)];exact φ.mk ⟨⟨_,_,rfl,rfl⟩,I.trans η⟩
 |some x=>
  rw[JW,KQ];split
  ·rename_i bQ;have e:(bt.v64 [(x.1:Int)*k+x.2,0]).toArray=#[.int .i64 ((x.1:Int)*k+x.2),.int .i64 0]:=rfl;rw[e]
   try dsimp only[bZ,cC,cD,bj,bH]
   rw[cond_neg (by decide)];have hp:=Lr eo;have hm:=JV (k:=k) h.1 (by omega);refine⟨s,(γ.ex η).at (by rfl),k,(γ.ex η).at (by rfl),?_⟩;rw[b3 (x:=s*k) (by omega) (by omega)];refine bA (λπ=>?_) λπ=>?_
   ·have π:=cd π;exact φ.mk ⟨⟨_,_,rfl,by rw[iJ (by omega:¬(x.1:Int)*k+x.2<s*k)];simp⟩,I.trans η⟩
   ·have π:=dh π;exact φ.mk ⟨⟨_,_,rfl,by rw[bC bQ,bC (by omega:(x.1:Int)*k+x.2<s*k)];simp⟩,I.trans η⟩
  ·rename_i bQ;have e:(bt.v64 [(0:Int),5]).toArray=#[.int .i64 0,.int .i64 5]:=rfl;rw[e]
   try dsimp only[bZ,cC,cD,bj,bH]
   rw[cond_pos (by decide)];exact φ.mk ⟨⟨_,_,rfl,by rw[iJ bQ];simp⟩,I.trans η⟩
theorem Fs{w:World}{p:J}{l:List eg}(π:a8 w p (l.map dT)){j:Nat}(χ:j<l.length):∃a,p=some a/\w.cell? (a.add j)=some (.complex .f64 (eI l[j]) (eQ l[j])):=
 π.many (by rw[List.getElem?_map,List.getElem?_eq_getElem χ];rfl)
theorem YF{α:Type}(f:α->Bool)(l:List α){j:Nat}(χ:j<l.length)(h:(l.take j).any f=false):(l.take (j+1)).any f=f l[j]:=by rw[lq χ,List.any_append,h];simp
theorem any_true{α:Type}(f:α->Bool)(l:List α){j:Nat}(χ:j<l.length)(h:f l[j]=true):l.any f=true:=Py.2 ⟨_,hN χ,h⟩
theorem aaI(p:J)(n c:Nat)(l:List eg)(w:World)(π:a8 w p (l.map dT))(ar:l.length=n)(an:n<=1000000)(aE:∀q∈l,ki q):
  u9.C p n c (.func (.func 114) #[] #[]) w (φ λv w'=>v=.bool false/\w'=w):=by
 apply u9.ok;unfold u9.main;have h:tB.C p n c w (φ λv w'=>v=.int .i64 (-1)/\w'=w):=by
  apply tB.ok;unfold tB.main tB.bd;refine⟨λcj cb cu t7 t8 w'=>p=cj/\n=cb/\c=cu/\(n:Int)=t7/\0<=t8/\t8<=n/\w=w',λ_ _ _ _ t8 _=>(n-t8).toNat,⟨rfl,rfl,rfl,rfl,by omega,by omega,rfl⟩,?_⟩;rintro _ _ _ _ t8 _ ⟨rfl,rfl,rfl,rfl,aF,h1,rfl⟩;unfold tB.ε;refine bA (λh=>?_) λh=>φ.mk ⟨rfl,rfl⟩;have bQ:=cd h;obtain⟨j,rfl⟩:=eR aF;have χ:j<l.length:=by omega
  obtain⟨a,rfl,r⟩:=Fs π χ;refine bO (bC aF) (bO (bC bQ) ?_)
  try dsimp only[bj]
  rw[cP,eG];refine⟨_,_,r,?_⟩;have bf:D1.C (eI l[j]) (eQ l[j]) w (φ λv w'=>v=.bool false/\w'=w):=by
   apply D1.ok;unfold D1.main;have hk:=aE _ (hN χ);rw[empty_eq hk];cases ay:l[j]with
   |none=>
    rw[cond_neg (by rfl)];exact φ.mk ⟨rfl,rfl⟩
   |some x=>
    rw[ay]at hk;rw[cond_pos (by rfl)];refine κ.use (zX (some x) hk w) ?_;rintro _ _ ⟨rfl,rfl⟩
    try dsimp only[dH]
    exact φ.mk ⟨rfl,rfl⟩
  refine κ.use bf ?_;rintro _ _ ⟨rfl,rfl⟩
  try dsimp only[dH,jb]
  rw[b3 (by omega) (by omega)];exact⟨⟨rfl,rfl,rfl,rfl,by omega,by omega,rfl⟩,by((try dsimp only);omega)⟩
 refine κ.use h ?_;rintro _ _ ⟨rfl,rfl⟩
 try dsimp only[bH]
 exact φ.mk ⟨rfl,rfl⟩
def tj(s k:Int)(q:eg):Bool:=q.isSome&&!(HM s k q)
theorem anf(p:J)(n c:Nat)(l:List eg)(w:World)(π:a8 w p (l.map dT))(ar:l.length=n)(an:n<=1000000)(aE:∀q∈l,ki q)(s k:Int)(eo:6<=s/\s<=24/\2<=k/\k<=16){B dN:Nat}(γ:μ w B b5 2 (some ⟨dN,0,none⟩) 1 1 (two s k)):
  u9.C p n c (.func (.func 125) #[] #[.pointer (some ⟨dN,0,none⟩)]) w (φ λv w'=>v=.bool (l.any (tj s k))/\θ w w'):=by
 apply u9.ok;unfold u9.main;have h:tC.C p n c dN w (φ λv w'=>(∃x,v=.int .i64 x/\decide (x>=0)=l.any (tj s k))/\θ w w'):=by
  apply tC.ok;unfold tC.main tC.bd;refine⟨λcj cb cu t1 t7 t8 w'=>p=cj/\n=cb/\c=cu/\dN=t1/\(n:Int)=t7/\0<=t8/\t8<=n/\(l.take t8.toNat).any (tj s k)=false/\θ w w',λ_ _ _ _ _ t8 _=>(n-t8).toNat,⟨rfl,rfl,rfl,rfl,rfl,by omega,by omega,rfl,θ.refl w⟩,?_⟩;rintro _ _ _ _ _ t8 w' ⟨rfl,rfl,rfl,rfl,rfl,aF,h1,hp,I⟩;unfold tC.ε;obtain⟨j,rfl⟩:=eR aF;rw[cP]at hp;refine bA (λh=>?_) λh=>?_
  ·have bQ:=cd h;have χ:j<l.length:=by omega
   obtain⟨a,rfl,r⟩:=Fs (π.ex I) χ;refine bO (bC aF) (bO (bC bQ) ?_)
   try dsimp only[bj]
   rw[cP,eG];refine⟨_,_,r,?_⟩;have bf:Fp.C (eI l[j]) (eQ l[j]) dN w' (φ λv υ=>v=.bool (tj s k l[j])/\θ w' υ):=by
    apply Fp.ok;unfold Fp.main;have hk:=aE _ (hN χ);refine⟨(two s k).toArray,rfl,(γ.ex I).cells,?_⟩;refine κ.use (aip s k eo l[j] hk w') ?_;rintro _ υ ⟨⟨x,e,rfl,he⟩,τ⟩
    try dsimp only[bZ,cC,cD,bj,bH]
    rw[empty_eq hk];unfold tj;cases ay:l[j]with
    |none=>
     rw[cond_neg (by rfl)];exact φ.mk ⟨rfl,τ⟩
    |some y=>
     rw[ay]at he;rw[cond_pos (by rfl),he];exact φ.mk ⟨rfl,τ⟩
   refine κ.use bf ?_;rintro _ υ ⟨rfl,τ⟩
   try dsimp only[dH]
   refine bA (λh=>?_) λh=>?_
   ·exact φ.mk ⟨⟨_,rfl,by rw[any_true _ l χ h];exact bC aF⟩,I.trans τ⟩
   ·rw[b3 (by omega) (by omega)];refine⟨⟨rfl,rfl,rfl,rfl,rfl,by omega,by omega,?_,I.trans τ⟩,by((try dsimp only);omega)⟩
    have:((j:Int)+1).toNat=j+1:=by omega
    rw[this,YF _ l χ hp];exact h
  ·have h:=dh h
   have:j=l.length:=by omega
   subst this;rw[AV]at hp;exact φ.mk ⟨⟨_,rfl,by rw[hp];rfl⟩,I⟩
 refine κ.use h ?_;rintro _ δ ⟨⟨x,rfl,I⟩,ζ⟩
 try dsimp only[bH]
 rw[I];exact φ.mk ⟨rfl,ζ⟩
end Go.Proofs.YtcpdfhkhaekekaaGreat.G

/- The walk of the functions, and the plain laws of the model: part of the proof. Conditions: none. -/
import Derived.Lib.Overlaps
import Derived.Test.YtcpdfhkhaekekaaGreatA6
set_option linter.unusedVariables false
set_option linter.unusedSimpArgs false
namespace Go.Proofs.YtcpdfhkhaekekaaGreat.G
open Tryz
open Go.bJ
set_option maxRecDepth 100000
def uV.δ(cy:γ)(cp cG:Nat)(t7 t8:Int)(w:World)(R:au)(a1:γ->Nat->Nat->Int->Int->al):Prop:=
 cond (decide (t8<t7)) (
  ν (decide (0<=t8)) (
   ν (decide (t8<((cp:Nat):Int))) (
    ξ cy λd1=>
    ∃cM m1,w.cell? (d1.add (t8.toNat*1))=some (.complex .f64 cM m1)/\
    (κ prog 114 #[.complex .f64 cM m1] w (λv1 ε=>
     dF v1 λδ=>
     cond δ (
      R (.returned (.int .i64 t8)) ε) (
      a1 cy cp cG t7 (IntKind.i64.wrap (t8+1)) ε)) (ai R))))) (
  R (.returned (.int .i64 (-1))) w)
def uV.bb:=yH uV.δ
def uV.main(bG:γ)(bf bD:Nat)(w:World)(R:au):Prop:=
 uV.bb bG bf bD ((bf:Nat):Int) 0 w R
abbrev uV.C(bG:γ)(bf bD:Nat):=Calls prog 131 #[.slice bG bf bD,.func (.func 114) #[] #[]]
theorem uV.ok:ji uV.main uV.C:=λ{_ _ _ _ R}h=>fo func131 [.tmp 4] 19 (.seq .leaf (.seq (.seq .leaf (.block (.loop [(0,.slice),(1,.vB 114),(7,.int .i64),(8,.int .i64)] (uV.bb · · · · · · R) λa1=>.leaf))) .leaf)) h
def uW.δ(cy:γ)(cp cG t1:Nat)(t7 t8:Int)(w:World)(R:au)(a1:γ->Nat->Nat->Nat->Int->Int->al):Prop:=
 cond (decide (t8<t7)) (
  ν (decide (0<=t8)) (
   ν (decide (t8<((cp:Nat):Int))) (
    ξ cy λd1=>
    ∃cM m1,w.cell? (d1.add (t8.toNat*1))=some (.complex .f64 cM m1)/\
    (κ prog 125 #[.complex .f64 cM m1,.pointer (some ⟨t1,0,none⟩)] w (λv1 ε=>
     dF v1 λδ=>
     cond δ (
      R (.returned (.int .i64 t8)) ε) (
      a1 cy cp cG t1 t7 (IntKind.i64.wrap (t8+1)) ε)) (ai R))))) (
  R (.returned (.int .i64 (-1))) w)
def uW.bb:=oc uW.δ
def uW.main(bG:γ)(bf bD o5:Nat)(w:World)(R:au):Prop:=
 uW.bb bG bf bD o5 ((bf:Nat):Int) 0 w R
abbrev uW.C(bG:γ)(bf bD o5:Nat):=Calls prog 131 #[.slice bG bf bD,.func (.func 125) #[] #[.pointer (some ⟨o5,0,none⟩)]]
theorem uW.ok:lu uW.main uW.C:=λ{_ _ _ _ _ R}h=>fo func131 [.tmp 4] 19 (.seq .leaf (.seq (.seq .leaf (.block (.loop [(0,.slice),(1,.vC 125),(7,.int .i64),(8,.int .i64)] (uW.bb · · · · · · · R) λa1=>.leaf))) .leaf)) h
def uY.δ(cy:γ)(cp cG t1:Nat)(t7 t8:Int)(w:World)(R:au)(a1:γ->Nat->Nat->Nat->Int->Int->al):Prop:=
 cond (decide (t8<t7)) (
  ν (decide (0<=t8)) (
   ν (decide (t8<((cp:Nat):Int))) (
    ξ cy λd1=>
    ∃cM m1,w.cell? (d1.add (t8.toNat*1))=some (.complex .f64 cM m1)/\
    (κ prog 94 #[.complex .f64 cM m1,.pointer (some ⟨t1,0,none⟩)] w (λv1 ε=>
     dF v1 λδ=>
     cond δ (
      R (.returned (.int .i64 t8)) ε) (
      a1 cy cp cG t1 t7 (IntKind.i64.wrap (t8+1)) ε)) (ai R))))) (
  R (.returned (.int .i64 (-1))) w)
def uY.bb:=oc uY.δ
def uY.main(bG:γ)(bf bD o5:Nat)(w:World)(R:au):Prop:=
 uY.bb bG bf bD o5 ((bf:Nat):Int) 0 w R
abbrev uY.C(bG:γ)(bf bD o5:Nat):=Calls prog 131 #[.slice bG bf bD,.func (.func 94) #[] #[.pointer (some ⟨o5,0,none⟩)]]
theorem uY.ok:lu uY.main uY.C:=λ{_ _ _ _ _ R}h=>fo func131 [.tmp 4] 19 (.seq .leaf (.seq (.seq .leaf (.block (.loop [(0,.slice),(1,.vC 94),(7,.int .i64),(8,.int .i64)] (uY.bb · · · · · · · R) λa1=>.leaf))) .leaf)) h
def uX.δ(cy:γ)(cp cG:Nat)(t7 t8:Int)(w:World)(R:au)(a1:γ->Nat->Nat->Int->Int->al):Prop:=
 cond (decide (t8<t7)) (
  ν (decide (0<=t8)) (
   ν (decide (t8<((cp:Nat):Int))) (
    ξ cy λd1=>
    ∃cM m1,w.cell? (d1.add (t8.toNat*1))=some (.complex .f64 cM m1)/\
    (κ prog 160 #[.complex .f64 cM m1] w (λv1 ε=>
     dF v1 λδ=>
     cond δ (
      R (.returned (.int .i64 t8)) ε) (
      a1 cy cp cG t7 (IntKind.i64.wrap (t8+1)) ε)) (ai R))))) (
  R (.returned (.int .i64 (-1))) w)
def uX.bb:=yH uX.δ
def uX.main(bG:γ)(bf bD:Nat)(w:World)(R:au):Prop:=
 uX.bb bG bf bD ((bf:Nat):Int) 0 w R
abbrev uX.C(bG:γ)(bf bD:Nat):=Calls prog 131 #[.slice bG bf bD,.func (.func 160) #[] #[]]
theorem uX.ok:ji uX.main uX.C:=λ{_ _ _ _ R}h=>fo func131 [.tmp 4] 19 (.seq .leaf (.seq (.seq .leaf (.block (.loop [(0,.slice),(1,.vB 160),(7,.int .i64),(8,.int .i64)] (uX.bb · · · · · · R) λa1=>.leaf))) .leaf)) h
def vj.δ(cy:γ)(cp cG:Nat)(t7 t8:Int)(w:World)(R:au)(a1:γ->Nat->Nat->Int->Int->al):Prop:=
 cond (decide (t8<t7)) (
  ν (decide (0<=t8)) (
   ν (decide (t8<((cp:Nat):Int))) (
    ξ cy λd1=>
    ∃(aE:aj),aE.size=2/\aB w (d1.add (t8.toNat*2)) aE.toList/\
    (κ prog 104 #[.agg aE] w (λv1 ε=>
     dF v1 λδ=>
     cond δ (
      R (.returned (.int .i64 t8)) ε) (
      a1 cy cp cG t7 (IntKind.i64.wrap (t8+1)) ε)) (ai R))))) (
  R (.returned (.int .i64 (-1))) w)
def vj.bb:=yH vj.δ
def vj.main(bG:γ)(bf bD:Nat)(w:World)(R:au):Prop:=
 vj.bb bG bf bD ((bf:Nat):Int) 0 w R
abbrev vj.C(bG:γ)(bf bD:Nat):=Calls prog 145 #[.slice bG bf bD,.func (.func 104) #[] #[]]
theorem vj.ok:ji vj.main vj.C:=λ{_ _ _ _ R}h=>fo func145 [.tmp 4] 19 (.seq .leaf (.seq (.seq .leaf (.block (.loop [(0,.slice),(1,.vB 104),(7,.int .i64),(8,.int .i64)] (vj.bb · · · · · · R) λa1=>.leaf))) .leaf)) h
def vk.δ(cy:γ)(cp cG t1:Nat)(t7 t8:Int)(w:World)(R:au)(a1:γ->Nat->Nat->Nat->Int->Int->al):Prop:=
 cond (decide (t8<t7)) (
  ν (decide (0<=t8)) (
   ν (decide (t8<((cp:Nat):Int))) (
    ξ cy λd1=>
    ∃(aE:aj),aE.size=2/\aB w (d1.add (t8.toNat*2)) aE.toList/\
    (κ prog 105 #[.agg aE,.pointer (some ⟨t1,0,none⟩)] w (λv1 ε=>
     dF v1 λδ=>
     cond δ (
      R (.returned (.int .i64 t8)) ε) (
      a1 cy cp cG t1 t7 (IntKind.i64.wrap (t8+1)) ε)) (ai R))))) (
  R (.returned (.int .i64 (-1))) w)
def vk.bb:=oc vk.δ
def vk.main(bG:γ)(bf bD o5:Nat)(w:World)(R:au):Prop:=
 vk.bb bG bf bD o5 ((bf:Nat):Int) 0 w R
abbrev vk.C(bG:γ)(bf bD o5:Nat):=Calls prog 145 #[.slice bG bf bD,.func (.func 105) #[] #[.pointer (some ⟨o5,0,none⟩)]]
theorem vk.ok:lu vk.main vk.C:=λ{_ _ _ _ _ R}h=>fo func145 [.tmp 4] 19 (.seq .leaf (.seq (.seq .leaf (.block (.loop [(0,.slice),(1,.vC 105),(7,.int .i64),(8,.int .i64)] (vk.bb · · · · · · · R) λa1=>.leaf))) .leaf)) h
def uT.δ(nh:γ)(ng qT:Nat)(tC:γ)(tB wj:Nat)(t16 t17:Int)(w:World)(R:au)(a1:γ->Nat->Nat->γ->Nat->Nat->Int->Int->al):Prop:=
 cond (decide (t17<t16)) (
  ν (decide (0<=t17)) (
   ν (decide (t17<((tB:Nat):Int))) (
    ξ tC λd1=>
    ∃ae aD c1,w.cell? (d1.add (t17.toNat*1))=some (.slice ae aD c1)/\
    (ν (decide (0<=t17)) (
     ν (decide (t17<((ng:Nat):Int))) (
      ξ nh λd2=>
      ∃aX bu c2,w.cell? (d2.add (t17.toNat*1))=some (.slice aX bu c2)/\
      (κ prog 151 #[.slice ae aD c1,.slice aX bu c2] w (λv1 ε=>
       dF v1 λδ=>
       cond (!δ) (
        R (.returned (.bool false)) ε) (
        a1 nh ng qT tC tB wj t16 (IntKind.i64.wrap (t17+1)) ε)) (ai R)))))))) (
  R (.returned (.bool true)) w)
def uT.bb:=Jp uT.δ
def uT.main(bG:γ)(bf bD:Nat)(gQ:γ)(fy gS:Nat)(w:World)(R:au):Prop:=
 cond (((bf:Nat):Int)!=((fy:Nat):Int)) (
  R (.returned (.bool false)) w) (
  uT.bb gQ fy gS bG bf bD ((bf:Nat):Int) 0 w R)
abbrev uT.C(bG:γ)(bf bD:Nat)(gQ:γ)(fy gS:Nat):=Calls prog 150 #[.slice bG bf bD,.slice gQ fy gS,.func (.func 151) #[] #[]]
theorem uT.ok:xW uT.main uT.C:=λ{_ _ _ _ _ _ _ R}h=>fo func150 [.tmp 6] 32 (.seq .leaf (.seq .leaf (.seq (.seq .leaf (.block (.loop [(1,.slice),(2,.vB 151),(15,.slice),(16,.int .i64),(17,.int .i64)] (uT.bb · · · · · · · · · R) λa1=>.leaf))) .leaf))) h
def vi.δ(cy:γ)(cp cG:Nat)(t7 t8:Int)(w:World)(R:au)(a1:γ->Nat->Nat->Int->Int->al):Prop:=
 cond (decide (t8<t7)) (
  ν (decide (0<=t8)) (
   ν (decide (t8<((cp:Nat):Int))) (
    ξ cy λd1=>
    ∃(aE:aj),aE.size=2/\aB w (d1.add (t8.toNat*2)) aE.toList/\
    (κ prog 162 #[.agg aE] w (λv1 ε=>
     dF v1 λδ=>
     cond δ (
      R (.returned (.int .i64 t8)) ε) (
      a1 cy cp cG t7 (IntKind.i64.wrap (t8+1)) ε)) (ai R))))) (
  R (.returned (.int .i64 (-1))) w)
def vi.bb:=yH vi.δ
def vi.main(bG:γ)(bf bD:Nat)(w:World)(R:au):Prop:=
 vi.bb bG bf bD ((bf:Nat):Int) 0 w R
abbrev vi.C(bG:γ)(bf bD:Nat):=Calls prog 161 #[.slice bG bf bD,.func (.func 162) #[] #[]]
theorem vi.ok:ji vi.main vi.C:=λ{_ _ _ _ R}h=>fo func161 [.tmp 4] 19 (.seq .leaf (.seq (.seq .leaf (.block (.loop [(0,.slice),(1,.vB 162),(7,.int .i64),(8,.int .i64)] (vi.bb · · · · · · R) λa1=>.leaf))) .leaf)) h
def uZ.δ(cy:γ)(cp cG t1:Nat)(t7 t8:Int)(w:World)(R:au)(a1:γ->Nat->Nat->Nat->Int->Int->al):Prop:=
 cond (decide (t8<t7)) (
  ν (decide (0<=t8)) (
   ν (decide (t8<((cp:Nat):Int))) (
    ξ cy λd1=>
    ∃θ,w.cell? (d1.add (t8.toNat*1))=some (.int .i64 θ)/\
    (κ prog 128 #[θ,.pointer (some ⟨t1,0,none⟩)] w (λv1 ε=>
     dF v1 λδ=>
     cond δ (
      R (.returned (.int .i64 t8)) ε) (
      a1 cy cp cG t1 t7 (IntKind.i64.wrap (t8+1)) ε)) (ai R))))) (
  R (.returned (.int .i64 (-1))) w)
def uZ.bb:=oc uZ.δ
def uZ.main(bG:γ)(bf bD o5:Nat)(w:World)(R:au):Prop:=
 uZ.bb bG bf bD o5 ((bf:Nat):Int) 0 w R
abbrev uZ.C(bG:γ)(bf bD o5:Nat):=Calls prog 170 #[.slice bG bf bD,.func (.func 128) #[] #[.pointer (some ⟨o5,0,none⟩)]]
theorem uZ.ok:lu uZ.main uZ.C:=λ{_ _ _ _ _ R}h=>fo func170 [.tmp 4] 19 (.seq .leaf (.seq (.seq .leaf (.block (.loop [(0,.slice),(1,.vC 128),(7,.int .i64),(8,.int .i64)] (uZ.bb · · · · · · · R) λa1=>.leaf))) .leaf)) h
def uS.δ(t0 t1 t2:Nat)(t4:Int)(w:World)(R:au)(a1:Nat->Nat->Nat->Int->al):Prop:=
 ∃ae aD c1,w.cell? ⟨t1,0,none⟩=some (.slice ae aD c1)/\
 (cond (decide (t4<((aD:Nat):Int))) (
  ∃θ,w.drew.cell? ⟨t2,0,none⟩=some (.int .i64 θ)/\
  (∃aX bu c2,w.drew.cell? ⟨t1,0,none⟩=some (.slice aX bu c2)/\
   (ν (decide (0<=t4)) (
    ν (decide (t4<=((bu:Nat):Int))) (
     ∃bj dU bP,w.drew.cell? ⟨t1,0,none⟩=some (.slice bj dU bP)/\
     (ν (decide (0<=(IntKind.i64.wrap (t4+(min2 θ (((bu-t4.toNat):Nat):Int)))))) (
      ν (decide ((IntKind.i64.wrap (t4+(min2 θ (((bu-t4.toNat):Nat):Int))))<=((bP:Nat):Int))) (
       ν (decide (0<=(IntKind.i64.wrap (t4+(min2 θ (((bu-t4.toNat):Nat):Int)))))) (
        ν (decide ((IntKind.i64.wrap (t4+(min2 θ (((bu-t4.toNat):Nat):Int))))<=(((IntKind.i64.wrap (t4+(min2 θ (((bu-t4.toNat):Nat):Int)))).toNat:Nat):Int))) (
         ν (decide (0<=t4)) (
          ν (decide (t4<=(((IntKind.i64.wrap (t4+(min2 θ (((bu-t4.toNat):Nat):Int)))).toNat:Nat):Int))) (
          Zf prog t0 #[.slice (dL bj ((IntKind.i64.wrap (t4+(min2 θ (((bu-t4.toNat):Nat):Int)))).toNat) t4.toNat 1) ((IntKind.i64.wrap (t4+(min2 θ (((bu-t4.toNat):Nat):Int)))).toNat-t4.toNat) ((IntKind.i64.wrap (t4+(min2 θ (((bu-t4.toNat):Nat):Int)))).toNat-t4.toNat)] w.drew λv1 ε=>
          dF v1 λδ=>
          cond (!δ) (
          R (.returned (.tuple #[])) ε) (
          ∃ρ,ε.cell? ⟨t2,0,none⟩=some (.int .i64 ρ)/\
          (a1 t0 t1 t2 (IntKind.i64.wrap (t4+ρ)) ε)))))))))))))) (
  R (.returned (.tuple #[])) w))
def uS.bb:=MF uS.δ
def uS.main(l eu dK:Nat)(w:World)(R:au):Prop:=
 uS.bb l eu dK 0 w R
abbrev uS.C(l eu dK:Nat):=CallsIn Fence.wide 0 prog 172 #[.func (.yield l) #[] #[],.pointer (some ⟨eu,0,none⟩),.pointer (some ⟨dK,0,none⟩)]
theorem uS.ok:ji uS.main uS.C:=λ{_ _ _ _ R}h=>ae8 func172 [] 31 (.seq .leaf (.block (.loop [(0,.AY),(1,.cA),(2,.cA),(4,.int .i64)] (uS.bb · · · · · R) λa1=>.leaf))) h
def tT.δ(t0 t1 t2:Nat)(t4:Int)(w:World)(R:au)(a1:Nat->Nat->Nat->Int->al):Prop:=
 ∃ae aD c1,w.cell? ⟨t1,0,none⟩=some (.slice ae aD c1)/\
 (cond (decide (t4<((aD:Nat):Int))) (
  ∃θ,w.drew.cell? ⟨t2,0,none⟩=some (.int .i64 θ)/\
  (∃aX bu c2,w.drew.cell? ⟨t1,0,none⟩=some (.slice aX bu c2)/\
   (ν (decide (0<=t4)) (
    ν (decide (t4<=((bu:Nat):Int))) (
     ∃bj dU bP,w.drew.cell? ⟨t1,0,none⟩=some (.slice bj dU bP)/\
     (ν (decide (0<=(IntKind.i64.wrap (t4+(min2 θ (((bu-t4.toNat):Nat):Int)))))) (
      ν (decide ((IntKind.i64.wrap (t4+(min2 θ (((bu-t4.toNat):Nat):Int))))<=((bP:Nat):Int))) (
       ν (decide (0<=(IntKind.i64.wrap (t4+(min2 θ (((bu-t4.toNat):Nat):Int)))))) (
        ν (decide ((IntKind.i64.wrap (t4+(min2 θ (((bu-t4.toNat):Nat):Int))))<=(((IntKind.i64.wrap (t4+(min2 θ (((bu-t4.toNat):Nat):Int)))).toNat:Nat):Int))) (
         ν (decide (0<=t4)) (
          ν (decide (t4<=(((IntKind.i64.wrap (t4+(min2 θ (((bu-t4.toNat):Nat):Int)))).toNat:Nat):Int))) (
          Zf prog t0 #[.slice (dL bj ((IntKind.i64.wrap (t4+(min2 θ (((bu-t4.toNat):Nat):Int)))).toNat) t4.toNat 5) ((IntKind.i64.wrap (t4+(min2 θ (((bu-t4.toNat):Nat):Int)))).toNat-t4.toNat) ((IntKind.i64.wrap (t4+(min2 θ (((bu-t4.toNat):Nat):Int)))).toNat-t4.toNat)] w.drew λv1 ε=>
          dF v1 λδ=>
          cond (!δ) (
          R (.returned (.tuple #[])) ε) (
          ∃ρ,ε.cell? ⟨t2,0,none⟩=some (.int .i64 ρ)/\
          (a1 t0 t1 t2 (IntKind.i64.wrap (t4+ρ)) ε)))))))))))))) (
  R (.returned (.tuple #[])) w))
def tT.bb:=MF tT.δ
def tT.main(l eu dK:Nat)(w:World)(R:au):Prop:=
 tT.bb l eu dK 0 w R
abbrev tT.C(l eu dK:Nat):=CallsIn Fence.wide 0 prog 184 #[.func (.yield l) #[] #[],.pointer (some ⟨eu,0,none⟩),.pointer (some ⟨dK,0,none⟩)]
theorem tT.ok:ji tT.main tT.C:=λ{_ _ _ _ R}h=>ae8 func184 [] 31 (.seq .leaf (.block (.loop [(0,.AY),(1,.cA),(2,.cA),(4,.int .i64)] (tT.bb · · · · · R) λa1=>.leaf))) h
end Go.Proofs.YtcpdfhkhaekekaaGreat.G
namespace Go.bJ
open Go.RowKit
theorem μ.at{w:World}{B:Nat}{e:TypeId}{sz b:Nat}{n c:Nat}{xs:aY}(h:μ w B e sz (some ⟨b,0,none⟩) n c xs){j:Nat}{v:Value}(ψ:xs[j]?=some v):w.cell? (⟨b,j,none⟩:Addr)=some v:=by
 have:=h.cells j v ψ
 have pV:(⟨b,0,none⟩:Addr).add j=⟨b,j,none⟩:=by rw[Addr.add_lit];simp
 rwa[pV]at this
theorem μ.put{w:World}{B:Nat}{e:TypeId}{sz b:Nat}{xs cs:aY}(aG:μ w B e sz (some ⟨b,0,none⟩) 1 1 xs)(ak:cs.length=sz)(h1:∀y∈cs,y.oneCell'=true){N:al}
  (K:∀υ,Kp w υ (λi=>i=b)->μ υ B e sz (some ⟨b,0,none⟩) 1 1 cs->N υ):a6 w (⟨b,0,none⟩:Addr) cs/\∀υ,υ=w.setCells (⟨b,0,none⟩:Addr).block (⟨b,0,none⟩:Addr).off cs->N υ:=by
 obtain⟨aV,bK,b4⟩:=aG.writes 0 cs (by omega) h1;have J:=aG.1;have hB:(⟨b,0,none⟩:Addr).add 0=⟨b,0,none⟩:=Addr.add_zero' _;refine⟨?_,λυ hw=>?_⟩
 ·have:a6 w ((⟨b,0,none⟩:Addr).add 0) cs:=aV
  rwa[hB]at this
 ·have p1:lM w (some ⟨b,0,none⟩) 0 cs=υ:=by rw[hw];rfl
  rw[p1]at bK b4;refine K υ (b4.mono λi _⟨x,J,I⟩=>by cases J;exact I.symm) ?_;rw[G3,uJ,oh,ak,sq (by omega),qi]at bK;exact bK
theorem μ.dv{w:World}{B:Nat}{e:TypeId}{sz b n c:Nat}{xs:aY}(aG:μ w B e sz (some ⟨b,0,none⟩) n c xs){j:Nat}(ψ:j<n*sz){v:Value}(az:v.oneCell'=true){N:al}
  (K:∀υ,Kp w υ (λi=>i=b)->μ υ B e sz (some ⟨b,0,none⟩) n c (xs.set j v)->N υ):(w.cell? (⟨b,j,none⟩:Addr)).isSome=true/\w.frozen? (⟨b,j,none⟩:Addr)=false/\∀υ,υ=w.setCell (⟨b,j,none⟩:Addr) v->N υ:=by
 obtain⟨h1,ι,aJ⟩:=aG.writes j [v] (by simp;omega) (by simpa using az);have pV:(⟨b,0,none⟩:Addr).add j=⟨b,j,none⟩:=by rw[Addr.add_lit];simp
 have vD:a6 w ((⟨b,0,none⟩:Addr).add j) [v]:=h1;rw[pV]at vD;have kq:=vD.2.1 0 (by simp);refine⟨kq.1,kq.2,λυ hw=>?_⟩;have p1:lM w (some ⟨b,0,none⟩) j [v]=υ:=by rw[hw];show w.setCell ⟨b,0+j,none⟩ v=_;rw[oh]
 rw[p1]at ι aJ;have ke:=aG.1;have gA:xs.take j++[v]++xs.drop (j+[v].length)=xs.set j v:=by rw[List.set_eq_take_append_cons_drop,aN (by omega)];simp
 rw[gA]at ι;exact K υ (aJ.mono λi _⟨x,J,I⟩=>by cases J;exact I.symm) ι
theorem μ.new{w:World}(cs:aY)(e:TypeId):μ (w.alloc (.cells cs.toArray e)) w.heap.size e cs.length (some ⟨w.heap.size,0,none⟩) 1 1 cs:=μ.alloc cs e cs.length 1 (by omega)
theorem η.then{w ε υ:World}{S:bl}(h:η w ε)(k:Kp ε υ S)(eU:∀i,S i->w.heap.size<=i):η w υ:=
 Kp.trans h k (λ_ _ h=>h) (λi I s=>absurd (eU i s) (by omega))
theorem bd.one{w:World}{p:γ}{xs:aY}(h:bd w p xs){v:Value}(aF:xs[0]?=some v):∃a,p=some a/\w.cell? a=some v:=by
 cases p with
 |none=>have:xs=[]:=h;subst this;simp at aF
 |some a=>
  refine⟨a,rfl,?_⟩
  have:=h 0 v aF
  rwa[show a.add 0=a from Addr.add_zero' a]at this
theorem bd.many{w:World}{p:γ}{xs:aY}(h:bd w p xs){j:Nat}{v:Value}(aF:xs[j]?=some v):∃a,p=some a/\w.cell? (a.add j)=some v:=by
 cases p with
 |none=>have:xs=[]:=h;subst this;simp at aF
 |some a=>exact⟨a,rfl,h j v aF⟩
def Typed(w:World)(e:TypeId)(i:Nat):Prop:=∃cur fr,w.heap[i]?=some (.cells cur e fr)
theorem Typed.ne{w:World}{e f:TypeId}{i j:Nat}(h:Typed w e i)(k:Typed w f j)(b1:e≠f):i≠j:=by
 rintro rfl;obtain⟨c,fr,h⟩:=h;obtain⟨aW,ay6,k⟩:=k;rw[h]at k;injection k with k
 injection k with _ k _
 exact b1 k
theorem μ.typed{w:World}{B:Nat}{e:TypeId}{sz:Nat}{p:γ}{n c:Nat}{xs:aY}(h:μ w B e sz p n c xs){x:Addr}(J:p=some x):Typed w e x.block/\B<=x.block/\x.block<w.heap.size:=by
 refine⟨?_,h.ge J⟩;obtain⟨_,_,⟨hp,_⟩|⟨b,cur,fr,hp,_,τ,_⟩⟩:=h
 ·rw[hp]at J;cases J
 ·rw[hp]at J;cases J;exact⟨cur,fr,τ⟩
def lv(w:World)(B:Nat)(e:TypeId)(sz:Nat)(p:γ)(n c:Nat)(xs:aY):Prop:=
 xs.length=n*sz/\n<=c/\((p=none/\c=0)\/∃b o cur fr,p=some ⟨b,o,none⟩/\B<=b/\w.heap[b]?=some (.cells cur e fr)/\xT fr cur.size/\o+c*sz<=cur.size/\(cur.toList.drop o).take (n*sz)=xs)
theorem μ.aiU{w:World}{B:Nat}{e:TypeId}{sz:Nat}{p:γ}{n c:Nat}{xs:aY}(h:μ w B e sz p n c xs):lv w B e sz p n c xs:=by
 obtain⟨ak,ar,h⟩:=h;refine⟨ak,ar,?_⟩;rcases h with h|⟨b,cur,fr,hp,eh,τ,jZ,π,J⟩
 ·exact .inl h
 ·exact .inr ⟨b,0,cur,fr,hp,eh,τ,jZ,by omega,by simpa using J⟩
theorem lv.cells{w:World}{B:Nat}{e:TypeId}{sz:Nat}{p:γ}{n c:Nat}{xs:aY}(h:lv w B e sz p n c xs):bd w p xs:=by
 obtain⟨ak,ar,h⟩:=h;rcases h with⟨rfl,rfl⟩|⟨b,o,cur,fr,rfl,eh,τ,jZ,π,J⟩
 ·have:n=0:=by omega
  subst this
  have:xs=[]:=tu (by rw[ak];simp)
  subst this;rfl
 ·intro j v az;have pV:(⟨b,o,none⟩:Addr).add j=⟨b,o+j,none⟩:=by rw[Addr.add_lit]
  rw[pV,cell_of_block τ];rw[<-J,List.getElem?_take]at az;split at az
  ·rw[List.getElem?_drop]at az;rw[<-Array.getElem?_toList];exact az
  ·simp at az
theorem lv.typed{w:World}{B:Nat}{e:TypeId}{sz:Nat}{p:γ}{n c:Nat}{xs:aY}(h:lv w B e sz p n c xs){x:Addr}(J:p=some x):Typed w e x.block/\B<=x.block/\x.block<w.heap.size:=by
 obtain⟨_,_,⟨hp,_⟩|⟨b,o,cur,fr,hp,eh,τ,_⟩⟩:=h
 ·rw[hp]at J;cases J
 ·rw[hp]at J;cases J;refine⟨⟨cur,fr,τ⟩,eh,?_⟩;rcases JU b w.heap.size with h|h
  ·exact h
  ·rw[Array.getElem?_eq_none h]at τ;cases τ
theorem lv.aO{w w':World}{S:bl}{B:Nat}{e:TypeId}{sz:Nat}{p:γ}{n c:Nat}{xs:aY}(h:lv w B e sz p n c xs)(hk:Kp w w' S)(ab:∀x,p=some x->¬S x.block):lv w' B e sz p n c xs:=by
 have Ab:=@lv.typed _ _ _ _ _ _ _ _ h;obtain⟨ak,ar,h⟩:=h;refine⟨ak,ar,?_⟩;rcases h with h|⟨b,o,cur,fr,rfl,eh,τ,jZ,π,J⟩
 ·exact .inl h
 ·refine .inr ⟨b,o,cur,fr,rfl,eh,?_,jZ,π,J⟩;rw[hk.block b (Ab rfl).2.2 (ab _ rfl)];exact τ
theorem lv.ex{w w':World}{B:Nat}{e:TypeId}{sz:Nat}{p:γ}{n c:Nat}{xs:aY}(h:lv w B e sz p n c xs)(hk:η w w'):lv w' B e sz p n c xs:=h.aO hk λ_ _ h=>h
theorem lv.lower{w:World}{B B':Nat}{e:TypeId}{sz:Nat}{p:γ}{n c:Nat}{xs:aY}(h:lv w B e sz p n c xs)(eh:B'<=B):lv w B' e sz p n c xs:=by
 obtain⟨ak,ar,h⟩:=h;refine⟨ak,ar,?_⟩;rcases h with h|⟨b,o,cur,fr,hp,τ,r⟩
 ·exact .inl h
 ·exact .inr ⟨b,o,cur,fr,hp,gE eh τ,r⟩
theorem lv.nil(w:World)(B:Nat)(e:TypeId)(sz:Nat):lv w B e sz none 0 0 []:=(μ.nil w B e sz).aiU
theorem lv.tail{w:World}{B:Nat}{e:TypeId}{sz:Nat}{p:γ}{n c:Nat}{xs:aY}(h:lv w B e sz p n c xs)(aF:1<=n)(eV:0<sz):lv w B e sz (dL p c 1 sz) (n-1) (c-1) (xs.drop sz):=by
 obtain⟨ak,ar,h⟩:=h;have aP:(n-1)*sz=n*sz-sz:=by rw[Nat.sub_mul,G9]
 have bM:(c-1)*sz=c*sz-sz:=by rw[Nat.sub_mul,G9]
 have gA:1*sz<=n*sz:=uK _ aF;have jE:n*sz<=c*sz:=uK _ ar;refine⟨by rw[lg,ak,aP],by omega,?_⟩;rcases h with⟨_,π⟩|⟨b,o,cur,fr,rfl,eh,τ,jZ,π,J⟩
 ·omega
 ·unfold dL;by_cases h1:c=1
  ·subst h1
   have:n=1:=by omega
   subst this;refine .inr ⟨b,o,cur,fr,by simp,eh,τ,jZ,(by have:cur.toList.length=cur.size:=lL;rw[tv,Nat.zero_mul];omega),?_⟩;have ah:xs.drop sz=[]:=sq (by rw[ak];omega);rw[ah,tv,Nat.zero_mul,G3]
  ·rw[aL h1];refine .inr ⟨b,o+sz,cur,fr,?_,eh,τ,jZ,by omega,?_⟩
   ·rw[G9,jB,Addr.add_lit]
   ·rw[<-J,aP,<-Rm,G2]
theorem al3{w:World}{B:Nat}{e:TypeId}{sz:Nat}{p:γ}{n c m bytes:Nat}{xs:aY}{zero:aj}{Src:aY->Prop}{N:γ->Nat->al}
  (aG:lv w B e sz p n c xs)(eh:B<=w.heap.size)(ys:aY)(ab:Src ys)(ak:ys.length=m*sz)(h1:∀y∈ys,y.oneCell'=true)(aI:zero.size=sz)
  (τ:(n+m)*bytes<=140737488355328)(Br:n+m<=9223372036854775807)
  (K:∀b5 aW w',lv w' B e sz b5 (n+m) aW (xs++ys)->Kp w w' (λi=>∃x,p=some x/\x.block=i)->N b5 aW w'):ho w p n c m Src e sz bytes zero N:=by
 have lG:=aG.cells;obtain⟨ke,qE,hp⟩:=aG;refine⟨ys,ak,ab,λnF=>?_,λac8=>⟨τ,Br,xs,ke,lG,λb aW w' yk FU gw=>?_⟩⟩
 ·rcases hp with⟨rfl,rfl⟩|⟨b,o,cur,fr,rfl,FL,o9,jZ,π,J⟩
  ·refine⟨trivial,λw' gw=>?_⟩;have hm:m=0:=by omega
   have ar:n=0:=by omega
   subst hm ar
   have:ys=[]:=tu (by rw[ak];simp)
   subst this;subst gw;refine K _ _ _ ⟨by simpa using ke,eR _,.inl ⟨rfl,rfl⟩⟩ (Kp.refl _ _)
  ·have hmul:(n+m)*sz<=c*sz:=uK _ nF;have Dk:(n+m)*sz=n*sz+m*sz:=mc _ _ _;have pV:(⟨b,o,none⟩:Addr).add (n*sz)=⟨b,o+n*sz,none⟩:=by rw[Addr.add_lit]
   refine⟨?_,λw' gw=>?_⟩
   ·show a6 w ((⟨b,o,none⟩:Addr).add (n*sz)) ys;rw[pV];refine⟨rfl,λj ψ=>⟨?_,?_⟩,h1⟩<;>dsimp only
    ·rw[cell_of_block o9,Array.getElem?_eq_getElem (by omega)];rfl
    ·rw[Lr o9];rcases jZ with h|h<;>simp<;>omega
   ·have hw:w'=w.setCells b (o+n*sz) ys:=by rw[gw];simp[lM]
    subst hw;have eG:=LU b ys (o+n*sz) w cur o9;refine K _ _ _ ⟨by simp[ke,ak,Dk],nF,.inr ⟨b,o,_,fr,rfl,FL,eG,by rw[size_put];exact jZ,by rw[size_put];exact π,?_⟩⟩ (Kp.setCells b ⟨_,rfl,rfl⟩ ys (o+n*sz) w);have gD:cur.toList.length=cur.size:=lL;rw[H9 _ _ _ (by omega),Dk];have t1:(cur.toList.take (o+n*sz)++ys++cur.toList.drop (o+n*sz+ys.length)).drop o=xs++ys++cur.toList.drop (o+n*sz+ys.length):=by rw[nc,DT (by rw[hs];omega),G2,show o+n*sz-o=n*sz by omega,J,nc]
    rw[t1,qj (by simp[ke,ak])];rw[hR (by simp[ke,ak])]
 ·subst gw yk;have BJ:(Builtin.zeroCells zero (aW-(n+m))).size=(aW-(n+m))*sz:=by rw[size_zeroCells,aI]
  have eV:(xs.toArray++ys.toArray++Builtin.zeroCells zero (aW-(n+m))).size=aW*sz:=by
   have:aW*sz=(n+m)*sz+(aW-(n+m))*sz:=by rw[<-mc];congr 1;omega
   simp only[Nq,fP,BJ,ke,ak,this,mc]
  have yt:=μ.made (w:=w.drew) (e:=e) (sz:=sz) (n:=n+m) (c:=aW) (cur:=xs.toArray++ys.toArray++Builtin.zeroCells zero (aW-(n+m))) (fr:=(0,0)) FU (by rw[eV];exact dO _) (xT.zero _);have yv:(xs.toArray++ys.toArray++Builtin.zeroCells zero (aW-(n+m))).toList.take ((n+m)*sz)=xs++ys:=by
   have hB:(xs.toArray++ys.toArray++Builtin.zeroCells zero (aW-(n+m))).toList=(xs++ys)++(Builtin.zeroCells zero (aW-(n+m))).toList:=by simp
   rw[hB,qj (by simp[ke,ak,mc]),hR (by simp[ke,ak,mc])]
  rw[yv]at yt;exact K _ _ _ (yt.lower eh).aiU ((η.trans (η.drew w) (η.alloc _ _)).mono λ_ _ h=>h.elim)
theorem μ.cV{w w':World}{S:bl}{B:Nat}{e:TypeId}{sz:Nat}{p:γ}{n c:Nat}{xs:aY}(h:μ w B e sz p n c xs)(k:Kp w w' S)(f:TypeId)(ab:∀i,S i->Typed w f i)(b1:e≠f):μ w' B e sz p n c xs:=
 h.aO k λx J hm=>(h.typed J).1.ne (ab _ hm) b1 rfl
theorem lv.cV{w w':World}{S:bl}{B:Nat}{e:TypeId}{sz:Nat}{p:γ}{n c:Nat}{xs:aY}(h:lv w B e sz p n c xs)(k:Kp w w' S)(f:TypeId)(ab:∀i,S i->Typed w f i)(b1:e≠f):lv w' B e sz p n c xs:=
 h.aO k λx J hm=>(h.typed J).1.ne (ab _ hm) b1 rfl
theorem Kp.gL{w ε υ:World}{S:bl}(h:Kp w ε S)(k:Kp ε υ S):Kp w υ S:=Kp.trans h k (λ_ _ h=>h) (λ_ _ h=>h)
theorem η.aO{w ε:World}(h:η w ε)(S:bl):Kp w ε S:=h.mono λ_ _ h=>h.elim
theorem dG(b n:Nat):(⟨b,0,none⟩:Addr).add n=⟨b,n,none⟩:=by rw[Addr.add_lit];simp
theorem bd.row{w:World}{p:γ}{rows:List aY}(h:bd w p rows.flatten){k:Nat}(hk:∀r∈rows,r.length=k)(aF:0<k){i:Nat}{r:aY}(I:rows[i]?=some r):∃a,p=some a/\aB w (a.add (i*k)) r:=by
 have ak:=hk r (fa I);have h1:=PJ rows k hk i r I 0 aF;have hB:r[0]?=some r[0]:=List.getElem?_eq_getElem (by omega);rw[hB]at h1;obtain⟨a,rfl,_⟩:=h.many h1;refine⟨a,rfl,λj v ψ=>?_⟩;have pb:=(List.getElem?_eq_some_iff.1 ψ).1
 have:=PJ rows k hk i r I j (by omega)
 rw[ψ]at this;rw[add_add];exact h _ _ this
theorem acb:∀(cs:aY)(k o:Nat)(a:aj),(cs.zipIdx k).foldl (λa(x:Value×Nat)=>a.setIfInBounds (o+x.2) x.1) a=put a (o+k) cs
 |[],_,_,_=>rfl
 |c::r,k,o,a=>by rw[List.zipIdx_cons,List.foldl_cons,acb r (k+1) o];rfl
theorem UN{place:Nat->Option (Nat×Nat)}{cells:aj}{i off size:Nat}{v:Value}{rest:List (Nat×Value)}(hp:place i=some (off,size))(az:v.cells.size=size)(ab:off+size<=cells.size):
  Instr.fill place cells ((i,v)::rest)=Instr.fill place (put cells off v.cells.toList) rest:=by
 rw[Instr.fill,hp];dsimp only;rw[aL (by simp[az];omega)];congr 1;rw[<-Array.foldl_toList,Array.toList_zipIdx];exact acb v.cells.toList 0 off cells
theorem aua(z:aj)(cs:aY)(h:cs.length=z.size):put z 0 cs=cs.toArray:=by apply rM;have ak:z.toList.length=z.size:=lL;rw[H9 _ _ _ (by omega),G3,uJ,oh,sq (by omega),qi]
theorem UO(k:Nat)(z cs:aj)(aI:z.size=k)(π:cs.size=k):Instr.fill (λi=>some (i*k,k)) z [(0,.agg cs)]=some cs:=by rw[UN (off:=0) (size:=k) (v:=.agg cs) (by simp) π (by omega)];show some (put z 0 cs.toList)=some cs;rw[aua z cs.toList (by simp;omega)]
theorem an7(k:Nat)(z cs:aj)(v:Value)(aI:z.size=1+k)(az:v.cells=#[v])(π:cs.size=k):Instr.fill (λi=>#[(0,1),(1,k)][i]?) z [(0,v),(1,.agg cs)]=some (v::cs.toList).toArray:=by rw[UN (off:=0) (size:=1) (by simp) (by rw[az];rfl) (by omega),UN (off:=1) (size:=k) (v:=.agg cs) (by simp) π (by rw[size_put];omega)];show some _=some _;congr 1;have ak:z.toList.length=z.size:=lL;apply rM;rw[az];show(put (put z 0 [v]) 1 cs.toList).toList=v::cs.toList;have gD:cs.toList.length=cs.size:=lL;rw[H9 _ _ _ (by rw[size_put];omega),H9 _ _ _ (by simp;omega)];simp only[G3,uJ,oh,kU,G8];rw[qj (by simp),sq (by simp;omega)];simp
theorem DD(k m:Nat)(v:Value)(hk:0<k):madeCells (List.replicate k v).toArray m=(List.replicate m v).toArray:=by
 apply Array.ext
 ·simp[madeCells]
 ·intro i h1 ι
  have:i%k<k:=Nat.mod_lt _ hk
  simp[madeCells,this]
theorem ab4{α:Type}{k:Nat}:∀(rows:List (List α))(i:Nat)(r:List α),(∀r∈rows,r.length=k)->i<rows.length->r.length=k->rows.flatten.take (i*k)++r++rows.flatten.drop (i*k+r.length)=(rows.set i r).flatten
 |[],i,r,_,h,_=>by simp at h
 |x::rs,0,r,hk,_,φ=>by have J:=hk x (by simp);simp only[Nat.zero_mul,G3,uJ,oh,DP,G4];rw[DT (by omega),sq (by omega),uJ]
 |x::rs,i+1,r,hk,h,φ=>by have J:=hk x (by simp);have cw:=ab4 rs i r (λr φ=>hk r (ie _ φ)) (by simpa using h) φ;rw[DP,List.set_cons_succ,DP,<-cw,mc,G9];rw[show i*k+k=x.length+i*k by omega,List.take_length_add_append,show x.length+i*k+r.length=x.length+(i*k+r.length)by omega,List.drop_length_add_append];simp[nc]
theorem amM{w:World}{B:Nat}{e:TypeId}{sz:Nat}{p s:γ}{n c oN:Nat}{xs ys:aY}{N:al}(aG:μ w B e sz p n c xs)(ab:bd w s ys)(ak:ys.length=oN*sz)(rr:oN<=n)(h1:∀y∈ys,y.oneCell'=true)
  (K:∀w',μ w' B e sz p n c (ys++xs.drop (oN*sz))->Kp w w' (λi=>∃x,p=some x/\x.block=i)->N w'):wS w p n s oN sz N:=by
 have hm:oN*sz<=n*sz:=uK _ rr;obtain⟨aV,bK,b4⟩:=aG.writes 0 ys (by omega) h1;refine⟨ys,by rw[ak];congr 1;exact(sr rr).symm,ab,aV,λw' gw=>?_⟩;subst gw;rw[oh,ak]at bK;exact K _ (by simpa using bK) b4
theorem CM{w:World}{B:Nat}{e:TypeId}{sz:Nat}{p:γ}{n c m bytes:Nat}{xs:aY}{zero:aj}{Src:aY->Prop}{N:γ->Nat->al}
  (aG:μ w B e sz p n c xs)(eh:B<=w.heap.size)(ys:aY)(ab:Src ys)(ak:ys.length=m*sz)(h1:∀y∈ys,y.oneCell'=true)(aI:zero.size=sz)
  (τ:(n+m)*bytes<=140737488355328)(Br:n+m<=9223372036854775807)
  (K:∀b5 aW w',μ w' B e sz b5 (n+m) aW (xs++ys)->Kp w w' (λi=>∃x,p=some x/\x.block=i)->(b5=p\/∀x,b5=some x->w.heap.size<=x.block)->N b5 aW w'):ho w p n c m Src e sz bytes zero N:=by
 have lG:=aG.cells;obtain⟨ke,qE,hp⟩:=aG;refine⟨ys,ak,ab,λnF=>?_,λac8=>⟨τ,Br,xs,ke,lG,λb aW w' yk FU gw=>?_⟩⟩
 ·rcases hp with⟨rfl,rfl⟩|⟨b,cur,fr,rfl,FL,o9,jZ,π,J⟩
  ·refine⟨trivial,λw' gw=>?_⟩;have hm:m=0:=by omega
   have ar:n=0:=by omega
   subst hm ar
   have:ys=[]:=tu (by rw[ak];simp)
   subst this;subst gw;refine K _ _ _ ⟨by simpa using ke,eR _,.inl ⟨rfl,rfl⟩⟩ (Kp.refl _ _) (.inl rfl)
  ·have hmul:(n+m)*sz<=c*sz:=uK _ nF;have Dk:(n+m)*sz=n*sz+m*sz:=mc _ _ _;have pV:(⟨b,0,none⟩:Addr).add (n*sz)=⟨b,n*sz,none⟩:=by rw[Addr.add_lit];simp
   refine⟨?_,λw' gw=>?_⟩
   ·show a6 w ((⟨b,0,none⟩:Addr).add (n*sz)) ys;rw[pV];refine⟨rfl,λj ψ=>⟨?_,?_⟩,h1⟩<;>dsimp only
    ·rw[cell_of_block o9,Array.getElem?_eq_getElem (by omega)];rfl
    ·rw[Lr o9];rcases jZ with h|h<;>simp<;>omega
   ·have hw:w'=w.setCells b (n*sz) ys:=by rw[gw];simp[lM]
    subst hw;have eG:=LU b ys (n*sz) w cur o9;refine K _ _ _ ⟨by simp[ke,ak,Dk],nF,.inr ⟨b,_,fr,rfl,FL,eG,by rw[size_put];exact jZ,by rw[size_put];exact π,?_⟩⟩ (Kp.setCells b ⟨_,rfl,rfl⟩ ys (n*sz) w) (.inl rfl);rw[H9 _ _ _ (by omega),Dk,J,qj (by simp[ke,ak])];rw[hR (by simp[ke,ak])]
 ·subst gw yk;have BJ:(Builtin.zeroCells zero (aW-(n+m))).size=(aW-(n+m))*sz:=by rw[size_zeroCells,aI]
  have eV:(xs.toArray++ys.toArray++Builtin.zeroCells zero (aW-(n+m))).size=aW*sz:=by
   have:aW*sz=(n+m)*sz+(aW-(n+m))*sz:=by rw[<-mc];congr 1;omega
   simp only[Nq,fP,BJ,ke,ak,this,mc]
  have yt:=μ.made (w:=w.drew) (e:=e) (sz:=sz) (n:=n+m) (c:=aW) (cur:=xs.toArray++ys.toArray++Builtin.zeroCells zero (aW-(n+m))) (fr:=(0,0)) FU (by rw[eV];exact dO _) (xT.zero _);have yv:(xs.toArray++ys.toArray++Builtin.zeroCells zero (aW-(n+m))).toList.take ((n+m)*sz)=xs++ys:=by
   have hB:(xs.toArray++ys.toArray++Builtin.zeroCells zero (aW-(n+m))).toList=(xs++ys)++(Builtin.zeroCells zero (aW-(n+m))).toList:=by simp
   rw[hB,qj (by simp[ke,ak,mc]),hR (by simp[ke,ak,mc])]
  rw[yv]at yt;exact K _ _ _ (yt.lower eh) ((η.trans (η.drew w) (η.alloc _ _)).mono λ_ _ h=>h.elim) (.inr λx J=>by cases J;exact dO _)
theorem μ.more{w:World}{B:Nat}{e:TypeId}{sz b n c:Nat}{xs:aY}(h:μ w B e sz (some ⟨b,0,none⟩) n c xs){k:Nat}(hk:n<=k)(adg:k<=c):∃ys,ys.length=(k-n)*sz/\μ w B e sz (some ⟨b,0,none⟩) k c (xs++ys):=by
 obtain⟨ak,ar,hp⟩:=h;rcases hp with⟨hp,_⟩|⟨gg,cur,fr,hp,eh,τ,jZ,π,J⟩
 ·cases hp
 ·cases hp;have hm:k*sz<=c*sz:=uK _ adg;have aqb:n*sz<=k*sz:=uK _ hk;have e:xs++(cur.toList.take (k*sz)).drop (n*sz)=cur.toList.take (k*sz):=by
   conv=>rhs;rw[<-Au (n*sz) (cur.toList.take (k*sz))]
   rw[Ce,sr aqb,J]
  refine⟨(cur.toList.take (k*sz)).drop (n*sz),by simp[Nat.sub_mul];omega,?_⟩;rw[e];exact⟨by simp;omega,adg,.inr ⟨_,cur,fr,rfl,eh,τ,jZ,π,rfl⟩⟩
theorem μ.less{w:World}{B:Nat}{e:TypeId}{sz n c:Nat}{p:γ}{xs:aY}(h:μ w B e sz p n c xs){k:Nat}(hk:k<=n):μ w B e sz p k c (xs.take (k*sz)):=by
 obtain⟨ak,ar,hp⟩:=h;have hm:k*sz<=n*sz:=uK _ hk;refine⟨by simp;omega,by omega,?_⟩;rcases hp with hp|⟨gg,cur,fr,hp,eh,τ,jZ,π,J⟩
 ·exact .inl hp
 ·exact .inr ⟨gg,cur,fr,hp,eh,τ,jZ,π,by rw[<-J,Ce,sr hm]⟩
theorem μ.avg{w:World}{B:Nat}{e:TypeId}{sz n c:Nat}{p:γ}{xs:aY}(h:μ w B e sz p n c xs)(s:Nat):dL p c 0 s=p:=by
 unfold dL;split
 ·rfl
 ·rcases h.2.2 with⟨rfl,_⟩|⟨b,cur,fr,rfl,_⟩
  ·rfl
  ·simp only[jB,Addr.add_lit];simp
theorem Pp{w:World}{B:Nat}{e:TypeId}{p s:γ}{n c oN b8:Nat}{xs ys:aY}{N:al}(aG:μ w B e 1 p n c xs)(o:Nat)(ab:bd w s ys)(ak:ys.length=min oN b8)(φ:o+ys.length<=n)(h1:∀y∈ys,y.oneCell'=true)
  (K:∀w',μ w' B e 1 p n c (xs.take o++ys++xs.drop (o+ys.length))->Kp w w' (λi=>∃x,p=some x/\x.block=i)->N w'):wS w (dL p c o 1) b8 s oN 1 N:=by
 obtain⟨aV,bK,b4⟩:=aG.writes o ys (by omega) h1;have key:O1 w (dL p c o 1) 0 ys/\lM w (dL p c o 1) 0 ys=lM w p o ys:=by
  have ar:=aG.2.1;unfold dL;split
  ·rename_i azt
   have:ys=[]:=tu (by omega)
   subst this;rcases aG.2.2 with⟨rfl,_⟩|⟨b,cur,fr,rfl,_⟩
   ·exact⟨trivial,rfl⟩
   ·refine⟨?_,rfl⟩;show a6 w ((⟨b,0,none⟩:Addr).add 0) [];exact⟨by simp[Addr.add_lit],λj ψ=>by simp at ψ,λv az=>by cases az⟩
  ·rcases aG.2.2 with⟨rfl,_⟩|⟨b,cur,fr,rfl,_⟩
   ·exact⟨trivial,rfl⟩
   ·have aV:a6 w ((⟨b,0,none⟩:Addr).add o) ys:=aV;constructor
    ·show a6 w (((⟨b,0,none⟩:Addr).add (o*1)).add 0) ys;rw[add_add,eS,Nat.add_zero];exact aV
    ·show w.setCells ((⟨b,0,none⟩:Addr).add (o*1)).block (((⟨b,0,none⟩:Addr).add (o*1)).off+0) ys=w.setCells b (0+o) ys;rw[zv,KT,eS,Nat.add_zero]
 refine⟨ys,by rw[ak,eS],ab,key.1,λw' gw=>?_⟩;subst gw;rw[key.2];exact K _ bK b4
theorem al5{w:World}{B:Nat}{e:TypeId}{p:γ}{i c m bytes:Nat}{v:Value}{xs:aY}{N:γ->Nat->al}(aG:μ w B e 1 p i c xs)(bH:c<i+m)(τ:(i+m)*bytes<=140737488355328)(Br:i+m<=9223372036854775807)
  (K:∀aW w' lR,lR.length=m->η w w'->μ w' w.heap.size e 1 (some ⟨w.heap.size,0,none⟩) (i+m) aW (xs++lR)->N (some ⟨w.heap.size,0,none⟩) aW w'):Pa w p i c m e 1 bytes #[v] N:=by
 have Mu:(Builtin.zeroCells #[v] m).size=m:=by simp[size_zeroCells]
 have aqf:m*bytes<=(i+m)*bytes:=uK _ (by omega)
 refine⟨by have:((m*bytes:Nat):Int)<=281474976710656:=by omega
           rwa[Int.natCast_mul]at this,by omega,(Builtin.zeroCells #[v] m).toList,by simp[Mu],by simp,λh=>by omega,λ_=>⟨τ,Br,xs,aG.1,aG.cells,λb aW w' yk FU gw=>?_⟩⟩
 subst yk gw;have ke:xs.length=i:=by have:=aG.1;omega
 have BJ:(Builtin.zeroCells #[v] (aW-(i+m))).size=aW-(i+m):=by rw[size_zeroCells];simp
 have eV:(xs.toArray++(Builtin.zeroCells #[v] m).toList.toArray++Builtin.zeroCells #[v] (aW-(i+m))).size=aW:=by simp only[Nq,fP,lL,BJ,Mu,ke];omega
 have yt:=μ.made (w:=w.drew) (e:=e) (sz:=1) (n:=i+m) (c:=aW) (cur:=xs.toArray++(Builtin.zeroCells #[v] m).toList.toArray++Builtin.zeroCells #[v] (aW-(i+m))) (fr:=(0,0)) FU (by rw[eV];omega) (xT.zero _);have yv:(xs.toArray++(Builtin.zeroCells #[v] m).toList.toArray++Builtin.zeroCells #[v] (aW-(i+m))).toList.take ((i+m)*1)=xs++(Builtin.zeroCells #[v] m).toList:=by
  have hB:(xs.toArray++(Builtin.zeroCells #[v] m).toList.toArray++Builtin.zeroCells #[v] (aW-(i+m))).toList=(xs++(Builtin.zeroCells #[v] m).toList)++(Builtin.zeroCells #[v] (aW-(i+m))).toList:=by simp
  rw[hB,qj (by simp[ke,Mu]),hR (by simp[ke,Mu])]
 rw[yv]at yt;exact K aW _ _ (by simp[Mu]) ((η.drew w).trans (η.alloc _ _)) yt
theorem anW{P:Program}{g:FuncId}{fn:Func}{t r e:TypeId}(bm:P.funcs[g]?=some fn)(Mb:(fn.name== "runtime.NumGoroutine")=false)(τ:fn.body.isNone=true)(ar:Extern.findNext fn=none)
  (he:Extern.find fn=some (Extern.SlicesOverlaps.overlaps #[t,t] #[r]))(aS:P.underlying t=some (.slice e)){size:Nat}(aI:∀w,(Go.sizeOf e).run P w=.ok size w)
  {w:World}{AN:Nat}{v:Value}{ag5 tb:TypeId}{cur:aj}{fr:Nat×Nat}{b o:Nat}(az:w.heap[AN]?=some (.cells #[v] ag5))(hw:w.heap[b]?=some (.cells cur tb fr))(VA:cur.size≠0)(b1:AN≠b){WT gX lb js:Nat}
  {N:Value->al}(h:N (.bool false) w):UK P g #[.slice (some ⟨AN,0,none⟩) WT gX,.slice (some ⟨b,o,none⟩) lb js] w N:=by
 refine⟨.bool false,w,?_,h⟩;rw[run_callFunc_extern bm Mb τ ar he];rw[Lib.run_overlaps_apart w t r e aS size aI ⟨AN,0,none⟩ ⟨b,o,none⟩ WT gX lb js b1 ag5 tb 1 cur.size (by simp[World.shape?,az]) (by simp[World.shape?,hw]) VA (by simp[World.frozen?,az]) (by simp[World.frozen?,az])];rfl
end Go.bJ
namespace Go.Proofs.YtcpdfhkhaekekaaGreat.G
open Go.bJ Go.RowKit
abbrev lS:=BitVec 32
def afD:lS:=79764919#32
def agO(r:lS):lS:=(r<<<1)^^^(if r.msb then afD else 0#32)
def NS:Nat->lS->lS
 |0,r=>r
 |k+1,r=>agO (NS k r)
def TM(x:Int):lS:=BitVec.ofInt 32 x<<<24
def Nx(r:lS)(xs:aq):lS:=xs.foldl (λr x=>NS 8 (r^^^TM x)) r
def more(s:lS)(xs:aq):lS:= ~~~(Nx (~~~s) xs)
def u(r:lS):Int:=(r.toNat:Int)
theorem SC(r:lS):0<=u r/\u r<4294967296:=by
 have:=r.isLt
 unfold u;omega
theorem Xp(r:lS):BitVec.ofInt 32 (u r)=r:=by simp[u]
theorem ax3{x:Int}(aF:0<=x)(h1:x<4294967296):u (BitVec.ofInt 32 x)=x:=by unfold u;rw[BitVec.toNat_ofInt];omega
theorem amf:IntKind.u32.bits=32:=rfl
theorem wrap32(n:Int):IntKind.u32.wrap n=n%4294967296:=by simp[IntKind.wrap,IntKind.signed,IntKind.bits]
theorem ajB(r:lS):IntKind.u32.wrap (u r)=u r:=by
 rw[wrap32]
 have:=SC r
 omega
theorem ajI(r s:lS):IntKind.u32.wrap ((BitVec.ofInt IntKind.u32.bits (u r)^^^BitVec.ofInt IntKind.u32.bits (u s)).toNat:Int)=u (r^^^s):=by show IntKind.u32.wrap ((BitVec.ofInt 32 (u r)^^^BitVec.ofInt 32 (u s)).toNat:Int)=_;rw[Xp,Xp];exact ajB _
theorem aeF(r:lS):IntKind.u32.wrap ((BitVec.ofInt IntKind.u32.bits (if IntKind.u32.signed then-1 else IntKind.u32.max)^^^BitVec.ofInt IntKind.u32.bits (u r)).toNat:Int)=u (~~~r):=by
 have e:BitVec.ofInt 32 (if IntKind.u32.signed then-1 else IntKind.u32.max)=BitVec.allOnes 32:=by decide
 show IntKind.u32.wrap ((BitVec.ofInt 32 (if IntKind.u32.signed then-1 else IntKind.u32.max)^^^BitVec.ofInt 32 (u r)).toNat:Int)=_;rw[e,Xp,BitVec.allOnes_xor];exact ajB _
theorem agr(r:lS)(k:Nat)(hk:k<=32):IntKind.u32.wrap (u r*2^(min k IntKind.u32.bits))=u (r<<<k):=by rw[amf,sr hk,wrap32];unfold u;rw[BitVec.toNat_shiftLeft,Nat.shiftLeft_eq];simp
theorem axJ(r:lS):Int.fdiv (u r) (2^(min 31 IntKind.u32.bits))=if r.msb then 1 else 0:=by
 show Int.fdiv (u r) 2147483648=_;rw[JN _ (by omega)];have h:=r.msb_eq_decide;have h1:=SC r;rw[h];unfold u at*;by_cases J:2147483648<=r.toNat
 ·rw[aN (by simpa using J)];omega
 ·rw[aL (by simpa using J)];omega
theorem atZ(r:lS):IntKind.u32.wrap (79764919*Int.fdiv (u r) (2^(min 31 IntKind.u32.bits)))=u (if r.msb then afD else 0#32):=by rw[axJ];cases r.msb<;>decide
theorem avF(r:lS):IntKind.u32.wrap ((BitVec.ofInt IntKind.u32.bits (IntKind.u32.wrap (u r*2^(min 1 IntKind.u32.bits)))^^^BitVec.ofInt IntKind.u32.bits (IntKind.u32.wrap (79764919*Int.fdiv (u r) (2^(min 31 IntKind.u32.bits))))).toNat:Int)=u (agO r):=by rw[agr r 1 (by omega),atZ,ajI];rfl
theorem Kb(r:lS)(w:World):uP.C (u r) w (ω λv w'=>v=.int .u32 (u (NS 8 r))/\η w w'):=by
 apply uP.ok;unfold uP.main uP.bb;refine⟨λx i ε=>∃j:Nat,i=j/\j<=8/\x=u (NS j r)/\w=ε,λ_ i _=>(8-i).toNat,⟨0,rfl,by omega,rfl,rfl⟩,?_⟩;rintro _ _ ε ⟨j,rfl,ψ,rfl,rfl⟩;unfold uP.δ;by_cases bQ:(j:Int)<8
 ·rw[vv bQ,avF,bS (by omega) (by omega)];exact⟨⟨j+1,by omega,by omega,rfl,rfl⟩,by((try dsimp only);omega)⟩
 ·rw[jl bQ];obtain rfl:j=8:=by omega
  exact ω.mk ⟨rfl,η.refl w⟩
theorem amj{x:Int}(aF:0<=x)(h1:x<256):IntKind.u32.wrap (IntKind.u32.wrap x*2^(min 24 IntKind.u32.bits))=u (TM x):=by
 have e:IntKind.u32.wrap x=u (BitVec.ofInt 32 x):=by rw[wrap32,ax3 aF (by omega)];omega
 rw[e,agr _ 24 (by omega)];rfl
theorem auz(r:lS)(xs:aq)(x:Int):Nx r (xs++[x])=NS 8 (Nx r xs^^^TM x):=by simp[Nx]
theorem avY{α:Type}{l:List α}{j:Nat}(ψ:j<l.length):l.take (j+1)=l.take j++[l[j]]:=mb ψ
theorem Jq{w:World}{k:IntKind}{p:γ}{xs:aq}(π:bd w p (xs.map (Value.int k))){j:Nat}(ψ:j<xs.length):∃a,p=some a/\w.cell? (a.add j)=some (.int k xs[j]):=by
 cases p with
 |none=>have:xs.map (Value.int k)=[]:=π;simp at this;subst this;simp at ψ
 |some a=>exact⟨a,rfl,π j _ (by simp[ψ])⟩
def a7(xs:aq):aY:=xs.map (.int .u8)
theorem akC(s:lS)(p:γ)(n c:Nat)(xs:aq)(w:World)(π:bd w p (a7 xs))(ar:xs.length=n)(ak:n<=9223372036854775806)(τ:∀x∈xs,0<=x/\x<256):
  uO.C (u s) p n c w (ω λv w'=>v=.int .u32 (u (more s xs))/\η w w'):=by
 apply uO.ok;unfold uO.main uO.bb;rw[aeF];refine⟨λx ae aD c1 t i ε=>p=ae/\n=aD/\c=c1/\(n:Int)=t/\∃j:Nat,i=j/\j<=n/\x=u (Nx (~~~s) (xs.take j))/\η w ε,λ_ _ _ _ _ i _=>(n-i).toNat,⟨rfl,rfl,rfl,rfl,0,rfl,by omega,rfl,η.refl w⟩,?_⟩;rintro _ _ _ _ _ _ ε ⟨rfl,rfl,rfl,rfl,j,rfl,ψ,rfl,h1⟩;unfold uO.δ;by_cases bQ:(j:Int)<n
 ·rw[vv bQ];have pb:j<xs.length:=by omega
  obtain⟨aw,BD,kq⟩:=Jq (π.ex h1) pb;refine aT (by omega) (aT bQ (hh BD ?_));refine⟨xs[j],by simpa using kq,?_⟩;obtain⟨r7,δ⟩:=τ xs[j] (hP _);rw[amj r7 δ,ajI];refine κ.use (Kb _ ε) ?_;rintro _ υ ⟨rfl,ι⟩
  try dsimp only[Pw]
  rw[bS (by omega) (by omega)];refine⟨⟨rfl,rfl,rfl,rfl,j+1,by omega,by omega,?_,h1.trans ι⟩,by((try dsimp only);omega)⟩;rw[avY pb,auz]
 ·rw[jl bQ,aeF]
  have:j=xs.length:=by omega
  subst this;rw[Cb];exact ω.mk ⟨rfl,h1⟩
theorem Z2(p:γ)(n c:Nat)(xs:aq)(w:World)(π:bd w p (a7 xs))(ar:xs.length=n)(ak:n<=9223372036854775806)(τ:∀x∈xs,0<=x/\x<256):
  Hq.C p n c w (ω λv w'=>v=.int .u32 (u (more 0#32 xs))/\η w w'):=by
 apply Hq.ok;unfold Hq.main;refine κ.use (akC 0#32 p n c xs w π ar ak τ) ?_;rintro _ ε ⟨rfl,h1⟩
 try dsimp only[Pw]
 exact ω.mk ⟨rfl,h1⟩
def Bytes(xs:aq):Prop:=∀x∈xs,0<=x/\x<256
theorem Bytes.append{xs ys:aq}(h:Bytes xs)(k:Bytes ys):Bytes (xs++ys):=λx J=>(iC.1 J).elim (h x) (k x)
theorem Bytes.lQ(n:Nat):Bytes (List.replicate n 0):=λx J=>by rw[(List.mem_replicate.1 J).2];omega
theorem Bytes.take{xs:aq}(h:Bytes xs)(n:Nat):Bytes (xs.take n):=λx J=>h x (xy J)
theorem Bytes.drop{xs:aq}(h:Bytes xs)(n:Nat):Bytes (xs.drop n):=λx J=>h x (JO J)
def pad(xs:aq):aq:=xs++List.replicate (60-xs.length) 0
def NT(r:lS):aq:=[u r/16777216%256,u r/65536%256,u r/256%256,u r%256]
def lk(xs:aq):aq:=pad xs++NT (more 0#32 (pad xs))
def K2(xs:aq):Int:=if 60<xs.length then 6 else 0
def vu(xs:aq):aq:=if 60<xs.length then[]else lk xs
def oK(xs:aq):Int:=if xs.length=64 then(if vu (xs.take 60)=xs then 0 else 2)else 6
def yQ(xs:aq):aq:=if xs.length=64 then(if vu (xs.take 60)=xs then xs.take 60 else[])else[]
theorem M1{xs:aq}(h:xs.length<=60):(pad xs).length=60:=by simp[pad];omega
theorem avK(r:lS):Bytes (NT r):=by intro x J;simp only[NT,fB,oi,py]at J;rcases J with rfl|rfl|rfl|rfl<;>exact⟨Nt _ (by omega),Nj _ (by omega)⟩
theorem afr{xs:aq}(h:Bytes xs):Bytes (pad xs):=h.append (Bytes.lQ _)
theorem J6{xs:aq}(h:Bytes xs):Bytes (lk xs):=(afr h).append (avK _)
theorem amB{xs:aq}(h:Bytes xs):Bytes (vu xs):=by
 unfold vu;split
 ·intro x J;cases J
 ·exact J6 h
theorem avL(r:lS):[Value.int .u8 (IntKind.u8.wrap (Int.fdiv (u r) (2^(min 24 IntKind.u32.bits)))),Value.int .u8 (IntKind.u8.wrap (Int.fdiv (u r) (2^(min 16 IntKind.u32.bits)))),Value.int .u8 (IntKind.u8.wrap (Int.fdiv (u r) (2^(min 8 IntKind.u32.bits)))),Value.int .u8 (IntKind.u8.wrap (u r))]=a7 (NT r):=by
 have aP:(2:Int)^(min 24 IntKind.u32.bits)=16777216:=by decide
 have bM:(2:Int)^(min 16 IntKind.u32.bits)=65536:=by decide
 have gA:(2:Int)^(min 8 IntKind.u32.bits)=256:=by decide
 rw[aP,bM,gA,tJ,tJ,tJ,tJ,JN _ (by omega),JN _ (by omega),JN _ (by omega)];rfl
theorem Ec(xs:aq):∀y∈a7 xs,y.oneCell'=true:=Kr _ _
theorem Kq(xs ys:aq):a7 xs++a7 ys=a7 (xs++ys):=by simp[a7]
theorem sC(xs:aq):(a7 xs).length=xs.length:=by simp[a7]
theorem Pn(p:γ)(n c:Nat)(xs:aq)(w:World)(π:bd w p (a7 xs))(ar:xs.length=n)(ak:n<=140737488355328):
  zB.C p n c w (ω λv w'=>∃b5 aW,v=.slice b5 n aW/\μ w' w.heap.size dt 1 b5 n aW (a7 xs)/\η w w'):=by
 apply zB.ok;unfold zB.main;refine bt (λh=>?_) (λh=>?_)
 ·cases p with
  |none=>
   have e:xs=[]:=by have:a7 xs=[]:=π;simpa[a7]using this
   subst e;obtain rfl:n=0:=by simpa using ar.symm
   exact ω.mk ⟨none,0,rfl,μ.nil _ _ _ _,η.refl w⟩
  |some a=>cases h
 ·rintro b ε rfl rfl;refine mx (B:=w.heap.size) (μ.alloc (w:=w) [] 5 1 0 rfl) (η.alloc w _).size (a7 xs) (π.ex (η.alloc w _)) (by rw[sC];omega) (Ec _) rfl (by omega) (by omega) ?_;intro aX c2 υ l3 oD;have hex:η w υ:=Kp.trans (η.alloc w _) oD (λ_ _ h=>h) (λi I⟨a,aR,IU⟩=>by cases aR;dsimp only at IU;omega);rw[oh]at l3;rw[oh];exact ω.mk ⟨aX,c2,rfl,l3,hex⟩
theorem Zw(p:γ)(n c:Nat)(q:γ)(m d:Nat)(xs ys:aq)(w:World)(π:bd w p (a7 xs))(ar:xs.length=n)(ah:bd w q (a7 ys))(hm:ys.length=m)(τ:Bytes xs)(h2:Bytes ys):
  EZ.C p n c q m d w (ω λv w'=>v=.bool (decide (xs=ys))/\η w w'):=by
 apply EZ.ok;unfold EZ.main;refine⟨xs,ar,π,ys,hm,ah,ω.mk ⟨?_,η.refl w⟩⟩;rw[agP τ h2]
theorem S3(p:γ)(n c:Nat)(xs:aq)(w:World)(π:bd w p (a7 xs))(ar:xs.length=n)(τ:Bytes xs):
  Ho.C p n c w (ω λv w'=>∃b5 fG aW,v=.tuple #[.slice b5 fG aW,.int .i64 (K2 xs)]/\fG<=64/\μ w' w.heap.size dt 1 b5 fG aW (a7 (vu xs))/\η w w'):=by
 apply Ho.ok;unfold Ho.main;by_cases zM:(n:Int)>60
 ·rw[vv zM];have e:60<xs.length:=by omega
  refine ω.mk ⟨none,0,0,by rw[K2,aN e],by omega,?_,η.refl w⟩;rw[vu,aN e];exact μ.nil _ _ _ _
 ·rw[jl zM];have e:¬60<xs.length:=by omega
  rintro b ε rfl rfl;rw[ash];have mT:μ (w.alloc (.cells ((List.replicate (64*1) (0:Int)).map (Value.int .u8)).toArray 5)) w.heap.size dt 1 (some ⟨w.heap.size,0,none⟩) 60 64 (a7 (List.replicate 60 0)):=by
   have:=μ.made (w:=w) (e:=dt) (sz:=1) (n:=60) (c:=64) (cur:=((List.replicate (64*1) (0:Int)).map (Value.int .u8)).toArray) (fr:=(0,0)) (by omega) (by simp) (xT.zero _)
   have bM:((List.replicate (64*1) (0:Int)).map (Value.int .u8)).toArray.toList.take (60*1)=a7 (List.replicate 60 0):=by rw[List.toList_toArray,<-xA,RF];rfl
   rw[bM]at this;exact this
  refine amL mT (π.ex (η.alloc w _)) (by rw[sC];exact ar) (by omega) (Ec _) ?_;intro υ l3 oD;have gA:a7 xs++(a7 (List.replicate 60 0)).drop n=a7 (pad xs):=by rw[a7,a7,<-yX,List.drop_replicate,<-ss,pad,ar];rfl
  rw[gA]at l3;have ι:η w υ:=Kp.trans (η.alloc w _) oD (λ_ _ h=>h) (λi I⟨a,aR,IU⟩=>by cases aR;dsimp only at IU;omega);refine κ.use (Z2 _ 60 64 (pad xs) υ l3.cells (M1 (by omega)) (by omega) (afr τ)) ?_;rintro _ χ ⟨rfl,aJ⟩
  try dsimp only[Pw]
  rintro ζ ao rfl rfl;have ab:=avL (more 0#32 (pad xs));have cK:η υ (χ.alloc (.cells #[Value.int .u8 (IntKind.u8.wrap (Int.fdiv (u (more 0#32 (pad xs))) (2^(min 24 IntKind.u32.bits)))),Value.int .u8 (IntKind.u8.wrap (Int.fdiv (u (more 0#32 (pad xs))) (2^(min 16 IntKind.u32.bits)))),Value.int .u8 (IntKind.u8.wrap (Int.fdiv (u (more 0#32 (pad xs))) (2^(min 8 IntKind.u32.bits)))),Value.int .u8 (IntKind.u8.wrap (u (more 0#32 (pad xs))))] 5)):=aJ.trans (η.alloc _ _);refine mx (B:=w.heap.size) (l3.ex cK) (ι.trans cK).size (a7 (NT (more 0#32 (pad xs)))) ?_ (by rw[sC];rfl) (Ec _) rfl (by omega) (by omega) ?_
  ·rw[<-ab];exact bd.alloc _ _
  intro gp jk an Mc zX;have dx:η w an:=Kp.trans (ι.trans cK) zX (λ_ _ h=>h) (λi I⟨a,aR,IU⟩=>by cases aR;dsimp only at IU;omega);refine ω.mk ⟨gp,60+4,jk,by rw[K2,aL e],by omega,?_,dx⟩;rw[vu,aL e,lk,<-Kq];exact Mc
theorem Am{xs:aq}{p:γ}{n c:Nat}{w:World}{B:Nat}{e:TypeId}(h:μ w B e 1 p n c (a7 xs)):xs.length=n:=by
 have:=h.1
 rw[sC,eS]at this;exact this
theorem KJ(p:γ)(n c:Nat)(xs:aq)(w:World)(π:bd w p (a7 xs))(ar:xs.length=n)(jG:n<=c)(τ:Bytes xs):
  Hp.C p n c w (ω λv w'=>∃b5 fG aW,v=.tuple #[.slice b5 fG aW,.int .i64 (oK xs)]/\fG<=60/\μ w' w.heap.size dt 1 b5 fG aW (a7 (yQ xs))/\η w w'):=by
 apply Hp.ok;unfold Hp.main;by_cases jW:n=64
 ·subst jW;rw[cond_neg (by decide)];have jY:bd w (dL p c 0 1) (a7 (xs.take 60)):=by
   have:=bd.slice π c 0 60 (by rw[sC];omega)
   rw[RA,a7,<-xA]at this;exact this
  refine aT (by omega) ?_;refine κ.use (S3 _ 60 c (xs.take 60) w jY (by simp;omega) (τ.take 60)) ?_;rintro _ ε ⟨ae,aD,c1,rfl,se,mT,h1⟩
  try dsimp only[ca,cT,cU,bo,bL,ee]
  refine κ.use (Zw ae aD c1 p 64 c _ xs ε mT.cells (Am mT) (π.ex h1) ar (amB (τ.take 60)) τ) ?_;rintro _ υ ⟨rfl,ι⟩
  try dsimp only[dX]
  by_cases he:vu (xs.take 60)=xs
  ·rw[cond_neg (by simp[he])];refine aT (by omega) ?_;refine κ.use (Pn _ 60 c (xs.take 60) υ (jY.ex (h1.trans ι)) (by simp;omega) (by omega)) ?_;rintro _ χ ⟨bj,bP,rfl,xa,aJ⟩
   try dsimp only[ee]
   refine ω.mk ⟨bj,60,bP,by rw[oK,aN ar,aN he],by omega,?_,(h1.trans ι).trans aJ⟩;rw[yQ,aN ar,aN he];exact xa.lower (h1.trans ι).size
  ·rw[cond_pos (by simp[he])];refine ω.mk ⟨none,0,0,by rw[oK,aN ar,aL he],by omega,?_,h1.trans ι⟩;rw[yQ,aN ar,aL he];exact μ.nil _ _ _ _
 ·rw[cond_pos (by simp;omega)];have acw:¬xs.length=64:=by omega
  refine ω.mk ⟨none,0,0,by rw[oK,aL acw],by omega,?_,η.refl w⟩;rw[yQ,aL acw];exact μ.nil _ _ _ _
theorem y5{xs:aq}(h:xs.length<=60):(lk xs).length=64:=by simp only[lk,fw,M1 h];rfl
theorem RT{xs:aq}(h:xs.length<=60):(lk xs).take 60=pad xs:=by rw[lk,List.take_left' (M1 h)]
theorem aty{xs:aq}(h:xs.length<=60):pad (pad xs)=pad xs:=by have e:pad (pad xs)=pad xs++List.replicate (60-(pad xs).length) 0:=rfl;rw[e,M1 h];simp
theorem TW{xs:aq}(h:xs.length<=60):vu xs=lk xs:=by rw[vu,aL (by omega)]
theorem abm{xs:aq}(h:xs.length<=60):vu ((lk xs).take 60)=lk xs:=by have h1:=M1 h;rw[RT h,TW (by omega),lk,aty h];rfl
theorem afd{xs:aq}(h:xs.length<=60):oK (lk xs)=0/\yQ (lk xs)=pad xs:=by rw[oK,yQ,aN (y5 h),aN (y5 h),aN (abm h),aN (abm h),RT h];exact⟨rfl,rfl⟩
end Go.Proofs.YtcpdfhkhaekekaaGreat.G
namespace Go.Proofs.YtcpdfhkhaekekaaGreat.G.bB
open Go.bJ Go.RowKit
def be:Nat->Int->aq
 |0,_=>[]
 |k+1,n=>(n/256^k)%256::be k n
theorem tV:∀(k:Nat)(n:Int),(be k n).length=k
 |0,_=>rfl
 |k+1,n=>by simp[be,tV k n]
theorem CU:∀(k:Nat)(n:Int),∀x∈be k n,0<=x/\x<256
 |0,_,x,h=>by simp[be]at h
 |k+1,n,x,h=>by
  simp only[be,fB]at h;rcases h with rfl|h
  ·omega
  ·exact CU k n x h
abbrev a7(xs:aq):aY:=xs.map (Value.int .u8)
def pt(s:Nat)(x:Int):Bool:=decide (0<=x)&&decide (x<256^s)
theorem Yo(n:Int)(w:World):E2.C n w (ω λv w'=>v=.bool (decide (1<=n)&&decide (n<=4))/\η w w'):=by
 apply E2.ok;unfold E2.main;refine bt (λh=>?_) (λh=>?_)
 ·refine ω.mk ⟨?_,η.refl w⟩;have h:1<=n:=b6 h;simp[h]
 ·refine ω.mk ⟨?_,η.refl w⟩;have h:¬1<=n:=dn h;simp[h]
theorem fdiv_pow{n:Int}(aF:0<=n){k:Int}{j:Nat}(hk:k=j)(ψ:j<=4):Int.fdiv n (2^(min (IntKind.i64.wrap (8*k)).toNat IntKind.i64.bits))=n/256^j:=by
 subst hk;have aP:IntKind.i64.wrap (8*(j:Int))=8*j:=bS (by omega) (by omega);rw[aP];have bM:min (8*(j:Int)).toNat IntKind.i64.bits=8*j:=by show min (8*(j:Int)).toNat 64=8*j;omega
 rw[bM,JN _ (by have:(0:Int)<2^(8*j):=Int.pow_pos (by omega)
                omega)]
 congr 1;rw[Int.pow_mul];rfl
theorem aby{x m:Int}(aF:0<=x)(hm:0<m):x/m=0↔x<m:=by
 constructor
 ·intro h
  have:=Int.mul_ediv_add_emod x m
  have:=Nj x hm
  rw[h]at*;omega
 ·intro h;exact Nk aF h
theorem DL(B:Nat)(p:γ)(n c:Nat)(xs:aq)(s:Nat)(x:Int)(w:World)(aG:μ w B dt 1 p n c (a7 xs))(eh:B<=w.heap.size)(h1:1<=s)(cK:s<=4)(ak:n<=140737488351232):
  vt.C p n c s x w (ω λv w'=>∃b5 fG aW,v=.tuple #[.slice b5 fG aW,.int .i64 (if pt s x then 0 else 5)]/\fG<=n+4/\μ w' B dt 1 b5 fG aW (a7 (if pt s x then xs++be s x else[]))/\Kp w w' (λi=>B<=i)):=by
 apply vt.ok;unfold vt.main;by_cases td:x<0
 ·rw[vv td]
  have:pt s x=false:=by simp[pt];omega
  rw[this];exact ω.mk ⟨none,0,0,rfl,by omega,μ.nil _ _ _ _,Kp.refl _ _⟩
 ·rw[jl td];have aP:IntKind.i64.wrap (8*(s:Int))=8*s:=bS (by omega) (by omega);refine aT (by rw[aP];omega) ?_;rw[fdiv_pow (by omega) (j:=s) rfl cK];have hp:(0:Int)<256^s:=Int.pow_pos (by omega);by_cases J:x<256^s
  ·have aI:x/256^s=0:=(aby (by omega) hp).2 J;have dJ:pt s x=true:=by simp[pt];exact⟨by omega,J⟩
   rw[cond_neg (by simp[aI]),dJ,bS (by omega) (by omega)];refine⟨λae aD c1 θ aV ε=>θ=x/\-1<=aV/\aV<s/\∃ys,ys++be (aV+1).toNat x=xs++be s x/\aD+(aV+1).toNat=n+s/\μ ε B dt 1 ae aD c1 (a7 ys)/\Kp w ε (λi=>B<=i),λ_ _ _ _ aV _=>(aV+1).toNat,
    ⟨rfl,by omega,by omega,xs,by rw[show((s:Int)-1+1).toNat=s by omega],by omega,aG,Kp.refl _ _⟩,?_⟩
   rintro ae aD c1 θ aV ε ⟨rfl,I4,pZ,ys,Gj,se,mT,pe⟩;unfold vt.δ;by_cases hk:aV>=0
   ·rw[vv hk];obtain⟨j,rfl⟩:∃j:Nat,aV=j:=⟨aV.toNat,by omega⟩;have bM:IntKind.i64.wrap (8*(j:Int))=8*j:=bS (by omega) (by omega);refine aT (by rw[bM];omega) ?_;rw[fdiv_pow (by omega) (j:=j) rfl (by omega),tJ];intro δ υ τ hw;subst τ hw;refine mx (B:=B) (mT.ex (η.alloc ε _)) (gE (gE eh pe.size) (η.alloc ε _).size) [Value.int .u8 (θ/256^j%256)] (bd.alloc _ _) rfl (by simp[Value.oneCell']) rfl (by omega) (by omega) ?_;intro b5 aW w' l3 oD;rw[bS (by omega) (by omega)];refine⟨⟨rfl,by omega,by omega,ys++[θ/256^j%256],?_,by omega,by simpa[a7]using l3,?_⟩,by((try dsimp only);omega)⟩
    ·rw[<-Gj,nc];congr 1;rw[show((j:Int)-1+1).toNat=j by omega,show((j:Int)+1).toNat=j+1 by omega];rfl
    ·refine(pe.trans (η.alloc ε _) (λ_ _ h=>h) (λ_ _ h=>h.elim)).trans oD (λ_ _ h=>h) ?_;rintro i I ⟨a,aR,rfl⟩;exact(mT.ge aR).1
   ·rw[jl hk]
    have:(aV+1).toNat=0:=by omega
    rw[this]at Gj;simp only[be,qi]at Gj;subst Gj;exact ω.mk ⟨ae,aD,c1,rfl,by omega,mT,pe⟩
  ·have aI:x/256^s≠0:=λh=>J ((aby (by omega) hp).1 h);have dJ:pt s x=false:=by simp[pt];intro _;omega
   rw[cond_pos (by simpa using aI),dJ];exact ω.mk ⟨none,0,0,rfl,by omega,μ.nil _ _ _ _,Kp.refl _ _⟩
theorem XP{i j:Nat}(h:i<=j):(256:Int)^i<=256^j:=by
 have:=Nat.pow_le_pow_right (n:=256) (by omega) h
 rw[show(256:Int)=((256:Nat):Int)from rfl,<-Int.natCast_pow,<-Int.natCast_pow];exact Int.ofNat_le.2 this
theorem at0{j:Nat}(h:j<=4):(0:Int)<256^j/\(256:Int)^j<=4294967296:=
 ⟨Int.pow_pos (by omega),by have:(256:Int)^j<=256^4:=XP h
                            have cK:(256:Int)^4=4294967296:=by decide
                            omega⟩
def num(l:aq):Int:=l.foldl (λa x=>a*256+x) 0
theorem aeJ(l:aq)(x:Int):num (l++[x])=num l*256+x:=by simp[num]
theorem avt{α:Type}{p:List α->Prop}(aF:p [])(h1:∀l x,p l->p (l++[x])):∀l,p l:=λl=>by
 have key:∀r:List α,p r.reverse:=by
  intro r
  induction r with
  |nil=>exact aF
  |cons x r cw=>rw[List.reverse_cons];exact h1 _ _ cw
 have:=key l.reverse
 rwa[List.reverse_reverse]at this
theorem QW:∀(l:aq),(∀x∈l,0<=x/\x<256)->0<=num l/\num l<256^l.length:=by refine avt (λ_=>by simp[num]) λl x cw h=>?_;obtain⟨aF,h1⟩:=cw λy ag=>h y (by simp[ag]);obtain⟨td,Dt⟩:=h x (by simp);rw[aeJ,fw,Ca,Int.pow_succ];omega
theorem Xv{a x:Int}(aF:0<=a)(h1:a<4294967296)(td:0<=x)(Dt:x<256):
  IntKind.i64.wrap (BitVec.ofInt IntKind.i64.bits (IntKind.i64.wrap (a*2^(min 8 IntKind.i64.bits)))|||BitVec.ofInt IntKind.i64.bits (IntKind.i64.wrap x)).toNat=a*256+x:=by
 have aP:a*2^(min 8 IntKind.i64.bits)=a*256:=rfl;rw[aP,bS (x:=a*256) (by omega) (by omega),bS (x:=x) (by omega) (by omega)];obtain⟨a,rfl⟩:=eF aF;obtain⟨x,rfl⟩:=eF td;have bM:(BitVec.ofInt IntKind.i64.bits ((a:Int)*256)|||BitVec.ofInt IntKind.i64.bits (x:Int)).toNat=a*256+x:=by
  rw[BitVec.toNat_or,show((a:Int)*256)=((a*256:Nat):Int)by simp,BitVec.ofInt_natCast,BitVec.ofInt_natCast,BitVec.toNat_ofNat,BitVec.toNat_ofNat];show a*256%2^64|||x%2^64=_
  rw[Nl (by omega),Nl (by omega)]
  have:=Nat.shiftLeft_add_eq_or_of_lt (i:=8) (b:=x) (by omega) a
  rw[Nat.shiftLeft_eq]at this;exact this.symm
 rw[bM,bS (by omega) (by omega)];omega
theorem bd.Jq{w:World}{k:IntKind}{p:γ}{xs:aq}(π:bd w p (xs.map (Value.int k))){j:Nat}(ψ:j<xs.length):∃a,p=some a/\w.cell? (a.add j)=some (.int k xs[j]):=by
 cases p with
 |none=>have:xs.map (Value.int k)=[]:=π;simp at this;subst this;simp at ψ
 |some a=>exact⟨a,rfl,π j _ (by simp[ψ])⟩
theorem aco(p:γ)(n c:Nat)(xs:aq)(w:World)(π:bd w p (a7 xs))(ar:xs.length=n)(cK:n<=4)(τ:∀x∈xs,0<=x/\x<256):
  vr.C p n c w (ω λv w'=>v=.int .i64 (num xs)/\η w w'):=by
 apply vr.ok;unfold vr.main;refine⟨λa ae aD c1 t i ε=>p=ae/\n=aD/\c=c1/\(n:Int)=t/\∃j:Nat,i=j/\j<=n/\num (xs.take j)=a/\w=ε,λ_ _ _ _ _ i _=>(n-i).toNat,⟨rfl,rfl,rfl,rfl,0,rfl,by omega,rfl,rfl⟩,?_⟩;rintro a _ _ _ _ i ε ⟨rfl,rfl,rfl,rfl,j,rfl,ψ,rfl,rfl⟩;unfold vr.δ;by_cases h:(j:Int)<n
 ·rw[vv h];obtain⟨aw,BD,kq⟩:=bd.Jq π (j:=j) (by omega);refine aT (by omega) (aT h (hh BD ?_));have bQ:j<xs.length:=by omega
  refine⟨xs[j],by simpa using kq,?_⟩;obtain⟨aF,h1⟩:=QW (xs.take j) λx J=>τ x (xy J);have hle:(256:Int)^(xs.take j).length<=4294967296:=(at0 (by simp;omega)).2;obtain⟨td,Dt⟩:=τ xs[j] (hP _);rw[Xv aF (by omega) td Dt,bS (by omega) (by omega)];refine⟨⟨rfl,rfl,rfl,rfl,j+1,by omega,by omega,?_,rfl⟩,by((try dsimp only);omega)⟩;rw[mb bQ,aeJ]
 ·rw[jl h]
  have:j=n:=by omega
  subst this;rw[hR (by omega)];exact ω.mk ⟨rfl,η.refl _⟩
def pU(n:Nat)(at_ s:Int):Int:=if decide (1<=s)&&decide (s<=4)then(if decide (0<=at_)&&decide (at_+s<=n)then 0 else 3)else 1
def zJ(xs:aq)(at_ s:Int):Int:=if decide (1<=s)&&decide (s<=4)then(if decide (0<=at_)&&decide (at_+s<=xs.length)then num ((xs.drop at_.toNat).take s.toNat)else 0)else 0
theorem aoo{s:Int}(h:s<1\/4<s)(xs:aq)(n:Nat)(at_:Int):zJ xs at_ s=0/\pU n at_ s=1:=by
 have:(decide (1<=s)&&decide (s<=4))=false:=by simp;omega
 simp[zJ,pU,this]
theorem acn{s at_:Int}(h1:1<=s)(cK:s<=4){xs:aq}{n:Nat}(ar:xs.length=n)(h:at_<0\/(n:Int)<at_+s):zJ xs at_ s=0/\pU n at_ s=3:=by
 have aP:(decide (1<=s)&&decide (s<=4))=true:=by simp;omega
 have bM:(decide (0<=at_)&&decide (at_+s<=(n:Int)))=false:=by simp;omega
 simp[zJ,pU,aP,ar,bM]
theorem U1{s at_:Int}(h1:1<=s)(cK:s<=4){xs:aq}{n:Nat}(ar:xs.length=n)(aF:0<=at_)(h:at_+s<=n):zJ xs at_ s=num ((xs.drop at_.toNat).take s.toNat)/\pU n at_ s=0:=by
 have aP:(decide (1<=s)&&decide (s<=4))=true:=by simp;omega
 have bM:(decide (0<=at_)&&decide (at_+s<=(n:Int)))=true:=by simp;omega
 simp[zJ,pU,aP,ar,bM]
theorem zn(p:γ)(n c:Nat)(xs:aq)(at_ s:Int)(w:World)(π:bd w p (a7 xs))(ar:xs.length=n)(jG:n<=c)(ak:n<=140737488351232)(τ:∀x∈xs,0<=x/\x<256)
  (azg:-9223372036854775808<=at_)(aR:at_<=9223372036854775807):
  E1.C p n c at_ s w (ω λv w'=>v=.tuple #[.int .i64 (zJ xs at_ s),.int .i64 (pU n at_ s)]/\η w w'):=by
 apply E1.ok;unfold E1.main;refine κ.use (Yo s w) ?_;rintro _ ε ⟨rfl,h1⟩
 try dsimp only[dX]
 cases eV:(decide (1<=s)&&decide (s<=4))with
 |false=>
  simp only[v7,Ar,ts,xz];obtain⟨aP,bM⟩:=aoo (s:=s) (by simp at eV;omega) xs n at_;rw[aP,bM];exact ω.mk ⟨rfl,h1⟩
 |true=>
  simp only[v7,Ar,ts,xz];simp only[lf,qI]at eV;by_cases bQ:at_<0
  ·obtain⟨aP,bM⟩:=acn eV.1 eV.2 ar (.inl bQ);rw[vv bQ,aP,bM];exact ω.mk ⟨rfl,h1⟩
  rw[jl bQ];rw[bS (x:=(n:Int)-s) (by omega) (by omega)];by_cases ac9:at_>n-s
  ·obtain⟨aP,bM⟩:=acn eV.1 eV.2 ar (at_:=at_) (.inr (by omega));rw[vv ac9,aP,bM];exact ω.mk ⟨rfl,h1⟩
  obtain⟨aP,bM⟩:=U1 eV.1 eV.2 ar (at_:=at_) (by omega) (by omega);rw[jl ac9,aP,bM];rw[bS (x:=at_+s) (by omega) (by omega)];refine aT (by omega) (aT (by omega) (aT (by omega) (aT (by omega) ?_)));have n4:(at_+s).toNat-at_.toNat=s.toNat:=by omega
  rw[n4];have jY:bd ε (dL p c at_.toNat 1) (a7 ((xs.drop at_.toNat).take s.toNat)):=by
   have:=bd.slice (π.ex h1) c at_.toNat s.toNat (by simp;omega)
   simpa[a7,xA,yX]using this
  refine κ.use (aco _ s.toNat _ ((xs.drop at_.toNat).take s.toNat) ε jY (by simp;omega) (by omega) λx J=>τ x (JO (xy J))) ?_;rintro _ υ ⟨rfl,ι⟩
  try dsimp only[bL]
  exact ω.mk ⟨rfl,h1.trans ι⟩
def v64(l:aq):aY:=l.map (.int .i64)
def NB(s:Int)(l:aq):Int:=if decide (1<=s)&&decide (s<=4)then(if l.all (pt s.toNat)then 0 else 5)else 1
def qm(s:Int)(l:aq):aq:=if decide (1<=s)&&decide (s<=4)then(if l.all (pt s.toNat)then l.flatMap (be s.toNat)else[])else[]
theorem auM{s:Int}(h:s<1\/4<s)(l:aq):NB s l=1/\qm s l=[]:=by
 have:(decide (1<=s)&&decide (s<=4))=false:=by simp;omega
 simp[NB,qm,this]
theorem J4{k:Nat}(h1:1<=k)(cK:k<=4)(l:aq):NB k l=(if l.all (pt k)then 0 else 5)/\qm k l=(if l.all (pt k)then l.flatMap (be k)else[]):=by
 have:(decide (1<=(k:Int))&&decide ((k:Int)<=4))=true:=by simp;omega
 simp[NB,qm,this]
theorem auL(k:Nat)(l:aq):(l.flatMap (be k)).length=l.length*k:=by
 induction l with
 |nil=>simp
 |cons x r cw=>simp[As,tV,cw,mc];omega
theorem abO{w w':World}(h:Kp w w' λi=>w.heap.size<=i):η w w':=h.mono λi I τ=>by omega
theorem asL{l:aq}{j:Nat}(ψ:j<l.length){f:Int->Bool}(h:f l[j]=false):l.all f=false:=by rw[List.all_eq_false];exact⟨l[j],hP _,by simp[h]⟩
theorem alY{l:aq}{j:Nat}(ψ:j<l.length){f:Int->Bool}(h:f l[j]=true)(aR:(l.take j).all f=true):(l.take (j+1)).all f=true:=by rw[mb ψ,Nn,aR];simp[h]
theorem aod{l:aq}{j:Nat}(ψ:j<l.length)(f:Int->aq):(l.take (j+1)).flatMap f=(l.take j).flatMap f++f l[j]:=by rw[mb ψ,xB];simp[As]
theorem ZT(p:γ)(n c:Nat)(l:aq)(s:Int)(w:World)(π:bd w p (v64 l))(ar:l.length=n)(ak:n<=1048576):
  tW.C s p n c w (ω λv w'=>∃b5 fG aW,v=.tuple #[.slice b5 fG aW,.int .i64 (NB s l)]/\fG<=4*n/\μ w' w.heap.size dt 1 b5 fG aW (a7 (qm s l))/\η w w'):=by
 apply tW.ok;unfold tW.main;refine κ.use (Yo s w) ?_;rintro _ ε ⟨rfl,h1⟩
 try dsimp only[dX]
 by_cases ab:s<1\/4<s
 ·obtain⟨aP,bM⟩:=auM ab l;rw[cond_pos (by simp;omega),aP,bM];exact ω.mk ⟨none,0,0,rfl,by omega,μ.nil _ _ _ _,h1⟩
 ·obtain⟨k,rfl⟩:∃k:Nat,s=k:=⟨s.toNat,by omega⟩;have w9:1<=k:=by omega
  have vI:k<=4:=by omega
  obtain⟨aP,bM⟩:=J4 w9 vI l;rw[cond_neg (by simp;omega),aP,bM];unfold tW.bb;refine⟨λs1 q m d ae aD c1 t i υ=>(k:Int)=s1/\p=ae/\n=aD/\c=c1/\(n:Int)=t/\∃j:Nat,i=j/\j<=n/\(l.take j).all (pt k)=true/\m=j*k/\μ υ w.heap.size dt 1 q m d (a7 ((l.take j).flatMap (be k)))/\η w υ,
   λ_ _ _ _ _ _ _ _ i _=>(n-i).toNat,⟨rfl,rfl,rfl,rfl,rfl,0,rfl,by omega,by simp,by omega,by simpa using μ.nil _ _ _ _,h1⟩,?_⟩
  rintro _ q m d _ _ _ _ _ υ ⟨rfl,rfl,rfl,rfl,rfl,j,rfl,ψ,ew,rfl,aG,ι⟩;unfold tW.δ;by_cases bQ:(j:Int)<n
  ·have pb:j<l.length:=by omega
   rw[vv bQ];obtain⟨aw,BD,kq⟩:=bd.Jq (π.ex ι) pb;refine aT (by omega) (aT (by omega) (hh BD ?_));refine⟨l[j],by simpa using kq,?_⟩;have jW:j*k<=1048576*4:=Nat.mul_le_mul (by omega) vI;refine κ.use (DL w.heap.size q (j*k) d ((l.take j).flatMap (be k)) k l[j] υ aG ι.size w9 vI (by omega)) ?_;rintro _ χ ⟨qf,m',d',rfl,azF,xa,aJ⟩
   try dsimp only[ca,cT,cU,bo,bL,ee]
   have hex:η w χ:=abO ((Kp.mono ι λ_ _ h=>h.elim).trans aJ (λ_ _ h=>h) (λ_ _ h=>h));cases dJ:pt k l[j]with
   |false=>
    rw[cond_pos (by decide)];rw[asL pb dJ];exact ω.mk ⟨none,0,0,rfl,by omega,μ.nil _ _ _ _,hex⟩
   |true=>
    rw[dJ]at xa;simp only[qg]at xa;rw[cond_neg (by decide),bS (by omega) (by omega)];refine⟨⟨rfl,rfl,rfl,rfl,rfl,j+1,by omega,by omega,alY pb dJ ew,?_,?_,hex⟩,by((try dsimp only);omega)⟩
    ·have:=xa.1
     simp only[a7,jM,fw,auL,tV,hs]at this;rw[sr (by omega)]at this;rw[mc];omega
    ·rw[aod pb];exact xa
  ·rw[jl bQ]
   have:j=l.length:=by omega
   subst this;rw[Cb]at ew aG;rw[ew];simp only[qg];refine ω.mk ⟨q,_,d,rfl,?_,aG,ι⟩
   have:l.length*k<=l.length*4:=Nat.mul_le_mul_left _ vI
   omega
def Oe(s:Int)(n:Nat):Int:=if decide (1<=s)&&decide (s<=4)then(if n%s.toNat=0 then 0 else 6)else 1
def nZ(k:Nat)(xs:aq)(i:Nat):Int:=num ((xs.drop (i*k)).take k)
def j7(k m:Nat)(xs:aq):aq:=(List.range m).map (nZ k xs)
def Ko(s:Int)(xs:aq):aq:=if decide (1<=s)&&decide (s<=4)then(if xs.length%s.toNat=0 then j7 s.toNat (xs.length/s.toNat) xs else[])else[]
theorem aya{s:Int}(h:s<1\/4<s)(n:Nat)(xs:aq):Oe s n=1/\Ko s xs=[]:=by
 have:(decide (1<=s)&&decide (s<=4))=false:=by simp;omega
 simp[Oe,Ko,this]
theorem ai1{k:Nat}(h1:1<=k)(cK:k<=4)(n:Nat)(xs:aq):Oe k n=(if n%k=0 then 0 else 6)/\Ko k xs=(if xs.length%k=0 then j7 k (xs.length/k) xs else[]):=by
 have:(decide (1<=(k:Int))&&decide ((k:Int)<=4))=true:=by simp;omega
 simp[Oe,Ko,this]
theorem ax6(k m:Nat)(xs:aq):j7 k (m+1) xs=j7 k m xs++[nZ k xs m]:=by simp[j7,v8]
theorem YP(k m:Nat)(xs:aq):(j7 k m xs).length=m:=by simp[j7]
theorem alD(p:γ)(n c:Nat)(xs:aq)(s:Int)(w:World)(π:bd w p (a7 xs))(ar:xs.length=n)(jG:n<=c)(ak:n<=8388608)(τ:∀x∈xs,0<=x/\x<256):
  tX.C p n c s w (ω λv w'=>∃b5 fG aW,v=.tuple #[.slice b5 fG aW,.int .i64 (Oe s n)]/\fG<=n/\μ w' w.heap.size cz 1 b5 fG aW (v64 (Ko s xs))/\η w w'):=by
 apply tX.ok;unfold tX.main;refine κ.use (Yo s w) ?_;rintro _ ε ⟨rfl,h1⟩
 try dsimp only[dX]
 by_cases ab:s<1\/4<s
 ·obtain⟨aP,bM⟩:=aya ab n xs;rw[cond_pos (by simp;omega),aP,bM];exact ω.mk ⟨none,0,0,rfl,by omega,μ.nil _ _ _ _,h1⟩
 obtain⟨k,rfl⟩:∃k:Nat,s=k:=⟨s.toNat,by omega⟩;have w9:1<=k:=by omega
 have vI:k<=4:=by omega
 obtain⟨aP,bM⟩:=ai1 w9 vI n xs;rw[cond_neg (by simp;omega),aP,bM];refine aT (by omega) ?_;have em:Int.tmod (n:Int) (k:Int)=((n%k:Nat):Int):=by simp[Int.tmod]
 rw[em,ar];by_cases aI:n%k=0
 ·rw[cond_neg (by simp[aI]),aN aI,aN aI];obtain⟨q,rfl⟩:∃q,n=q*k:=⟨n/k,by rw[Nat.mul_comm];exact(Nat.mul_div_cancel' (Nat.dvd_of_mod_eq_zero aI)).symm⟩;rw[Nat.mul_div_cancel _ (by omega)];unfold tX.bb;refine⟨λae aD c1 s1 r m d υ=>(k:Int)=s1/\aD<=c1/\m*k+aD=q*k/\bd w ae (a7 (xs.drop (m*k)))/\μ υ w.heap.size cz 1 r m d (v64 (j7 k m xs))/\η w υ,
   λ_ aD _ _ _ _ _ _=>aD,⟨rfl,jG,by omega,by simpa using π,by simpa[j7,v64]using μ.nil _ _ _ _,h1⟩,?_⟩
  rintro ae aD c1 _ r m d υ ⟨rfl,De,hm,jY,aG,ι⟩;unfold tX.δ;have aqh:m*k+aD<=8388608:=by omega
  have Dj:m<=m*k:=Nat.le_mul_of_pos_right _ (by omega);by_cases aF:(aD:Int)>0
  ·rw[vv aF];have adi:k<=aD:=by
    have bQ:m<q:=Nat.lt_of_mul_lt_mul_right (a:=k) (by omega)
    have:=uK k (show m+1<=q by omega)
    rw[mc]at this;omega
   refine aT (by omega) (aT (by omega) ?_);have ym:(xs.drop (m*k)).length=aD:=by rw[lg];omega
   have LP:bd υ (dL ae c1 0 1) (a7 ((xs.drop (m*k)).take k)):=by
    have:=bd.slice (jY.ex ι) c1 0 k (by simp[a7,ym];omega)
    simpa[a7,xA]using this
   rw[ch];refine κ.use (aco _ k c1 ((xs.drop (m*k)).take k) υ LP (by simp;omega) vI λx J=>τ x (JO (xy J))) ?_;rintro _ χ ⟨rfl,aJ⟩
   try dsimp only[bL]
   rintro b ao rfl rfl;refine mx (B:=w.heap.size) ((aG.ex aJ).ex (η.alloc χ _)) ((ι.trans aJ).trans (η.alloc χ _)).size [Value.int .i64 (nZ k xs m)] (bd.alloc _ _) rfl (by simp[Value.oneCell']) rfl (by omega) (by omega) ?_;intro aX c2 an Mc zX;have hex:η w an:=abO (Kp.trans ((ι.trans aJ).trans (η.alloc χ _)) zX (λ_ _ h=>h.elim) (λi I⟨a,aR,IU⟩=>by have:=(aG.ge aR).1;omega));refine aT (by omega) (aT (by omega) ⟨⟨rfl,by omega,?_,?_,?_,hex⟩,?_⟩)
   ·rw[mc];omega
   ·have:=bd.slice jY c1 k (aD-k) (by simp[a7,ym];omega)
    rw[a7,<-yX,<-xA,Rm,hR (by rw[lg];omega)]at this;rw[mc,G9];exact this
   ·rw[ax6];simpa[v64]using Mc
   ·omega
  ·rw[jl aF]
   have:aD=0:=by omega
   subst this
   have:m=q:=Nat.eq_of_mul_eq_mul_right (by omega) hm
   subst this;exact ω.mk ⟨r,m,d,rfl,by omega,aG,ι⟩
 ·rw[cond_pos (by simp;omega),aL aI,aL aI];exact ω.mk ⟨none,0,0,rfl,by omega,μ.nil _ _ _ _,h1⟩
end Go.Proofs.YtcpdfhkhaekekaaGreat.G.bB
namespace Go.bJ
def wG(W:World)(B:Nat)(i:Nat):Prop:=B<=i/\∃o:Obj,W.heap[i]?=some o/\o.isCells=false
theorem Kp.grown{B:Nat}{W bq:World}{row:Option Nat}(bH:W.grownBy bq row)(φ:∀r,row=some r->B<=r/\∃o:Obj,W.heap[r]?=some o/\o.isCells=false):Kp W bq (wG W B):=
 ⟨bH.os,bH.tape,bH.output,bH.size,λi I ar=>bH.block i I λe=>ar (φ i e.symm)⟩
theorem Kp.putObj(W:World)(l:Nat)(o:Obj):Kp W (W.putObj l o) λi=>i=l:=
 have bH:=grownBy_putObj' W l o
 ⟨bH.os,bH.tape,bH.output,bH.size,λi I ar=>bH.block i I λe=>ar (by cases e;rfl)⟩
theorem wG.typed{W:World}{B i:Nat}{e:TypeId}(h:wG W B i)(t:Typed W e i):False:=by obtain⟨_,o,aG,π⟩:=h;obtain⟨cur,fr,aS⟩:=t;rw[aG]at aS;cases aS;cases π
theorem μ.grown{W bq:World}{B C:Nat}{e:TypeId}{sz:Nat}{p:γ}{n c:Nat}{xs:aY}(h:μ W B e sz p n c xs)(k:Kp W bq (wG W C)):μ bq B e sz p n c xs:=
 h.aO k λx J ar=>ar.typed (h.typed J).1
theorem Kp.later{w W bq:World}{S:bl}{B:Nat}(h:Kp w W S)(k:Kp W bq (wG W B))(eh:w.heap.size<=B):Kp w bq S:=
 Kp.trans h k (λ_ _ h=>h) (λi I ar=>absurd ar.1 (by omega))
theorem KeepsOthers.ae5{w w':World}{S:bl}(k:Kp w w' S)(eU:∀i,i<w.heap.size->S i->∃e,Typed w e i):KeepsOthers w w':=
 ⟨k.size,λi o I aG=>by
  have bQ:i<w.heap.size:=(Array.getElem?_eq_some_iff.1 I).1;rw[k.block i bQ λab=>?_]
  ·exact I
  ·obtain⟨e,cur,fr,aS⟩:=eU i bQ ab;rw[I]at aS;cases aS;cases aG⟩
theorem acq(W:World):W.grownBy W.drew none:=⟨rfl,rfl,rfl,dO _,λ_ _ _=>rfl⟩
theorem J9(p:γ)(m s:Nat):dL p m 0 s=p:=by
 unfold dL;split
 ·rfl
 ·cases p with
  |none=>rfl
  |some a=>simp[Addr.add_zero']
def Io(eu dK:Nat)(v0 v1:Value)(w:World):Prop:=w.cell? (⟨eu,0,none⟩:Addr)=some v0/\w.cell? (⟨dK,0,none⟩:Addr)=some v1
def wE(eu dK:Nat)(A B:World):Prop:=∀v0 v1,Io eu dK v0 v1 A->Io eu dK v0 v1 B
theorem wE.trans{eu dK:Nat}{A B C:World}(h:wE eu dK A B)(k:wE eu dK B C):wE eu dK A C:=λv0 v1 c=>k v0 v1 (h v0 v1 c)
theorem abi{W:World}{l:Nat}{o ib:Obj}(h:W.heap[l]?=some o)(π:o.isCells=false){a:Addr}{v:Value}(az:W.cell? a=some v):(W.putObj l ib).cell? a=some v:=by refine(Kp.putObj W l ib).cell az λe=>?_;unfold World.cell? at az;rw[e,h]at az;cases o<;>first|(simp at az;done)|(cases π;done)
theorem wE.book{eu dK:Nat}(W:World)(l:Nat)(o ib:Obj)(h:W.heap[l]?=some o)(π:o.isCells=false):wE eu dK W (W.putObj l ib):=λv0 v1 c=>⟨abi h π c.1,abi h π c.2⟩
end Go.bJ
namespace Go.Proofs.YtcpdfhkhaekekaaGreat.G
open Tryz
open Go.bJ Go.RowKit
def hX:aY:=[.int .i64 0,.int .i64 0,.int .i64 0,.int .i64 0,.int .i64 0,.int .i64 0,.int .i64 0,.int .i64 0,.int .i64 0,.int .i64 0,.int .i64 0,.int .i64 0,.int .i64 0,.int .i64 0,.int .i64 0,.int .i64 0,.slice none 0 0,.slice none 0 0,.slice none 0 0,.slice none 0 0,.slice none 0 0,.slice none 0 0,.slice none 0 0,.slice none 0 0]
theorem ayG:∀z∈hX,z.oneCell'=true:=by
 intro z aI
 have:z=.int .i64 0\/z=.slice none 0 0:=by simp only[hX,fB,oi,py]at aI;rcases aI with h|h|h|h|h|h|h|h|h|h|h|h|h|h|h|h|h|h|h|h|h|h|h|h<;>simp[h]
 rcases this with rfl|rfl<;>rfl
theorem nP{a b:Int}:∀z∈[Value.int .i64 a,.int .i64 b],z.oneCell'=true:=by intro z aI;simp only[fB,oi,py]at aI;rcases aI with rfl|rfl<;>rfl
theorem BK(n a b:Int)(w:World):zG.C n a b w (ω λv w'=>v=.bool (decide (a<=n)&&decide (n<b))/\w'=w):=by
 apply zG.ok;unfold zG.main;refine bt (λh=>?_) (λh=>?_)
 ·have h:a<=n:=b6 h;exact ω.mk ⟨by simp[h],rfl⟩
 ·have h:¬a<=n:=dn h;exact ω.mk ⟨by simp[h],rfl⟩
theorem Ba(b k:Nat):(⟨b,16,none⟩:Addr).add (k*1)=⟨b,16+k,none⟩:=by rw[Addr.add_lit,eS]
theorem Ij{k:Nat}(h:k<8):IntKind.i64.wrap ((k:Int)+1)=((k+1:Nat):Int):=by rw[bS (by omega) (by omega)];rfl
theorem DL{w:World}{B:Nat}{p:γ}{n c:Nat}{xs:aq}(o:μ w B dt 1 p n c (a7 xs))(eh:B<=w.heap.size)(s:Int){q:γ}{m d:Nat}{l:aq}(π:bd w q (bB.v64 l))(ak:l.length=m)(hm:m<=1000)(ar:n<=1000000):
  Gp.C p n c s q m d w (ω λv w'=>∃b5 aW,v=.slice b5 (n+(bB.qm s l).length) aW/\μ w' B dt 1 b5 (n+(bB.qm s l).length) aW (a7 (xs++bB.qm s l))/\Kp w w' (λi=>∃x,p=some x/\x.block=i)):=by
 apply Gp.ok;unfold Gp.main;refine κ.use (bB.ZT q m d l s w π ak (by omega)) ?_;rintro _ ε ⟨ae,aD,c1,rfl,se,σ,θ⟩
 try dsimp only[ca,cT,cU,bo,bL,ee]
 have hlen:(bB.qm s l).length=aD:=by have:=Am (xs:=bB.qm s l) σ;exact this
 refine mx (B:=B) (o.ex θ) (gE eh θ.size) (a7 (bB.qm s l)) σ.cells (by rw[sC,hlen,eS]) (Ec _) rfl (by omega) (by omega) ?_;intro aX c2 υ af bK;rw[<-hlen]at af⊢;refine ω.mk ⟨aX,c2,rfl,by rw[<-Kq];exact af,Kp.trans (θ.aO _) bK (λi _ h=>h) (λi _ h=>h)⟩
theorem age(p:γ)(n c:Nat)(xs:aq)(w:World)(π:bd w p (a7 xs))(ar:xs.length=n)(τ:Bytes xs)(zM:n<=60):
  Gs.C p n c w (ω λv w'=>∃b5 aW,v=.slice b5 64 aW/\μ w' w.heap.size dt 1 b5 64 aW (a7 (lk xs))/\η w w'):=by
 apply Gs.ok;unfold Gs.main;refine κ.use (S3 p n c xs w π ar τ) ?_;rintro _ ε ⟨ae,aD,c1,rfl,se,σ,θ⟩
 try dsimp only[ca,cT,cU,bo,bL,ee]
 have gD:vu xs=lk xs:=TW (by omega);rw[gD]at σ
 have:aD=64:=by have:=Am σ;rw[y5 (by omega)]at this;exact this.symm
 subst this;exact ω.mk ⟨ae,c1,rfl,σ,θ⟩
theorem af8(a b:Int)(aR:0<=a/\a<256)(τ:0<=b/\b<256):bB.qm 1 [a,b]=[a,b]:=by
 have:=(bB.J4 (k:=1) (by omega) (by omega) [a,b]).2
 have e:((1:Nat):Int)=1:=rfl;rw[e]at this;rw[this,aN (by simp[bB.pt];omega)];simp[bB.be];omega
end Go.Proofs.YtcpdfhkhaekekaaGreat.G
namespace Go.Proofs.YtcpdfhkhaekekaaGreat.G
open Tryz
open Go.bJ Go.RowKit
def mh:aq:=[83,76,65,84]
def fc(w:World)(b:Nat)(l:aq):Prop:=μ w 0 cz 1 (some ⟨b,0,none⟩) l.length l.length (bB.v64 l)
def cS(W w:World)(p:γ)(n c:Nat)(xs:aq):Prop:=μ w W.heap.size dt 1 p n c (a7 xs)
def Raw(W w:World)(b:Nat):Prop:=W.heap.size<=b/\w.heap[b]?=some (.cells (a7 mh).toArray dt (0,0))
theorem fc.ex{w w':World}{b:Nat}{l:aq}(h:fc w b l)(x:η w w'):fc w' b l:=μ.ex h x
theorem cS.ex{W w w':World}{p:γ}{n c:Nat}{xs:aq}(h:cS W w p n c xs)(x:η w w'):cS W w' p n c xs:=μ.ex h x
theorem Raw.ex{W w w':World}{b:Nat}(h:Raw W w b)(x:η w w'):Raw W w' b:=⟨h.1,by rw[x.block b (Array.getElem?_eq_some_iff.1 h.2).1 id];exact h.2⟩
theorem hM{W w:World}(J:η W w)(l:aq){N:Nat->al}(K:∀b w',η w w'->fc w' b l->N b w'):aK w (bB.v64 l).toArray cz N:=by rintro b w' rfl rfl;have o:=μ.alloc (w:=w) (bB.v64 l) cz 1 l.length (by simp[bB.v64]);exact K _ _ (η.alloc w _) (o.lower (eR _))
theorem DE{W w:World}(J:η W w){N:Nat->al}(K:∀b w',η w w'->Raw W w' b->N b w'):aK w (a7 mh).toArray dt N:=by rintro b w' rfl rfl;exact K _ _ (η.alloc w _) ⟨J.size,FY w _⟩
theorem mark{W w:World}{b:Nat}(J:η W w)(h:Raw W w b){N:al}(K:∀w',η W w'->(∀b l,fc w b l->fc w' b l)->cS W w' (some ⟨b,0,none⟩) 4 4 mh->N w'):yK w ⟨b,0,none⟩ N:=by
 refine⟨_,_,_,h.2,λw' hw=>?_⟩;subst hw;have k:=Kp.freeze w ⟨b,(a7 mh).toArray.size,none⟩ 1;have t:Typed w dt b:=⟨_,_,h.2⟩;refine K _ (J.then k λi I=>?_) (λgg l τ=>?_) ?_
 ·dsimp only at I;rw[I];exact h.1
 ·exact μ.cV τ k dt (λi I=>by dsimp only at I;rw[I];exact t) (by decide)
 ·refine⟨rfl,dO _,.inr ⟨b,(a7 mh).toArray,(4,5),rfl,h.1,?_,.inr (by decide),by decide,rfl⟩⟩;unfold World.freeze;simp[h.2,Array.getElem?_modify];rfl
theorem at6{W w:World}{N:Value->al}{X:List PanicEntry->al}(J:η W w){p:γ}{n c:Nat}{xs:aq}(h1:cS W w p n c xs){b:Nat}{l:aq}(ι:fc w b l){s:Int}{r:aq}(φ:bB.qm s l=r)(ar:n<=1000)(ak:l.length<=10)
  (K:∀p c w',η W w'->(∀b l,fc w b l->fc w' b l)->cS W w' p (n+r.length) c (xs++r)->N (.slice p (n+r.length) c) w'):κ prog 139 #[.slice p n c,.int .i64 s,.slice (some ⟨b,0,none⟩) l.length l.length] w N X:=by
 refine κ.use (DL h1 J.size s (μ.cells ι) rfl (by omega) (by omega)) ?_;rintro _ w' ⟨b5,aW,rfl,o,k⟩;rw[φ]at o⊢;refine K b5 aW w' (J.then k λi⟨x,e,I⟩=>by have:=(μ.ge h1 e).1;omega) (λgg mF τ=>?_) o;exact μ.cV τ k dt (λi⟨x,e,I⟩=>I▸(μ.typed h1 e).1) (by decide)
end Go.Proofs.YtcpdfhkhaekekaaGreat.G
namespace Go.Proofs.YtcpdfhkhaekekaaGreat.G
open Go.bJ Go.RowKit
theorem S2(p:γ)(n c:Nat)(w:World):Ht.C p n c 52 w (ω λv w'=>∃eu dK,v=.func (.func 172) #[] #[.pointer (some ⟨eu,0,none⟩),.pointer (some ⟨dK,0,none⟩)]/\η w w'/\μ w' w.heap.size hj 1 (some ⟨eu,0,none⟩) 1 1 [.slice p n c]/\μ w' w.heap.size cz 1 (some ⟨dK,0,none⟩) 1 1 [.int .i64 52]):=by apply Ht.ok;unfold Ht.main;rintro δ ε rfl rfl ζ υ rfl rfl;have σ:=μ.new (w:=w) [.slice p n c] hj;have θ:=η.alloc w (.cells [Value.slice p n c].toArray hj);generalize w.alloc (.cells #[.slice p n c] hj)=ε at σ θ⊢;have af:=μ.new (w:=ε) [.int .i64 52] cz;have ρ:=η.alloc ε (.cells [Value.int .i64 52].toArray cz);generalize ε.alloc (.cells #[.int .i64 52] cz)=υ at af ρ⊢;refine⟨52,af.at (by rfl),?_⟩;rw[jl (by omega)];exact ω.mk ⟨_,_,rfl,θ.trans ρ,σ.ex ρ,af.lower θ.size⟩
theorem agv{p:γ}{n c:Nat}:∀y∈[Value.slice p n c],y.oneCell'=true:=by intro y ag;simp only[ma]at ag;rw[ag];rfl
theorem Q5{xs:aq}(h:oK xs=0):xs.length=64/\yQ xs=xs.take 60:=by
 unfold oK at h;unfold yQ;split at h
 ·rename_i ak;rw[aN ak];split at h
  ·rename_i π;exact⟨ak,by rw[aN π]⟩
  ·cases h
 ·cases h
def dz(xs:aq)(a s:Int):Int:=bB.zJ (xs.take 60) a s
def Dd(xs:aq):Prop:=oK xs=0/\(xs.take 60).take 4=mh
instance(xs:aq):Decidable (Dd xs):=inferInstanceAs (Decidable (_/\_))
def rn(xs:aq):aq:=if Dd xs then[dz xs 4 4,dz xs 8 1,dz xs 9 1,dz xs 10 1,dz xs 11 2]else[0,0,0,0,0]
def nE(xs:aq):Bool:=decide (Dd xs)&&decide (1<=dz xs 4 4)&&decide (dz xs 4 4<=1073741824)&&decide (dz xs 10 1<12)
theorem VH(xs:aq):(rn xs).length=5:=by unfold rn;split<;>rfl
theorem Og(l:aq):∀z∈bB.v64 l,z.oneCell'=true:=Kr _ _
theorem avm:(⟨#[83,76,65,84]⟩:ByteArray)=strOf mh:=by decide
theorem agu:Bytes mh:=λx J=>by simp only[mh,fB,oi,py]at J;omega
theorem Lt{w:World}{B eu:Nat}{p:γ}{n c:Nat}{t:aq}(en:μ w B hj 1 (some ⟨eu,0,none⟩) 1 1 [.slice p n c])(π:bd w p (a7 t))(ar:t.length=n)(jG:n<=c)(ak:n<=1000000)(τ:Bytes t)(a s:Int)(aR:0<=a/\a<=1000):
  Gr.C a s eu w (ω λv w'=>v=.int .i64 (bB.zJ t a s)/\η w w'):=by
 apply Gr.ok;unfold Gr.main;refine⟨p,n,c,en.at (by rfl),?_⟩;refine κ.use (bB.zn p n c t a s w π ar jG (by omega) τ (by omega) (by omega)) ?_;rintro _ ε ⟨rfl,θ⟩
 try dsimp only[ca,cT,cU,bo,bL]
 exact ω.mk ⟨rfl,θ⟩
theorem JZ(p:γ)(n c:Nat)(xs:aq)(w:World)(π:bd w p (a7 xs))(ar:xs.length=n)(jG:n<=c)(τ:Bytes xs):
  Gq.C p n c w (ω λv w'=>v=.tuple #[.agg (bB.v64 (rn xs)).toArray,.bool (nE xs)]/\η w w'):=by
 apply Gq.ok;unfold Gq.main;rintro δ ε rfl rfl;have σ:=μ.new (w:=w) (bB.v64 [0,0,0,0,0]) oQ;have θ:=η.alloc w (.cells (bB.v64 [0,0,0,0,0]).toArray oQ);have aP:w.alloc (.cells #[.int .i64 0,.int .i64 0,.int .i64 0,.int .i64 0,.int .i64 0] oQ)=w.alloc (.cells (bB.v64 [0,0,0,0,0]).toArray oQ):=rfl;have I1:w.heap.size<=w.heap.size:=dO _;generalize eL:w.heap.size=δ at σ I1⊢;have I1:w.heap.size<=δ:=by omega
 rw[aP];generalize w.alloc (.cells (bB.v64 [0,0,0,0,0]).toArray oQ)=ε at σ θ⊢;refine κ.use (KJ p n c xs ε (π.ex θ) ar jG τ) ?_;rintro _ υ ⟨ae,aD,c1,rfl,se,vW,ρ⟩
 try dsimp only[ca,cT,cU,bo,bL,ee]
 rintro ζ ao rfl rfl;have af:=μ.new (w:=υ) [.slice none 0 0] hj;have aC:=η.alloc υ (.cells [Value.slice none 0 0].toArray hj);have eG:ε.heap.size<=υ.heap.size:=ρ.size;have acJ:δ<ε.heap.size:=(σ.ge rfl).2;have Gf:w.heap.size<=ε.heap.size:=θ.size;generalize υ.heap.size=ζ at af eG⊢;generalize υ.alloc (.cells #[.slice none 0 0] hj)=ao at af aC⊢;refine af.dv (JV 0) (by rfl) λan dT cB=>?_;have jo:=ρ.trans aC;have ti:∀i,i=ζ->ε.heap.size<=i:=λi I=>by omega
 have mo:η ε an:=jo.then dT ti;have ay:η w an:=θ.trans mo;have B3:μ an ε.heap.size dt 1 ae aD c1 (a7 (yQ xs)):=(vW.ex aC).cV dT hj (λi I=>by rw[I];exact(af.typed rfl).1) (by decide);have σ:=σ.ex mo;have cB:μ an ζ hj 1 (some ⟨ζ,0,none⟩) 1 1 [.slice ae aD c1]:=cB
 have bad:∀{w':World},η an w'->¬Dd xs->a6 w' (⟨δ,0,none⟩:Addr) (bB.v64 [0,0,0,0,0])/\∀aZ,aZ=w'.setCells (⟨δ,0,none⟩:Addr).block (⟨δ,0,none⟩:Addr).off (bB.v64 [0,0,0,0,0])->
   ∃aE:aj,aE.size=5/\aB aZ (⟨δ,0,none⟩:Addr) aE.toList/\ω (λv w'=>v=.tuple #[.agg (bB.v64 (rn xs)).toArray,.bool (nE xs)]/\η w w') (.returned (.tuple #[.agg aE,.bool false])) aZ:=by
  intro w' J hm;refine(σ.ex J).put (by rfl) (Og _) λaZ eD bY=>?_;refine⟨(bB.v64 [0,0,0,0,0]).toArray,rfl,bY.cells,ω.mk ⟨?_,(ay.trans J).then eD λi I=>by omega⟩⟩;unfold rn nE;rw[aL hm,iX hm];rfl
 refine bt (λh=>?_) (λh=>?_)
 ·have h:¬oK xs=0:=by simpa using h
  exact bad (η.refl _) (λm=>h m.1)
 have h:oK xs=0:=by simpa using h
 obtain⟨jW,eh⟩:=Q5 h;rw[eh]at B3;have Ma:aD=60:=by have:=Am B3;rw[hs,jW]at this;exact this.symm
 subst Ma;have s0:60<=c1:=B3.2.1;refine⟨ae,60,c1,cB.at (by rfl),?_⟩;refine bU (bI (by omega)) ?_;rw[J9];have aS:(xs.take 60).length=60:=by rw[hs,jW];rfl
 have pW:Bytes (xs.take 60):=τ.take _;refine⟨(xs.take 60).take 4,by rw[hs,aS];rfl,?_,?_⟩
 ·have:=B3.cells.take 4
  unfold a7 at this
  rwa[<-xA]at this
 rw[avm,agP (pW.take _) agu];refine bt (λhm=>?_) (λhm=>?_)
 ·have hm:¬(xs.take 60).take 4=mh:=by simpa using hm
  exact bad (η.refl _) (λm=>hm m.2)
 have hm:(xs.take 60).take 4=mh:=by simpa using hm
 have lE:Dd xs:=⟨h,hm⟩;refine κ.use (Lt cB B3.cells aS s0 (by omega) pW 4 4 (by omega)) ?_;rintro _ bV ⟨rfl,cj⟩
 try dsimp only[bL]
 refine κ.use (Lt (cB.ex cj) (B3.ex cj).cells aS s0 (by omega) pW 8 1 (by omega)) ?_;rintro _ c4 ⟨rfl,ez⟩
 try dsimp only[bL]
 have oW:=cj.trans ez;refine κ.use (Lt (cB.ex oW) (B3.ex oW).cells aS s0 (by omega) pW 9 1 (by omega)) ?_;rintro _ cm ⟨rfl,df⟩
 try dsimp only[bL]
 have xQ:=oW.trans df;refine κ.use (Lt (cB.ex xQ) (B3.ex xQ).cells aS s0 (by omega) pW 10 1 (by omega)) ?_;rintro _ da ⟨rfl,jo⟩
 try dsimp only[bL]
 have Zb:=xQ.trans jo;refine κ.use (Lt (cB.ex Zb) (B3.ex Zb).cells aS s0 (by omega) pW 11 2 (by omega)) ?_;rintro _ ed ⟨rfl,jb⟩
 try dsimp only[bL]
 have ajK:=Zb.trans jb;rintro ax eO rfl rfl;have bh:=μ.new (w:=ed) (bB.v64 [0,0,0,0,0]) oQ;have tL:=η.alloc ed (.cells (bB.v64 [0,0,0,0,0]).toArray oQ);have gA:ed.alloc (.cells #[.int .i64 0,.int .i64 0,.int .i64 0,.int .i64 0,.int .i64 0] oQ)=ed.alloc (.cells (bB.v64 [0,0,0,0,0]).toArray oQ):=rfl;rw[gA];have jm:an.heap.size<=ed.heap.size:=ajK.size;generalize ed.heap.size=ax at bh jm⊢;generalize ed.alloc (.cells (bB.v64 [0,0,0,0,0]).toArray oQ)=eO at bh tL⊢;refine bh.put (cs:=bB.v64 [dz xs 4 4,dz xs 8 1,dz xs 9 1,dz xs 10 1,dz xs 11 2]) (by rfl) (Og _) λeE te MQ=>?_;have ayz:η an eE:=(ajK.trans tL).then te λi I=>by omega
 have ajL:=ayz.trans (η.drew eE);have MR:=MQ.ex (η.drew eE);have Qv:δ<an.heap.size:=(σ.ge rfl).2;have b1:ax≠δ:=by omega
 have Li:rn xs=[dz xs 4 4,dz xs 8 1,dz xs 9 1,dz xs 10 1,dz xs 11 2]:=by unfold rn;rw[aN lE]
 have fin:∀(g:Bool),g=nE xs->∀{N:al},(∀ey,μ ey ax oQ 5 (some ⟨ax,0,none⟩) 1 1 (bB.v64 [dz xs 4 4,dz xs 8 1,dz xs 9 1,dz xs 10 1,dz xs 11 2])->(∃bC:aj,bC.size=5/\aB ey (⟨δ,0,none⟩:Addr) bC.toList/\ω (λv w'=>v=.tuple #[.agg (bB.v64 (rn xs)).toArray,.bool (nE xs)]/\η w w') (.returned (.tuple #[.agg bC,.bool g])) ey)->N ey)->
   a6 eE.drew (⟨δ,0,none⟩:Addr) (bB.v64 [dz xs 4 4,dz xs 8 1,dz xs 9 1,dz xs 10 1,dz xs 11 2])/\∀ey,ey=eE.drew.setCells (⟨δ,0,none⟩:Addr).block (⟨δ,0,none⟩:Addr).off (bB.v64 [dz xs 4 4,dz xs 8 1,dz xs 9 1,dz xs 10 1,dz xs 11 2])->N ey:=by
  intro g bH N K;refine(σ.ex ajL).put (by rfl) (Og _) λey QF rC=>K ey (MR.aO QF λy ag=>by cases ag;exact b1) ?_;refine⟨(bB.v64 (rn xs)).toArray,by rw[fP];unfold bB.v64;rw[jM];exact VH xs,by rw[Li];exact rC.cells,ω.mk ⟨by rw[bH],(ay.trans ajL).then QF λi I=>by omega⟩⟩
 refine⟨(bB.v64 [dz xs 4 4,dz xs 8 1,dz xs 9 1,dz xs 10 1,dz xs 11 2]).toArray,rfl,MR.cells,dz xs 4 4,MR.at (by rfl),?_⟩;refine bt (λh1=>?_) (λh1=>?_)
 ·have h1:=b6 h1;refine⟨dz xs 4 4,MR.at (by rfl),?_⟩;refine bt (λι=>?_) (λι=>?_)
  ·have ι:=b6 ι;refine⟨dz xs 10 1,MR.at (by rfl),bU (by rfl) ?_⟩;refine fin (decide (dz xs 10 1<12)) ?_ ?_
   ·unfold nE;rw[bI lE,bI (show 1<=dz xs 4 4 from h1),bI ι];rfl
   ·intro ey o h;exact⟨o.at (by rfl),h⟩
  ·have ι:=dn ι;refine bU (by rfl) ?_;refine fin false ?_ λey o h=>h;unfold nE;rw[iX ι];simp
 ·have h1:=dn h1;refine bU (by rfl) ?_;refine fin false ?_ λey o h=>h;unfold nE;rw[iX (show¬1<=dz xs 4 4 from h1)];simp
def TZ(xs:aq):aq:=if nE xs then[dz xs 10 1,dz xs 4 4,0]else[0,0,11]
theorem aj1(p:γ)(n c:Nat)(xs:aq)(w:World)(π:bd w p (a7 xs))(ar:xs.length=n)(jG:n<=c)(τ:Bytes xs):
  Gn.C p n c w (ω λv w'=>v=.tuple (bB.v64 (TZ xs)).toArray/\η w w'):=by
 apply Gn.ok;unfold Gn.main;refine κ.use (JZ p n c xs w π ar jG τ) ?_;rintro _ ε ⟨rfl,θ⟩
 try dsimp only[ca,cT,cU,bo,dX,hA,h7]
 rintro ζ χ rfl rfl;have af:=μ.new (w:=ε) (bB.v64 [0,0,0,0,0]) oQ;have ad:=η.alloc ε (.cells (bB.v64 [0,0,0,0,0]).toArray oQ);have aP:ε.alloc (.cells #[.int .i64 0,.int .i64 0,.int .i64 0,.int .i64 0,.int .i64 0] oQ)=ε.alloc (.cells (bB.v64 [0,0,0,0,0]).toArray oQ):=rfl;rw[aP];have eG:=θ.size;generalize ε.heap.size=ζ at af eG⊢;generalize ε.alloc (.cells (bB.v64 [0,0,0,0,0]).toArray oQ)=χ at af ad⊢;have hlen:(bB.v64 (rn xs)).length=5:=by unfold bB.v64;rw[jM];exact VH xs
 refine bU (bI (by rw[fP];exact hlen)) ?_;refine af.put (cs:=bB.v64 (rn xs)) hlen (Og _) λao cI cJ=>?_;have aC:η w ao:=(θ.trans ad).then cI λi I=>by omega
 unfold TZ;cases aG:nE xs with
 |false=>
  simp only[v7,Ar,ts,xz];exact ω.mk ⟨rfl,aC⟩
 |true=>
  simp only[v7,Ar,ts,xz];have lE:Dd xs:=by unfold nE at aG;simp only[lf,qI]at aG;exact aG.1.1.1
  have Li:rn xs=[dz xs 4 4,dz xs 8 1,dz xs 9 1,dz xs 10 1,dz xs 11 2]:=by unfold rn;rw[aN lE]
  rw[Li]at cJ;refine⟨dz xs 10 1,cJ.at (by rfl),dz xs 4 4,cJ.at (by rfl),λk=>?_⟩;exact ω.mk ⟨rfl,aC.trans (η.drewN _ _)⟩
theorem putAt{w:World}{B:Nat}{e:TypeId}{sz b n c:Nat}{xs:aY}(aG:μ w B e sz (some ⟨b,0,none⟩) n c xs)(o:Nat){ys:aY}(h:o+ys.length<=n*sz)(h1:∀y∈ys,y.oneCell'=true){N:al}
  (K:∀υ,Kp w υ (λi=>i=b)->μ υ B e sz (some ⟨b,0,none⟩) n c (xs.take o++ys++xs.drop (o+ys.length))->N υ):
  a6 w ((⟨b,0,none⟩:Addr).add o) ys/\∀υ,υ=w.setCells ((⟨b,0,none⟩:Addr).add o).block ((⟨b,0,none⟩:Addr).add o).off ys->N υ:=by
 obtain⟨aV,bK,b4⟩:=aG.writes o ys h h1;refine⟨aV,λυ hw=>?_⟩;have aP:lM w (some ⟨b,0,none⟩) o ys=υ:=by
  rw[hw]
  have:(⟨b,0,none⟩:Addr).add o=⟨b,o,none⟩:=by rw[Addr.add_lit];simp
  rw[this];simp[lM]
 rw[aP]at bK b4;exact K υ (b4.mono λi _⟨x,J,I⟩=>by cases J;exact I.symm) bK
theorem aye(xs:aq)(n:Nat):a7 (xs.drop n)=(a7 xs).drop n:=by simp[a7,yX]
theorem from_{w:World}{p:γ}{c:Nat}{xs:aq}(h:bd w p (a7 xs))(π:xs.length<=c)(i:Nat):bd w (dL p c i 1) (a7 (xs.drop i)):=by
 have:=h.slice c i xs.length (by rw[sC];exact π)
 rw[aye]
 rwa[hR (by rw[lg,sC];omega)]at this
abbrev eK:=Option (Nat×Nat)
def kx(n:Nat):Nat:=FloatKind.f64.nearest (n:Int)
def MI:Nat:=13830554455654793216
def eX:eK->Nat
 |none=>MI
 |some x=>kx x.1
def e5:eK->Nat
 |none=>0
 |some x=>kx x.2
def et(q:eK):Value:=.complex .f64 (eX q) (e5 q)
def kH:eK->Prop
 |none=>True
 |some x=>x.1<24/\x.2<16
theorem asy:∀n:_root_.Fin 25,eQ .geq (FloatKind.f64.nearest (n.val:Int)) 0=true/\eQ .lss (FloatKind.f64.nearest (n.val:Int)) (FloatKind.f64.nearest 24)=decide (n.val<24)/\eQ .lss (FloatKind.f64.nearest (n.val:Int)) (FloatKind.f64.nearest 16)=decide (n.val<16)/\
 (FloatKind.f64.decode (FloatKind.f64.nearest (n.val:Int))).toInt .zero=some (n.val:Int)/\eQ .eql (FloatKind.f64.nearest (n.val:Int)) MI=false:=by decide+kernel
theorem asz:∀a b:_root_.Fin 24,eQ .eql (FloatKind.f64.nearest (a.val:Int)) (FloatKind.f64.nearest (b.val:Int))=decide (a.val=b.val):=by decide+kernel
theorem neg_eq:∀a:_root_.Fin 24,eQ .eql MI (FloatKind.f64.nearest (a.val:Int))=false:=by decide+kernel
theorem DF{n:Nat}(h:n<=24):eQ .geq (kx n) 0=true/\eQ .lss (kx n) (FloatKind.f64.nearest 24)=decide (n<24)/\eQ .lss (kx n) (FloatKind.f64.nearest 16)=decide (n<16)/\(FloatKind.f64.decode (kx n)).toInt .zero=some (n:Int)/\eQ .eql (kx n) MI=false:=asy ⟨n,by omega⟩
theorem Xg{a b:Nat}(aR:a<24)(τ:b<24):eQ .eql (kx a) (kx b)=decide (a=b):=asz ⟨a,aR⟩ ⟨b,τ⟩
theorem aeI:kx 0=0:=by decide+kernel
theorem Jh:IntKind.i64.min=-9223372036854775808:=by decide
theorem empty_eq{q:eK}(h:kH q):(!(eQ .eql (eX q) 13830554455654793216&&eQ .eql (e5 q) 0))=q.isSome:=by
 cases q with
 |none=>decide+kernel
 |some x=>
  have:eQ .eql (eX (some x)) 13830554455654793216=false:=(DF (n:=x.1) (by have:=h.1;omega)).2.2.2.2
  rw[this];rfl
theorem XN{q r:eK}(aH:kH q)(φ:kH r):(eQ .eql (eX q) (eX r)&&eQ .eql (e5 q) (e5 r))=decide (q=r):=by
 cases q with
 |none=>
  cases r with
  |none=>decide+kernel
  |some y=>
   have:eQ .eql (eX none) (eX (some y))=false:=neg_eq ⟨y.1,φ.1⟩
   rw[this];simp
 |some x=>
  cases r with
  |none=>
   have:eQ .eql (eX (some x)) (eX none)=false:=(DF (n:=x.1) (by have:=aH.1;omega)).2.2.2.2
   rw[this];simp
  |some y=>
   have aP:eQ .eql (eX (some x)) (eX (some y))=decide (x.1=y.1):=Xg aH.1 φ.1;have bM:eQ .eql (e5 (some x)) (e5 (some y))=decide (x.2=y.2):=Xg (by have:=aH.2;omega) (by have:=φ.2;omega);rw[aP,bM];obtain⟨a,b⟩:=x;obtain⟨c,d⟩:=y;simp only[tt,G0];by_cases h1:a=c<;>by_cases ι:b=d<;>simp[h1,ι]
theorem afA(l:List eK):∀z∈l.map et,z.oneCell'=true:=by intro z aI;obtain⟨q,_,rfl⟩:=gx.1 aI;rfl
theorem OF(n m:Nat)(ar:n<=24)(hm:m=24\/m=16)(w:World):vl.C (kx n) m w (ω λv w'=>v=.bool (decide (n<m))/\w'=w):=by
 apply vl.ok;unfold vl.main;obtain⟨f1,f2,f3,f4,f5⟩:=DF ar;rw[f1,cond_pos rfl];have f6:eQ .lss (kx n) (FloatKind.f64.nearest (m:Int))=decide (n<m):=by
  rcases hm with rfl|rfl
  ·exact f2
  ·exact f3
 rw[f6];refine bt (λh=>?_) (λh=>?_)
 ·have bQ:=b6 h;rw[h];refine hh f4 (aT (by rw[Jh];omega) (aT (by rw[yx];omega) (ω.mk ⟨?_,rfl⟩)))
  have:=Xg (a:=n) (b:=n) (by rcases hm with rfl|rfl<;>omega) (by rcases hm with rfl|rfl<;>omega)
  rw[bI rfl]at this;exact hr Value.bool this
 ·rw[h];exact ω.mk ⟨rfl,rfl⟩
theorem ayo(m:Int)(w:World):vl.C MI m w (ω λv w'=>v=.bool false/\w'=w):=by apply vl.ok;unfold vl.main;rw[cond_neg (by decide+kernel)];exact ω.mk ⟨rfl,rfl⟩
theorem A8(q:eK)(h:kH q)(w:World):zz.C (eX q) (e5 q) w (ω λv w'=>v=.bool q.isSome/\w'=w):=by
 apply zz.ok;unfold zz.main;cases q with
 |none=>
  refine κ.use (ayo 24 w) ?_;rintro _ _ ⟨rfl,rfl⟩
  try dsimp only[dX,jz]
  exact ω.mk ⟨rfl,rfl⟩
 |some x=>
  refine κ.use (OF x.1 24 (by have:=h.1;omega) (.inl rfl) w) ?_;rintro _ _ ⟨rfl,rfl⟩
  try dsimp only[dX]
  rw[bI h.1,cond_pos rfl];refine κ.use (OF x.2 16 (by have:=h.2;omega) (.inr rfl) _) ?_;rintro _ _ ⟨rfl,rfl⟩
  try dsimp only[dX]
  rw[bI h.2];exact ω.mk ⟨rfl,rfl⟩
def prt:eK->aq
 |none=>[0,0,2]
 |some x=>[x.1,x.2,0]
theorem akR(q:eK)(h:kH q)(w:World):EK.C (eX q) (e5 q) w (ω λv w'=>v=.tuple (bB.v64 (prt q)).toArray/\w'=w):=by
 apply EK.ok;unfold EK.main;refine κ.use (A8 q h w) ?_;rintro _ _ ⟨rfl,rfl⟩
 try dsimp only[dX]
 cases q with
 |none=>
  rw[cond_pos (by rfl)];exact ω.mk ⟨rfl,rfl⟩
 |some x=>
  have h1:=h.1;have ι:=h.2;rw[cond_neg (by rfl)];refine hh (DF (n:=x.1) (by omega)).2.2.2.1 (aT (by rw[Jh];omega) (aT (by rw[yx];omega) ?_));refine hh (DF (n:=x.2) (by omega)).2.2.2.1 (aT (by rw[Jh];omega) (aT (by rw[yx];omega) (ω.mk ⟨rfl,rfl⟩)))
theorem OE(k:Int)(w:World):zA.C k w (ω λv w'=>v=.bool (decide (1<=k)&&decide (k<=16))/\w'=w):=by
 apply zA.ok;unfold zA.main;refine bt (λh=>?_) (λh=>?_)
 ·have h:1<=k:=b6 h;exact ω.mk ⟨by rw[bI h];rfl,rfl⟩
 ·have h:¬1<=k:=dn h;exact ω.mk ⟨by rw[iX h];rfl,rfl⟩
def wX(k:Int):eK->aq
 |none=>[0,2]
 |some x=>if(x.2:Int)<k then[x.1*k+x.2,0]else[0,5]
theorem Lq(k:Int)(x:Nat×Nat):wX k (some x)=if(x.2:Int)<k then[x.1*k+x.2,0]else[0,5]:=rfl
theorem Lp{a:Nat}{k:Int}(aR:a<24)(hk:1<=k/\k<=16):0<=(a:Int)*k/\(a:Int)*k<=368:=by have h1:(a:Int)*k<=23*16:=qJ (by omega) hk.2 (by omega) (by omega);have ι:=yZ (a:=(a:Int)) (b:=k) (by omega) (by omega);omega
theorem Tb(q:eK)(h:kH q)(k:Int)(hk:1<=k/\k<=16)(w:World):EI.C (eX q) (e5 q) k w (ω λv w'=>v=.tuple (bB.v64 (wX k q)).toArray/\w'=w):=by
 apply EI.ok;unfold EI.main;refine κ.use (akR q h w) ?_;rintro _ _ ⟨rfl,rfl⟩;cases q with
 |none=>
  have e:(bB.v64 (prt none)).toArray=#[.int .i64 0,.int .i64 0,.int .i64 2]:=rfl;rw[e]
  try dsimp only[ca,cT,cU,n1,bo,bL]
  refine κ.use (OE k _) ?_;rintro _ _ ⟨rfl,rfl⟩;rw[bI hk.1,bI hk.2]
  try dsimp only[dX]
  rw[cond_neg (by rfl),cond_pos (by decide)];exact ω.mk ⟨rfl,rfl⟩
 |some x=>
  have e:(bB.v64 (prt (some x))).toArray=#[.int .i64 x.1,.int .i64 x.2,.int .i64 0]:=rfl;rw[e]
  try dsimp only[ca,cT,cU,n1,bo,bL]
  refine κ.use (OE k _) ?_;rintro _ _ ⟨rfl,rfl⟩;rw[bI hk.1,bI hk.2]
  try dsimp only[dX]
  have hm:=Lp h.1 hk;have ι:=h.2;rw[cond_neg (by rfl),cond_neg (by decide)];refine bt (λh=>?_) (λh=>?_)
  ·have h:¬(x.2:Int)<k:=by have:=b6 h;omega
   refine ω.mk ⟨?_,rfl⟩;rw[Lq,aL h];rfl
  ·have h:(x.2:Int)<k:=by have:=dn h;omega
   rw[bS (x:=(x.1:Int)*k) (by omega) (by omega),bS (by omega) (by omega)];refine ω.mk ⟨?_,rfl⟩;rw[Lq,aN h];rfl
def may(s k:Int):Bool:=decide (6<=s)&&decide (s<=24)&&decide (2<=k)&&decide (k<=16)
theorem vQ{s k:Int}:may s k=true↔6<=s/\s<=24/\2<=k/\k<=16:=by simp[may,and_assoc]
theorem QN{s k:Int}(h:¬(6<=s/\s<=24/\2<=k/\k<=16)):may s k=false:=by
 cases hm:may s k with
 |false=>rfl
 |true=>exact(h (vQ.1 hm)).elim
theorem M7{s k:Int}(h:6<=s/\s<=24/\2<=k/\k<=16):0<=s*k/\s*k<=384:=by have h1:s*k<=24*16:=qJ h.2.1 h.2.2.2 (by omega) (by omega);have ι:=yZ (a:=s) (b:=k) (by omega) (by omega);omega
def two(s k:Int):aY:=[.int .i64 s,.int .i64 k]
theorem KB(s k:Int)(w:World):Ao.C s k w (ω λv w'=>v=.int .i64 (if may s k then 0 else 1)/\η w w'):=by
 apply Ao.ok;unfold Ao.main;rintro b ε rfl rfl;have o:=μ.new (w:=w) (two s k) b2;have J:=η.alloc w (.cells (two s k).toArray b2);have aP:w.alloc (.cells #[.int .i64 s,.int .i64 k] b2)=w.alloc (.cells (two s k).toArray b2):=rfl;rw[aP];generalize w.alloc (.cells (two s k).toArray b2)=ε at o J⊢;refine⟨s,o.at (by rfl),bt (λh=>?_) (λh=>?_)⟩
 ·have:=b6 h
  rw[QN (by omega)];exact ω.mk ⟨rfl,J⟩
 have h1:=dn h;refine⟨s,o.at (by rfl),bt (λh=>?_) (λh=>?_)⟩
 ·have:=b6 h
  rw[QN (by omega)];exact ω.mk ⟨rfl,J⟩
 have ι:=dn h;refine⟨k,o.at (by rfl),bt (λh=>?_) (λh=>?_)⟩
 ·have:=b6 h
  rw[QN (by omega)];exact ω.mk ⟨rfl,J⟩
 have aJ:=dn h;refine⟨k,o.at (by rfl),bt (λh=>?_) (λh=>?_)⟩
 ·have:=b6 h
  rw[QN (by omega)];exact ω.mk ⟨rfl,J⟩
 have cK:=dn h;rw[vQ.2 (by omega)];exact ω.mk ⟨rfl,J⟩
theorem S1(s k:Int)(ea:6<=s/\s<=24/\2<=k/\k<=16)(w:World):GP.C s k w (ω λv w'=>v=.tuple #[.int .i64 ((s-4)*k),.int .i64 0]/\η w w'):=by
 apply GP.ok;unfold GP.main;rintro b ε rfl rfl;have o:=μ.new (w:=w) (two s k) b2;have J:=η.alloc w (.cells (two s k).toArray b2);have aP:w.alloc (.cells #[.int .i64 s,.int .i64 k] b2)=w.alloc (.cells (two s k).toArray b2):=rfl;rw[aP];generalize w.alloc (.cells (two s k).toArray b2)=ε at o J⊢;refine⟨(two s k).toArray,rfl,o.cells,?_⟩;refine κ.use (KB s k _) ?_;rintro _ υ ⟨rfl,ι⟩
 try dsimp only[bL]
 rw[vQ.2 ea,cond_neg (by decide)];refine⟨s,(o.ex ι).at (by rfl),k,(o.ex ι).at (by rfl),ω.mk ⟨?_,J.trans ι⟩⟩;have hp:=M7 ea;have e:(s-4)*k=s*k-4*k:=Int.sub_mul _ _ _;rw[bS (x:=s-2) (by omega) (by omega),bS (x:=s-2-2) (by omega) (by omega),show s-2-2=s-4 by omega,bS (by omega) (by omega)]
def Ji(s k:Int):eK->Bool
 |none=>false
 |some x=>decide ((x.2:Int)<k)&&decide ((x.1:Int)*k+x.2<s*k)
theorem Mv(s k:Int)(x:Nat×Nat):Ji s k (some x)=(decide ((x.2:Int)<k)&&decide ((x.1:Int)*k+x.2<s*k)):=rfl
theorem ajR(s k:Int)(ea:6<=s/\s<=24/\2<=k/\k<=16)(q:eK)(h:kH q)(w:World):
  An.C s k (eX q) (e5 q) w (ω λv w'=>(∃x e,v=.tuple #[.int .i64 x,.int .i64 e]/\(e !=0)=!(Ji s k q))/\η w w'):=by
 apply An.ok;unfold An.main;rintro δ ε rfl rfl;have o:=μ.new (w:=w) (two s k) b2;have J:=η.alloc w (.cells (two s k).toArray b2);have aP:w.alloc (.cells #[.int .i64 s,.int .i64 k] b2)=w.alloc (.cells (two s k).toArray b2):=rfl;rw[aP];generalize w.alloc (.cells (two s k).toArray b2)=ε at o J⊢;refine⟨(two s k).toArray,rfl,o.cells,?_⟩;refine κ.use (KB s k _) ?_;rintro _ υ ⟨rfl,ι⟩;rw[vQ.2 ea]
 try dsimp only[bL]
 rw[cond_neg (by decide)];refine⟨k,(o.ex ι).at (by rfl),?_⟩;refine κ.use (Tb q h k (by omega) υ) ?_;rintro _ _ ⟨rfl,rfl⟩;cases q with
 |none=>
  have e:(bB.v64 (wX k none)).toArray=#[.int .i64 0,.int .i64 2]:=rfl;rw[e]
  try dsimp only[ca,cT,cU,bo,bL]
  rw[cond_pos (by decide)];exact ω.mk ⟨⟨_,_,rfl,rfl⟩,J.trans ι⟩
 |some x=>
  rw[Lq,Mv];split
  ·rename_i bQ;have e:(bB.v64 [(x.1:Int)*k+x.2,0]).toArray=#[.int .i64 ((x.1:Int)*k+x.2),.int .i64 0]:=rfl;rw[e]
   try dsimp only[ca,cT,cU,bo,bL]
   rw[cond_neg (by decide)];have hp:=M7 ea;have hm:=Lp (k:=k) h.1 (by omega);refine⟨s,(o.ex ι).at (by rfl),k,(o.ex ι).at (by rfl),?_⟩;rw[bS (x:=s*k) (by omega) (by omega)];refine bt (λπ=>?_) (λπ=>?_)
   ·have π:=b6 π;exact ω.mk ⟨⟨_,_,rfl,by rw[iX (by omega:¬(x.1:Int)*k+x.2<s*k)];simp⟩,J.trans ι⟩
   ·have π:=dn π;exact ω.mk ⟨⟨_,_,rfl,by rw[bI bQ,bI (by omega:(x.1:Int)*k+x.2<s*k)];simp⟩,J.trans ι⟩
  ·rename_i bQ;have e:(bB.v64 [(0:Int),5]).toArray=#[.int .i64 0,.int .i64 5]:=rfl;rw[e]
   try dsimp only[ca,cT,cU,bo,bL]
   rw[cond_pos (by decide)];exact ω.mk ⟨⟨_,_,rfl,by rw[iX bQ];simp⟩,J.trans ι⟩
theorem GO{w:World}{p:γ}{l:List eK}(π:bd w p (l.map et)){j:Nat}(ψ:j<l.length):∃a,p=some a/\w.cell? (a.add j)=some (.complex .f64 (eX l[j]) (e5 l[j])):=
 π.many (by rw[List.getElem?_map,List.getElem?_eq_getElem ψ];rfl)
theorem aav{α:Type}(f:α->Bool)(l:List α){j:Nat}(ψ:j<l.length)(h:(l.take j).any f=false):(l.take (j+1)).any f=f l[j]:=by rw[mb ψ,List.any_append,h];simp
theorem any_true{α:Type}(f:α->Bool)(l:List α){j:Nat}(ψ:j<l.length)(h:f l[j]=true):l.any f=true:=Rk.2 ⟨_,hP ψ,h⟩
theorem acD(p:γ)(n c:Nat)(l:List eK)(w:World)(π:bd w p (l.map et))(ar:l.length=n)(ak:n<=1000000)(aG:∀q∈l,kH q):
  wg.C p n c (.func (.func 114) #[] #[]) w (ω λv w'=>v=.bool false/\w'=w):=by
 apply wg.ok;unfold wg.main;have h:uV.C p n c w (ω λv w'=>v=.int .i64 (-1)/\w'=w):=by
  apply uV.ok;unfold uV.main uV.bb;refine⟨λcy cp cG t7 t8 w'=>p=cy/\n=cp/\c=cG/\(n:Int)=t7/\0<=t8/\t8<=n/\w=w',λ_ _ _ _ t8 _=>(n-t8).toNat,⟨rfl,rfl,rfl,rfl,by omega,by omega,rfl⟩,?_⟩;rintro _ _ _ _ t8 _ ⟨rfl,rfl,rfl,rfl,aF,h1,rfl⟩;unfold uV.δ;refine bt (λh=>?_) (λh=>ω.mk ⟨rfl,rfl⟩);have bQ:=b6 h;obtain⟨j,rfl⟩:=eF aF;have ψ:j<l.length:=by omega
  obtain⟨a,rfl,r⟩:=GO π ψ;refine bU (bI aF) (bU (bI bQ) ?_)
  try dsimp only[bo]
  rw[ch,eS];refine⟨_,_,r,?_⟩;have bm:Fs.C (eX l[j]) (e5 l[j]) w (ω λv w'=>v=.bool false/\w'=w):=by
   apply Fs.ok;unfold Fs.main;have hk:=aG _ (hP ψ);rw[empty_eq hk];cases aH:l[j]with
   |none=>
    rw[cond_neg (by rfl)];exact ω.mk ⟨rfl,rfl⟩
   |some x=>
    rw[aH]at hk;rw[cond_pos (by rfl)];refine κ.use (A8 (some x) hk w) ?_;rintro _ _ ⟨rfl,rfl⟩
    try dsimp only[dX]
    exact ω.mk ⟨rfl,rfl⟩
  refine κ.use bm ?_;rintro _ _ ⟨rfl,rfl⟩
  try dsimp only[dX,jz]
  rw[bS (by omega) (by omega)];exact⟨⟨rfl,rfl,rfl,rfl,by omega,by omega,rfl⟩,by((try dsimp only);omega)⟩
 refine κ.use h ?_;rintro _ _ ⟨rfl,rfl⟩
 try dsimp only[bL]
 exact ω.mk ⟨rfl,rfl⟩
def uD(s k:Int)(q:eK):Bool:=q.isSome&&!(Ji s k q)
theorem ao2(p:γ)(n c:Nat)(l:List eK)(w:World)(π:bd w p (l.map et))(ar:l.length=n)(ak:n<=1000000)(aG:∀q∈l,kH q)(s k:Int)(ea:6<=s/\s<=24/\2<=k/\k<=16){B eu:Nat}(o:μ w B b2 2 (some ⟨eu,0,none⟩) 1 1 (two s k)):
  wg.C p n c (.func (.func 125) #[] #[.pointer (some ⟨eu,0,none⟩)]) w (ω λv w'=>v=.bool (l.any (uD s k))/\η w w'):=by
 apply wg.ok;unfold wg.main;have h:uW.C p n c eu w (ω λv w'=>(∃x,v=.int .i64 x/\decide (x>=0)=l.any (uD s k))/\η w w'):=by
  apply uW.ok;unfold uW.main uW.bb;refine⟨λcy cp cG t1 t7 t8 w'=>p=cy/\n=cp/\c=cG/\eu=t1/\(n:Int)=t7/\0<=t8/\t8<=n/\(l.take t8.toNat).any (uD s k)=false/\η w w',λ_ _ _ _ _ t8 _=>(n-t8).toNat,⟨rfl,rfl,rfl,rfl,rfl,by omega,by omega,rfl,η.refl w⟩,?_⟩;rintro _ _ _ _ _ t8 w' ⟨rfl,rfl,rfl,rfl,rfl,aF,h1,hp,J⟩;unfold uW.δ;obtain⟨j,rfl⟩:=eF aF;rw[ch]at hp;refine bt (λh=>?_) (λh=>?_)
  ·have bQ:=b6 h;have ψ:j<l.length:=by omega
   obtain⟨a,rfl,r⟩:=GO (π.ex J) ψ;refine bU (bI aF) (bU (bI bQ) ?_)
   try dsimp only[bo]
   rw[ch,eS];refine⟨_,_,r,?_⟩;have bm:GM.C (eX l[j]) (e5 l[j]) eu w' (ω λv υ=>v=.bool (uD s k l[j])/\η w' υ):=by
    apply GM.ok;unfold GM.main;have hk:=aG _ (hP ψ);refine⟨(two s k).toArray,rfl,(o.ex J).cells,?_⟩;refine κ.use (ajR s k ea l[j] hk w') ?_;rintro _ υ ⟨⟨x,e,rfl,he⟩,ρ⟩
    try dsimp only[ca,cT,cU,bo,bL]
    rw[empty_eq hk];unfold uD;cases aH:l[j]with
    |none=>
     rw[cond_neg (by rfl)];exact ω.mk ⟨rfl,ρ⟩
    |some y=>
     rw[aH]at he;rw[cond_pos (by rfl),he];exact ω.mk ⟨rfl,ρ⟩
   refine κ.use bm ?_;rintro _ υ ⟨rfl,ρ⟩
   try dsimp only[dX]
   refine bt (λh=>?_) (λh=>?_)
   ·exact ω.mk ⟨⟨_,rfl,by rw[any_true _ l ψ h];exact bI aF⟩,J.trans ρ⟩
   ·rw[bS (by omega) (by omega)];refine⟨⟨rfl,rfl,rfl,rfl,rfl,by omega,by omega,?_,J.trans ρ⟩,by((try dsimp only);omega)⟩
    have:((j:Int)+1).toNat=j+1:=by omega
    rw[this,aav _ l ψ hp];exact h
  ·have h:=dn h
   have:j=l.length:=by omega
   subst this;rw[Cb]at hp;exact ω.mk ⟨⟨_,rfl,by rw[hp];rfl⟩,J⟩
 refine κ.use h ?_;rintro _ ε ⟨⟨x,rfl,J⟩,θ⟩
 try dsimp only[bL]
 rw[J];exact ω.mk ⟨rfl,θ⟩
end Go.Proofs.YtcpdfhkhaekekaaGreat.G

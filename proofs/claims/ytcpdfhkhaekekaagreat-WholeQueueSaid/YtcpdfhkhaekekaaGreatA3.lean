/- The walk of the functions, and the plain laws of the model: part of the proof. Conditions: none. -/
import Derived.Test.YtcpdfhkhaekekaaGreatA2
set_option linter.unusedVariables false
set_option linter.unusedSimpArgs false
namespace Go.Proofs.YtcpdfhkhaekekaaGreat.G
open Tryz
open Go.bI
set_option maxRecDepth 100000
def Ge.main(fl gn:Int)(w:World)(R:ak):Prop:=
 aR w #[fl,gn] 28 λε δ=>
 ∃ζ,δ.cell? ⟨ε,0,none⟩=some (.int .i64 ζ)/\
 (∃τ,δ.cell? ⟨ε,1,none⟩=some (.int .i64 τ)/\
  (κ prog 25 #[(IntKind.i64.wrap (40+(IntKind.i64.wrap (ζ*τ))))] δ (λv1 υ=>
   b6 v1 λbT=>
   ξ (bT[0]?) λv2=>
   hD v2 λad=>
   ξ (bT[1]?) λv3=>
   bq .i64 v3 λab=>
   cond (ab !=0) (
    R (.returned (.tuple #[.pointer none,.pointer none])) υ) (
    ∃(aQ:ah),aQ.size=2/\aw υ ⟨ε,0,none⟩ aQ.toList/\
    (κ prog 26 #[.pointer ad,.agg aQ] υ (λv4 ax=>
     bq .i64 v4 λaA=>
     cond (aA !=0) (
      R (.returned (.tuple #[.pointer none,.pointer none])) ax) (
      κ prog 27 #[.pointer ad] ax (λv5 ba=>
       b6 v5 λeV=>
       ξ (eV[0]?) λv6=>
       hD v6 λaX=>
       ξ (eV[1]?) λfS=>
       bq .i64 fS λal=>
       cond (al !=0) (
        R (.returned (.tuple #[.pointer none,.pointer none])) ba) (
        R (.returned (.tuple #[.pointer ad,.pointer aX])) ba)) (aB R))) (aB R)))) (aB R)))
abbrev Ge.C(fl gn:Int):=Calls prog 11 #[.agg #[fl,gn]]
theorem Ge.ok:jT Ge.main Ge.C:=λh=>dt func11 [.tmp 2,.tmp 3] 35 h
def Gh.main(a0 aq:Int)(w:World)(R:ak):Prop:=
 aR w #[(0:Int),(0:Int)] 28 λε δ=>
 bM δ ⟨ε,0,none⟩ [(.int .i64 (IntKind.i64.wrap (6+(IntKind.i64.wrap (Int.tmod a0 9))))),(.int .i64 (IntKind.i64.wrap (2+(IntKind.i64.wrap (Int.tmod aq 5)))))] λυ=>
 (∃(aQ:ah),aQ.size=2/\aw υ ⟨ε,0,none⟩ aQ.toList/\
  (R (.returned (.agg aQ)) υ))
abbrev Gh.C(a0 aq:Int):=Calls prog 12 #[.int .u8 a0,.int .u8 aq]
theorem Gh.ok:jT Gh.main Gh.C:=λh=>dt func12 [.cell 4 28] 14 h
def Gj.main(w:World)(R:ak):Prop:=
 κ prog 11 #[.agg #[(6:Int),(2:Int)]] w (λv1 δ=>
  b6 v1 λbT=>
  ξ (bT[0]?) λv2=>
  hD v2 λad=>
  ξ (bT[1]?) λv3=>
  hD v3 λaX=>
  cond (Option.isNone ad) (
   R (.returned (.bool false)) δ) (
   cond (Option.isNone aX) (
    R (.returned (.bool false)) δ) (
    κ prog 14 #[.pointer aX,.agg #[(1:Int),(0:Int),(0:Int),(2:Int),.slice none 0 0]] δ (λv4 aa=>
     dZ v4 λaQ=>
     aR aa #[(0:Int),(0:Int),(0:Int),.slice none 0 0,.slice none 0 0] 37 λε aG=>
     ο (decide (aQ.size=5)) (
      bM aG ⟨ε,0,none⟩ aQ.toList λba=>
      (κ prog 15 #[.int .u8 9] ba (λv5 bk=>
       df v5 λbl aD c1=>
       κ prog 14 #[.pointer aX,.agg #[(5:Int),(0:Int),(1:Int),(0:Int),.slice bl aD c1]] bk (λv6 ca=>
        dZ v6 λbK=>
        aR ca #[(0:Int),(0:Int),(0:Int),.slice none 0 0,.slice none 0 0] 37 λι cH=>
        ο (decide (bK.size=5)) (
         bM cH ⟨ι,0,none⟩ bK.toList λcn=>
         (∃ζ,cn.cell? ⟨ε,1,none⟩=some (.int .i64 ζ)/\
          (cond (ζ==0) (
           ∃τ,cn.cell? ⟨ι,1,none⟩=some (.int .i64 τ)/\
           (cond (τ==0) (
           κ prog 17 #[.pointer aX,(0:Int),(1:Int)] cn (λfS de=>
           lH fS λs1=>
           κ prog 15 #[.int .u8 9] de (λbg ep=>
           df bg λej br c2=>
           ∃(kh:ao),kh.length=br/\a8 ep ej (kh.map (.int .u8))/\
           (cond (s1.toList==(strOf kh).toList) (
           κ prog 18 #[.pointer aX] ep (λv9 gP=>
           bq .i64 v9 λab=>
           R (.returned (.bool (ab==1))) gP) (aB R)) (
           R (.returned (.bool false)) ep))) (aB R)) (aB R)) (
           R (.returned (.bool false)) cn))) (
           R (.returned (.bool false)) cn))))) (aB R)) (aB R)))) (aB R)))) (aB R)
abbrev Gj.C:=Calls prog 13 #[]
theorem Gj.ok:Ru Gj.main Gj.C:=λh=>dt func13 [.tmp 0] 43 h
def Gf.main(a0:J)(e0 e1 j3 j4:Int)(kS:J)(kR kQ:Nat)(w:World)(R:ak):Prop:=
 aR w #[e0,e1,j3,j4,.slice kS kR kQ] 40 λε δ=>
 aR δ #[(0:Int),(0:Int),(0:Int),.slice none 0 0,.slice none 0 0] 37 λι υ=>
 aR υ #[] 5 λaH aa=>
 ∃ad aD c1,aa.cell? ⟨ε,4,none⟩=some (.slice ad aD c1)/\
 (gD aa (some ⟨aH,0,none⟩) 0 0 aD (a8 aa ad) 5 1 1 #[.int .u8 0] λaX c2 ax=>
  ef ax ⟨ε,4,none⟩ (.slice aX (0+aD) c2) λaG=>
  (∃(aQ:ah),aQ.size=5/\aw aG ⟨ε,0,none⟩ aQ.toList/\
   (κ prog 28 #[.pointer a0,.agg aQ] aG (λv1 ba=>
    dZ v1 λbK=>
    ο (decide (bK.size=5)) (
     bM ba ⟨ι,0,none⟩ bK.toList λb9=>
     (∃(b2:ah),b2.size=5/\aw b9 ⟨ι,0,none⟩ b2.toList/\
      (R (.returned (.agg b2)) b9)))) (aB R))))
abbrev Gf.C(a0:J)(e0 e1 j3 j4:Int)(kS:J)(kR kQ:Nat):=Calls prog 14 #[.pointer a0,.agg #[e0,e1,j3,j4,.slice kS kR kQ]]
theorem Gf.ok:C8 Gf.main Gf.C:=λh=>dt func14 [.cell 4 37] 13 h
def tH.ε(t0:Int)(dW:J)(dL ec:Nat)(t4:Int)(w:World)(R:ak)(aS:Int->J->Nat->Nat->Int->ai):Prop:=
 cond (decide (t4<64)) (
  ο (decide (0<=t4)) (
   ο (decide (t4<((dL:Nat):Int))) (
    ξ dW λd1=>
    ef w (d1.add (t4.toNat*1)) (.int .u8 t0) λυ=>
    (aS t0 dW dL ec (IntKind.i64.wrap (t4+1)) υ)))) (
  R (.returned (.slice dW dL ec)) w)
def tH.bd:=Cj tH.ε
def tH.main(a0:Int)(w:World)(R:ak):Prop:=
 aR w (madeCells #[.int .u8 0] (64*1)) 5 λε δ=>
 tH.bd a0 (some ⟨ε,0,none⟩) 64 64 0 δ R
abbrev tH.C(a0:Int):=Calls prog 15 #[.int .u8 a0]
theorem tH.ok:ic tH.main tH.C:=λ{_ _ R}h=>fg func15 [.tmp 2] 15 (.seq .leaf (.seq .leaf (.seq (.seq .leaf (.block (.loop [(0,.int .u8),(3,.slice),(4,.int .i64)] (tH.bd · · · · · · R) λaS=>.leaf))) .leaf))) h
def zh.main(a0:J)(aq:Int)(w:World)(R:ak):Prop:=
 aR w #[(0:Int),(0:Int),(0:Int),.slice none 0 0,.slice none 0 0] 37 λε δ=>
 cond (Option.isNone a0) (
  bM δ ⟨ε,0,none⟩ [(.int .i64 0),(.int .i64 1),(.int .i64 0),(.slice none 0 0),(.slice none 0 0)] λυ=>
  (∃(aQ:ah),aQ.size=5/\aw υ ⟨ε,0,none⟩ aQ.toList/\
   (R (.returned (.tuple #[.agg aQ,.bool true])) υ))) (
  ξ a0 λd1=>
  ∃ζ,δ.cell? (d1.add 10)=some (.int .i64 ζ)/\
  (ξ a0 λd2=>
   ef δ (d2.add 10) (.int .i64 (IntKind.i64.wrap (ζ+1))) λaa=>
   (cond (aq==1) (
    κ prog 29 #[.pointer a0] aa (λv1 ax=>
     b6 v1 λbT=>
     ξ (bT[0]?) λv2=>
     dZ v2 λbK=>
     ξ (bT[1]?) λv3=>
     dD v3 λι=>
     ο (decide (bK.size=5)) (
      bM ax ⟨ε,0,none⟩ bK.toList λba=>
      (∃(b2:ah),b2.size=5/\aw ba ⟨ε,0,none⟩ b2.toList/\
       (R (.returned (.tuple #[.agg b2,.bool ι])) ba)))) (aB R)) (
    cond (aq==2) (
     κ prog 30 #[.pointer a0,.func (.func 31) #[.pointer a0] #[]] aa (λv4 bk=>
      bq .i64 v4 λτ=>
      bM bk ⟨ε,0,none⟩ [(.int .i64 0),(.int .i64 τ),(.int .i64 0),(.slice none 0 0),(.slice none 0 0)] λcH=>
      (∃(bY:ah),bY.size=5/\aw cH ⟨ε,0,none⟩ bY.toList/\
       (R (.returned (.tuple #[.agg bY,.bool (τ !=0)])) cH))) (aB R)) (
     cond (aq==3) (
      κ prog 30 #[.pointer a0,.func (.func 32) #[.pointer a0] #[]] aa (λv5 ca=>
       bq .i64 v5 λab=>
       bM ca ⟨ε,0,none⟩ [(.int .i64 0),(.int .i64 ab),(.int .i64 0),(.slice none 0 0),(.slice none 0 0)] λcn=>
       (∃(cN:ah),cN.size=5/\aw cn ⟨ε,0,none⟩ cN.toList/\
        (R (.returned (.tuple #[.agg cN,.bool (ab !=0)])) cn))) (aB R)) (
      cond (aq==4) (
       bM aa ⟨ε,0,none⟩ [(.int .i64 0),(.int .i64 0),(.int .i64 0),(.slice none 0 0),(.slice none 0 0)] λde=>
       (∃(dU:ah),dU.size=5/\aw de ⟨ε,0,none⟩ dU.toList/\
        (R (.returned (.tuple #[.agg dU,.bool (0!=0)])) de))) (
       bM aa ⟨ε,0,none⟩ [(.int .i64 0),(.int .i64 1),(.int .i64 0),(.slice none 0 0),(.slice none 0 0)] λdJ=>
       (∃(hc:ah),hc.size=5/\aw dJ ⟨ε,0,none⟩ hc.toList/\
        (R (.returned (.tuple #[.agg hc,.bool (1!=0)])) dJ)))))))))
abbrev zh.C(a0:J)(aq:Int):=Calls prog 16 #[.pointer a0,aq]
theorem zh.ok:jT zh.main zh.C:=λh=>dt func16 [.cell 4 37,.tmp 5] 42 h
def Gi.main(a0:J)(aq a2:Int)(w:World)(R:ak):Prop:=
 κ prog 28 #[.pointer a0,.agg #[(4:Int),aq,a2,(0:Int),.slice none 0 0]] w (λv1 δ=>
  dZ v1 λaQ=>
  aR δ #[(0:Int),(0:Int),(0:Int),.slice none 0 0,.slice none 0 0] 37 λε aa=>
  ο (decide (aQ.size=5)) (
   bM aa ⟨ε,0,none⟩ aQ.toList λax=>
   (∃ζ,ax.cell? ⟨ε,1,none⟩=some (.int .i64 ζ)/\
    (cond (ζ !=0) (
     R (.returned (.string (⟨#[110,111,110,101]⟩:ByteArray))) ax) (
     ∃ad aD c1,ax.cell? ⟨ε,3,none⟩=some (.slice ad aD c1)/\
     (∃(kh:ao),kh.length=aD/\a8 ax ad (kh.map (.int .u8))/\
      (R (.returned (.string (strOf kh))) ax))))))) (aB R)
abbrev Gi.C(a0:J)(aq a2:Int):=Calls prog 17 #[.pointer a0,aq,a2]
theorem Gi.ok:iL Gi.main Gi.C:=λh=>dt func17 [.tmp 6] 19 h
def Gg.main(a0:J)(w:World)(R:ak):Prop:=
 κ prog 28 #[.pointer a0,.agg #[(8:Int),(0:Int),(0:Int),(0:Int),.slice none 0 0]] w (λv1 δ=>
  dZ v1 λaQ=>
  aR δ #[(0:Int),(0:Int),(0:Int),.slice none 0 0,.slice none 0 0] 37 λε aa=>
  ο (decide (aQ.size=5)) (
   bM aa ⟨ε,0,none⟩ aQ.toList λax=>
   (∃ζ,ax.cell? ⟨ε,1,none⟩=some (.int .i64 ζ)/\
    (cond (ζ !=0) (
     R (.returned (.int .i64 (-1))) ax) (
     ∃ad aD c1,ax.cell? ⟨ε,4,none⟩=some (.slice ad aD c1)/\
     (cond (((aD:Nat):Int)!=2) (
      R (.returned (.int .i64 (-1))) ax) (
      ∃aX br c2,ax.cell? ⟨ε,4,none⟩=some (.slice aX br c2)/\
      (ο (decide (0<((br:Nat):Int))) (
       ξ aX λd1=>
       ∃τ,ax.cell? d1=some (.int .i64 τ)/\
       (R (.returned (.int .i64 τ)) ax)))))))))) (aB R)
abbrev Gg.C(a0:J):=Calls prog 18 #[.pointer a0]
theorem Gg.ok:ic Gg.main Gg.C:=λh=>dt func18 [.tmp 2] 20 h
def Fw.main(a0:J)(e0 e1 j3 j4:Int)(kS:J)(kR kQ:Nat)(w:World)(R:ak):Prop:=
 aR w #[e0,e1,j3,j4,.slice kS kR kQ] 40 λε δ=>
 cond (Option.isNone a0) (
  R (.returned (.tuple #[(0:Int),(1:Int)])) δ) (
  ξ a0 λd1=>
  ∃ad,δ.drew.cell? d1=some (.pointer ad)/\
  (∃(aQ:ah),aQ.size=5/\aw δ.drew ⟨ε,0,none⟩ aQ.toList/\
   (κ prog 33 #[.pointer ad,.agg aQ] δ.drew (λv1 υ=>
    b6 v1 λbT=>
    ξ (bT[0]?) λv2=>
    bq .i64 v2 λζ=>
    ξ (bT[1]?) λv3=>
    bq .i64 v3 λτ=>
    R (.returned (.tuple #[ζ,τ])) υ) (aB R))))
abbrev Fw.C(a0:J)(e0 e1 j3 j4:Int)(kS:J)(kR kQ:Nat):=Calls prog 20 #[.pointer a0,.agg #[e0,e1,j3,j4,.slice kS kR kQ]]
theorem Fw.ok:C8 Fw.main Fw.C:=λh=>dt func20 [.tmp 4,.tmp 5] 16 h
def DA.main(a0:J)(w:World)(R:ak):Prop:=
 cond (Option.isNone a0) (
  R (.returned (.int .i64 0)) w) (
  ξ a0 λd1=>
  ∃ad aD c1,w.cell? (d1.add 1)=some (.slice ad aD c1)/\
  (R (.returned (.int .i64 ((aD:Nat):Int))) w))
abbrev DA.C(a0:J):=Calls prog 22 #[.pointer a0]
theorem DA.ok:ic DA.main DA.C:=λh=>dt func22 [.tmp 2] 10 h
def BF.main(a0:J)(aq:Int)(w:World)(R:ak):Prop:=
 κ prog 35 #[.pointer a0] w (λv1 δ=>
  bq .i64 v1 λζ=>
  cond (ζ !=0) (
   R (.returned (.tuple #[.slice none 0 0,ζ])) δ) (
   cond (decide (aq<0)) (
    R (.returned (.tuple #[.slice none 0 0,(5:Int)])) δ) (
    ξ a0 λd1=>
    ∃ad aD c1,δ.cell? (d1.add 1)=some (.slice ad aD c1)/\
    (cond (decide (aq>=((aD:Nat):Int))) (
     R (.returned (.tuple #[.slice none 0 0,(5:Int)])) δ) (
     ξ a0 λd2=>
     ∃aX br c2,δ.cell? (d2.add 1)=some (.slice aX br c2)/\
     (ο (decide (0<=aq)) (
      ο (decide (aq<((br:Nat):Int))) (
       ξ aX λd3=>
       κ prog 36 #[.slice (dA (some (d3.add (aq.toNat*64))) 64 0 1) 64 64] δ (λv2 aa=>
        df v2 λbl dz bJ=>
        R (.returned (.tuple #[.slice bl dz bJ,(0:Int)])) aa) (aB R))))))))) (aB R)
abbrev BF.C(a0:J)(aq:Int):=Calls prog 23 #[.pointer a0,aq]
theorem BF.ok:jT BF.main BF.C:=λh=>dt func23 [.tmp 4,.tmp 5] 31 h
def DD.main(a0:Int)(w:World)(R:ak):Prop:=
 cond (decide (a0<1)) (
  R (.returned (.tuple #[.pointer none,(1:Int)])) w) (
  cond (decide (a0>424)) (
   R (.returned (.tuple #[.pointer none,(1:Int)])) w) (
   (ο (decide (0<=a0)) (
    ο (decide (a0<=a0)) (
     ο (decide ((64:Int)*a0<=281474976710656/\a0<=9223372036854775807)) (
      aR w.drew (madeCells (List.replicate 64 (.int .u8 0)).toArray (a0.toNat*64)) 82 λε δ=>
      ο (decide (0<=a0)) (
       ο (decide (a0<=a0)) (
        ο (decide ((64:Int)*a0<=281474976710656/\a0<=9223372036854775807)) (
         aR δ (madeCells (List.replicate 64 (.int .u8 0)).toArray (a0.toNat*64)) 82 λι υ=>
         aR υ #[.slice (some ⟨ε,0,none⟩) a0.toNat a0.toNat,.slice (some ⟨ι,0,none⟩) a0.toNat a0.toNat,.slice none 0 0,(-1:Int),.bool false] 78 λaH aa=>
         R (.returned (.tuple #[.pointer (some ⟨aH,0,none⟩),(0:Int)])) aa)))))))/\
   (ο (decide (0<=a0)) (
    ο (decide (a0<=a0)) (
     ο (decide ((64:Int)*a0<=281474976710656/\a0<=9223372036854775807)) (
      aR w.drew (madeCells (List.replicate 64 (.int .u8 0)).toArray (a0.toNat*64)) 82 λaf ax=>
      ο (decide (0<=a0)) (
       ο (decide (a0<=a0)) (
        ο (decide ((64:Int)*a0<=281474976710656/\a0<=9223372036854775807)) (
         aR ax (madeCells (List.replicate 64 (.int .u8 0)).toArray (a0.toNat*64)) 82 λdC aG=>
         aR aG #[.slice (some ⟨dC,0,none⟩) a0.toNat a0.toNat,.slice (some ⟨af,0,none⟩) a0.toNat a0.toNat,.slice none 0 0,(-1:Int),.bool false] 78 λgb ba=>
         R (.returned (.tuple #[.pointer (some ⟨gb,0,none⟩),(0:Int)])) ba)))))))))
abbrev DD.C(a0:Int):=Calls prog 25 #[a0]
theorem DD.ok:ic DD.main DD.C:=λh=>dt func25 [.tmp 2,.tmp 3] 16 h
def Ia.main(a0:J)(e0 e1:Int)(w:World)(R:ak):Prop:=
 aR w #[e0,e1] 28 λε δ=>
 ∃(aQ:ah),aQ.size=2/\aw δ ⟨ε,0,none⟩ aQ.toList/\
 (κ prog 37 #[.pointer a0,.agg aQ] δ (λv1 υ=>
  bq .i64 v1 λζ=>
  R (.returned (.int .i64 ζ)) υ) (aB R))
abbrev Ia.C(a0:J)(e0 e1:Int):=Calls prog 26 #[.pointer a0,.agg #[e0,e1]]
theorem Ia.ok:iL Ia.main Ia.C:=λh=>dt func26 [.tmp 4] 8 h
def uW.aZ(t4 t5:Nat)(CO:J)(CN Gy t11:Nat)(w:World)(R:ak):Prop:=
 ∃(hB:ah),hB.size=24/\aw w ⟨t4,0,none⟩ hB.toList/\
 (κ prog 41 #[.agg hB] w (λv12 gP=>
  b6 v12 λhQ=>
  ξ (hQ[0]?) λpq=>
  hD pq λej=>
  ξ (hQ[1]?) λsn=>
  bq .i64 sn λaJ=>
  ef gP ⟨t11,4,none⟩ (.pointer ej) λfF=>
  (∃(hy:ah),hy.size=2/\aw fF ⟨t5,0,none⟩ hy.toList/\
   (κ prog 42 #[.agg hy,.slice CO CN Gy] fF (λso eK=>
    b6 so λlU=>
    ξ (lU[0]?) λsq=>
    hD sq λfD=>
    ξ (lU[1]?) λv17=>
    bq .i64 v17 λaV=>
    ef eK ⟨t11,5,none⟩ (.pointer fD) λfb=>
    (R (.returned (.tuple #[.pointer (some ⟨t11,0,none⟩),(0:Int)])) fb)) (aB R)))) (aB R))
def uW.main(a0:J)(w:World)(R:ak):Prop:=
 κ prog 38 #[.pointer a0] w (λv1 δ=>
  b6 v1 λbT=>
  ξ (bT[0]?) λv2=>
  dZ v2 λaQ=>
  ξ (bT[1]?) λv3=>
  dZ v3 λbK=>
  ξ (bT[2]?) λv4=>
  bq .i64 v4 λζ=>
  ξ (bT[3]?) λv5=>
  bq .i64 v5 λτ=>
  ξ (bT[4]?) λv6=>
  bq .i64 v6 λab=>
  aR δ #[(0:Int),(0:Int),(0:Int),(0:Int),(0:Int),(0:Int),(0:Int),(0:Int),(0:Int),(0:Int),(0:Int),(0:Int),(0:Int),(0:Int),(0:Int),(0:Int),.slice none 0 0,.slice none 0 0,.slice none 0 0,.slice none 0 0,.slice none 0 0,.slice none 0 0,.slice none 0 0,.slice none 0 0] 89 λε aa=>
  aR aa #[(0:Int),(0:Int)] 28 λι ax=>
  ο (decide (aQ.size=24)) (
   bM ax ⟨ε,0,none⟩ aQ.toList λaG=>
   (ο (decide (bK.size=2)) (
    bM aG ⟨ι,0,none⟩ bK.toList λba=>
    (cond (ab !=0) (
     R (.returned (.tuple #[.pointer none,ab])) ba) (
     ∃(b2:ah),b2.size=24/\aw ba ⟨ε,0,none⟩ b2.toList/\
     (∃(bY:ah),bY.size=2/\aw ba ⟨ι,0,none⟩ bY.toList/\
      (κ prog 39 #[.agg b2,.agg bY,.slice none 0 0] ba (λfS bk=>
       b6 fS λeV=>
       ξ (eV[0]?) λbg=>
       df bg λad aD c1=>
       ξ (eV[1]?) λv9=>
       bq .i64 v9 λaA=>
       ∃(cN:ah),cN.size=2/\aw bk.drew ⟨ι,0,none⟩ cN.toList/\
       (∃al,bk.drew.cell? ⟨ι,0,none⟩=some (.int .i64 al)/\
        ((κ prog 40 #[] bk.drew (λv10 ca=>
          hD v10 λaX=>
          ca.cell? ⟨ι,0,none⟩=some (.int .i64 al)/\
          (ο (decide (cN.size=2)) (
          aw ca ⟨ι,0,none⟩ cN.toList/\
          (ο (decide (0<=al)) (
          ο (decide (al<=al)) (
          ο (decide ((8:Int)*al<=281474976710656/\al<=9223372036854775807)) (
          aR ca (madeCells #[(0:Int)] (al.toNat*1)) 3 λaH cH=>
          ο (decide (cN.size=2)) (
          aw cH ⟨ι,0,none⟩ cN.toList/\
          (ξ (Instr.fill (λi=>[(0,1),(1,1),(2,2),(4,1),(5,1),(6,1),(7,1),(8,1),(9,1),(10,1),(11,1),(12,1)].toArray[i]?) #[.pointer none,.pointer none,(0:Int),(0:Int),.pointer none,.pointer none,(0:Int),(0:Int),.slice none 0 0,.bool false,(0:Int),.slice none 0 0,.bool false] [(0,(.pointer aX)),(1,(.pointer a0)),(2,(.agg cN)),(5,(.int .i64 ζ)),(6,(.int .i64 16)),(8,(.bool (decide (τ>0)))),(10,(.slice (some ⟨aH,0,none⟩) al.toNat al.toNat))]) λdU=>
          aR cH dU 72 λaf cn=>
          uW.aZ ε ι ad aD c1 af cn R))))))))) (aB R))/\
         (ο (decide (0<=al)) (
          ο (decide (al<=al)) (
          ο (decide ((8:Int)*al<=281474976710656/\al<=9223372036854775807)) (
          aR bk.drew (madeCells #[(0:Int)] (al.toNat*1)) 3 λdC de=>
          ο (decide (cN.size=2)) (
          aw de ⟨ι,0,none⟩ cN.toList/\
          (κ prog 40 #[] de (λv11 dJ=>
          hD v11 λbl=>
          ο (decide (cN.size=2)) (
          aw dJ ⟨ι,0,none⟩ cN.toList/\
          (ξ (Instr.fill (λi=>[(0,1),(1,1),(2,2),(4,1),(5,1),(6,1),(7,1),(8,1),(9,1),(10,1),(11,1),(12,1)].toArray[i]?) #[.pointer none,.pointer none,(0:Int),(0:Int),.pointer none,.pointer none,(0:Int),(0:Int),.slice none 0 0,.bool false,(0:Int),.slice none 0 0,.bool false] [(0,(.pointer bl)),(1,(.pointer a0)),(2,(.agg cN)),(5,(.int .i64 ζ)),(6,(.int .i64 16)),(8,(.bool (decide (τ>0)))),(10,(.slice (some ⟨dC,0,none⟩) al.toNat al.toNat))]) λhc=>
          aR dJ hc 72 λgb eO=>
          uW.aZ ε ι ad aD c1 gb eO R))) (aB R)))))))))) (aB R))))))))) (aB R)
abbrev uW.C(a0:J):=Calls prog 27 #[.pointer a0]
theorem uW.ok:ic uW.main uW.C:=λ{_ _ R}h=>fg func27 [.tmp 2,.tmp 3] 58 (.seq .leaf (.seq .leaf (.seq .leaf (.seq .leaf (.cut [(4,.c5),(5,.c5),(9,.slice),(11,.c5)] (uW.aZ · · · · · · · R) .leaf .leaf))))) h
def mb.ε(t0:J)(t4:Nat)(w:World)(R:ak)(aS:J->Nat->ai):Prop:=
 κ prog 16 #[.pointer t0,(1:Int)] w (λv5 dk=>
  b6 v5 λeV=>
  ξ (eV[0]?) λv6=>
  dZ v6 λcN=>
  ξ (eV[1]?) λfS=>
  dD fS λaH=>
  aR dk #[(0:Int),(0:Int),(0:Int),.slice none 0 0,.slice none 0 0] 37 λaf cn=>
  ο (decide (cN.size=5)) (
   bM cn ⟨af,0,none⟩ cN.toList λde=>
   (∃aA,de.cell? ⟨af,1,none⟩=some (.int .i64 aA)/\
    (cond (aA !=12) (
     ∃(dU:ah),dU.size=5/\aw de ⟨af,0,none⟩ dU.toList/\
     (ο (decide (dU.size=5)) (
       bM de ⟨t4,0,none⟩ dU.toList λdJ=>
       (∃(hc:ah),hc.size=5/\aw dJ ⟨t4,0,none⟩ hc.toList/\
        (R (.returned (.agg hc)) dJ))))) (
     κ prog 16 #[.pointer t0,(2:Int)] de (λbg ep=>
      b6 bg λhQ=>
      ξ (hQ[0]?) λv9=>
      dZ v9 λhB=>
      ξ (hQ[1]?) λv10=>
      dD v10 λdC=>
      aR ep #[(0:Int),(0:Int),(0:Int),.slice none 0 0,.slice none 0 0] 37 λgb gP=>
      ο (decide (hB.size=5)) (
       bM gP ⟨gb,0,none⟩ hB.toList λgj=>
       (cond dC (
         ξ t0 λd2=>
         ∃aX,gj.cell? d2=some (.pointer aX)/\
         (κ prog 43 #[.pointer aX] gj (λv11 fF=>
          bq .i64 v11 λal=>
          ∃aJ,fF.cell? ⟨af,0,none⟩=some (.int .i64 aJ)/\
          (ef fF ⟨gb,0,none⟩ (.int .i64 aJ) λfY=>
           (∃(hy:ah),hy.size=5/\aw fY ⟨gb,0,none⟩ hy.toList/\
           (ο (decide (hy.size=5)) (
           bM fY ⟨t4,0,none⟩ hy.toList λfb=>
           (∃(iN:ah),iN.size=5/\aw fb ⟨t4,0,none⟩ iN.toList/\
           (R (.returned (.agg iN)) fb))))))) (aB R))) (
         aS t0 t4 gj)))) (aB R)))))) (aB R)
def mb.bd:=acn mb.ε
def mb.main(a0:J)(e0 e1 j3 j4:Int)(kS:J)(kR kQ:Nat)(w:World)(R:ak):Prop:=
 aR w #[e0,e1,j3,j4,.slice kS kR kQ] 40 λε δ=>
 aR δ #[(0:Int),(0:Int),(0:Int),.slice none 0 0,.slice none 0 0] 37 λι υ=>
 cond (Option.isNone a0) (
  bM υ ⟨ι,0,none⟩ [(.int .i64 0),(.int .i64 1),(.int .i64 0),(.slice none 0 0),(.slice none 0 0)] λaa=>
  (∃(aQ:ah),aQ.size=5/\aw aa ⟨ι,0,none⟩ aQ.toList/\
   (R (.returned (.agg aQ)) aa))) (
  ξ a0 λd1=>
  ∃ad,υ.cell? d1=some (.pointer ad)/\
  (κ prog 34 #[.pointer ad] υ (λv1 ax=>
    bq .i64 v1 λζ=>
    cond (decide (ζ>0)) (
     bM ax ⟨ι,0,none⟩ [(.int .i64 0),(.int .i64 12),(.int .i64 0),(.slice none 0 0),(.slice none 0 0)] λba=>
     (∃(bK:ah),bK.size=5/\aw ba ⟨ι,0,none⟩ bK.toList/\
      (R (.returned (.agg bK)) ba))) (
     ∃(b2:ah),b2.size=5/\aw ax ⟨ε,0,none⟩ b2.toList/\
     (κ prog 20 #[.pointer a0,.agg b2] ax (λv2 bk=>
       b6 v2 λbT=>
       ξ (bT[0]?) λv3=>
       bq .i64 v3 λτ=>
       ξ (bT[1]?) λv4=>
       bq .i64 v4 λab=>
       cond (ab !=0) (
        bM bk ⟨ι,0,none⟩ [(.int .i64 0),(.int .i64 ab),(.int .i64 0),(.slice none 0 0),(.slice none 0 0)] λca=>
        (∃(bY:ah),bY.size=5/\aw ca ⟨ι,0,none⟩ bY.toList/\
         (R (.returned (.agg bY)) ca))) (
        mb.bd a0 ι bk R)) (aB R)))) (aB R)))
abbrev mb.C(a0:J)(e0 e1 j3 j4:Int)(kS:J)(kR kQ:Nat):=Calls prog 28 #[.pointer a0,.agg #[e0,e1,j3,j4,.slice kS kR kQ]]
theorem mb.ok:C8 mb.main mb.C:=λ{_ _ _ _ _ _ _ _ _ R}h=>fg func28 [.cell 4 37] 55 (.seq .leaf (.seq .leaf (.seq .leaf (.seq .leaf (.block (.loop [(0,.ptr),(4,.c5)] (mb.bd · · · R) λaS=>.leaf)))))) h
def q2.aZ(t1 t2:Nat)(t4 t6:Int)(t7:Nat)(w:World)(R:ak):Prop:=
 ef w ⟨t7,0,none⟩ (.int .i64 t4) λde=>
 (cond (t6 !=12) (
  ∃ej,de.cell? ⟨t1,0,none⟩=some (.pointer ej)/\
  (ξ ej λd2=>
   ∃fD,de.cell? d2=some (.pointer fD)/\
   (κ prog 43 #[.pointer fD] de (λv6 dJ=>
     bq .i64 v6 λaA=>
     ∃(b2:ah),b2.size=5/\aw dJ ⟨t7,0,none⟩ b2.toList/\
     (ο (decide (b2.size=5)) (
      bM dJ ⟨t2,0,none⟩ b2.toList λeO=>
      (∃(bY:ah),bY.size=5/\aw eO ⟨t2,0,none⟩ bY.toList/\
       (R (.returned (.tuple #[.agg bY,.bool true])) eO))))) (aB R)))) (
  ∃(cN:ah),cN.size=5/\aw de ⟨t7,0,none⟩ cN.toList/\
  (ο (decide (cN.size=5)) (
    bM de ⟨t2,0,none⟩ cN.toList λgP=>
    (∃(dU:ah),dU.size=5/\aw gP ⟨t2,0,none⟩ dU.toList/\
     (R (.returned (.tuple #[.agg dU,.bool true])) gP))))))
def q2.main(a0:J)(w:World)(R:ak):Prop:=
 aR w #[.pointer a0] 24 λε δ=>
 aR δ #[(0:Int),(0:Int),(0:Int),.slice none 0 0,.slice none 0 0] 37 λι υ=>
 ∃ad,υ.cell? ⟨ε,0,none⟩=some (.pointer ad)/\
 (ξ ad λd1=>
  ∃aX,υ.cell? d1=some (.pointer aX)/\
  (κ prog 44 #[.pointer aX] υ (λv1 aa=>
   b6 v1 λbT=>
   ξ (bT[0]?) λv2=>
   bq .i64 v2 λζ=>
   ξ (bT[1]?) λv3=>
   dZ v3 λaQ=>
   ξ (bT[2]?) λv4=>
   bq .i64 v4 λτ=>
   aR aa #[(0:Int),(0:Int),(0:Int),(0:Int),.slice none 0 0] 40 λaH aG=>
   ο (decide (aQ.size=5)) (
    bM aG ⟨aH,0,none⟩ aQ.toList λba=>
    (cond (τ !=0) (
     bM ba ⟨ι,0,none⟩ [(.int .i64 0),(.int .i64 0),(.int .i64 0),(.slice none 0 0),(.slice none 0 0)] λbk=>
     (∃(bK:ah),bK.size=5/\aw bk ⟨ι,0,none⟩ bK.toList/\
      (R (.returned (.tuple #[.agg bK,.bool false])) bk))) (
     aR ba #[(0:Int),(0:Int),(0:Int),.slice none 0 0,.slice none 0 0] 37 λaf b9=>
     bM b9 ⟨af,0,none⟩ [(.int .i64 0),(.int .i64 0),(.int .i64 0),(.slice none 0 0),(.slice none 0 0)] λca=>
     (∃bl,ca.cell? ⟨ε,0,none⟩=some (.pointer bl)/\
      (κ prog 30 #[.pointer bl,.func (.func 45) #[] #[.pointer (some ⟨ε,0,none⟩),.pointer (some ⟨aH,0,none⟩),.pointer (some ⟨af,0,none⟩)]] ca (λv5 dk=>
       bq .i64 v5 λab=>
       cond (ab !=0) (
        bM dk ⟨af,0,none⟩ [(.int .i64 0),(.int .i64 ab),(.int .i64 0),(.slice none 0 0),(.slice none 0 0)] λcn=>
        (q2.aZ ε ι ζ ab af cn R)) (
        q2.aZ ε ι ζ ab af dk R)) (aB R))))))) (aB R)))
abbrev q2.C(a0:J):=Calls prog 29 #[.pointer a0]
theorem q2.ok:ic q2.main q2.C:=λ{_ _ R}h=>fg func29 [.cell 2 37,.tmp 3] 38 (.seq .leaf (.seq .leaf (.seq .leaf (.seq .leaf (.seq .leaf (.cut [(1,.c5),(2,.c5),(4,.int .i64),(6,.int .i64),(7,.c5)] (q2.aZ · · · · · · R) .leaf .leaf)))))) h
def iV.b7(t0:J)(t2:Nat)(hX:J)(fB ir:Nat)(CL:J)(zs Gu:Nat)(w:World)(R:ak):Prop:=
 ∃(hB:ah),hB.size=24/\aw w ⟨t2,0,none⟩ hB.toList/\
 (κ prog 56 #[.agg hB,.slice hX fB ir,.slice CL zs Gu] w (λv24 k3=>
  b6 v24 λQL=>
  ξ (QL[0]?) λv25=>
  dZ v25 λhy=>
  ξ (QL[1]?) λv26=>
  bq .i64 v26 λdG=>
  ο (decide (hy.size=24)) (
   bM k3 ⟨t2,0,none⟩ hy.toList λjr=>
   (κ prog 52 #[dG] jr (λMt kN=>
    b6 Mt λahF=>
    ∃(iN:ah),iN.size=24/\aw kN ⟨t2,0,none⟩ iN.toList/\
    (κ prog 41 #[.agg iN] kN (λv28 tQ=>
     b6 v28 λQM=>
     ξ (QM[0]?) λMu=>
     hD Mu λeZ=>
     ξ (QM[1]?) λv30=>
     bq .i64 v30 λgV=>
     ξ t0 λd13=>
     ef tQ (d13.add 4) (.pointer eZ) λnM=>
     (κ prog 32 #[.pointer t0] nM (λv31 ox=>
      b6 v31 λW8=>
      R (.returned (.tuple #[])) ox) (aB R))) (aB R))) (aB R)))) (aB R))
def iV.ι(t0:J)(t2:Nat)(hX:J)(fB ir:Nat)(CL:J)(zs Gu:Nat)(Qw:J)(Qv WM:Nat)(t97 t98:Int)(w:World)(R:ak)(fG:J->Nat->J->Nat->Nat->J->Nat->Nat->J->Nat->Nat->Int->Int->ai):Prop:=
 cond (decide (t98<t97)) (
  ο (decide (0<=t98)) (
   ο (decide (t98<((Qv:Nat):Int))) (
    ξ Qw λd10=>
    ∃cS m1,w.cell? (d10.add (t98.toNat*1))=some (.complex .f64 cS m1)/\
    (ξ t0 λd11=>
     ∃(hc:ah),hc.size=2/\aw w (d11.add 2) hc.toList/\
     (κ prog 54 #[.agg hc,.complex .f64 cS m1] w (λsq eK=>
      b6 sq λQN=>
      ξ (QN[0]?) λv17=>
      bq .i64 v17 λcv=>
      ξ (QN[1]?) λvh=>
      bq .i64 vh λe7=>
      ξ t0 λd12=>
      ∃iB,eK.cell? (d12.add 1)=some (.pointer iB)/\
      (κ prog 23 #[.pointer iB,cv] eK (λvi fb=>
       b6 vi λQO=>
       ξ (QO[0]?) λv20=>
       df v20 λnD pF h2=>
       ξ (QO[1]?) λv21=>
       bq .i64 v21 λfu=>
       κ prog 52 #[fu] fb (λv22 fT=>
        b6 v22 λahJ=>
        κ prog 55 #[.pointer t0,.slice nD pF h2,(0:Int)] fT (λv23 hg=>
         lG v23 λfX m2=>
         aR hg #[.complex .f64 fX m2] 113 λaf jf=>
         gD jf CL zs Gu 1 (a8 jf (some ⟨af,0,none⟩)) 113 1 16 #[.complex .f64 0 0] λiq nt kx=>
         fG t0 t2 hX fB ir iq (zs+1) nt Qw Qv WM t97 (IntKind.i64.wrap (t98+1)) kx) (aB R)) (aB R)) (aB R))) (aB R)))))) (
  iV.b7 t0 t2 hX fB ir CL zs Gu w R)
def iV.fm:=OX iV.ι
def iV.bP(t0:J)(t2:Nat)(t10:Int)(w:World)(R:ak):Prop:=
 ∃(cN:ah),cN.size=24/\aw w.drew ⟨t2,0,none⟩ cN.toList/\
 (ξ t0 λd9=>
  ∃(dU:ah),dU.size=2/\aw w.drew (d9.add 2) dU.toList/\
  (κ prog 53 #[.agg cN,.agg dU,t10] w.drew (λpq gj=>
   b6 pq λBd=>
   ξ (Bd[0]?) λsn=>
   df sn λfD iA fU=>
   ξ (Bd[1]?) λso=>
   bq .i64 so λct=>
   iV.fm t0 t2 fD iA fU none 0 0 fD iA fU ((iA:Nat):Int) 0 gj R) (aB R)))
def iV.aZ(t0:J)(t2:Nat)(dW:J)(dL ec:Nat)(lR:J)(mi mh:Nat)(w:World)(R:ak):Prop:=
 ξ t0 λd6=>
 ∃bl,w.cell? (d6.add 5)=some (.pointer bl)/\
 (κ prog 50 #[.pointer bl] w (λv5 ca=>
  b6 v5 λeV=>
  ξ (eV[0]?) λv6=>
  df v6 λej dz bJ=>
  ξ (eV[1]?) λfS=>
  bq .i64 fS λaA=>
  ξ t0 λd7=>
  ∃(bY:ah),bY.size=2/\aw ca (d7.add 2) bY.toList/\
  (aR ca #[aA] 3 λaH cH=>
   κ prog 51 #[.agg bY,.slice dW dL ec,.slice lR mi mh,.slice (some ⟨aH,0,none⟩) 1 1] cH (λbg cn=>
    b6 bg λhQ=>
    ξ (hQ[0]?) λv9=>
    bq .i64 v9 λal=>
    ξ (hQ[1]?) λv10=>
    bq .i64 v10 λaJ=>
    cond (aJ !=0) (
     κ prog 32 #[.pointer t0] cn (λv11 dJ=>
      b6 v11 λlU=>
      R (.returned (.tuple #[])) dJ) (aB R)) (
     ξ t0 λd8=>
     ∃aV,cn.cell? (d8.add 6)=some (.int .i64 aV)/\
     (cond (aV==1073741824) (
       κ prog 52 #[(13:Int)] cn (λv12 eO=>
        b6 v12 λvk=>
        iV.bP t0 t2 al eO R) (aB R)) (
       iV.bP t0 t2 al cn R)))) (aB R))) (aB R))
def iV.ε(t0:J)(t2:Nat)(dW:J)(dL ec:Nat)(lR:J)(mi mh:Nat)(Qp:J)(Qo WI:Nat)(t39 t40:Int)(w:World)(R:ak)(aS:J->Nat->J->Nat->Nat->J->Nat->Nat->J->Nat->Nat->Int->Int->ai):Prop:=
 cond (decide (t40<t39)) (
  ο (decide (0<=t40)) (
   ο (decide (t40<((Qo:Nat):Int))) (
    ξ Qp λd3=>
    ∃τ,w.cell? (d3.add (t40.toNat*1))=some (.int .i64 τ)/\
    (ξ t0 λd4=>
     ∃ab,w.cell? (d4.add 10)=some (.int .i64 ab)/\
     (ο (decide (0<=t40)) (
      ο (decide (t40<((mi:Nat):Int))) (
       ξ lR λd5=>
       ef w (d5.add (t40.toNat*1)) (.int .i64 (min2 (IntKind.i64.wrap (ab-τ)) 65535)) λb9=>
       (aS t0 t2 dW dL ec lR mi mh Qp Qo WI t39 (IntKind.i64.wrap (t40+1)) b9)))))))) (
  iV.aZ t0 t2 dW dL ec lR mi mh w R)
def iV.bd:=OX iV.ε
def iV.main(a0:J)(w:World)(R:ak):Prop:=
 κ prog 48 #[.pointer a0] w (λv1 δ=>
  dZ v1 λaQ=>
  aR δ #[(0:Int),(0:Int),(0:Int),(0:Int),(0:Int),(0:Int),(0:Int),(0:Int),(0:Int),(0:Int),(0:Int),(0:Int),(0:Int),(0:Int),(0:Int),(0:Int),.slice none 0 0,.slice none 0 0,.slice none 0 0,.slice none 0 0,.slice none 0 0,.slice none 0 0,.slice none 0 0,.slice none 0 0] 89 λε aa=>
  ο (decide (aQ.size=24)) (
   bM aa ⟨ε,0,none⟩ aQ.toList λax=>
   (∃(bK:ah),bK.size=24/\aw ax.drew ⟨ε,0,none⟩ bK.toList/\
    (ξ a0 λd1=>
     ∃(b2:ah),b2.size=2/\aw ax.drew (d1.add 2) b2.toList/\
     (κ prog 49 #[.agg bK,.agg b2] ax.drew (λv2 aG=>
      b6 v2 λbT=>
      ξ (bT[0]?) λv3=>
      df v3 λad aD c1=>
      ξ (bT[1]?) λv4=>
      bq .i64 v4 λζ=>
      ο (decide (0<=((aD:Nat):Int))) (
       ο (decide (((aD:Nat):Int)<=((aD:Nat):Int))) (
        ο (decide ((8:Int)*((aD:Nat):Int)<=281474976710656/\((aD:Nat):Int)<=9223372036854775807)) (
         aR aG (madeCells #[(0:Int)] (aD*1)) 3 λι bk=>
         ξ a0 λd2=>
         ∃aX br c2,bk.cell? (d2.add 11)=some (.slice aX br c2)/\
         (iV.bd a0 ε ad aD c1 (some ⟨ι,0,none⟩) aD aD aX br c2 ((br:Nat):Int) 0 bk R))))) (aB R)))))) (aB R)
abbrev iV.C(a0:J):=Calls prog 31 #[.pointer a0]
theorem iV.ok:ic iV.main iV.C:=λ{_ _ R}h=>fg func31 [] 148 (.seq .leaf (.seq .leaf (.seq .leaf (.cut [(0,.ptr),(2,.c5),(3,.slice),(5,.slice)] (iV.aZ · · · · · · · · · R) (.seq .leaf (.block (.loop [(0,.ptr),(2,.c5),(3,.slice),(5,.slice),(38,.slice),(39,.int .i64),(40,.int .i64)] (iV.bd · · · · · · · · · · · · · · R) λaS=>.leaf))) (.seq .leaf (.seq .leaf (.seq .leaf (.cut [(0,.ptr),(2,.c5),(10,.int .i64)] (iV.bP · · · · R) .leaf (.seq .leaf (.seq .leaf (.cut [(0,.ptr),(2,.c5),(12,.slice),(14,.slice)] (iV.b7 · · · · · · · · · R) (.seq .leaf (.block (.loop [(0,.ptr),(2,.c5),(12,.slice),(14,.slice),(96,.slice),(97,.int .i64),(98,.int .i64)] (iV.fm · · · · · · · · · · · · · · R) λfG=>.leaf))) .leaf))))))))))) h
def oi.ε(t0 Qu:J)(Qt WL:Nat)(t76 t77:Int)(w:World)(R:ak)(aS:J->J->Nat->Nat->Int->Int->ai):Prop:=
 cond (decide (t77<t76)) (
  ο (decide (0<=t77)) (
   ο (decide (t77<((Qt:Nat):Int))) (
    ξ Qu λd13=>
    ∃ct,w.cell? (d13.add (t77.toNat*1))=some (.int .i64 ct)/\
    (ξ t0 λd14=>
     ∃iB,w.cell? (d14.add 5)=some (.pointer iB)/\
     (κ prog 59 #[.pointer iB,ct] w (λpq fT=>
      bq .i64 pq λcv=>
      aS t0 Qu Qt WL t76 (IntKind.i64.wrap (t77+1)) fT) (aB R)))))) (
  R (.returned (.tuple #[])) w)
def oi.bd:=pD oi.ε
def oi.aZ(t0:J)(w:World)(R:ak):Prop:=
 κ prog 48 #[.pointer t0] w (λv2 aa=>
  dZ v2 λaQ=>
  aR aa #[(0:Int),(0:Int),(0:Int),(0:Int),(0:Int),(0:Int),(0:Int),(0:Int),(0:Int),(0:Int),(0:Int),(0:Int),(0:Int),(0:Int),(0:Int),(0:Int),.slice none 0 0,.slice none 0 0,.slice none 0 0,.slice none 0 0,.slice none 0 0,.slice none 0 0,.slice none 0 0,.slice none 0 0] 89 λε aG=>
  ο (decide (aQ.size=24)) (
   bM aG ⟨ε,0,none⟩ aQ.toList λba=>
   (ξ t0 λd2=>
    ∃ad,ba.cell? (d2.add 1)=some (.pointer ad)/\
    (κ prog 57 #[.pointer ad] ba (λv3 bk=>
     bq .i64 v3 λτ=>
     κ prog 52 #[τ] bk (λv4 ca=>
      b6 v4 λeV=>
      ξ t0 λd3=>
      ∃aX,ca.drew.cell? (d3.add 1)=some (.pointer aX)/\
      (∃(bK:ah),bK.size=24/\aw ca.drew ⟨ε,0,none⟩ bK.toList/\
       (ξ t0 λd4=>
        ∃(b2:ah),b2.size=2/\aw ca.drew (d4.add 2) b2.toList/\
        (ξ t0 λd5=>
         ∃ab,ca.drew.cell? (d5.add 6)=some (.int .i64 ab)/\
         (κ prog 58 #[.pointer aX,.agg bK,.agg b2,(IntKind.i64.wrap (ab+1))] ca.drew (λv5 cH=>
          bq .i64 v5 λaA=>
          κ prog 52 #[aA] cH (λv6 de=>
           b6 v6 λhQ=>
           ξ t0 λd6=>
           ∃al,de.cell? (d6.add 6)=some (.int .i64 al)/\
           (ξ t0 λd7=>
           ef de (d7.add 6) (.int .i64 (IntKind.i64.wrap (al+1))) λep=>
           (ξ t0 λd8=>
           ef ep (d8.add 7) (.int .i64 0) λeO=>
           (ξ t0 λd9=>
           ef eO (d9.add 8) (.slice none 0 0) λgP=>
           (ξ t0 λd10=>
           ef gP (d10.add 9) (.bool false) λgj=>
           (ξ t0 λd11=>
           ∃bl,gj.cell? (d11.add 5)=some (.pointer bl)/\
           (κ prog 50 #[.pointer bl] gj (λfS fF=>
           b6 fS λlU=>
           ξ (lU[0]?) λbg=>
           df bg λej aD c1=>
           ξ (lU[1]?) λv9=>
           bq .i64 v9 λaJ=>
           ∃(bY:ah),bY.size=24/\aw fF.drew ⟨ε,0,none⟩ bY.toList/\
           (ξ t0 λd12=>
           ∃(cN:ah),cN.size=2/\aw fF.drew (d12.add 2) cN.toList/\
           (aR fF.drew #[aJ] 3 λι fY=>
           ο (decide (cN.size=2)) (
           aw fY (d12.add 2) cN.toList/\
           (ο (decide (bY.size=24)) (
           aw fY ⟨ε,0,none⟩ bY.toList/\
           (κ prog 39 #[.agg bY,.agg cN,.slice (some ⟨ι,0,none⟩) 1 1] fY (λv10 fb=>
           b6 v10 λvk=>
           ξ (vk[0]?) λv11=>
           df v11 λfD br c2=>
           ξ (vk[1]?) λv12=>
           bq .i64 v12 λaV=>
           oi.bd t0 fD br c2 ((br:Nat):Int) 0 fb R) (aB R)))))))) (aB R)))))))) (aB R)) (aB R)))))) (aB R)) (aB R))))) (aB R)
def oi.main(a0:J)(w:World)(R:ak):Prop:=
 ξ a0 λd1=>
 ∃ζ,w.cell? (d1.add 6)=some (.int .i64 ζ)/\
 (cond (ζ==1073741824) (
  κ prog 52 #[(13:Int)] w (λv1 δ=>
   b6 v1 λbT=>
   oi.aZ a0 δ R) (aB R)) (
  oi.aZ a0 w R))
abbrev oi.C(a0:J):=Calls prog 32 #[.pointer a0]
theorem oi.ok:ic oi.main oi.C:=λ{_ _ R}h=>fg func32 [] 88 (.cut [(0,.ptr)] (oi.aZ · · R) .leaf (.seq .leaf (.seq .leaf (.seq .leaf (.seq .leaf (.seq .leaf (.seq .leaf (.seq .leaf (.block (.loop [(0,.ptr),(75,.slice),(76,.int .i64),(77,.int .i64)] (oi.bd · · · · · · · R) λaS=>.leaf)))))))))) h
def Ec.main(a0:J)(e0 e1 j3 j4:Int)(kS:J)(kR kQ:Nat)(w:World)(R:ak):Prop:=
 aR w #[e0,e1,j3,j4,.slice kS kR kQ] 40 λε δ=>
 cond (Option.isNone a0) (
  R (.returned (.tuple #[(0:Int),(1:Int)])) δ) (
  ∃(aQ:ah),aQ.size=5/\aw δ ⟨ε,0,none⟩ aQ.toList/\
  (κ prog 60 #[.agg aQ] δ (λv1 υ=>
   bq .i64 v1 λζ=>
   cond (ζ !=0) (
    R (.returned (.tuple #[(0:Int),ζ])) υ) (
    ξ a0 λd1=>
    ∃ad aD c1,υ.cell? d1=some (.slice ad aD c1)/\
    (cond (decide (((aD:Nat):Int)>=16)) (
     R (.returned (.tuple #[(0:Int),(12:Int)])) υ) (
     ξ a0 λd2=>
     ∃τ,υ.cell? (d2.add 1)=some (.int .i64 τ)/\
     (ξ a0 λd3=>
      ef υ (d3.add 1) (.int .i64 (IntKind.i64.wrap (τ+1))) λax=>
      (ξ a0 λd4=>
       ∃aX br c2,ax.drew.cell? d4=some (.slice aX br c2)/\
       (∃(bK:ah),bK.size=5/\aw ax.drew ⟨ε,0,none⟩ bK.toList/\
        (ξ a0 λd5=>
         ∃ab,ax.drew.cell? (d5.add 1)=some (.int .i64 ab)/\
         (κ prog 61 #[.agg bK] ax.drew (λv2 aG=>
          dZ v2 λb2=>
          aG.cell? (d5.add 1)=some (.int .i64 ab)/\
          (aG.cell? d4=some (.slice aX br c2)/\
          (ξ (Instr.fill (λi=>[(0,5),(5,1)].toArray[i]?) #[(0:Int),(0:Int),(0:Int),(0:Int),.slice none 0 0,(0:Int)] [(0,(.agg b2)),(1,(.int .i64 ab))]) λbY=>
          aR aG #[.iface 126 (.agg bY)] 20 λι bk=>
          bk.cell? d4=some (.slice aX br c2)/\
          (gD bk aX br c2 1 (a8 bk (some ⟨ι,0,none⟩)) 20 1 16 #[Value.nilIface] λbl bJ b9=>
          ξ a0 λd6=>
          ef b9 d6 (.slice bl (br+1) bJ) λca=>
          (ξ a0 λd7=>
          ∃aA,ca.cell? (d7.add 1)=some (.int .i64 aA)/\
          (R (.returned (.tuple #[aA,(0:Int)])) ca)))))) (aB R)))))))))) (aB R)))
abbrev Ec.C(a0:J)(e0 e1 j3 j4:Int)(kS:J)(kR kQ:Nat):=Calls prog 33 #[.pointer a0,.agg #[e0,e1,j3,j4,.slice kS kR kQ]]
theorem Ec.ok:C8 Ec.main Ec.C:=λh=>dt func33 [.tmp 4,.tmp 5] 48 h
def Eb.main(a0:J)(w:World)(R:ak):Prop:=
 cond (Option.isNone a0) (
  R (.returned (.int .i64 0)) w) (
  ξ a0 λd1=>
  ∃ad aD c1,w.cell? d1=some (.slice ad aD c1)/\
  (R (.returned (.int .i64 ((aD:Nat):Int))) w))
abbrev Eb.C(a0:J):=Calls prog 34 #[.pointer a0]
theorem Eb.ok:ic Eb.main Eb.C:=λh=>dt func34 [.tmp 2] 10 h
def DB.main(a0:J)(w:World)(R:ak):Prop:=
 cond (Option.isNone a0) (
  R (.returned (.int .i64 1)) w) (
  ξ a0 λd1=>
  ∃ε,w.cell? (d1.add 4)=some (.bool ε)/\
  (cond ε (
   R (.returned (.int .i64 10)) w) (
   R (.returned (.int .i64 0)) w)))
abbrev DB.C(a0:J):=Calls prog 35 #[.pointer a0]
theorem DB.ok:ic DB.main DB.C:=λh=>dt func35 [.tmp 2] 11 h
def yC.main(bD:J)(a6 bx:Nat)(w:World)(R:ak):Prop:=
 cond (Option.isNone bD) (
  R (.returned (.slice none 0 0)) w) (
  aR w #[] 5 λε δ=>
  gD δ (some ⟨ε,0,none⟩) 0 0 a6 (a8 δ bD) 5 1 1 #[.int .u8 0] λad c1 υ=>
  R (.returned (.slice ad (0+a6) c1)) υ)
abbrev yC.C(bD:J)(a6 bx:Nat):=Calls prog 36 #[.slice bD a6 bx]
theorem yC.ok:iL yC.main yC.C:=λh=>dt func36 [.tmp 2] 8 h
def mP.bP(t0:J)(t3:Nat)(w:World)(R:ak):Prop:=
 ∃(bK:ah),bK.size=2/\aw w ⟨t3,0,none⟩ bK.toList/\
 (κ prog 58 #[.pointer t0,.agg #[(0:Int),(0:Int),(0:Int),(0:Int),(0:Int),(0:Int),(0:Int),(0:Int),(0:Int),(0:Int),(0:Int),(0:Int),(0:Int),(0:Int),(0:Int),(0:Int),.slice none 0 0,.slice none 0 0,.slice none 0 0,.slice none 0 0,.slice none 0 0,.slice none 0 0,.slice none 0 0,.slice none 0 0],.agg bK,(1:Int)] w (λbg ep=>
  bq .i64 bg λaV=>
  R (.returned (.int .i64 aV)) ep) (aB R))
def mP.ε(t0:J)(t3:Nat)(nJ:J)(nk pj:Nat)(t45:Int)(w:World)(R:ak)(aS:J->Nat->J->Nat->Nat->Int->ai):Prop:=
 cond (decide (t45<16)) (
  aR w #[(IntKind.i64.wrap (24+t45)),.slice nJ nk pj] 130 λaf cn=>
  κ prog 63 #[.pointer t0,.slice (some ⟨af,0,none⟩) 1 1] cn (λfS de=>
   bq .i64 fS λaJ=>
   cond (aJ !=0) (
    R (.returned (.int .i64 aJ)) de) (
    aS t0 t3 nJ nk pj (IntKind.i64.wrap (t45+1)) de)) (aB R)) (
  mP.bP t0 t3 w R)
def mP.bd:=pD mP.ε
def mP.aZ(t0:J)(t3:Nat)(t5:Int)(t17:Bool)(w:World)(R:ak):Prop:=
 cond t17 (
  R (.returned (.int .i64 1)) w) (
  κ prog 22 #[.pointer t0] w (λv4 ax=>
   bq .i64 v4 λab=>
   cond (decide (ab<t5)) (
    R (.returned (.int .i64 9)) ax) (
    aR ax (madeCells #[.int .u8 0] (64*1)) 5 λι ba=>
    aR ba #[(0:Int),.slice (some ⟨ι,0,none⟩) 64 64,(12:Int),.slice (some ⟨ι,0,none⟩) 64 64] 130 λaH bk=>
    κ prog 63 #[.pointer t0,.slice (some ⟨aH,0,none⟩) 2 2] bk (λv5 b9=>
     bq .i64 v5 λaA=>
     cond (aA !=0) (
      R (.returned (.int .i64 aA)) b9) (
      κ prog 57 #[.pointer t0] b9 (λv6 dk=>
       bq .i64 v6 λal=>
       cond (al !=0) (
        R (.returned (.int .i64 al)) dk) (
        mP.bd t0 t3 (some ⟨ι,0,none⟩) 64 64 0 dk R)) (aB R))) (aB R))) (aB R))
def mP.main(a0:J)(e0 e1:Int)(w:World)(R:ak):Prop:=
 aR w #[e0,e1] 28 λε δ=>
 ∃(aQ:ah),aQ.size=2/\aw δ ⟨ε,0,none⟩ aQ.toList/\
 (κ prog 62 #[.agg aQ] δ (λv1 υ=>
  b6 v1 λbT=>
  ξ (bT[0]?) λv2=>
  bq .i64 v2 λζ=>
  ξ (bT[1]?) λv3=>
  bq .i64 v3 λτ=>
  cond (τ !=0) (
   mP.aZ a0 ε ζ true υ R) (
   mP.aZ a0 ε ζ (Option.isNone a0) υ R)) (aB R))
abbrev mP.C(a0:J)(e0 e1:Int):=Calls prog 37 #[.pointer a0,.agg #[e0,e1]]
theorem mP.ok:iL mP.main mP.C:=λ{_ _ _ _ R}h=>fg func37 [.tmp 4] 63 (.seq .leaf (.seq .leaf (.seq (.block (.cut [(0,.ptr),(3,.c5),(5,.int .i64),(17,.bool)] (mP.aZ · · · · · R) .leaf .leaf)) (.seq .leaf (.seq .leaf (.seq .leaf (.cut [(0,.ptr),(3,.c5)] (mP.bP · · · R) (.seq .leaf (.block (.loop [(0,.ptr),(3,.c5),(7,.slice),(45,.int .i64)] (mP.bd · · · · · · · R) λaS=>.leaf))) .leaf))))))) h
def FP.main(a0:J)(w:World)(R:ak):Prop:=
 aR w #[(0:Int),(0:Int),(0:Int),(0:Int),(0:Int),(0:Int),(0:Int),(0:Int),(0:Int),(0:Int),(0:Int),(0:Int),(0:Int),(0:Int),(0:Int),(0:Int),.slice none 0 0,.slice none 0 0,.slice none 0 0,.slice none 0 0,.slice none 0 0,.slice none 0 0,.slice none 0 0,.slice none 0 0] 89 λε δ=>
 aR δ #[(0:Int),(0:Int)] 28 λι υ=>
 κ prog 64 #[.pointer a0] υ (λv1 aa=>
  b6 v1 λbT=>
  ξ (bT[0]?) λv2=>
  dZ v2 λaQ=>
  ξ (bT[1]?) λv3=>
  dZ v3 λbK=>
  ξ (bT[2]?) λv4=>
  bq .i64 v4 λζ=>
  ξ (bT[3]?) λv5=>
  bq .i64 v5 λτ=>
  ο (decide (aQ.size=24)) (
   bM aa ⟨ε,0,none⟩ aQ.toList λaG=>
   (ο (decide (bK.size=2)) (
    bM aG ⟨ι,0,none⟩ bK.toList λba=>
    (cond (τ !=0) (
     bM ba ⟨ε,0,none⟩ [(.int .i64 0),(.int .i64 0),(.int .i64 0),(.int .i64 0),(.int .i64 0),(.int .i64 0),(.int .i64 0),(.int .i64 0),(.int .i64 0),(.int .i64 0),(.int .i64 0),(.int .i64 0),(.int .i64 0),(.int .i64 0),(.int .i64 0),(.int .i64 0),(.slice none 0 0),(.slice none 0 0),(.slice none 0 0),(.slice none 0 0),(.slice none 0 0),(.slice none 0 0),(.slice none 0 0),(.slice none 0 0)] λbk=>
     (bM bk ⟨ι,0,none⟩ [(.int .i64 0),(.int .i64 0)] λb9=>
      (∃(b2:ah),b2.size=24/\aw b9 ⟨ε,0,none⟩ b2.toList/\
       (∃(bY:ah),bY.size=2/\aw b9 ⟨ι,0,none⟩ bY.toList/\
        (R (.returned (.tuple #[.agg b2,.agg bY,(0:Int),(0:Int),τ])) b9))))) (
     ∃(cN:ah),cN.size=2/\aw ba ⟨ι,0,none⟩ cN.toList/\
     (κ prog 62 #[.agg cN] ba (λv6 ca=>
       b6 v6 λeV=>
       ξ (eV[0]?) λfS=>
       bq .i64 fS λab=>
       ξ (eV[1]?) λbg=>
       bq .i64 bg λaA=>
       κ prog 22 #[.pointer a0] ca (λv9 cH=>
        bq .i64 v9 λal=>
        cond (decide (al<ab)) (
         bM cH ⟨ε,0,none⟩ [(.int .i64 0),(.int .i64 0),(.int .i64 0),(.int .i64 0),(.int .i64 0),(.int .i64 0),(.int .i64 0),(.int .i64 0),(.int .i64 0),(.int .i64 0),(.int .i64 0),(.int .i64 0),(.int .i64 0),(.int .i64 0),(.int .i64 0),(.int .i64 0),(.slice none 0 0),(.slice none 0 0),(.slice none 0 0),(.slice none 0 0),(.slice none 0 0),(.slice none 0 0),(.slice none 0 0),(.slice none 0 0)] λde=>
         (bM de ⟨ι,0,none⟩ [(.int .i64 0),(.int .i64 0)] λdJ=>
          (∃(dU:ah),dU.size=24/\aw dJ ⟨ε,0,none⟩ dU.toList/\
           (∃(hc:ah),hc.size=2/\aw dJ ⟨ι,0,none⟩ hc.toList/\
           (R (.returned (.tuple #[.agg dU,.agg hc,(0:Int),(0:Int),(11:Int)])) dJ))))) (
         κ prog 65 #[.pointer a0,ζ] cH (λv10 ep=>
          b6 v10 λhQ=>
          ξ (hQ[0]?) λv11=>
          df v11 λad aD c1=>
          ξ (hQ[1]?) λv12=>
          bq .i64 v12 λaJ=>
          ξ (hQ[2]?) λpq=>
          bq .i64 pq λaV=>
          cond (aV !=0) (
           bM ep ⟨ε,0,none⟩ [(.int .i64 0),(.int .i64 0),(.int .i64 0),(.int .i64 0),(.int .i64 0),(.int .i64 0),(.int .i64 0),(.int .i64 0),(.int .i64 0),(.int .i64 0),(.int .i64 0),(.int .i64 0),(.int .i64 0),(.int .i64 0),(.int .i64 0),(.int .i64 0),(.slice none 0 0),(.slice none 0 0),(.slice none 0 0),(.slice none 0 0),(.slice none 0 0),(.slice none 0 0),(.slice none 0 0),(.slice none 0 0)] λgP=>
           (bM gP ⟨ι,0,none⟩ [(.int .i64 0),(.int .i64 0)] λgj=>
           (∃(hB:ah),hB.size=24/\aw gj ⟨ε,0,none⟩ hB.toList/\
           (∃(hy:ah),hy.size=2/\aw gj ⟨ι,0,none⟩ hy.toList/\
           (R (.returned (.tuple #[.agg hB,.agg hy,(0:Int),(0:Int),aV])) gj))))) (
           ∃(iN:ah),iN.size=24/\aw ep ⟨ε,0,none⟩ iN.toList/\
           (κ prog 66 #[.agg iN,.slice ad aD c1] ep (λsn fF=>
           b6 sn λlU=>
           ξ (lU[0]?) λso=>
           dZ so λko=>
           ξ (lU[1]?) λsq=>
           bq .i64 sq λct=>
           ξ (lU[2]?) λv17=>
           bq .i64 v17 λcv=>
           ο (decide (ko.size=24)) (
           bM fF ⟨ε,0,none⟩ ko.toList λfY=>
           (cond (cv !=0) (
           bM fY ⟨ε,0,none⟩ [(.int .i64 0),(.int .i64 0),(.int .i64 0),(.int .i64 0),(.int .i64 0),(.int .i64 0),(.int .i64 0),(.int .i64 0),(.int .i64 0),(.int .i64 0),(.int .i64 0),(.int .i64 0),(.int .i64 0),(.int .i64 0),(.int .i64 0),(.int .i64 0),(.slice none 0 0),(.slice none 0 0),(.slice none 0 0),(.slice none 0 0),(.slice none 0 0),(.slice none 0 0),(.slice none 0 0),(.slice none 0 0)] λfT=>
           (bM fT ⟨ι,0,none⟩ [(.int .i64 0),(.int .i64 0)] λqF=>
           (∃(oM:ah),oM.size=24/\aw qF ⟨ε,0,none⟩ oM.toList/\
           (∃(kp:ah),kp.size=2/\aw qF ⟨ι,0,none⟩ kp.toList/\
           (R (.returned (.tuple #[.agg oM,.agg kp,(0:Int),(0:Int),(11:Int)])) qF))))) (
           ∃(lF:ah),lF.size=24/\aw fY ⟨ε,0,none⟩ lF.toList/\
           (∃(oL:ah),oL.size=2/\aw fY ⟨ι,0,none⟩ oL.toList/\
           (κ prog 67 #[.agg lF,.agg oL] fY (λvh fb=>
           bq .i64 vh λe7=>
           cond (e7 !=0) (
           bM fb ⟨ε,0,none⟩ [(.int .i64 0),(.int .i64 0),(.int .i64 0),(.int .i64 0),(.int .i64 0),(.int .i64 0),(.int .i64 0),(.int .i64 0),(.int .i64 0),(.int .i64 0),(.int .i64 0),(.int .i64 0),(.int .i64 0),(.int .i64 0),(.int .i64 0),(.int .i64 0),(.slice none 0 0),(.slice none 0 0),(.slice none 0 0),(.slice none 0 0),(.slice none 0 0),(.slice none 0 0),(.slice none 0 0),(.slice none 0 0)] λhg=>
           (bM hg ⟨ι,0,none⟩ [(.int .i64 0),(.int .i64 0)] λiX=>
           (∃(j6:ah),j6.size=24/\aw iX ⟨ε,0,none⟩ j6.toList/\
           (∃(my:ah),my.size=2/\aw iX ⟨ι,0,none⟩ my.toList/\
           (R (.returned (.tuple #[.agg j6,.agg my,(0:Int),(0:Int),(11:Int)])) iX))))) (
           ∃(mz:ah),mz.size=24/\aw fb ⟨ε,0,none⟩ mz.toList/\
           (∃(uq:ah),uq.size=2/\aw fb ⟨ι,0,none⟩ uq.toList/\
           (κ prog 39 #[.agg mz,.agg uq,.slice none 0 0] fb (λvi jf=>
           b6 vi λvk=>
           ξ (vk[0]?) λv20=>
           df v20 λaX br c2=>
           ξ (vk[1]?) λv21=>
           bq .i64 v21 λfu=>
           cond (decide (((br:Nat):Int)<2)) (
           bM jf ⟨ε,0,none⟩ [(.int .i64 0),(.int .i64 0),(.int .i64 0),(.int .i64 0),(.int .i64 0),(.int .i64 0),(.int .i64 0),(.int .i64 0),(.int .i64 0),(.int .i64 0),(.int .i64 0),(.int .i64 0),(.int .i64 0),(.int .i64 0),(.int .i64 0),(.int .i64 0),(.slice none 0 0),(.slice none 0 0),(.slice none 0 0),(.slice none 0 0),(.slice none 0 0),(.slice none 0 0),(.slice none 0 0),(.slice none 0 0)] λk3=>
           (bM k3 ⟨ι,0,none⟩ [(.int .i64 0),(.int .i64 0)] λCT=>
           (∃(yE:ah),yE.size=24/\aw CT ⟨ε,0,none⟩ yE.toList/\
           (∃(DS:ah),DS.size=2/\aw CT ⟨ι,0,none⟩ DS.toList/\
           (R (.returned (.tuple #[.agg yE,.agg DS,(0:Int),(0:Int),(11:Int)])) CT))))) (
           ∃(Ac:ah),Ac.size=24/\aw jf.drew ⟨ε,0,none⟩ Ac.toList/\
           (∃(ur:ah),ur.size=2/\aw jf.drew ⟨ι,0,none⟩ ur.toList/\
           (ο (decide (Ac.size=24)) (
           bM jf.drew ⟨ε,0,none⟩ Ac.toList λjr=>
           (ο (decide (ur.size=2)) (
           aw jr ⟨ι,0,none⟩ ur.toList/\
           (ο (decide (ur.size=2)) (
           bM jr ⟨ι,0,none⟩ ur.toList λkN=>
           (∃(DT:ah),DT.size=24/\aw kN ⟨ε,0,none⟩ DT.toList/\
           (∃(DU:ah),DU.size=2/\aw kN ⟨ι,0,none⟩ DU.toList/\
           (R (.returned (.tuple #[.agg DT,.agg DU,ζ,((aD:Nat):Int),(0:Int)])) kN)))))))))))) (aB R))))) (aB R))))))) (aB R)))) (aB R))) (aB R)) (aB R)))))))) (aB R)
abbrev FP.C(a0:J):=Calls prog 38 #[.pointer a0]
theorem FP.ok:ic FP.main FP.C:=λh=>dt func38 [.cell 2 89,.cell 3 28,.tmp 4,.tmp 5,.tmp 6] 81 h
def sM.ε(ez:J)(et eT:Nat)(fh:J)(fa fq:Nat)(IT:J)(IS L9:Nat)(t23 t24:Int)(w:World)(R:ak)(aS:J->Nat->Nat->J->Nat->Nat->J->Nat->Nat->Int->Int->ai):Prop:=
 cond (decide (t24<t23)) (
  ο (decide (0<=t24)) (
   ο (decide (t24<((IS:Nat):Int))) (
    ξ IT λd1=>
    ∃τ,w.cell? (d1.add (t24.toNat*1))=some (.int .i64 τ)/\
    (cond (τ==0) (
     κ prog 68 #[.slice ez et eT,t24] w (λv4 aG=>
      dD v4 λaH=>
      cond (!aH) (
       aR aG #[t24] 3 λaf bk=>
       gD bk fh fa fq 1 (a8 bk (some ⟨af,0,none⟩)) 3 1 8 #[(0:Int)] λaX c2 b9=>
       aS ez et eT aX (fa+1) c2 IT IS L9 t23 (IntKind.i64.wrap (t24+1)) b9) (
       aS ez et eT fh fa fq IT IS L9 t23 (IntKind.i64.wrap (t24+1)) aG)) (aB R)) (
     aS ez et eT fh fa fq IT IS L9 t23 (IntKind.i64.wrap (t24+1)) w))))) (
  R (.returned (.tuple #[.slice fh fa fq,(0:Int)])) w)
def sM.bd:=ap8 sM.ε
def sM.main(a0:ah)(e0 e1:Int)(jg:J)(eD j5:Nat)(w:World)(R:ak):Prop:=
 aR w a0 89 λε δ=>
 aR δ #[e0,e1] 28 λι υ=>
 ∃(aQ:ah),aQ.size=24/\aw υ ⟨ε,0,none⟩ aQ.toList/\
 (∃(bK:ah),bK.size=2/\aw υ ⟨ι,0,none⟩ bK.toList/\
  (κ prog 49 #[.agg aQ,.agg bK] υ (λv1 aa=>
   b6 v1 λbT=>
   ξ (bT[0]?) λv2=>
   df v2 λad aD c1=>
   ξ (bT[1]?) λv3=>
   bq .i64 v3 λζ=>
   cond (ζ !=0) (
    R (.returned (.tuple #[.slice none 0 0,ζ])) aa) (
    sM.bd jg eD j5 none 0 0 ad aD c1 ((aD:Nat):Int) 0 aa R)) (aB R)))
abbrev sM.C(a0:ah)(e0 e1:Int)(jg:J)(eD j5:Nat):=Calls prog 39 #[.agg a0,.agg #[e0,e1],.slice jg eD j5]
theorem sM.ok:yq sM.main sM.C:=λ{_ _ _ _ _ _ _ R}h=>fg func39 [.tmp 6,.tmp 7] 43 (.seq .leaf (.seq .leaf (.seq .leaf (.seq .leaf (.seq (.seq .leaf (.block (.loop [(2,.slice),(10,.slice),(22,.slice),(23,.int .i64),(24,.int .i64)] (sM.bd · · · · · · · · · · · · R) λaS=>.leaf))) .leaf))))) h
def Ed.main(w:World)(R:ak):Prop:=
 aR w #[.slice none 0 0,(0:Int)] 123 λε δ=>
 R (.returned (.pointer (some ⟨ε,0,none⟩))) δ
abbrev Ed.C:=Calls prog 40 #[]
theorem Ed.ok:Ru Ed.main Ed.C:=λh=>dt func40 [.tmp 0] 3 h
def lv.aZ(t4:J)(t5:Int)(t7:J)(t21:ah)(t22:Int)(w:World)(R:ak)(aS:J->ah->Int->ai):Prop:=
 ξ t4 λd3=>
 ο (decide (0<=t5)) (
  ο (decide (t5<(8:Int))) (
   ef w ((d3.add 16).add (t5.toNat*1)) (.pointer t7) λcH=>
   (aS t4 t21 (IntKind.i64.wrap (t22+1)) cH)))
def lv.ι(t4:J)(t5:Int)(t7:J)(t21:ah)(t22:Int)(Mg:J)(Mf Qn:Nat)(t36 t37:Int)(w:World)(R:ak)(aS:J->ah->Int->ai)(fG:J->Int->J->ah->Int->J->Nat->Nat->Int->Int->ai):Prop:=
 cond (decide (t37<t36)) (
  ο (decide (0<=t37)) (
   ο (decide (t37<((Mf:Nat):Int))) (
    ξ Mg λd2=>
    ∃cS m1,w.cell? (d2.add (t37.toNat*1))=some (.complex .f64 cS m1)/\
    (cond (!(ey .eql cS 13830554455654793216&&ey .eql m1 0)) (
     κ prog 72 #[.pointer t7,t37,.complex .f64 cS m1] w (λfS ca=>
      b6 fS λeV=>
      ξ (eV[0]?) λbg=>
      hD bg λej=>
      ξ (eV[1]?) λv9=>
      bq .i64 v9 λτ=>
      fG t4 t5 ej t21 t22 Mg Mf Qn t36 (IntKind.i64.wrap (t37+1)) ca) (aB R)) (
     fG t4 t5 t7 t21 t22 Mg Mf Qn t36 (IntKind.i64.wrap (t37+1)) w))))) (
  lv.aZ t4 t5 t7 t21 t22 w R aS)
def lv.fm:=ap7 lv.ι
def lv.ε(t4:J)(t21:ah)(t22:Int)(w:World)(R:ak)(aS:J->ah->Int->ai):Prop:=
 cond (decide (t22<8)) (
  ο (decide (0<=t22)) (
   ο (decide (t22<(8:Int))) (
    ξ (t21[(t22.toNat*1)]?) λv3=>
    df v3 λaX aD c1=>
    cond (((aD:Nat):Int)==0) (
     aS t4 t21 (IntKind.i64.wrap (t22+1)) w) (
     κ prog 71 #[((aD:Nat):Int)] w (λv4 bk=>
      b6 v4 λbT=>
      ξ (bT[0]?) λv5=>
      hD v5 λbl=>
      ξ (bT[1]?) λv6=>
      bq .i64 v6 λζ=>
      lv.fm t4 t22 bl t21 t22 aX aD c1 ((aD:Nat):Int) 0 bk R aS) (aB R))))) (
  R (.returned (.tuple #[.pointer t4,(0:Int)])) w)
def lv.bd:=HU lv.ε
def lv.main(a0:ah)(w:World)(R:ak):Prop:=
 aR w a0 89 λε δ=>
 ∃(aQ:ah),aQ.size=24/\aw δ ⟨ε,0,none⟩ aQ.toList/\
 (κ prog 69 #[.agg aQ] δ (λv1 υ=>
  dD v1 λι=>
  cond (!ι) (
   R (.returned (.tuple #[.pointer none,(2:Int)])) υ) (
   κ prog 70 #[] υ (λv2 ax=>
    hD v2 λad=>
    ∃(bK:ah),bK.size=16/\aw ax ⟨ε,0,none⟩ bK.toList/\
    (ξ ad λd1=>
     ο (decide (bK.size=16)) (
      bM ax d1 bK.toList λba=>
      (∃(b2:ah),b2.size=8/\aw ba ⟨ε,16,none⟩ b2.toList/\
       (lv.bd ad b2 0 ba R))))) (aB R))) (aB R))
abbrev lv.C(a0:ah):=Calls prog 41 #[.agg a0]
theorem lv.ok:ic lv.main lv.C:=λ{_ _ R}h=>fg func41 [.tmp 2,.tmp 3] 60 (.seq .leaf (.seq .leaf (.seq .leaf (.seq .leaf (.seq (.seq .leaf (.block (.loop [(4,.ptr),(21,.agg),(22,.int .i64)] (lv.bd · · · · R) λaS=>(.seq .leaf (.seq .leaf (.seq (.block (.seq .leaf (.seq .leaf (.seq .leaf (.cut [(4,.ptr),(5,.int .i64),(7,.ptr),(21,.agg),(22,.int .i64)] (lv.aZ · · · · · · R aS) (.seq .leaf (.block (.loop [(4,.ptr),(5,.int .i64),(7,.ptr),(21,.agg),(22,.int .i64),(35,.slice),(36,.int .i64),(37,.int .i64)] (lv.fm · · · · · · · · · · · R aS) λfG=>.leaf))) .leaf))))) .leaf)))))) .leaf))))) h
def tI.ε(t7:Nat)(ae5:J)(ae4 atW:Nat)(t20 t21:Int)(w:World)(R:ak)(aS:Nat->J->Nat->Nat->Int->Int->ai):Prop:=
 cond (decide (t21<t20)) (
  ο (decide (0<=t21)) (
   ο (decide (t21<((ae4:Nat):Int))) (
    ξ ae5 λd1=>
    ∃τ,w.cell? (d1.add (t21.toNat*1))=some (.int .i64 τ)/\
    (κ prog 59 #[.pointer (some ⟨t7,0,none⟩),τ] w (λv2 aG=>
     bq .i64 v2 λab=>
     cond (ab !=0) (
      R (.returned (.tuple #[.pointer none,(1:Int)])) aG) (
      aS t7 ae5 ae4 atW t20 (IntKind.i64.wrap (t21+1)) aG)) (aB R))))) (
  R (.returned (.tuple #[.pointer (some ⟨t7,0,none⟩),(0:Int)])) w)
def tI.bd:=pD tI.ε
def tI.main(fl gn:Int)(gv:J)(fc gz:Nat)(w:World)(R:ak):Prop:=
 aR w #[fl,gn] 28 λε δ=>
 ∃(aQ:ah),aQ.size=2/\aw δ ⟨ε,0,none⟩ aQ.toList/\
 (κ prog 73 #[.agg aQ] δ (λv1 υ=>
  bq .i64 v1 λζ=>
  cond (ζ !=0) (
   R (.returned (.tuple #[.pointer none,ζ])) υ) (
   ∃(bK:ah),bK.size=2/\aw υ ⟨ε,0,none⟩ bK.toList/\
   (ξ (Instr.fill (λi=>[(0,2),(2,1),(3,1),(4,1)].toArray[i]?) #[(0:Int),(0:Int),.slice none 0 0,(0:Int),(0:Int)] [(0,(.agg bK)),(2,(.int .i64 (-1)))]) λb2=>
    aR υ b2 150 λι ax=>
    tI.bd ι gv fc gz ((fc:Nat):Int) 0 ax R))) (aB R))
abbrev tI.C(fl gn:Int)(gv:J)(fc gz:Nat):=Calls prog 42 #[.agg #[fl,gn],.slice gv fc gz]
theorem tI.ok:vy tI.main tI.C:=λ{_ _ _ _ _ _ R}h=>fg func42 [.tmp 4,.tmp 5] 32 (.seq .leaf (.seq .leaf (.seq .leaf (.seq (.seq .leaf (.block (.loop [(7,.c5),(19,.slice),(20,.int .i64),(21,.int .i64)] (tI.bd · · · · · · · R) λaS=>.leaf))) .leaf)))) h
def Ea.main(a0:J)(w:World)(R:ak):Prop:=
 κ prog 44 #[.pointer a0] w (λv1 δ=>
  b6 v1 λbT=>
  ξ (bT[0]?) λv2=>
  bq .i64 v2 λζ=>
  ξ (bT[1]?) λv3=>
  dZ v3 λaQ=>
  ξ (bT[2]?) λv4=>
  bq .i64 v4 λτ=>
  aR δ #[(0:Int),(0:Int),(0:Int),(0:Int),.slice none 0 0] 40 λε aa=>
  ο (decide (aQ.size=5)) (
   bM aa ⟨ε,0,none⟩ aQ.toList λax=>
   (cond (τ !=0) (
    R (.returned (.int .i64 τ)) ax) (
    ξ a0 λd1=>
    ∃ad aD c1,ax.cell? d1=some (.slice ad aD c1)/\
    (ο (decide (1<=((aD:Nat):Int))) (
     ξ a0 λd2=>
     ef ax d2 (.slice (dA ad c1 1 1) (aD-1) (c1-1)) λaG=>
     (R (.returned (.int .i64 0)) aG))))))) (aB R)
abbrev Ea.C(a0:J):=Calls prog 43 #[.pointer a0]
theorem Ea.ok:ic Ea.main Ea.C:=λh=>dt func43 [.tmp 2] 23 h
end Go.Proofs.YtcpdfhkhaekekaaGreat.G

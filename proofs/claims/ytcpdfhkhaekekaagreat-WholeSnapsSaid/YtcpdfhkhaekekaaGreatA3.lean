/- The walk of the functions, and the plain laws of the model: part of the proof. Conditions: none. -/
import Derived.Test.YtcpdfhkhaekekaaGreatA2
set_option linter.unusedVariables false
set_option linter.unusedSimpArgs false
namespace Go.Proofs.YtcpdfhkhaekekaaGreat.G
open Tryz
open Go.bO
set_option maxRecDepth 100000
def FH.main(fg fW:Int)(w:World)(R:aq):Prop:=
 aN w #[fg,fW] 28 λδ γ=>
 ∃ζ,γ.cell? ⟨δ,0,none⟩=some (.int .i64 ζ)/\
 (∃σ,γ.cell? ⟨δ,1,none⟩=some (.int .i64 σ)/\
  (κ prog 25 #[(IntKind.i64.wrap (40+(IntKind.i64.wrap (ζ*σ))))] γ (λv1 τ=>
   b0 v1 λbN=>
   ξ (bN[0]?) λv2=>
   gX v2 λab=>
   ξ (bN[1]?) λv3=>
   br .i64 v3 λad=>
   cond (ad !=0) (
    R (.returned (.tuple #[.pointer none,.pointer none])) τ) (
    ∃(aK:ag),aK.size=2/\aw τ ⟨δ,0,none⟩ aK.toList/\
    (κ prog 26 #[.pointer ab,.agg aK] τ (λv4 az=>
     br .i64 v4 λaA=>
     cond (aA !=0) (
      R (.returned (.tuple #[.pointer none,.pointer none])) az) (
      κ prog 27 #[.pointer ab] az (λv5 ba=>
       b0 v5 λeI=>
       ξ (eI[0]?) λv6=>
       gX v6 λaX=>
       ξ (eI[1]?) λfJ=>
       br .i64 fJ λak=>
       cond (ak !=0) (
        R (.returned (.tuple #[.pointer none,.pointer none])) ba) (
        R (.returned (.tuple #[.pointer ab,.pointer aX])) ba)) (au R))) (au R)))) (au R)))
abbrev FH.C(fg fW:Int):=Calls prog 11 #[.agg #[fg,fW]]
theorem FH.ok:jL FH.main FH.C:=λh=>dg func11 [.tmp 2,.tmp 3] 35 h
def FK.main(a0 ar:Int)(w:World)(R:aq):Prop:=
 aN w #[(0:Int),(0:Int)] 28 λδ γ=>
 bG γ ⟨δ,0,none⟩ [(.int .i64 (IntKind.i64.wrap (6+(IntKind.i64.wrap (Int.tmod a0 9))))),(.int .i64 (IntKind.i64.wrap (2+(IntKind.i64.wrap (Int.tmod ar 5)))))] λτ=>
 (∃(aK:ag),aK.size=2/\aw τ ⟨δ,0,none⟩ aK.toList/\
  (R (.returned (.agg aK)) τ))
abbrev FK.C(a0 ar:Int):=Calls prog 12 #[.int .u8 a0,.int .u8 ar]
theorem FK.ok:jL FK.main FK.C:=λh=>dg func12 [.cell 4 28] 14 h
def FM.main(w:World)(R:aq):Prop:=
 κ prog 11 #[.agg #[(6:Int),(2:Int)]] w (λv1 γ=>
  b0 v1 λbN=>
  ξ (bN[0]?) λv2=>
  gX v2 λab=>
  ξ (bN[1]?) λv3=>
  gX v3 λaX=>
  cond (Option.isNone ab) (
   R (.returned (.bool false)) γ) (
   cond (Option.isNone aX) (
    R (.returned (.bool false)) γ) (
    κ prog 14 #[.pointer aX,.agg #[(1:Int),(0:Int),(0:Int),(2:Int),.slice none 0 0]] γ (λv4 aa=>
     dq v4 λaK=>
     aN aa #[(0:Int),(0:Int),(0:Int),.slice none 0 0,.slice none 0 0] 37 λδ aE=>
     ο (decide (aK.size=5)) (
      bG aE ⟨δ,0,none⟩ aK.toList λba=>
      (κ prog 15 #[.int .u8 9] ba (λv5 bm=>
       cN v5 λbh ay c1=>
       κ prog 14 #[.pointer aX,.agg #[(5:Int),(0:Int),(1:Int),(0:Int),.slice bh ay c1]] bm (λv6 cf=>
        dq v6 λbF=>
        aN cf #[(0:Int),(0:Int),(0:Int),.slice none 0 0,.slice none 0 0] 37 λθ cA=>
        ο (decide (bF.size=5)) (
         bG cA ⟨θ,0,none⟩ bF.toList λcn=>
         (∃ζ,cn.cell? ⟨δ,1,none⟩=some (.int .i64 ζ)/\
          (cond (ζ==0) (
           ∃σ,cn.cell? ⟨θ,1,none⟩=some (.int .i64 σ)/\
           (cond (σ==0) (
           κ prog 17 #[.pointer aX,(0:Int),(1:Int)] cn (λfJ dn=>
           nK fJ λs1=>
           κ prog 15 #[.int .u8 9] dn (λbj eA=>
           cN bj λeg bu c2=>
           ∃(oL:an),oL.length=bu/\a7 eA eg (oL.map (.int .u8))/\
           (cond (s1.toList==(strOf oL).toList) (
           κ prog 18 #[.pointer aX] eA (λv9 ga=>
           br .i64 v9 λad=>
           R (.returned (.bool (ad==1))) ga) (au R)) (
           R (.returned (.bool false)) eA))) (au R)) (au R)) (
           R (.returned (.bool false)) cn))) (
           R (.returned (.bool false)) cn))))) (au R)) (au R)))) (au R)))) (au R)
abbrev FM.C:=Calls prog 13 #[]
theorem FM.ok:QQ FM.main FM.C:=λh=>dg func13 [.tmp 0] 43 h
def FI.main(a0:J)(eM eN jX jY:Int)(kH:J)(kG kF:Nat)(w:World)(R:aq):Prop:=
 aN w #[eM,eN,jX,jY,.slice kH kG kF] 40 λδ γ=>
 aN γ #[(0:Int),(0:Int),(0:Int),.slice none 0 0,.slice none 0 0] 37 λθ τ=>
 aN τ #[] 5 λaF aa=>
 ∃ab ay c1,aa.cell? ⟨δ,4,none⟩=some (.slice ab ay c1)/\
 (gK aa (some ⟨aF,0,none⟩) 0 0 ay (a7 aa ab) 5 1 1 #[.int .u8 0] λaX c2 az=>
  ed az ⟨δ,4,none⟩ (.slice aX (0+ay) c2) λaE=>
  (∃(aK:ag),aK.size=5/\aw aE ⟨δ,0,none⟩ aK.toList/\
   (κ prog 28 #[.pointer a0,.agg aK] aE (λv1 ba=>
    dq v1 λbF=>
    ο (decide (bF.size=5)) (
     bG ba ⟨θ,0,none⟩ bF.toList λb5=>
     (∃(bZ:ag),bZ.size=5/\aw b5 ⟨θ,0,none⟩ bZ.toList/\
      (R (.returned (.agg bZ)) b5)))) (au R))))
abbrev FI.C(a0:J)(eM eN jX jY:Int)(kH:J)(kG kF:Nat):=Calls prog 14 #[.pointer a0,.agg #[eM,eN,jX,jY,.slice kH kG kF]]
theorem FI.ok:A6 FI.main FI.C:=λh=>dg func14 [.cell 4 37] 13 h
def tz.δ(t0:Int)(cR:J)(cM de:Nat)(t4:Int)(w:World)(R:aq)(a8:Int->J->Nat->Nat->Int->ao):Prop:=
 cond (decide (t4<64)) (
  ο (decide (0<=t4)) (
   ο (decide (t4<((cM:Nat):Int))) (
    ξ cR λd1=>
    ed w (d1.add (t4.toNat*1)) (.int .u8 t0) λτ=>
    (a8 t0 cR cM de (IntKind.i64.wrap (t4+1)) τ)))) (
  R (.returned (.slice cR cM de)) w)
def tz.bd:=Aj tz.δ
def tz.main(a0:Int)(w:World)(R:aq):Prop:=
 aN w (madeCells #[.int .u8 0] (64*1)) 5 λδ γ=>
 tz.bd a0 (some ⟨δ,0,none⟩) 64 64 0 γ R
abbrev tz.C(a0:Int):=Calls prog 15 #[.int .u8 a0]
theorem tz.ok:ic tz.main tz.C:=λ{_ _ R}h=>fc func15 [.tmp 2] 15 (.seq .leaf (.seq .leaf (.seq (.seq .leaf (.block (.loop [(0,.int .u8),(3,.slice),(4,.int .i64)] (tz.bd · · · · · · R) λa8=>.leaf))) .leaf))) h
def Aw.main(a0:J)(ar:Int)(w:World)(R:aq):Prop:=
 aN w #[(0:Int),(0:Int),(0:Int),.slice none 0 0,.slice none 0 0] 37 λδ γ=>
 cond (Option.isNone a0) (
  bG γ ⟨δ,0,none⟩ [(.int .i64 0),(.int .i64 1),(.int .i64 0),(.slice none 0 0),(.slice none 0 0)] λτ=>
  (∃(aK:ag),aK.size=5/\aw τ ⟨δ,0,none⟩ aK.toList/\
   (R (.returned (.tuple #[.agg aK,.bool true])) τ))) (
  ξ a0 λd1=>
  ∃ζ,γ.cell? (d1.add 10)=some (.int .i64 ζ)/\
  (ξ a0 λd2=>
   ed γ (d2.add 10) (.int .i64 (IntKind.i64.wrap (ζ+1))) λaa=>
   (cond (ar==1) (
    κ prog 29 #[.pointer a0] aa (λv1 az=>
     b0 v1 λbN=>
     ξ (bN[0]?) λv2=>
     dq v2 λbF=>
     ξ (bN[1]?) λv3=>
     dw v3 λθ=>
     ο (decide (bF.size=5)) (
      bG az ⟨δ,0,none⟩ bF.toList λba=>
      (∃(bZ:ag),bZ.size=5/\aw ba ⟨δ,0,none⟩ bZ.toList/\
       (R (.returned (.tuple #[.agg bZ,.bool θ])) ba)))) (au R)) (
    cond (ar==2) (
     κ prog 30 #[.pointer a0,.func (.func 31) #[.pointer a0] #[]] aa (λv4 bm=>
      br .i64 v4 λσ=>
      bG bm ⟨δ,0,none⟩ [(.int .i64 0),(.int .i64 σ),(.int .i64 0),(.slice none 0 0),(.slice none 0 0)] λcA=>
      (∃(bW:ag),bW.size=5/\aw cA ⟨δ,0,none⟩ bW.toList/\
       (R (.returned (.tuple #[.agg bW,.bool (σ !=0)])) cA))) (au R)) (
     cond (ar==3) (
      κ prog 30 #[.pointer a0,.func (.func 32) #[.pointer a0] #[]] aa (λv5 cf=>
       br .i64 v5 λad=>
       bG cf ⟨δ,0,none⟩ [(.int .i64 0),(.int .i64 ad),(.int .i64 0),(.slice none 0 0),(.slice none 0 0)] λcn=>
       (∃(cE:ag),cE.size=5/\aw cn ⟨δ,0,none⟩ cE.toList/\
        (R (.returned (.tuple #[.agg cE,.bool (ad !=0)])) cn))) (au R)) (
      cond (ar==4) (
       bG aa ⟨δ,0,none⟩ [(.int .i64 0),(.int .i64 0),(.int .i64 0),(.slice none 0 0),(.slice none 0 0)] λdn=>
       (∃(dM:ag),dM.size=5/\aw dn ⟨δ,0,none⟩ dM.toList/\
        (R (.returned (.tuple #[.agg dM,.bool (0!=0)])) dn))) (
       bG aa ⟨δ,0,none⟩ [(.int .i64 0),(.int .i64 1),(.int .i64 0),(.slice none 0 0),(.slice none 0 0)] λdX=>
       (∃(gv:ag),gv.size=5/\aw dX ⟨δ,0,none⟩ gv.toList/\
        (R (.returned (.tuple #[.agg gv,.bool (1!=0)])) dX)))))))))
abbrev Aw.C(a0:J)(ar:Int):=Calls prog 16 #[.pointer a0,ar]
theorem Aw.ok:jL Aw.main Aw.C:=λh=>dg func16 [.cell 4 37,.tmp 5] 42 h
def FL.main(a0:J)(ar a2:Int)(w:World)(R:aq):Prop:=
 κ prog 28 #[.pointer a0,.agg #[(4:Int),ar,a2,(0:Int),.slice none 0 0]] w (λv1 γ=>
  dq v1 λaK=>
  aN γ #[(0:Int),(0:Int),(0:Int),.slice none 0 0,.slice none 0 0] 37 λδ aa=>
  ο (decide (aK.size=5)) (
   bG aa ⟨δ,0,none⟩ aK.toList λaz=>
   (∃ζ,az.cell? ⟨δ,1,none⟩=some (.int .i64 ζ)/\
    (cond (ζ !=0) (
     R (.returned (.string (⟨#[110,111,110,101]⟩:ByteArray))) az) (
     ∃ab ay c1,az.cell? ⟨δ,3,none⟩=some (.slice ab ay c1)/\
     (∃(oL:an),oL.length=ay/\a7 az ab (oL.map (.int .u8))/\
      (R (.returned (.string (strOf oL))) az))))))) (au R)
abbrev FL.C(a0:J)(ar a2:Int):=Calls prog 17 #[.pointer a0,ar,a2]
theorem FL.ok:iB FL.main FL.C:=λh=>dg func17 [.tmp 6] 19 h
def FJ.main(a0:J)(w:World)(R:aq):Prop:=
 κ prog 28 #[.pointer a0,.agg #[(8:Int),(0:Int),(0:Int),(0:Int),.slice none 0 0]] w (λv1 γ=>
  dq v1 λaK=>
  aN γ #[(0:Int),(0:Int),(0:Int),.slice none 0 0,.slice none 0 0] 37 λδ aa=>
  ο (decide (aK.size=5)) (
   bG aa ⟨δ,0,none⟩ aK.toList λaz=>
   (∃ζ,az.cell? ⟨δ,1,none⟩=some (.int .i64 ζ)/\
    (cond (ζ !=0) (
     R (.returned (.int .i64 (-1))) az) (
     ∃ab ay c1,az.cell? ⟨δ,4,none⟩=some (.slice ab ay c1)/\
     (cond (((ay:Nat):Int)!=2) (
      R (.returned (.int .i64 (-1))) az) (
      ∃aX bu c2,az.cell? ⟨δ,4,none⟩=some (.slice aX bu c2)/\
      (ο (decide (0<((bu:Nat):Int))) (
       ξ aX λd1=>
       ∃σ,az.cell? d1=some (.int .i64 σ)/\
       (R (.returned (.int .i64 σ)) az)))))))))) (au R)
abbrev FJ.C(a0:J):=Calls prog 18 #[.pointer a0]
theorem FJ.ok:ic FJ.main FJ.C:=λh=>dg func18 [.tmp 2] 20 h
def EY.main(a0:J)(eM eN jX jY:Int)(kH:J)(kG kF:Nat)(w:World)(R:aq):Prop:=
 aN w #[eM,eN,jX,jY,.slice kH kG kF] 40 λδ γ=>
 cond (Option.isNone a0) (
  R (.returned (.tuple #[(0:Int),(1:Int)])) γ) (
  ξ a0 λd1=>
  ∃ab,γ.drew.cell? d1=some (.pointer ab)/\
  (∃(aK:ag),aK.size=5/\aw γ.drew ⟨δ,0,none⟩ aK.toList/\
   (κ prog 33 #[.pointer ab,.agg aK] γ.drew (λv1 τ=>
    b0 v1 λbN=>
    ξ (bN[0]?) λv2=>
    br .i64 v2 λζ=>
    ξ (bN[1]?) λv3=>
    br .i64 v3 λσ=>
    R (.returned (.tuple #[ζ,σ])) τ) (au R))))
abbrev EY.C(a0:J)(eM eN jX jY:Int)(kH:J)(kG kF:Nat):=Calls prog 20 #[.pointer a0,.agg #[eM,eN,jX,jY,.slice kH kG kF]]
theorem EY.ok:A6 EY.main EY.C:=λh=>dg func20 [.tmp 4,.tmp 5] 16 h
def C6.main(a0:J)(w:World)(R:aq):Prop:=
 cond (Option.isNone a0) (
  R (.returned (.int .i64 0)) w) (
  ξ a0 λd1=>
  ∃ab ay c1,w.cell? (d1.add 1)=some (.slice ab ay c1)/\
  (R (.returned (.int .i64 ((ay:Nat):Int))) w))
abbrev C6.C(a0:J):=Calls prog 22 #[.pointer a0]
theorem C6.ok:ic C6.main C6.C:=λh=>dg func22 [.tmp 2] 10 h
def Bi.main(a0:J)(ar:Int)(w:World)(R:aq):Prop:=
 κ prog 35 #[.pointer a0] w (λv1 γ=>
  br .i64 v1 λζ=>
  cond (ζ !=0) (
   R (.returned (.tuple #[.slice none 0 0,ζ])) γ) (
   cond (decide (ar<0)) (
    R (.returned (.tuple #[.slice none 0 0,(5:Int)])) γ) (
    ξ a0 λd1=>
    ∃ab ay c1,γ.cell? (d1.add 1)=some (.slice ab ay c1)/\
    (cond (decide (ar>=((ay:Nat):Int))) (
     R (.returned (.tuple #[.slice none 0 0,(5:Int)])) γ) (
     ξ a0 λd2=>
     ∃aX bu c2,γ.cell? (d2.add 1)=some (.slice aX bu c2)/\
     (ο (decide (0<=ar)) (
      ο (decide (ar<((bu:Nat):Int))) (
       ξ aX λd3=>
       κ prog 36 #[.slice (du (some (d3.add (ar.toNat*64))) 64 0 1) 64 64] γ (λv2 aa=>
        cN v2 λbh dB bI=>
        R (.returned (.tuple #[.slice bh dB bI,(0:Int)])) aa) (au R))))))))) (au R)
abbrev Bi.C(a0:J)(ar:Int):=Calls prog 23 #[.pointer a0,ar]
theorem Bi.ok:jL Bi.main Bi.C:=λh=>dg func23 [.tmp 4,.tmp 5] 31 h
def C9.main(a0:Int)(w:World)(R:aq):Prop:=
 cond (decide (a0<1)) (
  R (.returned (.tuple #[.pointer none,(1:Int)])) w) (
  cond (decide (a0>424)) (
   R (.returned (.tuple #[.pointer none,(1:Int)])) w) (
   (ο (decide (0<=a0)) (
    ο (decide (a0<=a0)) (
     ο (decide ((64:Int)*a0<=281474976710656/\a0<=9223372036854775807)) (
      aN w.drew (madeCells (List.replicate 64 (.int .u8 0)).toArray (a0.toNat*64)) 82 λδ γ=>
      ο (decide (0<=a0)) (
       ο (decide (a0<=a0)) (
        ο (decide ((64:Int)*a0<=281474976710656/\a0<=9223372036854775807)) (
         aN γ (madeCells (List.replicate 64 (.int .u8 0)).toArray (a0.toNat*64)) 82 λθ τ=>
         aN τ #[.slice (some ⟨δ,0,none⟩) a0.toNat a0.toNat,.slice (some ⟨θ,0,none⟩) a0.toNat a0.toNat,.slice none 0 0,(-1:Int),.bool false] 78 λaF aa=>
         R (.returned (.tuple #[.pointer (some ⟨aF,0,none⟩),(0:Int)])) aa)))))))/\
   (ο (decide (0<=a0)) (
    ο (decide (a0<=a0)) (
     ο (decide ((64:Int)*a0<=281474976710656/\a0<=9223372036854775807)) (
      aN w.drew (madeCells (List.replicate 64 (.int .u8 0)).toArray (a0.toNat*64)) 82 λae az=>
      ο (decide (0<=a0)) (
       ο (decide (a0<=a0)) (
        ο (decide ((64:Int)*a0<=281474976710656/\a0<=9223372036854775807)) (
         aN az (madeCells (List.replicate 64 (.int .u8 0)).toArray (a0.toNat*64)) 82 λc8 aE=>
         aN aE #[.slice (some ⟨c8,0,none⟩) a0.toNat a0.toNat,.slice (some ⟨ae,0,none⟩) a0.toNat a0.toNat,.slice none 0 0,(-1:Int),.bool false] 78 λfq ba=>
         R (.returned (.tuple #[.pointer (some ⟨fq,0,none⟩),(0:Int)])) ba)))))))))
abbrev C9.C(a0:Int):=Calls prog 25 #[a0]
theorem C9.ok:ic C9.main C9.C:=λh=>dg func25 [.tmp 2,.tmp 3] 16 h
def HN.main(a0:J)(eM eN:Int)(w:World)(R:aq):Prop:=
 aN w #[eM,eN] 28 λδ γ=>
 ∃(aK:ag),aK.size=2/\aw γ ⟨δ,0,none⟩ aK.toList/\
 (κ prog 37 #[.pointer a0,.agg aK] γ (λv1 τ=>
  br .i64 v1 λζ=>
  R (.returned (.int .i64 ζ)) τ) (au R))
abbrev HN.C(a0:J)(eM eN:Int):=Calls prog 26 #[.pointer a0,.agg #[eM,eN]]
theorem HN.ok:iB HN.main HN.C:=λh=>dg func26 [.tmp 4] 8 h
def uK.a1(t4 t5:Nat)(Cp:J)(Co F6 t11:Nat)(w:World)(R:aq):Prop:=
 ∃(gM:ag),gM.size=24/\aw w ⟨t4,0,none⟩ gM.toList/\
 (κ prog 41 #[.agg gM] w (λv12 ga=>
  b0 v12 λhY=>
  ξ (hY[0]?) λny=>
  gX ny λeg=>
  ξ (hY[1]?) λqo=>
  br .i64 qo λaI=>
  ed ga ⟨t11,4,none⟩ (.pointer eg) λfE=>
  (∃(gN:ag),gN.size=2/\aw fE ⟨t5,0,none⟩ gN.toList/\
   (κ prog 42 #[.agg gN,.slice Cp Co F6] fE (λsl eD=>
    b0 sl λmz=>
    ξ (mz[0]?) λsm=>
    gX sm λfH=>
    ξ (mz[1]?) λv17=>
    br .i64 v17 λaV=>
    ed eD ⟨t11,5,none⟩ (.pointer fH) λeJ=>
    (R (.returned (.tuple #[.pointer (some ⟨t11,0,none⟩),(0:Int)])) eJ)) (au R)))) (au R))
def uK.main(a0:J)(w:World)(R:aq):Prop:=
 κ prog 38 #[.pointer a0] w (λv1 γ=>
  b0 v1 λbN=>
  ξ (bN[0]?) λv2=>
  dq v2 λaK=>
  ξ (bN[1]?) λv3=>
  dq v3 λbF=>
  ξ (bN[2]?) λv4=>
  br .i64 v4 λζ=>
  ξ (bN[3]?) λv5=>
  br .i64 v5 λσ=>
  ξ (bN[4]?) λv6=>
  br .i64 v6 λad=>
  aN γ #[(0:Int),(0:Int),(0:Int),(0:Int),(0:Int),(0:Int),(0:Int),(0:Int),(0:Int),(0:Int),(0:Int),(0:Int),(0:Int),(0:Int),(0:Int),(0:Int),.slice none 0 0,.slice none 0 0,.slice none 0 0,.slice none 0 0,.slice none 0 0,.slice none 0 0,.slice none 0 0,.slice none 0 0] 89 λδ aa=>
  aN aa #[(0:Int),(0:Int)] 28 λθ az=>
  ο (decide (aK.size=24)) (
   bG az ⟨δ,0,none⟩ aK.toList λaE=>
   (ο (decide (bF.size=2)) (
    bG aE ⟨θ,0,none⟩ bF.toList λba=>
    (cond (ad !=0) (
     R (.returned (.tuple #[.pointer none,ad])) ba) (
     ∃(bZ:ag),bZ.size=24/\aw ba ⟨δ,0,none⟩ bZ.toList/\
     (∃(bW:ag),bW.size=2/\aw ba ⟨θ,0,none⟩ bW.toList/\
      (κ prog 39 #[.agg bZ,.agg bW,.slice none 0 0] ba (λfJ bm=>
       b0 fJ λeI=>
       ξ (eI[0]?) λbj=>
       cN bj λab ay c1=>
       ξ (eI[1]?) λv9=>
       br .i64 v9 λaA=>
       ∃(cE:ag),cE.size=2/\aw bm.drew ⟨θ,0,none⟩ cE.toList/\
       (∃ak,bm.drew.cell? ⟨θ,0,none⟩=some (.int .i64 ak)/\
        ((κ prog 40 #[] bm.drew (λv10 cf=>
          gX v10 λaX=>
          cf.cell? ⟨θ,0,none⟩=some (.int .i64 ak)/\
          (ο (decide (cE.size=2)) (
          aw cf ⟨θ,0,none⟩ cE.toList/\
          (ο (decide (0<=ak)) (
          ο (decide (ak<=ak)) (
          ο (decide ((8:Int)*ak<=281474976710656/\ak<=9223372036854775807)) (
          aN cf (madeCells #[(0:Int)] (ak.toNat*1)) 3 λaF cA=>
          ο (decide (cE.size=2)) (
          aw cA ⟨θ,0,none⟩ cE.toList/\
          (ξ (Instr.fill (λi=>[(0,1),(1,1),(2,2),(4,1),(5,1),(6,1),(7,1),(8,1),(9,1),(10,1),(11,1),(12,1)].toArray[i]?) #[.pointer none,.pointer none,(0:Int),(0:Int),.pointer none,.pointer none,(0:Int),(0:Int),.slice none 0 0,.bool false,(0:Int),.slice none 0 0,.bool false] [(0,(.pointer aX)),(1,(.pointer a0)),(2,(.agg cE)),(5,(.int .i64 ζ)),(6,(.int .i64 16)),(8,(.bool (decide (σ>0)))),(10,(.slice (some ⟨aF,0,none⟩) ak.toNat ak.toNat))]) λdM=>
          aN cA dM 72 λae cn=>
          uK.a1 δ θ ab ay c1 ae cn R))))))))) (au R))/\
         (ο (decide (0<=ak)) (
          ο (decide (ak<=ak)) (
          ο (decide ((8:Int)*ak<=281474976710656/\ak<=9223372036854775807)) (
          aN bm.drew (madeCells #[(0:Int)] (ak.toNat*1)) 3 λc8 dn=>
          ο (decide (cE.size=2)) (
          aw dn ⟨θ,0,none⟩ cE.toList/\
          (κ prog 40 #[] dn (λv11 dX=>
          gX v11 λbh=>
          ο (decide (cE.size=2)) (
          aw dX ⟨θ,0,none⟩ cE.toList/\
          (ξ (Instr.fill (λi=>[(0,1),(1,1),(2,2),(4,1),(5,1),(6,1),(7,1),(8,1),(9,1),(10,1),(11,1),(12,1)].toArray[i]?) #[.pointer none,.pointer none,(0:Int),(0:Int),.pointer none,.pointer none,(0:Int),(0:Int),.slice none 0 0,.bool false,(0:Int),.slice none 0 0,.bool false] [(0,(.pointer bh)),(1,(.pointer a0)),(2,(.agg cE)),(5,(.int .i64 ζ)),(6,(.int .i64 16)),(8,(.bool (decide (σ>0)))),(10,(.slice (some ⟨c8,0,none⟩) ak.toNat ak.toNat))]) λgv=>
          aN dX gv 72 λfq eR=>
          uK.a1 δ θ ab ay c1 fq eR R))) (au R)))))))))) (au R))))))))) (au R)
abbrev uK.C(a0:J):=Calls prog 27 #[.pointer a0]
theorem uK.ok:ic uK.main uK.C:=λ{_ _ R}h=>fc func27 [.tmp 2,.tmp 3] 58 (.seq .leaf (.seq .leaf (.seq .leaf (.seq .leaf (.cut [(4,.cY),(5,.cY),(9,.slice),(11,.cY)] (uK.a1 · · · · · · · R) .leaf .leaf))))) h
def nZ.δ(t0:J)(t4:Nat)(w:World)(R:aq)(a8:J->Nat->ao):Prop:=
 κ prog 16 #[.pointer t0,(1:Int)] w (λv5 c6=>
  b0 v5 λeI=>
  ξ (eI[0]?) λv6=>
  dq v6 λcE=>
  ξ (eI[1]?) λfJ=>
  dw fJ λaF=>
  aN c6 #[(0:Int),(0:Int),(0:Int),.slice none 0 0,.slice none 0 0] 37 λae cn=>
  ο (decide (cE.size=5)) (
   bG cn ⟨ae,0,none⟩ cE.toList λdn=>
   (∃aA,dn.cell? ⟨ae,1,none⟩=some (.int .i64 aA)/\
    (cond (aA !=12) (
     ∃(dM:ag),dM.size=5/\aw dn ⟨ae,0,none⟩ dM.toList/\
     (ο (decide (dM.size=5)) (
       bG dn ⟨t4,0,none⟩ dM.toList λdX=>
       (∃(gv:ag),gv.size=5/\aw dX ⟨t4,0,none⟩ gv.toList/\
        (R (.returned (.agg gv)) dX))))) (
     κ prog 16 #[.pointer t0,(2:Int)] dn (λbj eA=>
      b0 bj λhY=>
      ξ (hY[0]?) λv9=>
      dq v9 λgM=>
      ξ (hY[1]?) λv10=>
      dw v10 λc8=>
      aN eA #[(0:Int),(0:Int),(0:Int),.slice none 0 0,.slice none 0 0] 37 λfq ga=>
      ο (decide (gM.size=5)) (
       bG ga ⟨fq,0,none⟩ gM.toList λfO=>
       (cond c8 (
         ξ t0 λd2=>
         ∃aX,fO.cell? d2=some (.pointer aX)/\
         (κ prog 43 #[.pointer aX] fO (λv11 fE=>
          br .i64 v11 λak=>
          ∃aI,fE.cell? ⟨ae,0,none⟩=some (.int .i64 aI)/\
          (ed fE ⟨fq,0,none⟩ (.int .i64 aI) λfv=>
           (∃(gN:ag),gN.size=5/\aw fv ⟨fq,0,none⟩ gN.toList/\
           (ο (decide (gN.size=5)) (
           bG fv ⟨t4,0,none⟩ gN.toList λeJ=>
           (∃(iE:ag),iE.size=5/\aw eJ ⟨t4,0,none⟩ iE.toList/\
           (R (.returned (.agg iE)) eJ))))))) (au R))) (
         a8 t0 t4 fO)))) (au R)))))) (au R)
def nZ.bd:=abZ nZ.δ
def nZ.main(a0:J)(eM eN jX jY:Int)(kH:J)(kG kF:Nat)(w:World)(R:aq):Prop:=
 aN w #[eM,eN,jX,jY,.slice kH kG kF] 40 λδ γ=>
 aN γ #[(0:Int),(0:Int),(0:Int),.slice none 0 0,.slice none 0 0] 37 λθ τ=>
 cond (Option.isNone a0) (
  bG τ ⟨θ,0,none⟩ [(.int .i64 0),(.int .i64 1),(.int .i64 0),(.slice none 0 0),(.slice none 0 0)] λaa=>
  (∃(aK:ag),aK.size=5/\aw aa ⟨θ,0,none⟩ aK.toList/\
   (R (.returned (.agg aK)) aa))) (
  ξ a0 λd1=>
  ∃ab,τ.cell? d1=some (.pointer ab)/\
  (κ prog 34 #[.pointer ab] τ (λv1 az=>
    br .i64 v1 λζ=>
    cond (decide (ζ>0)) (
     bG az ⟨θ,0,none⟩ [(.int .i64 0),(.int .i64 12),(.int .i64 0),(.slice none 0 0),(.slice none 0 0)] λba=>
     (∃(bF:ag),bF.size=5/\aw ba ⟨θ,0,none⟩ bF.toList/\
      (R (.returned (.agg bF)) ba))) (
     ∃(bZ:ag),bZ.size=5/\aw az ⟨δ,0,none⟩ bZ.toList/\
     (κ prog 20 #[.pointer a0,.agg bZ] az (λv2 bm=>
       b0 v2 λbN=>
       ξ (bN[0]?) λv3=>
       br .i64 v3 λσ=>
       ξ (bN[1]?) λv4=>
       br .i64 v4 λad=>
       cond (ad !=0) (
        bG bm ⟨θ,0,none⟩ [(.int .i64 0),(.int .i64 ad),(.int .i64 0),(.slice none 0 0),(.slice none 0 0)] λcf=>
        (∃(bW:ag),bW.size=5/\aw cf ⟨θ,0,none⟩ bW.toList/\
         (R (.returned (.agg bW)) cf))) (
        nZ.bd a0 θ bm R)) (au R)))) (au R)))
abbrev nZ.C(a0:J)(eM eN jX jY:Int)(kH:J)(kG kF:Nat):=Calls prog 28 #[.pointer a0,.agg #[eM,eN,jX,jY,.slice kH kG kF]]
theorem nZ.ok:A6 nZ.main nZ.C:=λ{_ _ _ _ _ _ _ _ _ R}h=>fc func28 [.cell 4 37] 55 (.seq .leaf (.seq .leaf (.seq .leaf (.seq .leaf (.block (.loop [(0,.ptr),(4,.cY)] (nZ.bd · · · R) λa8=>.leaf)))))) h
def qU.a1(t1 t2:Nat)(t4 t6:Int)(t7:Nat)(w:World)(R:aq):Prop:=
 ed w ⟨t7,0,none⟩ (.int .i64 t4) λdn=>
 (cond (t6 !=12) (
  ∃eg,dn.cell? ⟨t1,0,none⟩=some (.pointer eg)/\
  (ξ eg λd2=>
   ∃fH,dn.cell? d2=some (.pointer fH)/\
   (κ prog 43 #[.pointer fH] dn (λv6 dX=>
     br .i64 v6 λaA=>
     ∃(bZ:ag),bZ.size=5/\aw dX ⟨t7,0,none⟩ bZ.toList/\
     (ο (decide (bZ.size=5)) (
      bG dX ⟨t2,0,none⟩ bZ.toList λeR=>
      (∃(bW:ag),bW.size=5/\aw eR ⟨t2,0,none⟩ bW.toList/\
       (R (.returned (.tuple #[.agg bW,.bool true])) eR))))) (au R)))) (
  ∃(cE:ag),cE.size=5/\aw dn ⟨t7,0,none⟩ cE.toList/\
  (ο (decide (cE.size=5)) (
    bG dn ⟨t2,0,none⟩ cE.toList λga=>
    (∃(dM:ag),dM.size=5/\aw ga ⟨t2,0,none⟩ dM.toList/\
     (R (.returned (.tuple #[.agg dM,.bool true])) ga))))))
def qU.main(a0:J)(w:World)(R:aq):Prop:=
 aN w #[.pointer a0] 24 λδ γ=>
 aN γ #[(0:Int),(0:Int),(0:Int),.slice none 0 0,.slice none 0 0] 37 λθ τ=>
 ∃ab,τ.cell? ⟨δ,0,none⟩=some (.pointer ab)/\
 (ξ ab λd1=>
  ∃aX,τ.cell? d1=some (.pointer aX)/\
  (κ prog 44 #[.pointer aX] τ (λv1 aa=>
   b0 v1 λbN=>
   ξ (bN[0]?) λv2=>
   br .i64 v2 λζ=>
   ξ (bN[1]?) λv3=>
   dq v3 λaK=>
   ξ (bN[2]?) λv4=>
   br .i64 v4 λσ=>
   aN aa #[(0:Int),(0:Int),(0:Int),(0:Int),.slice none 0 0] 40 λaF aE=>
   ο (decide (aK.size=5)) (
    bG aE ⟨aF,0,none⟩ aK.toList λba=>
    (cond (σ !=0) (
     bG ba ⟨θ,0,none⟩ [(.int .i64 0),(.int .i64 0),(.int .i64 0),(.slice none 0 0),(.slice none 0 0)] λbm=>
     (∃(bF:ag),bF.size=5/\aw bm ⟨θ,0,none⟩ bF.toList/\
      (R (.returned (.tuple #[.agg bF,.bool false])) bm))) (
     aN ba #[(0:Int),(0:Int),(0:Int),.slice none 0 0,.slice none 0 0] 37 λae b5=>
     bG b5 ⟨ae,0,none⟩ [(.int .i64 0),(.int .i64 0),(.int .i64 0),(.slice none 0 0),(.slice none 0 0)] λcf=>
     (∃bh,cf.cell? ⟨δ,0,none⟩=some (.pointer bh)/\
      (κ prog 30 #[.pointer bh,.func (.func 45) #[] #[.pointer (some ⟨δ,0,none⟩),.pointer (some ⟨aF,0,none⟩),.pointer (some ⟨ae,0,none⟩)]] cf (λv5 c6=>
       br .i64 v5 λad=>
       cond (ad !=0) (
        bG c6 ⟨ae,0,none⟩ [(.int .i64 0),(.int .i64 ad),(.int .i64 0),(.slice none 0 0),(.slice none 0 0)] λcn=>
        (qU.a1 δ θ ζ ad ae cn R)) (
        qU.a1 δ θ ζ ad ae c6 R)) (au R))))))) (au R)))
abbrev qU.C(a0:J):=Calls prog 29 #[.pointer a0]
theorem qU.ok:ic qU.main qU.C:=λ{_ _ R}h=>fc func29 [.cell 2 37,.tmp 3] 38 (.seq .leaf (.seq .leaf (.seq .leaf (.seq .leaf (.seq .leaf (.cut [(1,.cY),(2,.cY),(4,.int .i64),(6,.int .i64),(7,.cY)] (qU.a1 · · · · · · R) .leaf .leaf)))))) h
def iN.cd(t0:J)(t2:Nat)(hM:J)(fu h8:Nat)(Cm:J)(y1 F0:Nat)(w:World)(R:aq):Prop:=
 ∃(gM:ag),gM.size=24/\aw w ⟨t2,0,none⟩ gM.toList/\
 (κ prog 56 #[.agg gM,.slice hM fu h8,.slice Cm y1 F0] w (λv24 j6=>
  b0 v24 λQa=>
  ξ (Qa[0]?) λv25=>
  dq v25 λgN=>
  ξ (Qa[1]?) λv26=>
  br .i64 v26 λc7=>
  ο (decide (gN.size=24)) (
   bG j6 ⟨t2,0,none⟩ gN.toList λiz=>
   (κ prog 52 #[c7] iz (λLU sr=>
    b0 LU λagN=>
    ∃(iE:ag),iE.size=24/\aw sr ⟨t2,0,none⟩ iE.toList/\
    (κ prog 41 #[.agg iE] sr (λv28 ra=>
     b0 v28 λQb=>
     ξ (Qb[0]?) λGh=>
     gX Gh λeY=>
     ξ (Qb[1]?) λv30=>
     br .i64 v30 λgb=>
     ξ t0 λd13=>
     ed ra (d13.add 4) (.pointer eY) λmA=>
     (κ prog 32 #[.pointer t0] mA (λv31 qp=>
      b0 v31 λWy=>
      R (.returned (.tuple #[])) qp) (au R))) (au R))) (au R)))) (au R))
def iN.θ(t0:J)(t2:Nat)(hM:J)(fu h8:Nat)(Cm:J)(y1 F0:Nat)(PV:J)(PU Wi:Nat)(t97 t98:Int)(w:World)(R:aq)(hJ:J->Nat->J->Nat->Nat->J->Nat->Nat->J->Nat->Nat->Int->Int->ao):Prop:=
 cond (decide (t98<t97)) (
  ο (decide (0<=t98)) (
   ο (decide (t98<((PU:Nat):Int))) (
    ξ PV λd10=>
    ∃cG m1,w.cell? (d10.add (t98.toNat*1))=some (.complex .f64 cG m1)/\
    (ξ t0 λd11=>
     ∃(gv:ag),gv.size=2/\aw w (d11.add 2) gv.toList/\
     (κ prog 54 #[.agg gv,.complex .f64 cG m1] w (λsm eD=>
      b0 sm λQc=>
      ξ (Qc[0]?) λv17=>
      br .i64 v17 λcm=>
      ξ (Qc[1]?) λu2=>
      br .i64 u2 λeK=>
      ξ t0 λd12=>
      ∃jG,eD.cell? (d12.add 1)=some (.pointer jG)/\
      (κ prog 23 #[.pointer jG,cm] eD (λu3 eJ=>
       b0 u3 λQd=>
       ξ (Qd[0]?) λv20=>
       cN v20 λp8 rY iC=>
       ξ (Qd[1]?) λv21=>
       br .i64 v21 λfl=>
       κ prog 52 #[fl] eJ (λv22 fw=>
        b0 v22 λagR=>
        κ prog 55 #[.pointer t0,.slice p8 rY iC,(0:Int)] fw (λv23 gi=>
         lq v23 λfM m2=>
         aN gi #[.complex .f64 fM m2] 113 λae hP=>
         gK hP Cm y1 F0 1 (a7 hP (some ⟨ae,0,none⟩)) 113 1 16 #[.complex .f64 0 0] λiM rD kR=>
         hJ t0 t2 hM fu h8 iM (y1+1) rD PV PU Wi t97 (IntKind.i64.wrap (t98+1)) kR) (au R)) (au R)) (au R))) (au R)))))) (
  iN.cd t0 t2 hM fu h8 Cm y1 F0 w R)
def iN.fG:=Oi iN.θ
def iN.bP(t0:J)(t2:Nat)(t10:Int)(w:World)(R:aq):Prop:=
 ∃(cE:ag),cE.size=24/\aw w.drew ⟨t2,0,none⟩ cE.toList/\
 (ξ t0 λd9=>
  ∃(dM:ag),dM.size=2/\aw w.drew (d9.add 2) dM.toList/\
  (κ prog 53 #[.agg cE,.agg dM,t10] w.drew (λny fO=>
   b0 ny λAV=>
   ξ (AV[0]?) λqo=>
   cN qo λfH jg hs=>
   ξ (AV[1]?) λsl=>
   br .i64 sl λcg=>
   iN.fG t0 t2 fH jg hs none 0 0 fH jg hs ((jg:Nat):Int) 0 fO R) (au R)))
def iN.a1(t0:J)(t2:Nat)(cR:J)(cM de:Nat)(lD:J)(lY lX:Nat)(w:World)(R:aq):Prop:=
 ξ t0 λd6=>
 ∃bh,w.cell? (d6.add 5)=some (.pointer bh)/\
 (κ prog 50 #[.pointer bh] w (λv5 cf=>
  b0 v5 λeI=>
  ξ (eI[0]?) λv6=>
  cN v6 λeg dB bI=>
  ξ (eI[1]?) λfJ=>
  br .i64 fJ λaA=>
  ξ t0 λd7=>
  ∃(bW:ag),bW.size=2/\aw cf (d7.add 2) bW.toList/\
  (aN cf #[aA] 3 λaF cA=>
   κ prog 51 #[.agg bW,.slice cR cM de,.slice lD lY lX,.slice (some ⟨aF,0,none⟩) 1 1] cA (λbj cn=>
    b0 bj λhY=>
    ξ (hY[0]?) λv9=>
    br .i64 v9 λak=>
    ξ (hY[1]?) λv10=>
    br .i64 v10 λaI=>
    cond (aI !=0) (
     κ prog 32 #[.pointer t0] cn (λv11 dX=>
      b0 v11 λmz=>
      R (.returned (.tuple #[])) dX) (au R)) (
     ξ t0 λd8=>
     ∃aV,cn.cell? (d8.add 6)=some (.int .i64 aV)/\
     (cond (aV==1073741824) (
       κ prog 52 #[(13:Int)] cn (λv12 eR=>
        b0 v12 λso=>
        iN.bP t0 t2 ak eR R) (au R)) (
       iN.bP t0 t2 ak cn R)))) (au R))) (au R))
def iN.δ(t0:J)(t2:Nat)(cR:J)(cM de:Nat)(lD:J)(lY lX:Nat)(PN:J)(PM We:Nat)(t39 t40:Int)(w:World)(R:aq)(a8:J->Nat->J->Nat->Nat->J->Nat->Nat->J->Nat->Nat->Int->Int->ao):Prop:=
 cond (decide (t40<t39)) (
  ο (decide (0<=t40)) (
   ο (decide (t40<((PM:Nat):Int))) (
    ξ PN λd3=>
    ∃σ,w.cell? (d3.add (t40.toNat*1))=some (.int .i64 σ)/\
    (ξ t0 λd4=>
     ∃ad,w.cell? (d4.add 10)=some (.int .i64 ad)/\
     (ο (decide (0<=t40)) (
      ο (decide (t40<((lY:Nat):Int))) (
       ξ lD λd5=>
       ed w (d5.add (t40.toNat*1)) (.int .i64 (min2 (IntKind.i64.wrap (ad-σ)) 65535)) λb5=>
       (a8 t0 t2 cR cM de lD lY lX PN PM We t39 (IntKind.i64.wrap (t40+1)) b5)))))))) (
  iN.a1 t0 t2 cR cM de lD lY lX w R)
def iN.bd:=Oi iN.δ
def iN.main(a0:J)(w:World)(R:aq):Prop:=
 κ prog 48 #[.pointer a0] w (λv1 γ=>
  dq v1 λaK=>
  aN γ #[(0:Int),(0:Int),(0:Int),(0:Int),(0:Int),(0:Int),(0:Int),(0:Int),(0:Int),(0:Int),(0:Int),(0:Int),(0:Int),(0:Int),(0:Int),(0:Int),.slice none 0 0,.slice none 0 0,.slice none 0 0,.slice none 0 0,.slice none 0 0,.slice none 0 0,.slice none 0 0,.slice none 0 0] 89 λδ aa=>
  ο (decide (aK.size=24)) (
   bG aa ⟨δ,0,none⟩ aK.toList λaz=>
   (∃(bF:ag),bF.size=24/\aw az.drew ⟨δ,0,none⟩ bF.toList/\
    (ξ a0 λd1=>
     ∃(bZ:ag),bZ.size=2/\aw az.drew (d1.add 2) bZ.toList/\
     (κ prog 49 #[.agg bF,.agg bZ] az.drew (λv2 aE=>
      b0 v2 λbN=>
      ξ (bN[0]?) λv3=>
      cN v3 λab ay c1=>
      ξ (bN[1]?) λv4=>
      br .i64 v4 λζ=>
      ο (decide (0<=((ay:Nat):Int))) (
       ο (decide (((ay:Nat):Int)<=((ay:Nat):Int))) (
        ο (decide ((8:Int)*((ay:Nat):Int)<=281474976710656/\((ay:Nat):Int)<=9223372036854775807)) (
         aN aE (madeCells #[(0:Int)] (ay*1)) 3 λθ bm=>
         ξ a0 λd2=>
         ∃aX bu c2,bm.cell? (d2.add 11)=some (.slice aX bu c2)/\
         (iN.bd a0 δ ab ay c1 (some ⟨θ,0,none⟩) ay ay aX bu c2 ((bu:Nat):Int) 0 bm R))))) (au R)))))) (au R)
abbrev iN.C(a0:J):=Calls prog 31 #[.pointer a0]
theorem iN.ok:ic iN.main iN.C:=λ{_ _ R}h=>fc func31 [] 148 (.seq .leaf (.seq .leaf (.seq .leaf (.cut [(0,.ptr),(2,.cY),(3,.slice),(5,.slice)] (iN.a1 · · · · · · · · · R) (.seq .leaf (.block (.loop [(0,.ptr),(2,.cY),(3,.slice),(5,.slice),(38,.slice),(39,.int .i64),(40,.int .i64)] (iN.bd · · · · · · · · · · · · · · R) λa8=>.leaf))) (.seq .leaf (.seq .leaf (.seq .leaf (.cut [(0,.ptr),(2,.cY),(10,.int .i64)] (iN.bP · · · · R) .leaf (.seq .leaf (.seq .leaf (.cut [(0,.ptr),(2,.cY),(12,.slice),(14,.slice)] (iN.cd · · · · · · · · · R) (.seq .leaf (.block (.loop [(0,.ptr),(2,.cY),(12,.slice),(14,.slice),(96,.slice),(97,.int .i64),(98,.int .i64)] (iN.fG · · · · · · · · · · · · · · R) λhJ=>.leaf))) .leaf))))))))))) h
def n0.δ(t0 PT:J)(PS Wh:Nat)(t76 t77:Int)(w:World)(R:aq)(a8:J->J->Nat->Nat->Int->Int->ao):Prop:=
 cond (decide (t77<t76)) (
  ο (decide (0<=t77)) (
   ο (decide (t77<((PS:Nat):Int))) (
    ξ PT λd13=>
    ∃cg,w.cell? (d13.add (t77.toNat*1))=some (.int .i64 cg)/\
    (ξ t0 λd14=>
     ∃jG,w.cell? (d14.add 5)=some (.pointer jG)/\
     (κ prog 59 #[.pointer jG,cg] w (λny fw=>
      br .i64 ny λcm=>
      a8 t0 PT PS Wh t76 (IntKind.i64.wrap (t77+1)) fw) (au R)))))) (
  R (.returned (.tuple #[])) w)
def n0.bd:=ph n0.δ
def n0.a1(t0:J)(w:World)(R:aq):Prop:=
 κ prog 48 #[.pointer t0] w (λv2 aa=>
  dq v2 λaK=>
  aN aa #[(0:Int),(0:Int),(0:Int),(0:Int),(0:Int),(0:Int),(0:Int),(0:Int),(0:Int),(0:Int),(0:Int),(0:Int),(0:Int),(0:Int),(0:Int),(0:Int),.slice none 0 0,.slice none 0 0,.slice none 0 0,.slice none 0 0,.slice none 0 0,.slice none 0 0,.slice none 0 0,.slice none 0 0] 89 λδ aE=>
  ο (decide (aK.size=24)) (
   bG aE ⟨δ,0,none⟩ aK.toList λba=>
   (ξ t0 λd2=>
    ∃ab,ba.cell? (d2.add 1)=some (.pointer ab)/\
    (κ prog 57 #[.pointer ab] ba (λv3 bm=>
     br .i64 v3 λσ=>
     κ prog 52 #[σ] bm (λv4 cf=>
      b0 v4 λeI=>
      ξ t0 λd3=>
      ∃aX,cf.drew.cell? (d3.add 1)=some (.pointer aX)/\
      (∃(bF:ag),bF.size=24/\aw cf.drew ⟨δ,0,none⟩ bF.toList/\
       (ξ t0 λd4=>
        ∃(bZ:ag),bZ.size=2/\aw cf.drew (d4.add 2) bZ.toList/\
        (ξ t0 λd5=>
         ∃ad,cf.drew.cell? (d5.add 6)=some (.int .i64 ad)/\
         (κ prog 58 #[.pointer aX,.agg bF,.agg bZ,(IntKind.i64.wrap (ad+1))] cf.drew (λv5 cA=>
          br .i64 v5 λaA=>
          κ prog 52 #[aA] cA (λv6 dn=>
           b0 v6 λhY=>
           ξ t0 λd6=>
           ∃ak,dn.cell? (d6.add 6)=some (.int .i64 ak)/\
           (ξ t0 λd7=>
           ed dn (d7.add 6) (.int .i64 (IntKind.i64.wrap (ak+1))) λeA=>
           (ξ t0 λd8=>
           ed eA (d8.add 7) (.int .i64 0) λeR=>
           (ξ t0 λd9=>
           ed eR (d9.add 8) (.slice none 0 0) λga=>
           (ξ t0 λd10=>
           ed ga (d10.add 9) (.bool false) λfO=>
           (ξ t0 λd11=>
           ∃bh,fO.cell? (d11.add 5)=some (.pointer bh)/\
           (κ prog 50 #[.pointer bh] fO (λfJ fE=>
           b0 fJ λmz=>
           ξ (mz[0]?) λbj=>
           cN bj λeg ay c1=>
           ξ (mz[1]?) λv9=>
           br .i64 v9 λaI=>
           ∃(bW:ag),bW.size=24/\aw fE.drew ⟨δ,0,none⟩ bW.toList/\
           (ξ t0 λd12=>
           ∃(cE:ag),cE.size=2/\aw fE.drew (d12.add 2) cE.toList/\
           (aN fE.drew #[aI] 3 λθ fv=>
           ο (decide (cE.size=2)) (
           aw fv (d12.add 2) cE.toList/\
           (ο (decide (bW.size=24)) (
           aw fv ⟨δ,0,none⟩ bW.toList/\
           (κ prog 39 #[.agg bW,.agg cE,.slice (some ⟨θ,0,none⟩) 1 1] fv (λv10 eJ=>
           b0 v10 λso=>
           ξ (so[0]?) λv11=>
           cN v11 λfH bu c2=>
           ξ (so[1]?) λv12=>
           br .i64 v12 λaV=>
           n0.bd t0 fH bu c2 ((bu:Nat):Int) 0 eJ R) (au R)))))))) (au R)))))))) (au R)) (au R)))))) (au R)) (au R))))) (au R)
def n0.main(a0:J)(w:World)(R:aq):Prop:=
 ξ a0 λd1=>
 ∃ζ,w.cell? (d1.add 6)=some (.int .i64 ζ)/\
 (cond (ζ==1073741824) (
  κ prog 52 #[(13:Int)] w (λv1 γ=>
   b0 v1 λbN=>
   n0.a1 a0 γ R) (au R)) (
  n0.a1 a0 w R))
abbrev n0.C(a0:J):=Calls prog 32 #[.pointer a0]
theorem n0.ok:ic n0.main n0.C:=λ{_ _ R}h=>fc func32 [] 88 (.cut [(0,.ptr)] (n0.a1 · · R) .leaf (.seq .leaf (.seq .leaf (.seq .leaf (.seq .leaf (.seq .leaf (.seq .leaf (.seq .leaf (.block (.loop [(0,.ptr),(75,.slice),(76,.int .i64),(77,.int .i64)] (n0.bd · · · · · · · R) λa8=>.leaf)))))))))) h
def DI.main(a0:J)(eM eN jX jY:Int)(kH:J)(kG kF:Nat)(w:World)(R:aq):Prop:=
 aN w #[eM,eN,jX,jY,.slice kH kG kF] 40 λδ γ=>
 cond (Option.isNone a0) (
  R (.returned (.tuple #[(0:Int),(1:Int)])) γ) (
  ∃(aK:ag),aK.size=5/\aw γ ⟨δ,0,none⟩ aK.toList/\
  (κ prog 60 #[.agg aK] γ (λv1 τ=>
   br .i64 v1 λζ=>
   cond (ζ !=0) (
    R (.returned (.tuple #[(0:Int),ζ])) τ) (
    ξ a0 λd1=>
    ∃ab ay c1,τ.cell? d1=some (.slice ab ay c1)/\
    (cond (decide (((ay:Nat):Int)>=16)) (
     R (.returned (.tuple #[(0:Int),(12:Int)])) τ) (
     ξ a0 λd2=>
     ∃σ,τ.cell? (d2.add 1)=some (.int .i64 σ)/\
     (ξ a0 λd3=>
      ed τ (d3.add 1) (.int .i64 (IntKind.i64.wrap (σ+1))) λaz=>
      (ξ a0 λd4=>
       ∃aX bu c2,az.drew.cell? d4=some (.slice aX bu c2)/\
       (∃(bF:ag),bF.size=5/\aw az.drew ⟨δ,0,none⟩ bF.toList/\
        (ξ a0 λd5=>
         ∃ad,az.drew.cell? (d5.add 1)=some (.int .i64 ad)/\
         (κ prog 61 #[.agg bF] az.drew (λv2 aE=>
          dq v2 λbZ=>
          aE.cell? (d5.add 1)=some (.int .i64 ad)/\
          (aE.cell? d4=some (.slice aX bu c2)/\
          (ξ (Instr.fill (λi=>[(0,5),(5,1)].toArray[i]?) #[(0:Int),(0:Int),(0:Int),(0:Int),.slice none 0 0,(0:Int)] [(0,(.agg bZ)),(1,(.int .i64 ad))]) λbW=>
          aN aE #[.iface 126 (.agg bW)] 20 λθ bm=>
          bm.cell? d4=some (.slice aX bu c2)/\
          (gK bm aX bu c2 1 (a7 bm (some ⟨θ,0,none⟩)) 20 1 16 #[Value.nilIface] λbh bI b5=>
          ξ a0 λd6=>
          ed b5 d6 (.slice bh (bu+1) bI) λcf=>
          (ξ a0 λd7=>
          ∃aA,cf.cell? (d7.add 1)=some (.int .i64 aA)/\
          (R (.returned (.tuple #[aA,(0:Int)])) cf)))))) (au R)))))))))) (au R)))
abbrev DI.C(a0:J)(eM eN jX jY:Int)(kH:J)(kG kF:Nat):=Calls prog 33 #[.pointer a0,.agg #[eM,eN,jX,jY,.slice kH kG kF]]
theorem DI.ok:A6 DI.main DI.C:=λh=>dg func33 [.tmp 4,.tmp 5] 48 h
def DH.main(a0:J)(w:World)(R:aq):Prop:=
 cond (Option.isNone a0) (
  R (.returned (.int .i64 0)) w) (
  ξ a0 λd1=>
  ∃ab ay c1,w.cell? d1=some (.slice ab ay c1)/\
  (R (.returned (.int .i64 ((ay:Nat):Int))) w))
abbrev DH.C(a0:J):=Calls prog 34 #[.pointer a0]
theorem DH.ok:ic DH.main DH.C:=λh=>dg func34 [.tmp 2] 10 h
def C7.main(a0:J)(w:World)(R:aq):Prop:=
 cond (Option.isNone a0) (
  R (.returned (.int .i64 1)) w) (
  ξ a0 λd1=>
  ∃δ,w.cell? (d1.add 4)=some (.bool δ)/\
  (cond δ (
   R (.returned (.int .i64 10)) w) (
   R (.returned (.int .i64 0)) w)))
abbrev C7.C(a0:J):=Calls prog 35 #[.pointer a0]
theorem C7.ok:ic C7.main C7.C:=λh=>dg func35 [.tmp 2] 11 h
def x9.main(bC:J)(aY bx:Nat)(w:World)(R:aq):Prop:=
 cond (Option.isNone bC) (
  R (.returned (.slice none 0 0)) w) (
  aN w #[] 5 λδ γ=>
  gK γ (some ⟨δ,0,none⟩) 0 0 aY (a7 γ bC) 5 1 1 #[.int .u8 0] λab c1 τ=>
  R (.returned (.slice ab (0+aY) c1)) τ)
abbrev x9.C(bC:J)(aY bx:Nat):=Calls prog 36 #[.slice bC aY bx]
theorem x9.ok:iB x9.main x9.C:=λh=>dg func36 [.tmp 2] 8 h
def mw.bP(t0:J)(t3:Nat)(w:World)(R:aq):Prop:=
 ∃(bF:ag),bF.size=2/\aw w ⟨t3,0,none⟩ bF.toList/\
 (κ prog 58 #[.pointer t0,.agg #[(0:Int),(0:Int),(0:Int),(0:Int),(0:Int),(0:Int),(0:Int),(0:Int),(0:Int),(0:Int),(0:Int),(0:Int),(0:Int),(0:Int),(0:Int),(0:Int),.slice none 0 0,.slice none 0 0,.slice none 0 0,.slice none 0 0,.slice none 0 0,.slice none 0 0,.slice none 0 0,.slice none 0 0],.agg bF,(1:Int)] w (λbj eA=>
  br .i64 bj λaV=>
  R (.returned (.int .i64 aV)) eA) (au R))
def mw.δ(t0:J)(t3:Nat)(nv:J)(mV oY:Nat)(t45:Int)(w:World)(R:aq)(a8:J->Nat->J->Nat->Nat->Int->ao):Prop:=
 cond (decide (t45<16)) (
  aN w #[(IntKind.i64.wrap (24+t45)),.slice nv mV oY] 130 λae cn=>
  κ prog 63 #[.pointer t0,.slice (some ⟨ae,0,none⟩) 1 1] cn (λfJ dn=>
   br .i64 fJ λaI=>
   cond (aI !=0) (
    R (.returned (.int .i64 aI)) dn) (
    a8 t0 t3 nv mV oY (IntKind.i64.wrap (t45+1)) dn)) (au R)) (
  mw.bP t0 t3 w R)
def mw.bd:=ph mw.δ
def mw.a1(t0:J)(t3:Nat)(t5:Int)(t17:Bool)(w:World)(R:aq):Prop:=
 cond t17 (
  R (.returned (.int .i64 1)) w) (
  κ prog 22 #[.pointer t0] w (λv4 az=>
   br .i64 v4 λad=>
   cond (decide (ad<t5)) (
    R (.returned (.int .i64 9)) az) (
    aN az (madeCells #[.int .u8 0] (64*1)) 5 λθ ba=>
    aN ba #[(0:Int),.slice (some ⟨θ,0,none⟩) 64 64,(12:Int),.slice (some ⟨θ,0,none⟩) 64 64] 130 λaF bm=>
    κ prog 63 #[.pointer t0,.slice (some ⟨aF,0,none⟩) 2 2] bm (λv5 b5=>
     br .i64 v5 λaA=>
     cond (aA !=0) (
      R (.returned (.int .i64 aA)) b5) (
      κ prog 57 #[.pointer t0] b5 (λv6 c6=>
       br .i64 v6 λak=>
       cond (ak !=0) (
        R (.returned (.int .i64 ak)) c6) (
        mw.bd t0 t3 (some ⟨θ,0,none⟩) 64 64 0 c6 R)) (au R))) (au R))) (au R))
def mw.main(a0:J)(eM eN:Int)(w:World)(R:aq):Prop:=
 aN w #[eM,eN] 28 λδ γ=>
 ∃(aK:ag),aK.size=2/\aw γ ⟨δ,0,none⟩ aK.toList/\
 (κ prog 62 #[.agg aK] γ (λv1 τ=>
  b0 v1 λbN=>
  ξ (bN[0]?) λv2=>
  br .i64 v2 λζ=>
  ξ (bN[1]?) λv3=>
  br .i64 v3 λσ=>
  cond (σ !=0) (
   mw.a1 a0 δ ζ true τ R) (
   mw.a1 a0 δ ζ (Option.isNone a0) τ R)) (au R))
abbrev mw.C(a0:J)(eM eN:Int):=Calls prog 37 #[.pointer a0,.agg #[eM,eN]]
theorem mw.ok:iB mw.main mw.C:=λ{_ _ _ _ R}h=>fc func37 [.tmp 4] 63 (.seq .leaf (.seq .leaf (.seq (.block (.cut [(0,.ptr),(3,.cY),(5,.int .i64),(17,.bool)] (mw.a1 · · · · · R) .leaf .leaf)) (.seq .leaf (.seq .leaf (.seq .leaf (.cut [(0,.ptr),(3,.cY)] (mw.bP · · · R) (.seq .leaf (.block (.loop [(0,.ptr),(3,.cY),(7,.slice),(45,.int .i64)] (mw.bd · · · · · · · R) λa8=>.leaf))) .leaf))))))) h
def Fj.main(a0:J)(w:World)(R:aq):Prop:=
 aN w #[(0:Int),(0:Int),(0:Int),(0:Int),(0:Int),(0:Int),(0:Int),(0:Int),(0:Int),(0:Int),(0:Int),(0:Int),(0:Int),(0:Int),(0:Int),(0:Int),.slice none 0 0,.slice none 0 0,.slice none 0 0,.slice none 0 0,.slice none 0 0,.slice none 0 0,.slice none 0 0,.slice none 0 0] 89 λδ γ=>
 aN γ #[(0:Int),(0:Int)] 28 λθ τ=>
 κ prog 64 #[.pointer a0] τ (λv1 aa=>
  b0 v1 λbN=>
  ξ (bN[0]?) λv2=>
  dq v2 λaK=>
  ξ (bN[1]?) λv3=>
  dq v3 λbF=>
  ξ (bN[2]?) λv4=>
  br .i64 v4 λζ=>
  ξ (bN[3]?) λv5=>
  br .i64 v5 λσ=>
  ο (decide (aK.size=24)) (
   bG aa ⟨δ,0,none⟩ aK.toList λaE=>
   (ο (decide (bF.size=2)) (
    bG aE ⟨θ,0,none⟩ bF.toList λba=>
    (cond (σ !=0) (
     bG ba ⟨δ,0,none⟩ [(.int .i64 0),(.int .i64 0),(.int .i64 0),(.int .i64 0),(.int .i64 0),(.int .i64 0),(.int .i64 0),(.int .i64 0),(.int .i64 0),(.int .i64 0),(.int .i64 0),(.int .i64 0),(.int .i64 0),(.int .i64 0),(.int .i64 0),(.int .i64 0),(.slice none 0 0),(.slice none 0 0),(.slice none 0 0),(.slice none 0 0),(.slice none 0 0),(.slice none 0 0),(.slice none 0 0),(.slice none 0 0)] λbm=>
     (bG bm ⟨θ,0,none⟩ [(.int .i64 0),(.int .i64 0)] λb5=>
      (∃(bZ:ag),bZ.size=24/\aw b5 ⟨δ,0,none⟩ bZ.toList/\
       (∃(bW:ag),bW.size=2/\aw b5 ⟨θ,0,none⟩ bW.toList/\
        (R (.returned (.tuple #[.agg bZ,.agg bW,(0:Int),(0:Int),σ])) b5))))) (
     ∃(cE:ag),cE.size=2/\aw ba ⟨θ,0,none⟩ cE.toList/\
     (κ prog 62 #[.agg cE] ba (λv6 cf=>
       b0 v6 λeI=>
       ξ (eI[0]?) λfJ=>
       br .i64 fJ λad=>
       ξ (eI[1]?) λbj=>
       br .i64 bj λaA=>
       κ prog 22 #[.pointer a0] cf (λv9 cA=>
        br .i64 v9 λak=>
        cond (decide (ak<ad)) (
         bG cA ⟨δ,0,none⟩ [(.int .i64 0),(.int .i64 0),(.int .i64 0),(.int .i64 0),(.int .i64 0),(.int .i64 0),(.int .i64 0),(.int .i64 0),(.int .i64 0),(.int .i64 0),(.int .i64 0),(.int .i64 0),(.int .i64 0),(.int .i64 0),(.int .i64 0),(.int .i64 0),(.slice none 0 0),(.slice none 0 0),(.slice none 0 0),(.slice none 0 0),(.slice none 0 0),(.slice none 0 0),(.slice none 0 0),(.slice none 0 0)] λdn=>
         (bG dn ⟨θ,0,none⟩ [(.int .i64 0),(.int .i64 0)] λdX=>
          (∃(dM:ag),dM.size=24/\aw dX ⟨δ,0,none⟩ dM.toList/\
           (∃(gv:ag),gv.size=2/\aw dX ⟨θ,0,none⟩ gv.toList/\
           (R (.returned (.tuple #[.agg dM,.agg gv,(0:Int),(0:Int),(11:Int)])) dX))))) (
         κ prog 65 #[.pointer a0,ζ] cA (λv10 eA=>
          b0 v10 λhY=>
          ξ (hY[0]?) λv11=>
          cN v11 λab ay c1=>
          ξ (hY[1]?) λv12=>
          br .i64 v12 λaI=>
          ξ (hY[2]?) λny=>
          br .i64 ny λaV=>
          cond (aV !=0) (
           bG eA ⟨δ,0,none⟩ [(.int .i64 0),(.int .i64 0),(.int .i64 0),(.int .i64 0),(.int .i64 0),(.int .i64 0),(.int .i64 0),(.int .i64 0),(.int .i64 0),(.int .i64 0),(.int .i64 0),(.int .i64 0),(.int .i64 0),(.int .i64 0),(.int .i64 0),(.int .i64 0),(.slice none 0 0),(.slice none 0 0),(.slice none 0 0),(.slice none 0 0),(.slice none 0 0),(.slice none 0 0),(.slice none 0 0),(.slice none 0 0)] λga=>
           (bG ga ⟨θ,0,none⟩ [(.int .i64 0),(.int .i64 0)] λfO=>
           (∃(gM:ag),gM.size=24/\aw fO ⟨δ,0,none⟩ gM.toList/\
           (∃(gN:ag),gN.size=2/\aw fO ⟨θ,0,none⟩ gN.toList/\
           (R (.returned (.tuple #[.agg gM,.agg gN,(0:Int),(0:Int),aV])) fO))))) (
           ∃(iE:ag),iE.size=24/\aw eA ⟨δ,0,none⟩ iE.toList/\
           (κ prog 66 #[.agg iE,.slice ab ay c1] eA (λqo fE=>
           b0 qo λmz=>
           ξ (mz[0]?) λsl=>
           dq sl λjB=>
           ξ (mz[1]?) λsm=>
           br .i64 sm λcg=>
           ξ (mz[2]?) λv17=>
           br .i64 v17 λcm=>
           ο (decide (jB.size=24)) (
           bG fE ⟨δ,0,none⟩ jB.toList λfv=>
           (cond (cm !=0) (
           bG fv ⟨δ,0,none⟩ [(.int .i64 0),(.int .i64 0),(.int .i64 0),(.int .i64 0),(.int .i64 0),(.int .i64 0),(.int .i64 0),(.int .i64 0),(.int .i64 0),(.int .i64 0),(.int .i64 0),(.int .i64 0),(.int .i64 0),(.int .i64 0),(.int .i64 0),(.int .i64 0),(.slice none 0 0),(.slice none 0 0),(.slice none 0 0),(.slice none 0 0),(.slice none 0 0),(.slice none 0 0),(.slice none 0 0),(.slice none 0 0)] λfw=>
           (bG fw ⟨θ,0,none⟩ [(.int .i64 0),(.int .i64 0)] λsq=>
           (∃(mG:ag),mG.size=24/\aw sq ⟨δ,0,none⟩ mG.toList/\
           (∃(jO:ag),jO.size=2/\aw sq ⟨θ,0,none⟩ jO.toList/\
           (R (.returned (.tuple #[.agg mG,.agg jO,(0:Int),(0:Int),(11:Int)])) sq))))) (
           ∃(kJ:ag),kJ.size=24/\aw fv ⟨δ,0,none⟩ kJ.toList/\
           (∃(mF:ag),mF.size=2/\aw fv ⟨θ,0,none⟩ mF.toList/\
           (κ prog 67 #[.agg kJ,.agg mF] fv (λu2 eJ=>
           br .i64 u2 λeK=>
           cond (eK !=0) (
           bG eJ ⟨δ,0,none⟩ [(.int .i64 0),(.int .i64 0),(.int .i64 0),(.int .i64 0),(.int .i64 0),(.int .i64 0),(.int .i64 0),(.int .i64 0),(.int .i64 0),(.int .i64 0),(.int .i64 0),(.int .i64 0),(.int .i64 0),(.int .i64 0),(.int .i64 0),(.int .i64 0),(.slice none 0 0),(.slice none 0 0),(.slice none 0 0),(.slice none 0 0),(.slice none 0 0),(.slice none 0 0),(.slice none 0 0),(.slice none 0 0)] λgi=>
           (bG gi ⟨θ,0,none⟩ [(.int .i64 0),(.int .i64 0)] λh0=>
           (∃(j0:ag),j0.size=24/\aw h0 ⟨δ,0,none⟩ j0.toList/\
           (∃(mb:ag),mb.size=2/\aw h0 ⟨θ,0,none⟩ mb.toList/\
           (R (.returned (.tuple #[.agg j0,.agg mb,(0:Int),(0:Int),(11:Int)])) h0))))) (
           ∃(mc:ag),mc.size=24/\aw eJ ⟨δ,0,none⟩ mc.toList/\
           (∃(ue:ag),ue.size=2/\aw eJ ⟨θ,0,none⟩ ue.toList/\
           (κ prog 39 #[.agg mc,.agg ue,.slice none 0 0] eJ (λu3 hP=>
           b0 u3 λso=>
           ξ (so[0]?) λv20=>
           cN v20 λaX bu c2=>
           ξ (so[1]?) λv21=>
           br .i64 v21 λfl=>
           cond (decide (((bu:Nat):Int)<2)) (
           bG hP ⟨δ,0,none⟩ [(.int .i64 0),(.int .i64 0),(.int .i64 0),(.int .i64 0),(.int .i64 0),(.int .i64 0),(.int .i64 0),(.int .i64 0),(.int .i64 0),(.int .i64 0),(.int .i64 0),(.int .i64 0),(.int .i64 0),(.int .i64 0),(.int .i64 0),(.int .i64 0),(.slice none 0 0),(.slice none 0 0),(.slice none 0 0),(.slice none 0 0),(.slice none 0 0),(.slice none 0 0),(.slice none 0 0),(.slice none 0 0)] λj6=>
           (bG j6 ⟨θ,0,none⟩ [(.int .i64 0),(.int .i64 0)] λzg=>
           (∃(yb:ag),yb.size=24/\aw zg ⟨δ,0,none⟩ yb.toList/\
           (∃(Dn:ag),Dn.size=2/\aw zg ⟨θ,0,none⟩ Dn.toList/\
           (R (.returned (.tuple #[.agg yb,.agg Dn,(0:Int),(0:Int),(11:Int)])) zg))))) (
           ∃(zF:ag),zF.size=24/\aw hP.drew ⟨δ,0,none⟩ zF.toList/\
           (∃(uf:ag),uf.size=2/\aw hP.drew ⟨θ,0,none⟩ uf.toList/\
           (ο (decide (zF.size=24)) (
           bG hP.drew ⟨δ,0,none⟩ zF.toList λiz=>
           (ο (decide (uf.size=2)) (
           aw iz ⟨θ,0,none⟩ uf.toList/\
           (ο (decide (uf.size=2)) (
           bG iz ⟨θ,0,none⟩ uf.toList λsr=>
           (∃(Dp:ag),Dp.size=24/\aw sr ⟨δ,0,none⟩ Dp.toList/\
           (∃(Dq:ag),Dq.size=2/\aw sr ⟨θ,0,none⟩ Dq.toList/\
           (R (.returned (.tuple #[.agg Dp,.agg Dq,ζ,((ay:Nat):Int),(0:Int)])) sr)))))))))))) (au R))))) (au R))))))) (au R)))) (au R))) (au R)) (au R)))))))) (au R)
abbrev Fj.C(a0:J):=Calls prog 38 #[.pointer a0]
theorem Fj.ok:ic Fj.main Fj.C:=λh=>dg func38 [.cell 2 89,.cell 3 28,.tmp 4,.tmp 5,.tmp 6] 81 h
def sI.δ(e8:J)(e0 fN:Nat)(e7:J)(eV fi:Nat)(Iu:J)(It Lz:Nat)(t23 t24:Int)(w:World)(R:aq)(a8:J->Nat->Nat->J->Nat->Nat->J->Nat->Nat->Int->Int->ao):Prop:=
 cond (decide (t24<t23)) (
  ο (decide (0<=t24)) (
   ο (decide (t24<((It:Nat):Int))) (
    ξ Iu λd1=>
    ∃σ,w.cell? (d1.add (t24.toNat*1))=some (.int .i64 σ)/\
    (cond (σ==0) (
     κ prog 68 #[.slice e8 e0 fN,t24] w (λv4 aE=>
      dw v4 λaF=>
      cond (!aF) (
       aN aE #[t24] 3 λae bm=>
       gK bm e7 eV fi 1 (a7 bm (some ⟨ae,0,none⟩)) 3 1 8 #[(0:Int)] λaX c2 b5=>
       a8 e8 e0 fN aX (eV+1) c2 Iu It Lz t23 (IntKind.i64.wrap (t24+1)) b5) (
       a8 e8 e0 fN e7 eV fi Iu It Lz t23 (IntKind.i64.wrap (t24+1)) aE)) (au R)) (
     a8 e8 e0 fN e7 eV fi Iu It Lz t23 (IntKind.i64.wrap (t24+1)) w))))) (
  R (.returned (.tuple #[.slice e7 eV fi,(0:Int)])) w)
def sI.bd:=abY sI.δ
def sI.main(a0:ag)(eM eN:Int)(iW:J)(et jZ:Nat)(w:World)(R:aq):Prop:=
 aN w a0 89 λδ γ=>
 aN γ #[eM,eN] 28 λθ τ=>
 ∃(aK:ag),aK.size=24/\aw τ ⟨δ,0,none⟩ aK.toList/\
 (∃(bF:ag),bF.size=2/\aw τ ⟨θ,0,none⟩ bF.toList/\
  (κ prog 49 #[.agg aK,.agg bF] τ (λv1 aa=>
   b0 v1 λbN=>
   ξ (bN[0]?) λv2=>
   cN v2 λab ay c1=>
   ξ (bN[1]?) λv3=>
   br .i64 v3 λζ=>
   cond (ζ !=0) (
    R (.returned (.tuple #[.slice none 0 0,ζ])) aa) (
    sI.bd iW et jZ none 0 0 ab ay c1 ((ay:Nat):Int) 0 aa R)) (au R)))
abbrev sI.C(a0:ag)(eM eN:Int)(iW:J)(et jZ:Nat):=Calls prog 39 #[.agg a0,.agg #[eM,eN],.slice iW et jZ]
theorem sI.ok:xY sI.main sI.C:=λ{_ _ _ _ _ _ _ R}h=>fc func39 [.tmp 6,.tmp 7] 43 (.seq .leaf (.seq .leaf (.seq .leaf (.seq .leaf (.seq (.seq .leaf (.block (.loop [(2,.slice),(10,.slice),(22,.slice),(23,.int .i64),(24,.int .i64)] (sI.bd · · · · · · · · · · · · R) λa8=>.leaf))) .leaf))))) h
def DJ.main(w:World)(R:aq):Prop:=
 aN w #[.slice none 0 0,(0:Int)] 123 λδ γ=>
 R (.returned (.pointer (some ⟨δ,0,none⟩))) γ
abbrev DJ.C:=Calls prog 40 #[]
theorem DJ.ok:QQ DJ.main DJ.C:=λh=>dg func40 [.tmp 0] 3 h
def k9.a1(t4:J)(t5:Int)(t7:J)(t21:ag)(t22:Int)(w:World)(R:aq)(a8:J->ag->Int->ao):Prop:=
 ξ t4 λd3=>
 ο (decide (0<=t5)) (
  ο (decide (t5<(8:Int))) (
   ed w ((d3.add 16).add (t5.toNat*1)) (.pointer t7) λcA=>
   (a8 t4 t21 (IntKind.i64.wrap (t22+1)) cA)))
def k9.θ(t4:J)(t5:Int)(t7:J)(t21:ag)(t22:Int)(LH:J)(LG PL:Nat)(t36 t37:Int)(w:World)(R:aq)(a8:J->ag->Int->ao)(hJ:J->Int->J->ag->Int->J->Nat->Nat->Int->Int->ao):Prop:=
 cond (decide (t37<t36)) (
  ο (decide (0<=t37)) (
   ο (decide (t37<((LG:Nat):Int))) (
    ξ LH λd2=>
    ∃cG m1,w.cell? (d2.add (t37.toNat*1))=some (.complex .f64 cG m1)/\
    (cond (!(ek .eql cG 13830554455654793216&&ek .eql m1 0)) (
     κ prog 72 #[.pointer t7,t37,.complex .f64 cG m1] w (λfJ cf=>
      b0 fJ λeI=>
      ξ (eI[0]?) λbj=>
      gX bj λeg=>
      ξ (eI[1]?) λv9=>
      br .i64 v9 λσ=>
      hJ t4 t5 eg t21 t22 LH LG PL t36 (IntKind.i64.wrap (t37+1)) cf) (au R)) (
     hJ t4 t5 t7 t21 t22 LH LG PL t36 (IntKind.i64.wrap (t37+1)) w))))) (
  k9.a1 t4 t5 t7 t21 t22 w R a8)
def k9.fG:=apw k9.θ
def k9.δ(t4:J)(t21:ag)(t22:Int)(w:World)(R:aq)(a8:J->ag->Int->ao):Prop:=
 cond (decide (t22<8)) (
  ο (decide (0<=t22)) (
   ο (decide (t22<(8:Int))) (
    ξ (t21[(t22.toNat*1)]?) λv3=>
    cN v3 λaX ay c1=>
    cond (((ay:Nat):Int)==0) (
     a8 t4 t21 (IntKind.i64.wrap (t22+1)) w) (
     κ prog 71 #[((ay:Nat):Int)] w (λv4 bm=>
      b0 v4 λbN=>
      ξ (bN[0]?) λv5=>
      gX v5 λbh=>
      ξ (bN[1]?) λv6=>
      br .i64 v6 λζ=>
      k9.fG t4 t22 bh t21 t22 aX ay c1 ((ay:Nat):Int) 0 bm R a8) (au R))))) (
  R (.returned (.tuple #[.pointer t4,(0:Int)])) w)
def k9.bd:=Hx k9.δ
def k9.main(a0:ag)(w:World)(R:aq):Prop:=
 aN w a0 89 λδ γ=>
 ∃(aK:ag),aK.size=24/\aw γ ⟨δ,0,none⟩ aK.toList/\
 (κ prog 69 #[.agg aK] γ (λv1 τ=>
  dw v1 λθ=>
  cond (!θ) (
   R (.returned (.tuple #[.pointer none,(2:Int)])) τ) (
   κ prog 70 #[] τ (λv2 az=>
    gX v2 λab=>
    ∃(bF:ag),bF.size=16/\aw az ⟨δ,0,none⟩ bF.toList/\
    (ξ ab λd1=>
     ο (decide (bF.size=16)) (
      bG az d1 bF.toList λba=>
      (∃(bZ:ag),bZ.size=8/\aw ba ⟨δ,16,none⟩ bZ.toList/\
       (k9.bd ab bZ 0 ba R))))) (au R))) (au R))
abbrev k9.C(a0:ag):=Calls prog 41 #[.agg a0]
theorem k9.ok:ic k9.main k9.C:=λ{_ _ R}h=>fc func41 [.tmp 2,.tmp 3] 60 (.seq .leaf (.seq .leaf (.seq .leaf (.seq .leaf (.seq (.seq .leaf (.block (.loop [(4,.ptr),(21,.agg),(22,.int .i64)] (k9.bd · · · · R) λa8=>(.seq .leaf (.seq .leaf (.seq (.block (.seq .leaf (.seq .leaf (.seq .leaf (.cut [(4,.ptr),(5,.int .i64),(7,.ptr),(21,.agg),(22,.int .i64)] (k9.a1 · · · · · · R a8) (.seq .leaf (.block (.loop [(4,.ptr),(5,.int .i64),(7,.ptr),(21,.agg),(22,.int .i64),(35,.slice),(36,.int .i64),(37,.int .i64)] (k9.fG · · · · · · · · · · · R a8) λhJ=>.leaf))) .leaf))))) .leaf)))))) .leaf))))) h
def tA.δ(t7:Nat)(aeG:J)(aeF atl:Nat)(t20 t21:Int)(w:World)(R:aq)(a8:Nat->J->Nat->Nat->Int->Int->ao):Prop:=
 cond (decide (t21<t20)) (
  ο (decide (0<=t21)) (
   ο (decide (t21<((aeF:Nat):Int))) (
    ξ aeG λd1=>
    ∃σ,w.cell? (d1.add (t21.toNat*1))=some (.int .i64 σ)/\
    (κ prog 59 #[.pointer (some ⟨t7,0,none⟩),σ] w (λv2 aE=>
     br .i64 v2 λad=>
     cond (ad !=0) (
      R (.returned (.tuple #[.pointer none,(1:Int)])) aE) (
      a8 t7 aeG aeF atl t20 (IntKind.i64.wrap (t21+1)) aE)) (au R))))) (
  R (.returned (.tuple #[.pointer (some ⟨t7,0,none⟩),(0:Int)])) w)
def tA.bd:=ph tA.δ
def tA.main(fg fW:Int)(gg:J)(e1 gk:Nat)(w:World)(R:aq):Prop:=
 aN w #[fg,fW] 28 λδ γ=>
 ∃(aK:ag),aK.size=2/\aw γ ⟨δ,0,none⟩ aK.toList/\
 (κ prog 73 #[.agg aK] γ (λv1 τ=>
  br .i64 v1 λζ=>
  cond (ζ !=0) (
   R (.returned (.tuple #[.pointer none,ζ])) τ) (
   ∃(bF:ag),bF.size=2/\aw τ ⟨δ,0,none⟩ bF.toList/\
   (ξ (Instr.fill (λi=>[(0,2),(2,1),(3,1),(4,1)].toArray[i]?) #[(0:Int),(0:Int),.slice none 0 0,(0:Int),(0:Int)] [(0,(.agg bF)),(2,(.int .i64 (-1)))]) λbZ=>
    aN τ bZ 150 λθ az=>
    tA.bd θ gg e1 gk ((e1:Nat):Int) 0 az R))) (au R))
abbrev tA.C(fg fW:Int)(gg:J)(e1 gk:Nat):=Calls prog 42 #[.agg #[fg,fW],.slice gg e1 gk]
theorem tA.ok:wz tA.main tA.C:=λ{_ _ _ _ _ _ R}h=>fc func42 [.tmp 4,.tmp 5] 32 (.seq .leaf (.seq .leaf (.seq .leaf (.seq (.seq .leaf (.block (.loop [(7,.cY),(19,.slice),(20,.int .i64),(21,.int .i64)] (tA.bd · · · · · · · R) λa8=>.leaf))) .leaf)))) h
def DG.main(a0:J)(w:World)(R:aq):Prop:=
 κ prog 44 #[.pointer a0] w (λv1 γ=>
  b0 v1 λbN=>
  ξ (bN[0]?) λv2=>
  br .i64 v2 λζ=>
  ξ (bN[1]?) λv3=>
  dq v3 λaK=>
  ξ (bN[2]?) λv4=>
  br .i64 v4 λσ=>
  aN γ #[(0:Int),(0:Int),(0:Int),(0:Int),.slice none 0 0] 40 λδ aa=>
  ο (decide (aK.size=5)) (
   bG aa ⟨δ,0,none⟩ aK.toList λaz=>
   (cond (σ !=0) (
    R (.returned (.int .i64 σ)) az) (
    ξ a0 λd1=>
    ∃ab ay c1,az.cell? d1=some (.slice ab ay c1)/\
    (ο (decide (1<=((ay:Nat):Int))) (
     ξ a0 λd2=>
     ed az d2 (.slice (du ab c1 1 1) (ay-1) (c1-1)) λaE=>
     (R (.returned (.int .i64 0)) aE))))))) (au R)
abbrev DG.C(a0:J):=Calls prog 43 #[.pointer a0]
theorem DG.ok:ic DG.main DG.C:=λh=>dg func43 [.tmp 2] 23 h
end Go.Proofs.YtcpdfhkhaekekaaGreat.G

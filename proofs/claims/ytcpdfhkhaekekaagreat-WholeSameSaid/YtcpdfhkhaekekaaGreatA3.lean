/- The walk of the functions, and the plain laws of the model: part of the proof. Conditions: none. -/
import Derived.Test.YtcpdfhkhaekekaaGreatA2
set_option linter.unusedVariables false
set_option linter.unusedSimpArgs false
namespace Go.Proofs.YtcpdfhkhaekekaaGreat.G
open Tryz
open Go.bJ
set_option maxRecDepth 100000
def HC.main(fM gH:Int)(w:World)(R:au):Prop:=
 aK w #[fM,gH] 28 λδ ε=>
 ∃θ,ε.cell? ⟨δ,0,none⟩=some (.int .i64 θ)/\
 (∃ρ,ε.cell? ⟨δ,1,none⟩=some (.int .i64 ρ)/\
  (κ prog 25 #[(IntKind.i64.wrap (40+(IntKind.i64.wrap (θ*ρ))))] ε (λv1 υ=>
   b7 v1 λbN=>
   ξ (bN[0]?) λv2=>
   gI v2 λae=>
   ξ (bN[1]?) λv3=>
   br .i64 v3 λad=>
   cond (ad !=0) (
    R (.returned (.tuple #[.pointer none,.pointer none])) υ) (
    ∃(aE:aj),aE.size=2/\aB υ ⟨δ,0,none⟩ aE.toList/\
    (κ prog 26 #[.pointer ae,.agg aE] υ (λv4 ao=>
     br .i64 v4 λaC=>
     cond (aC !=0) (
      R (.returned (.tuple #[.pointer none,.pointer none])) ao) (
      κ prog 27 #[.pointer ae] ao (λv5 aZ=>
       b7 v5 λeY=>
       ξ (eY[0]?) λv6=>
       gI v6 λaX=>
       ξ (eY[1]?) λfm=>
       br .i64 fm λay=>
       cond (ay !=0) (
        R (.returned (.tuple #[.pointer none,.pointer none])) aZ) (
        R (.returned (.tuple #[.pointer ae,.pointer aX])) aZ)) (ai R))) (ai R)))) (ai R)))
abbrev HC.C(fM gH:Int):=Calls prog 11 #[.agg #[fM,gH]]
theorem HC.ok:kn HC.main HC.C:=λh=>dA func11 [.tmp 2,.tmp 3] 35 h
def HF.main(a0 aw:Int)(w:World)(R:au):Prop:=
 aK w #[(0:Int),(0:Int)] 28 λδ ε=>
 a6 ε ⟨δ,0,none⟩ [(.int .i64 (IntKind.i64.wrap (6+(IntKind.i64.wrap (Int.tmod a0 9))))),(.int .i64 (IntKind.i64.wrap (2+(IntKind.i64.wrap (Int.tmod aw 5)))))]/\∀υ,υ=ε.setCells (⟨δ,0,none⟩:Addr).block (⟨δ,0,none⟩:Addr).off [(.int .i64 (IntKind.i64.wrap (6+(IntKind.i64.wrap (Int.tmod a0 9))))),(.int .i64 (IntKind.i64.wrap (2+(IntKind.i64.wrap (Int.tmod aw 5)))))]->
 (∃(aE:aj),aE.size=2/\aB υ ⟨δ,0,none⟩ aE.toList/\
  (R (.returned (.agg aE)) υ))
abbrev HF.C(a0 aw:Int):=Calls prog 12 #[.int .u8 a0,.int .u8 aw]
theorem HF.ok:kn HF.main HF.C:=λh=>dA func12 [.cell 4 28] 14 h
def HH.main(w:World)(R:au):Prop:=
 κ prog 11 #[.agg #[(6:Int),(2:Int)]] w (λv1 ε=>
  b7 v1 λbN=>
  ξ (bN[0]?) λv2=>
  gI v2 λae=>
  ξ (bN[1]?) λv3=>
  gI v3 λaX=>
  cond (Option.isNone ae) (
   R (.returned (.bool false)) ε) (
   cond (Option.isNone aX) (
    R (.returned (.bool false)) ε) (
    κ prog 14 #[.pointer aX,.agg #[(1:Int),(0:Int),(0:Int),(2:Int),.slice none 0 0]] ε (λv4 χ=>
     cv v4 λaE=>
     aK χ #[(0:Int),(0:Int),(0:Int),.slice none 0 0,.slice none 0 0] 37 λδ an=>
     ν (decide (aE.size=5)) (
      a6 an ⟨δ,0,none⟩ aE.toList/\∀aZ,aZ=an.setCells (⟨δ,0,none⟩:Addr).block (⟨δ,0,none⟩:Addr).off aE.toList->
      (κ prog 15 #[.int .u8 9] aZ (λv5 a8=>
       cX v5 λbj aD c1=>
       κ prog 14 #[.pointer aX,.agg #[(5:Int),(0:Int),(1:Int),(0:Int),.slice bj aD c1]] a8 (λv6 bW=>
        cv v6 λbz=>
        aK bW #[(0:Int),(0:Int),(0:Int),.slice none 0 0,.slice none 0 0] 37 λζ cd=>
        ν (decide (bz.size=5)) (
         a6 cd ⟨ζ,0,none⟩ bz.toList/\∀cm,cm=cd.setCells (⟨ζ,0,none⟩:Addr).block (⟨ζ,0,none⟩:Addr).off bz.toList->
         (∃θ,cm.cell? ⟨δ,1,none⟩=some (.int .i64 θ)/\
          (cond (θ==0) (
           ∃ρ,cm.cell? ⟨ζ,1,none⟩=some (.int .i64 ρ)/\
           (cond (ρ==0) (
           κ prog 17 #[.pointer aX,(0:Int),(1:Int)] cm (λfm cE=>
           iI fm λs1=>
           κ prog 15 #[.int .u8 9] cE (λa7 dp=>
           cX a7 λeo bu c2=>
           ∃(lJ:aq),lJ.length=bu/\bd dp eo (lJ.map (.int .u8))/\
           (cond (s1.toList==(strOf lJ).toList) (
           κ prog 18 #[.pointer aX] dp (λv9 dP=>
           br .i64 v9 λad=>
           R (.returned (.bool (ad==1))) dP) (ai R)) (
           R (.returned (.bool false)) dp))) (ai R)) (ai R)) (
           R (.returned (.bool false)) cm))) (
           R (.returned (.bool false)) cm))))) (ai R)) (ai R)))) (ai R)))) (ai R)
abbrev HH.C:=Calls prog 13 #[]
theorem HH.ok:Tk HH.main HH.C:=λh=>dA func13 [.tmp 0] 43 h
def HD.main(a0:γ)(e8 e9 ks kt:Int)(lA:γ)(lz ly:Nat)(w:World)(R:au):Prop:=
 aK w #[e8,e9,ks,kt,.slice lA lz ly] 40 λδ ε=>
 aK ε #[(0:Int),(0:Int),(0:Int),.slice none 0 0,.slice none 0 0] 37 λζ υ=>
 aK υ #[] 5 λax χ=>
 ∃ae aD c1,χ.cell? ⟨δ,4,none⟩=some (.slice ae aD c1)/\
 (ho χ (some ⟨ax,0,none⟩) 0 0 aD (bd χ ae) 5 1 1 #[.int .u8 0] λaX c2 ao=>
  (ao.cell? ⟨δ,4,none⟩).isSome=true/\ao.frozen? ⟨δ,4,none⟩=false/\∀an,an=ao.setCell ⟨δ,4,none⟩ (.slice aX (0+aD) c2)->
  (∃(aE:aj),aE.size=5/\aB an ⟨δ,0,none⟩ aE.toList/\
   (κ prog 28 #[.pointer a0,.agg aE] an (λv1 aZ=>
    cv v1 λbz=>
    ν (decide (bz.size=5)) (
     a6 aZ ⟨ζ,0,none⟩ bz.toList/\∀bV,bV=aZ.setCells (⟨ζ,0,none⟩:Addr).block (⟨ζ,0,none⟩:Addr).off bz.toList->
     (∃(bO:aj),bO.size=5/\aB bV ⟨ζ,0,none⟩ bO.toList/\
      (R (.returned (.agg bO)) bV)))) (ai R))))
abbrev HD.C(a0:γ)(e8 e9 ks kt:Int)(lA:γ)(lz ly:Nat):=Calls prog 14 #[.pointer a0,.agg #[e8,e9,ks,kt,.slice lA lz ly]]
theorem HD.ok:CG HD.main HD.C:=λh=>dA func14 [.cell 4 37] 13 h
def u1.δ(t0:Int)(de:γ)(c3 dy:Nat)(t4:Int)(w:World)(R:au)(a1:Int->γ->Nat->Nat->Int->al):Prop:=
 cond (decide (t4<64)) (
  ν (decide (0<=t4)) (
   ν (decide (t4<((c3:Nat):Int))) (
    ξ de λd1=>
    (w.cell? (d1.add (t4.toNat*1))).isSome=true/\w.frozen? (d1.add (t4.toNat*1))=false/\∀υ,υ=w.setCell (d1.add (t4.toNat*1)) (.int .u8 t0)->
    (a1 t0 de c3 dy (IntKind.i64.wrap (t4+1)) υ)))) (
  R (.returned (.slice de c3 dy)) w)
def u1.bb:=yH u1.δ
def u1.main(a0:Int)(w:World)(R:au):Prop:=
 aK w (madeCells #[.int .u8 0] (64*1)) 5 λδ ε=>
 u1.bb a0 (some ⟨δ,0,none⟩) 64 64 0 ε R
abbrev u1.C(a0:Int):=Calls prog 15 #[.int .u8 a0]
theorem u1.ok:iS u1.main u1.C:=λ{_ _ R}h=>fo func15 [.tmp 2] 15 (.seq .leaf (.seq .leaf (.seq (.seq .leaf (.block (.loop [(0,.int .u8),(3,.slice),(4,.int .i64)] (u1.bb · · · · · · R) λa1=>.leaf))) .leaf))) h
def B5.main(a0:γ)(aw:Int)(w:World)(R:au):Prop:=
 aK w #[(0:Int),(0:Int),(0:Int),.slice none 0 0,.slice none 0 0] 37 λδ ε=>
 cond (Option.isNone a0) (
  a6 ε ⟨δ,0,none⟩ [(.int .i64 0),(.int .i64 1),(.int .i64 0),(.slice none 0 0),(.slice none 0 0)]/\∀υ,υ=ε.setCells (⟨δ,0,none⟩:Addr).block (⟨δ,0,none⟩:Addr).off [(.int .i64 0),(.int .i64 1),(.int .i64 0),(.slice none 0 0),(.slice none 0 0)]->
  (∃(aE:aj),aE.size=5/\aB υ ⟨δ,0,none⟩ aE.toList/\
   (R (.returned (.tuple #[.agg aE,.bool true])) υ))) (
  ξ a0 λd1=>
  ∃θ,ε.cell? (d1.add 10)=some (.int .i64 θ)/\
  (ξ a0 λd2=>
   (ε.cell? (d2.add 10)).isSome=true/\ε.frozen? (d2.add 10)=false/\∀χ,χ=ε.setCell (d2.add 10) (.int .i64 (IntKind.i64.wrap (θ+1)))->
   (cond (aw==1) (
    κ prog 29 #[.pointer a0] χ (λv1 ao=>
     b7 v1 λbN=>
     ξ (bN[0]?) λv2=>
     cv v2 λbz=>
     ξ (bN[1]?) λv3=>
     dF v3 λζ=>
     ν (decide (bz.size=5)) (
      a6 ao ⟨δ,0,none⟩ bz.toList/\∀aZ,aZ=ao.setCells (⟨δ,0,none⟩:Addr).block (⟨δ,0,none⟩:Addr).off bz.toList->
      (∃(bO:aj),bO.size=5/\aB aZ ⟨δ,0,none⟩ bO.toList/\
       (R (.returned (.tuple #[.agg bO,.bool ζ])) aZ)))) (ai R)) (
    cond (aw==2) (
     κ prog 30 #[.pointer a0,.func (.func 31) #[.pointer a0] #[]] χ (λv4 a8=>
      br .i64 v4 λρ=>
      a6 a8 ⟨δ,0,none⟩ [(.int .i64 0),(.int .i64 ρ),(.int .i64 0),(.slice none 0 0),(.slice none 0 0)]/\∀cd,cd=a8.setCells (⟨δ,0,none⟩:Addr).block (⟨δ,0,none⟩:Addr).off [(.int .i64 0),(.int .i64 ρ),(.int .i64 0),(.slice none 0 0),(.slice none 0 0)]->
      (∃(bC:aj),bC.size=5/\aB cd ⟨δ,0,none⟩ bC.toList/\
       (R (.returned (.tuple #[.agg bC,.bool (ρ !=0)])) cd))) (ai R)) (
     cond (aw==3) (
      κ prog 30 #[.pointer a0,.func (.func 32) #[.pointer a0] #[]] χ (λv5 bW=>
       br .i64 v5 λad=>
       a6 bW ⟨δ,0,none⟩ [(.int .i64 0),(.int .i64 ad),(.int .i64 0),(.slice none 0 0),(.slice none 0 0)]/\∀cm,cm=bW.setCells (⟨δ,0,none⟩:Addr).block (⟨δ,0,none⟩:Addr).off [(.int .i64 0),(.int .i64 ad),(.int .i64 0),(.slice none 0 0),(.slice none 0 0)]->
       (∃(b0:aj),b0.size=5/\aB cm ⟨δ,0,none⟩ b0.toList/\
        (R (.returned (.tuple #[.agg b0,.bool (ad !=0)])) cm))) (ai R)) (
      cond (aw==4) (
       a6 χ ⟨δ,0,none⟩ [(.int .i64 0),(.int .i64 0),(.int .i64 0),(.slice none 0 0),(.slice none 0 0)]/\∀cE,cE=χ.setCells (⟨δ,0,none⟩:Addr).block (⟨δ,0,none⟩:Addr).off [(.int .i64 0),(.int .i64 0),(.int .i64 0),(.slice none 0 0),(.slice none 0 0)]->
       (∃(dr:aj),dr.size=5/\aB cE ⟨δ,0,none⟩ dr.toList/\
        (R (.returned (.tuple #[.agg dr,.bool (0!=0)])) cE))) (
       a6 χ ⟨δ,0,none⟩ [(.int .i64 0),(.int .i64 1),(.int .i64 0),(.slice none 0 0),(.slice none 0 0)]/\∀da,da=χ.setCells (⟨δ,0,none⟩:Addr).block (⟨δ,0,none⟩:Addr).off [(.int .i64 0),(.int .i64 1),(.int .i64 0),(.slice none 0 0),(.slice none 0 0)]->
       (∃(fu:aj),fu.size=5/\aB da ⟨δ,0,none⟩ fu.toList/\
        (R (.returned (.tuple #[.agg fu,.bool (1!=0)])) da)))))))))
abbrev B5.C(a0:γ)(aw:Int):=Calls prog 16 #[.pointer a0,aw]
theorem B5.ok:kn B5.main B5.C:=λh=>dA func16 [.cell 4 37,.tmp 5] 42 h
def HG.main(a0:γ)(aw a2:Int)(w:World)(R:au):Prop:=
 κ prog 28 #[.pointer a0,.agg #[(4:Int),aw,a2,(0:Int),.slice none 0 0]] w (λv1 ε=>
  cv v1 λaE=>
  aK ε #[(0:Int),(0:Int),(0:Int),.slice none 0 0,.slice none 0 0] 37 λδ χ=>
  ν (decide (aE.size=5)) (
   a6 χ ⟨δ,0,none⟩ aE.toList/\∀ao,ao=χ.setCells (⟨δ,0,none⟩:Addr).block (⟨δ,0,none⟩:Addr).off aE.toList->
   (∃θ,ao.cell? ⟨δ,1,none⟩=some (.int .i64 θ)/\
    (cond (θ !=0) (
     R (.returned (.string (⟨#[110,111,110,101]⟩:ByteArray))) ao) (
     ∃ae aD c1,ao.cell? ⟨δ,3,none⟩=some (.slice ae aD c1)/\
     (∃(lJ:aq),lJ.length=aD/\bd ao ae (lJ.map (.int .u8))/\
      (R (.returned (.string (strOf lJ))) ao))))))) (ai R)
abbrev HG.C(a0:γ)(aw a2:Int):=Calls prog 17 #[.pointer a0,aw,a2]
theorem HG.ok:ji HG.main HG.C:=λh=>dA func17 [.tmp 6] 19 h
def HE.main(a0:γ)(w:World)(R:au):Prop:=
 κ prog 28 #[.pointer a0,.agg #[(8:Int),(0:Int),(0:Int),(0:Int),.slice none 0 0]] w (λv1 ε=>
  cv v1 λaE=>
  aK ε #[(0:Int),(0:Int),(0:Int),.slice none 0 0,.slice none 0 0] 37 λδ χ=>
  ν (decide (aE.size=5)) (
   a6 χ ⟨δ,0,none⟩ aE.toList/\∀ao,ao=χ.setCells (⟨δ,0,none⟩:Addr).block (⟨δ,0,none⟩:Addr).off aE.toList->
   (∃θ,ao.cell? ⟨δ,1,none⟩=some (.int .i64 θ)/\
    (cond (θ !=0) (
     R (.returned (.int .i64 (-1))) ao) (
     ∃ae aD c1,ao.cell? ⟨δ,4,none⟩=some (.slice ae aD c1)/\
     (cond (((aD:Nat):Int)!=2) (
      R (.returned (.int .i64 (-1))) ao) (
      ∃aX bu c2,ao.cell? ⟨δ,4,none⟩=some (.slice aX bu c2)/\
      (ν (decide (0<((bu:Nat):Int))) (
       ξ aX λd1=>
       ∃ρ,ao.cell? d1=some (.int .i64 ρ)/\
       (R (.returned (.int .i64 ρ)) ao)))))))))) (ai R)
abbrev HE.C(a0:γ):=Calls prog 18 #[.pointer a0]
theorem HE.ok:iS HE.main HE.C:=λh=>dA func18 [.tmp 2] 20 h
def GS.main(a0:γ)(e8 e9 ks kt:Int)(lA:γ)(lz ly:Nat)(w:World)(R:au):Prop:=
 aK w #[e8,e9,ks,kt,.slice lA lz ly] 40 λδ ε=>
 cond (Option.isNone a0) (
  R (.returned (.tuple #[(0:Int),(1:Int)])) ε) (
  ξ a0 λd1=>
  ∃ae,ε.drew.cell? d1=some (.pointer ae)/\
  (∃(aE:aj),aE.size=5/\aB ε.drew ⟨δ,0,none⟩ aE.toList/\
   (κ prog 33 #[.pointer ae,.agg aE] ε.drew (λv1 υ=>
    b7 v1 λbN=>
    ξ (bN[0]?) λv2=>
    br .i64 v2 λθ=>
    ξ (bN[1]?) λv3=>
    br .i64 v3 λρ=>
    R (.returned (.tuple #[θ,ρ])) υ) (ai R))))
abbrev GS.C(a0:γ)(e8 e9 ks kt:Int)(lA:γ)(lz ly:Nat):=Calls prog 20 #[.pointer a0,.agg #[e8,e9,ks,kt,.slice lA lz ly]]
theorem GS.ok:CG GS.main GS.C:=λh=>dA func20 [.tmp 4,.tmp 5] 16 h
def EV.main(a0:γ)(w:World)(R:au):Prop:=
 cond (Option.isNone a0) (
  R (.returned (.int .i64 0)) w) (
  ξ a0 λd1=>
  ∃ae aD c1,w.cell? (d1.add 1)=some (.slice ae aD c1)/\
  (R (.returned (.int .i64 ((aD:Nat):Int))) w))
abbrev EV.C(a0:γ):=Calls prog 22 #[.pointer a0]
theorem EV.ok:iS EV.main EV.C:=λh=>dA func22 [.tmp 2] 10 h
def CT.main(a0:γ)(aw:Int)(w:World)(R:au):Prop:=
 κ prog 35 #[.pointer a0] w (λv1 ε=>
  br .i64 v1 λθ=>
  cond (θ !=0) (
   R (.returned (.tuple #[.slice none 0 0,θ])) ε) (
   cond (decide (aw<0)) (
    R (.returned (.tuple #[.slice none 0 0,(5:Int)])) ε) (
    ξ a0 λd1=>
    ∃ae aD c1,ε.cell? (d1.add 1)=some (.slice ae aD c1)/\
    (cond (decide (aw>=((aD:Nat):Int))) (
     R (.returned (.tuple #[.slice none 0 0,(5:Int)])) ε) (
     ξ a0 λd2=>
     ∃aX bu c2,ε.cell? (d2.add 1)=some (.slice aX bu c2)/\
     (ν (decide (0<=aw)) (
      ν (decide (aw<((bu:Nat):Int))) (
       ξ aX λd3=>
       κ prog 36 #[.slice (dL (some (d3.add (aw.toNat*64))) 64 0 1) 64 64] ε (λv2 χ=>
        cX v2 λbj dU bP=>
        R (.returned (.tuple #[.slice bj dU bP,(0:Int)])) χ) (ai R))))))))) (ai R)
abbrev CT.C(a0:γ)(aw:Int):=Calls prog 23 #[.pointer a0,aw]
theorem CT.ok:kn CT.main CT.C:=λh=>dA func23 [.tmp 4,.tmp 5] 31 h
def EY.main(a0:Int)(w:World)(R:au):Prop:=
 cond (decide (a0<1)) (
  R (.returned (.tuple #[.pointer none,(1:Int)])) w) (
  cond (decide (a0>424)) (
   R (.returned (.tuple #[.pointer none,(1:Int)])) w) (
   (ν (decide (0<=a0)) (
    ν (decide (a0<=a0)) (
     ν (decide ((64:Int)*a0<=281474976710656/\a0<=9223372036854775807)) (
      aK w.drew (madeCells (List.replicate 64 (.int .u8 0)).toArray (a0.toNat*64)) 82 λδ ε=>
      ν (decide (0<=a0)) (
       ν (decide (a0<=a0)) (
        ν (decide ((64:Int)*a0<=281474976710656/\a0<=9223372036854775807)) (
         aK ε (madeCells (List.replicate 64 (.int .u8 0)).toArray (a0.toNat*64)) 82 λζ υ=>
         aK υ #[.slice (some ⟨δ,0,none⟩) a0.toNat a0.toNat,.slice (some ⟨ζ,0,none⟩) a0.toNat a0.toNat,.slice none 0 0,(-1:Int),.bool false] 78 λax χ=>
         R (.returned (.tuple #[.pointer (some ⟨ax,0,none⟩),(0:Int)])) χ)))))))/\
   (ν (decide (0<=a0)) (
    ν (decide (a0<=a0)) (
     ν (decide ((64:Int)*a0<=281474976710656/\a0<=9223372036854775807)) (
      aK w.drew (madeCells (List.replicate 64 (.int .u8 0)).toArray (a0.toNat*64)) 82 λaa ao=>
      ν (decide (0<=a0)) (
       ν (decide (a0<=a0)) (
        ν (decide ((64:Int)*a0<=281474976710656/\a0<=9223372036854775807)) (
         aK ao (madeCells (List.replicate 64 (.int .u8 0)).toArray (a0.toNat*64)) 82 λcu an=>
         aK an #[.slice (some ⟨cu,0,none⟩) a0.toNat a0.toNat,.slice (some ⟨aa,0,none⟩) a0.toNat a0.toNat,.slice none 0 0,(-1:Int),.bool false] 78 λdR aZ=>
         R (.returned (.tuple #[.pointer (some ⟨dR,0,none⟩),(0:Int)])) aZ)))))))))
abbrev EY.C(a0:Int):=Calls prog 25 #[a0]
theorem EY.ok:iS EY.main EY.C:=λh=>dA func25 [.tmp 2,.tmp 3] 16 h
def JD.main(a0:γ)(e8 e9:Int)(w:World)(R:au):Prop:=
 aK w #[e8,e9] 28 λδ ε=>
 ∃(aE:aj),aE.size=2/\aB ε ⟨δ,0,none⟩ aE.toList/\
 (κ prog 37 #[.pointer a0,.agg aE] ε (λv1 υ=>
  br .i64 v1 λθ=>
  R (.returned (.int .i64 θ)) υ) (ai R))
abbrev JD.C(a0:γ)(e8 e9:Int):=Calls prog 26 #[.pointer a0,.agg #[e8,e9]]
theorem JD.ok:ji JD.main JD.C:=λh=>dA func26 [.tmp 4] 8 h
def vX.aV(t4 t5:Nat)(D8:γ)(D7 H0 t11:Nat)(w:World)(R:au):Prop:=
 ∃(fD:aj),fD.size=24/\aB w ⟨t4,0,none⟩ fD.toList/\
 (κ prog 41 #[.agg fD] w (λv12 dP=>
  b7 v12 λh5=>
  ξ (h5[0]?) λkA=>
  gI kA λeo=>
  ξ (h5[1]?) λmM=>
  br .i64 mM λaM=>
  (dP.cell? ⟨t11,4,none⟩).isSome=true/\dP.frozen? ⟨t11,4,none⟩=false/\∀eE,eE=dP.setCell ⟨t11,4,none⟩ (.pointer eo)->
  (∃(fE:aj),fE.size=2/\aB eE ⟨t5,0,none⟩ fE.toList/\
   (κ prog 42 #[.agg fE,.slice D8 D7 H0] eE (λnR ey=>
    b7 nR λnT=>
    ξ (nT[0]?) λnS=>
    gI nS λgp=>
    ξ (nT[1]?) λv17=>
    br .i64 v17 λaU=>
    (ey.cell? ⟨t11,5,none⟩).isSome=true/\ey.frozen? ⟨t11,5,none⟩=false/\∀eg,eg=ey.setCell ⟨t11,5,none⟩ (.pointer gp)->
    (R (.returned (.tuple #[.pointer (some ⟨t11,0,none⟩),(0:Int)])) eg)) (ai R)))) (ai R))
def vX.main(a0:γ)(w:World)(R:au):Prop:=
 κ prog 38 #[.pointer a0] w (λv1 ε=>
  b7 v1 λbN=>
  ξ (bN[0]?) λv2=>
  cv v2 λaE=>
  ξ (bN[1]?) λv3=>
  cv v3 λbz=>
  ξ (bN[2]?) λv4=>
  br .i64 v4 λθ=>
  ξ (bN[3]?) λv5=>
  br .i64 v5 λρ=>
  ξ (bN[4]?) λv6=>
  br .i64 v6 λad=>
  aK ε #[(0:Int),(0:Int),(0:Int),(0:Int),(0:Int),(0:Int),(0:Int),(0:Int),(0:Int),(0:Int),(0:Int),(0:Int),(0:Int),(0:Int),(0:Int),(0:Int),.slice none 0 0,.slice none 0 0,.slice none 0 0,.slice none 0 0,.slice none 0 0,.slice none 0 0,.slice none 0 0,.slice none 0 0] 89 λδ χ=>
  aK χ #[(0:Int),(0:Int)] 28 λζ ao=>
  ν (decide (aE.size=24)) (
   a6 ao ⟨δ,0,none⟩ aE.toList/\∀an,an=ao.setCells (⟨δ,0,none⟩:Addr).block (⟨δ,0,none⟩:Addr).off aE.toList->
   (ν (decide (bz.size=2)) (
    a6 an ⟨ζ,0,none⟩ bz.toList/\∀aZ,aZ=an.setCells (⟨ζ,0,none⟩:Addr).block (⟨ζ,0,none⟩:Addr).off bz.toList->
    (cond (ad !=0) (
     R (.returned (.tuple #[.pointer none,ad])) aZ) (
     ∃(bO:aj),bO.size=24/\aB aZ ⟨δ,0,none⟩ bO.toList/\
     (∃(bC:aj),bC.size=2/\aB aZ ⟨ζ,0,none⟩ bC.toList/\
      (κ prog 39 #[.agg bO,.agg bC,.slice none 0 0] aZ (λfm a8=>
       b7 fm λeY=>
       ξ (eY[0]?) λa7=>
       cX a7 λae aD c1=>
       ξ (eY[1]?) λv9=>
       br .i64 v9 λaC=>
       ∃(b0:aj),b0.size=2/\aB a8.drew ⟨ζ,0,none⟩ b0.toList/\
       (∃ay,a8.drew.cell? ⟨ζ,0,none⟩=some (.int .i64 ay)/\
        ((κ prog 40 #[] a8.drew (λv10 bW=>
          gI v10 λaX=>
          bW.cell? ⟨ζ,0,none⟩=some (.int .i64 ay)/\
          (ν (decide (b0.size=2)) (
          aB bW ⟨ζ,0,none⟩ b0.toList/\
          (ν (decide (0<=ay)) (
          ν (decide (ay<=ay)) (
          ν (decide ((8:Int)*ay<=281474976710656/\ay<=9223372036854775807)) (
          aK bW (madeCells #[(0:Int)] (ay.toNat*1)) 3 λax cd=>
          ν (decide (b0.size=2)) (
          aB cd ⟨ζ,0,none⟩ b0.toList/\
          (ξ (Instr.fill (λi=>[(0,1),(1,1),(2,2),(4,1),(5,1),(6,1),(7,1),(8,1),(9,1),(10,1),(11,1),(12,1)].toArray[i]?) #[.pointer none,.pointer none,(0:Int),(0:Int),.pointer none,.pointer none,(0:Int),(0:Int),.slice none 0 0,.bool false,(0:Int),.slice none 0 0,.bool false] [(0,(.pointer aX)),(1,(.pointer a0)),(2,(.agg b0)),(5,(.int .i64 θ)),(6,(.int .i64 16)),(8,(.bool (decide (ρ>0)))),(10,(.slice (some ⟨ax,0,none⟩) ay.toNat ay.toNat))]) λdr=>
          aK cd dr 72 λaa cm=>
          vX.aV δ ζ ae aD c1 aa cm R))))))))) (ai R))/\
         (ν (decide (0<=ay)) (
          ν (decide (ay<=ay)) (
          ν (decide ((8:Int)*ay<=281474976710656/\ay<=9223372036854775807)) (
          aK a8.drew (madeCells #[(0:Int)] (ay.toNat*1)) 3 λcu cE=>
          ν (decide (b0.size=2)) (
          aB cE ⟨ζ,0,none⟩ b0.toList/\
          (κ prog 40 #[] cE (λv11 da=>
          gI v11 λbj=>
          ν (decide (b0.size=2)) (
          aB da ⟨ζ,0,none⟩ b0.toList/\
          (ξ (Instr.fill (λi=>[(0,1),(1,1),(2,2),(4,1),(5,1),(6,1),(7,1),(8,1),(9,1),(10,1),(11,1),(12,1)].toArray[i]?) #[.pointer none,.pointer none,(0:Int),(0:Int),.pointer none,.pointer none,(0:Int),(0:Int),.slice none 0 0,.bool false,(0:Int),.slice none 0 0,.bool false] [(0,(.pointer bj)),(1,(.pointer a0)),(2,(.agg b0)),(5,(.int .i64 θ)),(6,(.int .i64 16)),(8,(.bool (decide (ρ>0)))),(10,(.slice (some ⟨cu,0,none⟩) ay.toNat ay.toNat))]) λfu=>
          aK da fu 72 λdR ed=>
          vX.aV δ ζ ae aD c1 dR ed R))) (ai R)))))))))) (ai R))))))))) (ai R)
abbrev vX.C(a0:γ):=Calls prog 27 #[.pointer a0]
theorem vX.ok:iS vX.main vX.C:=λ{_ _ R}h=>fo func27 [.tmp 2,.tmp 3] 58 (.seq .leaf (.seq .leaf (.seq .leaf (.seq .leaf (.cut [(4,.cA),(5,.cA),(9,.slice),(11,.cA)] (vX.aV · · · · · · · R) .leaf .leaf))))) h
def pw.δ(t0:γ)(t4:Nat)(w:World)(R:au)(a1:γ->Nat->al):Prop:=
 κ prog 16 #[.pointer t0,(1:Int)] w (λv5 c4=>
  b7 v5 λeY=>
  ξ (eY[0]?) λv6=>
  cv v6 λb0=>
  ξ (eY[1]?) λfm=>
  dF fm λax=>
  aK c4 #[(0:Int),(0:Int),(0:Int),.slice none 0 0,.slice none 0 0] 37 λaa cm=>
  ν (decide (b0.size=5)) (
   a6 cm ⟨aa,0,none⟩ b0.toList/\∀cE,cE=cm.setCells (⟨aa,0,none⟩:Addr).block (⟨aa,0,none⟩:Addr).off b0.toList->
   (∃aC,cE.cell? ⟨aa,1,none⟩=some (.int .i64 aC)/\
    (cond (aC !=12) (
     ∃(dr:aj),dr.size=5/\aB cE ⟨aa,0,none⟩ dr.toList/\
     (ν (decide (dr.size=5)) (
       a6 cE ⟨t4,0,none⟩ dr.toList/\∀da,da=cE.setCells (⟨t4,0,none⟩:Addr).block (⟨t4,0,none⟩:Addr).off dr.toList->
       (∃(fu:aj),fu.size=5/\aB da ⟨t4,0,none⟩ fu.toList/\
        (R (.returned (.agg fu)) da))))) (
     κ prog 16 #[.pointer t0,(2:Int)] cE (λa7 dp=>
      b7 a7 λh5=>
      ξ (h5[0]?) λv9=>
      cv v9 λfD=>
      ξ (h5[1]?) λv10=>
      dF v10 λcu=>
      aK dp #[(0:Int),(0:Int),(0:Int),.slice none 0 0,.slice none 0 0] 37 λdR dP=>
      ν (decide (fD.size=5)) (
       a6 dP ⟨dR,0,none⟩ fD.toList/\∀eO,eO=dP.setCells (⟨dR,0,none⟩:Addr).block (⟨dR,0,none⟩:Addr).off fD.toList->
       (cond cu (
         ξ t0 λd2=>
         ∃aX,eO.cell? d2=some (.pointer aX)/\
         (κ prog 43 #[.pointer aX] eO (λv11 eE=>
          br .i64 v11 λay=>
          ∃aM,eE.cell? ⟨aa,0,none⟩=some (.int .i64 aM)/\
          ((eE.cell? ⟨dR,0,none⟩).isSome=true/\eE.frozen? ⟨dR,0,none⟩=false/\∀dM,dM=eE.setCell ⟨dR,0,none⟩ (.int .i64 aM)->
           (∃(fE:aj),fE.size=5/\aB dM ⟨dR,0,none⟩ fE.toList/\
           (ν (decide (fE.size=5)) (
           a6 dM ⟨t4,0,none⟩ fE.toList/\∀eg,eg=dM.setCells (⟨t4,0,none⟩:Addr).block (⟨t4,0,none⟩:Addr).off fE.toList->
           (∃(hJ:aj),hJ.size=5/\aB eg ⟨t4,0,none⟩ hJ.toList/\
           (R (.returned (.agg hJ)) eg))))))) (ai R))) (
         a1 t0 t4 eO)))) (ai R)))))) (ai R)
def pw.bb:=aek pw.δ
def pw.main(a0:γ)(e8 e9 ks kt:Int)(lA:γ)(lz ly:Nat)(w:World)(R:au):Prop:=
 aK w #[e8,e9,ks,kt,.slice lA lz ly] 40 λδ ε=>
 aK ε #[(0:Int),(0:Int),(0:Int),.slice none 0 0,.slice none 0 0] 37 λζ υ=>
 cond (Option.isNone a0) (
  a6 υ ⟨ζ,0,none⟩ [(.int .i64 0),(.int .i64 1),(.int .i64 0),(.slice none 0 0),(.slice none 0 0)]/\∀χ,χ=υ.setCells (⟨ζ,0,none⟩:Addr).block (⟨ζ,0,none⟩:Addr).off [(.int .i64 0),(.int .i64 1),(.int .i64 0),(.slice none 0 0),(.slice none 0 0)]->
  (∃(aE:aj),aE.size=5/\aB χ ⟨ζ,0,none⟩ aE.toList/\
   (R (.returned (.agg aE)) χ))) (
  ξ a0 λd1=>
  ∃ae,υ.cell? d1=some (.pointer ae)/\
  (κ prog 34 #[.pointer ae] υ (λv1 ao=>
    br .i64 v1 λθ=>
    cond (decide (θ>0)) (
     a6 ao ⟨ζ,0,none⟩ [(.int .i64 0),(.int .i64 12),(.int .i64 0),(.slice none 0 0),(.slice none 0 0)]/\∀aZ,aZ=ao.setCells (⟨ζ,0,none⟩:Addr).block (⟨ζ,0,none⟩:Addr).off [(.int .i64 0),(.int .i64 12),(.int .i64 0),(.slice none 0 0),(.slice none 0 0)]->
     (∃(bz:aj),bz.size=5/\aB aZ ⟨ζ,0,none⟩ bz.toList/\
      (R (.returned (.agg bz)) aZ))) (
     ∃(bO:aj),bO.size=5/\aB ao ⟨δ,0,none⟩ bO.toList/\
     (κ prog 20 #[.pointer a0,.agg bO] ao (λv2 a8=>
       b7 v2 λbN=>
       ξ (bN[0]?) λv3=>
       br .i64 v3 λρ=>
       ξ (bN[1]?) λv4=>
       br .i64 v4 λad=>
       cond (ad !=0) (
        a6 a8 ⟨ζ,0,none⟩ [(.int .i64 0),(.int .i64 ad),(.int .i64 0),(.slice none 0 0),(.slice none 0 0)]/\∀bW,bW=a8.setCells (⟨ζ,0,none⟩:Addr).block (⟨ζ,0,none⟩:Addr).off [(.int .i64 0),(.int .i64 ad),(.int .i64 0),(.slice none 0 0),(.slice none 0 0)]->
        (∃(bC:aj),bC.size=5/\aB bW ⟨ζ,0,none⟩ bC.toList/\
         (R (.returned (.agg bC)) bW))) (
        pw.bb a0 ζ a8 R)) (ai R)))) (ai R)))
abbrev pw.C(a0:γ)(e8 e9 ks kt:Int)(lA:γ)(lz ly:Nat):=Calls prog 28 #[.pointer a0,.agg #[e8,e9,ks,kt,.slice lA lz ly]]
theorem pw.ok:CG pw.main pw.C:=λ{_ _ _ _ _ _ _ _ _ R}h=>fo func28 [.cell 4 37] 55 (.seq .leaf (.seq .leaf (.seq .leaf (.seq .leaf (.block (.loop [(0,.ptr),(4,.cA)] (pw.bb · · · R) λa1=>.leaf)))))) h
def sn.aV(t1 t2:Nat)(t4 t6:Int)(t7:Nat)(w:World)(R:au):Prop:=
 (w.cell? ⟨t7,0,none⟩).isSome=true/\w.frozen? ⟨t7,0,none⟩=false/\∀cE,cE=w.setCell ⟨t7,0,none⟩ (.int .i64 t4)->
 (cond (t6 !=12) (
  ∃eo,cE.cell? ⟨t1,0,none⟩=some (.pointer eo)/\
  (ξ eo λd2=>
   ∃gp,cE.cell? d2=some (.pointer gp)/\
   (κ prog 43 #[.pointer gp] cE (λv6 da=>
     br .i64 v6 λaC=>
     ∃(bO:aj),bO.size=5/\aB da ⟨t7,0,none⟩ bO.toList/\
     (ν (decide (bO.size=5)) (
      a6 da ⟨t2,0,none⟩ bO.toList/\∀ed,ed=da.setCells (⟨t2,0,none⟩:Addr).block (⟨t2,0,none⟩:Addr).off bO.toList->
      (∃(bC:aj),bC.size=5/\aB ed ⟨t2,0,none⟩ bC.toList/\
       (R (.returned (.tuple #[.agg bC,.bool true])) ed))))) (ai R)))) (
  ∃(b0:aj),b0.size=5/\aB cE ⟨t7,0,none⟩ b0.toList/\
  (ν (decide (b0.size=5)) (
    a6 cE ⟨t2,0,none⟩ b0.toList/\∀dP,dP=cE.setCells (⟨t2,0,none⟩:Addr).block (⟨t2,0,none⟩:Addr).off b0.toList->
    (∃(dr:aj),dr.size=5/\aB dP ⟨t2,0,none⟩ dr.toList/\
     (R (.returned (.tuple #[.agg dr,.bool true])) dP))))))
def sn.main(a0:γ)(w:World)(R:au):Prop:=
 aK w #[.pointer a0] 24 λδ ε=>
 aK ε #[(0:Int),(0:Int),(0:Int),.slice none 0 0,.slice none 0 0] 37 λζ υ=>
 ∃ae,υ.cell? ⟨δ,0,none⟩=some (.pointer ae)/\
 (ξ ae λd1=>
  ∃aX,υ.cell? d1=some (.pointer aX)/\
  (κ prog 44 #[.pointer aX] υ (λv1 χ=>
   b7 v1 λbN=>
   ξ (bN[0]?) λv2=>
   br .i64 v2 λθ=>
   ξ (bN[1]?) λv3=>
   cv v3 λaE=>
   ξ (bN[2]?) λv4=>
   br .i64 v4 λρ=>
   aK χ #[(0:Int),(0:Int),(0:Int),(0:Int),.slice none 0 0] 40 λax an=>
   ν (decide (aE.size=5)) (
    a6 an ⟨ax,0,none⟩ aE.toList/\∀aZ,aZ=an.setCells (⟨ax,0,none⟩:Addr).block (⟨ax,0,none⟩:Addr).off aE.toList->
    (cond (ρ !=0) (
     a6 aZ ⟨ζ,0,none⟩ [(.int .i64 0),(.int .i64 0),(.int .i64 0),(.slice none 0 0),(.slice none 0 0)]/\∀a8,a8=aZ.setCells (⟨ζ,0,none⟩:Addr).block (⟨ζ,0,none⟩:Addr).off [(.int .i64 0),(.int .i64 0),(.int .i64 0),(.slice none 0 0),(.slice none 0 0)]->
     (∃(bz:aj),bz.size=5/\aB a8 ⟨ζ,0,none⟩ bz.toList/\
      (R (.returned (.tuple #[.agg bz,.bool false])) a8))) (
     aK aZ #[(0:Int),(0:Int),(0:Int),.slice none 0 0,.slice none 0 0] 37 λaa bV=>
     a6 bV ⟨aa,0,none⟩ [(.int .i64 0),(.int .i64 0),(.int .i64 0),(.slice none 0 0),(.slice none 0 0)]/\∀bW,bW=bV.setCells (⟨aa,0,none⟩:Addr).block (⟨aa,0,none⟩:Addr).off [(.int .i64 0),(.int .i64 0),(.int .i64 0),(.slice none 0 0),(.slice none 0 0)]->
     (∃bj,bW.cell? ⟨δ,0,none⟩=some (.pointer bj)/\
      (κ prog 30 #[.pointer bj,.func (.func 45) #[] #[.pointer (some ⟨δ,0,none⟩),.pointer (some ⟨ax,0,none⟩),.pointer (some ⟨aa,0,none⟩)]] bW (λv5 c4=>
       br .i64 v5 λad=>
       cond (ad !=0) (
        a6 c4 ⟨aa,0,none⟩ [(.int .i64 0),(.int .i64 ad),(.int .i64 0),(.slice none 0 0),(.slice none 0 0)]/\∀cm,cm=c4.setCells (⟨aa,0,none⟩:Addr).block (⟨aa,0,none⟩:Addr).off [(.int .i64 0),(.int .i64 ad),(.int .i64 0),(.slice none 0 0),(.slice none 0 0)]->
        (sn.aV δ ζ θ ad aa cm R)) (
        sn.aV δ ζ θ ad aa c4 R)) (ai R))))))) (ai R)))
abbrev sn.C(a0:γ):=Calls prog 29 #[.pointer a0]
theorem sn.ok:iS sn.main sn.C:=λ{_ _ R}h=>fo func29 [.cell 2 37,.tmp 3] 38 (.seq .leaf (.seq .leaf (.seq .leaf (.seq .leaf (.seq .leaf (.cut [(1,.cA),(2,.cA),(4,.int .i64),(6,.int .i64),(7,.cA)] (sn.aV · · · · · · R) .leaf .leaf)))))) h
def jw.b4(t0:γ)(t2:Nat)(ir:γ)(fZ iQ:Nat)(D5:γ)(Az HU:Nat)(w:World)(R:au):Prop:=
 ∃(fD:aj),fD.size=24/\aB w ⟨t2,0,none⟩ fD.toList/\
 (κ prog 56 #[.agg fD,.slice ir fZ iQ,.slice D5 Az HU] w (λv24 hv=>
  b7 v24 λSF=>
  ξ (SF[0]?) λv25=>
  cv v25 λfE=>
  ξ (SF[1]?) λv26=>
  br .i64 v26 λdf=>
  ν (decide (fE.size=24)) (
   a6 hv ⟨t2,0,none⟩ fE.toList/\∀ga,ga=hv.setCells (⟨t2,0,none⟩:Addr).block (⟨t2,0,none⟩:Addr).off fE.toList->
   (κ prog 52 #[df] ga (λOf nr=>
    b7 Of λai4=>
    ∃(hJ:aj),hJ.size=24/\aB nr ⟨t2,0,none⟩ hJ.toList/\
    (κ prog 41 #[.agg hJ] nr (λv28 jS=>
     b7 v28 λSG=>
     ξ (SG[0]?) λIg=>
     gI Ig λfv=>
     ξ (SG[1]?) λv30=>
     br .i64 v30 λgb=>
     ξ t0 λd13=>
     (jS.cell? (d13.add 4)).isSome=true/\jS.frozen? (d13.add 4)=false/\∀jT,jT=jS.setCell (d13.add 4) (.pointer fv)->
     (κ prog 32 #[.pointer t0] jT (λv31 lp=>
      b7 v31 λYU=>
      R (.returned (.tuple #[])) lp) (ai R))) (ai R))) (ai R)))) (ai R))
def jw.ζ(t0:γ)(t2:Nat)(ir:γ)(fZ iQ:Nat)(D5:γ)(Az HU:Nat)(Sr:γ)(Sq YF:Nat)(t97 t98:Int)(w:World)(R:au)(gi:γ->Nat->γ->Nat->Nat->γ->Nat->Nat->γ->Nat->Nat->Int->Int->al):Prop:=
 cond (decide (t98<t97)) (
  ν (decide (0<=t98)) (
   ν (decide (t98<((Sq:Nat):Int))) (
    ξ Sr λd10=>
    ∃cM m1,w.cell? (d10.add (t98.toNat*1))=some (.complex .f64 cM m1)/\
    (ξ t0 λd11=>
     ∃(fu:aj),fu.size=2/\aB w (d11.add 2) fu.toList/\
     (κ prog 54 #[.agg fu,.complex .f64 cM m1] w (λnS ey=>
      b7 nS λSH=>
      ξ (SH[0]?) λv17=>
      br .i64 v17 λct=>
      ξ (SH[1]?) λoR=>
      br .i64 oR λez=>
      ξ t0 λd12=>
      ∃kh,ey.cell? (d12.add 1)=some (.pointer kh)/\
      (κ prog 23 #[.pointer kh,ct] ey (λqw eg=>
       b7 qw λSI=>
       ξ (SI[0]?) λv20=>
       cX v20 λrG ti jk=>
       ξ (SI[1]?) λv21=>
       br .i64 v21 λeW=>
       κ prog 52 #[eW] eg (λv22 eP=>
        b7 v22 λai8=>
        κ prog 55 #[.pointer t0,.slice rG ti jk,(0:Int)] eP (λv23 fb=>
         mA v23 λfC m2=>
         aK fb #[.complex .f64 fC m2] 113 λaa gh=>
         ho gh D5 Az HU 1 (bd gh (some ⟨aa,0,none⟩)) 113 1 16 #[.complex .f64 0 0] λjv sS ja=>
         gi t0 t2 ir fZ iQ jv (Az+1) sS Sr Sq YF t97 (IntKind.i64.wrap (t98+1)) ja) (ai R)) (ai R)) (ai R))) (ai R)))))) (
  jw.b4 t0 t2 ir fZ iQ D5 Az HU w R)
def jw.eZ:=QM jw.ζ
def jw.bK(t0:γ)(t2:Nat)(t10:Int)(w:World)(R:au):Prop:=
 ∃(b0:aj),b0.size=24/\aB w.drew ⟨t2,0,none⟩ b0.toList/\
 (ξ t0 λd9=>
  ∃(dr:aj),dr.size=2/\aB w.drew (d9.add 2) dr.toList/\
  (κ prog 53 #[.agg b0,.agg dr,t10] w.drew (λkA eO=>
   b7 kA λCw=>
   ξ (Cw[0]?) λmM=>
   cX mM λgp jK h0=>
   ξ (Cw[1]?) λnR=>
   br .i64 nR λcj=>
   jw.eZ t0 t2 gp jK h0 none 0 0 gp jK h0 ((jK:Nat):Int) 0 eO R) (ai R)))
def jw.aV(t0:γ)(t2:Nat)(de:γ)(c3 dy:Nat)(mK:γ)(nj ni:Nat)(w:World)(R:au):Prop:=
 ξ t0 λd6=>
 ∃bj,w.cell? (d6.add 5)=some (.pointer bj)/\
 (κ prog 50 #[.pointer bj] w (λv5 bW=>
  b7 v5 λeY=>
  ξ (eY[0]?) λv6=>
  cX v6 λeo dU bP=>
  ξ (eY[1]?) λfm=>
  br .i64 fm λaC=>
  ξ t0 λd7=>
  ∃(bC:aj),bC.size=2/\aB bW (d7.add 2) bC.toList/\
  (aK bW #[aC] 3 λax cd=>
   κ prog 51 #[.agg bC,.slice de c3 dy,.slice mK nj ni,.slice (some ⟨ax,0,none⟩) 1 1] cd (λa7 cm=>
    b7 a7 λh5=>
    ξ (h5[0]?) λv9=>
    br .i64 v9 λay=>
    ξ (h5[1]?) λv10=>
    br .i64 v10 λaM=>
    cond (aM !=0) (
     κ prog 32 #[.pointer t0] cm (λv11 da=>
      b7 v11 λnT=>
      R (.returned (.tuple #[])) da) (ai R)) (
     ξ t0 λd8=>
     ∃aU,cm.cell? (d8.add 6)=some (.int .i64 aU)/\
     (cond (aU==1073741824) (
       κ prog 52 #[(13:Int)] cm (λv12 ed=>
        b7 v12 λtE=>
        jw.bK t0 t2 ay ed R) (ai R)) (
       jw.bK t0 t2 ay cm R)))) (ai R))) (ai R))
def jw.δ(t0:γ)(t2:Nat)(de:γ)(c3 dy:Nat)(mK:γ)(nj ni:Nat)(Si:γ)(Sh YB:Nat)(t39 t40:Int)(w:World)(R:au)(a1:γ->Nat->γ->Nat->Nat->γ->Nat->Nat->γ->Nat->Nat->Int->Int->al):Prop:=
 cond (decide (t40<t39)) (
  ν (decide (0<=t40)) (
   ν (decide (t40<((Sh:Nat):Int))) (
    ξ Si λd3=>
    ∃ρ,w.cell? (d3.add (t40.toNat*1))=some (.int .i64 ρ)/\
    (ξ t0 λd4=>
     ∃ad,w.cell? (d4.add 10)=some (.int .i64 ad)/\
     (ν (decide (0<=t40)) (
      ν (decide (t40<((nj:Nat):Int))) (
       ξ mK λd5=>
       (w.cell? (d5.add (t40.toNat*1))).isSome=true/\w.frozen? (d5.add (t40.toNat*1))=false/\∀bV,bV=w.setCell (d5.add (t40.toNat*1)) (.int .i64 (min2 (IntKind.i64.wrap (ad-ρ)) 65535))->
       (a1 t0 t2 de c3 dy mK nj ni Si Sh YB t39 (IntKind.i64.wrap (t40+1)) bV)))))))) (
  jw.aV t0 t2 de c3 dy mK nj ni w R)
def jw.bb:=QM jw.δ
def jw.main(a0:γ)(w:World)(R:au):Prop:=
 κ prog 48 #[.pointer a0] w (λv1 ε=>
  cv v1 λaE=>
  aK ε #[(0:Int),(0:Int),(0:Int),(0:Int),(0:Int),(0:Int),(0:Int),(0:Int),(0:Int),(0:Int),(0:Int),(0:Int),(0:Int),(0:Int),(0:Int),(0:Int),.slice none 0 0,.slice none 0 0,.slice none 0 0,.slice none 0 0,.slice none 0 0,.slice none 0 0,.slice none 0 0,.slice none 0 0] 89 λδ χ=>
  ν (decide (aE.size=24)) (
   a6 χ ⟨δ,0,none⟩ aE.toList/\∀ao,ao=χ.setCells (⟨δ,0,none⟩:Addr).block (⟨δ,0,none⟩:Addr).off aE.toList->
   (∃(bz:aj),bz.size=24/\aB ao.drew ⟨δ,0,none⟩ bz.toList/\
    (ξ a0 λd1=>
     ∃(bO:aj),bO.size=2/\aB ao.drew (d1.add 2) bO.toList/\
     (κ prog 49 #[.agg bz,.agg bO] ao.drew (λv2 an=>
      b7 v2 λbN=>
      ξ (bN[0]?) λv3=>
      cX v3 λae aD c1=>
      ξ (bN[1]?) λv4=>
      br .i64 v4 λθ=>
      ν (decide (0<=((aD:Nat):Int))) (
       ν (decide (((aD:Nat):Int)<=((aD:Nat):Int))) (
        ν (decide ((8:Int)*((aD:Nat):Int)<=281474976710656/\((aD:Nat):Int)<=9223372036854775807)) (
         aK an (madeCells #[(0:Int)] (aD*1)) 3 λζ a8=>
         ξ a0 λd2=>
         ∃aX bu c2,a8.cell? (d2.add 11)=some (.slice aX bu c2)/\
         (jw.bb a0 δ ae aD c1 (some ⟨ζ,0,none⟩) aD aD aX bu c2 ((bu:Nat):Int) 0 a8 R))))) (ai R)))))) (ai R)
abbrev jw.C(a0:γ):=Calls prog 31 #[.pointer a0]
theorem jw.ok:iS jw.main jw.C:=λ{_ _ R}h=>fo func31 [] 148 (.seq .leaf (.seq .leaf (.seq .leaf (.cut [(0,.ptr),(2,.cA),(3,.slice),(5,.slice)] (jw.aV · · · · · · · · · R) (.seq .leaf (.block (.loop [(0,.ptr),(2,.cA),(3,.slice),(5,.slice),(38,.slice),(39,.int .i64),(40,.int .i64)] (jw.bb · · · · · · · · · · · · · · R) λa1=>.leaf))) (.seq .leaf (.seq .leaf (.seq .leaf (.cut [(0,.ptr),(2,.cA),(10,.int .i64)] (jw.bK · · · · R) .leaf (.seq .leaf (.seq .leaf (.cut [(0,.ptr),(2,.cA),(12,.slice),(14,.slice)] (jw.b4 · · · · · · · · · R) (.seq .leaf (.block (.loop [(0,.ptr),(2,.cA),(12,.slice),(14,.slice),(96,.slice),(97,.int .i64),(98,.int .i64)] (jw.eZ · · · · · · · · · · · · · · R) λgi=>.leaf))) .leaf))))))))))) h
def px.δ(t0 Sn:γ)(Sm YE:Nat)(t76 t77:Int)(w:World)(R:au)(a1:γ->γ->Nat->Nat->Int->Int->al):Prop:=
 cond (decide (t77<t76)) (
  ν (decide (0<=t77)) (
   ν (decide (t77<((Sm:Nat):Int))) (
    ξ Sn λd13=>
    ∃cj,w.cell? (d13.add (t77.toNat*1))=some (.int .i64 cj)/\
    (ξ t0 λd14=>
     ∃kh,w.cell? (d14.add 5)=some (.pointer kh)/\
     (κ prog 59 #[.pointer kh,cj] w (λkA eP=>
      br .i64 kA λct=>
      a1 t0 Sn Sm YE t76 (IntKind.i64.wrap (t77+1)) eP) (ai R)))))) (
  R (.returned (.tuple #[])) w)
def px.bb:=oc px.δ
def px.aV(t0:γ)(w:World)(R:au):Prop:=
 κ prog 48 #[.pointer t0] w (λv2 χ=>
  cv v2 λaE=>
  aK χ #[(0:Int),(0:Int),(0:Int),(0:Int),(0:Int),(0:Int),(0:Int),(0:Int),(0:Int),(0:Int),(0:Int),(0:Int),(0:Int),(0:Int),(0:Int),(0:Int),.slice none 0 0,.slice none 0 0,.slice none 0 0,.slice none 0 0,.slice none 0 0,.slice none 0 0,.slice none 0 0,.slice none 0 0] 89 λδ an=>
  ν (decide (aE.size=24)) (
   a6 an ⟨δ,0,none⟩ aE.toList/\∀aZ,aZ=an.setCells (⟨δ,0,none⟩:Addr).block (⟨δ,0,none⟩:Addr).off aE.toList->
   (ξ t0 λd2=>
    ∃ae,aZ.cell? (d2.add 1)=some (.pointer ae)/\
    (κ prog 57 #[.pointer ae] aZ (λv3 a8=>
     br .i64 v3 λρ=>
     κ prog 52 #[ρ] a8 (λv4 bW=>
      b7 v4 λeY=>
      ξ t0 λd3=>
      ∃aX,bW.drew.cell? (d3.add 1)=some (.pointer aX)/\
      (∃(bz:aj),bz.size=24/\aB bW.drew ⟨δ,0,none⟩ bz.toList/\
       (ξ t0 λd4=>
        ∃(bO:aj),bO.size=2/\aB bW.drew (d4.add 2) bO.toList/\
        (ξ t0 λd5=>
         ∃ad,bW.drew.cell? (d5.add 6)=some (.int .i64 ad)/\
         (κ prog 58 #[.pointer aX,.agg bz,.agg bO,(IntKind.i64.wrap (ad+1))] bW.drew (λv5 cd=>
          br .i64 v5 λaC=>
          κ prog 52 #[aC] cd (λv6 cE=>
           b7 v6 λh5=>
           ξ t0 λd6=>
           ∃ay,cE.cell? (d6.add 6)=some (.int .i64 ay)/\
           (ξ t0 λd7=>
           (cE.cell? (d7.add 6)).isSome=true/\cE.frozen? (d7.add 6)=false/\∀dp,dp=cE.setCell (d7.add 6) (.int .i64 (IntKind.i64.wrap (ay+1)))->
           (ξ t0 λd8=>
           (dp.cell? (d8.add 7)).isSome=true/\dp.frozen? (d8.add 7)=false/\∀ed,ed=dp.setCell (d8.add 7) (.int .i64 0)->
           (ξ t0 λd9=>
           (ed.cell? (d9.add 8)).isSome=true/\ed.frozen? (d9.add 8)=false/\∀dP,dP=ed.setCell (d9.add 8) (.slice none 0 0)->
           (ξ t0 λd10=>
           (dP.cell? (d10.add 9)).isSome=true/\dP.frozen? (d10.add 9)=false/\∀eO,eO=dP.setCell (d10.add 9) (.bool false)->
           (ξ t0 λd11=>
           ∃bj,eO.cell? (d11.add 5)=some (.pointer bj)/\
           (κ prog 50 #[.pointer bj] eO (λfm eE=>
           b7 fm λnT=>
           ξ (nT[0]?) λa7=>
           cX a7 λeo aD c1=>
           ξ (nT[1]?) λv9=>
           br .i64 v9 λaM=>
           ∃(bC:aj),bC.size=24/\aB eE.drew ⟨δ,0,none⟩ bC.toList/\
           (ξ t0 λd12=>
           ∃(b0:aj),b0.size=2/\aB eE.drew (d12.add 2) b0.toList/\
           (aK eE.drew #[aM] 3 λζ dM=>
           ν (decide (b0.size=2)) (
           aB dM (d12.add 2) b0.toList/\
           (ν (decide (bC.size=24)) (
           aB dM ⟨δ,0,none⟩ bC.toList/\
           (κ prog 39 #[.agg bC,.agg b0,.slice (some ⟨ζ,0,none⟩) 1 1] dM (λv10 eg=>
           b7 v10 λtE=>
           ξ (tE[0]?) λv11=>
           cX v11 λgp bu c2=>
           ξ (tE[1]?) λv12=>
           br .i64 v12 λaU=>
           px.bb t0 gp bu c2 ((bu:Nat):Int) 0 eg R) (ai R)))))))) (ai R)))))))) (ai R)) (ai R)))))) (ai R)) (ai R))))) (ai R)
def px.main(a0:γ)(w:World)(R:au):Prop:=
 ξ a0 λd1=>
 ∃θ,w.cell? (d1.add 6)=some (.int .i64 θ)/\
 (cond (θ==1073741824) (
  κ prog 52 #[(13:Int)] w (λv1 ε=>
   b7 v1 λbN=>
   px.aV a0 ε R) (ai R)) (
  px.aV a0 w R))
abbrev px.C(a0:γ):=Calls prog 32 #[.pointer a0]
theorem px.ok:iS px.main px.C:=λ{_ _ R}h=>fo func32 [] 88 (.cut [(0,.ptr)] (px.aV · · R) .leaf (.seq .leaf (.seq .leaf (.seq .leaf (.seq .leaf (.seq .leaf (.seq .leaf (.seq .leaf (.block (.loop [(0,.ptr),(75,.slice),(76,.int .i64),(77,.int .i64)] (px.bb · · · · · · · R) λa1=>.leaf)))))))))) h
def FD.main(a0:γ)(e8 e9 ks kt:Int)(lA:γ)(lz ly:Nat)(w:World)(R:au):Prop:=
 aK w #[e8,e9,ks,kt,.slice lA lz ly] 40 λδ ε=>
 cond (Option.isNone a0) (
  R (.returned (.tuple #[(0:Int),(1:Int)])) ε) (
  ∃(aE:aj),aE.size=5/\aB ε ⟨δ,0,none⟩ aE.toList/\
  (κ prog 60 #[.agg aE] ε (λv1 υ=>
   br .i64 v1 λθ=>
   cond (θ !=0) (
    R (.returned (.tuple #[(0:Int),θ])) υ) (
    ξ a0 λd1=>
    ∃ae aD c1,υ.cell? d1=some (.slice ae aD c1)/\
    (cond (decide (((aD:Nat):Int)>=16)) (
     R (.returned (.tuple #[(0:Int),(12:Int)])) υ) (
     ξ a0 λd2=>
     ∃ρ,υ.cell? (d2.add 1)=some (.int .i64 ρ)/\
     (ξ a0 λd3=>
      (υ.cell? (d3.add 1)).isSome=true/\υ.frozen? (d3.add 1)=false/\∀ao,ao=υ.setCell (d3.add 1) (.int .i64 (IntKind.i64.wrap (ρ+1)))->
      (ξ a0 λd4=>
       ∃aX bu c2,ao.drew.cell? d4=some (.slice aX bu c2)/\
       (∃(bz:aj),bz.size=5/\aB ao.drew ⟨δ,0,none⟩ bz.toList/\
        (ξ a0 λd5=>
         ∃ad,ao.drew.cell? (d5.add 1)=some (.int .i64 ad)/\
         (κ prog 61 #[.agg bz] ao.drew (λv2 an=>
          cv v2 λbO=>
          an.cell? (d5.add 1)=some (.int .i64 ad)/\
          (an.cell? d4=some (.slice aX bu c2)/\
          (ξ (Instr.fill (λi=>[(0,5),(5,1)].toArray[i]?) #[(0:Int),(0:Int),(0:Int),(0:Int),.slice none 0 0,(0:Int)] [(0,(.agg bO)),(1,(.int .i64 ad))]) λbC=>
          aK an #[.iface 126 (.agg bC)] 20 λζ a8=>
          a8.cell? d4=some (.slice aX bu c2)/\
          (ho a8 aX bu c2 1 (bd a8 (some ⟨ζ,0,none⟩)) 20 1 16 #[Value.nilIface] λbj bP bV=>
          ξ a0 λd6=>
          (bV.cell? d6).isSome=true/\bV.frozen? d6=false/\∀bW,bW=bV.setCell d6 (.slice bj (bu+1) bP)->
          (ξ a0 λd7=>
          ∃aC,bW.cell? (d7.add 1)=some (.int .i64 aC)/\
          (R (.returned (.tuple #[aC,(0:Int)])) bW)))))) (ai R)))))))))) (ai R)))
abbrev FD.C(a0:γ)(e8 e9 ks kt:Int)(lA:γ)(lz ly:Nat):=Calls prog 33 #[.pointer a0,.agg #[e8,e9,ks,kt,.slice lA lz ly]]
theorem FD.ok:CG FD.main FD.C:=λh=>dA func33 [.tmp 4,.tmp 5] 48 h
def FC.main(a0:γ)(w:World)(R:au):Prop:=
 cond (Option.isNone a0) (
  R (.returned (.int .i64 0)) w) (
  ξ a0 λd1=>
  ∃ae aD c1,w.cell? d1=some (.slice ae aD c1)/\
  (R (.returned (.int .i64 ((aD:Nat):Int))) w))
abbrev FC.C(a0:γ):=Calls prog 34 #[.pointer a0]
theorem FC.ok:iS FC.main FC.C:=λh=>dA func34 [.tmp 2] 10 h
def EW.main(a0:γ)(w:World)(R:au):Prop:=
 cond (Option.isNone a0) (
  R (.returned (.int .i64 1)) w) (
  ξ a0 λd1=>
  ∃δ,w.cell? (d1.add 4)=some (.bool δ)/\
  (cond δ (
   R (.returned (.int .i64 10)) w) (
   R (.returned (.int .i64 0)) w)))
abbrev EW.C(a0:γ):=Calls prog 35 #[.pointer a0]
theorem EW.ok:iS EW.main EW.C:=λh=>dA func35 [.tmp 2] 11 h
def zB.main(bG:γ)(bf bD:Nat)(w:World)(R:au):Prop:=
 cond (Option.isNone bG) (
  R (.returned (.slice none 0 0)) w) (
  aK w #[] 5 λδ ε=>
  ho ε (some ⟨δ,0,none⟩) 0 0 bf (bd ε bG) 5 1 1 #[.int .u8 0] λae c1 υ=>
  R (.returned (.slice ae (0+bf) c1)) υ)
abbrev zB.C(bG:γ)(bf bD:Nat):=Calls prog 36 #[.slice bG bf bD]
theorem zB.ok:ji zB.main zB.C:=λh=>dA func36 [.tmp 2] 8 h
def nO.bK(t0:γ)(t3:Nat)(w:World)(R:au):Prop:=
 ∃(bz:aj),bz.size=2/\aB w ⟨t3,0,none⟩ bz.toList/\
 (κ prog 58 #[.pointer t0,.agg #[(0:Int),(0:Int),(0:Int),(0:Int),(0:Int),(0:Int),(0:Int),(0:Int),(0:Int),(0:Int),(0:Int),(0:Int),(0:Int),(0:Int),(0:Int),(0:Int),.slice none 0 0,.slice none 0 0,.slice none 0 0,.slice none 0 0,.slice none 0 0,.slice none 0 0,.slice none 0 0,.slice none 0 0],.agg bz,(1:Int)] w (λa7 dp=>
  br .i64 a7 λaU=>
  R (.returned (.int .i64 aU)) dp) (ai R))
def nO.δ(t0:γ)(t3:Nat)(oO:γ)(oq qo:Nat)(t45:Int)(w:World)(R:au)(a1:γ->Nat->γ->Nat->Nat->Int->al):Prop:=
 cond (decide (t45<16)) (
  aK w #[(IntKind.i64.wrap (24+t45)),.slice oO oq qo] 130 λaa cm=>
  κ prog 63 #[.pointer t0,.slice (some ⟨aa,0,none⟩) 1 1] cm (λfm cE=>
   br .i64 fm λaM=>
   cond (aM !=0) (
    R (.returned (.int .i64 aM)) cE) (
    a1 t0 t3 oO oq qo (IntKind.i64.wrap (t45+1)) cE)) (ai R)) (
  nO.bK t0 t3 w R)
def nO.bb:=oc nO.δ
def nO.aV(t0:γ)(t3:Nat)(t5:Int)(t17:Bool)(w:World)(R:au):Prop:=
 cond t17 (
  R (.returned (.int .i64 1)) w) (
  κ prog 22 #[.pointer t0] w (λv4 ao=>
   br .i64 v4 λad=>
   cond (decide (ad<t5)) (
    R (.returned (.int .i64 9)) ao) (
    aK ao (madeCells #[.int .u8 0] (64*1)) 5 λζ aZ=>
    aK aZ #[(0:Int),.slice (some ⟨ζ,0,none⟩) 64 64,(12:Int),.slice (some ⟨ζ,0,none⟩) 64 64] 130 λax a8=>
    κ prog 63 #[.pointer t0,.slice (some ⟨ax,0,none⟩) 2 2] a8 (λv5 bV=>
     br .i64 v5 λaC=>
     cond (aC !=0) (
      R (.returned (.int .i64 aC)) bV) (
      κ prog 57 #[.pointer t0] bV (λv6 c4=>
       br .i64 v6 λay=>
       cond (ay !=0) (
        R (.returned (.int .i64 ay)) c4) (
        nO.bb t0 t3 (some ⟨ζ,0,none⟩) 64 64 0 c4 R)) (ai R))) (ai R))) (ai R))
def nO.main(a0:γ)(e8 e9:Int)(w:World)(R:au):Prop:=
 aK w #[e8,e9] 28 λδ ε=>
 ∃(aE:aj),aE.size=2/\aB ε ⟨δ,0,none⟩ aE.toList/\
 (κ prog 62 #[.agg aE] ε (λv1 υ=>
  b7 v1 λbN=>
  ξ (bN[0]?) λv2=>
  br .i64 v2 λθ=>
  ξ (bN[1]?) λv3=>
  br .i64 v3 λρ=>
  cond (ρ !=0) (
   nO.aV a0 δ θ true υ R) (
   nO.aV a0 δ θ (Option.isNone a0) υ R)) (ai R))
abbrev nO.C(a0:γ)(e8 e9:Int):=Calls prog 37 #[.pointer a0,.agg #[e8,e9]]
theorem nO.ok:ji nO.main nO.C:=λ{_ _ _ _ R}h=>fo func37 [.tmp 4] 63 (.seq .leaf (.seq .leaf (.seq (.block (.cut [(0,.ptr),(3,.cA),(5,.int .i64),(17,.bool)] (nO.aV · · · · · R) .leaf .leaf)) (.seq .leaf (.seq .leaf (.seq .leaf (.cut [(0,.ptr),(3,.cA)] (nO.bK · · · R) (.seq .leaf (.block (.loop [(0,.ptr),(3,.cA),(7,.slice),(45,.int .i64)] (nO.bb · · · · · · · R) λa1=>.leaf))) .leaf))))))) h
def Hf.main(a0:γ)(w:World)(R:au):Prop:=
 aK w #[(0:Int),(0:Int),(0:Int),(0:Int),(0:Int),(0:Int),(0:Int),(0:Int),(0:Int),(0:Int),(0:Int),(0:Int),(0:Int),(0:Int),(0:Int),(0:Int),.slice none 0 0,.slice none 0 0,.slice none 0 0,.slice none 0 0,.slice none 0 0,.slice none 0 0,.slice none 0 0,.slice none 0 0] 89 λδ ε=>
 aK ε #[(0:Int),(0:Int)] 28 λζ υ=>
 κ prog 64 #[.pointer a0] υ (λv1 χ=>
  b7 v1 λbN=>
  ξ (bN[0]?) λv2=>
  cv v2 λaE=>
  ξ (bN[1]?) λv3=>
  cv v3 λbz=>
  ξ (bN[2]?) λv4=>
  br .i64 v4 λθ=>
  ξ (bN[3]?) λv5=>
  br .i64 v5 λρ=>
  ν (decide (aE.size=24)) (
   a6 χ ⟨δ,0,none⟩ aE.toList/\∀an,an=χ.setCells (⟨δ,0,none⟩:Addr).block (⟨δ,0,none⟩:Addr).off aE.toList->
   (ν (decide (bz.size=2)) (
    a6 an ⟨ζ,0,none⟩ bz.toList/\∀aZ,aZ=an.setCells (⟨ζ,0,none⟩:Addr).block (⟨ζ,0,none⟩:Addr).off bz.toList->
    (cond (ρ !=0) (
     a6 aZ ⟨δ,0,none⟩ [(.int .i64 0),(.int .i64 0),(.int .i64 0),(.int .i64 0),(.int .i64 0),(.int .i64 0),(.int .i64 0),(.int .i64 0),(.int .i64 0),(.int .i64 0),(.int .i64 0),(.int .i64 0),(.int .i64 0),(.int .i64 0),(.int .i64 0),(.int .i64 0),(.slice none 0 0),(.slice none 0 0),(.slice none 0 0),(.slice none 0 0),(.slice none 0 0),(.slice none 0 0),(.slice none 0 0),(.slice none 0 0)]/\∀a8,a8=aZ.setCells (⟨δ,0,none⟩:Addr).block (⟨δ,0,none⟩:Addr).off [(.int .i64 0),(.int .i64 0),(.int .i64 0),(.int .i64 0),(.int .i64 0),(.int .i64 0),(.int .i64 0),(.int .i64 0),(.int .i64 0),(.int .i64 0),(.int .i64 0),(.int .i64 0),(.int .i64 0),(.int .i64 0),(.int .i64 0),(.int .i64 0),(.slice none 0 0),(.slice none 0 0),(.slice none 0 0),(.slice none 0 0),(.slice none 0 0),(.slice none 0 0),(.slice none 0 0),(.slice none 0 0)]->
     (a6 a8 ⟨ζ,0,none⟩ [(.int .i64 0),(.int .i64 0)]/\∀bV,bV=a8.setCells (⟨ζ,0,none⟩:Addr).block (⟨ζ,0,none⟩:Addr).off [(.int .i64 0),(.int .i64 0)]->
      (∃(bO:aj),bO.size=24/\aB bV ⟨δ,0,none⟩ bO.toList/\
       (∃(bC:aj),bC.size=2/\aB bV ⟨ζ,0,none⟩ bC.toList/\
        (R (.returned (.tuple #[.agg bO,.agg bC,(0:Int),(0:Int),ρ])) bV))))) (
     ∃(b0:aj),b0.size=2/\aB aZ ⟨ζ,0,none⟩ b0.toList/\
     (κ prog 62 #[.agg b0] aZ (λv6 bW=>
       b7 v6 λeY=>
       ξ (eY[0]?) λfm=>
       br .i64 fm λad=>
       ξ (eY[1]?) λa7=>
       br .i64 a7 λaC=>
       κ prog 22 #[.pointer a0] bW (λv9 cd=>
        br .i64 v9 λay=>
        cond (decide (ay<ad)) (
         a6 cd ⟨δ,0,none⟩ [(.int .i64 0),(.int .i64 0),(.int .i64 0),(.int .i64 0),(.int .i64 0),(.int .i64 0),(.int .i64 0),(.int .i64 0),(.int .i64 0),(.int .i64 0),(.int .i64 0),(.int .i64 0),(.int .i64 0),(.int .i64 0),(.int .i64 0),(.int .i64 0),(.slice none 0 0),(.slice none 0 0),(.slice none 0 0),(.slice none 0 0),(.slice none 0 0),(.slice none 0 0),(.slice none 0 0),(.slice none 0 0)]/\∀cE,cE=cd.setCells (⟨δ,0,none⟩:Addr).block (⟨δ,0,none⟩:Addr).off [(.int .i64 0),(.int .i64 0),(.int .i64 0),(.int .i64 0),(.int .i64 0),(.int .i64 0),(.int .i64 0),(.int .i64 0),(.int .i64 0),(.int .i64 0),(.int .i64 0),(.int .i64 0),(.int .i64 0),(.int .i64 0),(.int .i64 0),(.int .i64 0),(.slice none 0 0),(.slice none 0 0),(.slice none 0 0),(.slice none 0 0),(.slice none 0 0),(.slice none 0 0),(.slice none 0 0),(.slice none 0 0)]->
         (a6 cE ⟨ζ,0,none⟩ [(.int .i64 0),(.int .i64 0)]/\∀da,da=cE.setCells (⟨ζ,0,none⟩:Addr).block (⟨ζ,0,none⟩:Addr).off [(.int .i64 0),(.int .i64 0)]->
          (∃(dr:aj),dr.size=24/\aB da ⟨δ,0,none⟩ dr.toList/\
           (∃(fu:aj),fu.size=2/\aB da ⟨ζ,0,none⟩ fu.toList/\
           (R (.returned (.tuple #[.agg dr,.agg fu,(0:Int),(0:Int),(11:Int)])) da))))) (
         κ prog 65 #[.pointer a0,θ] cd (λv10 dp=>
          b7 v10 λh5=>
          ξ (h5[0]?) λv11=>
          cX v11 λae aD c1=>
          ξ (h5[1]?) λv12=>
          br .i64 v12 λaM=>
          ξ (h5[2]?) λkA=>
          br .i64 kA λaU=>
          cond (aU !=0) (
           a6 dp ⟨δ,0,none⟩ [(.int .i64 0),(.int .i64 0),(.int .i64 0),(.int .i64 0),(.int .i64 0),(.int .i64 0),(.int .i64 0),(.int .i64 0),(.int .i64 0),(.int .i64 0),(.int .i64 0),(.int .i64 0),(.int .i64 0),(.int .i64 0),(.int .i64 0),(.int .i64 0),(.slice none 0 0),(.slice none 0 0),(.slice none 0 0),(.slice none 0 0),(.slice none 0 0),(.slice none 0 0),(.slice none 0 0),(.slice none 0 0)]/\∀dP,dP=dp.setCells (⟨δ,0,none⟩:Addr).block (⟨δ,0,none⟩:Addr).off [(.int .i64 0),(.int .i64 0),(.int .i64 0),(.int .i64 0),(.int .i64 0),(.int .i64 0),(.int .i64 0),(.int .i64 0),(.int .i64 0),(.int .i64 0),(.int .i64 0),(.int .i64 0),(.int .i64 0),(.int .i64 0),(.int .i64 0),(.int .i64 0),(.slice none 0 0),(.slice none 0 0),(.slice none 0 0),(.slice none 0 0),(.slice none 0 0),(.slice none 0 0),(.slice none 0 0),(.slice none 0 0)]->
           (a6 dP ⟨ζ,0,none⟩ [(.int .i64 0),(.int .i64 0)]/\∀eO,eO=dP.setCells (⟨ζ,0,none⟩:Addr).block (⟨ζ,0,none⟩:Addr).off [(.int .i64 0),(.int .i64 0)]->
           (∃(fD:aj),fD.size=24/\aB eO ⟨δ,0,none⟩ fD.toList/\
           (∃(fE:aj),fE.size=2/\aB eO ⟨ζ,0,none⟩ fE.toList/\
           (R (.returned (.tuple #[.agg fD,.agg fE,(0:Int),(0:Int),aU])) eO))))) (
           ∃(hJ:aj),hJ.size=24/\aB dp ⟨δ,0,none⟩ hJ.toList/\
           (κ prog 66 #[.agg hJ,.slice ae aD c1] dp (λmM eE=>
           b7 mM λnT=>
           ξ (nT[0]?) λnR=>
           cv nR λhK=>
           ξ (nT[1]?) λnS=>
           br .i64 nS λcj=>
           ξ (nT[2]?) λv17=>
           br .i64 v17 λct=>
           ν (decide (hK.size=24)) (
           a6 eE ⟨δ,0,none⟩ hK.toList/\∀dM,dM=eE.setCells (⟨δ,0,none⟩:Addr).block (⟨δ,0,none⟩:Addr).off hK.toList->
           (cond (ct !=0) (
           a6 dM ⟨δ,0,none⟩ [(.int .i64 0),(.int .i64 0),(.int .i64 0),(.int .i64 0),(.int .i64 0),(.int .i64 0),(.int .i64 0),(.int .i64 0),(.int .i64 0),(.int .i64 0),(.int .i64 0),(.int .i64 0),(.int .i64 0),(.int .i64 0),(.int .i64 0),(.int .i64 0),(.slice none 0 0),(.slice none 0 0),(.slice none 0 0),(.slice none 0 0),(.slice none 0 0),(.slice none 0 0),(.slice none 0 0),(.slice none 0 0)]/\∀eP,eP=dM.setCells (⟨δ,0,none⟩:Addr).block (⟨δ,0,none⟩:Addr).off [(.int .i64 0),(.int .i64 0),(.int .i64 0),(.int .i64 0),(.int .i64 0),(.int .i64 0),(.int .i64 0),(.int .i64 0),(.int .i64 0),(.int .i64 0),(.int .i64 0),(.int .i64 0),(.int .i64 0),(.int .i64 0),(.int .i64 0),(.int .i64 0),(.slice none 0 0),(.slice none 0 0),(.slice none 0 0),(.slice none 0 0),(.slice none 0 0),(.slice none 0 0),(.slice none 0 0),(.slice none 0 0)]->
           (a6 eP ⟨ζ,0,none⟩ [(.int .i64 0),(.int .i64 0)]/\∀kX,kX=eP.setCells (⟨ζ,0,none⟩:Addr).block (⟨ζ,0,none⟩:Addr).off [(.int .i64 0),(.int .i64 0)]->
           (∃(kP:aj),kP.size=24/\aB kX ⟨δ,0,none⟩ kP.toList/\
           (∃(iG:aj),iG.size=2/\aB kX ⟨ζ,0,none⟩ iG.toList/\
           (R (.returned (.tuple #[.agg kP,.agg iG,(0:Int),(0:Int),(11:Int)])) kX))))) (
           ∃(kb:aj),kb.size=24/\aB dM ⟨δ,0,none⟩ kb.toList/\
           (∃(kO:aj),kO.size=2/\aB dM ⟨ζ,0,none⟩ kO.toList/\
           (κ prog 67 #[.agg kb,.agg kO] dM (λoR eg=>
           br .i64 oR λez=>
           cond (ez !=0) (
           a6 eg ⟨δ,0,none⟩ [(.int .i64 0),(.int .i64 0),(.int .i64 0),(.int .i64 0),(.int .i64 0),(.int .i64 0),(.int .i64 0),(.int .i64 0),(.int .i64 0),(.int .i64 0),(.int .i64 0),(.int .i64 0),(.int .i64 0),(.int .i64 0),(.int .i64 0),(.int .i64 0),(.slice none 0 0),(.slice none 0 0),(.slice none 0 0),(.slice none 0 0),(.slice none 0 0),(.slice none 0 0),(.slice none 0 0),(.slice none 0 0)]/\∀fb,fb=eg.setCells (⟨δ,0,none⟩:Addr).block (⟨δ,0,none⟩:Addr).off [(.int .i64 0),(.int .i64 0),(.int .i64 0),(.int .i64 0),(.int .i64 0),(.int .i64 0),(.int .i64 0),(.int .i64 0),(.int .i64 0),(.int .i64 0),(.int .i64 0),(.int .i64 0),(.int .i64 0),(.int .i64 0),(.int .i64 0),(.int .i64 0),(.slice none 0 0),(.slice none 0 0),(.slice none 0 0),(.slice none 0 0),(.slice none 0 0),(.slice none 0 0),(.slice none 0 0),(.slice none 0 0)]->
           (a6 fb ⟨ζ,0,none⟩ [(.int .i64 0),(.int .i64 0)]/\∀eJ,eJ=fb.setCells (⟨ζ,0,none⟩:Addr).block (⟨ζ,0,none⟩:Addr).off [(.int .i64 0),(.int .i64 0)]->
           (∃(iH:aj),iH.size=24/\aB eJ ⟨δ,0,none⟩ iH.toList/\
           (∃(kQ:aj),kQ.size=2/\aB eJ ⟨ζ,0,none⟩ kQ.toList/\
           (R (.returned (.tuple #[.agg iH,.agg kQ,(0:Int),(0:Int),(11:Int)])) eJ))))) (
           ∃(kR:aj),kR.size=24/\aB eg ⟨δ,0,none⟩ kR.toList/\
           (∃(pR:aj),pR.size=2/\aB eg ⟨ζ,0,none⟩ pR.toList/\
           (κ prog 39 #[.agg kR,.agg pR,.slice none 0 0] eg (λqw gh=>
           b7 qw λtE=>
           ξ (tE[0]?) λv20=>
           cX v20 λaX bu c2=>
           ξ (tE[1]?) λv21=>
           br .i64 v21 λeW=>
           cond (decide (((bu:Nat):Int)<2)) (
           a6 gh ⟨δ,0,none⟩ [(.int .i64 0),(.int .i64 0),(.int .i64 0),(.int .i64 0),(.int .i64 0),(.int .i64 0),(.int .i64 0),(.int .i64 0),(.int .i64 0),(.int .i64 0),(.int .i64 0),(.int .i64 0),(.int .i64 0),(.int .i64 0),(.int .i64 0),(.int .i64 0),(.slice none 0 0),(.slice none 0 0),(.slice none 0 0),(.slice none 0 0),(.slice none 0 0),(.slice none 0 0),(.slice none 0 0),(.slice none 0 0)]/\∀hv,hv=gh.setCells (⟨δ,0,none⟩:Addr).block (⟨δ,0,none⟩:Addr).off [(.int .i64 0),(.int .i64 0),(.int .i64 0),(.int .i64 0),(.int .i64 0),(.int .i64 0),(.int .i64 0),(.int .i64 0),(.int .i64 0),(.int .i64 0),(.int .i64 0),(.int .i64 0),(.int .i64 0),(.int .i64 0),(.int .i64 0),(.int .i64 0),(.slice none 0 0),(.slice none 0 0),(.slice none 0 0),(.slice none 0 0),(.slice none 0 0),(.slice none 0 0),(.slice none 0 0),(.slice none 0 0)]->
           (a6 hv ⟨ζ,0,none⟩ [(.int .i64 0),(.int .i64 0)]/\∀nq,nq=hv.setCells (⟨ζ,0,none⟩:Addr).block (⟨ζ,0,none⟩:Addr).off [(.int .i64 0),(.int .i64 0)]->
           (∃(sT:aj),sT.size=24/\aB nq ⟨δ,0,none⟩ sT.toList/\
           (∃(Fc:aj),Fc.size=2/\aB nq ⟨ζ,0,none⟩ Fc.toList/\
           (R (.returned (.tuple #[.agg sT,.agg Fc,(0:Int),(0:Int),(11:Int)])) nq))))) (
           ∃(x4:aj),x4.size=24/\aB gh.drew ⟨δ,0,none⟩ x4.toList/\
           (∃(sU:aj),sU.size=2/\aB gh.drew ⟨ζ,0,none⟩ sU.toList/\
           (ν (decide (x4.size=24)) (
           a6 gh.drew ⟨δ,0,none⟩ x4.toList/\∀ga,ga=gh.drew.setCells (⟨δ,0,none⟩:Addr).block (⟨δ,0,none⟩:Addr).off x4.toList->
           (ν (decide (sU.size=2)) (
           aB ga ⟨ζ,0,none⟩ sU.toList/\
           (ν (decide (sU.size=2)) (
           a6 ga ⟨ζ,0,none⟩ sU.toList/\∀nr,nr=ga.setCells (⟨ζ,0,none⟩:Addr).block (⟨ζ,0,none⟩:Addr).off sU.toList->
           (∃(Fe:aj),Fe.size=24/\aB nr ⟨δ,0,none⟩ Fe.toList/\
           (∃(Ff:aj),Ff.size=2/\aB nr ⟨ζ,0,none⟩ Ff.toList/\
           (R (.returned (.tuple #[.agg Fe,.agg Ff,θ,((aD:Nat):Int),(0:Int)])) nr)))))))))))) (ai R))))) (ai R))))))) (ai R)))) (ai R))) (ai R)) (ai R)))))))) (ai R)
abbrev Hf.C(a0:γ):=Calls prog 38 #[.pointer a0]
theorem Hf.ok:iS Hf.main Hf.C:=λh=>dA func38 [.cell 2 89,.cell 3 28,.tmp 4,.tmp 5,.tmp 6] 81 h
def tZ.δ(dw:γ)(dh ef:Nat)(fH:γ)(fq fQ:Nat)(Kf:γ)(Ke NW:Nat)(t23 t24:Int)(w:World)(R:au)(a1:γ->Nat->Nat->γ->Nat->Nat->γ->Nat->Nat->Int->Int->al):Prop:=
 cond (decide (t24<t23)) (
  ν (decide (0<=t24)) (
   ν (decide (t24<((Ke:Nat):Int))) (
    ξ Kf λd1=>
    ∃ρ,w.cell? (d1.add (t24.toNat*1))=some (.int .i64 ρ)/\
    (cond (ρ==0) (
     κ prog 68 #[.slice dw dh ef,t24] w (λv4 an=>
      dF v4 λax=>
      cond (!ax) (
       aK an #[t24] 3 λaa a8=>
       ho a8 fH fq fQ 1 (bd a8 (some ⟨aa,0,none⟩)) 3 1 8 #[(0:Int)] λaX c2 bV=>
       a1 dw dh ef aX (fq+1) c2 Kf Ke NW t23 (IntKind.i64.wrap (t24+1)) bV) (
       a1 dw dh ef fH fq fQ Kf Ke NW t23 (IntKind.i64.wrap (t24+1)) an)) (ai R)) (
     a1 dw dh ef fH fq fQ Kf Ke NW t23 (IntKind.i64.wrap (t24+1)) w))))) (
  R (.returned (.tuple #[.slice fH fq fQ,(0:Int)])) w)
def tZ.bb:=aej tZ.δ
def tZ.main(a0:aj)(e8 e9:Int)(hI:γ)(ev ij:Nat)(w:World)(R:au):Prop:=
 aK w a0 89 λδ ε=>
 aK ε #[e8,e9] 28 λζ υ=>
 ∃(aE:aj),aE.size=24/\aB υ ⟨δ,0,none⟩ aE.toList/\
 (∃(bz:aj),bz.size=2/\aB υ ⟨ζ,0,none⟩ bz.toList/\
  (κ prog 49 #[.agg aE,.agg bz] υ (λv1 χ=>
   b7 v1 λbN=>
   ξ (bN[0]?) λv2=>
   cX v2 λae aD c1=>
   ξ (bN[1]?) λv3=>
   br .i64 v3 λθ=>
   cond (θ !=0) (
    R (.returned (.tuple #[.slice none 0 0,θ])) χ) (
    tZ.bb hI ev ij none 0 0 ae aD c1 ((aD:Nat):Int) 0 χ R)) (ai R)))
abbrev tZ.C(a0:aj)(e8 e9:Int)(hI:γ)(ev ij:Nat):=Calls prog 39 #[.agg a0,.agg #[e8,e9],.slice hI ev ij]
theorem tZ.ok:xW tZ.main tZ.C:=λ{_ _ _ _ _ _ _ R}h=>fo func39 [.tmp 6,.tmp 7] 43 (.seq .leaf (.seq .leaf (.seq .leaf (.seq .leaf (.seq (.seq .leaf (.block (.loop [(2,.slice),(10,.slice),(22,.slice),(23,.int .i64),(24,.int .i64)] (tZ.bb · · · · · · · · · · · · R) λa1=>.leaf))) .leaf))))) h
def FE.main(w:World)(R:au):Prop:=
 aK w #[.slice none 0 0,(0:Int)] 123 λδ ε=>
 R (.returned (.pointer (some ⟨δ,0,none⟩))) ε
abbrev FE.C:=Calls prog 40 #[]
theorem FE.ok:Tk FE.main FE.C:=λh=>dA func40 [.tmp 0] 3 h
def mg.aV(t4:γ)(t5:Int)(t7:γ)(t21:aj)(t22:Int)(w:World)(R:au)(a1:γ->aj->Int->al):Prop:=
 ξ t4 λd3=>
 ν (decide (0<=t5)) (
  ν (decide (t5<(8:Int))) (
   (w.cell? ((d3.add 16).add (t5.toNat*1))).isSome=true/\w.frozen? ((d3.add 16).add (t5.toNat*1))=false/\∀cd,cd=w.setCell ((d3.add 16).add (t5.toNat*1)) (.pointer t7)->
   (a1 t4 t21 (IntKind.i64.wrap (t22+1)) cd)))
def mg.ζ(t4:γ)(t5:Int)(t7:γ)(t21:aj)(t22:Int)(N3:γ)(N2 Sg:Nat)(t36 t37:Int)(w:World)(R:au)(a1:γ->aj->Int->al)(gi:γ->Int->γ->aj->Int->γ->Nat->Nat->Int->Int->al):Prop:=
 cond (decide (t37<t36)) (
  ν (decide (0<=t37)) (
   ν (decide (t37<((N2:Nat):Int))) (
    ξ N3 λd2=>
    ∃cM m1,w.cell? (d2.add (t37.toNat*1))=some (.complex .f64 cM m1)/\
    (cond (!(eQ .eql cM 13830554455654793216&&eQ .eql m1 0)) (
     κ prog 72 #[.pointer t7,t37,.complex .f64 cM m1] w (λfm bW=>
      b7 fm λeY=>
      ξ (eY[0]?) λa7=>
      gI a7 λeo=>
      ξ (eY[1]?) λv9=>
      br .i64 v9 λρ=>
      gi t4 t5 eo t21 t22 N3 N2 Sg t36 (IntKind.i64.wrap (t37+1)) bW) (ai R)) (
     gi t4 t5 t7 t21 t22 N3 N2 Sg t36 (IntKind.i64.wrap (t37+1)) w))))) (
  mg.aV t4 t5 t7 t21 t22 w R a1)
def mg.eZ:=ar3 mg.ζ
def mg.δ(t4:γ)(t21:aj)(t22:Int)(w:World)(R:au)(a1:γ->aj->Int->al):Prop:=
 cond (decide (t22<8)) (
  ν (decide (0<=t22)) (
   ν (decide (t22<(8:Int))) (
    ξ (t21[(t22.toNat*1)]?) λv3=>
    cX v3 λaX aD c1=>
    cond (((aD:Nat):Int)==0) (
     a1 t4 t21 (IntKind.i64.wrap (t22+1)) w) (
     κ prog 71 #[((aD:Nat):Int)] w (λv4 a8=>
      b7 v4 λbN=>
      ξ (bN[0]?) λv5=>
      gI v5 λbj=>
      ξ (bN[1]?) λv6=>
      br .i64 v6 λθ=>
      mg.eZ t4 t22 bj t21 t22 aX aD c1 ((aD:Nat):Int) 0 a8 R a1) (ai R))))) (
  R (.returned (.tuple #[.pointer t4,(0:Int)])) w)
def mg.bb:=DB mg.δ
def mg.main(a0:aj)(w:World)(R:au):Prop:=
 aK w a0 89 λδ ε=>
 ∃(aE:aj),aE.size=24/\aB ε ⟨δ,0,none⟩ aE.toList/\
 (κ prog 69 #[.agg aE] ε (λv1 υ=>
  dF v1 λζ=>
  cond (!ζ) (
   R (.returned (.tuple #[.pointer none,(2:Int)])) υ) (
   κ prog 70 #[] υ (λv2 ao=>
    gI v2 λae=>
    ∃(bz:aj),bz.size=16/\aB ao ⟨δ,0,none⟩ bz.toList/\
    (ξ ae λd1=>
     ν (decide (bz.size=16)) (
      a6 ao d1 bz.toList/\∀aZ,aZ=ao.setCells d1.block d1.off bz.toList->
      (∃(bO:aj),bO.size=8/\aB aZ ⟨δ,16,none⟩ bO.toList/\
       (mg.bb ae bO 0 aZ R))))) (ai R))) (ai R))
abbrev mg.C(a0:aj):=Calls prog 41 #[.agg a0]
theorem mg.ok:iS mg.main mg.C:=λ{_ _ R}h=>fo func41 [.tmp 2,.tmp 3] 60 (.seq .leaf (.seq .leaf (.seq .leaf (.seq .leaf (.seq (.seq .leaf (.block (.loop [(4,.ptr),(21,.agg),(22,.int .i64)] (mg.bb · · · · R) λa1=>(.seq .leaf (.seq .leaf (.seq (.block (.seq .leaf (.seq .leaf (.seq .leaf (.cut [(4,.ptr),(5,.int .i64),(7,.ptr),(21,.agg),(22,.int .i64)] (mg.aV · · · · · · R a1) (.seq .leaf (.block (.loop [(4,.ptr),(5,.int .i64),(7,.ptr),(21,.agg),(22,.int .i64),(35,.slice),(36,.int .i64),(37,.int .i64)] (mg.eZ · · · · · · · · · · · R a1) λgi=>.leaf))) .leaf))))) .leaf)))))) .leaf))))) h
def u2.δ(t7:Nat)(agW:γ)(agV avS:Nat)(t20 t21:Int)(w:World)(R:au)(a1:Nat->γ->Nat->Nat->Int->Int->al):Prop:=
 cond (decide (t21<t20)) (
  ν (decide (0<=t21)) (
   ν (decide (t21<((agV:Nat):Int))) (
    ξ agW λd1=>
    ∃ρ,w.cell? (d1.add (t21.toNat*1))=some (.int .i64 ρ)/\
    (κ prog 59 #[.pointer (some ⟨t7,0,none⟩),ρ] w (λv2 an=>
     br .i64 v2 λad=>
     cond (ad !=0) (
      R (.returned (.tuple #[.pointer none,(1:Int)])) an) (
      a1 t7 agW agV avS t20 (IntKind.i64.wrap (t21+1)) an)) (ai R))))) (
  R (.returned (.tuple #[.pointer (some ⟨t7,0,none⟩),(0:Int)])) w)
def u2.bb:=oc u2.δ
def u2.main(fM gH:Int)(gQ:γ)(fy gS:Nat)(w:World)(R:au):Prop:=
 aK w #[fM,gH] 28 λδ ε=>
 ∃(aE:aj),aE.size=2/\aB ε ⟨δ,0,none⟩ aE.toList/\
 (κ prog 73 #[.agg aE] ε (λv1 υ=>
  br .i64 v1 λθ=>
  cond (θ !=0) (
   R (.returned (.tuple #[.pointer none,θ])) υ) (
   ∃(bz:aj),bz.size=2/\aB υ ⟨δ,0,none⟩ bz.toList/\
   (ξ (Instr.fill (λi=>[(0,2),(2,1),(3,1),(4,1)].toArray[i]?) #[(0:Int),(0:Int),.slice none 0 0,(0:Int),(0:Int)] [(0,(.agg bz)),(2,(.int .i64 (-1)))]) λbO=>
    aK υ bO 150 λζ ao=>
    u2.bb ζ gQ fy gS ((fy:Nat):Int) 0 ao R))) (ai R))
abbrev u2.C(fM gH:Int)(gQ:γ)(fy gS:Nat):=Calls prog 42 #[.agg #[fM,gH],.slice gQ fy gS]
theorem u2.ok:vg u2.main u2.C:=λ{_ _ _ _ _ _ R}h=>fo func42 [.tmp 4,.tmp 5] 32 (.seq .leaf (.seq .leaf (.seq .leaf (.seq (.seq .leaf (.block (.loop [(7,.cA),(19,.slice),(20,.int .i64),(21,.int .i64)] (u2.bb · · · · · · · R) λa1=>.leaf))) .leaf)))) h
def FB.main(a0:γ)(w:World)(R:au):Prop:=
 κ prog 44 #[.pointer a0] w (λv1 ε=>
  b7 v1 λbN=>
  ξ (bN[0]?) λv2=>
  br .i64 v2 λθ=>
  ξ (bN[1]?) λv3=>
  cv v3 λaE=>
  ξ (bN[2]?) λv4=>
  br .i64 v4 λρ=>
  aK ε #[(0:Int),(0:Int),(0:Int),(0:Int),.slice none 0 0] 40 λδ χ=>
  ν (decide (aE.size=5)) (
   a6 χ ⟨δ,0,none⟩ aE.toList/\∀ao,ao=χ.setCells (⟨δ,0,none⟩:Addr).block (⟨δ,0,none⟩:Addr).off aE.toList->
   (cond (ρ !=0) (
    R (.returned (.int .i64 ρ)) ao) (
    ξ a0 λd1=>
    ∃ae aD c1,ao.cell? d1=some (.slice ae aD c1)/\
    (ν (decide (1<=((aD:Nat):Int))) (
     ξ a0 λd2=>
     (ao.cell? d2).isSome=true/\ao.frozen? d2=false/\∀an,an=ao.setCell d2 (.slice (dL ae c1 1 1) (aD-1) (c1-1))->
     (R (.returned (.int .i64 0)) an))))))) (ai R)
abbrev FB.C(a0:γ):=Calls prog 43 #[.pointer a0]
theorem FB.ok:iS FB.main FB.C:=λh=>dA func43 [.tmp 2] 23 h
end Go.Proofs.YtcpdfhkhaekekaaGreat.G

/- The law WholeReads of the given program is proved. Conditions: none. -/
import Derived.Test.YtcpdfhkhaekekaaGreatA15
set_option linter.unusedVariables false
set_option linter.unusedSimpArgs false
namespace Go.Proofs.YtcpdfhkhaekekaaGreat.G
open Tryz
open Go.bJ
set_option maxRecDepth 100000
def gU.bK(dw:γ)(dh ef:Nat)(t8:γ)(t9:Nat)(t11 t12 t13 t14:Int)(t15:Nat)(t46:Int)(t47:Bool)(w:World)(R:au)(gi:γ->Nat->Nat->γ->Nat->Int->al):Prop:=
 ∃aU,w.cell? ⟨t15,1,none⟩=some (.int .i64 aU)/\
 (cond (aU==0) (
  ν (decide (0<=t12)) (
   ν (decide (t12<(3:Int))) (
    ν (decide (0<=t13)) (
     ν (decide (t13<(32:Int))) (
      (w.cell? ((Addr.add ⟨t9,0,none⟩ (t12.toNat*32)).add (t13.toNat*1))).isSome=true/\w.frozen? ((Addr.add ⟨t9,0,none⟩ (t12.toNat*32)).add (t13.toNat*1))=false/\∀dP,dP=w.setCell ((Addr.add ⟨t9,0,none⟩ (t12.toNat*32)).add (t13.toNat*1)) (.int .u8 t14)->
      (ν (decide (0<=t11)) (
        ν (decide (t11<((dh:Nat):Int))) (
         ξ dw λd4=>
         ∃cj,dP.cell? (d4.add (t11.toNat*1))=some (.int .u16 cj)/\
         (cond ((Int.tmod cj 7)==0) (
          κ prog 16 #[.pointer t8,(2:Int)] dP (λv10 eO=>
           b7 v10 λeY=>
           gi dw dh ef t8 t9 (IntKind.i64.wrap (t11+1)) eO) (ai R)) (
          gi dw dh ef t8 t9 (IntKind.i64.wrap (t11+1)) dP)))))))))) (
  ν (decide (0<=t11)) (
   ν (decide (t11<((dh:Nat):Int))) (
    ξ dw λd5=>
    ∃ct,w.cell? (d5.add (t11.toNat*1))=some (.int .u16 ct)/\
    (cond ((Int.tmod ct 7)==0) (
      κ prog 16 #[.pointer t8,(2:Int)] w (λv11 ey=>
       b7 v11 λh5=>
       gi dw dh ef t8 t9 (IntKind.i64.wrap (t11+1)) ey) (ai R)) (
      gi dw dh ef t8 t9 (IntKind.i64.wrap (t11+1)) w))))))
def gU.aa(t8:γ)(t9:Nat)(t16 t17:Int)(w:World)(R:au)(rZ:γ->Nat->Int->al)(tO:γ->Nat->Int->Int->al):Prop:=
 cond (decide (t17<32)) (
  ν (decide (0<=t16)) (
   ν (decide (t16<(3:Int))) (
    ν (decide (0<=t17)) (
     ν (decide (t17<(32:Int))) (
      ∃ez,w.drew.cell? ((Addr.add ⟨t9,0,none⟩ (t16.toNat*32)).add (t17.toNat*1))=some (.int .u8 ez)/\
      (κ prog 17 #[.pointer t8,t16,t17] w.drew (λv12 eg=>
       iI v12 λs1=>
       eg.cell? ((Addr.add ⟨t9,0,none⟩ (t16.toNat*32)).add (t17.toNat*1))=some (.int .u8 ez)/\
       (κ prog 15 #[.int .u8 ez] eg (λkA eP=>
        cX kA λeo bu c2=>
        ∃(lJ:aq),lJ.length=bu/\bd eP eo (lJ.map (.int .u8))/\
        (cond (!(s1.toList==(strOf lJ).toList)) (
         R (.returned (.bool false)) eP) (
         tO t8 t9 t16 (IntKind.i64.wrap (t17+1)) eP))) (ai R))) (ai R))))))) (
  rZ t8 t9 (IntKind.i64.wrap (t16+1)) w)
def gU.p7:=ar8 gU.aa
def gU.ax(t8:γ)(t9:Nat)(t16:Int)(w:World)(R:au)(rZ:γ->Nat->Int->al):Prop:=
 cond (decide (t16<3)) (
  gU.p7 t8 t9 t16 0 w R rZ) (
  R (.returned (.bool true)) w)
def gU.ob:=DB gU.ax
def gU.b4(t8:γ)(t9:Nat)(w:World)(R:au):Prop:=
 gU.ob t8 t9 0 w R
def gU.ζ(dw:γ)(dh ef:Nat)(t8:γ)(t9:Nat)(t11:Int)(w:World)(R:au)(gi:γ->Nat->Nat->γ->Nat->Int->al):Prop:=
 cond (decide (t11<((dh:Nat):Int))) (
  cond (decide (t11<150)) (
   ν (decide (0<=t11)) (
    ν (decide (t11<((dh:Nat):Int))) (
     ξ dw λd1=>
     ∃ρ,w.cell? (d1.add (t11.toNat*1))=some (.int .u16 ρ)/\
     (ν (decide (0<=t11)) (
      ν (decide (t11<((dh:Nat):Int))) (
       ξ dw λd2=>
       ∃ad,w.cell? (d2.add (t11.toNat*1))=some (.int .u16 ad)/\
       (ν (decide (0<=t11)) (
        ν (decide (t11<((dh:Nat):Int))) (
         ξ dw λd3=>
         ∃aC,w.cell? (d3.add (t11.toNat*1))=some (.int .u16 aC)/\
         (∀aV:Nat,
          κ prog 15 #[.int .u8 (IntKind.u8.wrap (IntKind.u16.wrap (BitVec.ofInt IntKind.u16.bits (Int.fdiv aC (2^(min 8 IntKind.u16.bits)))|||BitVec.ofInt IntKind.u16.bits 1).toNat))] (w.drewN aV) (λa7 cd=>
           cX a7 λbj aD c1=>
           κ prog 14 #[.pointer t8,.agg #[(5:Int),(IntKind.i64.wrap (Int.tmod ρ 3)),(Int.tmod (IntKind.i64.wrap (IntKind.u16.wrap (Int.tdiv ad 3))) 32),(0:Int),.slice bj aD c1]] cd (λv9 cE=>
           cv v9 λbO=>
           aK cE #[(0:Int),(0:Int),(0:Int),.slice none 0 0,.slice none 0 0] 37 λax dp=>
           ν (decide (bO.size=5)) (
           a6 dp ⟨ax,0,none⟩ bO.toList/\∀ed,ed=dp.setCells (⟨ax,0,none⟩:Addr).block (⟨ax,0,none⟩:Addr).off bO.toList->
           (∃ay,ed.cell? ⟨ax,1,none⟩=some (.int .i64 ay)/\
           (cond (ay !=0) (
           ∃aM,ed.cell? ⟨ax,1,none⟩=some (.int .i64 aM)/\
           (cond (aM !=9) (
           R (.returned (.bool false)) ed) (
           gU.bK dw dh ef t8 t9 t11 (IntKind.i64.wrap (Int.tmod ρ 3)) (Int.tmod (IntKind.i64.wrap (IntKind.u16.wrap (Int.tdiv ad 3))) 32) (IntKind.u8.wrap (IntKind.u16.wrap (BitVec.ofInt IntKind.u16.bits (Int.fdiv aC (2^(min 8 IntKind.u16.bits)))|||BitVec.ofInt IntKind.u16.bits 1).toNat)) ax t11 (decide (t11<150)) ed R gi))) (
           gU.bK dw dh ef t8 t9 t11 (IntKind.i64.wrap (Int.tmod ρ 3)) (Int.tmod (IntKind.i64.wrap (IntKind.u16.wrap (Int.tdiv ad 3))) 32) (IntKind.u8.wrap (IntKind.u16.wrap (BitVec.ofInt IntKind.u16.bits (Int.fdiv aC (2^(min 8 IntKind.u16.bits)))|||BitVec.ofInt IntKind.u16.bits 1).toNat)) ax t11 (decide (t11<150)) ed R gi))))) (ai R)) (ai R))))))))))) (
   gU.b4 t8 t9 w R)) (
  gU.b4 t8 t9 w R)
def gU.eZ:=oc gU.ζ
def gU.aV(dw:γ)(dh ef:Nat)(t8:γ)(t9:Nat)(w:World)(R:au):Prop:=
 gU.eZ dw dh ef t8 t9 0 w R
def gU.δ(dw:γ)(dh ef:Nat)(t8:γ)(t9:Nat)(t10:Int)(w:World)(R:au)(a1:γ->Nat->Nat->γ->Nat->Int->al):Prop:=
 cond (decide (t10<3)) (
  κ prog 14 #[.pointer t8,.agg #[(1:Int),(0:Int),(0:Int),(32:Int),.slice none 0 0]] w (λv6 bW=>
   cv v6 λbz=>
   ξ (bz[1]?) λfm=>
   br .i64 fm λθ=>
   cond (θ !=0) (
    R (.returned (.bool false)) bW) (
    a1 dw dh ef t8 t9 (IntKind.i64.wrap (t10+1)) bW)) (ai R)) (
  gU.aV dw dh ef t8 t9 w R)
def gU.bb:=oc gU.δ
def gU.main(a0 aw:Int)(hI:γ)(ev ij:Nat)(w:World)(R:au):Prop:=
 κ prog 12 #[.int .u8 a0,.int .u8 aw] w (λv1 ε=>
  cv v1 λaE=>
  κ prog 11 #[.agg aE] ε (λv2 χ=>
   b7 v2 λbN=>
   ξ (bN[0]?) λv3=>
   gI v3 λae=>
   ξ (bN[1]?) λv4=>
   gI v4 λaX=>
   cond (Option.isNone aX) (
    R (.returned (.bool false)) χ) (
    κ prog 13 #[] χ (λv5 an=>
     dF v5 λδ=>
     cond (!δ) (
      R (.returned (.bool false)) an) (
      aK an (List.replicate 96 (.int .u8 0)).toArray 32 λζ a8=>
      a6 a8 ⟨ζ,0,none⟩ [(.int .u8 0),(.int .u8 0),(.int .u8 0),(.int .u8 0),(.int .u8 0),(.int .u8 0),(.int .u8 0),(.int .u8 0),(.int .u8 0),(.int .u8 0),(.int .u8 0),(.int .u8 0),(.int .u8 0),(.int .u8 0),(.int .u8 0),(.int .u8 0),(.int .u8 0),(.int .u8 0),(.int .u8 0),(.int .u8 0),(.int .u8 0),(.int .u8 0),(.int .u8 0),(.int .u8 0),(.int .u8 0),(.int .u8 0),(.int .u8 0),(.int .u8 0),(.int .u8 0),(.int .u8 0),(.int .u8 0),(.int .u8 0),(.int .u8 0),(.int .u8 0),(.int .u8 0),(.int .u8 0),(.int .u8 0),(.int .u8 0),(.int .u8 0),(.int .u8 0),(.int .u8 0),(.int .u8 0),(.int .u8 0),(.int .u8 0),(.int .u8 0),(.int .u8 0),(.int .u8 0),(.int .u8 0),(.int .u8 0),(.int .u8 0),(.int .u8 0),(.int .u8 0),(.int .u8 0),(.int .u8 0),(.int .u8 0),(.int .u8 0),(.int .u8 0),(.int .u8 0),(.int .u8 0),(.int .u8 0),(.int .u8 0),(.int .u8 0),(.int .u8 0),(.int .u8 0),(.int .u8 0),(.int .u8 0),(.int .u8 0),(.int .u8 0),(.int .u8 0),(.int .u8 0),(.int .u8 0),(.int .u8 0),(.int .u8 0),(.int .u8 0),(.int .u8 0),(.int .u8 0),(.int .u8 0),(.int .u8 0),(.int .u8 0),(.int .u8 0),(.int .u8 0),(.int .u8 0),(.int .u8 0),(.int .u8 0),(.int .u8 0),(.int .u8 0),(.int .u8 0),(.int .u8 0),(.int .u8 0),(.int .u8 0),(.int .u8 0),(.int .u8 0),(.int .u8 0),(.int .u8 0),(.int .u8 0),(.int .u8 0)]/\∀bV,bV=a8.setCells (⟨ζ,0,none⟩:Addr).block (⟨ζ,0,none⟩:Addr).off [(.int .u8 0),(.int .u8 0),(.int .u8 0),(.int .u8 0),(.int .u8 0),(.int .u8 0),(.int .u8 0),(.int .u8 0),(.int .u8 0),(.int .u8 0),(.int .u8 0),(.int .u8 0),(.int .u8 0),(.int .u8 0),(.int .u8 0),(.int .u8 0),(.int .u8 0),(.int .u8 0),(.int .u8 0),(.int .u8 0),(.int .u8 0),(.int .u8 0),(.int .u8 0),(.int .u8 0),(.int .u8 0),(.int .u8 0),(.int .u8 0),(.int .u8 0),(.int .u8 0),(.int .u8 0),(.int .u8 0),(.int .u8 0),(.int .u8 0),(.int .u8 0),(.int .u8 0),(.int .u8 0),(.int .u8 0),(.int .u8 0),(.int .u8 0),(.int .u8 0),(.int .u8 0),(.int .u8 0),(.int .u8 0),(.int .u8 0),(.int .u8 0),(.int .u8 0),(.int .u8 0),(.int .u8 0),(.int .u8 0),(.int .u8 0),(.int .u8 0),(.int .u8 0),(.int .u8 0),(.int .u8 0),(.int .u8 0),(.int .u8 0),(.int .u8 0),(.int .u8 0),(.int .u8 0),(.int .u8 0),(.int .u8 0),(.int .u8 0),(.int .u8 0),(.int .u8 0),(.int .u8 0),(.int .u8 0),(.int .u8 0),(.int .u8 0),(.int .u8 0),(.int .u8 0),(.int .u8 0),(.int .u8 0),(.int .u8 0),(.int .u8 0),(.int .u8 0),(.int .u8 0),(.int .u8 0),(.int .u8 0),(.int .u8 0),(.int .u8 0),(.int .u8 0),(.int .u8 0),(.int .u8 0),(.int .u8 0),(.int .u8 0),(.int .u8 0),(.int .u8 0),(.int .u8 0),(.int .u8 0),(.int .u8 0),(.int .u8 0),(.int .u8 0),(.int .u8 0),(.int .u8 0),(.int .u8 0),(.int .u8 0)]->
      (gU.bb hI ev ij aX ζ 0 bV R))) (ai R))) (ai R)) (ai R)
abbrev gU.C(a0 aw:Int)(hI:γ)(ev ij:Nat):=Calls prog 3 #[.int .u8 a0,.int .u8 aw,.slice hI ev ij]
theorem gU.ok:vg gU.main gU.C:=λ{_ _ _ _ _ _ R}h=>fo func3 [.tmp 6] 122 (.seq .leaf (.seq .leaf (.seq .leaf (.seq .leaf (.cut [(2,.slice),(8,.ptr),(9,.cA)] (gU.aV · · · · · · R) (.seq .leaf (.block (.loop [(2,.slice),(8,.ptr),(9,.cA),(10,.int .i64)] (gU.bb · · · · · · · R) λa1=>.leaf))) (.cut [(8,.ptr),(9,.cA)] (gU.b4 · · · R) (.seq .leaf (.block (.loop [(2,.slice),(8,.ptr),(9,.cA),(11,.int .i64)] (gU.eZ · · · · · · · R) λgi=>(.seq .leaf (.seq (.block (.seq .leaf (.seq .leaf (.cut [(2,.slice),(8,.ptr),(9,.cA),(11,.int .i64),(12,.int .i64),(13,.int .i64),(14,.int .u8),(15,.cA),(46,.int .i64),(47,.bool)] (gU.bK · · · · · · · · · · · · · R gi) .leaf .leaf)))) .leaf))))) (.seq (.seq .leaf (.block (.loop [(8,.ptr),(9,.cA),(16,.int .i64)] (gU.ob · · · · R) λrZ=>(.seq .leaf (.seq (.block (.seq .leaf (.block (.loop [(8,.ptr),(9,.cA),(16,.int .i64),(17,.int .i64)] (gU.p7 · · · · · R rZ) λtO=>.leaf)))) .leaf))))) .leaf))))))) h
end Go.Proofs.YtcpdfhkhaekekaaGreat.G

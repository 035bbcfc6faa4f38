/- The law WholeOrder of the given program is proved. Conditions: none. -/
import Derived.Test.YtcpdfhkhaekekaaGreatA15
set_option linter.unusedVariables false
set_option linter.unusedSimpArgs false
namespace Go.Proofs.YtcpdfhkhaekekaaGreat.G
open Tryz
open Go.bI
set_option maxRecDepth 100000
def gH.bP(ez:J)(et eT:Nat)(dW:J)(dL ec:Nat)(t10 t12:J)(t13 t46:Int)(t47:Bool)(t69:Addr)(t70:Int)(t71:Addr)(t72:Int)(t73:Bool)(t76:Addr)(wO:J)(wN wM:Nat)(t78:ByteArray)(t79:Addr)(wR:J)(wQ wP:Nat)(t81:ByteArray)(t82:Bool)(t85:Addr)(wU:J)(wT wS:Nat)(t87:Int)(t88:Addr)(wX:J)(wW wV:Nat)(t90:Int)(t91:Bool)(w:World)(R:ak)(aS:J->Nat->Nat->J->Nat->Nat->J->J->Int->ai):Prop:=
 cond (decide (t13<((dL:Nat):Int))) (
  ο (decide (0<=t13)) (
   ο (decide (t13<((dL:Nat):Int))) (
    ξ dW λd5=>
    ∃aV,w.cell? (d5.add (t13.toNat*1))=some (.int .u8 aV)/\
    (κ prog 16 #[.pointer t10,(IntKind.i64.wrap (2+(IntKind.i64.wrap (Int.tmod aV 3))))] w (λv26 awp=>
     b6 v26 λhQ=>
     aS ez et eT dW dL ec t10 t12 (IntKind.i64.wrap (t13+1)) awp) (aB R))))) (
  aS ez et eT dW dL ec t10 t12 (IntKind.i64.wrap (t13+1)) w)
def gH.ι(ez:J)(et eT:Nat)(dW:J)(dL ec:Nat)(t10 t12:J)(t13:Int)(t14 t15:Nat)(t16 t46:Int)(t47:Bool)(t69:Addr)(t70:Int)(t71:Addr)(t72:Int)(t73:Bool)(t76:Addr)(wO:J)(wN wM:Nat)(t78:ByteArray)(t79:Addr)(wR:J)(wQ wP:Nat)(t81:ByteArray)(t82:Bool)(t85:Addr)(wU:J)(wT wS:Nat)(t87:Int)(t88:Addr)(wX:J)(wW wV:Nat)(t90:Int)(t91:Bool)(w:World)(R:ak)(aS:J->Nat->Nat->J->Nat->Nat->J->J->Int->ai)(fG:J->Nat->Nat->J->Nat->Nat->J->J->Int->Nat->Nat->Int->Int->Bool->Addr->Int->Addr->Int->Bool->Addr->J->Nat->Nat->ByteArray->Addr->J->Nat->Nat->ByteArray->Bool->Addr->J->Nat->Nat->Int->Addr->J->Nat->Nat->Int->Bool->ai):Prop:=
 ∃eZ pF h2,w.cell? ⟨t14,4,none⟩=some (.slice eZ pF h2)/\
 (cond (decide (t16<((pF:Nat):Int))) (
  ∃H7 n6 nt,w.cell? ⟨t14,4,none⟩=some (.slice H7 n6 nt)/\
  (ο (decide (0<=t16)) (
   ο (decide (t16<((n6:Nat):Int))) (
    ξ H7 λd3=>
    ∃al,w.cell? (d3.add (t16.toNat*1))=some (.int .i64 al)/\
    (∃adv n7 lX,w.cell? ⟨t15,4,none⟩=some (.slice adv n7 lX)/\
     (ο (decide (0<=t16)) (
      ο (decide (t16<((n7:Nat):Int))) (
       ξ adv λd4=>
       ∃aJ,w.cell? (d4.add (t16.toNat*1))=some (.int .i64 aJ)/\
       (∀aZ:Nat,
        cond (al !=aJ) (
         R (.returned (.bool false)) (w.drewN aZ)) (
         fG ez et eT dW dL ec t10 t12 t13 t14 t15 (IntKind.i64.wrap (t16+1)) t46 t47 t69 t70 t71 t72 t73 t76 wO wN wM t78 t79 wR wQ wP t81 t82 t85 wU wT wS t87 t88 wX wW wV t90 t91 (w.drewN aZ))))))))))) (
  gH.bP ez et eT dW dL ec t10 t12 t13 t46 t47 t69 t70 t71 t72 t73 t76 wO wN wM t78 t79 wR wQ wP t81 t82 t85 wU wT wS t87 t88 wX wW wV t90 t91 w R aS))
def gH.fm(ez:J)(et eT:Nat)(dW:J)(dL ec:Nat)(t10 t12:J)(t13:Int)(t14 t15:Nat)(t16 t46:Int)(t47:Bool)(t69:Addr)(t70:Int)(t71:Addr)(t72:Int)(t73:Bool)(t76:Addr)(wO:J)(wN wM:Nat)(t78:ByteArray)(t79:Addr)(wR:J)(wQ wP:Nat)(t81:ByteArray)(t82:Bool)(t85:Addr)(wU:J)(wT wS:Nat)(t87:Int)(t88:Addr)(wX:J)(wW wV:Nat)(t90:Int)(t91:Bool)(w:World)(R:ak)(aS:J->Nat->Nat->J->Nat->Nat->J->J->Int->ai):Prop:=
 ∃(bw:J->Nat->Nat->J->Nat->Nat->J->J->Int->Nat->Nat->Int->Int->Bool->Addr->Int->Addr->Int->Bool->Addr->J->Nat->Nat->ByteArray->Addr->J->Nat->Nat->ByteArray->Bool->Addr->J->Nat->Nat->Int->Addr->J->Nat->Nat->Int->Bool->ai)(m:J->Nat->Nat->J->Nat->Nat->J->J->Int->Nat->Nat->Int->Int->Bool->Addr->Int->Addr->Int->Bool->Addr->J->Nat->Nat->ByteArray->Addr->J->Nat->Nat->ByteArray->Bool->Addr->J->Nat->Nat->Int->Addr->J->Nat->Nat->Int->Bool->World->Nat),bw ez et eT dW dL ec t10 t12 t13 t14 t15 t16 t46 t47 t69 t70 t71 t72 t73 t76 wO wN wM t78 t79 wR wQ wP t81 t82 t85 wU wT wS t87 t88 wX wW wV t90 t91 w/\
 ∀(ez:J)(et:Nat)(eT:Nat)(dW:J)(dL:Nat)(ec:Nat)(t10:J)(t12:J)(t13:Int)(t14:Nat)(t15:Nat)(t16:Int)(t46:Int)(t47:Bool)(t69:Addr)(t70:Int)(t71:Addr)(t72:Int)(t73:Bool)(t76:Addr)(wO:J)(wN:Nat)(wM:Nat)(t78:ByteArray)(t79:Addr)(wR:J)(wQ:Nat)(wP:Nat)(t81:ByteArray)(t82:Bool)(t85:Addr)(wU:J)(wT:Nat)(wS:Nat)(t87:Int)(t88:Addr)(wX:J)(wW:Nat)(wV:Nat)(t90:Int)(t91:Bool)(w:World),bw ez et eT dW dL ec t10 t12 t13 t14 t15 t16 t46 t47 t69 t70 t71 t72 t73 t76 wO wN wM t78 t79 wR wQ wP t81 t82 t85 wU wT wS t87 t88 wX wW wV t90 t91 w->
 gH.ι ez et eT dW dL ec t10 t12 t13 t14 t15 t16 t46 t47 t69 t70 t71 t72 t73 t76 wO wN wM t78 t79 wR wQ wP t81 t82 t85 wU wT wS t87 t88 wX wW wV t90 t91 w R aS λzw zv wK zy zx wL Qf ae3 L5 sk L6 wJ ae6 ae7 afd afe aff afg afh afi afl afk afj afm afn afq afp afo afr afs aft afw afv afu afx afy afB afA afz afC afD w'=>bw zw zv wK zy zx wL Qf ae3 L5 sk L6 wJ ae6 ae7 afd afe aff afg afh afi afl afk afj afm afn afq afp afo afr afs aft afw afv afu afx afy afB afA afz afC afD w'/\m zw zv wK zy zx wL Qf ae3 L5 sk L6 wJ ae6 ae7 afd afe aff afg afh afi afl afk afj afm afn afq afp afo afr afs aft afw afv afu afx afy afB afA afz afC afD w'<m ez et eT dW dL ec t10 t12 t13 t14 t15 t16 t46 t47 t69 t70 t71 t72 t73 t76 wO wN wM t78 t79 wR wQ wP t81 t82 t85 wU wT wS t87 t88 wX wW wV t90 t91 w
def gH.aZ(ez:J)(et eT:Nat)(dW:J)(dL ec:Nat)(t10 t12:J)(t13:Int)(t14 t15:Nat)(t46:Int)(t47:Bool)(w:World)(R:ak)(aS:J->Nat->Nat->J->Nat->Nat->J->J->Int->ai):Prop:=
 ∃ζ,w.cell? ⟨t14,1,none⟩=some (.int .i64 ζ)/\
 (∃τ,w.cell? ⟨t15,1,none⟩=some (.int .i64 τ)/\
  (cond (ζ !=τ) (
   R (.returned (.bool false)) w) (
   ∃ab,w.cell? ⟨t14,2,none⟩=some (.int .i64 ab)/\
   (∃aA,w.cell? ⟨t15,2,none⟩=some (.int .i64 aA)/\
    (cond (ab !=aA) (
     R (.returned (.bool false)) w) (
     ∃fD aD c1,w.cell? ⟨t14,3,none⟩=some (.slice fD aD c1)/\
     (∃(kh:ao),kh.length=aD/\a8 w fD (kh.map (.int .u8))/\
      (∃iB br c2,w.cell? ⟨t15,3,none⟩=some (.slice iB br c2)/\
       (∃(uS:ao),uS.length=br/\a8 w iB (uS.map (.int .u8))/\
        (cond (!((strOf kh).toList==(strOf uS).toList)) (
         R (.returned (.bool false)) w) (
         ∃nD dz bJ,w.cell? ⟨t14,4,none⟩=some (.slice nD dz bJ)/\
         (∃iq iA fU,w.cell? ⟨t15,4,none⟩=some (.slice iq iA fU)/\
          (cond (((dz:Nat):Int)!=((iA:Nat):Int)) (
          R (.returned (.bool false)) w) (
          gH.fm ez et eT dW dL ec t10 t12 t13 t14 t15 0 t46 t47 ⟨t14,2,none⟩ ab ⟨t15,2,none⟩ aA (ab !=aA) ⟨t14,3,none⟩ fD aD c1 (strOf kh) ⟨t15,3,none⟩ iB br c2 (strOf uS) (!((strOf kh).toList==(strOf uS).toList)) ⟨t14,4,none⟩ nD dz bJ ((dz:Nat):Int) ⟨t15,4,none⟩ iq iA fU ((iA:Nat):Int) (((dz:Nat):Int)!=((iA:Nat):Int)) w R aS))))))))))))))
def gH.b7(t10 t12:J)(w:World)(R:ak):Prop:=
 κ prog 19 #[.pointer t10] w (λMt awq=>
  lH Mt λs1=>
  κ prog 19 #[.pointer t12] awq (λv28 awr=>
   lH v28 λs2=>
   R (.returned (.bool (s1.toList==s2.toList))) awr) (aB R)) (aB R)
def gH.ε(ez:J)(et eT:Nat)(dW:J)(dL ec:Nat)(t10 t12:J)(t13:Int)(w:World)(R:ak)(aS:J->Nat->Nat->J->Nat->Nat->J->J->Int->ai):Prop:=
 cond (decide (t13<((et:Nat):Int))) (
  cond (decide (t13<80)) (
   ο (decide (0<=t13)) (
    ο (decide (t13<((et:Nat):Int))) (
     ξ ez λd1=>
     ∃(b2:ah),b2.size=5/\aw w.drew (d1.add (t13.toNat*5)) b2.toList/\
     (ο (decide (0<=t13)) (
      ο (decide (t13<((et:Nat):Int))) (
       ξ ez λd2=>
       ∃(bY:ah),bY.size=5/\aw w.drew (d2.add (t13.toNat*5)) bY.toList/\
       ((κ prog 14 #[.pointer t10,.agg b2] w.drew (λv10 cH=>
          dZ v10 λcN=>
          ο (decide (bY.size=5)) (
           aw cH (d2.add (t13.toNat*5)) bY.toList/\
           ((κ prog 14 #[.pointer t12,.agg bY] cH (λv11 de=>
            dZ v11 λdU=>
            (aR de #[(0:Int),(0:Int),(0:Int),.slice none 0 0,.slice none 0 0] 37 λι ep=>
            aR ep #[(0:Int),(0:Int),(0:Int),.slice none 0 0,.slice none 0 0] 37 λaH eO=>
            ο (decide (cN.size=5)) (
            bM eO ⟨ι,0,none⟩ cN.toList λgP=>
            (ο (decide (dU.size=5)) (
            bM gP ⟨aH,0,none⟩ dU.toList λgj=>
            (gH.aZ ez et eT dW dL ec t10 t12 t13 ι aH t13 (decide (t13<80)) gj R aS)))))/\
            (aR de #[(0:Int),(0:Int),(0:Int),.slice none 0 0,.slice none 0 0] 37 λaf fF=>
            aR fF #[(0:Int),(0:Int),(0:Int),.slice none 0 0,.slice none 0 0] 37 λdC eK=>
            ο (decide (cN.size=5)) (
            bM eK ⟨dC,0,none⟩ cN.toList λfY=>
            (ο (decide (dU.size=5)) (
            bM fY ⟨af,0,none⟩ dU.toList λfb=>
            (gH.aZ ez et eT dW dL ec t10 t12 t13 dC af t13 (decide (t13<80)) fb R aS)))))) (aB R))/\
            (aR cH #[(0:Int),(0:Int),(0:Int),.slice none 0 0,.slice none 0 0] 37 λgb iW=>
            ο (decide (bY.size=5)) (
            aw iW (d2.add (t13.toNat*5)) bY.toList/\
            ((κ prog 14 #[.pointer t12,.agg bY] iW (λv12 fT=>
            dZ v12 λhc=>
            aR fT #[(0:Int),(0:Int),(0:Int),.slice none 0 0,.slice none 0 0] 37 λiZ hg=>
            ο (decide (cN.size=5)) (
            bM hg ⟨gb,0,none⟩ cN.toList λiX=>
            (ο (decide (hc.size=5)) (
            bM iX ⟨iZ,0,none⟩ hc.toList λjf=>
            (gH.aZ ez et eT dW dL ec t10 t12 t13 gb iZ t13 (decide (t13<80)) jf R aS))))) (aB R))/\
            (aR iW #[(0:Int),(0:Int),(0:Int),.slice none 0 0,.slice none 0 0] 37 λqQ kx=>
            ο (decide (bY.size=5)) (
            aw kx (d2.add (t13.toNat*5)) bY.toList/\
            (κ prog 14 #[.pointer t12,.agg bY] kx (λpq k3=>
            dZ pq λhB=>
            ο (decide (cN.size=5)) (
            bM k3 ⟨gb,0,none⟩ cN.toList λjr=>
            (ο (decide (hB.size=5)) (
            bM jr ⟨qQ,0,none⟩ hB.toList λkN=>
            (gH.aZ ez et eT dW dL ec t10 t12 t13 gb qQ t13 (decide (t13<80)) kN R aS))))) (aB R)))))))/\
            (aR cH #[(0:Int),(0:Int),(0:Int),.slice none 0 0,.slice none 0 0] 37 λsH sr=>
            ο (decide (bY.size=5)) (
            aw sr (d2.add (t13.toNat*5)) bY.toList/\
            ((κ prog 14 #[.pointer t12,.agg bY] sr (λsn tQ=>
            dZ sn λhy=>
            aR tQ #[(0:Int),(0:Int),(0:Int),.slice none 0 0,.slice none 0 0] 37 λvI nM=>
            ο (decide (cN.size=5)) (
            bM nM ⟨vI,0,none⟩ cN.toList λox=>
            (ο (decide (hy.size=5)) (
            bM ox ⟨sH,0,none⟩ hy.toList λvm=>
            (gH.aZ ez et eT dW dL ec t10 t12 t13 vI sH t13 (decide (t13<80)) vm R aS))))) (aB R))/\
            (aR sr #[(0:Int),(0:Int),(0:Int),.slice none 0 0,.slice none 0 0] 37 λJB CU=>
            ο (decide (bY.size=5)) (
            aw CU (d2.add (t13.toNat*5)) bY.toList/\
            (κ prog 14 #[.pointer t12,.agg bY] CU (λso w1=>
            dZ so λiN=>
            ο (decide (cN.size=5)) (
            bM w1 ⟨JB,0,none⟩ cN.toList λXe=>
            (ο (decide (iN.size=5)) (
            bM Xe ⟨sH,0,none⟩ iN.toList λawj=>
            (gH.aZ ez et eT dW dL ec t10 t12 t13 JB sH t13 (decide (t13<80)) awj R aS))))) (aB R)))))))))) (aB R))/\
        (aR w.drew #[(0:Int),(0:Int),(0:Int),.slice none 0 0,.slice none 0 0] 37 λG0 I5=>
         ο (decide (bY.size=5)) (
          aw I5 (d2.add (t13.toNat*5)) bY.toList/\
          (ο (decide (b2.size=5)) (
            aw I5 (d1.add (t13.toNat*5)) b2.toList/\
            ((κ prog 14 #[.pointer t10,.agg b2] I5 (λsq MB=>
            dZ sq λko=>
            ο (decide (bY.size=5)) (
            aw MB (d2.add (t13.toNat*5)) bY.toList/\
            ((κ prog 14 #[.pointer t12,.agg bY] MB (λv17 Xg=>
            dZ v17 λlF=>
            aR Xg #[(0:Int),(0:Int),(0:Int),.slice none 0 0,.slice none 0 0] 37 λcZ pV=>
            ο (decide (ko.size=5)) (
            bM pV ⟨G0,0,none⟩ ko.toList λoy=>
            (ο (decide (lF.size=5)) (
            bM oy ⟨cZ,0,none⟩ lF.toList λtS=>
            (gH.aZ ez et eT dW dL ec t10 t12 t13 G0 cZ t13 (decide (t13<80)) tS R aS))))) (aB R))/\
            (aR MB #[(0:Int),(0:Int),(0:Int),.slice none 0 0,.slice none 0 0] 37 λjV vn=>
            ο (decide (bY.size=5)) (
            aw vn (d2.add (t13.toNat*5)) bY.toList/\
            (κ prog 14 #[.pointer t12,.agg bY] vn (λvh pr=>
            dZ vh λoL=>
            ο (decide (ko.size=5)) (
            bM pr ⟨G0,0,none⟩ ko.toList λQQ=>
            (ο (decide (oL.size=5)) (
            bM QQ ⟨jV,0,none⟩ oL.toList λyk=>
            (gH.aZ ez et eT dW dL ec t10 t12 t13 G0 jV t13 (decide (t13<80)) yk R aS))))) (aB R))))))) (aB R))/\
            (aR I5 #[(0:Int),(0:Int),(0:Int),.slice none 0 0,.slice none 0 0] 37 λoI qG=>
            ο (decide (bY.size=5)) (
            aw qG (d2.add (t13.toNat*5)) bY.toList/\
            (ο (decide (b2.size=5)) (
            aw qG (d1.add (t13.toNat*5)) b2.toList/\
            (κ prog 14 #[.pointer t10,.agg b2] qG (λvi MD=>
            dZ vi λoM=>
            ο (decide (bY.size=5)) (
            aw MD (d2.add (t13.toNat*5)) bY.toList/\
            (κ prog 14 #[.pointer t12,.agg bY] MD (λv20 QR=>
            dZ v20 λkp=>
            ο (decide (oM.size=5)) (
            bM QR ⟨G0,0,none⟩ oM.toList λCW=>
            (ο (decide (kp.size=5)) (
            bM CW ⟨oI,0,none⟩ kp.toList λb3=>
            (gH.aZ ez et eT dW dL ec t10 t12 t13 G0 oI t13 (decide (t13<80)) b3 R aS))))) (aB R)))) (aB R)))))))))))/\
        (aR w.drew #[(0:Int),(0:Int),(0:Int),.slice none 0 0,.slice none 0 0] 37 λp3 sv=>
         ο (decide (bY.size=5)) (
          aw sv (d2.add (t13.toNat*5)) bY.toList/\
          (ο (decide (b2.size=5)) (
            aw sv (d1.add (t13.toNat*5)) b2.toList/\
            ((κ prog 14 #[.pointer t10,.agg b2] sv (λv21 I6=>
            dZ v21 λj6=>
            ο (decide (bY.size=5)) (
            aw I6 (d2.add (t13.toNat*5)) bY.toList/\
            ((κ prog 14 #[.pointer t12,.agg bY] I6 (λv22 vo=>
            dZ v22 λmy=>
            aR vo #[(0:Int),(0:Int),(0:Int),.slice none 0 0,.slice none 0 0] 37 λDs QS=>
            ο (decide (j6.size=5)) (
            bM QS ⟨Ds,0,none⟩ j6.toList λQT=>
            (ο (decide (my.size=5)) (
            bM QT ⟨p3,0,none⟩ my.toList λawk=>
            (gH.aZ ez et eT dW dL ec t10 t12 t13 Ds p3 t13 (decide (t13<80)) awk R aS))))) (aB R))/\
            (aR I6 #[(0:Int),(0:Int),(0:Int),.slice none 0 0,.slice none 0 0] 37 λxi ah1=>
            ο (decide (bY.size=5)) (
            aw ah1 (d2.add (t13.toNat*5)) bY.toList/\
            (κ prog 14 #[.pointer t12,.agg bY] ah1 (λv23 awl=>
            dZ v23 λmz=>
            ο (decide (j6.size=5)) (
            bM awl ⟨xi,0,none⟩ j6.toList λawm=>
            (ο (decide (mz.size=5)) (
            bM awm ⟨p3,0,none⟩ mz.toList λawn=>
            (gH.aZ ez et eT dW dL ec t10 t12 t13 xi p3 t13 (decide (t13<80)) awn R aS))))) (aB R))))))) (aB R))/\
            (aR sv #[(0:Int),(0:Int),(0:Int),.slice none 0 0,.slice none 0 0] 37 λyB Xj=>
            ο (decide (bY.size=5)) (
            aw Xj (d2.add (t13.toNat*5)) bY.toList/\
            (ο (decide (b2.size=5)) (
            aw Xj (d1.add (t13.toNat*5)) b2.toList/\
            (κ prog 14 #[.pointer t10,.agg b2] Xj (λv24 ah2=>
            dZ v24 λuq=>
            ο (decide (bY.size=5)) (
            aw ah2 (d2.add (t13.toNat*5)) bY.toList/\
            (κ prog 14 #[.pointer t12,.agg bY] ah2 (λv25 awo=>
            dZ v25 λyE=>
            ο (decide (uq.size=5)) (
            bM awo ⟨yB,0,none⟩ uq.toList λtT=>
            (ο (decide (yE.size=5)) (
            bM tT ⟨p3,0,none⟩ yE.toList λQU=>
            (gH.aZ ez et eT dW dL ec t10 t12 t13 yB p3 t13 (decide (t13<80)) QU R aS))))) (aB R)))) (aB R)))))))))))))))))) (
   gH.b7 t10 t12 w R)) (
  gH.b7 t10 t12 w R)
def gH.bd:=K1 gH.ε
def gH.main(a0 aq:Int)(jg:J)(eD j5:Nat)(vG:J)(tY vF:Nat)(w:World)(R:ak):Prop:=
 κ prog 12 #[.int .u8 a0,.int .u8 aq] w (λv1 δ=>
  dZ v1 λaQ=>
  κ prog 11 #[.agg aQ] δ (λv2 aa=>
   b6 v2 λbT=>
   ξ (bT[0]?) λv3=>
   hD v3 λad=>
   ξ (bT[1]?) λv4=>
   hD v4 λaX=>
   κ prog 12 #[.int .u8 a0,.int .u8 aq] aa (λv5 aG=>
    dZ v5 λbK=>
    κ prog 11 #[.agg bK] aG (λv6 bk=>
     b6 v6 λeV=>
     ξ (eV[0]?) λfS=>
     hD fS λbl=>
     ξ (eV[1]?) λbg=>
     hD bg λej=>
     cond (Option.isNone aX) (
      R (.returned (.bool false)) bk) (
      cond (Option.isNone ej) (
       R (.returned (.bool false)) bk) (
       κ prog 13 #[] bk (λv9 ca=>
        dD v9 λε=>
        cond (!ε) (
         R (.returned (.bool false)) ca) (
         gH.bd jg eD j5 vG tY vF aX ej 0 ca R)) (aB R)))) (aB R)) (aB R)) (aB R)) (aB R)
abbrev gH.C(a0 aq:Int)(jg:J)(eD j5:Nat)(vG:J)(tY vF:Nat):=Calls prog 6 #[.int .u8 a0,.int .u8 aq,.slice jg eD j5,.slice vG tY vF]
theorem gH.ok:C8 gH.main gH.C:=λ{_ _ _ _ _ _ _ _ _ R}h=>fg func6 [.tmp 8] 129 (.seq .leaf (.seq .leaf (.seq .leaf (.seq .leaf (.cut [(10,.ptr),(12,.ptr)] (gH.b7 · · · R) (.seq .leaf (.block (.loop [(2,.slice),(3,.slice),(10,.ptr),(12,.ptr),(13,.int .i64)] (gH.bd · · · · · · · · · · R) λaS=>(.seq .leaf (.seq (.block (.cut [(2,.slice),(3,.slice),(10,.ptr),(12,.ptr),(13,.int .i64),(14,.c5),(15,.c5),(46,.int .i64),(47,.bool)] (gH.aZ · · · · · · · · · · · · · · R aS) .leaf (.seq .leaf (.cut [(2,.slice),(3,.slice),(10,.ptr),(12,.ptr),(13,.int .i64),(46,.int .i64),(47,.bool),(69,.addr),(70,.int .i64),(71,.addr),(72,.int .i64),(73,.bool),(76,.addr),(77,.slice),(78,.str),(79,.addr),(80,.slice),(81,.str),(82,.bool),(85,.addr),(86,.slice),(87,.int .i64),(88,.addr),(89,.slice),(90,.int .i64),(91,.bool)] (gH.bP · · · · · · · · · · · · · · · · · · · · · · · · · · · · · · · · · · · · · · · R aS) (.seq .leaf (.block (.loop [(2,.slice),(3,.slice),(10,.ptr),(12,.ptr),(13,.int .i64),(14,.c5),(15,.c5),(16,.int .i64),(46,.int .i64),(47,.bool),(69,.addr),(70,.int .i64),(71,.addr),(72,.int .i64),(73,.bool),(76,.addr),(77,.slice),(78,.str),(79,.addr),(80,.slice),(81,.str),(82,.bool),(85,.addr),(86,.slice),(87,.int .i64),(88,.addr),(89,.slice),(90,.int .i64),(91,.bool)] (gH.fm · · · · · · · · · · · · · · · · · · · · · · · · · · · · · · · · · · · · · · · · · · R aS) λfG=>.leaf))) .leaf)))) .leaf))))) .leaf))))) h
end Go.Proofs.YtcpdfhkhaekekaaGreat.G
namespace Go.Proofs.YtcpdfhkhaekekaaGreat.G.cV
open Go Go.bI Go.RowKit cr dB eh cQ aK
abbrev tX:Nat->a1:=λb c=>c*b<=140737488351232
def A0:oB:=.int .i64 (.int .i64 (.int .i64 (.int .i64 (.b8 1 (.int .u8 .done) .done))))
theorem Wl{w:World}{r:aU}(h:mu w tX A0 r):∃q:bG.cg,r=q.cells/\a8 w q.p (bG.bytesOf q)/\bG.Small q:=by obtain⟨a,_,rfl,awt,b,_,rfl,_,c,_,rfl,_,d,_,rfl,_,p,n,m,rows,_,rfl,ψ,aO⟩:=h;obtain rfl:_=[]:=aO;obtain⟨xs,o,hm,_⟩:=ψ.ints;exact⟨⟨a,b,c,d,xs,p,n,m⟩,rfl,o.cells,o.size,by have:=o.room;show _<=_;dsimp only;omega,λx I=>GK (o.wf x I)⟩
theorem LV{w:World}:∀{rows:List aU},(∀r∈rows,mu w tX A0 r)->∃rs:List bG.cg,rows=rs.map bG.cg.cells/\∀q∈rs,a8 w q.p (bG.bytesOf q)/\bG.Small q
 |[],_=>⟨[],rfl,by simp⟩
 |r::rows,h=>by
  obtain⟨q,rfl,ay⟩:=Wl (h r (by simp));obtain⟨rs,rfl,kr⟩:=LV (rows:=rows) λx I=>h x (h9 _ I);exact⟨q::rs,rfl,λx I=>by
   rcases fE.1 I with rfl|I
   ·exact ay
   ·exact kr x I⟩
theorem PZ{w:World}{p:J}{rs:List bG.cg}(h:a8 w p (rs.map bG.cg.cells).flatten){i:Nat}{q:bG.cg}(o:rs[i]?=some q):∃a,p=some a/\aw w (a.add (i*5)) q.cells:=
 h.row (λr σ=>by obtain⟨q,_,rfl⟩:=gM.1 σ;rfl) (by decide) (by rw[List.getElem?_map,o];rfl)
def jF(D cM:a1):Prop:=∀i,D i->¬cM i
section
variable{w0 w w':World}{pp pd q3 xZ:Nat}{m m2:aK}{aj Mn:Int}{A Jd:eC}{n br:Nat}{D bb cM:a1}
theorem eW.other(h:eW w0 w pp pd m aj A n D)(η:eW w0 w q3 xZ m2 Mn Jd br cM)(k:Kp w w' cM)(aP:jF D cM):eW w0 w' pp pd m aj A n D:=
 ⟨h.is.aC k (λi ae=>aP i ae) (λi o en=>(η.is.fV o).1.Cq (yb.1 en) (by decide)) λi o aO=>(η.is.fV o).1.off aO (by decide),h.ok,h.aj,h.new,h.ex.then k η.new⟩
theorem jF.symm(h:jF D cM):jF cM D:=λi o eX=>h i eX o
theorem jF.pE(h:jF D cM)(k:nU w D w' bb)(η:eW w0 w q3 xZ m2 Mn Jd br cM):jF bb cM:=λi o eX=>by
 rcases k.sub i o with h1|h1
 ·exact h i h1 eX
 ·have:=(η.is.fV eX).2
  omega
end
end Go.Proofs.YtcpdfhkhaekekaaGreat.G.cV
namespace Go.Proofs.YtcpdfhkhaekekaaGreat.G.cV
open Tryz
open Go Go.bI Go.RowKit cr dB eh cQ aK
structure One where
 pp:Nat
 pd:Nat
 m:aK
 aj:Int
 A:eC
 n:Nat
def One.w9(x:One)(w0 W:World)(D:a1):Prop:=eW w0 W x.pp x.pd x.m x.aj x.A x.n D
def hh(w0 W:World)(x y:One):Prop:=∃D cM,x.w9 w0 W D/\y.w9 w0 W cM/\jF D cM
section
variable{w0 W:World}{x y:One}{Z:Value->ai}{X:List PanicEntry->ai}
theorem hh.symm(h:hh w0 W x y):hh w0 W y x:=by obtain⟨D,cM,h1,η,au⟩:=h;exact⟨cM,D,η,h1,au.symm⟩
theorem hh.ex(h:hh w0 W x y):θ w0 W:=by obtain⟨D,cM,h1,_⟩:=h;exact eW.ex h1
theorem hh.to(h:hh w0 W x y){bE:World}(k:θ W bE):hh w0 bE x y:=by obtain⟨D,cM,h1,η,au⟩:=h;exact⟨D,cM,eW.to h1 k,eW.to η k,au⟩
def One.kq(x:One)(a:aK.Ask):One:={x with m:=(ni x.m a).1,aj:=zo x.aj a,A:=(gh x.A a).1,n:=x.n+5}
def Wz(pick:Int)(m:aK):aK:=if pick=2 then pv (aK.tick m)else if pick=3 then qS (aK.tick m)else aK.tick m
def One.step(x:One)(pick:Int):One:={x with m:=Wz pick x.m,n:=x.n+2}
theorem alA(h:hh w0 W x y)(eB:x.n<=600000){pick:Int}(hp:1<=pick/\pick<=4)
  (dx:∀w',hh w0 w' (x.step pick) y->nq W w'->Z (.tuple #[.agg (fP 0 cO cO).toArray,.bool false]) w'):
  κ prog 16 #[.pointer (some ⟨x.pp,0,none⟩),.int .i64 pick] W Z X:=by
 obtain⟨D,cM,h1,η,au⟩:=h;have uB:eW w0 W x.pp x.pd x.m x.aj x.A x.n D:=h1;show zh.C (some ⟨x.pp,0,none⟩) pick W _;have aO:=uB.aj;have fin:∀(w':World)(bb:a1),dQ W D w' x.pp x.pd (Wz pick x.m) [] x.aj bb->aK.Ok (Wz pick x.m) x.A (x.n+2)->Z (.tuple #[.agg (fP 0 cO cO).toArray,.bool false]) w':=λw' bb aL dq=>by have k:=aL.pE;exact dx w' ⟨bb,cM,uB.acG k aL.is dq (show 0<=x.aj/\x.aj<=((x.n+2:Nat):Int)by omega),eW.other η h1 k.aC au.symm,au.pE k η⟩ λB e sz p l c vs γ ar=>uB.c0 k γ ar
 refine Gd uB.is uB.ok (by omega) hp (λhk w' bb aL=>?_) (λhk w' bb aL=>?_) (λhk w' bb aL=>?_) λhk w' bb aL=>?_
 ·subst hk;exact fin w' bb aL (uB.ok.tick.more (by omega))
 ·subst hk;exact fin w' bb aL (uB.ok.tick.clean (by omega))
 ·subst hk;exact fin w' bb aL (uB.ok.tick.check (by omega))
 ·subst hk;exact fin w' bb aL (uB.ok.tick.more (by omega))
end
theorem W5{W:World}{Y:Nat->ai}(K:∀b w',θ W w'->W.heap.size<=b->μ w' b eu 5 (some ⟨b,0,none⟩) 1 1 (fP 0 cO cO)->Y b w'):aR W #[.int .i64 0,.int .i64 0,.int .i64 0,cO,cO] eu Y:=by rintro b w' ω rfl;have γ:=μ.new (w:=W) (fP 0 cO cO) eu;rw[<-ω]at γ;exact K b _ (θ.alloc W _) (by omega) γ
end Go.Proofs.YtcpdfhkhaekekaaGreat.G.cV
namespace Go.Proofs.YtcpdfhkhaekekaaGreat.G.cV
open Go Go.bI Go.RowKit cr dB eh cQ aK
structure Bs(w0:World)(p:J)(n:Nat)(ls:List bG.cg):Prop where
 cells:a8 w0 p (ls.map bG.cg.cells).flatten
 len:ls.length=n
 each:∀q∈ls,a8 w0 q.p (bG.bytesOf q)/\bG.Small q
theorem We{w:World}{p:J}{n c:Nat}{rows:List aU}(an:Bt w tX 56 (mu w tX A0) p n c rows):∃ls,Bs w p n ls:=by obtain⟨ls,rfl,Hz⟩:=LV an.each;exact⟨ls,an.cells,by simpa using an.size,Hz⟩
theorem Bs.get'{w0:World}{p:J}{n:Nat}{ls:List bG.cg}(h:Bs w0 p n ls){i:Nat}(o:i<n):∃a q,p=some a/\ls[i]?=some q/\(∀W,θ w0 W->aw W (a.add (i*5)) q.cells/\a8 W q.p (bG.bytesOf q))/\bG.Small q:=by
 have yW:i<ls.length:=by rw[h.len];exact o
 obtain⟨a,aP,lL⟩:=PZ h.cells (List.getElem?_eq_getElem yW);obtain⟨cW,fO⟩:=h.each _ (hN yW);exact⟨a,ls[i],aP,List.getElem?_eq_getElem yW,λW x=>⟨a8.ex (a:=some _) x lL,cW.ex x⟩,fO⟩
def Fr(w:World)(b:Nat):Prop:=∃B z,μ w B eu 5 (some ⟨b,0,none⟩) 1 1 z
def j2(w:World)(b:Nat)(t:Int)(r:gQ):Prop:=∃B cJ ch dc cy dd cE,μ w B eu 5 (some ⟨b,0,none⟩) 1 1 (nG t r cJ ch dc cy dd cE)/\μ w 0 cG 1 cJ ch dc (bg r.bF)
section
variable{w0 W bE:World}{x y:One}{cs:ah}{t:Int}{r:gQ}{b gW:Nat}
theorem Fr.c0(h:Fr W b)(k:nq W bE):Fr bE b:=by obtain⟨B,z,γ⟩:=h;exact⟨B,z,k _ _ _ _ _ _ _ γ (by decide)⟩
theorem Fr.ex(h:Fr W b)(k:θ W bE):Fr bE b:=by obtain⟨B,z,γ⟩:=h;exact⟨B,z,γ.ex k⟩
theorem Fr.lt(h:Fr W b):b<W.heap.size:=by obtain⟨B,z,γ⟩:=h;exact(γ.ge rfl).2
theorem Fr.aC(h:Fr W b)(k:Kp W bE λi=>i=gW)(cc:b≠gW):Fr bE b:=by obtain⟨B,z,γ⟩:=h;exact⟨B,z,γ.aC k λy ag o=>by cases ag;exact cc o⟩
theorem lY{Y:Nat->ai}(K:∀b w',θ W w'->W.heap.size<=b->Fr w' b->Y b w'):aR W #[.int .i64 0,.int .i64 0,.int .i64 0,cO,cO] eu Y:=
 W5 λb w' k ω γ=>K b w' k ω ⟨_,_,γ⟩
end
section
variable{w0 W:World}{x y:One}
def GZ(x:One)(q:bG.cg):Int:=if 1<=q.k/\q.k<=9 then x.aj+1 else 0
end
open Tryz
def fH(w0 W:World)(x y:One)(G:a1):Prop:=∃D cM,x.w9 w0 W D/\y.w9 w0 W cM/\jF D cM/\∀i,G i->i<W.heap.size/\¬D i/\¬cM i
def zR(W bE:World)(G:a1):Prop:=∀(B:Nat)(e:TypeId)(sz:Nat)(p:J)(l c:Nat)(vs:aU),μ W B e sz p l c vs->(∀x,p=some x->G x.block)->μ bE B e sz p l c vs
def k8(w:World)(cs:ah)(t:Int)(r:gQ)(G:a1):Prop:=∃cJ ch dc cy dd cE,cs=(nG t r cJ ch dc cy dd cE).toArray/\μ w 0 cG 1 cJ ch dc (bg r.bF)/\μ w 0 ck 1 cy dd cE (bs.cK r.j8)/\∀x,cy=some x->G x.block
def oD(w:World)(b:Nat)(t:Int)(r:gQ):Prop:=∃B cJ ch dc cy dd cE,μ w B eu 5 (some ⟨b,0,none⟩) 1 1 (nG t r cJ ch dc cy dd cE)/\μ w 0 cG 1 cJ ch dc (bg r.bF)/\μ w 0 ck 1 cy dd cE (bs.cK r.j8)
section
variable{w0 W bE:World}{x y:One}{cs:ah}{t:Int}{r:gQ}{b gW:Nat}{G iR:a1}
theorem fH.vN(h:fH w0 W x y G):hh w0 W x y:=by obtain⟨D,cM,h1,η,au,_⟩:=h;exact⟨D,cM,h1,η,au⟩
theorem hh.QA(h:hh w0 W x y):fH w0 W x y λ_=>False:=by obtain⟨D,cM,h1,η,au⟩:=h;exact⟨D,cM,h1,η,au,λ_ h=>h.elim⟩
theorem fH.symm(h:fH w0 W x y G):fH w0 W y x G:=by obtain⟨D,cM,h1,η,au,bV⟩:=h;exact⟨cM,D,η,h1,au.symm,λi o=>⟨(bV i o).1,(bV i o).2.2,(bV i o).2.1⟩⟩
theorem fH.ex(h:fH w0 W x y G):θ w0 W:=h.vN.ex
theorem fH.to(h:fH w0 W x y G)(k:θ W bE):fH w0 bE x y G:=by obtain⟨D,cM,h1,η,au,bV⟩:=h;exact⟨D,cM,eW.to h1 k,eW.to η k,au,λi o=>⟨sd (bV i o).1 k.size,(bV i o).2⟩⟩
theorem fH.loc(h:fH w0 W x y G)(k:Kp W bE λi=>i=b)(aF:w0.heap.size<=b){e:TypeId}(aO:Typed W e b)(en:e∉nV)(sZ:e∉Bw)(dr:e≠cG):fH w0 bE x y G:=by obtain⟨D,cM,h1,η,au,bV⟩:=h;exact⟨D,cM,eW.loc h1 k aF aO en sZ dr,eW.loc η k aF aO en sZ dr,au,λi o=>⟨sd (bV i o).1 k.size,(bV i o).2⟩⟩
theorem k8.c0(h:k8 W cs t r G)(k:nq W bE)(g:zR W bE G):k8 bE cs t r G:=by obtain⟨cJ,ch,dc,cy,dd,cE,rfl,γ,on,iw⟩:=h;exact⟨cJ,ch,dc,cy,dd,cE,rfl,k _ _ _ _ _ _ _ γ (by decide),g _ _ _ _ _ _ _ on iw,iw⟩
theorem k8.mono(h:k8 W cs t r G)(bL:∀i,G i->iR i):k8 W cs t r iR:=by obtain⟨cJ,ch,dc,cy,dd,cE,rfl,γ,on,iw⟩:=h;exact⟨cJ,ch,dc,cy,dd,cE,rfl,γ,on,λx I=>bL _ (iw x I)⟩
theorem k8.ex(h:k8 W cs t r G)(k:θ W bE):k8 bE cs t r G:=by obtain⟨cJ,ch,dc,cy,dd,cE,rfl,γ,on,iw⟩:=h;exact⟨cJ,ch,dc,cy,dd,cE,rfl,γ.ex k,on.ex k,iw⟩
theorem k8.put(h:k8 W cs t r G)(k:Kp W bE λi=>i=b)(f:Fr W b):k8 bE cs t r G:=by obtain⟨cJ,ch,dc,cy,dd,cE,rfl,γ,on,iw⟩:=h;obtain⟨B,z,az⟩:=f;have lT:=(az.typed rfl).1;exact⟨cJ,ch,dc,cy,dd,cE,rfl,γ.aC k λy ag o=>(γ.typed ag).1.ne (o▸lT) (by decide) rfl,on.aC k λy ag o=>(on.typed ag).1.ne (o▸lT) (by decide) rfl,iw⟩
theorem oD.aC(h:oD W b t r)(k:Kp W bE λi=>i=gW)(f:Fr W gW)(cc:b≠gW):oD bE b t r:=by obtain⟨B,cJ,ch,dc,cy,dd,cE,γ,hV,on⟩:=h;obtain⟨kA,z,az⟩:=f;have lT:=(az.typed rfl).1;exact⟨B,cJ,ch,dc,cy,dd,cE,γ.aC k λy ag o=>by cases ag;exact cc o,hV.aC k λy ag o=>(hV.typed ag).1.ne (o▸lT) (by decide) rfl,on.aC k λy ag o=>(on.typed ag).1.ne (o▸lT) (by decide) rfl⟩
theorem oD.IF(h:oD W b t r):j2 W b t r:=by obtain⟨B,cJ,ch,dc,cy,dd,cE,γ,hV,on⟩:=h;exact⟨B,cJ,ch,dc,cy,dd,cE,γ,hV⟩
theorem oD.ex(h:oD W b t r)(k:θ W bE):oD bE b t r:=by obtain⟨B,cJ,ch,dc,cy,dd,cE,γ,hV,on⟩:=h;exact⟨B,cJ,ch,dc,cy,dd,cE,γ.ex k,hV.ex k,on.ex k⟩
theorem aef(h:fH w0 W x y G)(ω:w0.heap.size<=b)(f:Fr W b)(π:k8 W cs t r G){Y:ai}(K:∀w',fH w0 w' x y G->Kp W w' (λi=>i=b)->oD w' b t r->Y w'):
  ο (decide (cs.size=5)) (hG W (⟨b,0,none⟩:Addr) cs.toList/\∀ax,ax=W.setCells (⟨b,0,none⟩:Addr).block (⟨b,0,none⟩:Addr).off cs.toList->Y ax):=by
 obtain⟨cJ,ch,dc,cy,dd,cE,rfl,hV,on,_⟩:=π;obtain⟨B,z,γ⟩:=f;have lT:=(γ.typed rfl).1;refine aW rfl (γ.put (cs:=nG t r cJ ch dc cy dd cE) rfl qw λb9 fN ff=>?_);exact K b9 (h.loc fN ω lT (by decide) (by decide) (by decide)) fN ⟨B,cJ,ch,dc,cy,dd,cE,ff,hV.aC fN λy ag o=>(hV.typed ag).1.ne (o▸lT) (by decide) rfl,on.aC fN λy ag o=>(on.typed ag).1.ne (o▸lT) (by decide) rfl⟩
theorem asR{gF ja:ah}{afE tb:Int}{jQ ku:gQ}{oJ lW:Nat}(h:fH w0 W x y G)(anv:w0.heap.size<=oJ)(BZ:w0.heap.size<=lW)(cc:oJ≠lW)(ZZ:Fr W oJ)(amd:Fr W lW)(aP:k8 W gF afE jQ G)(ω:k8 W ja tb ku G){Y:ai}(K:∀w',fH w0 w' x y G->oD w' oJ afE jQ->oD w' lW tb ku->Y w'):
  ο (decide (gF.size=5)) (hG W (⟨oJ,0,none⟩:Addr) gF.toList/\∀ax,ax=W.setCells (⟨oJ,0,none⟩:Addr).block (⟨oJ,0,none⟩:Addr).off gF.toList->
   ο (decide (ja.size=5)) (hG ax (⟨lW,0,none⟩:Addr) ja.toList/\∀aG,aG=ax.setCells (⟨lW,0,none⟩:Addr).block (⟨lW,0,none⟩:Addr).off ja.toList->Y aG)):=by
 refine aef h anv ZZ aP λax bV cp v4=>?_;have Z0:=amd.aC cp (Ne.symm cc);refine aef bV BZ Z0 (ω.put cp ZZ) λaG c9 ea v5=>?_;exact K aG c9 (v4.aC ea Z0 cc) v5
theorem ahx(h:fH w0 W x y G)(eB:x.n<=600000){q:bG.cg}(π:a8 W q.p (bG.bytesOf q))(ψ:bG.Small q){Z:ah->ai}{X:List PanicEntry->ai}
  (dx:∀w' cs iR,(∀i,G i->iR i)->fH w0 w' (x.kq (dp q)) y iR->nq W w'->zR W w' G->k8 w' cs (if 1<=q.k/\q.k<=9 then x.aj+1 else 0) (gh x.A (dp q)).2 iR->Z cs w'):
  κ prog 14 #[.pointer (some ⟨x.pp,0,none⟩),.agg q.cells.toArray] W (λv w'=>dZ v λcs=>Z cs w') X:=by
 obtain⟨D,cM,h1,η,au,bV⟩:=h;refine Qz h1 eB q π ψ λw' bb v en k aL he=>?_;obtain⟨cJ,ch,dc,cy,dd,cE,rfl,γ,on,Kv⟩:=aL;have aP:=au.pE k η;refine dx w' _ (λi=>G i\/∃x,cy=some x/\x.block=i) (λi o=>.inl o) ⟨bb,cM,en,eW.other η h1 k.aC au.symm,aP,λi o=>?_⟩ (λB e sz p l c vs γ ar=>eW.c0 h1 k γ ar) (λB e sz p l c vs γ iw=>γ.aC k.aC λx I o=>(bV _ (iw x I)).2.1 o) (he▸⟨cJ,ch,dc,cy,dd,cE,rfl,γ,on,λx I=>.inr ⟨x,I,rfl⟩⟩);rcases o with o|⟨z,aI,rfl⟩
 ·obtain⟨g1,g2,g3⟩:=bV i o;refine⟨sd g1 k.aC.size,λae=>?_,g3⟩;rcases k.sub i ae with h|h
  ·exact g2 h
  ·omega
 ·have ar:=Kv z aI;refine⟨(on.typed aI).2.2,λae=>ar (.inl ae),λae=>ar (.inr ?_)⟩;exact(η.is.fV ae).2
end
section
variable{w0 W:World}{x y:One}{G:a1}
theorem avW(h:fH w0 W x y G)(I:x.n<=500000)(ag:y.n<=500000){p:J}{n c:Nat}{ls:List bG.cg}(σ:Bs w0 p n ls){i:Nat}(o:i<n)(axd:i<80){bU:J}{fk aT:Nat}{R:ak}{aS:J->Nat->Nat->J->Nat->Nat->J->J->Int->ai}
  (jW:∀q w' oJ lW iR,ls[i]?=some q->fH w0 w' (x.kq (dp q)) (y.kq (dp q)) iR->oD w' oJ (GZ x q) (gh x.A (dp q)).2->oD w' lW (GZ y q) (gh y.A (dp q)).2->gH.aZ p n c bU fk aT (some ⟨x.pp,0,none⟩) (some ⟨y.pp,0,none⟩) i oJ lW i (decide ((i:Int)<80)) w' R aS):
  gH.ε p n c bU fk aT (some ⟨x.pp,0,none⟩) (some ⟨y.pp,0,none⟩) i W R aS:=by
 unfold gH.ε;rw[cond_pos (by simpa using o),cond_pos (by rw[bC];omega)];refine aW (by omega) (aW (by omega) ?_);have h:=h.to (θ.drew W);generalize W.drew=W at h⊢;obtain⟨a0,q,rfl,an,ay,ψ⟩:=σ.get' o;simp only[bj];have rd:∀{bE}{G:a1},fH w0 bE x y G->aw bE (a0.add ((i:Int).toNat*5)) q.cells.toArray.toList:=λh=>(ay _ h.ex).1;have x4:∀{bE}{G:a1},fH w0 bE (x.kq (dp q)) y G->aw bE (a0.add ((i:Int).toNat*5)) q.cells.toArray.toList:=λh=>(ay _ h.ex).1
 have kc:∀{bE}{G:a1}{Z:ah->ai}{X:List PanicEntry->ai},fH w0 bE x y G->(∀w' cs iR,(∀i,G i->iR i)->fH w0 w' (x.kq (dp q)) y iR->nq bE w'->zR bE w' G->k8 w' cs (GZ x q) (gh x.A (dp q)).2 iR->Z cs w')->
   κ prog 14 #[.pointer (some ⟨x.pp,0,none⟩),.agg q.cells.toArray] bE (λv w'=>dZ v λcs=>Z cs w') X:=λh dx=>ahx h (by omega) (ay _ h.ex).2 ψ dx
 have xm:∀{bE}{G:a1}{Z:ah->ai}{X:List PanicEntry->ai},fH w0 bE (x.kq (dp q)) y G->(∀w' cs iR,(∀i,G i->iR i)->fH w0 w' (x.kq (dp q)) (y.kq (dp q)) iR->nq bE w'->zR bE w' G->k8 w' cs (GZ y q) (gh y.A (dp q)).2 iR->Z cs w')->
   κ prog 14 #[.pointer (some ⟨y.pp,0,none⟩),.agg q.cells.toArray] bE (λv w'=>dZ v λcs=>Z cs w') X:=λh dx=>ahx h.symm (by omega) (ay _ h.ex).2 ψ λw' cs iR m eX k g r=>dx w' cs iR m eX.symm k g r
 have fin:∀{bE}{G:a1}{oJ lW:Nat}{gF ja:ah},fH w0 bE (x.kq (dp q)) (y.kq (dp q)) G->w0.heap.size<=oJ->w0.heap.size<=lW->oJ≠lW->Fr bE oJ->Fr bE lW->k8 bE gF (GZ x q) (gh x.A (dp q)).2 G->k8 bE ja (GZ y q) (gh y.A (dp q)).2 G->
   ο (decide (gF.size=5)) (hG bE (⟨oJ,0,none⟩:Addr) gF.toList/\∀ax,ax=bE.setCells (⟨oJ,0,none⟩:Addr).block (⟨oJ,0,none⟩:Addr).off gF.toList->
    ο (decide (ja.size=5)) (hG ax (⟨lW,0,none⟩:Addr) ja.toList/\∀aG,aG=ax.setCells (⟨lW,0,none⟩:Addr).block (⟨lW,0,none⟩:Addr).off ja.toList->gH.aZ (some a0) n c bU fk aT (some ⟨x.pp,0,none⟩) (some ⟨y.pp,0,none⟩) i oJ lW i (decide ((i:Int)<80)) aG R aS)):=
  λh h1 η au bV c9 iv h7=>asR h h1 η au bV c9 iv h7 λw' eX cS fX=>jW q w' _ _ _ an eX cS fX
 have up:∀{bE:World}{b:Nat}{x y:One}{G:a1},fH w0 bE x y G->bE.heap.size<=b->w0.heap.size<=b:=λh ω=>fo h.ex.size ω;refine⟨q.cells.toArray,rfl,rd h,aW (by omega) (aW (by omega) ⟨q.cells.toArray,rfl,rd h,?_,?_,?_⟩)⟩
 ·refine kc h λδ gF Bn m1 h1 aZ g1 jQ=>aW rfl ⟨x4 h1,?_,?_,?_⟩
  ·refine xm h1 λυ ja awX m2 η bP g2 ku=>⟨?_,?_⟩
   ·refine lY λb aa ab ω f=>lY λgW ax aA jj ij=>?_;have bf:=f.lt;exact fin ((η.to ab).to aA) (up η ω) (up (η.to ab) jj) (by omega) (f.ex aA) ij (((jQ.c0 bP g2).mono m2).ex (ab.trans aA)) (ku.ex (ab.trans aA))
   ·refine lY λb aa ab ω f=>lY λgW ax aA jj ij=>?_;have bf:=f.lt;exact fin ((η.to ab).to aA) (up (η.to ab) jj) (up η ω) (by omega) ij (f.ex aA) (((jQ.c0 bP g2).mono m2).ex (ab.trans aA)) (ku.ex (ab.trans aA))
  ·refine lY λb aa ab ω f=>aW rfl ⟨x4 (h1.to ab),?_,?_⟩
   ·refine xm (h1.to ab) λax ja Rl m4 bV cp g4 ku=>lY λgW aG al jj ij=>?_;have bf:=(f.c0 cp).lt;exact fin (bV.to al) (up h1 ω) (up bV jj) (by omega) ((f.c0 cp).ex al) ij ((((jQ.ex ab).c0 cp g4).mono m4).ex al) (ku.ex al)
   ·refine lY λgW ax aA jj ij=>aW rfl ⟨x4 ((h1.to ab).to aA),?_⟩;have bf:=f.lt;refine xm ((h1.to ab).to aA) λaG ja Jj m5 c9 ea g5 ku=>?_;exact fin c9 (up h1 ω) (up (h1.to ab) jj) (by omega) ((f.ex aA).c0 ea) (ij.c0 ea) (((jQ.ex (ab.trans aA)).c0 ea g5).mono m5) ku
  ·refine lY λb aa ab ω f=>aW rfl ⟨x4 (h1.to ab),?_,?_⟩
   ·refine xm (h1.to ab) λax ja Rl m4 bV cp g4 ku=>lY λgW aG al jj ij=>?_;have bf:=(f.c0 cp).lt;exact fin (bV.to al) (up bV jj) (up h1 ω) (by omega) ij ((f.c0 cp).ex al) ((((jQ.ex ab).c0 cp g4).mono m4).ex al) (ku.ex al)
   ·refine lY λgW ax aA jj ij=>aW rfl ⟨x4 ((h1.to ab).to aA),?_⟩;have bf:=f.lt;refine xm ((h1.to ab).to aA) λaG ja Jj m5 c9 ea g5 ku=>?_;exact fin c9 (up (h1.to ab) jj) (up h1 ω) (by omega) (ij.c0 ea) ((f.ex aA).c0 ea) (((jQ.ex (ab.trans aA)).c0 ea g5).mono m5) ku
 ·refine lY λb aa ab ω f=>aW rfl ⟨rd (h.to ab),aW rfl ⟨rd (h.to ab),?_,?_⟩⟩
  ·refine kc (h.to ab) λax gF Rl m4 bV cp g4 jQ=>aW rfl ⟨x4 bV,?_,?_⟩
   ·refine xm bV λaG ja Jj m5 c9 ea g5 ku=>lY λgW ba aJ jj ij=>?_;have bf:=((f.c0 cp).c0 ea).lt;exact fin (c9.to aJ) (up h ω) (up c9 jj) (by omega) (((f.c0 cp).c0 ea).ex aJ) ij (((jQ.c0 ea g5).mono m5).ex aJ) (ku.ex aJ)
   ·refine lY λgW aG al jj ij=>aW rfl ⟨x4 (bV.to al),?_⟩;have bf:=(f.c0 cp).lt;refine xm (bV.to al) λba ja Rm m6 iv dP g6 ku=>?_;exact fin iv (up h ω) (up bV jj) (by omega) (((f.c0 cp).ex al).c0 dP) (ij.c0 dP) (((jQ.ex al).c0 dP g6).mono m6) ku
  ·refine lY λgW ax aA jj ij=>aW rfl ⟨rd ((h.to ab).to aA),aW rfl ⟨rd ((h.to ab).to aA),?_⟩⟩;have bf:=f.lt;refine kc ((h.to ab).to aA) λaG gF Jj m5 c9 ea g5 jQ=>aW rfl ⟨x4 c9,?_⟩;refine xm c9 λba ja Rm m6 iv dP g6 ku=>?_;exact fin iv (up h ω) (up (h.to ab) jj) (by omega) (((f.ex aA).c0 ea).c0 dP) ((ij.c0 ea).c0 dP) ((jQ.c0 dP g6).mono m6) ku
 ·refine lY λb aa ab ω f=>aW rfl ⟨rd (h.to ab),aW rfl ⟨rd (h.to ab),?_,?_⟩⟩
  ·refine kc (h.to ab) λax gF Rl m4 bV cp g4 jQ=>aW rfl ⟨x4 bV,?_,?_⟩
   ·refine xm bV λaG ja Jj m5 c9 ea g5 ku=>lY λgW ba aJ jj ij=>?_;have bf:=((f.c0 cp).c0 ea).lt;exact fin (c9.to aJ) (up c9 jj) (up h ω) (by omega) ij (((f.c0 cp).c0 ea).ex aJ) (((jQ.c0 ea g5).mono m5).ex aJ) (ku.ex aJ)
   ·refine lY λgW aG al jj ij=>aW rfl ⟨x4 (bV.to al),?_⟩;have bf:=(f.c0 cp).lt;refine xm (bV.to al) λba ja Rm m6 iv dP g6 ku=>?_;exact fin iv (up bV jj) (up h ω) (by omega) (ij.c0 dP) (((f.c0 cp).ex al).c0 dP) (((jQ.ex al).c0 dP g6).mono m6) ku
  ·refine lY λgW ax aA jj ij=>aW rfl ⟨rd ((h.to ab).to aA),aW rfl ⟨rd ((h.to ab).to aA),?_⟩⟩;have bf:=f.lt;refine kc ((h.to ab).to aA) λaG gF Jj m5 c9 ea g5 jQ=>aW rfl ⟨x4 c9,?_⟩;refine xm c9 λba ja Rm m6 iv dP g6 ku=>?_;exact fin iv (up (h.to ab) jj) (up h ω) (by omega) ((ij.c0 ea).c0 dP) (((f.ex aA).c0 ea).c0 dP) ((jQ.c0 dP g6).mono m6) ku
end
theorem akA{w0:World}{p:J}{n:Nat}{ps:ao}(dg:a8 w0 p (ps.map (Value.int .u8)))(ar:ps.length=n){j:Nat}(χ:j<n):∃x a,x∈ps/\p=some a/\∀bE,θ w0 bE->bE.cell? (a.add j)=some (.int .u8 x):=by
 have s5:j<ps.length:=by omega
 have qU:(ps.map (Value.int .u8))[j]?=some (.int .u8 ps[j]):=by rw[List.getElem?_map,List.getElem?_eq_getElem s5];rfl
 obtain⟨a,NL,jQ⟩:=dg.many qU;refine⟨ps[j],a,hN s5,NL,λbE x=>?_⟩;obtain⟨fz,ZR,LN⟩:=(dg.ex x).many qU;rw[NL]at ZR;cases ZR;exact LN
section
variable{w0 W:World}{x y:One}{ad d1 aX d2 N:Nat}
theorem j2.Dm{b:Nat}{t:Int}{r:gQ}(h:j2 W b t r):W.cell? (⟨b,1,none⟩:Addr)=some (.int .i64 r.e):=by obtain⟨B,cJ,ch,dc,cy,dd,cE,γ,hV⟩:=h;exact γ.at (j:=1) rfl
theorem j2.Jz{b:Nat}{t:Int}{r:gQ}(h:j2 W b t r):W.cell? (⟨b,2,none⟩:Addr)=some (.int .i64 r.id):=by obtain⟨B,cJ,ch,dc,cy,dd,cE,γ,hV⟩:=h;exact γ.at (j:=2) rfl
theorem j2.JA{b:Nat}{t:Int}{r:gQ}(h:j2 W b t r):∃cJ ch dc,W.cell? (⟨b,3,none⟩:Addr)=some (.slice cJ ch dc)/\r.bF.length=ch/\a8 W cJ (r.bF.map (.int .u8)):=by
 obtain⟨B,cJ,ch,dc,cy,dd,cE,γ,hV⟩:=h;refine⟨cJ,ch,dc,γ.at (j:=3) rfl,?_,hV.cells⟩
 have:=hV.1
 rw[rl]at this;omega
end
structure sD(x y:One)(ad aX N:Nat):Prop where
 A:x.A=y.A
 QZ:x.pp=ad
 Q3:y.pp=aX
 QY:x.n<=N
 Q2:y.n<=N
section
variable{w0 W bE:World}{x y:One}{ad aX N:Nat}{G:a1}
theorem sD.kq(h:sD x y ad aX N)(a:aK.Ask):sD (x.kq a) (y.kq a) ad aX (N+5):=
 ⟨by show(gh x.A a).1=(gh y.A a).1;rw[h.A],h.QZ,h.Q3,by have:=h.QY;show x.n+5<=_;omega,by have:=h.Q2;show y.n+5<=_;omega⟩
theorem sD.step(h:sD x y ad aX N)(k:Int):sD (x.step k) y ad aX (N+2):=
 ⟨h.A,h.QZ,h.Q3,by have:=h.QY;show x.n+2<=_;omega,by have:=h.Q2;omega⟩
theorem sD.more(h:sD x y ad aX N){Bq:Nat}(eB:N<=Bq):sD x y ad aX Bq:=⟨h.A,h.QZ,h.Q3,fo h.QY eB,fo h.Q2 eB⟩
theorem oD.Ng{b:Nat}{t:Int}{r:gQ}(h:oD W b t r):∃cy dd cE,W.cell? (⟨b,4,none⟩:Addr)=some (.slice cy dd cE)/\r.j8.length=dd/\∀(j:Nat)(x:Int),r.j8[j]?=some x->∃a,cy=some a/\W.cell? (a.add j)=some (.int .i64 x):=by
 obtain⟨B,cJ,ch,dc,cy,dd,cE,γ,hV,on⟩:=h;refine⟨cy,dd,cE,γ.at (j:=4) rfl,?_,λj x χ=>?_⟩
 ·have:=on.1
  unfold bs.cK at this;rw[jP]at this;omega
 ·exact on.cells.many (j:=j) (v:=.int .i64 x) (by unfold bs.cK;rw[List.getElem?_map,χ];rfl)
set_option maxRecDepth 10000 in
theorem ajj{b gW:Nat}{t k2:Int}{r:gQ}(h:hh w0 W x y)(tJ:sD x y ad aX N)(eB:N<=100000)(v1:oD W b t r)(v2:oD W gW k2 r){p:J}{n c:Nat}{bU:J}{fk aT:Nat}{ps:ao}(dg:a8 w0 bU (ps.map (Value.int .u8)))(ar:ps.length=fk)(hw:∀x∈ps,0<=x/\x<256){j:Nat}(χ:j<100000)(xG:r.j8.length<=1000){R:ak}{t46:Int}{t47:Bool}{aS:J->Nat->Nat->J->Nat->Nat->J->J->Int->ai}
  (hC:∀w' ew jt,hh w0 w' ew jt->sD ew jt ad aX (N+2)->aS p n c bU fk aT (some ⟨ad,0,none⟩) (some ⟨aX,0,none⟩) (IntKind.i64.wrap ((j:Int)+1)) w'):
  gH.aZ p n c bU fk aT (some ⟨ad,0,none⟩) (some ⟨aX,0,none⟩) (j:Int) b gW t46 t47 W R aS:=by
 unfold gH.aZ;refine⟨_,v1.IF.Dm,_,v2.IF.Dm,?_⟩;rw[cond_neg (by simp)];refine⟨_,v1.IF.Jz,_,v2.IF.Jz,?_⟩;rw[cond_neg (by simp)];obtain⟨cJ,ch,dc,g3,uO,bJ⟩:=v1.IF.JA;obtain⟨ZL,ZI,ZB,xr,U5,Nn⟩:=v2.IF.JA;refine⟨_,_,_,g3,r.bF,uO,bJ,_,_,_,xr,r.bF,U5,Nn,?_⟩;rw[cond_neg (by simp)];obtain⟨cy,dd,cE,g4,EX,_⟩:=v1.Ng;obtain⟨acO,acJ,O2,NX,aca,_⟩:=v2.Ng;refine⟨_,_,_,g4,_,_,_,NX,?_⟩;rw[cond_neg (by rw[<-EX,<-aca];simp)];unfold gH.fm;refine⟨λez et eT dW dL ec t10 t12 t13 t14 t15 t16 t46 t47 t69 t70 t71 t72 t73 t76 wO wN wM t78 t79 wR wQ wP t81 t82 t85 wU wT wS t87 t88 wX wW wV t90 t91 W=>p=ez/\n=et/\c=eT/\bU=dW/\fk=dL/\aT=ec/\some ⟨ad,0,none⟩=t10/\some ⟨aX,0,none⟩=t12/\(j:Int)=t13/\b=t14/\gW=t15/\0<=t16/\t16<=r.j8.length/\hh w0 W x y/\oD W b t r/\oD W gW k2 r,
  λez et eT dW dL ec t10 t12 t13 t14 t15 t16 t46 t47 t69 t70 t71 t72 t73 t76 wO wN wM t78 t79 wR wQ wP t81 t82 t85 wU wT wS t87 t88 wX wW wV t90 t91 W=>(r.j8.length-t16).toNat,⟨rfl,rfl,rfl,rfl,rfl,rfl,rfl,rfl,rfl,rfl,rfl,by omega,by omega,h,v1,v2⟩,?_⟩
 clear v1 v2 h g3 xr g4 NX bJ Nn;rintro _ _ _ _ _ _ _ _ _ _ _ t16 t46 t47 t69 t70 t71 t72 t73 t76 wO wN wM t78 t79 wR wQ wP t81 t82 t85 wU wT wS t87 t88 wX wW wV t90 t91 W ⟨rfl,rfl,rfl,rfl,rfl,rfl,rfl,rfl,rfl,rfl,rfl,g0,g1,h,v1,v2⟩;unfold gH.ι;obtain⟨i,rfl⟩:=eR g0;obtain⟨cy,dd,cE,g4,EX,V1⟩:=v1.Ng;obtain⟨acO,acJ,O2,NX,aca,asm⟩:=v2.Ng;refine⟨_,_,_,g4,bA (λo=>?_) λo=>?_⟩
 ·have o:=cd o;have yW:i<r.j8.length:=by omega
  obtain⟨a,rfl,jQ⟩:=V1 i _ (List.getElem?_eq_getElem yW);obtain⟨fz,rfl,LN⟩:=asm i _ (List.getElem?_eq_getElem yW);refine⟨_,_,_,g4,aW (by omega) (aW (by omega) ?_)⟩
  try dsimp only[bj]
  rw[cP,eG];refine⟨_,jQ,_,_,_,NX,aW (by omega) (aW (by omega) ?_)⟩
  try dsimp only[bj]
  refine⟨_,LN,λaZ=>?_⟩;rw[cond_neg (by simp),b3 (x:=(i:Int)+1) (by omega) (by omega)];have X:=θ.drewN W aZ;exact⟨⟨rfl,rfl,rfl,rfl,rfl,rfl,rfl,rfl,rfl,rfl,rfl,by omega,by omega,h.to X,v1.ex X,v2.ex X⟩,by omega⟩
 ·unfold gH.bP;refine bA (λe3=>?_) λe3=>hC W x y h (tJ.more (by omega));have e3:=cd e3;obtain⟨z,a,aI,rfl,σ⟩:=akA dg ar (j:=j) (by omega);have aI:=hw z aI;refine aW (by omega) (aW (by omega) ?_)
  try dsimp only[bj]
  rw[cP,eG];refine⟨z,σ W h.ex,?_⟩;have m3:Int.tmod z 3=z%3:=Iv aI.1;rw[m3,b3 (x:=z%3) (by omega) (by omega),b3 (x:=2+z%3) (by omega) (by omega)];obtain⟨eY,rfl,rfl,I,ag⟩:=tJ;refine alA h (by omega) (pick:=2+z%3) (by omega) λδ h1 aZ=>?_
  try dsimp only[bZ]
  exact hC δ _ _ h1 (sD.step ⟨eY,rfl,rfl,I,ag⟩ _)
end
def rB(v:Int):aK.Ask:=⟨9,v,0,0,[]⟩
theorem Jx(A:eC)(v:Int):gh A (rB v)=match ih A.E v with
  |none=>nw A 4
  |some e=>(A,{hW with j8:=[e.1,e.2.1]}):=by
 unfold gh;rw[aY ⟨show(1:Int)<=9 by decide,show(9:Int)<=9 by decide⟩];unfold kc rB;dsimp only;rw[aN (by omega),aN (by omega),aN (by omega),aN (by omega),aN (by omega),aN (by omega),aN (by omega),aN (by omega)];rfl
theorem RW(A:eC)(v:Int):(gh A (rB v)).1=A:=by rw[Jx];cases ih A.E v<;>rfl
def ui(s:ByteArray)(A:eC)(v:Int):Nat->ByteArray
 |0=>s
 |k+1=>ui s A v k++sg A v k
def vj(s:ByteArray)(A:eC)(v:Int):ByteArray:=match ih A.E v with
 |none=>s++(⟨#[45]⟩:ByteArray)
 |some e=>ui (s++strOf [e.1%256,e.2.1%256]) A v e.2.1.toNat
def uY(A:eC):Nat->ByteArray
 |0=>⟨#[]⟩
 |v+1=>vj (uY A v) A v
def RR(A:eC):ByteArray:=uY A 8
structure Lit(A:eC):Prop where
 rd:∀v b,(sg A v b).size<=64
 jL:∀v e,ih A.E v=some e->0<=e.2.1/\e.2.1<256
theorem DF{A:eC}(h:Lit A)(s:ByteArray)(v:Int):∀k,(ui s A v k).size<=s.size+64*k
 |0=>eF _
 |k+1=>by
  show(ui s A v k++sg A v k).size<=_
  have:=DF h s v k
  have:=h.rd v k
  rw[CF];omega
theorem W6{A:eC}(h:Lit A)(s:ByteArray)(v:Int):(vj s A v).size<=s.size+17000:=by
 unfold vj;cases he:ih A.E v with
 |none=>
  rw[CF];show s.size+1<=_;omega
 |some e=>
  obtain⟨aF,h1⟩:=h.jL v e he
  have:=DF h (s++strOf [e.1%256,e.2.1%256]) v e.2.1.toNat
  rw[CF,IP]at this;dsimp only[List.length_cons,List.length_nil]at this⊢;omega
theorem Lq{A:eC}(h:Lit A):∀v,(uY A v).size<=17000*v
 |0=>eF _
 |v+1=>by
  have:=Lq h v
  have:=W6 h (uY A v) v
  show(vj (uY A v) A v).size<=_;omega
theorem jI.jL{m:aK}{A:eC}{f:Nat->di}(h:aK.jI m A f)(o:Inv m){v:Int}{e:mU}(he:ih A.E v=some e):(0<=e.2.1/\e.2.1<256)/\e∈A.E:=by
 unfold ih at he;split at he
 ·have hm:e∈A.E:=by
   rw[Option.filter_eq_some_iff]at he;exact eS he.1
  have η:(e.1,e.2.1,e.2.2.map (Option.map λx=>f x.1))∈m.R:=by rw[h.R];exact gM.2 ⟨e,hm,rfl⟩
  exact⟨(o.ok _ η).2.2.2,hm⟩
 ·cases he
theorem Wp{m:aK}(o:Inv m)(x:di):(gO m.k m.d x).length<=64:=by
 unfold gO;rw[List.getD_eq_getElem?_getD];cases I:m.d.now[(me m.k x).toNat]?with
 |none=>exact da _
 |some s=>
  have:=(o.dev.now s (eS I)).1
  show s.length<=64;omega
theorem Ok.lit{m:aK}{A:eC}{n:Nat}(h:aK.Ok m A n):Lit A:=by
 obtain⟨f,bf⟩:=h.F2;refine⟨λv b=>?_,λv e he=>(jI.jL bf h.inv he).1⟩;have key:(gh A (nX v b)).2.bF.length<=64:=by
  unfold gh;rw[aY ⟨show(1:Int)<=4 by decide,show(4:Int)<=9 by decide⟩];unfold kc nX;dsimp only;rw[aN (by omega),aN (by omega),aN (by omega),aY rfl];cases he:ih A.E v with
  |none=>exact da _
  |some e=>
   dsimp only;by_cases ω:b<0\/e.2.1<=b
   ·rw[aY ω];exact da _
   ·rw[aN ω];cases I:(e.2.2[b.toNat]?).join with
    |none=>show(bh.hR).length<=64;simp[bh.hR]
    |some x=>
     show x.2.length<=64;have HK:some x∈e.2.2:=by
      cases ay:e.2.2[b.toNat]?with
      |none=>rw[ay]at I;cases I
      |some q=>rw[ay]at I;exact I▸eS ay
     rw[<-bf.sec x (AI.2 ⟨e,(jI.jL bf h.inv he).2,HK⟩)];exact Wp h.inv _
 unfold sg Ix;split
 ·decide
 ·rw[IP];exact key
section
variable{w0 W:World}{x y:One}
theorem hh.lit(h:hh w0 W x y):Lit x.A:=by obtain⟨D,cM,h1,η,au⟩:=h;exact Ok.lit (eW.ok h1)
end
section
variable{w0 W:World}{x y:One}{G:a1}
theorem WW(h:fH w0 W x y G)(eB:x.n<=600000)(v b:Int){Z:Value->ai}{X:List PanicEntry->ai}
  (dx:∀w' ew,fH w0 w' ew y G->ew.pp=x.pp->ew.A=x.A->ew.n=x.n+5->nq W w'->zR W w' G->Z (.string (sg x.A v b)) w'):
  κ prog 17 #[.pointer (some ⟨x.pp,0,none⟩),.int .i64 v,.int .i64 b] W Z X:=by
 obtain⟨D,cM,h1,η,au,bV⟩:=h;refine WU h1 eB v b λw' bb en k _=>?_;refine dx w' ⟨x.pp,x.pd,(ni x.m (nX v b)).1,x.aj+1,x.A,x.n+5⟩ ⟨bb,cM,en,eW.other η h1 k.aC au.symm,au.pE k η,λi o=>?_⟩ rfl rfl rfl (λB e sz p l c vs γ ar=>eW.c0 h1 k γ ar) λB e sz p l c vs γ iw=>γ.aC k.aC λz aI o=>(bV _ (iw z aI)).2.1 o;obtain⟨g1,g2,g3⟩:=bV i o;refine⟨sd g1 k.aC.size,λae=>?_,g3⟩;rcases k.sub i ae with h|h
 ·exact g2 h
 ·omega
theorem WV(h:fH w0 W x y G)(eB:x.n<=600000)(r:bG.cg){B:Nat}(σ:μ W B cG 1 r.p r.n r.c (bG.bytesOf r))(ψ:bG.Small r){R:ak}
  (dx:∀w' cs iR,(∀i,G i->iR i)->fH w0 w' (x.kq (dp r)) y iR->nq W w'->k8 w' cs (if 1<=r.k/\r.k<=9 then x.aj+1 else 0) (gh x.A (dp r)).2 iR->R (.returned (.agg cs)) w'):mb.C (some ⟨x.pp,0,none⟩) r.k r.v r.b r.s r.p r.n r.c W R:=by
 obtain⟨D,cM,h1,η,au,bV⟩:=h;refine Lp h1 eB r σ ψ λw' bb v en k aL he=>?_;obtain⟨cJ,ch,dc,cy,dd,cE,rfl,γ,on,Kv⟩:=aL;have aP:=au.pE k η;refine dx w' _ (λi=>G i\/∃x,cy=some x/\x.block=i) (λi o=>.inl o) ⟨bb,cM,en,eW.other η h1 k.aC au.symm,aP,λi o=>?_⟩ (λB e sz p l c vs γ ar=>eW.c0 h1 k γ ar) (he▸⟨cJ,ch,dc,cy,dd,cE,rfl,γ,on,λx I=>.inr ⟨x,I,rfl⟩⟩);rcases o with o|⟨z,aI,rfl⟩
 ·obtain⟨g1,g2,g3⟩:=bV i o;refine⟨sd g1 k.aC.size,λae=>?_,g3⟩;rcases k.sub i ae with h|h
  ·exact g2 h
  ·omega
 ·have ar:=Kv z aI;refine⟨(on.typed aI).2.2,λae=>ar (.inl ae),λae=>ar (.inr ?_)⟩;exact(η.is.fV ae).2
def mq(W:World)(b:Nat)(a s:Int)(G:a1):Prop:=∃B t r cJ ch dc cy cE,μ W B eu 5 (some ⟨b,0,none⟩) 1 1 (nG t r cJ ch dc cy 2 cE)/\μ W 0 ck 1 cy 2 cE (bs.cK [a,s])/\∀z,cy=some z->G z.block
theorem mq.c0{bE:World}{b:Nat}{a s:Int}(h:mq W b a s G)(k:nq W bE)(g:zR W bE G):mq bE b a s G:=by obtain⟨B,t,r,cJ,ch,dc,cy,cE,γ,on,iw⟩:=h;exact⟨B,t,r,cJ,ch,dc,cy,cE,k _ _ _ _ _ _ _ γ (by decide),g _ _ _ _ _ _ _ on iw,iw⟩
theorem mq.ex{bE:World}{b:Nat}{a s:Int}(h:mq W b a s G)(k:θ W bE):mq bE b a s G:=by obtain⟨B,t,r,cJ,ch,dc,cy,cE,γ,on,iw⟩:=h;exact⟨B,t,r,cJ,ch,dc,cy,cE,γ.ex k,on.ex k,iw⟩
theorem mq.at{b:Nat}{a s:Int}(h:mq W b a s G):∃d cE,W.cell? (⟨b,4,none⟩:Addr)=some (.slice (some d) 2 cE)/\W.cell? d=some (.int .i64 a)/\W.cell? (d.add 1)=some (.int .i64 s):=by obtain⟨B,t,r,cJ,ch,dc,cy,cE,γ,on,iw⟩:=h;obtain⟨d,rfl,aF⟩:=on.cells.one (v:=.int .i64 a) rfl;obtain⟨d',e,h1⟩:=on.cells.many (j:=1) (v:=.int .i64 s) rfl;cases e;exact⟨d,cE,γ.at (j:=4) rfl,aF,h1⟩
theorem RT{s:ByteArray}{v:Nat}(aL:v<8){b:Nat}{a sz:Int}(fj:0<=sz/\sz<256)(ψ:s.size<=1000000)(h:fH w0 W x y G)(eB:x.n<=500000)(e:mq W b a sz G){R:ak}{aS:J->ByteArray->Int->ai}
  (hC:∀w' ew,fH w0 w' ew y G->ew.pp=x.pp->ew.A=x.A->ew.n<=x.n+1300->aS (some ⟨x.pp,0,none⟩) (ui s x.A v sz.toNat) (IntKind.i64.wrap ((v:Int)+1)) w'):
  dK.hU (some ⟨x.pp,0,none⟩) s (v:Int) b 0 W R aS:=by
 unfold dK.hU dK.fm;refine⟨λt0 t3 t4 t5 t6 W=>some ⟨x.pp,0,none⟩=t0/\t3=ui s x.A v t6.toNat/\(v:Int)=t4/\b=t5/\0<=t6/\t6<=sz/\(∃ew,fH w0 W ew y G/\ew.pp=x.pp/\ew.A=x.A/\ew.n<=x.n+5*t6.toNat)/\mq W b a sz G,λ_ _ _ _ t6 _=>(sz-t6).toNat,⟨rfl,rfl,rfl,rfl,by omega,by omega,⟨x,h,rfl,rfl,by omega⟩,e⟩,?_⟩;have an:=h.vN.lit;clear h e;rintro _ _ _ _ t6 W ⟨rfl,rfl,rfl,rfl,g0,g1,⟨ew,h,hp,eY,ar⟩,e⟩;unfold dK.ι;obtain⟨k,rfl⟩:=eR g0;rw[cP]at ar⊢;obtain⟨d,cE,fU,d0,d1⟩:=e.at;refine⟨_,_,_,fU,aW (by decide) ?_⟩
 try dsimp only[bj]
 refine⟨_,d1,bA (λhk=>?_) λhk=>?_⟩
 ·have hk:=cd hk;unfold dK.uM;rw[<-hp];refine WW h (by omega) v k λba aJ iv Um Ti Uc dP g6=>?_
  try dsimp only[JN]
  have apb:=DF an s v k;have apc:=an.rd v k;refine Hf (by rw[eY,we];omega) ?_;unfold dK.s9;rw[b3 (x:=(k:Int)+1) (by omega) (by omega),hp];have aM:((k:Int)+1).toNat=k+1:=by omega
  refine⟨⟨rfl,?_,rfl,rfl,by omega,by omega,⟨aJ,iv,Um.trans hp,Ti.trans eY,by omega⟩,e.c0 dP g6⟩,by((try dsimp only);omega)⟩;rw[aM,eY];rfl
 ·have hk:=dh hk;unfold dK.AA;have vP:k=sz.toNat:=by omega
  rw[vP];exact hC W ew h hp eY (by omega)
end
section
variable{w0 W:World}{x y:One}{G:a1}
theorem RS{s:ByteArray}{v:Nat}(aL:v<8)(ψ:s.size<=900000)(h:fH w0 W x y G)(eB:x.n<=400000){R:ak}{aS:J->ByteArray->Int->ai}
  (hC:∀w' ew iR,(∀i,G i->iR i)->fH w0 w' ew y iR->ew.pp=x.pp->ew.A=x.A->ew.n<=x.n+1400->aS (some ⟨x.pp,0,none⟩) (vj s x.A v) (IntKind.i64.wrap ((v:Int)+1)) w'):
  dK.cp (some ⟨x.pp,0,none⟩) s (v:Int) W R aS:=by
 unfold dK.cp;show mb.C (some ⟨x.pp,0,none⟩) 9 v 0 0 none 0 0 W _;have an:=h.vN.lit;have KG:=h.ex.size;refine WV h (by omega) ⟨9,v,0,0,[],none,0,0⟩ (B:=0) (μ.nil _ _ _ _) ⟨rfl,da _,λx I=>by cases I⟩ λδ cs Bn bL h1 aZ LS=>?_;have Uu:dp ⟨9,v,0,0,[],none,0,0⟩=rB v:=rfl;rw[Uu]at h1 LS
 try dsimp only
 try dsimp only[hz]
 have BV:(x.kq (rB v)).A=x.A:=RW x.A v;refine lY λb aa ab ω f=>?_;obtain⟨cJ,ch,dc,cy,dd,cE,rfl,hV,on,iw⟩:=LS.ex ab;obtain⟨B,z,γ⟩:=f;have lT:=(γ.typed rfl).1;have s3:w0.heap.size<=b:=fo h1.ex.size ω;refine aW rfl (γ.put (cs:=nG _ _ cJ ch dc cy dd cE) rfl qw λax cp cm=>?_);have bV:=(h1.to ab).loc cp s3 lT (by decide) (by decide) (by decide);have Fj:=on.aC cp λy ag o=>(on.typed ag).1.ne (o▸lT) (by decide) rfl;unfold dK.ea;refine⟨_,cm.at (j:=1) rfl,?_⟩;have σ:=gN Prod.snd (Jx x.A v);unfold vj at hC;cases he:ih x.A.E v with
 |none=>
  rw[he]at σ hC;dsimp only at σ hC;rw[σ,cond_pos (by rfl)];unfold dK.dP;rw[cond_pos (by rfl)];have h1:(⟨#[45]⟩:ByteArray).size=1:=rfl;refine Hf (by rw[h1,we];omega) ?_;unfold dK.AA;exact hC ax _ Bn bL bV rfl BV (by show x.n+5<=_;omega)
 |some e=>
  rw[he]at σ hC;dsimp only at σ hC;obtain⟨g0,g1⟩:=an.jL v e he;rw[σ]at cm Fj⊢;obtain rfl:dd=2:=by have η:(2:Nat)=dd*1:=Fj.1;omega
  rw[cond_neg (by rfl)];refine⟨_,_,_,cm.at (j:=4) rfl,?_⟩;unfold dK.dP;rw[cond_neg (by rfl)];unfold dK.hK;have xn:mq ax b e.1 e.2.1 Bn:=⟨_,_,_,cJ,ch,dc,cy,cE,cm,Fj,iw⟩;have xn:=xn.ex (θ.drew ax);have c9:=bV.to (θ.drew ax);generalize ax.drew=aG at xn c9⊢;obtain⟨d,O2,fU,d0,d1⟩:=xn.at;refine⟨_,_,_,fU,aW (by decide) ?_⟩
  try dsimp only[bj]
  refine⟨_,d0,_,_,_,fU,aW (by decide) ?_⟩
  try dsimp only[bj]
  refine⟨_,d1,?_⟩;rw[sy,sy];rintro ι ba ee rfl;have bS:=μ.alloc (w:=aG) (bg [e.1%256,e.2.1%256]) cG 1 2 rfl;rw[<-ee]at bS;have aJ:=θ.alloc aG (.cells (bg [e.1%256,e.2.1%256]).toArray cG);have nY:aG.alloc (.cells #[.int .u8 (e.1%256),.int .u8 (e.2.1%256)] cG)=aG.alloc (.cells (bg [e.1%256,e.2.1%256]).toArray cG):=rfl;rw[nY];generalize aG.alloc (.cells (bg [e.1%256,e.2.1%256]).toArray cG)=ba at bS aJ⊢;refine⟨[e.1%256,e.2.1%256],rfl,bS.cells,?_⟩;have η:(strOf [e.1%256,e.2.1%256]).size=2:=by rw[IP];rfl
  refine Hf (by rw[η,we];omega) ?_;unfold dK.fN;have Ub:(x.kq (rB v)).n=x.n+5:=rfl;refine RT (x:=x.kq (rB v)) aL ⟨g0,g1⟩ (by rw[CF,η];omega) (c9.to aJ) (by omega) (xn.ex aJ) λbk aV h7 EE Eh Ud=>?_;rw[BV];exact hC bk aV Bn bL h7 EE (Eh.trans BV) (by omega)
theorem Jw(h:hh w0 W x y)(eB:x.n<=300000){Z:ByteArray->ai}{X:List PanicEntry->ai}
  (dx:∀w' ew,hh w0 w' ew y->ew.pp=x.pp->ew.A=x.A->ew.n<=x.n+12000->Z (RR x.A) w'):
  κ prog 19 #[.pointer (some ⟨x.pp,0,none⟩)] W (λv w'=>lH v λs=>Z s w') X:=by
 show dK.C (some ⟨x.pp,0,none⟩) W _;apply dK.ok;unfold dK.main dK.aZ dK.bP dK.b7 dK.bd;have an:=h.lit;refine⟨λt0 t3 t4 W=>some ⟨x.pp,0,none⟩=t0/\t3=uY x.A t4.toNat/\0<=t4/\t4<=8/\∃ew,hh w0 W ew y/\ew.pp=x.pp/\ew.A=x.A/\ew.n<=x.n+1400*t4.toNat,λ_ _ t4 _=>(8-t4).toNat,⟨rfl,rfl,by omega,by omega,x,h,rfl,rfl,by omega⟩,?_⟩;clear h;rintro _ _ t4 W ⟨rfl,rfl,g0,g1,ew,h,hp,eY,ar⟩;unfold dK.ε;obtain⟨v,rfl⟩:=eR g0;rw[cP]at ar⊢;have Uq:=Lq an v;refine bA (λhk=>?_) λhk=>?_
 ·have hk:=cd hk;rw[<-hp];refine RS (by omega) (by omega) h.QA (by omega) λbk aV aiV _ h7 EE Eh Ud=>?_;rw[b3 (x:=(v:Int)+1) (by omega) (by omega),hp];have aM:((v:Int)+1).toNat=v+1:=by omega
  refine⟨⟨rfl,?_,by omega,by omega,aV,h7.vN,EE.trans hp,Eh.trans eY,by omega⟩,by((try dsimp only);omega)⟩;rw[aM,eY];rfl
 ·have hk:=dh hk;have ux:v=8:=by omega
  subst ux
  try dsimp only
  try dsimp only[JN]
  exact dx W ew h hp eY (by omega)
end
section
variable{w0 W:World}{x y:One}{ad aX N:Nat}
theorem X3(h:hh w0 W x y)(tJ:sD x y ad aX N)(eB:N<=100000):gH.b7 (some ⟨ad,0,none⟩) (some ⟨aX,0,none⟩) W (φ λv w'=>v=.bool true/\θ w0 w'):=by unfold gH.b7;obtain⟨eY,rfl,rfl,I,ag⟩:=tJ;refine Jw h (by omega) λδ ζ h1 yZ BV qf=>?_;refine Jw h1.symm (by omega) λυ fv η l4 Hj ED=>?_;rw[eY];exact φ.mk ⟨by simp,η.ex⟩
theorem aqQ(A:eC)(a:aK.Ask):(gh A a).2.j8.length<=1000:=by
 have qi:∀{c:Prop}[Decidable c]{r s:eC×gQ},r.2.j8.length<=1000->s.2.j8.length<=1000->(if c then r else s).2.j8.length<=1000:=λ{c}_{r s}σ ψ=>by
  by_cases π:c
  ·rw[aY π];exact σ
  ·rw[aN π];exact ψ
 have cw:∀e,(nw A e).2.j8.length<=1000:=λe=>da _;unfold gh;refine qi ?_ (da _);unfold kc;refine qi (qi ?_ (cw _)) (qi ?_ (qi ?_ (qi ?_ (qi ?_ (qi ?_ (qi (da _) (qi (by show 2<=1000;omega) ?_)))))))
 ·cases CI A.E with
  |none=>exact da _
  |some i=>exact da _
 ·cases ih A.E a.v with
  |none=>exact da _
  |some i=>exact da _
 ·cases ih A.E a.v with
  |none=>exact da _
  |some i=>cases CI A.E with
   |none=>exact da _
   |some i=>exact da _
 ·cases ih A.E a.v with
  |none=>exact da _
  |some e=>
   refine qi (da _) ?_;cases(e.2.2[a.b.toNat]?).join with
   |none=>exact da _
   |some x=>exact da _
 ·cases ih A.E a.v with
  |none=>exact da _
  |some e=>exact qi (da _) (qi (da _) (qi (da _) (qi (da _) (da _))))
 ·cases ih A.E a.v with
  |none=>exact da _
  |some e=>exact qi (da _) (qi (da _) (da _))
 ·cases ih A.E a.v with
  |none=>exact da _
  |some i=>show 2<=1000;omega
end
theorem ajZ(a b:Int)(p:J)(n c:Nat)(rows:List aU)(bU:J)(fk aT:Nat)(ps:ao)(w:World)(aP:0<=a/\a<256)(ω:0<=b/\b<256)(an:Bt w tX 56 (mu w tX A0) p n c rows)(o:Ints .u8 w bU fk aT ps)(eP:aT*1<=140737488351232):
  gH.C a b p n c bU fk aT w (φ λv w'=>v=.bool true/\θ w w'):=by
 obtain⟨ls,σ⟩:=We an;have hw:∀x∈ps,0<=x/\x<256:=λx I=>GK (o.wf x I);apply gH.ok;unfold gH.main;refine κ.use (Pp a b aP ω w) ?_;rintro _ δ ⟨rfl,ζ⟩
 try dsimp only[hz]
 refine κ.use (JE (s:=6+a%9) (k:=2+b%5) NY δ) ?_;rintro _ aa ⟨Lo,zi,e5,rfl,eb⟩
 try dsimp only[bZ,cC,cD,bj,mX,mB,jb]
 refine κ.use (Pp a b aP ω aa) ?_;rintro _ aG ⟨rfl,al⟩
 try dsimp only[hz]
 refine κ.use (JE (s:=6+a%9) (k:=2+b%5) NY aG) ?_;rintro _ bk ⟨xZ,q3,cM,rfl,ee⟩
 try dsimp only[bZ,cC,cD,bj,mX,mB,jb]
 refine κ.use (ah4 bk) ?_;rintro _ ca ⟨rfl,cv⟩
 try dsimp only[dH]
 have t1:=eb.tp;have fj:=al.size;have El:jF e5 cM:=λi h1 η=>by
  have:=(t1.is.fV h1).2
  have:=ee.new i η
  omega
 have X:=(al.trans ee.ex).trans cv;have t1:=t1.to X;have t2:=ee.tp.to cv;have t1:eW w ca zi Lo (wk (6+a%9) (2+b%5)) 0 (xQ (6+a%9) (2+b%5)) 2 e5:=⟨t1.is,t1.ok,t1.aj,λi o=>fo ζ.size (t1.new i o),ζ.trans t1.ex⟩;have t2:eW w ca q3 xZ (wk (6+a%9) (2+b%5)) 0 (xQ (6+a%9) (2+b%5)) 2 cM:=⟨t2.is,t2.ok,t2.aj,λi o=>fo (fo (fo ζ.size eb.ex.size) al.size) (t2.new i o),(ζ.trans (eb.ex.trans al)).trans t2.ex⟩;have aF:hh w ca ⟨zi,Lo,_,_,_,_⟩ ⟨q3,xZ,_,_,_,_⟩:=⟨e5,cM,t1,t2,El⟩;unfold gH.bd;refine⟨λez et eT dW dL ec t10 t12 t13 W=>p=ez/\n=et/\c=eT/\bU=dW/\fk=dL/\aT=ec/\some ⟨zi,0,none⟩=t10/\some ⟨q3,0,none⟩=t12/\0<=t13/\t13<=80/\∃x y,hh w W x y/\sD x y zi q3 (10+10*t13.toNat),λ_ _ _ _ _ _ _ _ t13 _=>(80-t13).toNat,⟨rfl,rfl,rfl,rfl,rfl,rfl,rfl,rfl,by omega,by omega,_,_,aF,⟨rfl,rfl,rfl,by show(2:Nat)<=_;omega,by show(2:Nat)<=_;omega⟩⟩,?_⟩;clear aF t1 t2;rintro _ _ _ _ _ _ _ _ t13 W ⟨rfl,rfl,rfl,rfl,rfl,rfl,rfl,rfl,g0,g1,x,y,h,tJ⟩;obtain⟨j,rfl⟩:=eR g0;rw[cP]at tJ;by_cases χ:(j:Int)<(n:Int)
 rotate_left
 ·unfold gH.ε;rw[cond_neg (by simpa using χ)];exact X3 h tJ (by omega)
 by_cases hk:(j:Int)<80
 rotate_left
 ·unfold gH.ε;rw[cond_pos (by simpa using χ),cond_neg (by simpa using hk)];exact X3 h tJ (by omega)
 have KN:=tJ.QY;have UM:=tJ.Q2;have apA:=tJ.QZ;have hyp:=tJ.Q3;subst apA hyp;refine avW h.QA (by omega) (by omega) σ (i:=j) (by omega) (by omega) λq w' oJ lW iR ay eX cS fX=>?_;have avU:=tJ.kq (dp q);rw[<-tJ.A]at fX;refine ajj eX.vN avU (by omega) cS fX o.cells o.size hw (by omega) (aqQ _ _) λυ τ fv η avV=>?_;have aM:((j:Int)+1).toNat=j+1:=by omega
 rw[b3 (x:=(j:Int)+1) (by omega) (by omega)];refine⟨⟨rfl,rfl,rfl,rfl,rfl,rfl,rfl,rfl,by omega,by omega,τ,fv,η,?_⟩,by((try dsimp only);omega)⟩;rw[aM];exact avV.more (by omega)
end Go.Proofs.YtcpdfhkhaekekaaGreat.G.cV

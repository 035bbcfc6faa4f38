/- The walk of the functions, and the plain laws of the model: part of the proof. Conditions: none. -/
import Derived.Test.YtcpdfhkhaekekaaGreatA3
set_option linter.unusedVariables false
set_option linter.unusedSimpArgs false
namespace Go.Proofs.YtcpdfhkhaekekaaGreat.G
open Tryz
open Go.bI
set_option maxRecDepth 100000
def yJ.main(a0:J)(w:World)(R:ak):Prop:=
 aR w #[(0:Int),(0:Int),(0:Int),(0:Int),.slice none 0 0] 40 λε δ=>
 cond (Option.isNone a0) (
  bM δ ⟨ε,0,none⟩ [(.int .i64 0),(.int .i64 0),(.int .i64 0),(.int .i64 0),(.slice none 0 0)] λυ=>
  (∃(aQ:ah),aQ.size=5/\aw υ ⟨ε,0,none⟩ aQ.toList/\
   (R (.returned (.tuple #[(0:Int),.agg aQ,(1:Int)])) υ))) (
  ξ a0 λd1=>
  ∃ad aD c1,δ.cell? d1=some (.slice ad aD c1)/\
  (cond (((aD:Nat):Int)==0) (
    bM δ ⟨ε,0,none⟩ [(.int .i64 0),(.int .i64 0),(.int .i64 0),(.int .i64 0),(.slice none 0 0)] λaa=>
    (∃(bK:ah),bK.size=5/\aw aa ⟨ε,0,none⟩ bK.toList/\
     (R (.returned (.tuple #[(0:Int),.agg bK,(4:Int)])) aa))) (
    ξ a0 λd2=>
    ∃aX br c2,δ.cell? d2=some (.slice aX br c2)/\
    (ο (decide (0<((br:Nat):Int))) (
      ξ aX λd3=>
      ∃(v1:Value),δ.cell? d3=some v1/\
      ((match v1 with| .iface mQ v2=>ο (decide (mQ=126)) (
         dZ v2 λb2=>
         aR δ #[(0:Int),(0:Int),(0:Int),(0:Int),.slice none 0 0,(0:Int)] 126 λι ax=>
         ο (decide (b2.size=6)) (
           bM ax ⟨ι,0,none⟩ b2.toList λaG=>
           (∃ζ,aG.drew.cell? ⟨ι,5,none⟩=some (.int .i64 ζ)/\
             (∃(bY:ah),bY.size=5/\aw aG.drew ⟨ι,0,none⟩ bY.toList/\
               (κ prog 61 #[.agg bY] aG.drew (λv3 ba=>
                 dZ v3 λcN=>
                 ba.cell? ⟨ι,5,none⟩=some (.int .i64 ζ)/\
                 (ο (decide (cN.size=5)) (
                 bM ba ⟨ε,0,none⟩ cN.toList λb9=>
                 (∃(dU:ah),dU.size=5/\aw b9 ⟨ε,0,none⟩ dU.toList/\
                 (R (.returned (.tuple #[ζ,.agg dU,(0:Int)])) b9))))) (aB R))))))|_=>False)))))))
abbrev yJ.C(a0:J):=Calls prog 44 #[.pointer a0]
theorem yJ.ok:ic yJ.main yJ.C:=λh=>dt func44 [.tmp 2,.cell 3 40,.tmp 4] 37 h
def FB.main(dN cW fO:Nat)(w:World)(R:ak):Prop:=
 ∃ad,w.cell? ⟨dN,0,none⟩=some (.pointer ad)/\
 (∃(aQ:ah),aQ.size=5/\aw w ⟨cW,0,none⟩ aQ.toList/\
  (κ prog 46 #[.pointer ad,.agg aQ,.pointer (some ⟨fO,0,none⟩)] w (λv1 δ=>
   b6 v1 λbT=>
   R (.returned (.tuple #[])) δ) (aB R)))
abbrev FB.C(dN cW fO:Nat):=Calls prog 45 #[.pointer (some ⟨dN,0,none⟩),.pointer (some ⟨cW,0,none⟩),.pointer (some ⟨fO,0,none⟩)]
theorem FB.ok:iL FB.main FB.C:=λh=>dt func45 [] 6 h
def uX.aZ(t2:J)(t11:Nat)(t12:Int)(w:World)(R:ak):Prop:=
 κ prog 52 #[t12] w (λv33 oy=>
  b6 v33 λayr=>
  ∃w5,oy.cell? ⟨t11,0,none⟩=some (.int .i64 w5)/\
  (∃rn,oy.cell? ⟨t11,1,none⟩=some (.int .i64 rn)/\
   (aR oy #[w5,rn] 3 λdC vn=>
    ξ t2 λd13=>
    ef vn (d13.add 4) (.slice (some ⟨dC,0,none⟩) 2 2) λpr=>
    (R (.returned (.tuple #[])) pr)))) (aB R)
def uX.main(a0:J)(e0 e1 j3 j4:Int)(kS:J)(kR kQ:Nat)(a2:J)(w:World)(R:ak):Prop:=
 aR w #[e0,e1,j3,j4,.slice kS kR kQ] 40 λε δ=>
 ∃ζ,δ.cell? ⟨ε,0,none⟩=some (.int .i64 ζ)/\
 (cond (ζ==1) (
  ξ a0 λd1=>
  ∃ad,δ.drew.cell? (d1.add 4)=some (.pointer ad)/\
  (∃τ,δ.drew.cell? ⟨ε,3,none⟩=some (.int .i64 τ)/\
   (κ prog 74 #[.pointer ad,τ] δ.drew (λv1 υ=>
     b6 v1 λbT=>
     ξ (bT[0]?) λv2=>
     bq .i64 v2 λab=>
     ξ (bT[1]?) λv3=>
     bq .i64 v3 λaA=>
     ξ a2 λd2=>
     ef υ (d2.add 2) (.int .i64 ab) λax=>
     (κ prog 52 #[aA] ax (λv4 aG=>
       b6 v4 λeV=>
       ξ a2 λd3=>
       ∃al,aG.drew.cell? (d3.add 2)=some (.int .i64 al)/\
       (∃aJ,aG.drew.cell? ⟨ε,3,none⟩=some (.int .i64 aJ)/\
        (κ prog 75 #[.pointer a0,.agg #[(1:Int),al,(0:Int),aJ,.complex .f64 0 0]] aG.drew (λv5 bk=>
          b6 v5 λhQ=>
          R (.returned (.tuple #[])) bk) (aB R)))) (aB R))) (aB R)))) (
  cond (ζ==2) (
   ξ a0 λd4=>
   ∃aX,δ.drew.cell? (d4.add 4)=some (.pointer aX)/\
   (∃aV,δ.drew.cell? ⟨ε,1,none⟩=some (.int .i64 aV)/\
    (κ prog 76 #[.pointer aX,aV] δ.drew (λv6 ca=>
      bq .i64 v6 λct=>
      κ prog 52 #[ct] ca (λfS cH=>
       b6 fS λlU=>
       ∃cv,cH.cell? ⟨ε,1,none⟩=some (.int .i64 cv)/\
       (κ prog 75 #[.pointer a0,.agg #[(2:Int),cv,(0:Int),(0:Int),.complex .f64 0 0]] cH (λbg de=>
         b6 bg λvk=>
         R (.returned (.tuple #[])) de) (aB R))) (aB R)) (aB R)))) (
   cond (ζ==3) (
    ξ a0 λd5=>
    ∃bl,δ.drew.cell? (d5.add 4)=some (.pointer bl)/\
    (∃e7,δ.drew.cell? ⟨ε,1,none⟩=some (.int .i64 e7)/\
     (κ prog 77 #[.pointer bl,e7] δ.drew (λv9 ep=>
       b6 v9 λBd=>
       ξ (Bd[0]?) λv10=>
       bq .i64 v10 λfu=>
       ξ (Bd[1]?) λv11=>
       bq .i64 v11 λdG=>
       ξ a2 λd6=>
       ef ep (d6.add 2) (.int .i64 fu) λgP=>
       (κ prog 52 #[dG] gP (λv12 gj=>
         b6 v12 λQN=>
         ∃gV,gj.drew.cell? ⟨ε,1,none⟩=some (.int .i64 gV)/\
         (ξ a2 λd7=>
          ∃js,gj.drew.cell? (d7.add 2)=some (.int .i64 js)/\
          (κ prog 75 #[.pointer a0,.agg #[(3:Int),gV,js,(0:Int),.complex .f64 0 0]] gj.drew (λpq eK=>
            b6 pq λQO=>
            R (.returned (.tuple #[])) eK) (aB R)))) (aB R))) (aB R)))) (
    cond (ζ==4) (
     ∃(aQ:ah),aQ.size=5/\aw δ ⟨ε,0,none⟩ aQ.toList/\
     (κ prog 78 #[.pointer a0,.agg aQ] δ (λsn fb=>
       df sn λej aD c1=>
       ξ a2 λd8=>
       ef fb (d8.add 3) (.slice ej aD c1) λfT=>
       (R (.returned (.tuple #[])) fT)) (aB R))) (
     cond (ζ==5) (
      ∃(bK:ah),bK.size=5/\aw δ ⟨ε,0,none⟩ bK.toList/\
      (κ prog 79 #[.pointer a0,.agg bK] δ (λso qF=>
        b6 so λahJ=>
        R (.returned (.tuple #[])) qF) (aB R))) (
      cond (ζ==6) (
       ξ a0 λd9=>
       ∃fD,δ.drew.cell? (d9.add 4)=some (.pointer fD)/\
       (∃mn,δ.drew.cell? ⟨ε,1,none⟩=some (.int .i64 mn)/\
        (∃jR,δ.drew.cell? ⟨ε,2,none⟩=some (.int .i64 jR)/\
         (κ prog 80 #[.pointer fD,mn,jR,.complex .f64 0 0,.bool false] δ.drew (λsq iX=>
           bq .i64 sq λrm=>
           κ prog 52 #[rm] iX (λv17 kx=>
            b6 v17 λQL=>
            ∃w4,kx.cell? ⟨ε,1,none⟩=some (.int .i64 w4)/\
            (∃oz,kx.cell? ⟨ε,2,none⟩=some (.int .i64 oz)/\
            (κ prog 75 #[.pointer a0,.agg #[(5:Int),w4,(0:Int),oz,.complex .f64 0 0]] kx (λvh CT=>
            b6 vh λahF=>
            R (.returned (.tuple #[])) CT) (aB R)))) (aB R)) (aB R))))) (
       cond (ζ==7) (
        κ prog 81 #[.pointer a0] δ (λvi kN=>
         b6 vi λQM=>
         R (.returned (.tuple #[])) kN) (aB R)) (
        cond (ζ==8) (
         κ prog 48 #[.pointer a0] δ (λv20 tQ=>
          dZ v20 λb2=>
          κ prog 82 #[.agg b2] tQ (λv21 nM=>
           b6 v21 λW8=>
           ξ (W8[0]?) λv22=>
           bq .i64 v22 λoA=>
           ξ (W8[1]?) λv23=>
           bq .i64 v23 λBg=>
           ξ a0 λd10=>
           ∃(bY:ah),bY.size=2/\aw nM (d10.add 2) bY.toList/\
           (κ prog 83 #[.agg bY] nM (λv24 vm=>
            b6 v24 λahG=>
            ξ (ahG[0]?) λv25=>
            bq .i64 v25 λnN=>
            ξ (ahG[1]?) λv26=>
            bq .i64 v26 λCY=>
            aR vm #[oA,nN] 3 λι w1=>
            ξ a2 λd11=>
            ef w1 (d11.add 4) (.slice (some ⟨ι,0,none⟩) 2 2) λXd=>
            (R (.returned (.tuple #[])) Xd)) (aB R))) (aB R)) (aB R)) (
         cond (ζ==9) (
          ξ a0 λd12=>
          ∃iB,δ.drew.cell? (d12.add 4)=some (.pointer iB)/\
          (∃nO,δ.drew.cell? ⟨ε,1,none⟩=some (.int .i64 nO)/\
           ((κ prog 84 #[.pointer iB,nO] δ.drew (λMt Xe=>
            b6 Mt λahH=>
            ξ (ahH[0]?) λv28=>
            dZ v28 λcN=>
            ξ (ahH[1]?) λMu=>
            bq .i64 Mu λQW=>
            aR Xe #[(0:Int),(0:Int)] 84 λaH I5=>
            ο (decide (cN.size=2)) (
            bM I5 ⟨aH,0,none⟩ cN.toList λMB=>
            (uX.aZ a2 aH QW MB R))) (aB R))/\
            (aR δ.drew #[(0:Int),(0:Int)] 84 λaf Xf=>
            Xf.cell? ⟨ε,1,none⟩=some (.int .i64 nO)/\
            (Xf.cell? (d12.add 4)=some (.pointer iB)/\
            (κ prog 84 #[.pointer iB,nO] Xf (λv30 Xg=>
            b6 v30 λahI=>
            ξ (ahI[0]?) λv31=>
            dZ v31 λdU=>
            ξ (ahI[1]?) λv32=>
            bq .i64 v32 λtU=>
            ο (decide (dU.size=2)) (
            bM Xg ⟨af,0,none⟩ dU.toList λpV=>
            (uX.aZ a2 af tU pV R))) (aB R))))))) (
          R (.returned (.tuple #[])) δ))))))))))
abbrev uX.C(a0:J)(e0 e1 j3 j4:Int)(kS:J)(kR kQ:Nat)(a2:J):=Calls prog 46 #[.pointer a0,.agg #[e0,e1,j3,j4,.slice kS kR kQ],.pointer a2]
theorem uX.ok:ajh uX.main uX.C:=λ{_ _ _ _ _ _ _ _ _ _ R}h=>fg func46 [] 162 (.seq .leaf (.seq .leaf (.seq .leaf (.block (.seq .leaf (.cond .leaf (.seq .leaf (.cond .leaf (.seq .leaf (.cond .leaf (.seq .leaf (.cond .leaf (.seq .leaf (.cond .leaf (.seq .leaf (.cond .leaf (.seq .leaf (.cond .leaf (.seq .leaf (.cond .leaf (.seq .leaf (.cond (.cut [(2,.ptr),(11,.c5),(12,.int .i64)] (uX.aZ · · · · R) .leaf .leaf) .leaf)))))))))))))))))))))) h
def Fv.main(a0:J)(w:World)(R:ak):Prop:=
 aR w #[(0:Int),(0:Int),(0:Int),(0:Int),(0:Int),(0:Int),(0:Int),(0:Int),(0:Int),(0:Int),(0:Int),(0:Int),(0:Int),(0:Int),(0:Int),(0:Int),.slice none 0 0,.slice none 0 0,.slice none 0 0,.slice none 0 0,.slice none 0 0,.slice none 0 0,.slice none 0 0,.slice none 0 0] 89 λε δ=>
 cond (Option.isNone a0) (
  bM δ ⟨ε,0,none⟩ [(.int .i64 0),(.int .i64 0),(.int .i64 0),(.int .i64 0),(.int .i64 0),(.int .i64 0),(.int .i64 0),(.int .i64 0),(.int .i64 0),(.int .i64 0),(.int .i64 0),(.int .i64 0),(.int .i64 0),(.int .i64 0),(.int .i64 0),(.int .i64 0),(.slice none 0 0),(.slice none 0 0),(.slice none 0 0),(.slice none 0 0),(.slice none 0 0),(.slice none 0 0),(.slice none 0 0),(.slice none 0 0)] λυ=>
  (∃(aQ:ah),aQ.size=24/\aw υ ⟨ε,0,none⟩ aQ.toList/\
   (R (.returned (.agg aQ)) υ))) (
  ξ a0 λd1=>
  ∃ad,δ.cell? (d1.add 4)=some (.pointer ad)/\
  (κ prog 86 #[.pointer ad] δ (λv1 aa=>
    dZ v1 λbK=>
    κ prog 85 #[.agg bK] aa (λv2 aG=>
     dZ v2 λb2=>
     ο (decide (b2.size=24)) (
      bM aG ⟨ε,0,none⟩ b2.toList λbk=>
      (∃(bY:ah),bY.size=24/\aw bk ⟨ε,0,none⟩ bY.toList/\
       (R (.returned (.agg bY)) bk)))) (aB R)) (aB R)))
abbrev Fv.C(a0:J):=Calls prog 48 #[.pointer a0]
theorem Fv.ok:ic Fv.main Fv.C:=λh=>dt func48 [.cell 2 89] 12 h
def sL.ε(nJ:J)(nk pj:Nat)(zu:J)(zt CM:Nat)(t29 t30:Int)(w:World)(R:ak)(aS:J->Nat->Nat->J->Nat->Nat->Int->Int->ai):Prop:=
 cond (decide (t30<t29)) (
  ο (decide (0<=t30)) (
   ο (decide (t30<((zt:Nat):Int))) (
    ξ zu λd1=>
    ∃cS m1,w.cell? (d1.add (t30.toNat*1))=some (.complex .f64 cS m1)/\
    (ξ ((FloatKind.f64.decode cS).toInt .zero) λaA=>
     ο (decide (IntKind.i64.min<=aA)) (
      ο (decide (aA<=IntKind.i64.max)) (
       ο (decide (0<=aA)) (
        ο (decide (aA<((nk:Nat):Int))) (
         ξ nJ λd2=>
         ∃al,w.cell? (d2.add (aA.toNat*1))=some (.int .i64 al)/\
         (ο (decide (0<=aA)) (
          ο (decide (aA<((nk:Nat):Int))) (
           ξ nJ λd3=>
           ef w (d3.add (aA.toNat*1)) (.int .i64 (IntKind.i64.wrap (al+1))) λb9=>
           (aS nJ nk pj zu zt CM t29 (IntKind.i64.wrap (t30+1)) b9)))))))))))) (
  R (.returned (.tuple #[.slice nJ nk pj,(0:Int)])) w)
def sL.bd:=K0 sL.ε
def sL.main(a0:ah)(e0 e1:Int)(w:World)(R:ak):Prop:=
 aR w a0 89 λε δ=>
 aR δ #[e0,e1] 28 λι υ=>
 ∃(aQ:ah),aQ.size=24/\aw υ ⟨ε,0,none⟩ aQ.toList/\
 (∃(bK:ah),bK.size=2/\aw υ ⟨ι,0,none⟩ bK.toList/\
  (κ prog 87 #[.agg aQ,.agg bK] υ (λv1 aa=>
   bq .i64 v1 λζ=>
   cond (ζ !=0) (
    R (.returned (.tuple #[.slice none 0 0,ζ])) aa) (
    ∃τ,aa.cell? ⟨ι,0,none⟩=some (.int .i64 τ)/\
    (ο (decide (0<=τ)) (
     ο (decide (τ<=τ)) (
      ο (decide ((8:Int)*τ<=281474976710656/\τ<=9223372036854775807)) (
       aR aa (madeCells #[(0:Int)] (τ.toNat*1)) 3 λaH aG=>
       ∃(b2:ah),b2.size=24/\aw aG ⟨ε,0,none⟩ b2.toList/\
       (κ prog 88 #[.agg b2] aG (λv2 ba=>
        b6 v2 λbT=>
        ξ (bT[0]?) λv3=>
        df v3 λad aD c1=>
        ξ (bT[1]?) λv4=>
        df v4 λaX br c2=>
        ξ (bT[2]?) λv5=>
        bq .i64 v5 λab=>
        sL.bd (some ⟨aH,0,none⟩) τ.toNat τ.toNat ad aD c1 ((aD:Nat):Int) 0 ba R) (aB R)))))))) (aB R)))
abbrev sL.C(a0:ah)(e0 e1:Int):=Calls prog 49 #[.agg a0,.agg #[e0,e1]]
theorem sL.ok:iL sL.main sL.C:=λ{_ _ _ _ R}h=>fg func49 [.tmp 4,.tmp 5] 44 (.seq .leaf (.seq .leaf (.seq .leaf (.seq .leaf (.seq (.seq .leaf (.block (.loop [(7,.slice),(28,.slice),(29,.int .i64),(30,.int .i64)] (sL.bd · · · · · · · · · R) λaS=>.leaf))) .leaf))))) h
def Gk.main(a0:J)(w:World)(R:ak):Prop:=
 cond (Option.isNone a0) (
  R (.returned (.tuple #[.slice none 0 0,(-1:Int)])) w) (
  ξ a0 λd1=>
  ∃ad aD c1,w.drew.cell? (d1.add 2)=some (.slice ad aD c1)/\
  (ξ a0 λd2=>
   ∃ζ,w.drew.cell? (d2.add 3)=some (.int .i64 ζ)/\
   (κ prog 89 #[.slice ad aD c1] w.drew (λv1 δ=>
    df v1 λaX br c2=>
    δ.cell? (d2.add 3)=some (.int .i64 ζ)/\
    (R (.returned (.tuple #[.slice aX br c2,ζ])) δ)) (aB R))))
abbrev Gk.C(a0:J):=Calls prog 50 #[.pointer a0]
theorem Gk.ok:ic Gk.main Gk.C:=λh=>dt func50 [.tmp 2,.tmp 3] 15 h
def jh.bP(ez:J)(et eT:Nat)(dW:J)(dL ec t4:Nat)(fh:J)(fa fq:Nat)(gi:J)(fQ gx:Nat)(hX:J)(fB ir:Nat)(t13 t15 t16:Int)(kL:J)(kK lQ:Nat)(t34 t35:Int)(t72:Bool)(w:World)(R:ak)(aS:J->Nat->Nat->J->Nat->Nat->Nat->J->Nat->Nat->J->Nat->Nat->J->Nat->Nat->J->Nat->Nat->Int->Int->ai):Prop:=
 cond t72 (
  aR w #[t15] 3 λaH ba=>
  gD ba fh fa fq 1 (a8 ba (some ⟨aH,0,none⟩)) 3 1 8 #[(0:Int)] λad c1 bk=>
  aR bk #[t16] 3 λaf b9=>
  gD b9 gi fQ gx 1 (a8 b9 (some ⟨af,0,none⟩)) 3 1 8 #[(0:Int)] λaX c2 ca=>
  aR ca #[t13] 3 λdC dk=>
  gD dk hX fB ir 1 (a8 dk (some ⟨dC,0,none⟩)) 3 1 8 #[(0:Int)] λbl bJ cH=>
  aS ez et eT dW dL ec t4 ad (fa+1) c1 aX (fQ+1) c2 bl (fB+1) bJ kL kK lQ t34 (IntKind.i64.wrap (t35+1)) cH) (
  aS ez et eT dW dL ec t4 fh fa fq gi fQ gx hX fB ir kL kK lQ t34 (IntKind.i64.wrap (t35+1)) w)
def jh.aZ(ez:J)(et eT:Nat)(dW:J)(dL ec t4:Nat)(fh:J)(fa fq:Nat)(gi:J)(fQ gx:Nat)(hX:J)(fB ir:Nat)(t13 t14 t15 t16:Int)(kL:J)(kK lQ:Nat)(t34 t35:Int)(w:World)(R:ak)(aS:J->Nat->Nat->J->Nat->Nat->Nat->J->Nat->Nat->J->Nat->Nat->J->Nat->Nat->J->Nat->Nat->Int->Int->ai):Prop:=
 cond (decide (t14>0)) (
  ∃cv,w.cell? ⟨t4,1,none⟩=some (.int .i64 cv)/\
  (jh.bP ez et eT dW dL ec t4 fh fa fq gi fQ gx hX fB ir t13 t15 t16 kL kK lQ t34 t35 (decide (t14<cv)) w R aS)) (
  jh.bP ez et eT dW dL ec t4 fh fa fq gi fQ gx hX fB ir t13 t15 t16 kL kK lQ t34 t35 false w R aS)
def jh.ι(ez:J)(et eT:Nat)(dW:J)(dL ec t4:Nat)(fh:J)(fa fq:Nat)(gi:J)(fQ gx:Nat)(hX:J)(fB ir:Nat)(t13 t14 t15 t16:Int)(kL:J)(kK lQ:Nat)(t34 t35:Int)(zC:J)(zB A9:Nat)(t56 t57:Int)(w:World)(R:ak)(aS:J->Nat->Nat->J->Nat->Nat->Nat->J->Nat->Nat->J->Nat->Nat->J->Nat->Nat->J->Nat->Nat->Int->Int->ai)(fG:J->Nat->Nat->J->Nat->Nat->Nat->J->Nat->Nat->J->Nat->Nat->J->Nat->Nat->Int->Int->Int->Int->J->Nat->Nat->Int->Int->J->Nat->Nat->Int->Int->ai):Prop:=
 cond (decide (t57<t56)) (
  ο (decide (0<=t57)) (
   ο (decide (t57<((zB:Nat):Int))) (
    ξ zC λd3=>
    ∃ct,w.cell? (d3.add (t57.toNat*1))=some (.int .i64 ct)/\
    (cond (ct==t13) (
     aS ez et eT dW dL ec t4 fh fa fq gi fQ gx hX fB ir kL kK lQ t34 (IntKind.i64.wrap (t35+1)) w) (
     fG ez et eT dW dL ec t4 fh fa fq gi fQ gx hX fB ir t13 t14 t15 t16 kL kK lQ t34 t35 zC zB A9 t56 (IntKind.i64.wrap (t57+1)) w))))) (
  jh.aZ ez et eT dW dL ec t4 fh fa fq gi fQ gx hX fB ir t13 t14 t15 t16 kL kK lQ t34 t35 w R aS)
def jh.fm(ez:J)(et eT:Nat)(dW:J)(dL ec t4:Nat)(fh:J)(fa fq:Nat)(gi:J)(fQ gx:Nat)(hX:J)(fB ir:Nat)(t13 t14 t15 t16:Int)(kL:J)(kK lQ:Nat)(t34 t35:Int)(zC:J)(zB A9:Nat)(t56 t57:Int)(w:World)(R:ak)(aS:J->Nat->Nat->J->Nat->Nat->Nat->J->Nat->Nat->J->Nat->Nat->J->Nat->Nat->J->Nat->Nat->Int->Int->ai):Prop:=
 ∃(bw:J->Nat->Nat->J->Nat->Nat->Nat->J->Nat->Nat->J->Nat->Nat->J->Nat->Nat->Int->Int->Int->Int->J->Nat->Nat->Int->Int->J->Nat->Nat->Int->Int->ai)(m:J->Nat->Nat->J->Nat->Nat->Nat->J->Nat->Nat->J->Nat->Nat->J->Nat->Nat->Int->Int->Int->Int->J->Nat->Nat->Int->Int->J->Nat->Nat->Int->Int->World->Nat),bw ez et eT dW dL ec t4 fh fa fq gi fQ gx hX fB ir t13 t14 t15 t16 kL kK lQ t34 t35 zC zB A9 t56 t57 w/\
 ∀(ez:J)(et:Nat)(eT:Nat)(dW:J)(dL:Nat)(ec:Nat)(t4:Nat)(fh:J)(fa:Nat)(fq:Nat)(gi:J)(fQ:Nat)(gx:Nat)(hX:J)(fB:Nat)(ir:Nat)(t13:Int)(t14:Int)(t15:Int)(t16:Int)(kL:J)(kK:Nat)(lQ:Nat)(t34:Int)(t35:Int)(zC:J)(zB:Nat)(A9:Nat)(t56:Int)(t57:Int)(w:World),bw ez et eT dW dL ec t4 fh fa fq gi fQ gx hX fB ir t13 t14 t15 t16 kL kK lQ t34 t35 zC zB A9 t56 t57 w->
 jh.ι ez et eT dW dL ec t4 fh fa fq gi fQ gx hX fB ir t13 t14 t15 t16 kL kK lQ t34 t35 zC zB A9 t56 t57 w R aS λzw zv wK zy zx wL ya Gr Gq Gp A6 A5 A4 Gt zr Gs L5 sk L6 wJ Gw Gv A7 Gx vd afa ae9 ae8 afb afc w'=>bw zw zv wK zy zx wL ya Gr Gq Gp A6 A5 A4 Gt zr Gs L5 sk L6 wJ Gw Gv A7 Gx vd afa ae9 ae8 afb afc w'/\m zw zv wK zy zx wL ya Gr Gq Gp A6 A5 A4 Gt zr Gs L5 sk L6 wJ Gw Gv A7 Gx vd afa ae9 ae8 afb afc w'<m ez et eT dW dL ec t4 fh fa fq gi fQ gx hX fB ir t13 t14 t15 t16 kL kK lQ t34 t35 zC zB A9 t56 t57 w
def jh.b7(fh:J)(fa fq:Nat)(gi:J)(fQ gx:Nat)(hX:J)(fB ir:Nat)(w:World)(R:ak):Prop:=
 cond (((fB:Nat):Int)==0) (
  R (.returned (.tuple #[(0:Int),(4:Int)])) w) (
  κ prog 92 #[.slice fh fa fq,.slice gi fQ gx] w (λv6 cn=>
   b6 v6 λeV=>
   ξ (eV[0]?) λfS=>
   bq .i64 fS λe7=>
   ξ (eV[1]?) λbg=>
   bq .i64 bg λfu=>
   ο (decide (0<=e7)) (
    ο (decide (e7<((fB:Nat):Int))) (
     ξ hX λd4=>
     ∃dG,cn.cell? (d4.add (e7.toNat*1))=some (.int .i64 dG)/\
     (R (.returned (.tuple #[dG,fu])) cn)))) (aB R))
def jh.ε(ez:J)(et eT:Nat)(dW:J)(dL ec t4:Nat)(fh:J)(fa fq:Nat)(gi:J)(fQ gx:Nat)(hX:J)(fB ir:Nat)(kL:J)(kK lQ:Nat)(t34 t35:Int)(w:World)(R:ak)(aS:J->Nat->Nat->J->Nat->Nat->Nat->J->Nat->Nat->J->Nat->Nat->J->Nat->Nat->J->Nat->Nat->Int->Int->ai):Prop:=
 cond (decide (t35<t34)) (
  ο (decide (0<=t35)) (
   ο (decide (t35<((kK:Nat):Int))) (
    ξ kL λd1=>
    ∃τ,w.cell? (d1.add (t35.toNat*1))=some (.int .i64 τ)/\
    (∃ab,w.drew.cell? ⟨t4,1,none⟩=some (.int .i64 ab)/\
     (ο (decide (0<=t35)) (
      ο (decide (t35<((et:Nat):Int))) (
       ξ ez λd2=>
       ∃aA,w.drew.cell? (d2.add (t35.toNat*1))=some (.int .i64 aA)/\
       (κ prog 91 #[τ,ab,aA] w.drew (λv2 ax=>
        b6 v2 λbT=>
        ξ (bT[0]?) λv3=>
        bq .i64 v3 λal=>
        ξ (bT[1]?) λv4=>
        bq .i64 v4 λaJ=>
        ξ (bT[2]?) λv5=>
        bq .i64 v5 λaV=>
        cond (aV !=0) (
         R (.returned (.tuple #[(0:Int),aV])) ax) (
         jh.fm ez et eT dW dL ec t4 fh fa fq gi fQ gx hX fB ir t35 τ al aJ kL kK lQ t34 t35 dW dL ec ((dL:Nat):Int) 0 ax R aS)) (aB R))))))))) (
  jh.b7 fh fa fq gi fQ gx hX fB ir w R)
def jh.bd(ez:J)(et eT:Nat)(dW:J)(dL ec t4:Nat)(fh:J)(fa fq:Nat)(gi:J)(fQ gx:Nat)(hX:J)(fB ir:Nat)(kL:J)(kK lQ:Nat)(t34 t35:Int)(w:World)(R:ak):Prop:=
 ∃(bw:J->Nat->Nat->J->Nat->Nat->Nat->J->Nat->Nat->J->Nat->Nat->J->Nat->Nat->J->Nat->Nat->Int->Int->ai)(m:J->Nat->Nat->J->Nat->Nat->Nat->J->Nat->Nat->J->Nat->Nat->J->Nat->Nat->J->Nat->Nat->Int->Int->World->Nat),bw ez et eT dW dL ec t4 fh fa fq gi fQ gx hX fB ir kL kK lQ t34 t35 w/\
 ∀(ez:J)(et:Nat)(eT:Nat)(dW:J)(dL:Nat)(ec:Nat)(t4:Nat)(fh:J)(fa:Nat)(fq:Nat)(gi:J)(fQ:Nat)(gx:Nat)(hX:J)(fB:Nat)(ir:Nat)(kL:J)(kK:Nat)(lQ:Nat)(t34:Int)(t35:Int)(w:World),bw ez et eT dW dL ec t4 fh fa fq gi fQ gx hX fB ir kL kK lQ t34 t35 w->
 jh.ε ez et eT dW dL ec t4 fh fa fq gi fQ gx hX fB ir kL kK lQ t34 t35 w R λzw zv wK zy zx wL ya Gr Gq Gp A6 A5 A4 Gt zr Gs Gw Gv A7 Gx vd w'=>bw zw zv wK zy zx wL ya Gr Gq Gp A6 A5 A4 Gt zr Gs Gw Gv A7 Gx vd w'/\m zw zv wK zy zx wL ya Gr Gq Gp A6 A5 A4 Gt zr Gs Gw Gv A7 Gx vd w'<m ez et eT dW dL ec t4 fh fa fq gi fQ gx hX fB ir kL kK lQ t34 t35 w
def jh.main(fl gn:Int)(gv:J)(fc gz:Nat)(jg:J)(eD j5:Nat)(vG:J)(tY vF:Nat)(w:World)(R:ak):Prop:=
 aR w #[fl,gn] 28 λε δ=>
 ∃(aQ:ah),aQ.size=2/\aw δ ⟨ε,0,none⟩ aQ.toList/\
 (κ prog 90 #[.agg aQ,.slice gv fc gz] δ (λv1 υ=>
  dD v1 λι=>
  cond (!ι) (
   R (.returned (.tuple #[(0:Int),(1:Int)])) υ) (
   ∃ζ,υ.cell? ⟨ε,0,none⟩=some (.int .i64 ζ)/\
   (cond (((eD:Nat):Int)!=ζ) (
    R (.returned (.tuple #[(0:Int),(1:Int)])) υ) (
    jh.bd jg eD j5 vG tY vF ε none 0 0 none 0 0 none 0 0 gv fc gz ((fc:Nat):Int) 0 υ R)))) (aB R))
abbrev jh.C(fl gn:Int)(gv:J)(fc gz:Nat)(jg:J)(eD j5:Nat)(vG:J)(tY vF:Nat):=Calls prog 51 #[.agg #[fl,gn],.slice gv fc gz,.slice jg eD j5,.slice vG tY vF]
theorem jh.ok:ajg jh.main jh.C:=λ{_ _ _ _ _ _ _ _ _ _ _ _ R}h=>fg func51 [.tmp 8,.tmp 9] 100 (.seq .leaf (.block (.seq .leaf (.seq .leaf (.seq .leaf (.cut [(10,.slice),(11,.slice),(12,.slice)] (jh.b7 · · · · · · · · · · R) (.seq .leaf (.block (.loop [(2,.slice),(3,.slice),(4,.c5),(10,.slice),(11,.slice),(12,.slice),(33,.slice),(34,.int .i64),(35,.int .i64)] (jh.bd · · · · · · · · · · · · · · · · · · · · · · R) λaS=>(.seq .leaf (.seq .leaf (.seq (.block (.seq .leaf (.seq .leaf (.seq .leaf (.cut [(2,.slice),(3,.slice),(4,.c5),(10,.slice),(11,.slice),(12,.slice),(13,.int .i64),(14,.int .i64),(15,.int .i64),(16,.int .i64),(33,.slice),(34,.int .i64),(35,.int .i64)] (jh.aZ · · · · · · · · · · · · · · · · · · · · · · · · · · R aS) (.seq .leaf (.block (.loop [(2,.slice),(3,.slice),(4,.c5),(10,.slice),(11,.slice),(12,.slice),(13,.int .i64),(14,.int .i64),(15,.int .i64),(16,.int .i64),(33,.slice),(34,.int .i64),(35,.int .i64),(55,.slice),(56,.int .i64),(57,.int .i64)] (jh.fm · · · · · · · · · · · · · · · · · · · · · · · · · · · · · · · R aS) λfG=>.leaf))) (.cut [(2,.slice),(3,.slice),(4,.c5),(10,.slice),(11,.slice),(12,.slice),(13,.int .i64),(15,.int .i64),(16,.int .i64),(33,.slice),(34,.int .i64),(35,.int .i64),(72,.bool)] (jh.bP · · · · · · · · · · · · · · · · · · · · · · · · · · R aS) .leaf .leaf)))))) .leaf)))))) .leaf)))))) h
def AR.main(a0:Int)(w:World)(R:ak):Prop:=
 cond (a0 !=0) (
  R (.panicked [{v:=(.iface 104 (.agg #[a0])),recovered:=false}]) w) (
  R (.returned (.tuple #[])) w)
abbrev AR.C(a0:Int):=Calls prog 52 #[a0]
theorem AR.ok:ic AR.main AR.C:=λh=>dt func52 [] 7 h
def DJ.main(a0:ah)(e0 e1 a2:Int)(w:World)(R:ak):Prop:=
 aR w a0 89 λε δ=>
 aR δ #[e0,e1] 28 λι υ=>
 aR υ #[a2] 3 λaH aa=>
 ∃(aQ:ah),aQ.size=24/\aw aa ⟨ε,0,none⟩ aQ.toList/\
 (∃(bK:ah),bK.size=2/\aw aa ⟨ι,0,none⟩ bK.toList/\
  (κ prog 87 #[.agg aQ,.agg bK] aa (λv1 ax=>
   bq .i64 v1 λζ=>
   cond (ζ !=0) (
    R (.returned (.tuple #[.slice none 0 0,ζ])) ax) (
    ∃τ,ax.cell? ⟨aH,0,none⟩=some (.int .i64 τ)/\
    (cond (decide (τ<0)) (
     R (.returned (.tuple #[.slice none 0 0,(1:Int)])) ax) (
     ∃ab,ax.cell? ⟨aH,0,none⟩=some (.int .i64 ab)/\
     (∃aA,ax.cell? ⟨ι,0,none⟩=some (.int .i64 aA)/\
      (cond (decide (ab>=aA)) (
       R (.returned (.tuple #[.slice none 0 0,(1:Int)])) ax) (
       ∃(b2:ah),b2.size=24/\aw ax ⟨ε,0,none⟩ b2.toList/\
       (κ prog 88 #[.agg b2] ax (λv2 ba=>
        b6 v2 λbT=>
        ξ (bT[0]?) λv3=>
        df v3 λad aD c1=>
        ξ (bT[1]?) λv4=>
        df v4 λaX br c2=>
        ξ (bT[2]?) λv5=>
        bq .i64 v5 λal=>
        κ prog 93 #[.slice ad aD c1,.func (.func 94) #[] #[.pointer (some ⟨aH,0,none⟩)]] ba (λv6 b9=>
         df v6 λbl dz bJ=>
         R (.returned (.tuple #[.slice bl dz bJ,(0:Int)])) b9) (aB R)) (aB R))))))))) (aB R)))
abbrev DJ.C(a0:ah)(e0 e1 a2:Int):=Calls prog 53 #[.agg a0,.agg #[e0,e1],a2]
theorem DJ.ok:k6 DJ.main DJ.C:=λh=>dt func53 [.tmp 6,.tmp 7] 35 h
def ze.main(fl gn:Int)(rz ry:Nat)(w:World)(R:ak):Prop:=
 aR w #[fl,gn] 28 λε δ=>
 ∃(aQ:ah),aQ.size=2/\aw δ ⟨ε,0,none⟩ aQ.toList/\
 (κ prog 73 #[.agg aQ] δ (λv1 υ=>
  bq .i64 v1 λζ=>
  cond (ζ !=0) (
   R (.returned (.tuple #[(0:Int),ζ])) υ) (
   ∃τ,υ.cell? ⟨ε,1,none⟩=some (.int .i64 τ)/\
   (κ prog 95 #[.complex .f64 rz ry,τ] υ (λv2 ax=>
    b6 v2 λbT=>
    ξ (bT[0]?) λv3=>
    bq .i64 v3 λab=>
    ξ (bT[1]?) λv4=>
    bq .i64 v4 λaA=>
    cond (aA !=0) (
     R (.returned (.tuple #[(0:Int),aA])) ax) (
     ∃al,ax.cell? ⟨ε,0,none⟩=some (.int .i64 al)/\
     (∃aJ,ax.cell? ⟨ε,1,none⟩=some (.int .i64 aJ)/\
      (cond (decide (ab>=(IntKind.i64.wrap (al*aJ)))) (
       R (.returned (.tuple #[(0:Int),(5:Int)])) ax) (
       R (.returned (.tuple #[(IntKind.i64.wrap (40+ab)),(0:Int)])) ax))))) (aB R)))) (aB R))
abbrev ze.C(fl gn:Int)(rz ry:Nat):=Calls prog 54 #[.agg #[fl,gn],.complex .f64 rz ry]
theorem ze.ok:k6 ze.main ze.C:=λh=>dt func54 [.tmp 4,.tmp 5] 35 h
def Fz.main(a0 gv:J)(fc gz:Nat)(a2:Int)(w:World)(R:ak):Prop:=
 ξ a0 λd1=>
 ∃ad,w.cell? (d1.add 5)=some (.pointer ad)/\
 (κ prog 96 #[.pointer ad,a2] w (λv1 δ=>
  b6 v1 λbT=>
  ξ (bT[0]?) λv2=>
  lG v2 λcS m1=>
  ξ (bT[1]?) λv3=>
  bq .i64 v3 λζ=>
  κ prog 52 #[ζ] δ (λv4 aa=>
   b6 v4 λeV=>
   ξ a0 λd2=>
   ∃(aQ:ah),aQ.size=2/\aw aa (d2.add 2) aQ.toList/\
   (κ prog 54 #[.agg aQ,.complex .f64 cS m1] aa (λv5 aG=>
    b6 v5 λhQ=>
    ξ (hQ[0]?) λv6=>
    bq .i64 v6 λτ=>
    ξ (hQ[1]?) λfS=>
    bq .i64 fS λab=>
    ξ a0 λd3=>
    ∃aX,aG.cell? (d3.add 1)=some (.pointer aX)/\
    (aR aG #[τ,.slice gv fc gz] 130 λε bk=>
     κ prog 63 #[.pointer aX,.slice (some ⟨ε,0,none⟩) 1 1] bk (λbg b9=>
      bq .i64 bg λaA=>
      κ prog 52 #[aA] b9 (λv9 dk=>
       b6 v9 λlU=>
       ξ a0 λd4=>
       ∃bl aD c1,dk.drew.cell? (d4.add 11)=some (.slice bl aD c1)/\
       (ξ ((FloatKind.f64.decode cS).toInt .zero) λal=>
        ο (decide (IntKind.i64.min<=al)) (
         ο (decide (al<=IntKind.i64.max)) (
          ξ a0 λd5=>
          ∃aJ,dk.drew.cell? (d5.add 10)=some (.int .i64 aJ)/\
          (ο (decide (0<=al)) (
           ο (decide (al<((aD:Nat):Int))) (
           ξ bl λd6=>
           (dk.drew.cell? (d6.add (al.toNat*1))).isSome=true/\dk.drew.frozen? (d6.add (al.toNat*1))=false/\∀cn,cn=dk.drew.setCell (d6.add (al.toNat*1)) (.int .i64 aJ)->
           (R (.returned (.complex .f64 cS m1)) cn)))))))) (aB R)) (aB R))) (aB R))) (aB R)) (aB R))
abbrev Fz.C(a0 gv:J)(fc gz:Nat)(a2:Int):=Calls prog 55 #[.pointer a0,.slice gv fc gz,a2]
theorem Fz.ok:vy Fz.main Fz.C:=λh=>dt func55 [.tmp 6] 54 h
def ts.ε(mg:J)(mf pR:Nat)(ez:J)(et eT t3 t6:Nat)(t17 t18:Int)(w:World)(R:ak)(aS:J->Nat->Nat->J->Nat->Nat->Nat->Nat->Int->Int->ai):Prop:=
 cond (decide (t18<t17)) (
  ∃(bK:ah),bK.size=24/\aw w.drew ⟨t3,0,none⟩ bK.toList/\
  (ο (decide (0<=t18)) (
   ο (decide (t18<((mf:Nat):Int))) (
    ξ mg λd1=>
    ∃cS m1,w.drew.cell? (d1.add (t18.toNat*1))=some (.complex .f64 cS m1)/\
    (ο (decide (0<=t18)) (
     ο (decide (t18<((et:Nat):Int))) (
      ξ ez λd2=>
      ∃fX m2,w.drew.cell? (d2.add (t18.toNat*1))=some (.complex .f64 fX m2)/\
      (κ prog 97 #[.agg bK,.complex .f64 cS m1,.complex .f64 fX m2] w.drew (λv1 ax=>
       b6 v1 λbT=>
       ξ (bT[0]?) λv2=>
       dZ v2 λb2=>
       ξ (bT[1]?) λv3=>
       bq .i64 v3 λζ=>
       ο (decide (b2.size=24)) (
        bM ax ⟨t3,0,none⟩ b2.toList λba=>
        (cond (ζ !=0) (
         bM ba ⟨t6,0,none⟩ [(.int .i64 0),(.int .i64 0),(.int .i64 0),(.int .i64 0),(.int .i64 0),(.int .i64 0),(.int .i64 0),(.int .i64 0),(.int .i64 0),(.int .i64 0),(.int .i64 0),(.int .i64 0),(.int .i64 0),(.int .i64 0),(.int .i64 0),(.int .i64 0),(.slice none 0 0),(.slice none 0 0),(.slice none 0 0),(.slice none 0 0),(.slice none 0 0),(.slice none 0 0),(.slice none 0 0),(.slice none 0 0)] λbk=>
         (∃(bY:ah),bY.size=24/\aw bk ⟨t6,0,none⟩ bY.toList/\
         (R (.returned (.tuple #[.agg bY,ζ])) bk))) (
         aS mg mf pR ez et eT t3 t6 t17 (IntKind.i64.wrap (t18+1)) ba)))) (aB R))))))))) (
  ∃(cN:ah),cN.size=24/\aw w ⟨t3,0,none⟩ cN.toList/\
  (ο (decide (cN.size=24)) (
   bM w ⟨t6,0,none⟩ cN.toList λb9=>
   (∃(dU:ah),dU.size=24/\aw b9 ⟨t6,0,none⟩ dU.toList/\
    (R (.returned (.tuple #[.agg dU,(0:Int)])) b9)))))
def ts.bd:=acm ts.ε
def ts.main(a0:ah)(gv:J)(fc gz:Nat)(jg:J)(eD j5:Nat)(w:World)(R:ak):Prop:=
 aR w a0 89 λε δ=>
 aR δ #[(0:Int),(0:Int),(0:Int),(0:Int),(0:Int),(0:Int),(0:Int),(0:Int),(0:Int),(0:Int),(0:Int),(0:Int),(0:Int),(0:Int),(0:Int),(0:Int),.slice none 0 0,.slice none 0 0,.slice none 0 0,.slice none 0 0,.slice none 0 0,.slice none 0 0,.slice none 0 0,.slice none 0 0] 89 λι υ=>
 cond (((fc:Nat):Int)!=((eD:Nat):Int)) (
  bM υ ⟨ι,0,none⟩ [(.int .i64 0),(.int .i64 0),(.int .i64 0),(.int .i64 0),(.int .i64 0),(.int .i64 0),(.int .i64 0),(.int .i64 0),(.int .i64 0),(.int .i64 0),(.int .i64 0),(.int .i64 0),(.int .i64 0),(.int .i64 0),(.int .i64 0),(.int .i64 0),(.slice none 0 0),(.slice none 0 0),(.slice none 0 0),(.slice none 0 0),(.slice none 0 0),(.slice none 0 0),(.slice none 0 0),(.slice none 0 0)] λaa=>
  (∃(aQ:ah),aQ.size=24/\aw aa ⟨ι,0,none⟩ aQ.toList/\
   (R (.returned (.tuple #[.agg aQ,(1:Int)])) aa))) (
  ts.bd gv fc gz jg eD j5 ε ι ((fc:Nat):Int) 0 υ R)
abbrev ts.C(a0:ah)(gv:J)(fc gz:Nat)(jg:J)(eD j5:Nat):=Calls prog 56 #[.agg a0,.slice gv fc gz,.slice jg eD j5]
theorem ts.ok:GU ts.main ts.C:=λ{_ _ _ _ _ _ _ _ R}h=>fg func56 [.cell 6 89,.tmp 7] 40 (.seq .leaf (.seq .leaf (.seq .leaf (.seq (.seq .leaf (.block (.loop [(1,.slice),(2,.slice),(3,.c5),(6,.c5),(17,.int .i64),(18,.int .i64)] (ts.bd · · · · · · · · · · · R) λaS=>.leaf))) .leaf)))) h
def Dx.main(a0:J)(w:World)(R:ak):Prop:=
 κ prog 35 #[.pointer a0] w (λv1 δ=>
  bq .i64 v1 λζ=>
  cond (ζ !=0) (
   R (.returned (.int .i64 ζ)) δ) (
   κ prog 98 #[.pointer a0] δ (λv2 aa=>
    dD v2 λε=>
    cond ε (
     R (.returned (.int .i64 10)) aa) (
     ξ a0 λd1=>
     ∃ad aD c1,aa.drew.cell? d1=some (.slice ad aD c1)/\
     (ξ a0 λd2=>
      ∃aX br c2,aa.drew.cell? (d2.add 1)=some (.slice aX br c2)/\
      (vL aa.drew ad aD aX br 64 λaG=>
       ξ a0 λd3=>
       ef aG (d3.add 2) (.slice none 0 0) λba=>
       (R (.returned (.int .i64 0)) ba))))) (aB R))) (aB R)
abbrev Dx.C(a0:J):=Calls prog 57 #[.pointer a0]
theorem Dx.ok:ic Dx.main Dx.C:=λh=>dt func57 [.tmp 2] 23 h
def pL.aZ(t0 CO:J)(CN Gy:Nat)(t11:Int)(w:World)(R:ak):Prop:=
 κ prog 57 #[.pointer t0] w (λv6 dk=>
  bq .i64 v6 λaA=>
  cond (aA !=0) (
   R (.returned (.int .i64 aA)) dk) (
   ο (decide (0<((CN:Nat):Int))) (
    ξ CO λd2=>
    ∃bl dz bJ,dk.cell? d2=some (.slice bl dz bJ)/\
    (aR dk #[t11,.slice bl dz bJ] 130 λaf cn=>
     κ prog 63 #[.pointer t0,.slice (some ⟨af,0,none⟩) 1 1] cn (λfS de=>
      bq .i64 fS λal=>
      cond (al !=0) (
       R (.returned (.int .i64 al)) de) (
       κ prog 57 #[.pointer t0] de (λbg ep=>
        bq .i64 bg λaJ=>
        R (.returned (.int .i64 aJ)) ep) (aB R))) (aB R))))) (aB R)
def pL.ε(t0 CO:J)(CN Gy:Nat)(t11:Int)(Ql:J)(Qk WH:Nat)(t33 t34:Int)(w:World)(R:ak)(aS:J->J->Nat->Nat->Int->J->Nat->Nat->Int->Int->ai):Prop:=
 cond (decide (t34<t33)) (
  ο (decide (0<=t34)) (
   ο (decide (t34<((Qk:Nat):Int))) (
    ξ Ql λd1=>
    ∃aX br c2,w.cell? (d1.add (t34.toNat*1))=some (.slice aX br c2)/\
    (aR w #[(IntKind.i64.wrap ((IntKind.i64.wrap (t11+1))+t34)),.slice aX br c2] 130 λaH bk=>
     κ prog 63 #[.pointer t0,.slice (some ⟨aH,0,none⟩) 1 1] bk (λv5 b9=>
      bq .i64 v5 λab=>
      cond (ab !=0) (
       R (.returned (.int .i64 ab)) b9) (
       aS t0 CO CN Gy t11 Ql Qk WH t33 (IntKind.i64.wrap (t34+1)) b9)) (aB R))))) (
  pL.aZ t0 CO CN Gy t11 w R)
def pL.bd:=acm pL.ε
def pL.main(a0:J)(aq:ah)(RN RO a3:Int)(w:World)(R:ak):Prop:=
 aR w aq 89 λε δ=>
 aR δ #[RN,RO] 28 λι υ=>
 cond (Option.isNone a0) (
  R (.returned (.int .i64 1)) υ) (
  ∃(aQ:ah),aQ.size=24/\aw υ ⟨ε,0,none⟩ aQ.toList/\
  (∃(bK:ah),bK.size=2/\aw υ ⟨ι,0,none⟩ bK.toList/\
   (κ prog 99 #[.agg aQ,.agg bK,a3] υ (λv1 aa=>
    b6 v1 λbT=>
    ξ (bT[0]?) λv2=>
    df v2 λad aD c1=>
    ξ (bT[1]?) λv3=>
    bq .i64 v3 λζ=>
    cond (ζ !=0) (
     R (.returned (.int .i64 ζ)) aa) (
     κ prog 100 #[a3] aa (λv4 aG=>
      bq .i64 v4 λτ=>
      ο (decide (1<=((aD:Nat):Int))) (
       pL.bd a0 ad aD c1 τ (dA ad c1 1 1) (aD-1) (c1-1) (((aD-1):Nat):Int) 0 aG R)) (aB R))) (aB R))))
abbrev pL.C(a0:J)(aq:ah)(RN RO a3:Int):=Calls prog 58 #[.pointer a0,.agg aq,.agg #[RN,RO],a3]
theorem pL.ok:vy pL.main pL.C:=λ{_ _ _ _ _ _ R}h=>fg func58 [.tmp 8] 70 (.seq .leaf (.seq .leaf (.seq .leaf (.seq .leaf (.seq .leaf (.cut [(0,.ptr),(9,.slice),(11,.int .i64)] (pL.aZ · · · · · · R) (.seq .leaf (.block (.loop [(0,.ptr),(9,.slice),(11,.int .i64),(32,.slice),(33,.int .i64),(34,.int .i64)] (pL.bd · · · · · · · · · · · R) λaS=>.leaf))) .leaf)))))) h
def sj.aZ(t0:J)(t1:Int)(t7:Bool)(w:World)(R:ak):Prop:=
 cond t7 (
  R (.returned (.int .i64 1)) w) (
  ξ t0 λd2=>
  ∃τ,w.cell? (d2.add 3)=some (.int .i64 τ)/\
  (cond (t1==τ) (
   R (.returned (.int .i64 12)) w) (
   ξ t0 λd3=>
   ∃ad aD c1,w.cell? (d3.add 2)=some (.slice ad aD c1)/\
   (κ prog 68 #[.slice ad aD c1,t1] w (λv1 δ=>
    dD v1 λε=>
    cond ε (
     R (.returned (.int .i64 12)) δ) (
     ξ t0 λd4=>
     ∃aX br c2,δ.cell? (d4.add 2)=some (.slice aX br c2)/\
     (κ prog 101 #[.slice aX br c2,t1] δ (λv2 aa=>
      b6 v2 λbT=>
      ξ (bT[0]?) λv3=>
      bq .i64 v3 λab=>
      ξ (bT[1]?) λv4=>
      dD v4 λι=>
      ξ t0 λd5=>
      ∃bl dz bJ,aa.cell? (d5.add 2)=some (.slice bl dz bJ)/\
      (aR aa #[t1] 3 λaH aG=>
       κ prog 102 #[.slice bl dz bJ,ab,.slice (some ⟨aH,0,none⟩) 1 1] aG (λv5 ba=>
        df v5 λej iA fU=>
        ξ t0 λd6=>
        ef ba (d6.add 2) (.slice ej iA fU) λb9=>
        (R (.returned (.int .i64 0)) b9)) (aB R))) (aB R)))) (aB R)))))
def sj.main(a0:J)(aq:Int)(w:World)(R:ak):Prop:=
 cond (Option.isNone a0) (
  sj.aZ a0 aq true w R) (
  cond (decide (aq<0)) (
   sj.aZ a0 aq true w R) (
   ξ a0 λd1=>
   ∃ζ,w.cell? d1=some (.int .i64 ζ)/\
   (sj.aZ a0 aq (decide (aq>=ζ)) w R)))
abbrev sj.C(a0:J)(aq:Int):=Calls prog 59 #[.pointer a0,aq]
theorem sj.ok:jT sj.main sj.C:=λ{_ _ _ R}h=>fg func59 [.tmp 4] 58 (.seq .leaf (.seq (.block (.cut [(0,.ptr),(1,.int .i64),(7,.bool)] (sj.aZ · · · · R) .leaf .leaf)) .leaf)) h
def D9.main(fl gn oE oF:Int)(Dj:J)(Di Dh:Nat)(w:World)(R:ak):Prop:=
 aR w #[fl,gn,oE,oF,.slice Dj Di Dh] 40 λε δ=>
 ∃ζ,δ.cell? ⟨ε,0,none⟩=some (.int .i64 ζ)/\
 (cond (decide (ζ<1)) (
  R (.returned (.int .i64 1)) δ) (
  ∃τ,δ.cell? ⟨ε,0,none⟩=some (.int .i64 τ)/\
  (cond (decide (τ>9)) (
   R (.returned (.int .i64 1)) δ) (
   R (.returned (.int .i64 0)) δ))))
abbrev D9.C(fl gn oE oF:Int)(Dj:J)(Di Dh:Nat):=Calls prog 60 #[.agg #[fl,gn,oE,oF,.slice Dj Di Dh]]
theorem D9.ok:GU D9.main D9.C:=λh=>dt func60 [.tmp 2] 11 h
def Ee.main(fl gn oE oF:Int)(Dj:J)(Di Dh:Nat)(w:World)(R:ak):Prop:=
 aR w #[fl,gn,oE,oF,.slice Dj Di Dh] 40 λε δ=>
 aR δ #[(0:Int),(0:Int),(0:Int),(0:Int),.slice none 0 0] 40 λι υ=>
 ∃ad aD c1,υ.cell? ⟨ε,4,none⟩=some (.slice ad aD c1)/\
 (κ prog 36 #[.slice ad aD c1] υ (λv1 aa=>
  df v1 λaX br c2=>
  ef aa ⟨ε,4,none⟩ (.slice aX br c2) λaG=>
  (∃(aQ:ah),aQ.size=5/\aw aG ⟨ε,0,none⟩ aQ.toList/\
   (ο (decide (aQ.size=5)) (
    bM aG ⟨ι,0,none⟩ aQ.toList λba=>
    (∃(bK:ah),bK.size=5/\aw ba ⟨ι,0,none⟩ bK.toList/\
     (R (.returned (.agg bK)) ba)))))) (aB R))
abbrev Ee.C(fl gn oE oF:Int)(Dj:J)(Di Dh:Nat):=Calls prog 61 #[.agg #[fl,gn,oE,oF,.slice Dj Di Dh]]
theorem Ee.ok:GU Ee.main Ee.C:=λh=>dt func61 [.cell 2 40] 8 h
def Fu.main(fl gn:Int)(w:World)(R:ak):Prop:=
 aR w #[fl,gn] 28 λε δ=>
 ∃(aQ:ah),aQ.size=2/\aw δ ⟨ε,0,none⟩ aQ.toList/\
 (κ prog 73 #[.agg aQ] δ (λv1 υ=>
  bq .i64 v1 λζ=>
  cond (ζ !=0) (
   R (.returned (.tuple #[(0:Int),ζ])) υ) (
   ∃τ,υ.cell? ⟨ε,0,none⟩=some (.int .i64 τ)/\
   (∃ab,υ.cell? ⟨ε,1,none⟩=some (.int .i64 ab)/\
    (R (.returned (.tuple #[(IntKind.i64.wrap (40+(IntKind.i64.wrap (τ*ab)))),(0:Int)])) υ)))) (aB R))
abbrev Fu.C(fl gn:Int):=Calls prog 62 #[.agg #[fl,gn]]
theorem Fu.ok:jT Fu.main Fu.C:=λh=>dt func62 [.tmp 2,.tmp 3] 16 h
def rE.ε(t2:Nat)(L8:J)(L7 Qi:Nat)(t19 t20:Int)(w:World)(R:ak)(aS:Nat->J->Nat->Nat->Int->Int->ai):Prop:=
 cond (decide (t20<t19)) (
  ο (decide (0<=t20)) (
   ο (decide (t20<((L7:Nat):Int))) (
    ξ L8 λd1=>
    ∃(aQ:ah),aQ.size=2/\aw w (d1.add (t20.toNat*2)) aQ.toList/\
    (aR w #[(0:Int),.slice none 0 0] 130 λaf b9=>
     ο (decide (aQ.size=2)) (
      bM b9 ⟨af,0,none⟩ aQ.toList λca=>
      (∃aX,ca.cell? ⟨t2,0,none⟩=some (.pointer aX)/\
       (κ prog 98 #[.pointer aX] ca (λv4 dk=>
        dD v4 λdC=>
        cond dC (
         R (.returned (.int .i64 10)) dk) (
         ∃bl,dk.drew.cell? ⟨t2,0,none⟩=some (.pointer bl)/\
         (ξ bl λd2=>
          ∃ej aD c1,dk.drew.cell? (d2.add 1)=some (.slice ej aD c1)/\
          (∃τ,dk.drew.cell? ⟨af,0,none⟩=some (.int .i64 τ)/\
           (∃fD br c2,dk.drew.cell? ⟨af,1,none⟩=some (.slice fD br c2)/\
            (ο (decide (64<=br)) (
            ξ fD λd3=>
            ∃(bK:ah),bK.size=64/\aw dk.drew d3 bK.toList/\
            (ο (decide (0<=τ)) (
            ο (decide (τ<((aD:Nat):Int))) (
            ξ ej λd4=>
            ο (decide (bK.size=64)) (
            bM dk.drew (d4.add (τ.toNat*64)) bK.toList λcn=>
            (∃iB,cn.drew.cell? ⟨t2,0,none⟩=some (.pointer iB)/\
            (∃nD,cn.drew.cell? ⟨t2,0,none⟩=some (.pointer nD)/\
            (ξ nD λd5=>
            ∃iq dz bJ,cn.drew.cell? (d5.add 2)=some (.slice iq dz bJ)/\
            (∃ab,cn.drew.cell? ⟨af,0,none⟩=some (.int .i64 ab)/\
            (∃eZ iA fU,cn.drew.cell? ⟨af,1,none⟩=some (.slice eZ iA fU)/\
            (ο (decide (64<=iA)) (
            ξ eZ λd6=>
            ∃(b2:ah),b2.size=64/\aw cn.drew d6 b2.toList/\
            (ξ (Instr.fill (λi=>[(0,1),(1,64)].toArray[i]?) #[(0:Int),.int .u8 0,.int .u8 0,.int .u8 0,.int .u8 0,.int .u8 0,.int .u8 0,.int .u8 0,.int .u8 0,.int .u8 0,.int .u8 0,.int .u8 0,.int .u8 0,.int .u8 0,.int .u8 0,.int .u8 0,.int .u8 0,.int .u8 0,.int .u8 0,.int .u8 0,.int .u8 0,.int .u8 0,.int .u8 0,.int .u8 0,.int .u8 0,.int .u8 0,.int .u8 0,.int .u8 0,.int .u8 0,.int .u8 0,.int .u8 0,.int .u8 0,.int .u8 0,.int .u8 0,.int .u8 0,.int .u8 0,.int .u8 0,.int .u8 0,.int .u8 0,.int .u8 0,.int .u8 0,.int .u8 0,.int .u8 0,.int .u8 0,.int .u8 0,.int .u8 0,.int .u8 0,.int .u8 0,.int .u8 0,.int .u8 0,.int .u8 0,.int .u8 0,.int .u8 0,.int .u8 0,.int .u8 0,.int .u8 0,.int .u8 0,.int .u8 0,.int .u8 0,.int .u8 0,.int .u8 0,.int .u8 0,.int .u8 0,.int .u8 0,.int .u8 0] [(0,(.int .i64 ab)),(1,(.agg b2))]) λbY=>
            ξ (Instr.fill (λi=>some (i*65,65)) (madeCells #[(0:Int),.int .u8 0,.int .u8 0,.int .u8 0,.int .u8 0,.int .u8 0,.int .u8 0,.int .u8 0,.int .u8 0,.int .u8 0,.int .u8 0,.int .u8 0,.int .u8 0,.int .u8 0,.int .u8 0,.int .u8 0,.int .u8 0,.int .u8 0,.int .u8 0,.int .u8 0,.int .u8 0,.int .u8 0,.int .u8 0,.int .u8 0,.int .u8 0,.int .u8 0,.int .u8 0,.int .u8 0,.int .u8 0,.int .u8 0,.int .u8 0,.int .u8 0,.int .u8 0,.int .u8 0,.int .u8 0,.int .u8 0,.int .u8 0,.int .u8 0,.int .u8 0,.int .u8 0,.int .u8 0,.int .u8 0,.int .u8 0,.int .u8 0,.int .u8 0,.int .u8 0,.int .u8 0,.int .u8 0,.int .u8 0,.int .u8 0,.int .u8 0,.int .u8 0,.int .u8 0,.int .u8 0,.int .u8 0,.int .u8 0,.int .u8 0,.int .u8 0,.int .u8 0,.int .u8 0,.int .u8 0,.int .u8 0,.int .u8 0,.int .u8 0,.int .u8 0] (1*65)) [(0,(.agg bY))]) λcN=>
            aR cn.drew cN 189 λgb de=>
            de.cell? (d5.add 2)=some (.slice iq dz bJ)/\
            (de.cell? ⟨t2,0,none⟩=some (.pointer nD)/\
            (de.cell? ⟨t2,0,none⟩=some (.pointer iB)/\
            (gD de iq dz bJ 1 (a8 de (some ⟨gb,0,none⟩)) 189 65 72 #[(0:Int),.int .u8 0,.int .u8 0,.int .u8 0,.int .u8 0,.int .u8 0,.int .u8 0,.int .u8 0,.int .u8 0,.int .u8 0,.int .u8 0,.int .u8 0,.int .u8 0,.int .u8 0,.int .u8 0,.int .u8 0,.int .u8 0,.int .u8 0,.int .u8 0,.int .u8 0,.int .u8 0,.int .u8 0,.int .u8 0,.int .u8 0,.int .u8 0,.int .u8 0,.int .u8 0,.int .u8 0,.int .u8 0,.int .u8 0,.int .u8 0,.int .u8 0,.int .u8 0,.int .u8 0,.int .u8 0,.int .u8 0,.int .u8 0,.int .u8 0,.int .u8 0,.int .u8 0,.int .u8 0,.int .u8 0,.int .u8 0,.int .u8 0,.int .u8 0,.int .u8 0,.int .u8 0,.int .u8 0,.int .u8 0,.int .u8 0,.int .u8 0,.int .u8 0,.int .u8 0,.int .u8 0,.int .u8 0,.int .u8 0,.int .u8 0,.int .u8 0,.int .u8 0,.int .u8 0,.int .u8 0,.int .u8 0,.int .u8 0,.int .u8 0,.int .u8 0] λH7 h2 dJ=>
            dJ.cell? ⟨t2,0,none⟩=some (.pointer iB)/\
            (ξ iB λd7=>
            ef dJ (d7.add 2) (.slice H7 (dz+1) h2) λep=>
            (aS t2 L8 L7 Qi t19 (IntKind.i64.wrap (t20+1)) ep)))))))))))))))))))))))) (aB R)))))))) (
  R (.returned (.int .i64 0)) w)
def rE.bd:=pD rE.ε
def rE.main(a0 gv:J)(fc gz:Nat)(w:World)(R:ak):Prop:=
 aR w #[.pointer a0] 23 λε δ=>
 ∃ad,δ.cell? ⟨ε,0,none⟩=some (.pointer ad)/\
 (κ prog 35 #[.pointer ad] δ (λv1 υ=>
  bq .i64 v1 λζ=>
  cond (ζ !=0) (
   R (.returned (.int .i64 ζ)) υ) (
   κ prog 103 #[.slice gv fc gz,.func (.func 104) #[] #[]] υ (λv2 ax=>
    dD v2 λι=>
    cond ι (
     R (.returned (.int .i64 6)) ax) (
     κ prog 103 #[.slice gv fc gz,.func (.func 105) #[] #[.pointer (some ⟨ε,0,none⟩)]] ax (λv3 ba=>
      dD v3 λaH=>
      cond aH (
       R (.returned (.int .i64 5)) ba) (
       rE.bd ε gv fc gz ((fc:Nat):Int) 0 ba R)) (aB R))) (aB R))) (aB R))
abbrev rE.C(a0 gv:J)(fc gz:Nat):=Calls prog 63 #[.pointer a0,.slice gv fc gz]
theorem rE.ok:k6 rE.main rE.C:=λ{_ _ _ _ _ R}h=>fg func63 [.tmp 4] 54 (.seq .leaf (.seq .leaf (.seq .leaf (.seq .leaf (.seq (.seq .leaf (.block (.loop [(2,.c5),(18,.slice),(19,.int .i64),(20,.int .i64)] (rE.bd · · · · · · · R) λaS=>.leaf))) .leaf))))) h
def ph.aZ(t2 t3:Nat)(t4:Int)(w:World)(R:ak):Prop:=
 cond (t4==0) (
  ∃(ko:ah),ko.size=24/\aw w.drew ⟨t2,0,none⟩ ko.toList/\
  (∃(lF:ah),lF.size=2/\aw w.drew ⟨t3,0,none⟩ lF.toList/\
   (ο (decide (ko.size=24)) (
    bM w.drew ⟨t2,0,none⟩ ko.toList λfF=>
    (ο (decide (lF.size=2)) (
     aw fF ⟨t3,0,none⟩ lF.toList/\
     (ο (decide (lF.size=2)) (
      bM fF ⟨t3,0,none⟩ lF.toList λeK=>
      (∃(oL:ah),oL.size=24/\aw eK ⟨t2,0,none⟩ oL.toList/\
       (∃(oM:ah),oM.size=2/\aw eK ⟨t3,0,none⟩ oM.toList/\
        (R (.returned (.tuple #[.agg oL,.agg oM,(0:Int),(11:Int)])) eK))))))))))) (
  ∃(kp:ah),kp.size=24/\aw w.drew ⟨t2,0,none⟩ kp.toList/\
  (∃(j6:ah),j6.size=2/\aw w.drew ⟨t3,0,none⟩ j6.toList/\
   (ο (decide (kp.size=24)) (
    bM w.drew ⟨t2,0,none⟩ kp.toList λfY=>
    (ο (decide (j6.size=2)) (
     aw fY ⟨t3,0,none⟩ j6.toList/\
     (ο (decide (j6.size=2)) (
      bM fY ⟨t3,0,none⟩ j6.toList λfb=>
      (∃(my:ah),my.size=24/\aw fb ⟨t2,0,none⟩ my.toList/\
       (∃(mz:ah),mz.size=2/\aw fb ⟨t3,0,none⟩ mz.toList/\
        (R (.returned (.tuple #[.agg my,.agg mz,t4,(0:Int)])) fb)))))))))))
def ph.ε(t0:J)(t2 t3:Nat)(t4 t17:Int)(w:World)(R:ak)(aS:J->Nat->Nat->Int->Int->ai):Prop:=
 cond (decide (t17<2)) (
  κ prog 100 #[t17] w (λv1 aG=>
   bq .i64 v1 λζ=>
   κ prog 106 #[.pointer t0,ζ] aG (λv2 bk=>
    b6 v2 λbT=>
    ξ (bT[0]?) λv3=>
    df v3 λad aD c1=>
    ξ (bT[1]?) λv4=>
    bq .i64 v4 λτ=>
    cond (τ==10) (
     bM bk ⟨t2,0,none⟩ [(.int .i64 0),(.int .i64 0),(.int .i64 0),(.int .i64 0),(.int .i64 0),(.int .i64 0),(.int .i64 0),(.int .i64 0),(.int .i64 0),(.int .i64 0),(.int .i64 0),(.int .i64 0),(.int .i64 0),(.int .i64 0),(.int .i64 0),(.int .i64 0),(.slice none 0 0),(.slice none 0 0),(.slice none 0 0),(.slice none 0 0),(.slice none 0 0),(.slice none 0 0),(.slice none 0 0),(.slice none 0 0)] λca=>
     (bM ca ⟨t3,0,none⟩ [(.int .i64 0),(.int .i64 0)] λdk=>
      (∃(cN:ah),cN.size=24/\aw dk ⟨t2,0,none⟩ cN.toList/\
       (∃(dU:ah),dU.size=2/\aw dk ⟨t3,0,none⟩ dU.toList/\
        (R (.returned (.tuple #[.agg cN,.agg dU,(0:Int),τ])) dk))))) (
     κ prog 107 #[.slice ad aD c1] bk (λv5 cH=>
      b6 v5 λeV=>
      ξ (eV[0]?) λv6=>
      dZ v6 λhc=>
      ξ (eV[1]?) λfS=>
      dZ fS λhB=>
      ξ (eV[2]?) λbg=>
      bq .i64 bg λab=>
      ξ (eV[3]?) λv9=>
      bq .i64 v9 λaA=>
      aR cH #[(0:Int),(0:Int),(0:Int),(0:Int),(0:Int),(0:Int),(0:Int),(0:Int),(0:Int),(0:Int),(0:Int),(0:Int),(0:Int),(0:Int),(0:Int),(0:Int),.slice none 0 0,.slice none 0 0,.slice none 0 0,.slice none 0 0,.slice none 0 0,.slice none 0 0,.slice none 0 0,.slice none 0 0] 89 λaH de=>
      aR de #[(0:Int),(0:Int)] 28 λaf dJ=>
      ο (decide (hc.size=24)) (
       bM dJ ⟨aH,0,none⟩ hc.toList λep=>
       (ο (decide (hB.size=2)) (
         bM ep ⟨af,0,none⟩ hB.toList λeO=>
         (cond (aA==0) (
          cond (decide (ab>t4)) (
           ∃(hy:ah),hy.size=24/\aw eO.drew ⟨aH,0,none⟩ hy.toList/\
           (∃(iN:ah),iN.size=2/\aw eO.drew ⟨af,0,none⟩ iN.toList/\
            (ο (decide (hy.size=24)) (
            bM eO.drew ⟨t2,0,none⟩ hy.toList λgP=>
            (ο (decide (iN.size=2)) (
            aw gP ⟨af,0,none⟩ iN.toList/\
            (ο (decide (iN.size=2)) (
            bM gP ⟨t3,0,none⟩ iN.toList λgj=>
            (aS t0 t2 t3 ab (IntKind.i64.wrap (t17+1)) gj))))))))) (
           aS t0 t2 t3 t4 (IntKind.i64.wrap (t17+1)) eO)) (
          aS t0 t2 t3 t4 (IntKind.i64.wrap (t17+1)) eO)))))) (aB R))) (aB R)) (aB R)) (
  ph.aZ t2 t3 t4 w R)
def ph.bd:=Cj ph.ε
def ph.main(a0:J)(w:World)(R:ak):Prop:=
 aR w #[(0:Int),(0:Int),(0:Int),(0:Int),(0:Int),(0:Int),(0:Int),(0:Int),(0:Int),(0:Int),(0:Int),(0:Int),(0:Int),(0:Int),(0:Int),(0:Int),.slice none 0 0,.slice none 0 0,.slice none 0 0,.slice none 0 0,.slice none 0 0,.slice none 0 0,.slice none 0 0,.slice none 0 0] 89 λε δ=>
 aR δ #[(0:Int),(0:Int)] 28 λι υ=>
 cond (Option.isNone a0) (
  ∃(aQ:ah),aQ.size=24/\aw υ.drew ⟨ε,0,none⟩ aQ.toList/\
  (∃(bK:ah),bK.size=2/\aw υ.drew ⟨ι,0,none⟩ bK.toList/\
   (ο (decide (aQ.size=24)) (
    bM υ.drew ⟨ε,0,none⟩ aQ.toList λaa=>
    (ο (decide (bK.size=2)) (
     aw aa ⟨ι,0,none⟩ bK.toList/\
     (ο (decide (bK.size=2)) (
      bM aa ⟨ι,0,none⟩ bK.toList λax=>
      (∃(b2:ah),b2.size=24/\aw ax ⟨ε,0,none⟩ b2.toList/\
       (∃(bY:ah),bY.size=2/\aw ax ⟨ι,0,none⟩ bY.toList/\
        (R (.returned (.tuple #[.agg b2,.agg bY,(0:Int),(1:Int)])) ax))))))))))) (
  ph.bd a0 ε ι 0 0 υ R)
abbrev ph.C(a0:J):=Calls prog 64 #[.pointer a0]
theorem ph.ok:ic ph.main ph.C:=λ{_ _ R}h=>fg func64 [.cell 2 89,.cell 3 28,.tmp 4,.tmp 5] 57 (.seq .leaf (.seq .leaf (.cut [(2,.c5),(3,.c5),(4,.int .i64)] (ph.aZ · · · · R) (.seq .leaf (.block (.loop [(0,.ptr),(2,.c5),(3,.c5),(4,.int .i64),(17,.int .i64)] (ph.bd · · · · · · R) λaS=>.leaf))) .leaf))) h
def tG.ε(t0:J)(t1:Int)(nJ:J)(nk pj:Nat)(t23:Int)(w:World)(R:ak)(aS:J->Int->J->Nat->Nat->Int->ai):Prop:=
 cond (decide (t23<16)) (
  κ prog 23 #[.pointer t0,(IntKind.i64.wrap (24+t23))] w (λv1 δ=>
   b6 v1 λbT=>
   ξ (bT[0]?) λv2=>
   df v2 λad aD c1=>
   ξ (bT[1]?) λv3=>
   bq .i64 v3 λζ=>
   cond (ζ !=0) (
    R (.returned (.tuple #[.slice none 0 0,(0:Int),ζ])) δ) (
    κ prog 108 #[.slice ad aD c1,t1,t23] δ (λv4 aa=>
     b6 v4 λeV=>
     ξ (eV[0]?) λv5=>
     df v5 λaX br c2=>
     ξ (eV[1]?) λv6=>
     dD v6 λε=>
     cond (!ε) (
      R (.returned (.tuple #[.slice nJ nk pj,t23,(0:Int)])) aa) (
      gD aa nJ nk pj br (a8 aa aX) 155 5 48 #[(0:Int),(0:Int),(0:Int),(0:Int),.complex .f64 0 0] λbl bJ aG=>
      aS t0 t1 bl (nk+br) bJ (IntKind.i64.wrap (t23+1)) aG)) (aB R))) (aB R)) (
  R (.returned (.tuple #[.slice nJ nk pj,(16:Int),(0:Int)])) w)
def tG.bd:=pD tG.ε
def tG.main(a0:J)(aq:Int)(w:World)(R:ak):Prop:=
 cond (Option.isNone a0) (
  R (.returned (.tuple #[.slice none 0 0,(0:Int),(1:Int)])) w) (
  cond (decide (aq<1)) (
   R (.returned (.tuple #[.slice none 0 0,(0:Int),(1:Int)])) w) (
   cond (decide (aq>1073741824)) (
    R (.returned (.tuple #[.slice none 0 0,(0:Int),(1:Int)])) w) (
    tG.bd a0 aq none 0 0 0 w R)))
abbrev tG.C(a0:J)(aq:Int):=Calls prog 65 #[.pointer a0,aq]
theorem tG.ok:jT tG.main tG.C:=λ{_ _ _ R}h=>fg func65 [.tmp 4,.tmp 5,.tmp 6] 52 (.seq .leaf (.seq .leaf (.seq .leaf (.seq (.seq .leaf (.block (.loop [(0,.ptr),(1,.int .i64),(7,.slice),(23,.int .i64)] (tG.bd · · · · · · · R) λaS=>.leaf))) .leaf)))) h
def sP.ε(t2 t4:Nat)(Qh:J)(Qg WG:Nat)(t17 t18:Int)(w:World)(R:ak)(aS:Nat->Nat->J->Nat->Nat->Int->Int->ai):Prop:=
 cond (decide (t18<t17)) (
  ο (decide (0<=t18)) (
   ο (decide (t18<((Qg:Nat):Int))) (
    ξ Qh λd1=>
    ∃(cN:ah),cN.size=5/\aw w (d1.add (t18.toNat*5)) cN.toList/\
    (aR w #[(0:Int),(0:Int),(0:Int),(0:Int),.complex .f64 0 0] 155 λaf ca=>
     ο (decide (cN.size=5)) (
      bM ca ⟨af,0,none⟩ cN.toList λdk=>
      (∃(dU:ah),dU.size=5/\aw dk ⟨af,0,none⟩ dU.toList/\
       (κ prog 109 #[.pointer (some ⟨t2,0,none⟩),.agg dU] dk (λv3 cH=>
        bq .i64 v3 λζ=>
        cond (ζ !=0) (
         bM cH ⟨t4,0,none⟩ [(.int .i64 0),(.int .i64 0),(.int .i64 0),(.int .i64 0),(.int .i64 0),(.int .i64 0),(.int .i64 0),(.int .i64 0),(.int .i64 0),(.int .i64 0),(.int .i64 0),(.int .i64 0),(.int .i64 0),(.int .i64 0),(.int .i64 0),(.int .i64 0),(.slice none 0 0),(.slice none 0 0),(.slice none 0 0),(.slice none 0 0),(.slice none 0 0),(.slice none 0 0),(.slice none 0 0),(.slice none 0 0)] λde=>
         (∃(hc:ah),hc.size=24/\aw de ⟨t4,0,none⟩ hc.toList/\
          (R (.returned (.tuple #[.agg hc,t18,ζ])) de))) (
         aS t2 t4 Qh Qg WG t17 (IntKind.i64.wrap (t18+1)) cH)) (aB R)))))))) (
  ∃(hB:ah),hB.size=24/\aw w ⟨t2,0,none⟩ hB.toList/\
  (ο (decide (hB.size=24)) (
    bM w ⟨t4,0,none⟩ hB.toList λdJ=>
    (∃(hy:ah),hy.size=24/\aw dJ ⟨t4,0,none⟩ hy.toList/\
     (R (.returned (.tuple #[.agg hy,(0:Int),(0:Int)])) dJ)))))
def sP.bd:=KZ sP.ε
def sP.main(a0:ah)(gv:J)(fc gz:Nat)(w:World)(R:ak):Prop:=
 aR w a0 89 λε δ=>
 aR δ #[(0:Int),(0:Int),(0:Int),(0:Int),(0:Int),(0:Int),(0:Int),(0:Int),(0:Int),(0:Int),(0:Int),(0:Int),(0:Int),(0:Int),(0:Int),(0:Int),.slice none 0 0,.slice none 0 0,.slice none 0 0,.slice none 0 0,.slice none 0 0,.slice none 0 0,.slice none 0 0,.slice none 0 0] 89 λι υ=>
 ∃(aQ:ah),aQ.size=24/\aw υ ⟨ε,0,none⟩ aQ.toList/\
 (κ prog 69 #[.agg aQ] υ (λv1 aa=>
  dD v1 λaH=>
  cond (!aH) (
   bM aa ⟨ι,0,none⟩ [(.int .i64 0),(.int .i64 0),(.int .i64 0),(.int .i64 0),(.int .i64 0),(.int .i64 0),(.int .i64 0),(.int .i64 0),(.int .i64 0),(.int .i64 0),(.int .i64 0),(.int .i64 0),(.int .i64 0),(.int .i64 0),(.int .i64 0),(.int .i64 0),(.slice none 0 0),(.slice none 0 0),(.slice none 0 0),(.slice none 0 0),(.slice none 0 0),(.slice none 0 0),(.slice none 0 0),(.slice none 0 0)] λaG=>
   (∃(bK:ah),bK.size=24/\aw aG ⟨ι,0,none⟩ bK.toList/\
    (R (.returned (.tuple #[.agg bK,(0:Int),(2:Int)])) aG))) (
   ∃(b2:ah),b2.size=24/\aw aa ⟨ε,0,none⟩ b2.toList/\
   (κ prog 85 #[.agg b2] aa (λv2 ba=>
     dZ v2 λbY=>
     ο (decide (bY.size=24)) (
      bM ba ⟨ε,0,none⟩ bY.toList λb9=>
      (sP.bd ε ι gv fc gz ((fc:Nat):Int) 0 b9 R))) (aB R)))) (aB R))
abbrev sP.C(a0:ah)(gv:J)(fc gz:Nat):=Calls prog 66 #[.agg a0,.slice gv fc gz]
theorem sP.ok:k6 sP.main sP.C:=λ{_ _ _ _ _ R}h=>fg func66 [.cell 4 89,.tmp 5,.tmp 6] 32 (.seq .leaf (.seq .leaf (.seq .leaf (.seq (.seq .leaf (.block (.loop [(2,.c5),(4,.c5),(16,.slice),(17,.int .i64),(18,.int .i64)] (sP.bd · · · · · · · · R) λaS=>.leaf))) .leaf)))) h
def Fm.main(a0:ah)(e0 e1:Int)(w:World)(R:ak):Prop:=
 aR w a0 89 λε δ=>
 aR δ #[e0,e1] 28 λι υ=>
 ∃(aQ:ah),aQ.size=24/\aw υ ⟨ε,0,none⟩ aQ.toList/\
 (∃(bK:ah),bK.size=2/\aw υ ⟨ι,0,none⟩ bK.toList/\
  (κ prog 87 #[.agg aQ,.agg bK] υ (λv1 aa=>
   bq .i64 v1 λζ=>
   cond (ζ !=0) (
    R (.returned (.int .i64 ζ)) aa) (
    ∃(b2:ah),b2.size=2/\aw aa ⟨ι,0,none⟩ b2.toList/\
    (κ prog 83 #[.agg b2] aa (λv2 aG=>
     b6 v2 λbT=>
     ξ (bT[0]?) λv3=>
     bq .i64 v3 λτ=>
     ξ (bT[1]?) λv4=>
     bq .i64 v4 λab=>
     ∃(bY:ah),bY.size=24/\aw aG ⟨ε,0,none⟩ bY.toList/\
     (κ prog 110 #[.agg bY] aG (λv5 bk=>
      p6 v5 λcS=>
      Vi bk cS λaA=>
      cond (decide (aA>τ)) (
       R (.returned (.int .i64 9)) bk) (
       R (.returned (.int .i64 0)) bk)) (aB R))) (aB R)))) (aB R)))
abbrev Fm.C(a0:ah)(e0 e1:Int):=Calls prog 67 #[.agg a0,.agg #[e0,e1]]
theorem Fm.ok:iL Fm.main Fm.C:=λh=>dt func67 [.tmp 4] 24 h
def F8.main(bD:J)(a6 bx:Nat)(aq:Int)(w:World)(R:ak):Prop:=
 κ prog 111 #[.slice bD a6 bx,aq] w (λv1 δ=>
  bq .i64 v1 λζ=>
  R (.returned (.bool (decide (ζ>=0)))) δ) (aB R)
abbrev F8.C(bD:J)(a6 bx:Nat)(aq:Int):=Calls prog 68 #[.slice bD a6 bx,aq]
theorem F8.ok:k6 F8.main F8.C:=λh=>dt func68 [.tmp 4] 9 h
def sQ.ε(t1:Nat)(t7:ah)(t8:Int)(w:World)(R:ak)(aS:Nat->ah->Int->ai):Prop:=
 cond (decide (t8<8)) (
  ο (decide (0<=t8)) (
   ο (decide (t8<(8:Int))) (
    aR w #[(0:Int),(0:Int)] 84 λι υ=>
    ο (decide ((t7.extract (t8.toNat*2) ((t8.toNat*2)+2)).size=2)) (
     bM υ ⟨ι,0,none⟩ ((t7.extract (t8.toNat*2) ((t8.toNat*2)+2)).toList) λaa=>
     (ο (decide (0<=t8)) (
      ο (decide (t8<(8:Int))) (
       ∃ad aD c1,aa.cell? (Addr.add ⟨t1,16,none⟩ (t8.toNat*1))=some (.slice ad aD c1)/\
       (∃ζ,aa.cell? ⟨ι,1,none⟩=some (.int .i64 ζ)/\
        (cond (((aD:Nat):Int)!=ζ) (
         R (.returned (.bool false)) aa) (
         ∃τ,aa.cell? ⟨ι,0,none⟩=some (.int .i64 τ)/\
         (cond (τ==0) (
          ∃ab,aa.cell? ⟨ι,1,none⟩=some (.int .i64 ab)/\
          (cond (ab !=0) (
          R (.returned (.bool false)) aa) (
          ∃aA,aa.cell? ⟨ι,0,none⟩=some (.int .i64 aA)/\
          (κ prog 112 #[aA,(0:Int),(3:Int)] aa (λv1 ax=>
          dD v1 λaH=>
          cond (!aH) (
          R (.returned (.bool false)) ax) (
          ∃al,ax.cell? ⟨ι,0,none⟩=some (.int .i64 al)/\
          (cond (al !=0) (
          ∃aJ,ax.cell? ⟨ι,1,none⟩=some (.int .i64 aJ)/\
          (κ prog 112 #[aJ,(1:Int),(33:Int)] ax (λv2 ba=>
          dD v2 λaf=>
          cond (!af) (
          R (.returned (.bool false)) ba) (
          κ prog 113 #[.slice ad aD c1,.func (.func 114) #[] #[]] ba (λv5 cn=>
          dD v5 λiZ=>
          cond iZ (
          R (.returned (.bool false)) cn) (
          aS t1 t7 (IntKind.i64.wrap (t8+1)) cn)) (aB R))) (aB R))) (
          κ prog 113 #[.slice ad aD c1,.func (.func 114) #[] #[]] ax (λv6 dJ=>
          dD v6 λqQ=>
          cond qQ (
          R (.returned (.bool false)) dJ) (
          aS t1 t7 (IntKind.i64.wrap (t8+1)) dJ)) (aB R))))) (aB R))))) (
          ∃aV,aa.cell? ⟨ι,0,none⟩=some (.int .i64 aV)/\
          (κ prog 112 #[aV,(0:Int),(3:Int)] aa (λv3 b9=>
          dD v3 λdC=>
          cond (!dC) (
          R (.returned (.bool false)) b9) (
          ∃ct,b9.cell? ⟨ι,0,none⟩=some (.int .i64 ct)/\
          (cond (ct !=0) (
          ∃cv,b9.cell? ⟨ι,1,none⟩=some (.int .i64 cv)/\
          (κ prog 112 #[cv,(1:Int),(33:Int)] b9 (λv4 dk=>
          dD v4 λgb=>
          cond (!gb) (
          R (.returned (.bool false)) dk) (
          κ prog 113 #[.slice ad aD c1,.func (.func 114) #[] #[]] dk (λfS eO=>
          dD fS λsH=>
          cond sH (
          R (.returned (.bool false)) eO) (
          aS t1 t7 (IntKind.i64.wrap (t8+1)) eO)) (aB R))) (aB R))) (
          κ prog 113 #[.slice ad aD c1,.func (.func 114) #[] #[]] b9 (λbg gj=>
          dD bg λvI=>
          cond vI (
          R (.returned (.bool false)) gj) (
          aS t1 t7 (IntKind.i64.wrap (t8+1)) gj)) (aB R))))) (aB R)))))))))))))) (
  R (.returned (.bool true)) w)
def sQ.bd:=HU sQ.ε
def sQ.main(a0:ah)(w:World)(R:ak):Prop:=
 aR w a0 89 λε δ=>
 ∃(aQ:ah),aQ.size=16/\aw δ ⟨ε,0,none⟩ aQ.toList/\
 (sQ.bd ε aQ 0 δ R)
abbrev sQ.C(a0:ah):=Calls prog 69 #[.agg a0]
theorem sQ.ok:ic sQ.main sQ.C:=λ{_ _ R}h=>fg func69 [.tmp 2] 51 (.seq .leaf (.seq (.seq .leaf (.block (.loop [(1,.c5),(7,.agg),(8,.int .i64)] (sQ.bd · · · · R) λaS=>.leaf))) .leaf)) h
def FR.main(w:World)(R:ak):Prop:=
 aR w #[(0:Int),(0:Int),(0:Int),(0:Int),(0:Int),(0:Int),(0:Int),(0:Int),(0:Int),(0:Int),(0:Int),(0:Int),(0:Int),(0:Int),(0:Int),(0:Int),.pointer none,.pointer none,.pointer none,.pointer none,.pointer none,.pointer none,.pointer none,.pointer none] 144 λε δ=>
 R (.returned (.pointer (some ⟨ε,0,none⟩))) δ
abbrev FR.C:=Calls prog 70 #[]
theorem FR.ok:Ru FR.main FR.C:=λh=>dt func70 [.tmp 0] 3 h
def zD.main(a0:Int)(w:World)(R:ak):Prop:=
 cond (decide (a0<1)) (
  R (.returned (.tuple #[.pointer none,(1:Int)])) w) (
  cond (decide (a0>32)) (
   R (.returned (.tuple #[.pointer none,(1:Int)])) w) (
   ο (decide (0<=(IntKind.i64.wrap (Int.tdiv (IntKind.i64.wrap ((IntKind.i64.wrap (a0+8))-1)) 8)))) (
    ο (decide ((IntKind.i64.wrap (Int.tdiv (IntKind.i64.wrap ((IntKind.i64.wrap (a0+8))-1)) 8))<=(IntKind.i64.wrap (Int.tdiv (IntKind.i64.wrap ((IntKind.i64.wrap (a0+8))-1)) 8)))) (
     ο (decide ((8:Int)*(IntKind.i64.wrap (Int.tdiv (IntKind.i64.wrap ((IntKind.i64.wrap (a0+8))-1)) 8))<=281474976710656/\(IntKind.i64.wrap (Int.tdiv (IntKind.i64.wrap ((IntKind.i64.wrap (a0+8))-1)) 8))<=9223372036854775807)) (
      aR w (madeCells #[.pointer none] ((IntKind.i64.wrap (Int.tdiv (IntKind.i64.wrap ((IntKind.i64.wrap (a0+8))-1)) 8)).toNat*1)) 250 λε δ=>
      aR δ #[a0,.slice (some ⟨ε,0,none⟩) ((IntKind.i64.wrap (Int.tdiv (IntKind.i64.wrap ((IntKind.i64.wrap (a0+8))-1)) 8)).toNat) ((IntKind.i64.wrap (Int.tdiv (IntKind.i64.wrap ((IntKind.i64.wrap (a0+8))-1)) 8)).toNat)] 203 λι υ=>
      R (.returned (.tuple #[.pointer (some ⟨ι,0,none⟩),(0:Int)])) υ)))))
abbrev zD.C(a0:Int):=Calls prog 71 #[a0]
theorem zD.ok:ic zD.main zD.C:=λh=>dt func71 [.tmp 2,.tmp 3] 18 h
def GB.main(a0:J)(aq:Int)(p1 p0:Nat)(w:World)(R:ak):Prop:=
 κ prog 116 #[.pointer a0,aq] w (λv1 δ=>
  bq .i64 v1 λζ=>
  cond (ζ !=0) (
   R (.returned (.tuple #[.pointer none,ζ])) δ) (
   κ prog 115 #[.complex .f64 p1 p0] δ (λv2 aa=>
    dD v2 λε=>
    cond (!ε) (
     R (.returned (.tuple #[.pointer none,(2:Int)])) aa) (
     ξ (uh p1 0) λcS=>
     ξ (uh p0 0) λm1=>
     κ prog 117 #[.pointer a0,aq,.complex .f64 cS m1] aa (λv3 aG=>
      hD v3 λad=>
      R (.returned (.tuple #[.pointer ad,(0:Int)])) aG) (aB R))) (aB R))) (aB R)
abbrev GB.C(a0:J)(aq:Int)(p1 p0:Nat):=Calls prog 72 #[.pointer a0,aq,.complex .f64 p1 p0]
theorem GB.ok:k6 GB.main GB.C:=λh=>dt func72 [.tmp 6,.tmp 7] 23 h
def zf.main(fl gn:Int)(w:World)(R:ak):Prop:=
 aR w #[fl,gn] 28 λε δ=>
 ∃ζ,δ.cell? ⟨ε,0,none⟩=some (.int .i64 ζ)/\
 (cond (decide (ζ<6)) (
  R (.returned (.int .i64 1)) δ) (
  ∃τ,δ.cell? ⟨ε,0,none⟩=some (.int .i64 τ)/\
  (cond (decide (τ>24)) (
   R (.returned (.int .i64 1)) δ) (
   ∃ab,δ.cell? ⟨ε,1,none⟩=some (.int .i64 ab)/\
   (cond (decide (ab<2)) (
    R (.returned (.int .i64 1)) δ) (
    ∃aA,δ.cell? ⟨ε,1,none⟩=some (.int .i64 aA)/\
    (cond (decide (aA>16)) (
     R (.returned (.int .i64 1)) δ) (
     R (.returned (.int .i64 0)) δ))))))))
abbrev zf.C(fl gn:Int):=Calls prog 73 #[.agg #[fl,gn]]
theorem zf.ok:jT zf.main zf.C:=λh=>dt func73 [.tmp 2] 21 h
def zp.main(a0:J)(aq:Int)(w:World)(R:ak):Prop:=
 cond (Option.isNone a0) (
  R (.returned (.tuple #[(0:Int),(1:Int)])) w) (
  κ prog 71 #[aq] w (λv1 δ=>
   b6 v1 λbT=>
   ξ (bT[0]?) λv2=>
   hD v2 λad=>
   ξ (bT[1]?) λv3=>
   bq .i64 v3 λζ=>
   cond (ζ !=0) (
    R (.returned (.tuple #[(0:Int),(5:Int)])) δ) (
    κ prog 118 #[.pointer a0] δ (λv4 aa=>
     b6 v4 λeV=>
     ξ (eV[0]?) λv5=>
     bq .i64 v5 λτ=>
     ξ (eV[1]?) λv6=>
     bq .i64 v6 λab=>
     cond (ab==0) (
      ξ a0 λd1=>
      ο (decide (0<=τ)) (
       ο (decide (τ<(8:Int))) (
        ξ a0 λd2=>
        bM aa.drew (d1.add (τ.toNat*2)) [(.int .i64 1),(.int .i64 aq)] λaG=>
        (ο (decide (0<=τ)) (
         ο (decide (τ<(8:Int))) (
          ef aG ((d2.add 16).add (τ.toNat*1)) (.pointer ad) λba=>
          (R (.returned (.tuple #[τ,ab])) ba))))))) (
      R (.returned (.tuple #[τ,ab])) aa)) (aB R))) (aB R))
abbrev zp.C(a0:J)(aq:Int):=Calls prog 74 #[.pointer a0,aq]
theorem zp.ok:jT zp.main zp.C:=λh=>dt func74 [.tmp 4,.tmp 5] 40 h
end Go.Proofs.YtcpdfhkhaekekaaGreat.G

/- The law WholeSame of the given program is proved. Conditions: none. -/
import Derived.Test.YtcpdfhkhaekekaaGreatA15
set_option linter.unusedVariables false
set_option linter.unusedSimpArgs false
namespace Go.Proofs.YtcpdfhkhaekekaaGreat.G
open Tryz
open Go.bJ
set_option maxRecDepth 100000
def ht.aV(dw:γ)(dh ef:Nat)(de:γ)(c3 dy:Nat)(t9 t10 t11 t12:γ)(t13:Int)(t14 t15:Nat)(t50:Int)(t51:Bool)(w:World)(R:au)(a1:γ->Nat->Nat->γ->Nat->Nat->γ->γ->γ->γ->Int->al):Prop:=
 ∃θ,w.cell? ⟨t14,1,none⟩=some (.int .i64 θ)/\
 (∃ρ,w.cell? ⟨t15,1,none⟩=some (.int .i64 ρ)/\
  (cond (θ !=ρ) (
   R (.returned (.bool false)) w) (
   ∃ad,w.cell? ⟨t14,2,none⟩=some (.int .i64 ad)/\
   (∃aC,w.cell? ⟨t15,2,none⟩=some (.int .i64 aC)/\
    (cond (ad !=aC) (
     R (.returned (.bool false)) w) (
     ∃ay,w.cell? ⟨t14,0,none⟩=some (.int .i64 ay)/\
     (∃aM,w.cell? ⟨t15,0,none⟩=some (.int .i64 aM)/\
      (cond (ay !=aM) (
       R (.returned (.bool false)) w) (
       ∃gp aD c1,w.cell? ⟨t14,3,none⟩=some (.slice gp aD c1)/\
       (∃(lJ:aq),lJ.length=aD/\bd w gp (lJ.map (.int .u8))/\
        (∃kh bu c2,w.cell? ⟨t15,3,none⟩=some (.slice kh bu c2)/\
         (∃(xj:aq),xj.length=bu/\bd w kh (xj.map (.int .u8))/\
          (cond (!((strOf lJ).toList==(strOf xj).toList)) (
          R (.returned (.bool false)) w) (
          cond (decide (t13<((c3:Nat):Int))) (
          ν (decide (0<=t13)) (
          ν (decide (t13<((c3:Nat):Int))) (
          ξ de λd3=>
          ∃aU,w.cell? (d3.add (t13.toNat*1))=some (.int .u8 aU)/\
          (κ prog 16 #[.pointer t10,(IntKind.i64.wrap (1+(IntKind.i64.wrap (Int.tmod aU 4))))] w (λv26 ajq=>
          b7 v26 λh5=>
          ν (decide (0<=t13)) (
          ν (decide (t13<((c3:Nat):Int))) (
          ξ de λd4=>
          ∃cj,ajq.cell? (d4.add (t13.toNat*1))=some (.int .u8 cj)/\
          (κ prog 16 #[.pointer t12,(IntKind.i64.wrap (1+(IntKind.i64.wrap (Int.tmod cj 4))))] ajq (λOf ayk=>
          b7 Of λnT=>
          a1 dw dh ef de c3 dy t9 t10 t11 t12 (IntKind.i64.wrap (t13+1)) ayk) (ai R))))) (ai R))))) (
          a1 dw dh ef de c3 dy t9 t10 t11 t12 (IntKind.i64.wrap (t13+1)) w)))))))))))))))
def ht.b4(t9 t11:γ)(w:World)(R:au):Prop:=
 κ prog 24 #[.pointer t9] w (λv35 ajt=>
  br .i64 v35 λdf=>
  κ prog 24 #[.pointer t11] ajt (λayd ajv=>
   br .i64 ayd λgb=>
   R (.returned (.bool (df==gb))) ajv) (ai R)) (ai R)
def ht.ζ(t9 t11:γ)(t16:Int)(w:World)(R:au)(gi:γ->γ->Int->al):Prop:=
 κ prog 22 #[.pointer t9] w (λv28 ajr=>
  br .i64 v28 λct=>
  cond (decide (t16<ct)) (
   κ prog 23 #[.pointer t9,t16] ajr (λIg ajs=>
    b7 Ig λtE=>
    ξ (tE[0]?) λv30=>
    cX v30 λrG dU bP=>
    ξ (tE[1]?) λv31=>
    br .i64 v31 λez=>
    κ prog 23 #[.pointer t11,t16] ajs (λv32 Kv=>
     b7 v32 λCw=>
     ξ (Cw[0]?) λv33=>
     cX v33 λjv jK h0=>
     ξ (Cw[1]?) λayc=>
     br .i64 ayc λeW=>
     cond (ez !=eW) (
      R (.returned (.bool false)) Kv) (
      ∃(Gv:aq),Gv.length=dU/\bd Kv rG (Gv.map (.int .u8))/\
      (∃(Gw:aq),Gw.length=jK/\bd Kv jv (Gw.map (.int .u8))/\
       (cond (!((strOf Gv).toList==(strOf Gw).toList)) (
        R (.returned (.bool false)) Kv) (
        gi t9 t11 (IntKind.i64.wrap (t16+1)) Kv))))) (ai R)) (ai R)) (
   ht.b4 t9 t11 ajr R)) (ai R)
def ht.eZ:=DB ht.ζ
def ht.bK(t9 t11:γ)(w:World)(R:au):Prop:=
 ht.eZ t9 t11 0 w R
def ht.δ(dw:γ)(dh ef:Nat)(de:γ)(c3 dy:Nat)(t9 t10 t11 t12:γ)(t13:Int)(w:World)(R:au)(a1:γ->Nat->Nat->γ->Nat->Nat->γ->γ->γ->γ->Int->al):Prop:=
 cond (decide (t13<((dh:Nat):Int))) (
  cond (decide (t13<60)) (
   ν (decide (0<=t13)) (
    ν (decide (t13<((dh:Nat):Int))) (
     ξ dw λd1=>
     ∃(bO:aj),bO.size=5/\aB w.drew (d1.add (t13.toNat*5)) bO.toList/\
     (ν (decide (0<=t13)) (
      ν (decide (t13<((dh:Nat):Int))) (
       ξ dw λd2=>
       ∃(bC:aj),bC.size=5/\aB w.drew (d2.add (t13.toNat*5)) bC.toList/\
       ((κ prog 14 #[.pointer t10,.agg bO] w.drew (λv10 cd=>
          cv v10 λb0=>
          ν (decide (bC.size=5)) (
           aB cd (d2.add (t13.toNat*5)) bC.toList/\
           ((κ prog 14 #[.pointer t12,.agg bC] cd (λv11 cE=>
            cv v11 λdr=>
            (aK cE #[(0:Int),(0:Int),(0:Int),.slice none 0 0,.slice none 0 0] 37 λζ dp=>
            aK dp #[(0:Int),(0:Int),(0:Int),.slice none 0 0,.slice none 0 0] 37 λax ed=>
            ν (decide (b0.size=5)) (
            a6 ed ⟨ζ,0,none⟩ b0.toList/\∀dP,dP=ed.setCells (⟨ζ,0,none⟩:Addr).block (⟨ζ,0,none⟩:Addr).off b0.toList->
            (ν (decide (dr.size=5)) (
            a6 dP ⟨ax,0,none⟩ dr.toList/\∀eO,eO=dP.setCells (⟨ax,0,none⟩:Addr).block (⟨ax,0,none⟩:Addr).off dr.toList->
            (ht.aV dw dh ef de c3 dy t9 t10 t11 t12 t13 ζ ax t13 (decide (t13<60)) eO R a1)))))/\
            (aK cE #[(0:Int),(0:Int),(0:Int),.slice none 0 0,.slice none 0 0] 37 λaa eE=>
            aK eE #[(0:Int),(0:Int),(0:Int),.slice none 0 0,.slice none 0 0] 37 λcu ey=>
            ν (decide (b0.size=5)) (
            a6 ey ⟨cu,0,none⟩ b0.toList/\∀dM,dM=ey.setCells (⟨cu,0,none⟩:Addr).block (⟨cu,0,none⟩:Addr).off b0.toList->
            (ν (decide (dr.size=5)) (
            a6 dM ⟨aa,0,none⟩ dr.toList/\∀eg,eg=dM.setCells (⟨aa,0,none⟩:Addr).block (⟨aa,0,none⟩:Addr).off dr.toList->
            (ht.aV dw dh ef de c3 dy t9 t10 t11 t12 t13 cu aa t13 (decide (t13<60)) eg R a1)))))) (ai R))/\
            (aK cd #[(0:Int),(0:Int),(0:Int),.slice none 0 0,.slice none 0 0] 37 λdR gr=>
            ν (decide (bC.size=5)) (
            aB gr (d2.add (t13.toNat*5)) bC.toList/\
            ((κ prog 14 #[.pointer t12,.agg bC] gr (λv12 eP=>
            cv v12 λfu=>
            aK eP #[(0:Int),(0:Int),(0:Int),.slice none 0 0,.slice none 0 0] 37 λgu fb=>
            ν (decide (b0.size=5)) (
            a6 fb ⟨dR,0,none⟩ b0.toList/\∀eJ,eJ=fb.setCells (⟨dR,0,none⟩:Addr).block (⟨dR,0,none⟩:Addr).off b0.toList->
            (ν (decide (fu.size=5)) (
            a6 eJ ⟨gu,0,none⟩ fu.toList/\∀gh,gh=eJ.setCells (⟨gu,0,none⟩:Addr).block (⟨gu,0,none⟩:Addr).off fu.toList->
            (ht.aV dw dh ef de c3 dy t9 t10 t11 t12 t13 dR gu t13 (decide (t13<60)) gh R a1))))) (ai R))/\
            (aK gr #[(0:Int),(0:Int),(0:Int),.slice none 0 0,.slice none 0 0] 37 λkp ja=>
            ν (decide (bC.size=5)) (
            aB ja (d2.add (t13.toNat*5)) bC.toList/\
            (κ prog 14 #[.pointer t12,.agg bC] ja (λkA hv=>
            cv kA λfD=>
            ν (decide (b0.size=5)) (
            a6 hv ⟨dR,0,none⟩ b0.toList/\∀ga,ga=hv.setCells (⟨dR,0,none⟩:Addr).block (⟨dR,0,none⟩:Addr).off b0.toList->
            (ν (decide (fD.size=5)) (
            a6 ga ⟨kp,0,none⟩ fD.toList/\∀nr,nr=ga.setCells (⟨kp,0,none⟩:Addr).block (⟨kp,0,none⟩:Addr).off fD.toList->
            (ht.aV dw dh ef de c3 dy t9 t10 t11 t12 t13 dR kp t13 (decide (t13<60)) nr R a1))))) (ai R)))))))/\
            (aK cd #[(0:Int),(0:Int),(0:Int),.slice none 0 0,.slice none 0 0] 37 λk5 kY=>
            ν (decide (bC.size=5)) (
            aB kY (d2.add (t13.toNat*5)) bC.toList/\
            ((κ prog 14 #[.pointer t12,.agg bC] kY (λmM jS=>
            cv mM λfE=>
            aK jS #[(0:Int),(0:Int),(0:Int),.slice none 0 0,.slice none 0 0] 37 λnY jT=>
            ν (decide (b0.size=5)) (
            a6 jT ⟨nY,0,none⟩ b0.toList/\∀lp,lp=jT.setCells (⟨nY,0,none⟩:Addr).block (⟨nY,0,none⟩:Addr).off b0.toList->
            (ν (decide (fE.size=5)) (
            a6 lp ⟨k5,0,none⟩ fE.toList/\∀mn,mn=lp.setCells (⟨k5,0,none⟩:Addr).block (⟨k5,0,none⟩:Addr).off fE.toList->
            (ht.aV dw dh ef de c3 dy t9 t10 t11 t12 t13 nY k5 t13 (decide (t13<60)) mn R a1))))) (ai R))/\
            (aK kY #[(0:Int),(0:Int),(0:Int),.slice none 0 0,.slice none 0 0] 37 λwP lN=>
            ν (decide (bC.size=5)) (
            aB lN (d2.add (t13.toNat*5)) bC.toList/\
            (κ prog 14 #[.pointer t12,.agg bC] lN (λnR ns=>
            cv nR λhJ=>
            ν (decide (b0.size=5)) (
            a6 ns ⟨wP,0,none⟩ b0.toList/\∀qX,qX=ns.setCells (⟨wP,0,none⟩:Addr).block (⟨wP,0,none⟩:Addr).off b0.toList->
            (ν (decide (hJ.size=5)) (
            a6 qX ⟨k5,0,none⟩ hJ.toList/\∀zg,zg=qX.setCells (⟨k5,0,none⟩:Addr).block (⟨k5,0,none⟩:Addr).off hJ.toList->
            (ht.aV dw dh ef de c3 dy t9 t10 t11 t12 t13 wP k5 t13 (decide (t13<60)) zg R a1))))) (ai R)))))))))) (ai R))/\
        (aK w.drew #[(0:Int),(0:Int),(0:Int),.slice none 0 0,.slice none 0 0] 37 λmz pE=>
         ν (decide (bC.size=5)) (
          aB pE (d2.add (t13.toNat*5)) bC.toList/\
          (ν (decide (bO.size=5)) (
            aB pE (d1.add (t13.toNat*5)) bO.toList/\
            ((κ prog 14 #[.pointer t10,.agg bO] pE (λnS xL=>
            cv nS λhK=>
            ν (decide (bC.size=5)) (
            aB xL (d2.add (t13.toNat*5)) bC.toList/\
            ((κ prog 14 #[.pointer t12,.agg bC] xL (λv17 Ed=>
            cv v17 λkb=>
            aK Ed #[(0:Int),(0:Int),(0:Int),.slice none 0 0,.slice none 0 0] 37 λc7 k0=>
            ν (decide (hK.size=5)) (
            a6 k0 ⟨mz,0,none⟩ hK.toList/\∀k1,k1=k0.setCells (⟨mz,0,none⟩:Addr).block (⟨mz,0,none⟩:Addr).off hK.toList->
            (ν (decide (kb.size=5)) (
            a6 k1 ⟨c7,0,none⟩ kb.toList/\∀oS,oS=k1.setCells (⟨c7,0,none⟩:Addr).block (⟨c7,0,none⟩:Addr).off kb.toList->
            (ht.aV dw dh ef de c3 dy t9 t10 t11 t12 t13 mz c7 t13 (decide (t13<60)) oS R a1))))) (ai R))/\
            (aK xL #[(0:Int),(0:Int),(0:Int),.slice none 0 0,.slice none 0 0] 37 λje qZ=>
            ν (decide (bC.size=5)) (
            aB qZ (d2.add (t13.toNat*5)) bC.toList/\
            (κ prog 14 #[.pointer t12,.agg bC] qZ (λoR lO=>
            cv oR λkO=>
            ν (decide (hK.size=5)) (
            a6 lO ⟨mz,0,none⟩ hK.toList/\∀wv,wv=lO.setCells (⟨mz,0,none⟩:Addr).block (⟨mz,0,none⟩:Addr).off hK.toList->
            (ν (decide (kO.size=5)) (
            a6 wv ⟨je,0,none⟩ kO.toList/\∀tF,tF=wv.setCells (⟨je,0,none⟩:Addr).block (⟨je,0,none⟩:Addr).off kO.toList->
            (ht.aV dw dh ef de c3 dy t9 t10 t11 t12 t13 mz je t13 (decide (t13<60)) tF R a1))))) (ai R))))))) (ai R))/\
            (aK pE #[(0:Int),(0:Int),(0:Int),.slice none 0 0,.slice none 0 0] 37 λlT nt=>
            ν (decide (bC.size=5)) (
            aB nt (d2.add (t13.toNat*5)) bC.toList/\
            (ν (decide (bO.size=5)) (
            aB nt (d1.add (t13.toNat*5)) bO.toList/\
            (κ prog 14 #[.pointer t10,.agg bO] nt (λqw Ee=>
            cv qw λkP=>
            ν (decide (bC.size=5)) (
            aB Ee (d2.add (t13.toNat*5)) bC.toList/\
            (κ prog 14 #[.pointer t12,.agg bC] Ee (λv20 Eg=>
            cv v20 λiG=>
            ν (decide (kP.size=5)) (
            a6 Eg ⟨mz,0,none⟩ kP.toList/\∀vb,vb=Eg.setCells (⟨mz,0,none⟩:Addr).block (⟨mz,0,none⟩:Addr).off kP.toList->
            (ν (decide (iG.size=5)) (
            a6 vb ⟨lT,0,none⟩ iG.toList/\∀bS,bS=vb.setCells (⟨lT,0,none⟩:Addr).block (⟨lT,0,none⟩:Addr).off iG.toList->
            (ht.aV dw dh ef de c3 dy t9 t10 t11 t12 t13 mz lT t13 (decide (t13<60)) bS R a1))))) (ai R)))) (ai R)))))))))))/\
        (aK w.drew #[(0:Int),(0:Int),(0:Int),.slice none 0 0,.slice none 0 0] 37 λjy pF=>
         ν (decide (bC.size=5)) (
          aB pF (d2.add (t13.toNat*5)) bC.toList/\
          (ν (decide (bO.size=5)) (
            aB pF (d1.add (t13.toNat*5)) bO.toList/\
            ((κ prog 14 #[.pointer t10,.agg bO] pF (λv21 AR=>
            cv v21 λiH=>
            ν (decide (bC.size=5)) (
            aB AR (d2.add (t13.toNat*5)) bC.toList/\
            ((κ prog 14 #[.pointer t12,.agg bC] AR (λv22 tG=>
            cv v22 λkQ=>
            aK tG #[(0:Int),(0:Int),(0:Int),.slice none 0 0,.slice none 0 0] 37 λtU Eh=>
            ν (decide (iH.size=5)) (
            a6 Eh ⟨tU,0,none⟩ iH.toList/\∀AT,AT=Eh.setCells (⟨tU,0,none⟩:Addr).block (⟨tU,0,none⟩:Addr).off iH.toList->
            (ν (decide (kQ.size=5)) (
            a6 AT ⟨jy,0,none⟩ kQ.toList/\∀Ov,Ov=AT.setCells (⟨jy,0,none⟩:Addr).block (⟨jy,0,none⟩:Addr).off kQ.toList->
            (ht.aV dw dh ef de c3 dy t9 t10 t11 t12 t13 tU jy t13 (decide (t13<60)) Ov R a1))))) (ai R))/\
            (aK AR #[(0:Int),(0:Int),(0:Int),.slice none 0 0,.slice none 0 0] 37 λqA Ow=>
            ν (decide (bC.size=5)) (
            aB Ow (d2.add (t13.toNat*5)) bC.toList/\
            (κ prog 14 #[.pointer t12,.agg bC] Ow (λv23 Ox=>
            cv v23 λkR=>
            ν (decide (iH.size=5)) (
            a6 Ox ⟨qA,0,none⟩ iH.toList/\∀Ih,Ih=Ox.setCells (⟨qA,0,none⟩:Addr).block (⟨qA,0,none⟩:Addr).off iH.toList->
            (ν (decide (kR.size=5)) (
            a6 Ih ⟨jy,0,none⟩ kR.toList/\∀Oz,Oz=Ih.setCells (⟨jy,0,none⟩:Addr).block (⟨jy,0,none⟩:Addr).off kR.toList->
            (ht.aV dw dh ef de c3 dy t9 t10 t11 t12 t13 qA jy t13 (decide (t13<60)) Oz R a1))))) (ai R))))))) (ai R))/\
            (aK pF #[(0:Int),(0:Int),(0:Int),.slice none 0 0,.slice none 0 0] 37 λq9 Ii=>
            ν (decide (bC.size=5)) (
            aB Ii (d2.add (t13.toNat*5)) bC.toList/\
            (ν (decide (bO.size=5)) (
            aB Ii (d1.add (t13.toNat*5)) bO.toList/\
            (κ prog 14 #[.pointer t10,.agg bO] Ii (λv24 OA=>
            cv v24 λpR=>
            ν (decide (bC.size=5)) (
            aB OA (d2.add (t13.toNat*5)) bC.toList/\
            (κ prog 14 #[.pointer t12,.agg bC] OA (λv25 OB=>
            cv v25 λsT=>
            ν (decide (pR.size=5)) (
            a6 OB ⟨q9,0,none⟩ pR.toList/\∀pG,pG=OB.setCells (⟨q9,0,none⟩:Addr).block (⟨q9,0,none⟩:Addr).off pR.toList->
            (ν (decide (sT.size=5)) (
            a6 pG ⟨jy,0,none⟩ sT.toList/\∀Ei,Ei=pG.setCells (⟨jy,0,none⟩:Addr).block (⟨jy,0,none⟩:Addr).off sT.toList->
            (ht.aV dw dh ef de c3 dy t9 t10 t11 t12 t13 q9 jy t13 (decide (t13<60)) Ei R a1))))) (ai R)))) (ai R)))))))))))))))))) (
   ht.bK t9 t11 w R)) (
  ht.bK t9 t11 w R)
def ht.bb:=aej ht.δ
def ht.main(a0 aw:Int)(hI:γ)(ev ij:Nat)(r4:γ)(q7 r3:Nat)(w:World)(R:au):Prop:=
 κ prog 12 #[.int .u8 a0,.int .u8 aw] w (λv1 ε=>
  cv v1 λaE=>
  κ prog 11 #[.agg aE] ε (λv2 χ=>
   b7 v2 λbN=>
   ξ (bN[0]?) λv3=>
   gI v3 λae=>
   ξ (bN[1]?) λv4=>
   gI v4 λaX=>
   κ prog 12 #[.int .u8 a0,.int .u8 aw] χ (λv5 an=>
    cv v5 λbz=>
    κ prog 11 #[.agg bz] an (λv6 a8=>
     b7 v6 λeY=>
     ξ (eY[0]?) λfm=>
     gI fm λbj=>
     ξ (eY[1]?) λa7=>
     gI a7 λeo=>
     cond (Option.isNone aX) (
      R (.returned (.bool false)) a8) (
      cond (Option.isNone eo) (
       R (.returned (.bool false)) a8) (
       κ prog 13 #[] a8 (λv9 bW=>
        dF v9 λδ=>
        cond (!δ) (
         R (.returned (.bool false)) bW) (
         ht.bb hI ev ij r4 q7 r3 ae aX bj eo 0 bW R)) (ai R)))) (ai R)) (ai R)) (ai R)) (ai R)
abbrev ht.C(a0 aw:Int)(hI:γ)(ev ij:Nat)(r4:γ)(q7 r3:Nat):=Calls prog 10 #[.int .u8 a0,.int .u8 aw,.slice hI ev ij,.slice r4 q7 r3]
theorem ht.ok:CG ht.main ht.C:=λ{_ _ _ _ _ _ _ _ _ R}h=>fo func10 [.tmp 8] 150 (.seq .leaf (.seq .leaf (.seq .leaf (.seq .leaf (.cut [(9,.ptr),(11,.ptr)] (ht.bK · · · R) (.seq .leaf (.block (.loop [(2,.slice),(3,.slice),(9,.ptr),(10,.ptr),(11,.ptr),(12,.ptr),(13,.int .i64)] (ht.bb · · · · · · · · · · · · R) λa1=>(.seq .leaf (.seq (.block (.cut [(2,.slice),(3,.slice),(9,.ptr),(10,.ptr),(11,.ptr),(12,.ptr),(13,.int .i64),(14,.cA),(15,.cA),(50,.int .i64),(51,.bool)] (ht.aV · · · · · · · · · · · · · · · · R a1) .leaf .leaf)) .leaf))))) (.cut [(9,.ptr),(11,.ptr)] (ht.b4 · · · R) (.seq .leaf (.block (.loop [(9,.ptr),(11,.ptr),(16,.int .i64)] (ht.eZ · · · · R) λgi=>.leaf))) .leaf)))))) h
end Go.Proofs.YtcpdfhkhaekekaaGreat.G
namespace Go.Proofs.YtcpdfhkhaekekaaGreat.G.cY
open Go Go.bJ Go.RowKit cF dI eI cS aQ
abbrev o2:Nat->bl:=λb c=>c*b<=140737488351232
def uM:o3:=.int .i64 (.int .i64 (.int .i64 (.int .i64 (.cg 1 (.int .u8 .done) .done))))
theorem ND{w:World}{r:aY}(h:lq w o2 uM r):∃q:b9.cZ,r=q.cells/\bd w q.p (b9.bytesOf q)/\b9.Small q:=by obtain⟨a,_,rfl,ajx,b,_,rfl,_,c,_,rfl,_,d,_,rfl,_,p,n,m,rows,_,rfl,ab,aS⟩:=h;obtain rfl:_=[]:=aS;obtain⟨xs,I,hm,_⟩:=ab.ints;exact⟨⟨a,b,c,d,xs,p,n,m⟩,rfl,I.cells,I.size,by have:=I.room;show _<=_;dsimp only;omega,λx J=>qx (I.wf x J)⟩
theorem D2{w:World}:∀{rows:List aY},(∀r∈rows,lq w o2 uM r)->∃rs:List b9.cZ,rows=rs.map b9.cZ.cells/\∀q∈rs,bd w q.p (b9.bytesOf q)/\b9.Small q
 |[],_=>⟨[],rfl,by simp⟩
 |r::rows,h=>by
  obtain⟨q,rfl,aH⟩:=ND (h r (by simp));obtain⟨rs,rfl,ku⟩:=D2 (rows:=rows) λx J=>h x (ie _ J);exact⟨q::rs,rfl,λx J=>by
   rcases fB.1 J with rfl|J
   ·exact aH
   ·exact ku x J⟩
theorem NA{w:World}{p:γ}{rs:List b9.cZ}(h:bd w p (rs.map b9.cZ.cells).flatten){i:Nat}{q:b9.cZ}(I:rs[i]?=some q):∃a,p=some a/\aB w (a.add (i*5)) q.cells:=
 h.row (λr φ=>by obtain⟨q,_,rfl⟩:=gx.1 φ;rfl) (by decide) (by rw[List.getElem?_map,I];rfl)
def pJ(D gO:bl):Prop:=∀i,D i->¬gO i
section
variable{w0 w w':World}{pp pd xv rH:Nat}{m m2:aQ}{aA aiO:Int}{A sD:c6}{n bu:Nat}{D bk gO:bl}
theorem hZ.other(h:hZ w0 w pp pd m aA A n D)(ι:hZ w0 w xv rH m2 aiO sD bu gO)(k:Kp w w' gO)(aR:pJ D gO):hZ w0 w' pp pd m aA A n D:=
 ⟨h.is.aO k (λi ah=>aR i ah) (λi I fe=>(ι.is.im I).1.MT (H2.1 fe) (by decide)) (λi I aS=>(ι.is.im I).1.off aS (by decide)),h.ok,h.aA,h.new,h.ex.then k ι.new⟩
theorem pJ.symm(h:pJ D gO):pJ gO D:=λi I e2=>h i e2 I
theorem pJ.Ju(h:pJ D gO)(k:o4 w D w' bk)(ι:hZ w0 w xv rH m2 aiO sD bu gO):pJ bk gO:=λi I e2=>by
 rcases k.sub i I with h1|h1
 ·exact h i h1 e2
 ·have:=(ι.is.im e2).2
  omega
end
theorem ZM{w:World}{B pd:Nat}{d:ba.du}{D:bl}(h:ba.hF w B pd d D):ES.C (some ⟨pd,0,none⟩) w (ω λv w'=>v=.int .i64 (d.loose.length:Int)/\w'=w):=by
 apply ES.ok;unfold ES.main;obtain⟨bs,bn,pl,kT,h,cn⟩:=h;rw[cond_neg (by rfl)]
 try dsimp only[bo]
 simp only[dG];exact⟨_,_,_,h.cell.at (j:=2) rfl,ω.mk ⟨rfl,rfl⟩⟩
theorem ak0{w0 W:World}{uF rH:Nat}{d:ba.du}{fx gO:bl}(h1:ba.hF W 0 uF d fx)(ι:ba.hF W 0 rH d gO)(bH:ba.Good d)(F4:d.off=false)(x:η w0 W):
  ht.bK (some ⟨uF,0,none⟩) (some ⟨rH,0,none⟩) W (ω λv w'=>v=.bool true/\η w0 w'):=by
 have bm:=bH.gC;unfold ht.bK ht.eZ;refine⟨λt9 t11 t16 W=>some ⟨uF,0,none⟩=t9/\some ⟨rH,0,none⟩=t11/\0<=t16/\t16<=d.now.length/\ba.hF W 0 uF d fx/\ba.hF W 0 rH d gO/\η w0 W,λ_ _ t16 _=>(d.now.length-t16).toNat,⟨rfl,rfl,by omega,by omega,h1,ι,x⟩,?_⟩;clear h1 ι x;rintro _ _ t16 W ⟨rfl,rfl,g0,g1,h1,ι,x⟩;unfold ht.ζ;obtain⟨i,rfl⟩:=eF g0;refine κ.use (KN h1) ?_;rintro _ bq ⟨rfl,e⟩;obtain rfl:=e.symm
 try dsimp only[bL]
 refine bt (λI=>?_) (λI=>?_)
 ·have I:=b6 I;have rp:ba.uk d i=0:=by unfold ba.uk;rw[aL (by rw[F4];simp),aL (by omega)]
  refine κ.use (ba.zn h1 bH i) ?_;rintro _ ajs ⟨SO,φ⟩;obtain⟨_,bj,bP,jO,Dr,rfl,bh⟩:=φ.resolve_left λh=>h.1 rp
  try dsimp only[ca,cT,cU,bo,bL,ee]
  refine κ.use (ba.zn (ι.ex SO) bH i) ?_;rintro _ Kv ⟨SP,φ⟩;obtain⟨_,eo,h0,mI,Gb,rfl,cJ⟩:=φ.resolve_left λh=>h.1 rp
  try dsimp only[ca,cT,cU,bo,bL,ee]
  rw[Dr]at Gb;cases Gb;rw[cond_neg (by simp)];have p7:jO.length=64:=by have:=cJ.1;unfold ba.np at this;rw[jM]at this;exact this
  refine⟨jO,p7,(bh.ex SP).cells,jO,p7,cJ.cells,?_⟩;rw[cond_neg (by simp),bS (x:=(i:Int)+1) (by omega) (by omega)];exact⟨⟨rfl,rfl,by omega,by omega,(h1.ex SO).ex SP,(ι.ex SO).ex SP,(x.trans SO).trans SP⟩,by((try dsimp only);omega)⟩
 ·unfold ht.b4;refine κ.use (ZM h1) ?_;rintro _ ajt ⟨rfl,e⟩;obtain rfl:=e.symm
  try dsimp only[bL]
  refine κ.use (ZM ι) ?_;rintro _ ajv ⟨rfl,e⟩;obtain rfl:=e.symm
  try dsimp only[bL]
  exact ω.mk ⟨by simp,x⟩
open Tryz
structure One where
 pp:Nat
 pd:Nat
 m:aQ
 aA:Int
 A:c6
 n:Nat
def One.ZG(x:One)(w0 W:World)(D:bl):Prop:=hZ w0 W x.pp x.pd x.m x.aA x.A x.n D
def jr(w0 W:World)(x y:One):Prop:=∃D gO,x.ZG w0 W D/\y.ZG w0 W gO/\pJ D gO
section
variable{w0 W:World}{x y:One}{Z:Value->al}{X:List PanicEntry->al}
theorem jr.symm(h:jr w0 W x y):jr w0 W y x:=by obtain⟨D,gO,h1,ι,aJ⟩:=h;exact⟨gO,D,ι,h1,aJ.symm⟩
theorem jr.ex(h:jr w0 W x y):η w0 W:=by obtain⟨D,gO,h1,_⟩:=h;exact hZ.ex h1
theorem jr.to(h:jr w0 W x y){bq:World}(k:η W bq):jr w0 bq x y:=by obtain⟨D,gO,h1,ι,aJ⟩:=h;exact⟨D,gO,hZ.to h1 k,hZ.to ι k,aJ⟩
theorem jr.loc(h:jr w0 W x y){bq:World}{b:Nat}(k:Kp W bq λi=>i=b)(aF:w0.heap.size<=b){e:TypeId}(aS:Typed W e b)(fe:e∉ow)(Dc:e∉Iw)(dD:e≠dt):jr w0 bq x y:=by obtain⟨D,gO,h1,ι,aJ⟩:=h;exact⟨D,gO,hZ.loc h1 k aF aS fe Dc dD,hZ.loc ι k aF aS fe Dc dD,aJ⟩
def One.pS(x:One)(a:aQ.Ask):One:={x with m:=(kV x.m a).1,aA:=y3 x.aA a,A:=(cQ x.A a).1,n:=x.n+5}
theorem anp(h:jr w0 W x y)(ek:x.n<=600000)(r:b9.cZ)(π:bd W r.p (b9.bytesOf r))(ab:b9.Small r)
  (dZ:∀w' v D,jr w0 w' (x.pS (dW r)) y->ny W w'->wJ w' D v (if 1<=r.k/\r.k<=9 then x.aA+1 else 0) (kV x.m (dW r)).2->(kV x.m (dW r)).2=(cQ x.A (dW r)).2->Z v w'):
  κ prog 14 #[.pointer (some ⟨x.pp,0,none⟩),.agg r.cells.toArray] W Z X:=by
 obtain⟨D,gO,h1,ι,aJ⟩:=h;refine Su h1 ek r π ab λw' bk v fe k az he=>?_;exact dZ w' v bk ⟨bk,gO,fe,hZ.other ι h1 k.aO aJ.symm,aJ.Ju k ι⟩ (λB e sz p l c vs o ar=>hZ.dS h1 k o ar) az he
def NP(pick:Int)(m:aQ):aQ:=if pick=2 then ra (aQ.tick m)else if pick=3 then r9 (aQ.tick m)else aQ.tick m
def One.step(x:One)(pick:Int):One:={x with m:=NP pick x.m,n:=x.n+2}
theorem abG(h:jr w0 W x y)(ek:x.n<=600000){pick:Int}(hp:1<=pick/\pick<=4)
  (dZ:∀w',jr w0 w' (x.step pick) y->ny W w'->Z (.tuple #[.agg (fJ 0 bR bR).toArray,.bool false]) w'):
  κ prog 16 #[.pointer (some ⟨x.pp,0,none⟩),.int .i64 pick] W Z X:=by
 obtain⟨D,gO,h1,ι,aJ⟩:=h;have vD:hZ w0 W x.pp x.pd x.m x.aA x.A x.n D:=h1;show B5.C (some ⟨x.pp,0,none⟩) pick W _;have aS:=vD.aA;have fin:∀(w':World)(bk:bl),er W D w' x.pp x.pd (NP pick x.m) [] x.aA bk->aQ.Ok (NP pick x.m) x.A (x.n+2)->Z (.tuple #[.agg (fJ 0 bR bR).toArray,.bool false]) w':=λw' bk az dJ=>by have k:=az.Ju;exact dZ w' ⟨bk,gO,vD.W9 k az.is dJ (show 0<=x.aA/\x.aA<=((x.n+2:Nat):Int)by omega),hZ.other ι h1 k.aO aJ.symm,aJ.Ju k ι⟩ (λB e sz p l c vs o ar=>vD.dS k o ar)
 refine Kb vD.is vD.ok (by omega) hp (λhk w' bk az=>?_) (λhk w' bk az=>?_) (λhk w' bk az=>?_) (λhk w' bk az=>?_)
 ·subst hk;exact fin w' bk az (vD.ok.tick.more (by omega))
 ·subst hk;exact fin w' bk az (vD.ok.tick.clean (by omega))
 ·subst hk;exact fin w' bk az (vD.ok.tick.check (by omega))
 ·subst hk;exact fin w' bk az (vD.ok.tick.more (by omega))
end
theorem AM{W:World}{Y:Nat->al}(K:∀b w',η W w'->W.heap.size<=b->μ w' b ck 5 (some ⟨b,0,none⟩) 1 1 (fJ 0 bR bR)->Y b w'):aK W #[.int .i64 0,.int .i64 0,.int .i64 0,bR,bR] ck Y:=by rintro b w' τ rfl;have o:=μ.new (w:=W) (fJ 0 bR bR) ck;rw[<-τ]at o;exact K b _ (η.alloc W _) (by omega) o
end Go.Proofs.YtcpdfhkhaekekaaGreat.G.cY
namespace Go.Proofs.YtcpdfhkhaekekaaGreat.G.cY
open Go Go.bJ Go.RowKit cF dI eI cS aQ
structure wK(w0:World)(p:γ)(n:Nat)(ls:List b9.cZ):Prop where
 cells:bd w0 p (ls.map b9.cZ.cells).flatten
 len:ls.length=n
 each:∀q∈ls,bd w0 q.p (b9.bytesOf q)/\b9.Small q
theorem RJ{w:World}{p:γ}{n c:Nat}{rows:List aY}(ak:zq w o2 56 (lq w o2 uM) p n c rows):∃ls,wK w p n ls:=by obtain⟨ls,rfl,Di⟩:=D2 ak.each;exact⟨ls,ak.cells,by simpa using ak.size,Di⟩
open Tryz
theorem wK.get'{w0:World}{p:γ}{n:Nat}{ls:List b9.cZ}(h:wK w0 p n ls){i:Nat}(I:i<n):∃a q,p=some a/\ls[i]?=some q/\(∀W,η w0 W->aB W (a.add (i*5)) q.cells/\bd W q.p (b9.bytesOf q))/\b9.Small q:=by
 have zW:i<ls.length:=by rw[h.len];exact I
 obtain⟨a,aR,l4⟩:=NA h.cells (List.getElem?_eq_getElem zW);obtain⟨dK,fp⟩:=h.each _ (hP zW);exact⟨a,ls[i],aR,List.getElem?_eq_getElem zW,λW x=>⟨bd.ex (a:=some _) x l4,dK.ex x⟩,fp⟩
def r1(w:World)(cs:aj)(t:Int)(r:gj):Prop:=∃cr b8 dc cx cC cD,cs=(fY t r cr b8 dc cx cC cD).toArray/\μ w 0 dt 1 cr b8 dc (a7 r.bs)
def Fr(w:World)(b:Nat):Prop:=∃B z,μ w B ck 5 (some ⟨b,0,none⟩) 1 1 z
def qy(w:World)(b:Nat)(t:Int)(r:gj):Prop:=∃B cr b8 dc cx cC cD,μ w B ck 5 (some ⟨b,0,none⟩) 1 1 (fY t r cr b8 dc cx cC cD)/\μ w 0 dt 1 cr b8 dc (a7 r.bs)
section
variable{w0 W bq:World}{x y:One}{cs:aj}{t:Int}{r:gj}{b gg:Nat}
theorem r1.dS(h:r1 W cs t r)(k:ny W bq):r1 bq cs t r:=by obtain⟨cr,b8,dc,cx,cC,cD,rfl,o⟩:=h;exact⟨cr,b8,dc,cx,cC,cD,rfl,k _ _ _ _ _ _ _ o (by decide)⟩
theorem r1.ex(h:r1 W cs t r)(k:η W bq):r1 bq cs t r:=by obtain⟨cr,b8,dc,cx,cC,cD,rfl,o⟩:=h;exact⟨cr,b8,dc,cx,cC,cD,rfl,o.ex k⟩
theorem Fr.dS(h:Fr W b)(k:ny W bq):Fr bq b:=by obtain⟨B,z,o⟩:=h;exact⟨B,z,k _ _ _ _ _ _ _ o (by decide)⟩
theorem Fr.ex(h:Fr W b)(k:η W bq):Fr bq b:=by obtain⟨B,z,o⟩:=h;exact⟨B,z,o.ex k⟩
theorem Fr.lt(h:Fr W b):b<W.heap.size:=by obtain⟨B,z,o⟩:=h;exact(o.ge rfl).2
theorem Fr.aO(h:Fr W b)(k:Kp W bq λi=>i=gg)(b1:b≠gg):Fr bq b:=by obtain⟨B,z,o⟩:=h;exact⟨B,z,o.aO k λy ag I=>by cases ag;exact b1 I⟩
theorem qy.aO(h:qy W b t r)(k:Kp W bq λi=>i=gg)(f:Fr W gg)(b1:b≠gg):qy bq b t r:=by obtain⟨B,cr,b8,dc,cx,cC,cD,o,nL⟩:=h;obtain⟨fs,z,af⟩:=f;exact⟨B,cr,b8,dc,cx,cC,cD,o.aO k λy ag I=>by cases ag;exact b1 I,nL.aO k λy ag I=>(nL.typed ag).1.ne (I▸(af.typed rfl).1) (by decide) rfl⟩
theorem wJ.rc{D:bl}{v:Value}(h:wJ W D v t r){Q:aj->Prop}(K:∀cs,r1 W cs t r->Q cs):cv v Q:=by obtain⟨cr,b8,dc,cx,cC,cD,rfl,o,_,_⟩:=h;exact K _ ⟨cr,b8,dc,cx,cC,cD,rfl,o⟩
theorem qB{Y:Nat->al}(K:∀b w',η W w'->W.heap.size<=b->Fr w' b->Y b w'):aK W #[.int .i64 0,.int .i64 0,.int .i64 0,bR,bR] ck Y:=
 AM λb w' k τ o=>K b w' k τ ⟨_,_,o⟩
theorem afW(h:jr w0 W x y)(τ:w0.heap.size<=b)(f:Fr W b)(π:r1 W cs t r){Y:al}(K:∀w',jr w0 w' x y->Kp W w' (λi=>i=b)->qy w' b t r->Y w'):
  ν (decide (cs.size=5)) (a6 W (⟨b,0,none⟩:Addr) cs.toList/\∀ao,ao=W.setCells (⟨b,0,none⟩:Addr).block (⟨b,0,none⟩:Addr).off cs.toList->Y ao):=by
 obtain⟨cr,b8,dc,cx,cC,cD,rfl,nL⟩:=π;obtain⟨B,z,o⟩:=f;have xJ:=(o.typed rfl).1;refine aT rfl (o.put (cs:=fY t r cr b8 dc cx cC cD) rfl qL λbV fO e4=>?_);exact K bV (h.loc fO τ xJ (by decide) (by decide) (by decide)) fO ⟨B,cr,b8,dc,cx,cC,cD,e4,nL.aO fO λy ag I=>(nL.typed ag).1.ne (I▸xJ) (by decide) rfl⟩
theorem aus{gX js:aj}{ag2 tb:Int}{jN kK:gj}{pP mP:Nat}(h:jr w0 W x y)(api:w0.heap.size<=pP)(rl:w0.heap.size<=mP)(b1:pP≠mP)(abS:Fr W pP)(an3:Fr W mP)(aR:r1 W gX ag2 jN)(τ:r1 W js tb kK){Y:al}(K:∀w',jr w0 w' x y->qy w' pP ag2 jN->qy w' mP tb kK->Y w'):
  ν (decide (gX.size=5)) (a6 W (⟨pP,0,none⟩:Addr) gX.toList/\∀ao,ao=W.setCells (⟨pP,0,none⟩:Addr).block (⟨pP,0,none⟩:Addr).off gX.toList->
   ν (decide (js.size=5)) (a6 ao (⟨mP,0,none⟩:Addr) js.toList/\∀an,an=ao.setCells (⟨mP,0,none⟩:Addr).block (⟨mP,0,none⟩:Addr).off js.toList->Y an)):=by
 refine afW h api abS aR λao cK cI v4=>?_;have abT:=an3.aO cI (Ne.symm b1);have lX:r1 ao js tb kK:=by obtain⟨cr,b8,dc,cx,cC,cD,rfl,nL⟩:=τ;obtain⟨B,z,o⟩:=abS;exact⟨cr,b8,dc,cx,cC,cD,rfl,nL.aO cI λy ag I=>(nL.typed ag).1.ne (I▸(o.typed rfl).1) (by decide) rfl⟩
 refine afW cK rl abT lX λan dx dT v5=>?_;exact K an dx (v4.aO dT abT b1) v5
theorem abF(h:jr w0 W x y)(ek:x.n<=600000){q:b9.cZ}(π:bd W q.p (b9.bytesOf q))(ab:b9.Small q){Z:aj->al}{X:List PanicEntry->al}
  (dZ:∀w' cs,jr w0 w' (x.pS (dW q)) y->ny W w'->r1 w' cs (if 1<=q.k/\q.k<=9 then x.aA+1 else 0) (kV x.m (dW q)).2->Z cs w'):
  κ prog 14 #[.pointer (some ⟨x.pp,0,none⟩),.agg q.cells.toArray] W (λv w'=>cv v λcs=>Z cs w') X:=
 anp h ek q π ab λw' v D e2 k az _=>az.rc λcs jY=>dZ w' cs e2 k jY
end
section
variable{w0 W:World}{x y:One}
def Bc(x:One)(q:b9.cZ):Int:=if 1<=q.k/\q.k<=9 then x.aA+1 else 0
theorem axQ(h:jr w0 W x y)(J:x.n<=500000)(ag:y.n<=500000){p:γ}{n c:Nat}{ls:List b9.cZ}(φ:wK w0 p n ls){i:Nat}(I:i<n)(zM:i<60){b5:γ}{fG aW:Nat}{t9 t11:γ}{R:au}{a1:γ->Nat->Nat->γ->Nat->Nat->γ->γ->γ->γ->Int->al}
  (jA:∀q w' pP mP,ls[i]?=some q->jr w0 w' (x.pS (dW q)) (y.pS (dW q))->qy w' pP (Bc x q) (kV x.m (dW q)).2->qy w' mP (Bc y q) (kV y.m (dW q)).2->ht.aV p n c b5 fG aW t9 (some ⟨x.pp,0,none⟩) t11 (some ⟨y.pp,0,none⟩) i pP mP i (decide ((i:Int)<60)) w' R a1):
  ht.δ p n c b5 fG aW t9 (some ⟨x.pp,0,none⟩) t11 (some ⟨y.pp,0,none⟩) i W R a1:=by
 unfold ht.δ;rw[cond_pos (by simpa using I),cond_pos (by rw[bI];omega)];refine aT (by omega) (aT (by omega) ?_);have h:=h.to (η.drew W);generalize W.drew=W at h⊢;obtain⟨a0,q,rfl,ak,aH,ab⟩:=φ.get' I;simp only[bo];have rd:∀{bq},jr w0 bq x y->aB bq (a0.add ((i:Int).toNat*5)) q.cells.toArray.toList:=λh=>(aH _ h.ex).1;have y0:∀{bq},jr w0 bq (x.pS (dW q)) y->aB bq (a0.add ((i:Int).toNat*5)) q.cells.toArray.toList:=λh=>(aH _ h.ex).1
 have jf:∀{bq}{Z:aj->al}{X:List PanicEntry->al},jr w0 bq x y->(∀w' cs,jr w0 w' (x.pS (dW q)) y->ny bq w'->r1 w' cs (Bc x q) (kV x.m (dW q)).2->Z cs w')->
   κ prog 14 #[.pointer (some ⟨x.pp,0,none⟩),.agg q.cells.toArray] bq (λv w'=>cv v λcs=>Z cs w') X:=λh dZ=>abF h (by omega) (aH _ h.ex).2 ab dZ
 have ya:∀{bq}{Z:aj->al}{X:List PanicEntry->al},jr w0 bq (x.pS (dW q)) y->(∀w' cs,jr w0 w' (x.pS (dW q)) (y.pS (dW q))->ny bq w'->r1 w' cs (Bc y q) (kV y.m (dW q)).2->Z cs w')->
   κ prog 14 #[.pointer (some ⟨y.pp,0,none⟩),.agg q.cells.toArray] bq (λv w'=>cv v λcs=>Z cs w') X:=λh dZ=>abF h.symm (by omega) (aH _ h.ex).2 ab λw' cs e2 k r=>dZ w' cs e2.symm k r
 have fin:∀{bq}{pP mP:Nat}{gX js:aj},jr w0 bq (x.pS (dW q)) (y.pS (dW q))->w0.heap.size<=pP->w0.heap.size<=mP->pP≠mP->Fr bq pP->Fr bq mP->r1 bq gX (Bc x q) (kV x.m (dW q)).2->r1 bq js (Bc y q) (kV y.m (dW q)).2->
   ν (decide (gX.size=5)) (a6 bq (⟨pP,0,none⟩:Addr) gX.toList/\∀ao,ao=bq.setCells (⟨pP,0,none⟩:Addr).block (⟨pP,0,none⟩:Addr).off gX.toList->
    ν (decide (js.size=5)) (a6 ao (⟨mP,0,none⟩:Addr) js.toList/\∀an,an=ao.setCells (⟨mP,0,none⟩:Addr).block (⟨mP,0,none⟩:Addr).off js.toList->ht.aV (some a0) n c b5 fG aW t9 (some ⟨x.pp,0,none⟩) t11 (some ⟨y.pp,0,none⟩) i pP mP i (decide ((i:Int)<60)) an R a1)):=
  λh h1 ι aJ cK dx h8 hq=>aus h h1 ι aJ cK dx h8 hq λw' e2 cM fC=>jA q w' _ _ ak e2 cM fC
 have up:∀{bq:World}{b:Nat}{x y:One},jr w0 bq x y->bq.heap.size<=b->w0.heap.size<=b:=λh τ=>gE h.ex.size τ;refine⟨q.cells.toArray,rfl,rd h,aT (by omega) (aT (by omega) ⟨q.cells.toArray,rfl,rd h,?_,?_,?_⟩)⟩
 ·refine jf h λε gX h1 aV jN=>aT rfl ⟨y0 h1,?_,?_,?_⟩
  ·refine ya h1 λυ js ι bK kK=>⟨?_,?_⟩
   ·refine qB λb χ ad τ f=>qB λgg ao aC h2 iL=>?_;have bm:=f.lt;exact fin ((ι.to ad).to aC) (up ι τ) (up (ι.to ad) h2) (by omega) (f.ex aC) iL ((jN.dS bK).ex (ad.trans aC)) (kK.ex (ad.trans aC))
   ·refine qB λb χ ad τ f=>qB λgg ao aC h2 iL=>?_;have bm:=f.lt;exact fin ((ι.to ad).to aC) (up (ι.to ad) h2) (up ι τ) (by omega) iL (f.ex aC) ((jN.dS bK).ex (ad.trans aC)) (kK.ex (ad.trans aC))
  ·refine qB λb χ ad τ f=>aT rfl ⟨y0 (h1.to ad),?_,?_⟩
   ·refine ya (h1.to ad) λao js cK cI kK=>qB λgg an ay h2 iL=>?_;have bm:=(f.dS cI).lt;exact fin (cK.to ay) (up h1 τ) (up cK h2) (by omega) ((f.dS cI).ex ay) iL (((jN.ex ad).dS cI).ex ay) (kK.ex ay)
   ·refine qB λgg ao aC h2 iL=>aT rfl ⟨y0 ((h1.to ad).to aC),?_⟩;have bm:=f.lt;refine ya ((h1.to ad).to aC) λan js dx dT kK=>?_;exact fin dx (up h1 τ) (up (h1.to ad) h2) (by omega) ((f.ex aC).dS dT) (iL.dS dT) ((jN.ex (ad.trans aC)).dS dT) kK
  ·refine qB λb χ ad τ f=>aT rfl ⟨y0 (h1.to ad),?_,?_⟩
   ·refine ya (h1.to ad) λao js cK cI kK=>qB λgg an ay h2 iL=>?_;have bm:=(f.dS cI).lt;exact fin (cK.to ay) (up cK h2) (up h1 τ) (by omega) iL ((f.dS cI).ex ay) (((jN.ex ad).dS cI).ex ay) (kK.ex ay)
   ·refine qB λgg ao aC h2 iL=>aT rfl ⟨y0 ((h1.to ad).to aC),?_⟩;have bm:=f.lt;refine ya ((h1.to ad).to aC) λan js dx dT kK=>?_;exact fin dx (up (h1.to ad) h2) (up h1 τ) (by omega) (iL.dS dT) ((f.ex aC).dS dT) ((jN.ex (ad.trans aC)).dS dT) kK
 ·refine qB λb χ ad τ f=>aT rfl ⟨rd (h.to ad),aT rfl ⟨rd (h.to ad),?_,?_⟩⟩
  ·refine jf (h.to ad) λao gX cK cI jN=>aT rfl ⟨y0 cK,?_,?_⟩
   ·refine ya cK λan js dx dT kK=>qB λgg aZ aM h2 iL=>?_;have bm:=((f.dS cI).dS dT).lt;exact fin (dx.to aM) (up h τ) (up dx h2) (by omega) (((f.dS cI).dS dT).ex aM) iL ((jN.dS dT).ex aM) (kK.ex aM)
   ·refine qB λgg an ay h2 iL=>aT rfl ⟨y0 (cK.to ay),?_⟩;have bm:=(f.dS cI).lt;refine ya (cK.to ay) λaZ js h8 eD kK=>?_;exact fin h8 (up h τ) (up cK h2) (by omega) (((f.dS cI).ex ay).dS eD) (iL.dS eD) ((jN.ex ay).dS eD) kK
  ·refine qB λgg ao aC h2 iL=>aT rfl ⟨rd ((h.to ad).to aC),aT rfl ⟨rd ((h.to ad).to aC),?_⟩⟩;have bm:=f.lt;refine jf ((h.to ad).to aC) λan gX dx dT jN=>aT rfl ⟨y0 dx,?_⟩;refine ya dx λaZ js h8 eD kK=>?_;exact fin h8 (up h τ) (up (h.to ad) h2) (by omega) (((f.ex aC).dS dT).dS eD) ((iL.dS dT).dS eD) (jN.dS eD) kK
 ·refine qB λb χ ad τ f=>aT rfl ⟨rd (h.to ad),aT rfl ⟨rd (h.to ad),?_,?_⟩⟩
  ·refine jf (h.to ad) λao gX cK cI jN=>aT rfl ⟨y0 cK,?_,?_⟩
   ·refine ya cK λan js dx dT kK=>qB λgg aZ aM h2 iL=>?_;have bm:=((f.dS cI).dS dT).lt;exact fin (dx.to aM) (up dx h2) (up h τ) (by omega) iL (((f.dS cI).dS dT).ex aM) ((jN.dS dT).ex aM) (kK.ex aM)
   ·refine qB λgg an ay h2 iL=>aT rfl ⟨y0 (cK.to ay),?_⟩;have bm:=(f.dS cI).lt;refine ya (cK.to ay) λaZ js h8 eD kK=>?_;exact fin h8 (up cK h2) (up h τ) (by omega) (iL.dS eD) (((f.dS cI).ex ay).dS eD) ((jN.ex ay).dS eD) kK
  ·refine qB λgg ao aC h2 iL=>aT rfl ⟨rd ((h.to ad).to aC),aT rfl ⟨rd ((h.to ad).to aC),?_⟩⟩;have bm:=f.lt;refine jf ((h.to ad).to aC) λan gX dx dT jN=>aT rfl ⟨y0 dx,?_⟩;refine ya dx λaZ js h8 eD kK=>?_;exact fin h8 (up (h.to ad) h2) (up h τ) (by omega) ((iL.dS dT).dS eD) (((f.ex aC).dS dT).dS eD) (jN.dS eD) kK
end
theorem amk{w0:World}{p:γ}{n:Nat}{ps:aq}(c8:bd w0 p (ps.map (Value.int .u8)))(ar:ps.length=n){j:Nat}(ψ:j<n):∃x a,x∈ps/\p=some a/\∀bq,η w0 bq->bq.cell? (a.add j)=some (.int .u8 x):=by
 have pb:j<ps.length:=by omega
 have lF:(ps.map (Value.int .u8))[j]?=some (.int .u8 ps[j]):=by rw[List.getElem?_map,List.getElem?_eq_getElem pb];rfl
 obtain⟨a,C1,jN⟩:=c8.many lF;refine⟨ps[j],a,hP pb,C1,λbq x=>?_⟩;obtain⟨fL,abK,X6⟩:=(c8.ex x).many lF;rw[C1]at abK;cases abK;exact X6
structure Twin(x y:One)(ae d1 aX d2 N:Nat):Prop where
 m:x.m=y.m
 aA:x.aA=y.aA
 SR:x.pp=ae
 eb:x.pd=d1
 SV:y.pp=aX
 Ze:y.pd=d2
 SQ:x.n<=N
 SU:y.n<=N
section
variable{w0 W:World}{x y:One}{ae d1 aX d2 N:Nat}
theorem Twin.pS(h:Twin x y ae d1 aX d2 N)(a:aQ.Ask):Twin (x.pS a) (y.pS a) ae d1 aX d2 (N+5):=
 ⟨by show(kV x.m a).1=(kV y.m a).1;rw[h.m],by show y3 x.aA a=y3 y.aA a;rw[h.aA],h.SR,h.eb,h.SV,h.Ze,by have:=h.SQ;show x.n+5<=_;omega,by have:=h.SU;show y.n+5<=_;omega⟩
theorem Twin.step(h:Twin x y ae d1 aX d2 N)(k:Int):Twin (x.step k) (y.step k) ae d1 aX d2 (N+2):=
 ⟨by show NP k x.m=NP k y.m;rw[h.m],h.aA,h.SR,h.eb,h.SV,h.Ze,by have:=h.SQ;show x.n+2<=_;omega,by have:=h.SU;show y.n+2<=_;omega⟩
theorem Twin.more(h:Twin x y ae d1 aX d2 N){lr:Nat}(ek:N<=lr):Twin x y ae d1 aX d2 lr:=⟨h.m,h.aA,h.SR,h.eb,h.SV,h.Ze,gE h.SQ ek,gE h.SU ek⟩
theorem qy.IA{b:Nat}{t:Int}{r:gj}(h:qy W b t r):W.cell? (⟨b,0,none⟩:Addr)=some (.int .i64 t):=by obtain⟨B,cr,b8,dc,cx,cC,cD,o,nL⟩:=h;exact o.at (j:=0) rfl
theorem qy.aaB{b:Nat}{t:Int}{r:gj}(h:qy W b t r):W.cell? (⟨b,1,none⟩:Addr)=some (.int .i64 r.e):=by obtain⟨B,cr,b8,dc,cx,cC,cD,o,nL⟩:=h;exact o.at (j:=1) rfl
theorem qy.aaC{b:Nat}{t:Int}{r:gj}(h:qy W b t r):W.cell? (⟨b,2,none⟩:Addr)=some (.int .i64 r.id):=by obtain⟨B,cr,b8,dc,cx,cC,cD,o,nL⟩:=h;exact o.at (j:=2) rfl
theorem qy.aaD{b:Nat}{t:Int}{r:gj}(h:qy W b t r):∃cr b8 dc,W.cell? (⟨b,3,none⟩:Addr)=some (.slice cr b8 dc)/\r.bs.length=b8/\bd W cr (r.bs.map (.int .u8)):=by
 obtain⟨B,cr,b8,dc,cx,cC,cD,o,nL⟩:=h;refine⟨cr,b8,dc,o.at (j:=3) rfl,?_,nL.cells⟩
 have:=nL.1
 rw[sC]at this;omega
theorem akZ{b gg:Nat}{t:Int}{r:gj}(h:jr w0 W x y)(tD:Twin x y ae d1 aX d2 N)(ek:N<=100000)(v1:qy W b t r)(v2:qy W gg t r){p:γ}{n c:Nat}{b5:γ}{fG aW:Nat}{ps:aq}(c8:bd w0 b5 (ps.map (Value.int .u8)))(ar:ps.length=fG)(hw:∀x∈ps,0<=x/\x<256){j:Nat}(ψ:j<100000){R:au}{t50:Int}{t51:Bool}{a1:γ->Nat->Nat->γ->Nat->Nat->γ->γ->γ->γ->Int->al}
  (hC:∀w' tK xP,jr w0 w' tK xP->Twin tK xP ae d1 aX d2 (N+2)->a1 p n c b5 fG aW (some ⟨d1,0,none⟩) (some ⟨ae,0,none⟩) (some ⟨d2,0,none⟩) (some ⟨aX,0,none⟩) (IntKind.i64.wrap ((j:Int)+1)) w'):
  ht.aV p n c b5 fG aW (some ⟨d1,0,none⟩) (some ⟨ae,0,none⟩) (some ⟨d2,0,none⟩) (some ⟨aX,0,none⟩) (j:Int) b gg t50 t51 W R a1:=by
 unfold ht.aV;refine⟨_,v1.aaB,_,v2.aaB,?_⟩;rw[cond_neg (by simp)];refine⟨_,v1.aaC,_,v2.aaC,?_⟩;rw[cond_neg (by simp)];refine⟨_,v1.IA,_,v2.IA,?_⟩;rw[cond_neg (by simp)];obtain⟨cr,b8,dc,g3,ob,bP⟩:=v1.aaD;obtain⟨yb,x9,x7,C7,arP,amm⟩:=v2.aaD;refine⟨_,_,_,g3,r.bs,ob,bP,_,_,_,C7,r.bs,arP,amm,?_⟩;rw[cond_neg (by simp)];refine bt (λff=>?_) (λff=>hC W x y h (tD.more (by omega)));have ff:=b6 ff;obtain⟨z,a,aI,rfl,φ⟩:=amk c8 ar (j:=j) (by omega);have aI:=hw z aI;refine aT (by omega) (aT (by omega) ?_)
 try dsimp only[bo]
 rw[ch,eS];refine⟨z,φ W h.ex,?_⟩;have m4:Int.tmod z 4=z%4:=xD aI.1;rw[m4,bS (x:=z%4) (by omega) (by omega),bS (x:=1+z%4) (by omega) (by omega)];obtain⟨hm,aS,rfl,rfl,rfl,rfl,J,ag⟩:=tD;refine abG h (by omega) (pick:=1+z%4) (by omega) λε h1 aV=>?_
 try dsimp only[ca]
 refine aT (by omega) (aT (by omega) ?_);refine⟨z,φ ε h1.ex,?_⟩;rw[m4,bS (x:=z%4) (by omega) (by omega),bS (x:=1+z%4) (by omega) (by omega)];refine abG h1.symm (by omega) (pick:=1+z%4) (by omega) λυ ι bK=>?_
 try dsimp only[ca]
 exact hC υ _ _ ι.symm (Twin.step ⟨hm,aS,rfl,rfl,rfl,rfl,J,ag⟩ _)
theorem ZU(h:jr w0 W x y)(tD:Twin x y ae d1 aX d2 N):ht.bK (some ⟨d1,0,none⟩) (some ⟨d2,0,none⟩) W (ω λv w'=>v=.bool true/\η w0 w'):=by obtain⟨D,gO,J,ag,_⟩:=h;obtain⟨hm,aS,rfl,rfl,rfl,rfl,_,_⟩:=tD;have J:hZ w0 W x.pp x.pd x.m x.aA x.A x.n D:=J;have ag:hZ w0 W y.pp y.pd y.m y.aA y.A y.n gO:=ag;obtain⟨q,dm,dH,dq,h1,_⟩:=J.is;obtain⟨qf,sE,q1,ve,ι,_⟩:=ag.is;have ι:=ι.dev;rw[<-hm]at ι;exact ak0 h1.dev ι J.ok.inv.dev J.ok.inv.off J.ex
end
theorem alG(a b:Int)(p:γ)(n c:Nat)(rows:List aY)(b5:γ)(fG aW:Nat)(ps:aq)(w:World)(aR:0<=a/\a<256)(τ:0<=b/\b<256)(ak:zq w o2 56 (lq w o2 uM) p n c rows)(I:Ints .u8 w b5 fG aW ps)(e3:aW*1<=140737488351232):
  ht.C a b p n c b5 fG aW w (ω λv w'=>v=.bool true/\η w w'):=by
 obtain⟨ls,φ⟩:=RJ ak;have hw:∀x∈ps,0<=x/\x<256:=λx J=>qx (I.wf x J);apply ht.ok;unfold ht.main;refine κ.use (Rb a b aR τ w) ?_;rintro _ ε ⟨rfl,θ⟩
 try dsimp only[hA]
 refine κ.use (KX (s:=6+a%9) (k:=2+b%5) PM ε) ?_;rintro _ χ ⟨uF,B7,fx,rfl,eL⟩
 try dsimp only[ca,cT,cU,bo,n0,nD,jz]
 refine κ.use (Rb a b aR τ χ) ?_;rintro _ an ⟨rfl,ay⟩
 try dsimp only[hA]
 refine κ.use (KX (s:=6+a%9) (k:=2+b%5) PM an) ?_;rintro _ a8 ⟨rH,xv,gO,rfl,eG⟩
 try dsimp only[ca,cT,cU,bo,n0,nD,jz]
 refine κ.use (Y2 a8) ?_;rintro _ bW ⟨rfl,ct⟩
 try dsimp only[dX]
 have t1:=eL.tp;have eV:=ay.size;have LJ:pJ fx gO:=λi h1 ι=>by
  have:=(t1.is.im h1).2
  have:=eG.new i ι
  omega
 have X:=(ay.trans eG.ex).trans ct;have t1:=t1.to X;have t2:=eG.tp.to ct;have t1:hZ w bW B7 uF (vS (6+a%9) (2+b%5)) 0 (sj (6+a%9) (2+b%5)) 2 fx:=⟨t1.is,t1.ok,t1.aA,λi I=>gE θ.size (t1.new i I),θ.trans t1.ex⟩;have t2:hZ w bW xv rH (vS (6+a%9) (2+b%5)) 0 (sj (6+a%9) (2+b%5)) 2 gO:=⟨t2.is,t2.ok,t2.aA,λi I=>gE (gE (gE θ.size eL.ex.size) ay.size) (t2.new i I),(θ.trans (eL.ex.trans ay)).trans t2.ex⟩;have aF:jr w bW ⟨B7,uF,_,_,_,_⟩ ⟨xv,rH,_,_,_,_⟩:=⟨fx,gO,t1,t2,LJ⟩;unfold ht.bb;refine⟨λdw dh ef de c3 dy t9 t10 t11 t12 t13 W=>p=dw/\n=dh/\c=ef/\b5=de/\fG=c3/\aW=dy/\some ⟨uF,0,none⟩=t9/\some ⟨B7,0,none⟩=t10/\some ⟨rH,0,none⟩=t11/\some ⟨xv,0,none⟩=t12/\0<=t13/\t13<=60/\∃x y,jr w W x y/\Twin x y B7 uF xv rH (10+10*t13.toNat),λ_ _ _ _ _ _ _ _ _ _ t13 _=>(60-t13).toNat,⟨rfl,rfl,rfl,rfl,rfl,rfl,rfl,rfl,rfl,rfl,by omega,by omega,_,_,aF,⟨rfl,rfl,rfl,rfl,rfl,rfl,by show(2:Nat)<=_;omega,by show(2:Nat)<=_;omega⟩⟩,?_⟩;clear aF t1 t2;rintro _ _ _ _ _ _ _ _ _ _ t13 W ⟨rfl,rfl,rfl,rfl,rfl,rfl,rfl,rfl,rfl,rfl,g0,g1,x,y,h,tD⟩;obtain⟨j,rfl⟩:=eF g0;rw[ch]at tD;by_cases ψ:(j:Int)<(n:Int)
 rotate_left
 ·unfold ht.δ;rw[cond_neg (by simpa using ψ)];exact ZU h tD
 by_cases hk:(j:Int)<60
 rotate_left
 ·unfold ht.δ;rw[cond_pos (by simpa using ψ),cond_neg (by simpa using hk)];exact ZU h tD
 have Ms:=tD.SQ;have Wx:=tD.SU;have art:=tD.SR;have hyp:=tD.SV;subst art hyp;refine axQ h (by omega) (by omega) φ (i:=j) (by omega) (by omega) λq w' pP mP aH e2 cM fC=>?_
 ·have axO:=tD.pS (dW q);have sb:Bc y q=Bc x q:=by unfold Bc;rw[tD.aA]
  rw[sb,<-tD.m]at fC;refine akZ e2 axO (by omega) cM fC I.cells I.size hw (by omega) λυ ρ gM ι axP=>?_;have aP:((j:Int)+1).toNat=j+1:=by omega
  rw[bS (x:=(j:Int)+1) (by omega) (by omega)];refine⟨⟨rfl,rfl,rfl,rfl,rfl,rfl,rfl,rfl,rfl,rfl,by omega,by omega,ρ,gM,ι,?_⟩,by((try dsimp only);omega)⟩;rw[aP];exact axP.more (by omega)
end Go.Proofs.YtcpdfhkhaekekaaGreat.G.cY

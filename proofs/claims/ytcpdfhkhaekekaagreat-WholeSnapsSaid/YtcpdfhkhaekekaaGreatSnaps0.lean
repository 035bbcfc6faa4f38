/- The law WholeSnaps of the given program is proved. Conditions: none. -/
import Derived.Test.YtcpdfhkhaekekaaGreatA15
set_option linter.unusedVariables false
set_option linter.unusedSimpArgs false
namespace Go.Proofs.YtcpdfhkhaekekaaGreat.G
open Tryz
open Go.bJ
set_option maxRecDepth 100000
def eH.bK(de:γ)(c3 dy:Nat)(t10:γ)(t12:Nat)(t13:Int)(t14:Nat)(w:World)(R:au)(gi:γ->Nat->Nat->γ->Nat->Int->al):Prop:=
 ∃ad,w.cell? ⟨t14,1,none⟩=some (.int .i64 ad)/\
 (cond (ad !=0) (
  ∃aC,w.cell? ⟨t14,1,none⟩=some (.int .i64 aC)/\
  (cond (aC !=9) (
   R (.returned (.bool false)) w) (
   gi de c3 dy t10 t12 (IntKind.i64.wrap (t13+1)) w))) (
  gi de c3 dy t10 t12 (IntKind.i64.wrap (t13+1)) w))
def eH.dT(de:γ)(c3 dy:Nat)(t10:γ)(t15:Nat)(t16:ByteArray)(t18 t109:Int)(t110:Bool)(w:World)(R:au)(tO:γ->Nat->Nat->γ->Nat->ByteArray->Int->al):Prop:=
 ν (decide (0<=t18)) (
  ν (decide (t18<((c3:Nat):Int))) (
   ξ de λd4=>
   ∃(hK:aj),hK.size=5/\aB w (d4.add (t18.toNat*5)) hK.toList/\
   (κ prog 14 #[.pointer t10,.agg hK] w (λv17 mn=>
    cv v17 λkb=>
    cond ((Int.tmod t18 5)==0) (
     κ prog 16 #[.pointer t10,(2:Int)] mn (λoR ns=>
      b7 oR λeY=>
      tO de c3 dy t10 t15 t16 (IntKind.i64.wrap (t18+1)) ns) (ai R)) (
     tO de c3 dy t10 t15 t16 (IntKind.i64.wrap (t18+1)) mn)) (ai R))))
def eH.fO(t16 t19:ByteArray)(t21:Nat)(w:World)(R:au):Prop:=
 cond (t19.toList==t16.toList) (
  ∃gb,w.cell? ⟨t21,1,none⟩=some (.int .i64 gb)/\
  (R (.returned (.bool (gb==8))) w)) (
  R (.returned (.bool false)) w)
def eH.hW(t10:γ)(t15:Nat)(t16 t19:ByteArray)(w:World)(R:au):Prop:=
 ∃df,w.drew.cell? ⟨t15,2,none⟩=some (.int .i64 df)/\
 ((κ prog 15 #[.int .u8 1] w.drew (λv20 pE=>
    cX v20 λgp dU bP=>
    pE.cell? ⟨t15,2,none⟩=some (.int .i64 df)/\
    ((κ prog 14 #[.pointer t10,.agg #[(5:Int),df,(0:Int),(0:Int),.slice gp dU bP]] pE (λv21 Oq=>
       cv v21 λkO=>
       aK Oq #[(0:Int),(0:Int),(0:Int),.slice none 0 0,.slice none 0 0] 37 λgu qY=>
       ν (decide (kO.size=5)) (
        a6 qY ⟨gu,0,none⟩ kO.toList/\∀k0,k0=qY.setCells (⟨gu,0,none⟩:Addr).block (⟨gu,0,none⟩:Addr).off kO.toList->
        (eH.fO t16 t19 gu k0 R))) (ai R))/\
     (aK pE #[(0:Int),(0:Int),(0:Int),.slice none 0 0,.slice none 0 0] 37 λkp k1=>
      (Value.agg #[(5:Int),df,(0:Int),(0:Int),.slice gp dU bP])=(.agg #[(5:Int),df,(0:Int),(0:Int),.slice gp dU bP])/\
      (k1.cell? ⟨t15,2,none⟩=some (.int .i64 df)/\
       (κ prog 14 #[.pointer t10,.agg #[(5:Int),df,(0:Int),(0:Int),.slice gp dU bP]] k1 (λv22 oS=>
         cv v22 λkP=>
         ν (decide (kP.size=5)) (
          a6 oS ⟨kp,0,none⟩ kP.toList/\∀lO,lO=oS.setCells (⟨kp,0,none⟩:Addr).block (⟨kp,0,none⟩:Addr).off kP.toList->
          (eH.fO t16 t19 kp lO R))) (ai R)))))) (ai R))/\
  (aK w.drew #[(0:Int),(0:Int),(0:Int),.slice none 0 0,.slice none 0 0] 37 λk5 zi=>
   zi.cell? ⟨t15,2,none⟩=some (.int .i64 df)/\
   (κ prog 15 #[.int .u8 1] zi (λv23 wv=>
     cX v23 λkh jK h0=>
     wv.cell? ⟨t15,2,none⟩=some (.int .i64 df)/\
     (κ prog 14 #[.pointer t10,.agg #[(5:Int),df,(0:Int),(0:Int),.slice kh jK h0]] wv (λv24 nt=>
       cv v24 λiG=>
       ν (decide (iG.size=5)) (
        a6 nt ⟨k5,0,none⟩ iG.toList/\∀Ef,Ef=nt.setCells (⟨k5,0,none⟩:Addr).block (⟨k5,0,none⟩:Addr).off iG.toList->
        (eH.fO t16 t19 k5 Ef R))) (ai R))) (ai R))))
def eH.cu(t10:γ)(t15:Nat)(t16 t19:ByteArray)(t20:Int)(w:World)(R:au)(Zi:γ->Nat->ByteArray->ByteArray->Int->al):Prop:=
 cond (decide (t20<5)) (
  ∃eW,w.cell? ⟨t15,2,none⟩=some (.int .i64 eW)/\
  (κ prog 17 #[.pointer t10,eW,t20] w (λqw qX=>
   iI qw λs2=>
   ν (decide (((t19.size+s2.size:Nat):Int)<=IntKind.i64.max)) (
    Zi t10 t15 t16 (t19++s2) (IntKind.i64.wrap (t20+1)) qX)) (ai R))) (
  eH.hW t10 t15 t16 t19 w R)
def eH.WR:=yH eH.cu
def eH.eD(t10:γ)(t15:Nat)(t16:ByteArray)(w:World)(R:au):Prop:=
 eH.WR t10 t15 t16 (⟨#[]⟩:ByteArray) 0 w R
def eH.aa(de:γ)(c3 dy:Nat)(t10:γ)(t15:Nat)(t16:ByteArray)(t18:Int)(w:World)(R:au)(tO:γ->Nat->Nat->γ->Nat->ByteArray->Int->al):Prop:=
 cond (decide (t18<((c3:Nat):Int))) (
  cond (decide (t18<60)) (
   ν (decide (0<=t18)) (
    ν (decide (t18<((c3:Nat):Int))) (
     ξ de λd2=>
     ∃cj,w.cell? (d2.add (t18.toNat*5))=some (.int .i64 cj)/\
     (cond (cj==2) (
      ν (decide (0<=t18)) (
       ν (decide (t18<((c3:Nat):Int))) (
        ξ de λd3=>
        ∃ct,w.cell? ((d3.add (t18.toNat*5)).add 1)=some (.int .i64 ct)/\
        (∃ez,w.cell? ⟨t15,2,none⟩=some (.int .i64 ez)/\
         (∀aV:Nat,
          cond (ct==ez) (
           tO de c3 dy t10 t15 t16 (IntKind.i64.wrap (t18+1)) (w.drewN aV)) (
           eH.dT de c3 dy t10 t15 t16 t18 t18 (decide (t18<60)) (w.drewN aV) R tO)))))) (
      ∀aV:Nat,
      eH.dT de c3 dy t10 t15 t16 t18 t18 (decide (t18<60)) (w.drewN aV) R tO))))) (
   eH.eD t10 t15 t16 w R)) (
  eH.eD t10 t15 t16 w R)
def eH.p7:=DC eH.aa
def eH.cI(de:γ)(c3 dy:Nat)(t10:γ)(t15:Nat)(t16:ByteArray)(w:World)(R:au):Prop:=
 eH.p7 de c3 dy t10 t15 t16 0 w R
def eH.ax(de:γ)(c3 dy:Nat)(t10:γ)(t15:Nat)(t16:ByteArray)(t17:Int)(w:World)(R:au)(rZ:γ->Nat->Nat->γ->Nat->ByteArray->Int->al):Prop:=
 cond (decide (t17<5)) (
  ∃aU,w.cell? ⟨t15,2,none⟩=some (.int .i64 aU)/\
  (κ prog 17 #[.pointer t10,aU,t17] w (λnS jT=>
   iI nS λs1=>
   ν (decide (((t16.size+s1.size:Nat):Int)<=IntKind.i64.max)) (
    rZ de c3 dy t10 t15 (t16++s1) (IntKind.i64.wrap (t17+1)) jT)) (ai R))) (
  eH.cI de c3 dy t10 t15 t16 w R)
def eH.ob:=DC eH.ax
def eH.b4(de:γ)(c3 dy:Nat)(t10:γ)(t12:Nat)(w:World)(R:au):Prop:=
 ∃ay,w.cell? ⟨t12,2,none⟩=some (.int .i64 ay)/\
 (κ prog 14 #[.pointer t10,.agg #[(3:Int),ay,(0:Int),(0:Int),.slice none 0 0]] w (λnR nr=>
  cv nR λhJ=>
  aK nr #[(0:Int),(0:Int),(0:Int),.slice none 0 0,.slice none 0 0] 37 λdR jS=>
  ν (decide (hJ.size=5)) (
   a6 jS ⟨dR,0,none⟩ hJ.toList/\∀kZ,kZ=jS.setCells (⟨dR,0,none⟩:Addr).block (⟨dR,0,none⟩:Addr).off hJ.toList->
   (∃aM,kZ.cell? ⟨dR,1,none⟩=some (.int .i64 aM)/\
    (cond (aM !=0) (
     R (.returned (.bool false)) kZ) (
     eH.ob de c3 dy t10 dR (⟨#[]⟩:ByteArray) 0 kZ R))))) (ai R))
def eH.ζ(de:γ)(c3 dy:Nat)(t10:γ)(t12:Nat)(t13:Int)(w:World)(R:au)(gi:γ->Nat->Nat->γ->Nat->Int->al):Prop:=
 cond (decide (t13<5)) (
  ∃ρ,w.drew.cell? ⟨t12,2,none⟩=some (.int .i64 ρ)/\
  ((κ prog 15 #[.int .u8 (IntKind.u8.wrap (IntKind.i64.wrap (t13+1)))] w.drew (λv10 dP=>
     cX v10 λbj aD c1=>
     dP.cell? ⟨t12,2,none⟩=some (.int .i64 ρ)/\
     ((κ prog 14 #[.pointer t10,.agg #[(5:Int),ρ,t13,(0:Int),.slice bj aD c1]] dP (λv11 eE=>
        cv v11 λfu=>
        aK eE #[(0:Int),(0:Int),(0:Int),.slice none 0 0,.slice none 0 0] 37 λax dM=>
        ν (decide (fu.size=5)) (
         a6 dM ⟨ax,0,none⟩ fu.toList/\∀eg,eg=dM.setCells (⟨ax,0,none⟩:Addr).block (⟨ax,0,none⟩:Addr).off fu.toList->
         (eH.bK de c3 dy t10 t12 t13 ax eg R gi))) (ai R))/\
      (aK dP #[(0:Int),(0:Int),(0:Int),.slice none 0 0,.slice none 0 0] 37 λaa gr=>
       (Value.agg #[(5:Int),ρ,t13,(0:Int),.slice bj aD c1])=(.agg #[(5:Int),ρ,t13,(0:Int),.slice bj aD c1])/\
       (gr.cell? ⟨t12,2,none⟩=some (.int .i64 ρ)/\
        (κ prog 14 #[.pointer t10,.agg #[(5:Int),ρ,t13,(0:Int),.slice bj aD c1]] gr (λv12 eP=>
          cv v12 λfD=>
          ν (decide (fD.size=5)) (
           a6 eP ⟨aa,0,none⟩ fD.toList/\∀fb,fb=eP.setCells (⟨aa,0,none⟩:Addr).block (⟨aa,0,none⟩:Addr).off fD.toList->
           (eH.bK de c3 dy t10 t12 t13 aa fb R gi))) (ai R)))))) (ai R))/\
   (aK w.drew #[(0:Int),(0:Int),(0:Int),.slice none 0 0,.slice none 0 0] 37 λcu eJ=>
    eJ.cell? ⟨t12,2,none⟩=some (.int .i64 ρ)/\
    (κ prog 15 #[.int .u8 (IntKind.u8.wrap (IntKind.i64.wrap (t13+1)))] eJ (λkA gh=>
      cX kA λeo bu c2=>
      gh.cell? ⟨t12,2,none⟩=some (.int .i64 ρ)/\
      (κ prog 14 #[.pointer t10,.agg #[(5:Int),ρ,t13,(0:Int),.slice eo bu c2]] gh (λmM hv=>
        cv mM λfE=>
        ν (decide (fE.size=5)) (
         a6 hv ⟨cu,0,none⟩ fE.toList/\∀ga,ga=hv.setCells (⟨cu,0,none⟩:Addr).block (⟨cu,0,none⟩:Addr).off fE.toList->
         (eH.bK de c3 dy t10 t12 t13 cu ga R gi))) (ai R))) (ai R))))) (
  eH.b4 de c3 dy t10 t12 w R)
def eH.eZ:=oc eH.ζ
def eH.aV(de:γ)(c3 dy:Nat)(t10:γ)(w:World)(R:au):Prop:=
 κ prog 14 #[.pointer t10,.agg #[(2:Int),(7:Int),(0:Int),(0:Int),.slice none 0 0]] w (λfm bW=>
  cv fm λbC=>
  κ prog 14 #[.pointer t10,.agg #[(2:Int),(6:Int),(0:Int),(0:Int),.slice none 0 0]] bW (λa7 cd=>
   cv a7 λb0=>
   κ prog 14 #[.pointer t10,.agg #[(1:Int),(0:Int),(0:Int),(5:Int),.slice none 0 0]] cd (λv9 cE=>
    cv v9 λdr=>
    aK cE #[(0:Int),(0:Int),(0:Int),.slice none 0 0,.slice none 0 0] 37 λζ dp=>
    ν (decide (dr.size=5)) (
     a6 dp ⟨ζ,0,none⟩ dr.toList/\∀ed,ed=dp.setCells (⟨ζ,0,none⟩:Addr).block (⟨ζ,0,none⟩:Addr).off dr.toList->
     (∃θ,ed.cell? ⟨ζ,1,none⟩=some (.int .i64 θ)/\
      (cond (θ !=0) (
       R (.returned (.bool false)) ed) (
       eH.eZ de c3 dy t10 ζ 0 ed R))))) (ai R)) (ai R)) (ai R)
def eH.δ(dw:γ)(dh ef:Nat)(de:γ)(c3 dy:Nat)(t10:γ)(t11:Int)(w:World)(R:au)(a1:γ->Nat->Nat->γ->Nat->Nat->γ->Int->al):Prop:=
 cond (decide (t11<((dh:Nat):Int))) (
  cond (decide (t11<60)) (
   ν (decide (0<=t11)) (
    ν (decide (t11<((dh:Nat):Int))) (
     ξ dw λd1=>
     ∃(bz:aj),bz.size=5/\aB w (d1.add (t11.toNat*5)) bz.toList/\
     (κ prog 14 #[.pointer t10,.agg bz] w (λv6 a8=>
      cv v6 λbO=>
      a1 dw dh ef de c3 dy t10 (IntKind.i64.wrap (t11+1)) a8) (ai R))))) (
   eH.aV de c3 dy t10 w R)) (
  eH.aV de c3 dy t10 w R)
def eH.bb:=Jp eH.δ
def eH.main(a0 aw:Int)(hI:γ)(ev ij:Nat)(r4:γ)(q7 r3:Nat)(w:World)(R:au):Prop:=
 κ prog 12 #[.int .u8 a0,.int .u8 aw] w (λv1 ε=>
  cv v1 λaE=>
  κ prog 11 #[.agg aE] ε (λv2 χ=>
   b7 v2 λbN=>
   ξ (bN[0]?) λv3=>
   gI v3 λae=>
   ξ (bN[1]?) λv4=>
   gI v4 λaX=>
   cond (Option.isNone aX) (
    R (.returned (.bool false)) χ) (
    κ prog 13 #[] χ (λv5 an=>
     dF v5 λδ=>
     cond (!δ) (
      R (.returned (.bool false)) an) (
      eH.bb hI ev ij r4 q7 r3 aX 0 an R)) (ai R))) (ai R)) (ai R)
abbrev eH.C(a0 aw:Int)(hI:γ)(ev ij:Nat)(r4:γ)(q7 r3:Nat):=Calls prog 4 #[.int .u8 a0,.int .u8 aw,.slice hI ev ij,.slice r4 q7 r3]
theorem eH.ok:CG eH.main eH.C:=λ{_ _ _ _ _ _ _ _ _ R}h=>fo func4 [.tmp 8] 166 (.seq .leaf (.seq .leaf (.seq .leaf (.cut [(3,.slice),(10,.ptr)] (eH.aV · · · · · R) (.seq .leaf (.block (.loop [(2,.slice),(3,.slice),(10,.ptr),(11,.int .i64)] (eH.bb · · · · · · · · · R) λa1=>.leaf))) (.seq .leaf (.seq .leaf (.seq .leaf (.seq .leaf (.cut [(3,.slice),(10,.ptr),(12,.cA)] (eH.b4 · · · · · · R) (.seq .leaf (.block (.loop [(3,.slice),(10,.ptr),(12,.cA),(13,.int .i64)] (eH.eZ · · · · · · · R) λgi=>(.seq .leaf (.seq (.block (.cut [(3,.slice),(10,.ptr),(12,.cA),(13,.int .i64),(14,.cA)] (eH.bK · · · · · · · · R gi) .leaf .leaf)) .leaf))))) (.seq .leaf (.seq .leaf (.seq .leaf (.cut [(3,.slice),(10,.ptr),(15,.cA),(16,.str)] (eH.cI · · · · · · · R) (.seq .leaf (.block (.loop [(3,.slice),(10,.ptr),(15,.cA),(16,.str),(17,.int .i64)] (eH.ob · · · · · · · · R) λrZ=>.leaf))) (.cut [(10,.ptr),(15,.cA),(16,.str)] (eH.eD · · · · R) (.seq .leaf (.block (.loop [(3,.slice),(10,.ptr),(15,.cA),(16,.str),(18,.int .i64)] (eH.p7 · · · · · · · · R) λtO=>(.seq .leaf (.seq (.block (.cut [(3,.slice),(10,.ptr),(15,.cA),(16,.str),(18,.int .i64),(109,.int .i64),(110,.bool)] (eH.dT · · · · · · · · · · R tO) .leaf .leaf)) .leaf))))) (.seq .leaf (.cut [(10,.ptr),(15,.cA),(16,.str),(19,.str)] (eH.hW · · · · · R) (.seq .leaf (.block (.loop [(10,.ptr),(15,.cA),(16,.str),(19,.str),(20,.int .i64)] (eH.WR · · · · · · R) λZi=>.leaf))) (.cut [(16,.str),(19,.str),(21,.cA)] (eH.fO · · · · R) .leaf .leaf))))))))))))))))) h
end Go.Proofs.YtcpdfhkhaekekaaGreat.G
namespace Go.Proofs.YtcpdfhkhaekekaaGreat.G.cY
open Go.bJ Go.RowKit cF dI eI cS aQ
def cont(l:List (Option fK))(b:Nat):List Int:=match(l[b]?).join with
 |none=>ba.gN
 |some x=>x.2
theorem He{A:c6}{E:List hn}{v b:Nat}{k s:Int}{l:List (Option fK)}(eB:A.E[v]?=some (k,s,l))(az:v<8)(hk:k≠0)(τ:(b:Int)<s):(cQ A (nX v b)).2={fh with bs:=cont l b}:=by unfold cQ;rw[if_pos ⟨show(1:Int)<=4 by decide,show(4:Int)<=9 by decide⟩];unfold jf nX;dsimp only;rw[if_neg (by omega),if_neg (by omega),if_neg (by omega),if_pos rfl,sX az eB hk];dsimp only;rw[if_neg (by omega),Int.toNat_natCast];unfold cont;cases(l[b]?).join<;>rfl
theorem Ch{A:c6}{v b:Nat}{k s:Int}{l:List (Option fK)}(eB:A.E[v]?=some (k,s,l))(az:v<8)(hk:k≠0)(τ:(b:Int)<s):nd A v b=strOf (cont l b):=by unfold nd DZ;rw[He (E:=A.E) eB az hk τ];rfl
def hd(v b:Int)(bs:List Int):aQ.Ask:=⟨5,v,b,0,bs⟩
theorem AW{A:c6}{v b:Nat}{s:Int}{l:List (Option fK)}{bs:List Int}(eB:A.E[v]?=some (1,s,l))(az:v<8)(τ:(b:Int)<s)(jW:bs.length=64):
  cQ A (hd v b bs)=if A.cap<(l7 A.E:Int)+1 then kB A 9 else({A with E:=A.E.set v (1,s,l.set b (some (A.n,bs))),n:=A.n+1},fh):=by
 unfold cQ;rw[if_pos ⟨show(1:Int)<=5 by decide,show(5:Int)<=9 by decide⟩];unfold jf hd;dsimp only;rw[if_neg (by omega),if_neg (by omega),if_neg (by omega),if_neg (by omega),if_pos rfl,sX az eB (show(1:Int)≠0 by decide)];dsimp only;rw[if_neg (by decide),if_neg (by omega),if_neg (by omega),Int.toNat_natCast,Int.toNat_natCast,Cl eB]
theorem T0{l:List (Option fK)}{b gg:Nat}{x:fK}(τ:b<l.length):cont (l.set b (some x)) gg=if gg=b then x.2 else cont l gg:=by
 unfold cont;rw[List.getElem?_set];by_cases h:b=gg
 ·rw[if_pos h,if_pos τ,if_pos h.symm];rfl
 ·rw[if_neg h,if_neg (λe=>h e.symm)]
open Tryz Go
section
variable{w0 W:World}{pp N:Nat}{P:c6->Prop}
theorem Pm(h:ec w0 pp W N P)(ek:N<=600000)(c:Bool){C:al}{X:List PanicEntry->al}(hC:∀w',ec w0 pp w' (N+5) P->ny W w'->C w'):
  cond c (κ prog 16 #[.pointer (some ⟨pp,0,none⟩),.int .i64 2] W (λv10 eO=>b7 v10 λeY=>C eO) X) (C W):=by
 cases c with
 |true=>exact acV h ek λw' e2 k=>hC w' e2 k
 |false=>exact hC W (h.more (by omega) λ_ h=>h) λB e sz p l c vs o ar=>o
theorem vN{v:Value}{r:gj}(az:tQ W v r){Y:Nat->al}(K:∀b w' t cr b8 dc cx cC cD,η W w'->W.heap.size<=b->μ w' b ck 5 (some ⟨b,0,none⟩) 1 1 (fY t r cr b8 dc cx cC cD)->μ w' 0 dt 1 cr b8 dc (a7 r.bs)->μ w' 0 cz 1 cx cC cD (bA.cW r.pr)->Y b w'):
  cv v λaE=>aK W #[.int .i64 0,.int .i64 0,.int .i64 0,bR,bR] ck λδ χ=>ν (decide (aE.size=5)) (a6 χ (⟨δ,0,none⟩:Addr) aE.toList/\∀ao,ao=χ.setCells (⟨δ,0,none⟩:Addr).block (⟨δ,0,none⟩:Addr).off aE.toList->Y δ ao):=by
 obtain⟨D,t,az⟩:=az;exact Ci az λb w' cr b8 dc cx cC cD x τ σ af bh _=>K b w' t cr b8 dc cx cC cD x τ σ af bh
end
abbrev o2:Nat->bl:=λb c=>c*b<=140737488351232
def uM:o3:=.int .i64 (.int .i64 (.int .i64 (.int .i64 (.cg 1 (.int .u8 .done) .done))))
theorem ND{w:World}{r:aY}(h:lq w o2 uM r):∃q:b9.cZ,r=q.cells/\bd w q.p (b9.bytesOf q)/\b9.Small q:=by obtain⟨a,_,rfl,ajx,b,_,rfl,_,c,_,rfl,_,d,_,rfl,_,p,n,m,rows,_,rfl,ab,aS⟩:=h;obtain rfl:_=[]:=aS;obtain⟨xs,I,hm,_⟩:=ab.ints;exact⟨⟨a,b,c,d,xs,p,n,m⟩,rfl,I.cells,I.size,by have:=I.room;show _<=_;dsimp only;omega,λx J=>qx (I.wf x J)⟩
theorem D2{w:World}:∀{rows:List aY},(∀r∈rows,lq w o2 uM r)->∃rs:List b9.cZ,rows=rs.map b9.cZ.cells/\∀q∈rs,bd w q.p (b9.bytesOf q)/\b9.Small q
 |[],_=>⟨[],rfl,by simp⟩
 |r::rows,h=>by
  obtain⟨q,rfl,aH⟩:=ND (h r (by simp));obtain⟨rs,rfl,ku⟩:=D2 (rows:=rows) λx J=>h x (ie _ J);exact⟨q::rs,rfl,λx J=>by
   rcases fB.1 J with rfl|J
   ·exact aH
   ·exact ku x J⟩
theorem NA{w:World}{p:γ}{rs:List b9.cZ}(h:bd w p (rs.map b9.cZ.cells).flatten){i:Nat}{q:b9.cZ}(I:rs[i]?=some q):∃a,p=some a/\aB w (a.add (i*5)) q.cells:=
 h.row (λr φ=>by obtain⟨q,_,rfl⟩:=gx.1 φ;rfl) (by decide) (by rw[List.getElem?_map,I];rfl)
theorem D0{A:c6}(h:A.E.length=8)(a:aQ.Ask):(cQ A a).1.E.length=8:=by
 have NK:∀v b q,(xF A.E v b q).length=8:=λv b q=>by
  unfold xF;cases A.E[v]?with
  |none=>exact h
  |some e=>rw[hQ];exact h
 have jI:∀{c:Prop}[Decidable c]{r s:c6×gj},r.1.E.length=8->s.1.E.length=8->(if c then r else s).1.E.length=8:=λ{c}_{r s}φ ab=>by
  by_cases π:c
  ·rw[aN π];exact φ
  ·rw[aL π];exact ab
 have cH:∀e,(kB A e).1.E.length=8:=λe=>h;unfold cQ;refine jI ?_ h;unfold jf;refine jI (jI ?_ (cH _)) (jI ?_ (jI ?_ (jI ?_ (jI ?_ (jI ?_ (jI h (jI h ?_)))))))
 ·cases nf A.E with
  |none=>exact h
  |some i=>show(A.E.set _ _).length=8;rw[hQ];exact h
 ·cases il A.E a.v with
  |none=>exact h
  |some i=>show(A.E.set _ _).length=8;rw[hQ];exact h
 ·cases il A.E a.v with
  |none=>exact h
  |some i=>cases nf A.E with
   |none=>exact h
   |some i=>show(A.E.set _ _).length=8;rw[hQ];exact h
 ·cases il A.E a.v with
  |none=>exact h
  |some e=>
   refine jI h ?_;cases(e.2.2[a.b.toNat]?).join with
   |none=>exact h
   |some x=>exact h
 ·cases il A.E a.v with
  |none=>exact h
  |some e=>exact jI h (jI h (jI h (jI h (NK _ _ _))))
 ·cases il A.E a.v with
  |none=>exact h
  |some e=>exact jI h (jI h (NK _ _ _))
 ·cases il A.E a.v with
  |none=>exact h
  |some i=>exact h
def my(v:Int):aQ.Ask:=⟨2,v,0,0,[]⟩
theorem PA{A:c6}(h:A.E.length=8){v:Nat}(az:v<8):∃e,(cQ A (my v)).1.E[v]?=some e/\e.1=0:=by
 unfold cQ;rw[aN ⟨show(1:Int)<=2 by decide,show(2:Int)<=9 by decide⟩];unfold jf my;dsimp only;rw[aL (by omega),aN rfl];cases he:il A.E (v:Int)with
 |none=>
  show∃e,A.E[v]?=some e/\e.1=0;unfold il at he;rw[aN (by omega),ch,List.getElem?_eq_getElem (by omega)]at he;refine⟨A.E[v]'(by omega),List.getElem?_eq_getElem (by omega),?_⟩;by_cases aF:(A.E[v]'(by omega)).1=0
  ·exact aF
  ·simp[Option.filter,aF]at he
 |some e=>
  refine⟨(0,0,[]),?_,rfl⟩;show(A.E.set (v:Int).toNat (0,0,[]))[v]?=_;rw[ch,List.getElem?_set,aN rfl,aN (by omega)]
theorem RY{E:List hn}{v:Nat}{e:hn}(h:E[v]?=some e)(aF:e.1=0):∃i,nf E=some i/\i<E.length:=by
 unfold nf;cases bm:E.findIdx? λe=>decide (e.1=0)with
 |none=>
  have:=List.findIdx?_eq_none_iff.1 bm e (fa h)
  rw[aF]at this;simp at this
 |some i=>exact⟨i,rfl,(List.findIdx?_eq_some_iff_getElem.1 bm).1⟩
theorem tQ.agg{w:World}{v:Value}{r:gj}(h:tQ w v r){Q:aj->Prop}(dY:∀cs,Q cs):cv v Q:=by obtain⟨D,t,cr,b8,dc,cx,cC,cD,rfl,_⟩:=h;exact dY _
theorem AM{W:World}{Y:Nat->al}(K:∀b w',η W w'->W.heap.size<=b->μ w' b ck 5 (some ⟨b,0,none⟩) 1 1 (fJ 0 bR bR)->Y b w'):aK W #[.int .i64 0,.int .i64 0,.int .i64 0,bR,bR] ck Y:=by rintro b w' τ rfl;have o:=μ.new (w:=W) (fJ 0 bR bR) ck;rw[<-τ]at o;exact K b _ (η.alloc W _) (by omega) o
theorem Oh{W mw:World}{pp N b:Nat}{P:c6->Prop}(h:ec mw pp W N P)(τ:mw.heap.size<=b){B:Nat}{z:aY}(o:μ W B ck 5 (some ⟨b,0,none⟩) 1 1 z){v:Value}{r:gj}(az:tQ W v r){Y:al}
  (K:∀w' t cr b8 dc cx cC cD,ec mw pp w' N P->Kp W w' (λi=>i=b)->μ w' B ck 5 (some ⟨b,0,none⟩) 1 1 (fY t r cr b8 dc cx cC cD)->Y w'):
  cv v λaE=>ν (decide (aE.size=5)) (a6 W (⟨b,0,none⟩:Addr) aE.toList/\∀ao,ao=W.setCells (⟨b,0,none⟩:Addr).block (⟨b,0,none⟩:Addr).off aE.toList->Y ao):=by
 obtain⟨D,t,cr,b8,dc,cx,cC,cD,rfl,_⟩:=az
 try dsimp only[hA,h7]
 refine aT rfl (o.put (cs:=fY t r cr b8 dc cx cC cD) rfl qL λbV fO e4=>?_);exact K bV t cr b8 dc cx cC cD (h.loc fO τ (o.typed rfl).1 (by decide) (by decide) (by decide)) fO e4
end Go.Proofs.YtcpdfhkhaekekaaGreat.G.cY
namespace Go.Proofs.YtcpdfhkhaekekaaGreat.G.cY
open Go Go.bJ Go.RowKit cF dI eI cS aQ
def wO(v:Int):aQ.Ask:=⟨3,v,0,0,[]⟩
theorem UB{E:List hn}{v:Int}{e:hn}(h:il E v=some e):0<=v/\v<8/\E[v.toNat]?=some e/\e.1≠0:=Lk h
theorem avv{E:List hn}{i:Nat}(h:nf E=some i):∃e,E[i]?=some e/\e.1=0:=by unfold nf at h;obtain⟨ak,h1,_⟩:=List.findIdx?_eq_some_iff_getElem.1 h;exact⟨E[i],List.getElem?_eq_getElem ak,b6 h1⟩
theorem avw{E:List hn}{i v:Nat}{e:hn}(h:nf E=some i)(az:E[v]?=some e)(aF:e.1=0):i<=v:=by
 unfold nf at h;obtain⟨ak,h1,ι⟩:=List.findIdx?_eq_some_iff_getElem.1 h;apply JS;intro bQ
 have:=ι v bQ
 rw[List.getElem?_eq_getElem (by omega)]at az;have he:=Cd az;rw[he,aF]at this;simp at this
theorem BM{c:Prop}[Decidable c]{r s:c6×gj}{P:List hn->Prop}(h:P r.1.E)(k:P s.1.E):P (if c then r else s).1.E:=by
 by_cases π:c
 ·rw[aN π];exact h
 ·rw[aL π];exact k
theorem arJ{A:c6}{j:Nat}{s:Int}{l:List (Option fK)}(h:A.E[j]?=some (2,s,l)){a:aQ.Ask}(ah:¬(a.k=2/\a.v=j)):(cQ A a).1.E[j]?=some (2,s,l):=by
 have kF:∀(i:Nat)(e:hn),i≠j->(A.E.set i e)[j]?=some (2,s,l):=λi e I=>by rw[List.getElem?_set,aL I];exact h
 have k8:∀i,nf A.E=some i->i≠j:=λi I e=>by obtain⟨db,h1,ι⟩:=avv I;rw[e,h]at h1;cases h1;cases ι
 have eB:∀v b q,v≠j->(xF A.E v b q)[j]?=some (2,s,l):=λv b q az=>by
  unfold xF;cases A.E[v]?with
  |none=>exact h
  |some e=>exact kF v _ az
 unfold cQ;refine BM (P:=λE=>E[j]?=some (2,s,l)) ?_ h;unfold jf;by_cases h1:a.k=1
 ·rw[aN h1];refine BM (P:=λE=>E[j]?=some (2,s,l)) ?_ h;cases ab:nf A.E with
  |none=>exact h
  |some i=>exact kF i _ (k8 i ab)
 rw[aL h1];by_cases ι:a.k=2
 ·rw[aN ι];cases he:il A.E a.v with
  |none=>exact h
  |some e=>
   obtain⟨v0,_⟩:=UB he;exact kF a.v.toNat _ (λe=>ah ⟨ι,by omega⟩)
 rw[aL ι];by_cases aJ:a.k=3
 ·rw[aN aJ];cases he:il A.E a.v with
  |none=>exact h
  |some e=>cases ab:nf A.E with
   |none=>exact h
   |some i=>exact kF i _ (k8 i ab)
 rw[aL aJ];by_cases cK:a.k=4
 ·rw[aN cK];cases he:il A.E a.v with
  |none=>exact h
  |some e=>
   refine BM (P:=λE=>E[j]?=some (2,s,l)) h ?_;cases(e.2.2[a.b.toNat]?).join with
   |none=>exact h
   |some x=>exact h
 rw[aL cK];by_cases dx:a.k=5
 ·rw[aN dx];cases he:il A.E a.v with
  |none=>exact h
  |some e=>
   dsimp only;by_cases mD:e.1=2
   ·rw[aN mD];exact h
   rw[aL mD];have az:a.v.toNat≠j:=λdb=>by obtain⟨_,_,h1,_⟩:=UB he;rw[db,h]at h1;cases h1;exact mD rfl
   exact BM (P:=λE=>E[j]?=some (2,s,l)) h (BM (P:=λE=>E[j]?=some (2,s,l)) h (BM (P:=λE=>E[j]?=some (2,s,l)) h (eB _ _ _ az)))
 rw[aL dx];by_cases h8:a.k=6
 ·rw[aN h8];cases he:il A.E a.v with
  |none=>exact h
  |some e=>
   dsimp only;by_cases mD:e.1=2
   ·rw[aN mD];exact h
   rw[aL mD];have az:a.v.toNat≠j:=λdb=>by obtain⟨_,_,h1,_⟩:=UB he;rw[db,h]at h1;cases h1;exact mD rfl
   exact BM (P:=λE=>E[j]?=some (2,s,l)) h (eB _ _ _ az)
 rw[aL h8];refine BM (P:=λE=>E[j]?=some (2,s,l)) h (BM (P:=λE=>E[j]?=some (2,s,l)) h ?_);cases il A.E a.v with
 |none=>exact h
 |some i=>exact h
def Ex(i:Nat)(l:List (Option fK))(A:c6):Prop:=A.E.length=8/\A.E[i]?=some (1,5,l)/\(∃e,A.E[7]?=some e/\e.1=0)/\l.length=5/\∀b,(cont l b).length=64
theorem ayf{A:c6}(h:A.E.length=8)(h8:∃e,A.E[6]?=some e/\e.1=0)(hq:∃e,A.E[7]?=some e/\e.1=0):
  ∃i:Nat,i<7/\(cQ A (ox 5)).2={fh with id:=i}/\Ex i (List.replicate 5 none) (cQ A (ox 5)).1:=by
 obtain⟨rh,h8,ajM⟩:=h8;obtain⟨sa,hq,ayA⟩:=hq;obtain⟨i,I,ak⟩:=RY h8 ajM;have hle:=avw I h8 ajM;have hlen:=D0 h (ox 5);have aP:cQ A (ox 5)=({A with E:=A.E.set i (1,5,List.replicate (5:Int).toNat none)},{fh with id:=i}):=by unfold cQ;rw[aN ⟨show(1:Int)<=1 by decide,show(1:Int)<=9 by decide⟩];unfold jf ox;dsimp only;rw[aN rfl,aN (by omega),I]
 rw[aP]at hlen⊢;refine⟨i,by omega,rfl,hlen,?_,⟨sa,?_,ayA⟩,rfl,λb=>?_⟩
 ·show(A.E.set i _)[i]?=_;rw[List.getElem?_set,aN rfl,aN ak];rfl
 ·show(A.E.set i _)[7]?=_;rw[List.getElem?_set,aL (by omega)];exact hq
 ·unfold cont;rw[List.getElem?_replicate];by_cases τ:b<5
  ·rw[aN τ];rfl
  ·rw[aL τ];rfl
theorem ayh{A:c6}{i b:Nat}{l:List (Option fK)}(h:Ex i l A)(I:i<7)(τ:b<5){bs:aq}(jW:bs.length=64):
  ((cQ A (hd i b bs)).2.e=0\/(cQ A (hd i b bs)).2.e=9)/\∃mF,Ex i mF (cQ A (hd i b bs)).1:=by
 obtain⟨dK,fp,⟨sa,na,DN⟩,XW,XX⟩:=h;have ak:=(List.getElem?_eq_some_iff.1 fp).1;rw[AW fp (by omega) (by omega) jW];by_cases π:A.cap<(l7 A.E:Int)+1
 ·rw[aN π];exact⟨.inr rfl,l,dK,fp,⟨sa,na,DN⟩,XW,XX⟩
 ·rw[aL π];refine⟨.inl rfl,l.set b (some (A.n,bs)),by show(A.E.set i _).length=8;rw[hQ];exact dK,?_,⟨sa,?_,DN⟩,by rw[hQ];exact XW,λgg=>?_⟩
  ·show(A.E.set i _)[i]?=_;rw[List.getElem?_set,aN rfl,aN ak]
  ·show(A.E.set i _)[7]?=_;rw[List.getElem?_set,aL (by omega)];exact na
  ·rw[T0 (by omega)];by_cases rl:gg=b
   ·rw[aN rl];exact jW
   ·rw[aL rl];exact XX gg
def vh(j:Nat)(l:List (Option fK))(A:c6):Prop:=A.E[j]?=some (2,5,l)
theorem ayg{A:c6}{i:Nat}{l:List (Option fK)}(h:Ex i l A)(I:i<7):
  ∃j:Nat,j<8/\(cQ A (wO i)).2={fh with id:=(j:Int)}/\vh j l (cQ A (wO i)).1:=by
 obtain⟨dK,fp,⟨sa,na,DN⟩,XW,XX⟩:=h;obtain⟨j,ψ,ak⟩:=RY na DN;have aP:cQ A (wO i)=({A with E:=A.E.set j (2,5,l)},{fh with id:=j}):=by unfold cQ;rw[aN ⟨show(1:Int)<=3 by decide,show(3:Int)<=9 by decide⟩];unfold jf wO;dsimp only;rw[aL (by omega),aL (by omega),aN rfl,sX (by omega) fp (show(1:Int)≠0 by decide),ψ]
 rw[aP];refine⟨j,by omega,rfl,?_⟩;show(A.E.set j _)[j]?=_;rw[List.getElem?_set,aN rfl,aN ak]
theorem avo{A:c6}{j b:Nat}{l:List (Option fK)}(h:vh j l A)(ψ:j<8){bs:aq}:(cQ A (hd j b bs))=kB A 8:=by unfold cQ;rw[aN ⟨show(1:Int)<=5 by decide,show(5:Int)<=9 by decide⟩];unfold jf hd;dsimp only;rw[aL (by omega),aL (by omega),aL (by omega),aL (by omega),aN rfl,sX ψ h (show(2:Int)≠0 by decide)];dsimp only;rw[aN rfl]
open Tryz
section
variable{w0 W:World}{pp N:Nat}{P:c6->Prop}
theorem abV(h:ec w0 pp W N P)(ek:N<=100000){x:Int}(J:0<=x/\x<256){v b:Int}{ζ fs:Nat}{t:Int}{r:gj}{cr:γ}{b8 dc:Nat}{cx:γ}{cC cD:Nat}(af:μ W fs ck 5 (some ⟨ζ,0,none⟩) 1 1 (fY t r cr b8 dc cx cC cD))(kS:r.id=v){K:Nat->al}{qz ft ha iF nW:List PanicEntry->al}
  (jA:∀ax w' A wC t3 Up Uo Uj Xf Xe Xa,P A->ec w0 pp w' (N+5) (λgm=>gm=(cQ A (hd v b (List.replicate 64 x))).1)->μ w' fs ck 5 (some ⟨ζ,0,none⟩) 1 1 (fY t r cr b8 dc cx cC cD)->μ w' wC ck 5 (some ⟨ax,0,none⟩) 1 1 (fY t3 (cQ A (hd v b (List.replicate 64 x))).2 Up Uo Uj Xf Xe Xa)->K ax w'):
  ∃(ρ:Int),W.cell? (⟨ζ,2,none⟩:Addr)=some (.int .i64 ρ)/\
  ((κ prog 15 #[.int .u8 x] W (λv10 dP=>cX v10 λbj aD c1=>dP.cell? (⟨ζ,2,none⟩:Addr)=some (.int .i64 ρ)/\
   ((κ prog 14 #[.pointer (some ⟨pp,0,none⟩),.agg #[.int .i64 5,.int .i64 ρ,.int .i64 b,.int .i64 0,.slice bj aD c1]] dP (λv11 eE=>cv v11 λfu=>aK eE #[.int .i64 0,.int .i64 0,.int .i64 0,bR,bR] ck λax dM=>ν (decide (fu.size=5)) (a6 dM (⟨ax,0,none⟩:Addr) fu.toList/\∀eg,eg=dM.setCells (⟨ax,0,none⟩:Addr).block (⟨ax,0,none⟩:Addr).off fu.toList->K ax eg)) qz)/\
   (aK dP #[.int .i64 0,.int .i64 0,.int .i64 0,bR,bR] ck λaa gr=>(Value.agg #[.int .i64 5,.int .i64 ρ,.int .i64 b,.int .i64 0,.slice bj aD c1]=Value.agg #[.int .i64 5,.int .i64 ρ,.int .i64 b,.int .i64 0,.slice bj aD c1])/\(gr.cell? (⟨ζ,2,none⟩:Addr)=some (.int .i64 ρ)/\
    (κ prog 14 #[.pointer (some ⟨pp,0,none⟩),.agg #[.int .i64 5,.int .i64 ρ,.int .i64 b,.int .i64 0,.slice bj aD c1]] gr (λv12 eP=>cv v12 λfD=>ν (decide (fD.size=5)) (a6 eP (⟨aa,0,none⟩:Addr) fD.toList/\∀fb,fb=eP.setCells (⟨aa,0,none⟩:Addr).block (⟨aa,0,none⟩:Addr).off fD.toList->K aa fb)) ft))))) ha)/\
  (aK W #[.int .i64 0,.int .i64 0,.int .i64 0,bR,bR] ck λcu eJ=>eJ.cell? (⟨ζ,2,none⟩:Addr)=some (.int .i64 ρ)/\
   (κ prog 15 #[.int .u8 x] eJ (λkA gh=>cX kA λeo bu c2=>gh.cell? (⟨ζ,2,none⟩:Addr)=some (.int .i64 ρ)/\
   (κ prog 14 #[.pointer (some ⟨pp,0,none⟩),.agg #[.int .i64 5,.int .i64 ρ,.int .i64 b,.int .i64 0,.slice eo bu c2]] gh (λmM hv=>cv mM λfE=>ν (decide (fE.size=5)) (a6 hv (⟨cu,0,none⟩:Addr) fE.toList/\∀ga,ga=hv.setCells (⟨cu,0,none⟩:Addr).block (⟨cu,0,none⟩:Addr).off fE.toList->K cu ga)) iF)) nW))):=by
 have g2:∀{bq:World},μ bq fs ck 5 (some ⟨ζ,0,none⟩) 1 1 (fY t r cr b8 dc cx cC cD)->bq.cell? (⟨ζ,2,none⟩:Addr)=some (.int .i64 v):=λo=>by
  have:=o.at (j:=2) rfl
  rw[kS]at this;exact this
 have iA:∀hz,dW (qM v b x hz)=hd v b (List.replicate 64 x):=λ_=>rfl;refine⟨_,g2 af,?_,?_⟩
 ·refine κ.use (wW x J W) ?_;rintro _ dM ⟨hz,rfl,tM,of⟩
  try dsimp only[ee]
  have lW:=h.to tM;have j2:=af.ex tM;refine⟨g2 j2,?_,?_⟩
  ·refine gv lW (by omega) (qM v b x hz) of.cells (Aw hz J) λgr A u cc C9 yD hu=>?_;rw[iA]at C9 hu;have uA:=yD _ _ _ _ _ _ _ j2 (by decide);refine vN hu λcu fb t5 Ld Lc La MN ML MH pI lY cB _ _=>?_;exact jA _ _ _ _ _ _ _ _ _ _ _ cc (C9.to pI) (uA.ex pI) cB
  ·refine AM λdR eJ nu w4 bY=>?_;have vF:=lW.to nu;have qG:=j2.ex nu;refine⟨rfl,g2 qG,?_⟩;have Vp:w0.heap.size<=dR:=by have:=lW.ex.size;omega
   refine gv vF (by omega) (qM v b x hz) (of.ex nu).cells (Aw hz J) λgh A u cc Da Mx hu=>?_;rw[iA]at Da hu;have BX:=Mx _ _ _ _ _ _ _ qG (by decide);have bY:=Mx _ _ _ _ _ _ _ bY (by decide);have bQ:ζ≠dR:=λe=>by have:=(j2.ge rfl).2;dsimp only at this;omega
   refine Oh Da Vp bY hu λhv t5 Ld Lc La MN ML MH IT Gl xm=>?_;exact jA _ _ _ _ _ _ _ _ _ _ _ cc IT (BX.aO Gl λy ag I=>by cases ag;exact bQ I) xm
 ·refine AM λgu nq El Bv eN=>?_;have Lv:=h.to El;have yL:=af.ex El;have Vq:w0.heap.size<=gu:=by have:=h.ex.size;omega
  have bQ:ζ≠gu:=λe=>by have:=(af.ge rfl).2;dsimp only at this;omega
  refine⟨g2 yL,?_⟩;refine κ.use (wW x J nq) ?_;rintro _ ga ⟨hz,rfl,wz,of⟩
  try dsimp only[ee]
  have lD:=Lv.to wz;have qH:=yL.ex wz;refine⟨g2 qH,?_⟩;refine gv lD (by omega) (qM v b x hz) of.cells (Aw hz J) λkY A u cc Lx Mz hu=>?_;rw[iA]at Lx hu;have BY:=Mz _ _ _ _ _ _ _ qH (by decide);have eN:=Mz _ _ _ _ _ _ _ (eN.ex wz) (by decide);refine Oh Lx Vq eN hu λkZ t5 Ld Lc La MN ML MH Ly Ae yM=>?_;exact jA _ _ _ _ _ _ _ _ _ _ _ cc Ly (BY.aO Ae λy ag I=>by cases ag;exact bQ I) yM
def cat(l:List (Option fK)):Nat->ByteArray
 |0=>⟨#[]⟩
 |n+1=>cat l n++strOf (cont l n)
theorem TP{l:List (Option fK)}(h:∀b,(cont l b).length=64):∀n,(cat l n).size=64*n
 |0=>rfl
 |n+1=>by show(cat l n++strOf (cont l n)).size=_;rw[RG,TP h n,R5,h];omega
theorem Z0{j ζ fs:Nat}{l:List (Option fK)}(ψ:j<8)(ak:∀b,(cont l b).length=64)(h:ec w0 pp W N (vh j l))(ek:N<=5000){t:Int}{r:gj}{cr:γ}{b8 dc:Nat}{cx:γ}{cC cD:Nat}(af:μ W fs ck 5 (some ⟨ζ,0,none⟩) 1 1 (fY t r cr b8 dc cx cC cD))(kS:r.id=j):
  eH.eD (some ⟨pp,0,none⟩) ζ (cat l 5) W (ω λv w'=>v=.bool true/\η w0 w'):=by
 unfold eH.eD eH.WR;refine⟨λt10 t15 t16 t19 t20 W=>some ⟨pp,0,none⟩=t10/\ζ=t15/\cat l 5=t16/\t19=cat l t20.toNat/\0<=t20/\t20<=5/\ec w0 pp W (N+6*t20.toNat) (vh j l)/\μ W fs ck 5 (some ⟨ζ,0,none⟩) 1 1 (fY t r cr b8 dc cx cC cD),λ_ _ _ _ t20 _=>(5-t20).toNat,⟨rfl,rfl,rfl,rfl,by omega,by omega,h.more (by omega) λ_ h=>h,af⟩,?_⟩;clear h af;rintro _ _ _ _ t20 W ⟨rfl,rfl,rfl,rfl,g0,g1,h,af⟩;unfold eH.cu;obtain⟨b,rfl⟩:=eF g0;rw[ch]at h⊢;have g2:∀{bq:World},μ bq fs ck 5 (some ⟨ζ,0,none⟩) 1 1 (fY t r cr b8 dc cx cC cD)->bq.cell? (⟨ζ,2,none⟩:Addr)=some (.int .i64 j):=λo=>by
  have:=o.at (j:=2) rfl
  rw[kS]at this;exact this
 refine bt (λτ=>?_) (λτ=>?_)
 ·have τ:=b6 τ;refine⟨_,g2 af,?_⟩;refine ta h (by omega) j b λqX A cc Lz WK=>?_;have s9:nd A j b=strOf (cont l b):=Ch cc ψ (by decide) (by omega);rw[s9]
  try dsimp only[wT]
  refine aT (by rw[TP ak,R5,ak,yx];omega) ?_;have aP:((b:Int)+1).toNat=b+1:=by omega
  rw[bS (x:=(b:Int)+1) (by omega) (by omega)];refine⟨⟨by trivial,by trivial,by trivial,?_,by omega,by omega,?_,WK _ _ _ _ _ _ _ af (by decide)⟩,by((try dsimp only);omega)⟩
  ·rw[aP];rfl
  ·rw[aP];exact Lz.more (by omega) λgm e=>e▸cc
 ·have τ:=dn τ;obtain rfl:b=5:=by omega
  unfold eH.hW;have h:=h.to (η.drew W);have af:=af.ex (η.drew W);generalize W.drew=W at h af⊢;refine abV h (by omega) (x:=1) (by omega) af kS λax w' A wC t3 Up Uo Uj Xf Xe Xa cc hH _ bh=>?_;unfold eH.fO;have hw:=avo (b:=0) cc ψ (bs:=List.replicate 64 1);have hw:cQ A (hd (j:Int) 0 (List.replicate 64 1))=kB A 8:=hw;rw[hw]at bh;rw[cond_pos (by simp)];refine⟨_,bh.at (j:=1) rfl,?_⟩;exact ω.mk ⟨rfl,hH.ex⟩
end
structure wK(w0:World)(p:γ)(n:Nat)(ls:List b9.cZ):Prop where
 cells:bd w0 p (ls.map b9.cZ.cells).flatten
 len:ls.length=n
 each:∀q∈ls,bd w0 q.p (b9.bytesOf q)/\b9.Small q
theorem wK.get{w0:World}{p:γ}{n:Nat}{ls:List b9.cZ}(h:wK w0 p n ls){i:Nat}(I:i<n):∃a q,p=some a/\(∀W,η w0 W->aB W (a.add (i*5)) q.cells/\bd W q.p (b9.bytesOf q))/\b9.Small q:=by
 have zW:i<ls.length:=by rw[h.len];exact I
 obtain⟨a,aR,l4⟩:=NA h.cells (List.getElem?_eq_getElem zW);obtain⟨dK,fp⟩:=h.each _ (hP zW);exact⟨a,ls[i],aR,λW x=>⟨bd.ex (a:=some _) x l4,dK.ex x⟩,fp⟩
theorem abj{W:World}{a:Addr}{vs:aY}(h:aB W a vs){j:Nat}{v:Value}(az:vs[j]?=some v):W.cell? (a.add j)=some v:=h j v az
section
variable{w0 W:World}{pp N:Nat}
set_option maxRecDepth 10000 in
theorem alc{j ζ fs:Nat}{l:List (Option fK)}{p:γ}{n c:Nat}{ls:List b9.cZ}(φ:wK w0 p n ls)(ψ:j<8)(ak:∀b,(cont l b).length=64)(h:ec w0 pp W N (vh j l))(ek:N<=3000){t:Int}{r:gj}{cr:γ}{b8 dc:Nat}{cx:γ}{cC cD:Nat}(af:μ W fs ck 5 (some ⟨ζ,0,none⟩) 1 1 (fY t r cr b8 dc cx cC cD))(kS:r.id=j):
  eH.cI p n c (some ⟨pp,0,none⟩) ζ (cat l 5) W (ω λv w'=>v=.bool true/\η w0 w'):=by
 unfold eH.cI eH.p7;refine⟨λde c3 dy t10 t15 t16 t18 W=>p=de/\n=c3/\c=dy/\some ⟨pp,0,none⟩=t10/\ζ=t15/\cat l 5=t16/\0<=t18/\t18<=60/\ec w0 pp W (N+12*t18.toNat) (vh j l)/\μ W fs ck 5 (some ⟨ζ,0,none⟩) 1 1 (fY t r cr b8 dc cx cC cD),λ_ _ _ _ _ _ t18 _=>(60-t18).toNat,⟨rfl,rfl,rfl,rfl,rfl,rfl,by omega,by omega,h.more (by omega) λ_ h=>h,af⟩,?_⟩;clear h af;rintro _ _ _ _ _ _ t18 W ⟨rfl,rfl,rfl,rfl,rfl,rfl,g0,g1,h,af⟩;unfold eH.aa;obtain⟨i,rfl⟩:=eF g0;rw[ch]at h⊢;refine bt (λI=>?_) (λI=>Z0 ψ ak h (by omega) af kS);refine bt (λhk=>?_) (λhk=>Z0 ψ ak h (by omega) af kS);have I:=b6 I;have hk:=b6 hk;obtain⟨a,q,aR,aH,ab⟩:=φ.get (i:=i) (by omega);have g2:∀{bq:World},μ bq fs ck 5 (some ⟨ζ,0,none⟩) 1 1 (fY t r cr b8 dc cx cC cD)->bq.cell? (⟨ζ,2,none⟩:Addr)=some (.int .i64 j):=λo=>by
  have:=o.at (j:=2) rfl
  rw[kS]at this;exact this
 have aP:((i:Int)+1).toNat=i+1:=by omega
 have go:∀(bq:World)(lr:Nat),lr<=N+12*(i+1)->ec w0 pp bq lr (vh j l)->μ bq fs ck 5 (some ⟨ζ,0,none⟩) 1 1 (fY t r cr b8 dc cx cC cD)->
   (p=p/\n=n/\c=c/\(some ⟨pp,0,none⟩:γ)=some ⟨pp,0,none⟩/\ζ=ζ/\cat l 5=cat l 5/\0<=IntKind.i64.wrap ((i:Int)+1)/\IntKind.i64.wrap ((i:Int)+1)<=60/\ec w0 pp bq (N+12*(IntKind.i64.wrap ((i:Int)+1)).toNat) (vh j l)/\μ bq fs ck 5 (some ⟨ζ,0,none⟩) 1 1 (fY t r cr b8 dc cx cC cD))/\(60-IntKind.i64.wrap ((i:Int)+1)).toNat<(60-(i:Int)).toNat:=λbq lr FP hH hO=>by
  rw[bS (x:=(i:Int)+1) (by omega) (by omega),aP];exact⟨⟨rfl,rfl,rfl,rfl,rfl,rfl,by omega,by omega,hH.more FP (λ_ h=>h),hO⟩,by omega⟩
 have dT:∀(bq:World),¬(q.k=2/\q.v=j)->ec w0 pp bq (N+12*i) (vh j l)->μ bq fs ck 5 (some ⟨ζ,0,none⟩) 1 1 (fY t r cr b8 dc cx cC cD)->∀(t109:Int)(t110:Bool),
   eH.dT p n c (some ⟨pp,0,none⟩) ζ (cat l 5) (i:Int) t109 t110 bq (ω λv w'=>v=.bool true/\η w0 w') λCq Cp y7 avP R6 R7 Sa w'=>(p=Cq/\n=Cp/\c=y7/\some ⟨pp,0,none⟩=avP/\ζ=R6/\cat l 5=R7/\0<=Sa/\Sa<=60/\ec w0 pp w' (N+12*Sa.toNat) (vh j l)/\μ w' fs ck 5 (some ⟨ζ,0,none⟩) 1 1 (fY t r cr b8 dc cx cC cD))/\(60-Sa).toNat<(60-(i:Int)).toNat:=λbq l1 hH hO t109 t110=>by
  unfold eH.dT;refine aT (by omega) (aT (by omega) ?_);rw[aR]
  try dsimp only[bo]
  rw[ch,<-aR];refine⟨q.cells.toArray,rfl,(aH bq hH.ex).1,?_⟩;refine gv hH (by omega) q (aH bq hH.ex).2 ab λmn A u cc U6 Jj hu=>hu.agg λkb=>?_;have U6:=U6.more (dO _) (P':=vh j l) λgm e=>e▸arJ (a:=dW q) cc l1;exact Pm U6 (by omega) _ λw' e2 k'=>go w' _ (by omega) e2 (k' _ _ _ _ _ _ _ (Jj _ _ _ _ _ _ _ hO (by decide)) (by decide))
 refine aT (by omega) (aT (by omega) ?_);rw[aR]
 try dsimp only[bo]
 have fN:=abj (aH W h.ex).1 (j:=0) (v:=.int .i64 q.k) rfl;have c1:=abj (aH W h.ex).1 (j:=1) (v:=.int .i64 q.v) rfl;have hB:∀(x:Addr),x.add 0=x:=λx=>by cases x;rfl
 rw[hB]at fN;refine⟨q.k,fN,bt (λoD=>?_) (λoD=>?_)⟩
 ·refine aT (by omega) (aT (by omega) ⟨q.v,c1,_,g2 af,λaV=>?_⟩);have eb:=η.drewN W aV;rw[<-aR];refine bt (λaz=>?_) (λaz=>?_)
  ·exact go _ _ (by omega) (h.to eb) (af.ex eb)
  ·exact dT _ (λea=>by simp at az;exact az ea.2) (h.to eb) (af.ex eb) _ _
 ·intro aV;have eb:=η.drewN W aV;rw[<-aR];exact dT _ (λea=>by simp at oD;exact oD ea.1) (h.to eb) (af.ex eb) _ _
theorem ale{j ζ fs:Nat}{l:List (Option fK)}{p:γ}{n c:Nat}{ls:List b9.cZ}(φ:wK w0 p n ls)(ψ:j<8)(ak:∀b,(cont l b).length=64)(h:ec w0 pp W N (vh j l))(ek:N<=2000){t:Int}{r:gj}{cr:γ}{b8 dc:Nat}{cx:γ}{cC cD:Nat}(af:μ W fs ck 5 (some ⟨ζ,0,none⟩) 1 1 (fY t r cr b8 dc cx cC cD))(kS:r.id=j):
  eH.ob p n c (some ⟨pp,0,none⟩) ζ (⟨#[]⟩:ByteArray) 0 W (ω λv w'=>v=.bool true/\η w0 w'):=by
 unfold eH.ob;refine⟨λde c3 dy t10 t15 t16 t17 W=>p=de/\n=c3/\c=dy/\some ⟨pp,0,none⟩=t10/\ζ=t15/\t16=cat l t17.toNat/\0<=t17/\t17<=5/\ec w0 pp W (N+6*t17.toNat) (vh j l)/\μ W fs ck 5 (some ⟨ζ,0,none⟩) 1 1 (fY t r cr b8 dc cx cC cD),λ_ _ _ _ _ _ t17 _=>(5-t17).toNat,⟨rfl,rfl,rfl,rfl,rfl,rfl,by omega,by omega,h.more (by omega) λ_ h=>h,af⟩,?_⟩;clear h af;rintro _ _ _ _ _ _ t17 W ⟨rfl,rfl,rfl,rfl,rfl,rfl,g0,g1,h,af⟩;unfold eH.ax;obtain⟨b,rfl⟩:=eF g0;rw[ch]at h⊢;have g2:∀{bq:World},μ bq fs ck 5 (some ⟨ζ,0,none⟩) 1 1 (fY t r cr b8 dc cx cC cD)->bq.cell? (⟨ζ,2,none⟩:Addr)=some (.int .i64 j):=λo=>by
  have:=o.at (j:=2) rfl
  rw[kS]at this;exact this
 refine bt (λτ=>?_) (λτ=>?_)
 ·have τ:=b6 τ;refine⟨_,g2 af,?_⟩;refine ta h (by omega) j b λqX A cc Lz WK=>?_;have s9:nd A j b=strOf (cont l b):=Ch cc ψ (by decide) (by omega);rw[s9]
  try dsimp only[wT]
  refine aT (by rw[TP ak,R5,ak,yx];omega) ?_;have aP:((b:Int)+1).toNat=b+1:=by omega
  rw[bS (x:=(b:Int)+1) (by omega) (by omega)];refine⟨⟨by trivial,by trivial,by trivial,by trivial,by trivial,?_,by omega,by omega,?_,WK _ _ _ _ _ _ _ af (by decide)⟩,by((try dsimp only);omega)⟩
  ·rw[aP];rfl
  ·rw[aP];exact Lz.more (by omega) λgm e=>e▸cc
 ·have τ:=dn τ;obtain rfl:b=5:=by omega
  exact alc φ ψ ak h (by omega) af kS
theorem ald{i ζ fs:Nat}{p:γ}{n c:Nat}{ls:List b9.cZ}(φ:wK w0 p n ls)(I:i<7)(h:ec w0 pp W N (λA=>∃l,Ex i l A))(ek:N<=1000){t:Int}{r:gj}{cr:γ}{b8 dc:Nat}{cx:γ}{cC cD:Nat}(af:μ W fs ck 5 (some ⟨ζ,0,none⟩) 1 1 (fY t r cr b8 dc cx cC cD))(kS:r.id=i):
  eH.eZ p n c (some ⟨pp,0,none⟩) ζ 0 W (ω λv w'=>v=.bool true/\η w0 w'):=by
 unfold eH.eZ;refine⟨λde c3 dy t10 t12 t13 W=>p=de/\n=c3/\c=dy/\some ⟨pp,0,none⟩=t10/\ζ=t12/\0<=t13/\t13<=5/\ec w0 pp W (N+6*t13.toNat) (λA=>∃l,Ex i l A)/\μ W fs ck 5 (some ⟨ζ,0,none⟩) 1 1 (fY t r cr b8 dc cx cC cD),λ_ _ _ _ _ t13 _=>(5-t13).toNat,⟨rfl,rfl,rfl,rfl,rfl,by omega,by omega,h.more (by omega) λ_ h=>h,af⟩,?_⟩;clear h af;rintro _ _ _ _ _ t13 W ⟨rfl,rfl,rfl,rfl,rfl,g0,g1,h,af⟩;unfold eH.ζ;obtain⟨b,rfl⟩:=eF g0;rw[ch]at h;refine bt (λτ=>?_) (λτ=>?_)
 ·have τ:=b6 τ;have hu:IntKind.u8.wrap (IntKind.i64.wrap ((b:Int)+1))=(b:Int)+1:=by rw[bS (x:=(b:Int)+1) (by omega) (by omega),tJ];omega
  rw[hu];have h:=h.to (η.drew W);have af:=af.ex (η.drew W);generalize W.drew=W at h af⊢;refine abV h (by omega) (x:=(b:Int)+1) (by omega) af kS λax w' A wC t3 Up Uo Uj Xf Xe Xa cc hH af bh=>?_;obtain⟨l,cc⟩:=cc;obtain⟨he,FK⟩:=ayh cc I (b:=b) (by omega) (bs:=List.replicate 64 ((b:Int)+1)) (by simp);have aP:((b:Int)+1).toNat=b+1:=by omega
  have fin:((p=p/\n=n/\c=c/\(some ⟨pp,0,none⟩:γ)=some ⟨pp,0,none⟩/\ζ=ζ/\0<=IntKind.i64.wrap ((b:Int)+1)/\IntKind.i64.wrap ((b:Int)+1)<=5/\ec w0 pp w' (N+6*(IntKind.i64.wrap ((b:Int)+1)).toNat) (λA=>∃l,Ex i l A)/\μ w' fs ck 5 (some ⟨ζ,0,none⟩) 1 1 (fY t r cr b8 dc cx cC cD))/\(5-IntKind.i64.wrap ((b:Int)+1)).toNat<(5-(b:Int)).toNat):=by rw[bS (x:=(b:Int)+1) (by omega) (by omega),aP];exact⟨⟨rfl,rfl,rfl,rfl,rfl,by omega,by omega,hH.more (by omega) (λgm e=>e▸FK),af⟩,by omega⟩
  unfold eH.bK;refine⟨_,bh.at (j:=1) rfl,?_⟩;rcases he with he|he
  ·rw[he,cond_neg (by rfl)];exact fin
  ·rw[he,cond_pos (by rfl)];refine⟨_,bh.at (j:=1) rfl,?_⟩;rw[he,cond_neg (by rfl)];exact fin
 ·have τ:=dn τ;obtain rfl:b=5:=by omega
  unfold eH.b4
  have:=af.at (j:=2) rfl
  rw[kS]at this;refine⟨_,this,?_⟩;refine gv h (by omega) (ki 3 i 0 0) (tx _ _ _ _ _) (tz _ _ _ _) λnr A u cc Lw My hu=>?_;obtain⟨l,cc⟩:=cc;have iA:dW (ki 3 i 0 0)=wO i:=rfl;rw[iA]at Lw hu;obtain⟨j,ψ,dK,fp⟩:=ayg cc I;rw[dK]at hu;refine vN hu λdR kZ t6 ay1 ayZ ayW aAl aAj aAh Y5 w4 bY _ _=>?_;refine⟨_,bY.at (j:=1) rfl,?_⟩;rw[cond_neg (by rfl)];exact ale φ ψ cc.2.2.2.2 ((Lw.to Y5).more (dO _) λgm e=>e▸fp) (by omega) bY rfl
theorem ZZ{p:γ}{n c:Nat}{ls:List b9.cZ}(φ:wK w0 p n ls)(h:ec w0 pp W N (λA=>A.E.length=8))(ek:N<=900):
  eH.aV p n c (some ⟨pp,0,none⟩) W (ω λv w'=>v=.bool true/\η w0 w'):=by
 unfold eH.aV;refine gv h (by omega) (ki 2 7 0 0) (tx _ _ _ _ _) (tz _ _ _ _) λbW A u cc hD iq hu=>hu.agg λbC=>?_;have iA:dW (ki 2 7 0 0)=my ((7:Nat):Int):=rfl;rw[iA]at hD;have d7:=PA cc (v:=7) (by omega);have WS:=D0 cc (my ((7:Nat):Int));generalize(cQ A (my ((7:Nat):Int))).1=En at hD d7 WS;refine gv hD (by omega) (ki 2 6 0 0) (tx _ _ _ _ _) (tz _ _ _ _) λcd sD u sZ kD yz hu=>hu.agg λb0=>?_;subst sZ;have iA:dW (ki 2 6 0 0)=my ((6:Nat):Int):=rfl;rw[iA]at kD;have d6:=PA WS (v:=6) (by omega);have ad8:=D0 WS (my ((6:Nat):Int));have d76:∃e,(cQ sD (my ((6:Nat):Int))).1.E[7]?=some e/\e.1=0:=by
  unfold cQ;rw[aN ⟨show(1:Int)<=2 by decide,show(2:Int)<=9 by decide⟩];unfold jf my;dsimp only;rw[aL (by omega),aN rfl];cases il sD.E ((6:Nat):Int)with
  |none=>exact d7
  |some e=>
   obtain⟨sa,dK,fp⟩:=d7;refine⟨sa,?_,fp⟩;show(sD.E.set 6 _)[7]?=_;rw[List.getElem?_set,aL (by omega)];exact dK
 generalize(cQ sD (my ((6:Nat):Int))).1=Eo at kD d6 ad8 d76;refine gv kD (by omega) (ki 1 0 0 5) (tx _ _ _ _ _) (tz _ _ _ _) λcE ayH u aoA vE n9 hu=>?_;subst aoA;have iA:dW (ki 1 0 0 5)=ox 5:=rfl;rw[iA]at vE hu;obtain⟨i,I,dK,fp⟩:=ayf ad8 d6 d76;rw[dK]at hu;refine vN hu λζ ed t cr b8 dc cx cC cD jb eG af _ _=>?_;refine⟨_,af.at (j:=1) rfl,?_⟩;rw[cond_neg (by rfl)];exact ald φ I ((vE.to jb).more (dO _) λgm e=>e▸⟨_,fp⟩) (by omega) af rfl
end
theorem RJ{w:World}{p:γ}{n c:Nat}{rows:List aY}(ak:zq w o2 56 (lq w o2 uM) p n c rows):∃ls,wK w p n ls:=by obtain⟨ls,rfl,Di⟩:=D2 ak.each;exact⟨ls,ak.cells,by simpa using ak.size,Di⟩
theorem alI(a b:Int)(p:γ)(n c:Nat)(rows:List aY)(b5:γ)(fG aW:Nat)(auO:List aY)(w:World)(aR:0<=a/\a<256)(τ:0<=b/\b<256)(ak:zq w o2 56 (lq w o2 uM) p n c rows)(l0:zq w o2 56 (lq w o2 uM) b5 fG aW auO):
  eH.C a b p n c b5 fG aW w (ω λv w'=>v=.bool true/\η w w'):=by
 obtain⟨ls,φ⟩:=RJ ak;obtain⟨aAg,e3⟩:=RJ l0;apply eH.ok;unfold eH.main;refine Qs aR τ λpp an h=>?_;unfold eH.bb;have ea:ec w pp an (10+6*(0:Int).toNat) (λA=>A.E.length=8):=h.more (by omega) λA e=>by subst e;rfl
 refine⟨λdw dh ef de c3 dy t10 t11 W=>p=dw/\n=dh/\c=ef/\b5=de/\fG=c3/\aW=dy/\some ⟨pp,0,none⟩=t10/\0<=t11/\t11<=60/\ec w pp W (10+6*t11.toNat) (λA=>A.E.length=8),λ_ _ _ _ _ _ _ t11 _=>(60-t11).toNat,⟨rfl,rfl,rfl,rfl,rfl,rfl,rfl,by omega,by omega,ea⟩,?_⟩;clear h ea;rintro _ _ _ _ _ _ _ t11 W ⟨rfl,rfl,rfl,rfl,rfl,rfl,rfl,g0,g1,h⟩;unfold eH.δ;obtain⟨j,rfl⟩:=eF g0;rw[ch]at h⊢;refine bt (λψ=>?_) (λψ=>ZZ e3 h (by omega));refine bt (λhk=>?_) (λhk=>ZZ e3 h (by omega));have ψ:=b6 ψ;have hk:=b6 hk;obtain⟨a0,q,rfl,aH,ab⟩:=φ.get (i:=j) (by omega);refine aT (by omega) (aT (by omega) ?_)
 try dsimp only[bo]
 refine⟨q.cells.toArray,rfl,(aH W h.ex).1,?_⟩;refine gv h (by omega) q (aH W h.ex).2 ab λa8 A u cc hq hW hu=>hu.agg λbO=>?_;have aP:((j:Int)+1).toNat=j+1:=by omega
 rw[bS (x:=(j:Int)+1) (by omega) (by omega)];refine⟨⟨by trivial,by trivial,by trivial,by trivial,by trivial,by trivial,by trivial,by omega,by omega,?_⟩,by((try dsimp only);omega)⟩;rw[aP];exact hq.more (by omega) λgm e=>e▸D0 cc _
end Go.Proofs.YtcpdfhkhaekekaaGreat.G.cY

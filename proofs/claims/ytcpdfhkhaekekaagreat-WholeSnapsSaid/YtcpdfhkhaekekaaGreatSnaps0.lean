/- The law WholeSnaps of the given program is proved. Conditions: none. -/
import Derived.Test.YtcpdfhkhaekekaaGreatA15
set_option linter.unusedVariables false
set_option linter.unusedSimpArgs false
namespace Go.Proofs.YtcpdfhkhaekekaaGreat.G
open Tryz
open Go.bO
set_option maxRecDepth 100000
def dZ.bP(cR:J)(cM de:Nat)(t10:J)(t12:Nat)(t13:Int)(t14:Nat)(w:World)(R:aq)(hJ:J->Nat->Nat->J->Nat->Int->ao):Prop:=
 ∃ad,w.cell? ⟨t14,1,none⟩=some (.int .i64 ad)/\
 (cond (ad !=0) (
  ∃aA,w.cell? ⟨t14,1,none⟩=some (.int .i64 aA)/\
  (cond (aA !=9) (
   R (.returned (.bool false)) w) (
   hJ cR cM de t10 t12 (IntKind.i64.wrap (t13+1)) w))) (
  hJ cR cM de t10 t12 (IntKind.i64.wrap (t13+1)) w))
def dZ.dN(cR:J)(cM de:Nat)(t10:J)(t15:Nat)(t16:ByteArray)(t18 t109:Int)(t110:Bool)(w:World)(R:aq)(A0:J->Nat->Nat->J->Nat->ByteArray->Int->ao):Prop:=
 ο (decide (0<=t18)) (
  ο (decide (t18<((cM:Nat):Int))) (
   ξ cR λd4=>
   ∃(jB:ag),jB.size=5/\aw w (d4.add (t18.toNat*5)) jB.toList/\
   (κ prog 14 #[.pointer t10,.agg jB] w (λv17 qq=>
    dq v17 λkJ=>
    cond ((Int.tmod t18 5)==0) (
     κ prog 16 #[.pointer t10,(2:Int)] qq (λu2 tH=>
      b0 u2 λeI=>
      A0 cR cM de t10 t15 t16 (IntKind.i64.wrap (t18+1)) tH) (au R)) (
     A0 cR cM de t10 t15 t16 (IntKind.i64.wrap (t18+1)) qq)) (au R))))
def dZ.fL(t16 t19:ByteArray)(t21:Nat)(w:World)(R:aq):Prop:=
 cond (t19.toList==t16.toList) (
  ∃gb,w.cell? ⟨t21,1,none⟩=some (.int .i64 gb)/\
  (R (.returned (.bool (gb==8))) w)) (
  R (.returned (.bool false)) w)
def dZ.hA(t10:J)(t15:Nat)(t16 t19:ByteArray)(w:World)(R:aq):Prop:=
 ∃c7,w.drew.cell? ⟨t15,2,none⟩=some (.int .i64 c7)/\
 ((κ prog 15 #[.int .u8 1] w.drew (λv20 zh=>
    cN v20 λfH dB bI=>
    zh.cell? ⟨t15,2,none⟩=some (.int .i64 c7)/\
    ((κ prog 14 #[.pointer t10,.agg #[(5:Int),c7,(0:Int),(0:Int),.slice fH dB bI]] zh (λv21 L2=>
       dq v21 λmF=>
       aN L2 #[(0:Int),(0:Int),(0:Int),.slice none 0 0,.slice none 0 0] 37 λiv qt=>
       ο (decide (mF.size=5)) (
        bG qt ⟨iv,0,none⟩ mF.toList λoc=>
        (dZ.fL t16 t19 iv oc R))) (au R))/\
     (aN zh #[(0:Int),(0:Int),(0:Int),.slice none 0 0,.slice none 0 0] 37 λpL mB=>
      (Value.agg #[(5:Int),c7,(0:Int),(0:Int),.slice fH dB bI])=(.agg #[(5:Int),c7,(0:Int),(0:Int),.slice fH dB bI])/\
      (mB.cell? ⟨t15,2,none⟩=some (.int .i64 c7)/\
       (κ prog 14 #[.pointer t10,.agg #[(5:Int),c7,(0:Int),(0:Int),.slice fH dB bI]] mB (λv22 rb=>
         dq v22 λmG=>
         ο (decide (mG.size=5)) (
          bG rb ⟨pL,0,none⟩ mG.toList λnz=>
          (dZ.fL t16 t19 pL nz R))) (au R)))))) (au R))/\
  (aN w.drew #[(0:Int),(0:Int),(0:Int),.slice none 0 0,.slice none 0 0] 37 λzB xQ=>
   xQ.cell? ⟨t15,2,none⟩=some (.int .i64 c7)/\
   (κ prog 15 #[.int .u8 1] xQ (λv23 Gj=>
     cN v23 λjG jg hs=>
     Gj.cell? ⟨t15,2,none⟩=some (.int .i64 c7)/\
     (κ prog 14 #[.pointer t10,.agg #[(5:Int),c7,(0:Int),(0:Int),.slice jG jg hs]] Gj (λv24 o3=>
       dq v24 λjO=>
       ο (decide (jO.size=5)) (
        bG o3 ⟨zB,0,none⟩ jO.toList λGk=>
        (dZ.fL t16 t19 zB Gk R))) (au R))) (au R))))
def dZ.c8(t10:J)(t15:Nat)(t16 t19:ByteArray)(t20:Int)(w:World)(R:aq)(WY:J->Nat->ByteArray->ByteArray->Int->ao):Prop:=
 cond (decide (t20<5)) (
  ∃fl,w.cell? ⟨t15,2,none⟩=some (.int .i64 fl)/\
  (κ prog 17 #[.pointer t10,fl,t20] w (λu3 Gi=>
   nK u3 λs2=>
   ο (fits t19 s2) (
    WY t10 t15 t16 (t19++s2) (IntKind.i64.wrap (t20+1)) Gi)) (au R))) (
  dZ.hA t10 t15 t16 t19 w R)
def dZ.Uo:=Aj dZ.c8
def dZ.ec(t10:J)(t15:Nat)(t16:ByteArray)(w:World)(R:aq):Prop:=
 dZ.Uo t10 t15 t16 (⟨#[]⟩:ByteArray) 0 w R
def dZ.ae(cR:J)(cM de:Nat)(t10:J)(t15:Nat)(t16:ByteArray)(t18:Int)(w:World)(R:aq)(A0:J->Nat->Nat->J->Nat->ByteArray->Int->ao):Prop:=
 cond (decide (t18<((cM:Nat):Int))) (
  cond (decide (t18<60)) (
   ο (decide (0<=t18)) (
    ο (decide (t18<((cM:Nat):Int))) (
     ξ cR λd2=>
     ∃cg,w.cell? (d2.add (t18.toNat*5))=some (.int .i64 cg)/\
     (cond (cg==2) (
      ο (decide (0<=t18)) (
       ο (decide (t18<((cM:Nat):Int))) (
        ξ cR λd3=>
        ∃cm,w.cell? ((d3.add (t18.toNat*5)).add 1)=some (.int .i64 cm)/\
        (∃eK,w.cell? ⟨t15,2,none⟩=some (.int .i64 eK)/\
         (∀a1:Nat,
          cond (cm==eK) (
           A0 cR cM de t10 t15 t16 (IntKind.i64.wrap (t18+1)) (w.drewN a1)) (
           dZ.dN cR cM de t10 t15 t16 t18 t18 (decide (t18<60)) (w.drewN a1) R A0)))))) (
      ∀a1:Nat,
      dZ.dN cR cM de t10 t15 t16 t18 t18 (decide (t18<60)) (w.drewN a1) R A0))))) (
   dZ.ec t10 t15 t16 w R)) (
  dZ.ec t10 t15 t16 w R)
def dZ.xd:=Ev dZ.ae
def dZ.cz(cR:J)(cM de:Nat)(t10:J)(t15:Nat)(t16:ByteArray)(w:World)(R:aq):Prop:=
 dZ.xd cR cM de t10 t15 t16 0 w R
def dZ.aF(cR:J)(cM de:Nat)(t10:J)(t15:Nat)(t16:ByteArray)(t17:Int)(w:World)(R:aq)(WX:J->Nat->Nat->J->Nat->ByteArray->Int->ao):Prop:=
 cond (decide (t17<5)) (
  ∃aV,w.cell? ⟨t15,2,none⟩=some (.int .i64 aV)/\
  (κ prog 17 #[.pointer t10,aV,t17] w (λsm mA=>
   nK sm λs1=>
   ο (fits t16 s1) (
    WX cR cM de t10 t15 (t16++s1) (IntKind.i64.wrap (t17+1)) mA)) (au R))) (
  dZ.cz cR cM de t10 t15 t16 w R)
def dZ.xc:=Ev dZ.aF
def dZ.cd(cR:J)(cM de:Nat)(t10:J)(t12:Nat)(w:World)(R:aq):Prop:=
 ∃ak,w.cell? ⟨t12,2,none⟩=some (.int .i64 ak)/\
 (κ prog 14 #[.pointer t10,.agg #[(3:Int),ak,(0:Int),(0:Int),.slice none 0 0]] w (λsl sr=>
  dq sl λiE=>
  aN sr #[(0:Int),(0:Int),(0:Int),.slice none 0 0,.slice none 0 0] 37 λfq ra=>
  ο (decide (iE.size=5)) (
   bG ra ⟨fq,0,none⟩ iE.toList λo2=>
   (∃aI,o2.cell? ⟨fq,1,none⟩=some (.int .i64 aI)/\
    (cond (aI !=0) (
     R (.returned (.bool false)) o2) (
     dZ.xc cR cM de t10 fq (⟨#[]⟩:ByteArray) 0 o2 R))))) (au R))
def dZ.θ(cR:J)(cM de:Nat)(t10:J)(t12:Nat)(t13:Int)(w:World)(R:aq)(hJ:J->Nat->Nat->J->Nat->Int->ao):Prop:=
 cond (decide (t13<5)) (
  ∃σ,w.drew.cell? ⟨t12,2,none⟩=some (.int .i64 σ)/\
  ((κ prog 15 #[.int .u8 (IntKind.u8.wrap (IntKind.i64.wrap (t13+1)))] w.drew (λv10 ga=>
     cN v10 λbh ay c1=>
     ga.cell? ⟨t12,2,none⟩=some (.int .i64 σ)/\
     ((κ prog 14 #[.pointer t10,.agg #[(5:Int),σ,t13,(0:Int),.slice bh ay c1]] ga (λv11 fE=>
        dq v11 λgv=>
        aN fE #[(0:Int),(0:Int),(0:Int),.slice none 0 0,.slice none 0 0] 37 λaF fv=>
        ο (decide (gv.size=5)) (
         bG fv ⟨aF,0,none⟩ gv.toList λeJ=>
         (dZ.bP cR cM de t10 t12 t13 aF eJ R hJ))) (au R))/\
      (aN ga #[(0:Int),(0:Int),(0:Int),.slice none 0 0,.slice none 0 0] 37 λae hZ=>
       (Value.agg #[(5:Int),σ,t13,(0:Int),.slice bh ay c1])=(.agg #[(5:Int),σ,t13,(0:Int),.slice bh ay c1])/\
       (hZ.cell? ⟨t12,2,none⟩=some (.int .i64 σ)/\
        (κ prog 14 #[.pointer t10,.agg #[(5:Int),σ,t13,(0:Int),.slice bh ay c1]] hZ (λv12 fw=>
          dq v12 λgM=>
          ο (decide (gM.size=5)) (
           bG fw ⟨ae,0,none⟩ gM.toList λgi=>
           (dZ.bP cR cM de t10 t12 t13 ae gi R hJ))) (au R)))))) (au R))/\
   (aN w.drew #[(0:Int),(0:Int),(0:Int),.slice none 0 0,.slice none 0 0] 37 λc8 h0=>
    h0.cell? ⟨t12,2,none⟩=some (.int .i64 σ)/\
    (κ prog 15 #[.int .u8 (IntKind.u8.wrap (IntKind.i64.wrap (t13+1)))] h0 (λny hP=>
      cN ny λeg bu c2=>
      hP.cell? ⟨t12,2,none⟩=some (.int .i64 σ)/\
      (κ prog 14 #[.pointer t10,.agg #[(5:Int),σ,t13,(0:Int),.slice eg bu c2]] hP (λqo j6=>
        dq qo λgN=>
        ο (decide (gN.size=5)) (
         bG j6 ⟨c8,0,none⟩ gN.toList λiz=>
         (dZ.bP cR cM de t10 t12 t13 c8 iz R hJ))) (au R))) (au R))))) (
  dZ.cd cR cM de t10 t12 w R)
def dZ.fG:=ph dZ.θ
def dZ.a1(cR:J)(cM de:Nat)(t10:J)(w:World)(R:aq):Prop:=
 κ prog 14 #[.pointer t10,.agg #[(2:Int),(7:Int),(0:Int),(0:Int),.slice none 0 0]] w (λfJ cf=>
  dq fJ λbW=>
  κ prog 14 #[.pointer t10,.agg #[(2:Int),(6:Int),(0:Int),(0:Int),.slice none 0 0]] cf (λbj cA=>
   dq bj λcE=>
   κ prog 14 #[.pointer t10,.agg #[(1:Int),(0:Int),(0:Int),(5:Int),.slice none 0 0]] cA (λv9 dn=>
    dq v9 λdM=>
    aN dn #[(0:Int),(0:Int),(0:Int),.slice none 0 0,.slice none 0 0] 37 λθ eA=>
    ο (decide (dM.size=5)) (
     bG eA ⟨θ,0,none⟩ dM.toList λeR=>
     (∃ζ,eR.cell? ⟨θ,1,none⟩=some (.int .i64 ζ)/\
      (cond (ζ !=0) (
       R (.returned (.bool false)) eR) (
       dZ.fG cR cM de t10 θ 0 eR R))))) (au R)) (au R)) (au R)
def dZ.δ(e8:J)(e0 fN:Nat)(cR:J)(cM de:Nat)(t10:J)(t11:Int)(w:World)(R:aq)(a8:J->Nat->Nat->J->Nat->Nat->J->Int->ao):Prop:=
 cond (decide (t11<((e0:Nat):Int))) (
  cond (decide (t11<60)) (
   ο (decide (0<=t11)) (
    ο (decide (t11<((e0:Nat):Int))) (
     ξ e8 λd1=>
     ∃(bF:ag),bF.size=5/\aw w (d1.add (t11.toNat*5)) bF.toList/\
     (κ prog 14 #[.pointer t10,.agg bF] w (λv6 bm=>
      dq v6 λbZ=>
      a8 e8 e0 fN cR cM de t10 (IntKind.i64.wrap (t11+1)) bm) (au R))))) (
   dZ.a1 cR cM de t10 w R)) (
  dZ.a1 cR cM de t10 w R)
def dZ.bd:=Hy dZ.δ
def dZ.main(a0 ar:Int)(iW:J)(et jZ:Nat)(qC:J)(pI qB:Nat)(w:World)(R:aq):Prop:=
 κ prog 12 #[.int .u8 a0,.int .u8 ar] w (λv1 γ=>
  dq v1 λaK=>
  κ prog 11 #[.agg aK] γ (λv2 aa=>
   b0 v2 λbN=>
   ξ (bN[0]?) λv3=>
   gX v3 λab=>
   ξ (bN[1]?) λv4=>
   gX v4 λaX=>
   cond (Option.isNone aX) (
    R (.returned (.bool false)) aa) (
    κ prog 13 #[] aa (λv5 aE=>
     dw v5 λδ=>
     cond (!δ) (
      R (.returned (.bool false)) aE) (
      dZ.bd iW et jZ qC pI qB aX 0 aE R)) (au R))) (au R)) (au R)
abbrev dZ.C(a0 ar:Int)(iW:J)(et jZ:Nat)(qC:J)(pI qB:Nat):=Calls prog 4 #[.int .u8 a0,.int .u8 ar,.slice iW et jZ,.slice qC pI qB]
theorem dZ.ok:A6 dZ.main dZ.C:=λ{_ _ _ _ _ _ _ _ _ R}h=>fc func4 [.tmp 8] 166 (.seq .leaf (.seq .leaf (.seq .leaf (.cut [(3,.slice),(10,.ptr)] (dZ.a1 · · · · · R) (.seq .leaf (.block (.loop [(2,.slice),(3,.slice),(10,.ptr),(11,.int .i64)] (dZ.bd · · · · · · · · · R) λa8=>.leaf))) (.seq .leaf (.seq .leaf (.seq .leaf (.seq .leaf (.cut [(3,.slice),(10,.ptr),(12,.cY)] (dZ.cd · · · · · · R) (.seq .leaf (.block (.loop [(3,.slice),(10,.ptr),(12,.cY),(13,.int .i64)] (dZ.fG · · · · · · · R) λhJ=>(.seq .leaf (.seq (.block (.cut [(3,.slice),(10,.ptr),(12,.cY),(13,.int .i64),(14,.cY)] (dZ.bP · · · · · · · · R hJ) .leaf .leaf)) .leaf))))) (.seq .leaf (.seq .leaf (.seq .leaf (.cut [(3,.slice),(10,.ptr),(15,.cY),(16,.str)] (dZ.cz · · · · · · · R) (.seq .leaf (.block (.loop [(3,.slice),(10,.ptr),(15,.cY),(16,.str),(17,.int .i64)] (dZ.xc · · · · · · · · R) λWX=>.leaf))) (.cut [(10,.ptr),(15,.cY),(16,.str)] (dZ.ec · · · · R) (.seq .leaf (.block (.loop [(3,.slice),(10,.ptr),(15,.cY),(16,.str),(18,.int .i64)] (dZ.xd · · · · · · · · R) λA0=>(.seq .leaf (.seq (.block (.cut [(3,.slice),(10,.ptr),(15,.cY),(16,.str),(18,.int .i64),(109,.int .i64),(110,.bool)] (dZ.dN · · · · · · · · · · R A0) .leaf .leaf)) .leaf))))) (.seq .leaf (.cut [(10,.ptr),(15,.cY),(16,.str),(19,.str)] (dZ.hA · · · · · R) (.seq .leaf (.block (.loop [(10,.ptr),(15,.cY),(16,.str),(19,.str),(20,.int .i64)] (dZ.Uo · · · · · · R) λWY=>.leaf))) (.cut [(16,.str),(19,.str),(21,.cY)] (dZ.fL · · · · R) .leaf .leaf))))))))))))))))) h
end Go.Proofs.YtcpdfhkhaekekaaGreat.G
namespace Go.Proofs.YtcpdfhkhaekekaaGreat.G.eb
open Go.bO Go.RowKit cL eh eW c5 aR
def cont(l:List (Option l5))(b:Nat):List Int:=match(l[b]?).join with
 |none=>a6.ia
 |some x=>x.2
theorem ar1{A:eL}{E:List jJ}{v b:Nat}{k s:Int}{l:List (Option l5)}(wR:A.E[v]?=some (k,s,l))(aJ:v<8)(hk:k≠0)(ψ:(b:Int)<s):(fB A (qF v b)).2={hd with bs:=cont l b}:=by unfold fB;rw[if_pos ⟨show(1:Int)<=4 by decide,show(4:Int)<=9 by decide⟩];unfold lI qF;dsimp only;rw[if_neg (by omega),if_neg (by omega),if_neg (by omega),if_pos rfl,Nb aJ wR hk];dsimp only;rw[if_neg (by omega),Int.toNat_natCast];unfold cont;cases(l[b]?).join<;>rfl
theorem adM{A:eL}{v b:Nat}{k s:Int}{l:List (Option l5)}(wR:A.E[v]?=some (k,s,l))(aJ:v<8)(hk:k≠0)(ψ:(b:Int)<s):yV A v b=strOf (cont l b):=by unfold yV Lc;rw[ar1 (E:=A.E) wR aJ hk ψ];rfl
def wF(v b:Int)(bs:List Int):aR.Ask:=⟨5,v,b,0,bs⟩
theorem av5{A:eL}{v b:Nat}{s:Int}{l:List (Option l5)}{bs:List Int}(wR:A.E[v]?=some (1,s,l))(aJ:v<8)(ψ:(b:Int)<s)(pU:bs.length=64):
  fB A (wF v b bs)=if A.cap<(xf A.E:Int)+1 then mJ A 9 else({A with E:=A.E.set v (1,s,l.set b (some (A.n,bs))),n:=A.n+1},hd):=by
 unfold fB;rw[if_pos ⟨show(1:Int)<=5 by decide,show(5:Int)<=9 by decide⟩];unfold lI wF;dsimp only;rw[if_neg (by omega),if_neg (by omega),if_neg (by omega),if_neg (by omega),if_pos rfl,Nb aJ wR (show(1:Int)≠0 by decide)];dsimp only;rw[if_neg (by decide),if_neg (by omega),if_neg (by omega),Int.toNat_natCast,Int.toNat_natCast,VY wR]
theorem akd{l:List (Option l5)}{b gL:Nat}{x:l5}(ψ:b<l.length):cont (l.set b (some x)) gL=if gL=b then x.2 else cont l gL:=by
 unfold cont;rw[List.getElem?_set];by_cases h:b=gL
 ·rw[if_pos h,if_pos ψ,if_pos h.symm];rfl
 ·rw[if_neg h,if_neg λe=>h e.symm]
open Tryz Go
section
variable{w0 W:World}{pp N:Nat}{P:eL->Prop}
theorem ajZ(h:ib w0 pp W N P)(eG:N<=600000)(c:Bool){C:ao}{X:List PanicEntry->ao}(hC:∀w',ib w0 pp w' (N+5) P->wv W w'->C w'):
  cond c (κ prog 16 #[.pointer (some ⟨pp,0,none⟩),.int .i64 2] W (λv10 fO=>b0 v10 λeI=>C fO) X) (C W):=by
 cases c with
 |true=>exact amV h eG λw' fU k=>hC w' fU k
 |false=>exact hC W (h.more (by omega) λ_ h=>h) λB e sz p l c vs ε ax=>ε
theorem TY{v:Value}{r:gS}(aJ:I3 W v r){Y:Nat->ao}(K:∀b w' t dz cU dc dD dH dJ,η W w'->W.heap.size<=b->μ w' b dm 5 (some ⟨b,0,none⟩) 1 1 (jj t r dz cU dc dD dH dJ)->μ w' 0 dk 1 dz cU dc (bj r.bs)->μ w' 0 cj 1 dD dH dJ (bw.cI r.qR)->Y b w'):
  dq v λaK=>aN W #[.int .i64 0,.int .i64 0,.int .i64 0,ct,ct] dm λδ aa=>ο (decide (aK.size=5)) (hr aa (⟨δ,0,none⟩:Addr) aK.toList/\∀az,az=aa.setCells (⟨δ,0,none⟩:Addr).block (⟨δ,0,none⟩:Addr).off aK.toList->Y δ az):=by
 obtain⟨D,t,aJ⟩:=aJ;exact Lf aJ λb w' dz cU dc dD dH dJ x ψ ρ ai bo _=>K b w' t dz cU dc dD dH dJ x ψ ρ ai bo
end
abbrev rm:Nat->bf:=λb c=>c*b<=140737488351232
def yW:og:=.int .i64 (.int .i64 (.int .i64 (.int .i64 (.b3 1 (.int .u8 .done) .done))))
theorem VR{w:World}{r:aU}(h:lH w rm yW r):∃q:b9.cP,r=q.cells/\a7 w q.p (b9.bytesOf q)/\b9.Small q:=by obtain⟨a,_,rfl,avX,b,_,rfl,_,c,_,rfl,_,d,_,rfl,_,p,n,m,rows,_,rfl,ω,aP⟩:=h;obtain rfl:_=[]:=aP;obtain⟨xs,o,hm,_⟩:=ω.ints;exact⟨⟨a,b,c,d,xs,p,n,m⟩,rfl,o.cells,o.size,by have:=o.room;show _<=_;dsimp only;omega,λx I=>Gl (o.wf x I)⟩
theorem Ll{w:World}:∀{rows:List aU},(∀r∈rows,lH w rm yW r)->∃rs:List b9.cP,rows=rs.map b9.cP.cells/\∀q∈rs,a7 w q.p (b9.bytesOf q)/\b9.Small q
 |[],_=>⟨[],rfl,by simp⟩
 |r::rows,h=>by
  obtain⟨q,rfl,aC⟩:=VR (h r (by simp));obtain⟨rs,rfl,kj⟩:=Ll (rows:=rows) λx I=>h x (hW _ I);exact⟨q::rs,rfl,λx I=>by
   rcases fA.1 I with rfl|I
   ·exact aC
   ·exact kj x I⟩
theorem VO{w:World}{p:J}{rs:List b9.cP}(h:a7 w p (rs.map b9.cP.cells).flatten){i:Nat}{q:b9.cP}(o:rs[i]?=some q):∃a,p=some a/\aw w (a.add (i*5)) q.cells:=
 h.row (λr υ=>by obtain⟨q,_,rfl⟩:=gO.1 υ;rfl) (by decide) (by rw[List.getElem?_map,o];rfl)
theorem Ph{A:eL}(h:A.E.length=8)(a:aR.Ask):(fB A a).1.E.length=8:=by
 have ad9:∀v b q,(yY A.E v b q).length=8:=λv b q=>by
  unfold yY;cases A.E[v]?with
  |none=>exact h
  |some e=>rw[im];exact h
 have p1:∀{c:Prop}[Decidable c]{r s:eL×gS},r.1.E.length=8->s.1.E.length=8->(if c then r else s).1.E.length=8:=λ{c}_{r s}υ ω=>by
  by_cases π:c
  ·rw[aS π];exact υ
  ·rw[aM π];exact ω
 have cp:∀e,(mJ A e).1.E.length=8:=λe=>h;unfold fB;refine p1 ?_ h;unfold lI;refine p1 (p1 ?_ (cp _)) (p1 ?_ (p1 ?_ (p1 ?_ (p1 ?_ (p1 ?_ (p1 h (p1 h ?_)))))))
 ·cases qh A.E with
  |none=>exact h
  |some i=>show(A.E.set _ _).length=8;rw[im];exact h
 ·cases ja A.E a.v with
  |none=>exact h
  |some i=>show(A.E.set _ _).length=8;rw[im];exact h
 ·cases ja A.E a.v with
  |none=>exact h
  |some i=>cases qh A.E with
   |none=>exact h
   |some i=>show(A.E.set _ _).length=8;rw[im];exact h
 ·cases ja A.E a.v with
  |none=>exact h
  |some e=>
   refine p1 h ?_;cases(e.2.2[a.b.toNat]?).join with
   |none=>exact h
   |some x=>exact h
 ·cases ja A.E a.v with
  |none=>exact h
  |some e=>exact p1 h (p1 h (p1 h (p1 h (ad9 _ _ _))))
 ·cases ja A.E a.v with
  |none=>exact h
  |some e=>exact p1 h (p1 h (ad9 _ _ _))
 ·cases ja A.E a.v with
  |none=>exact h
  |some i=>exact h
def x4(v:Int):aR.Ask:=⟨2,v,0,0,[]⟩
theorem Y8{A:eL}(h:A.E.length=8){v:Nat}(aJ:v<8):∃e,(fB A (x4 v)).1.E[v]?=some e/\e.1=0:=by
 unfold fB;rw[aS ⟨show(1:Int)<=2 by decide,show(2:Int)<=9 by decide⟩];unfold lI x4;dsimp only;rw[aM (by omega),aS rfl];cases he:ja A.E (v:Int)with
 |none=>
  show∃e,A.E[v]?=some e/\e.1=0;unfold ja at he;rw[aS (by omega),cy,List.getElem?_eq_getElem (by omega)]at he;refine⟨A.E[v]'(by omega),List.getElem?_eq_getElem (by omega),?_⟩;by_cases aD:(A.E[v]'(by omega)).1=0
  ·exact aD
  ·simp[Option.filter,aD]at he
 |some e=>
  refine⟨(0,0,[]),?_,rfl⟩;show(A.E.set (v:Int).toNat (0,0,[]))[v]?=_;rw[cy,List.getElem?_set,aS rfl,aS (by omega)]
theorem aei{E:List jJ}{v:Nat}{e:jJ}(h:E[v]?=some e)(aD:e.1=0):∃i,qh E=some i/\i<E.length:=by
 unfold qh;cases bg:E.findIdx? λe=>decide (e.1=0)with
 |none=>
  have:=List.findIdx?_eq_none_iff.1 bg e (eZ h)
  rw[aD]at this;simp at this
 |some i=>exact⟨i,rfl,(List.findIdx?_eq_some_iff_getElem.1 bg).1⟩
theorem I3.agg{w:World}{v:Value}{r:gS}(h:I3 w v r){Q:ag->Prop}(dI:∀cs,Q cs):dq v Q:=by obtain⟨D,t,dz,cU,dc,dD,dH,dJ,rfl,_⟩:=h;exact dI _
theorem P9{W:World}{Y:Nat->ao}(K:∀b w',η W w'->W.heap.size<=b->μ w' b dm 5 (some ⟨b,0,none⟩) 1 1 (fD 0 ct ct)->Y b w'):aN W #[.int .i64 0,.int .i64 0,.int .i64 0,ct,ct] dm Y:=by rintro b w' ψ rfl;have ε:=μ.new (w:=W) (fD 0 ct ct) dm;rw[<-ψ]at ε;exact K b _ (η.alloc W _) (by omega) ε
theorem agM{W na:World}{pp N b:Nat}{P:eL->Prop}(h:ib na pp W N P)(ψ:na.heap.size<=b){B:Nat}{z:aU}(ε:μ W B dm 5 (some ⟨b,0,none⟩) 1 1 z){v:Value}{r:gS}(aJ:I3 W v r){Y:ao}
  (K:∀w' t dz cU dc dD dH dJ,ib na pp w' N P->Kp W w' (λi=>i=b)->μ w' B dm 5 (some ⟨b,0,none⟩) 1 1 (jj t r dz cU dc dD dH dJ)->Y w'):
  dq v λaK=>ο (decide (aK.size=5)) (hr W (⟨b,0,none⟩:Addr) aK.toList/\∀az,az=W.setCells (⟨b,0,none⟩:Addr).block (⟨b,0,none⟩:Addr).off aK.toList->Y az):=by
 obtain⟨D,t,dz,cU,dc,dD,dH,dJ,rfl,_⟩:=aJ
 try dsimp only[hx,ie]
 refine aW rfl (ε.put (cs:=jj t r dz cU dc dD dH dJ) rfl sf λb5 fL e6=>?_);exact K b5 t dz cU dc dD dH dJ (h.loc fL ψ (ε.typed rfl).1 (by decide) (by decide) (by decide)) fL e6
end Go.Proofs.YtcpdfhkhaekekaaGreat.G.eb
namespace Go.Proofs.YtcpdfhkhaekekaaGreat.G.eb
open Go Go.bO Go.RowKit cL eh eW c5 aR
def Jb(v:Int):aR.Ask:=⟨3,v,0,0,[]⟩
theorem R4{E:List jJ}{v:Int}{e:jJ}(h:ja E v=some e):0<=v/\v<8/\E[v.toNat]?=some e/\e.1≠0:=Jr h
theorem asY{E:List jJ}{i:Nat}(h:qh E=some i):∃e,E[i]?=some e/\e.1=0:=by unfold qh at h;obtain⟨aj,h1,_⟩:=List.findIdx?_eq_some_iff_getElem.1 h;exact⟨E[i],List.getElem?_eq_getElem aj,b7 h1⟩
theorem asZ{E:List jJ}{i v:Nat}{e:jJ}(h:qh E=some i)(aJ:E[v]?=some e)(aD:e.1=0):i<=v:=by
 unfold qh at h;obtain⟨aj,h1,ι⟩:=List.findIdx?_eq_some_iff_getElem.1 h;apply H3;intro bM
 have:=ι v bM
 rw[List.getElem?_eq_getElem (by omega)]at aJ;have he:=AE aJ;rw[he,aD]at this;simp at this
theorem Ab{c:Prop}[Decidable c]{r s:eL×gS}{P:List jJ->Prop}(h:P r.1.E)(k:P s.1.E):P (if c then r else s).1.E:=by
 by_cases π:c
 ·rw[aS π];exact h
 ·rw[aM π];exact k
theorem apb{A:eL}{j:Nat}{s:Int}{l:List (Option l5)}(h:A.E[j]?=some (2,s,l)){a:aR.Ask}(af:¬(a.k=2/\a.v=j)):(fB A a).1.E[j]?=some (2,s,l):=by
 have ka:∀(i:Nat)(e:jJ),i≠j->(A.E.set i e)[j]?=some (2,s,l):=λi e o=>by rw[List.getElem?_set,aM o];exact h
 have k0:∀i,qh A.E=some i->i≠j:=λi o e=>by obtain⟨cO,h1,ι⟩:=asY o;rw[e,h]at h1;cases h1;cases ι
 have wR:∀v b q,v≠j->(yY A.E v b q)[j]?=some (2,s,l):=λv b q aJ=>by
  unfold yY;cases A.E[v]?with
  |none=>exact h
  |some e=>exact ka v _ aJ
 unfold fB;refine Ab (P:=λE=>E[j]?=some (2,s,l)) ?_ h;unfold lI;by_cases h1:a.k=1
 ·rw[aS h1];refine Ab (P:=λE=>E[j]?=some (2,s,l)) ?_ h;cases ω:qh A.E with
  |none=>exact h
  |some i=>exact ka i _ (k0 i ω)
 rw[aM h1];by_cases ι:a.k=2
 ·rw[aS ι];cases he:ja A.E a.v with
  |none=>exact h
  |some e=>
   obtain⟨v0,_⟩:=R4 he;exact ka a.v.toNat _ λe=>af ⟨ι,by omega⟩
 rw[aM ι];by_cases aG:a.k=3
 ·rw[aS aG];cases he:ja A.E a.v with
  |none=>exact h
  |some e=>cases ω:qh A.E with
   |none=>exact h
   |some i=>exact ka i _ (k0 i ω)
 rw[aM aG];by_cases cq:a.k=4
 ·rw[aS cq];cases he:ja A.E a.v with
  |none=>exact h
  |some e=>
   refine Ab (P:=λE=>E[j]?=some (2,s,l)) h ?_;cases(e.2.2[a.b.toNat]?).join with
   |none=>exact h
   |some x=>exact h
 rw[aM cq];by_cases db:a.k=5
 ·rw[aS db];cases he:ja A.E a.v with
  |none=>exact h
  |some e=>
   dsimp only;by_cases lx:e.1=2
   ·rw[aS lx];exact h
   rw[aM lx];have aJ:a.v.toNat≠j:=λcO=>by obtain⟨_,_,h1,_⟩:=R4 he;rw[cO,h]at h1;cases h1;exact lx rfl
   exact Ab (P:=λE=>E[j]?=some (2,s,l)) h (Ab (P:=λE=>E[j]?=some (2,s,l)) h (Ab (P:=λE=>E[j]?=some (2,s,l)) h (wR _ _ _ aJ)))
 rw[aM db];by_cases hy:a.k=6
 ·rw[aS hy];cases he:ja A.E a.v with
  |none=>exact h
  |some e=>
   dsimp only;by_cases lx:e.1=2
   ·rw[aS lx];exact h
   rw[aM lx];have aJ:a.v.toNat≠j:=λcO=>by obtain⟨_,_,h1,_⟩:=R4 he;rw[cO,h]at h1;cases h1;exact lx rfl
   exact Ab (P:=λE=>E[j]?=some (2,s,l)) h (wR _ _ _ aJ)
 rw[aM hy];refine Ab (P:=λE=>E[j]?=some (2,s,l)) h (Ab (P:=λE=>E[j]?=some (2,s,l)) h ?_);cases ja A.E a.v with
 |none=>exact h
 |some i=>exact h
def CI(i:Nat)(l:List (Option l5))(A:eL):Prop:=A.E.length=8/\A.E[i]?=some (1,5,l)/\(∃e,A.E[7]?=some e/\e.1=0)/\l.length=5/\∀b,(cont l b).length=64
theorem avK{A:eL}(h:A.E.length=8)(hy:∃e,A.E[6]?=some e/\e.1=0)(ih:∃e,A.E[7]?=some e/\e.1=0):
  ∃i:Nat,i<7/\(fB A (GA 5)).2={hd with id:=i}/\CI i (List.replicate 5 none) (fB A (GA 5)).1:=by
 obtain⟨pR,hy,ahv⟩:=hy;obtain⟨qJ,ih,awd⟩:=ih;obtain⟨i,o,aj⟩:=aei hy ahv;have hle:=asZ o hy ahv;have hlen:=Ph h (GA 5);have aO:fB A (GA 5)=({A with E:=A.E.set i (1,5,List.replicate (5:Int).toNat none)},{hd with id:=i}):=by unfold fB;rw[aS ⟨show(1:Int)<=1 by decide,show(1:Int)<=9 by decide⟩];unfold lI GA;dsimp only;rw[aS rfl,aS (by omega),o]
 rw[aO]at hlen⊢;refine⟨i,by omega,rfl,hlen,?_,⟨qJ,?_,awd⟩,rfl,λb=>?_⟩
 ·show(A.E.set i _)[i]?=_;rw[List.getElem?_set,aS rfl,aS aj];rfl
 ·show(A.E.set i _)[7]?=_;rw[List.getElem?_set,aM (by omega)];exact ih
 ·unfold cont;rw[List.getElem?_replicate];by_cases ψ:b<5
  ·rw[aS ψ];rfl
  ·rw[aM ψ];rfl
theorem avM{A:eL}{i b:Nat}{l:List (Option l5)}(h:CI i l A)(o:i<7)(ψ:b<5){bs:an}(pU:bs.length=64):
  ((fB A (wF i b bs)).2.e=0\/(fB A (wF i b bs)).2.e=9)/\∃mO,CI i mO (fB A (wF i b bs)).1:=by
 obtain⟨dQ,fQ,⟨qJ,r8,HT⟩,Vv,Vw⟩:=h;have aj:=(List.getElem?_eq_some_iff.1 fQ).1;rw[av5 fQ (by omega) (by omega) pU];by_cases π:A.cap<(xf A.E:Int)+1
 ·rw[aS π];exact⟨.inr rfl,l,dQ,fQ,⟨qJ,r8,HT⟩,Vv,Vw⟩
 ·rw[aM π];refine⟨.inl rfl,l.set b (some (A.n,bs)),by show(A.E.set i _).length=8;rw[im];exact dQ,?_,⟨qJ,?_,HT⟩,by rw[im];exact Vv,λgL=>?_⟩
  ·show(A.E.set i _)[i]?=_;rw[List.getElem?_set,aS rfl,aS aj]
  ·show(A.E.set i _)[7]?=_;rw[List.getElem?_set,aM (by omega)];exact r8
  ·rw[akd (by omega)];by_cases wV:gL=b
   ·rw[aS wV];exact pU
   ·rw[aM wV];exact Vw gL
def tP(j:Nat)(l:List (Option l5))(A:eL):Prop:=A.E[j]?=some (2,5,l)
theorem avL{A:eL}{i:Nat}{l:List (Option l5)}(h:CI i l A)(o:i<7):
  ∃j:Nat,j<8/\(fB A (Jb i)).2={hd with id:=(j:Int)}/\tP j l (fB A (Jb i)).1:=by
 obtain⟨dQ,fQ,⟨qJ,r8,HT⟩,Vv,Vw⟩:=h;obtain⟨j,φ,aj⟩:=aei r8 HT;have aO:fB A (Jb i)=({A with E:=A.E.set j (2,5,l)},{hd with id:=j}):=by unfold fB;rw[aS ⟨show(1:Int)<=3 by decide,show(3:Int)<=9 by decide⟩];unfold lI Jb;dsimp only;rw[aM (by omega),aM (by omega),aS rfl,Nb (by omega) fQ (show(1:Int)≠0 by decide),φ]
 rw[aO];refine⟨j,by omega,rfl,?_⟩;show(A.E.set j _)[j]?=_;rw[List.getElem?_set,aS rfl,aS aj]
theorem asR{A:eL}{j b:Nat}{l:List (Option l5)}(h:tP j l A)(φ:j<8){bs:an}:(fB A (wF j b bs))=mJ A 8:=by unfold fB;rw[aS ⟨show(1:Int)<=5 by decide,show(5:Int)<=9 by decide⟩];unfold lI wF;dsimp only;rw[aM (by omega),aM (by omega),aM (by omega),aM (by omega),aS rfl,Nb φ h (show(2:Int)≠0 by decide)];dsimp only;rw[aS rfl]
open Tryz
section
variable{w0 W:World}{pp N:Nat}{P:eL->Prop}
theorem Zz(h:ib w0 pp W N P)(eG:N<=100000){x:Int}(I:0<=x/\x<256){v b:Int}{θ gD:Nat}{t:Int}{r:gS}{dz:J}{cU dc:Nat}{dD:J}{dH dJ:Nat}(ai:μ W gD dm 5 (some ⟨θ,0,none⟩) 1 1 (jj t r dz cU dc dD dH dJ))(oz:r.id=v){K:Nat->ao}{qA e4 gJ iQ l8:List PanicEntry->ao}
  (iS:∀aF w' A CA t3 RU RT RP UM UL UH,P A->ib w0 pp w' (N+5) (λnE=>nE=(fB A (wF v b (List.replicate 64 x))).1)->μ w' gD dm 5 (some ⟨θ,0,none⟩) 1 1 (jj t r dz cU dc dD dH dJ)->μ w' CA dm 5 (some ⟨aF,0,none⟩) 1 1 (jj t3 (fB A (wF v b (List.replicate 64 x))).2 RU RT RP UM UL UH)->K aF w'):
  ∃(σ:Int),W.cell? (⟨θ,2,none⟩:Addr)=some (.int .i64 σ)/\
  ((κ prog 15 #[.int .u8 x] W (λv10 ga=>cN v10 λbh ay c1=>ga.cell? (⟨θ,2,none⟩:Addr)=some (.int .i64 σ)/\
   ((κ prog 14 #[.pointer (some ⟨pp,0,none⟩),.agg #[.int .i64 5,.int .i64 σ,.int .i64 b,.int .i64 0,.slice bh ay c1]] ga (λv11 fE=>dq v11 λgv=>aN fE #[.int .i64 0,.int .i64 0,.int .i64 0,ct,ct] dm λaF fv=>ο (decide (gv.size=5)) (hr fv (⟨aF,0,none⟩:Addr) gv.toList/\∀eJ,eJ=fv.setCells (⟨aF,0,none⟩:Addr).block (⟨aF,0,none⟩:Addr).off gv.toList->K aF eJ)) qA)/\
   (aN ga #[.int .i64 0,.int .i64 0,.int .i64 0,ct,ct] dm λae hZ=>(Value.agg #[.int .i64 5,.int .i64 σ,.int .i64 b,.int .i64 0,.slice bh ay c1]=Value.agg #[.int .i64 5,.int .i64 σ,.int .i64 b,.int .i64 0,.slice bh ay c1])/\(hZ.cell? (⟨θ,2,none⟩:Addr)=some (.int .i64 σ)/\
    (κ prog 14 #[.pointer (some ⟨pp,0,none⟩),.agg #[.int .i64 5,.int .i64 σ,.int .i64 b,.int .i64 0,.slice bh ay c1]] hZ (λv12 fw=>dq v12 λgM=>ο (decide (gM.size=5)) (hr fw (⟨ae,0,none⟩:Addr) gM.toList/\∀gi,gi=fw.setCells (⟨ae,0,none⟩:Addr).block (⟨ae,0,none⟩:Addr).off gM.toList->K ae gi)) e4))))) gJ)/\
  (aN W #[.int .i64 0,.int .i64 0,.int .i64 0,ct,ct] dm λc8 h0=>h0.cell? (⟨θ,2,none⟩:Addr)=some (.int .i64 σ)/\
   (κ prog 15 #[.int .u8 x] h0 (λny hP=>cN ny λeg bu c2=>hP.cell? (⟨θ,2,none⟩:Addr)=some (.int .i64 σ)/\
   (κ prog 14 #[.pointer (some ⟨pp,0,none⟩),.agg #[.int .i64 5,.int .i64 σ,.int .i64 b,.int .i64 0,.slice eg bu c2]] hP (λqo j6=>dq qo λgN=>ο (decide (gN.size=5)) (hr j6 (⟨c8,0,none⟩:Addr) gN.toList/\∀iz,iz=j6.setCells (⟨c8,0,none⟩:Addr).block (⟨c8,0,none⟩:Addr).off gN.toList->K c8 iz)) iQ)) l8))):=by
 have g2:∀{b6:World},μ b6 gD dm 5 (some ⟨θ,0,none⟩) 1 1 (jj t r dz cU dc dD dH dJ)->b6.cell? (⟨θ,2,none⟩:Addr)=some (.int .i64 v):=λε=>by
  have:=ε.at (j:=2) rfl
  rw[oz]at this;exact this
 have w6:∀tY,ef (Cj v b x tY)=wF v b (List.replicate 64 x):=λ_=>rfl;refine⟨_,g2 ai,?_,?_⟩
 ·refine κ.use (Ng x I W) ?_;rintro _ fv ⟨tY,rfl,wk,of⟩
  try dsimp only[dY]
  have GZ:=h.to wk;have kn:=ai.ex wk;refine⟨g2 kn,?_,?_⟩
  ·refine ik GZ (by omega) (Cj v b x tY) of.cells (Pm tY I) λhZ A u fb Z4 Ad hu=>?_;rw[w6]at Z4 hu;have vL:=Ad _ _ _ _ _ _ _ kn (by decide);refine TY hu λc8 gi t5 Zh Ze Y6 acq ack ach qu lv cu _ _=>?_;exact iS _ _ _ _ _ _ _ _ _ _ _ fb (Z4.to qu) (vL.ex qu) cu
  ·refine P9 λfq h0 rf yl bS=>?_;have alY:=GZ.to rf;have r2:=kn.ex rf;refine⟨rfl,g2 r2,?_⟩;have amL:w0.heap.size<=fq:=by have:=GZ.ex.size;omega
   refine ik alY (by omega) (Cj v b x tY) (of.ex rf).cells (Pm tY I) λhP A u fb Z6 abI hu=>?_;rw[w6]at Z6 hu;have EC:=abI _ _ _ _ _ _ _ r2 (by decide);have bS:=abI _ _ _ _ _ _ _ bS (by decide);have bM:θ≠fq:=λe=>by have:=(kn.ge rfl).2;dsimp only at this;omega
   refine agM Z6 amL bS hu λj6 t5 Zh Ze Y6 acq ack ach Nu ao5 B2=>?_;exact iS _ _ _ _ _ _ _ _ _ _ _ fb Nu (EC.aH ao5 λy ah o=>by cases ah;exact bM o) B2
 ·refine P9 λiv zg Mc Bz er=>?_;have al0:=h.to Mc;have HJ:=ai.ex Mc;have amM:w0.heap.size<=iv:=by have:=h.ex.size;omega
  have bM:θ≠iv:=λe=>by have:=(ai.ge rfl).2;dsimp only at this;omega
  refine⟨g2 HJ,?_⟩;refine κ.use (Ng x I zg) ?_;rintro _ iz ⟨tY,rfl,AY,of⟩
  try dsimp only[dY]
  have ur:=al0.to AY;have r3:=HJ.ex AY;refine⟨g2 r3,?_⟩;refine ik ur (by omega) (Cj v b x tY) of.cells (Pm tY I) λu5 A u fb Z8 abJ hu=>?_;rw[w6]at Z8 hu;have EE:=abJ _ _ _ _ _ _ _ r3 (by decide);have er:=abJ _ _ _ _ _ _ _ (er.ex AY) (by decide);refine agM Z8 amM er hu λo2 t5 Zh Ze Y6 acq ack ach SD BU An=>?_;exact iS _ _ _ _ _ _ _ _ _ _ _ fb SD (EE.aH BU λy ah o=>by cases ah;exact bM o) An
def cat(l:List (Option l5)):Nat->ByteArray
 |0=>⟨#[]⟩
 |n+1=>cat l n++strOf (cont l n)
theorem Rl{l:List (Option l5)}(h:∀b,(cont l b).length=64):∀n,(cat l n).size=64*n
 |0=>rfl
 |n+1=>by show(cat l n++strOf (cont l n)).size=_;rw[ByteArray.size_append,Rl h n,V9,h];omega
theorem XD{j θ gD:Nat}{l:List (Option l5)}(φ:j<8)(aj:∀b,(cont l b).length=64)(h:ib w0 pp W N (tP j l))(eG:N<=5000){t:Int}{r:gS}{dz:J}{cU dc:Nat}{dD:J}{dH dJ:Nat}(ai:μ W gD dm 5 (some ⟨θ,0,none⟩) 1 1 (jj t r dz cU dc dD dH dJ))(oz:r.id=j):
  dZ.ec (some ⟨pp,0,none⟩) θ (cat l 5) W (χ λv w'=>v=.bool true/\η w0 w'):=by
 unfold dZ.ec dZ.Uo;refine⟨λt10 t15 t16 t19 t20 W=>some ⟨pp,0,none⟩=t10/\θ=t15/\cat l 5=t16/\t19=cat l t20.toNat/\0<=t20/\t20<=5/\ib w0 pp W (N+6*t20.toNat) (tP j l)/\μ W gD dm 5 (some ⟨θ,0,none⟩) 1 1 (jj t r dz cU dc dD dH dJ),λ_ _ _ _ t20 _=>(5-t20).toNat,⟨rfl,rfl,rfl,rfl,by omega,by omega,h.more (by omega) λ_ h=>h,ai⟩,?_⟩;clear h ai;rintro _ _ _ _ t20 W ⟨rfl,rfl,rfl,rfl,g0,g1,h,ai⟩;unfold dZ.c8;obtain⟨b,rfl⟩:=eH g0;rw[cy]at h⊢;have g2:∀{b6:World},μ b6 gD dm 5 (some ⟨θ,0,none⟩) 1 1 (jj t r dz cU dc dD dH dJ)->b6.cell? (⟨θ,2,none⟩:Addr)=some (.int .i64 j):=λε=>by
  have:=ε.at (j:=2) rfl
  rw[oz]at this;exact this
 refine bz (λψ=>?_) λψ=>?_
 ·have ψ:=b7 ψ;refine⟨_,g2 ai,?_⟩;refine Hj h (by omega) j b λGi A fb SF Ui=>?_;have yy:yV A j b=strOf (cont l b):=adM fb φ (by decide) (by omega);rw[yy]
  try dsimp only[RN]
  refine ZC (by rw[Rl aj,V9,aj,BP];omega) ?_;have aO:((b:Int)+1).toNat=b+1:=by omega
  rw[bY (x:=(b:Int)+1) (by omega) (by omega)];refine⟨⟨by trivial,by trivial,by trivial,?_,by omega,by omega,?_,Ui _ _ _ _ _ _ _ ai (by decide)⟩,by((try dsimp only);omega)⟩
  ·rw[aO];rfl
  ·rw[aO];exact SF.more (by omega) λnE e=>e▸fb
 ·have ψ:=dd ψ;obtain rfl:b=5:=by omega
  unfold dZ.hA;have h:=h.to (η.drew W);have ai:=ai.ex (η.drew W);generalize W.drew=W at h ai⊢;refine Zz h (by omega) (x:=1) (by omega) ai oz λaF w' A CA t3 RU RT RP UM UL UH fb hH _ bo=>?_;unfold dZ.fL;have hw:=asR (b:=0) fb φ (bs:=List.replicate 64 1);have hw:fB A (wF (j:Int) 0 (List.replicate 64 1))=mJ A 8:=hw;rw[hw]at bo;rw[cond_pos (by simp)];refine⟨_,bo.at (j:=1) rfl,?_⟩;exact χ.mk ⟨rfl,hH.ex⟩
end
structure vj(w0:World)(p:J)(n:Nat)(ls:List b9.cP):Prop where
 cells:a7 w0 p (ls.map b9.cP.cells).flatten
 len:ls.length=n
 each:∀q∈ls,a7 w0 q.p (b9.bytesOf q)/\b9.Small q
theorem vj.get{w0:World}{p:J}{n:Nat}{ls:List b9.cP}(h:vj w0 p n ls){i:Nat}(o:i<n):∃a q,p=some a/\(∀W,η w0 W->aw W (a.add (i*5)) q.cells/\a7 W q.p (b9.bytesOf q))/\b9.Small q:=by
 have D3:i<ls.length:=by rw[h.len];exact o
 obtain⟨a,aQ,mj⟩:=VO h.cells (List.getElem?_eq_getElem D3);obtain⟨dQ,fQ⟩:=h.each _ (hF D3);exact⟨a,ls[i],aQ,λW x=>⟨a7.ex (a:=some _) x mj,dQ.ex x⟩,fQ⟩
theorem YU{W:World}{a:Addr}{vs:aU}(h:aw W a vs){j:Nat}{v:Value}(aJ:vs[j]?=some v):W.cell? (a.add j)=some v:=h j v aJ
section
variable{w0 W:World}{pp N:Nat}
set_option maxRecDepth 10000 in
theorem aiM{j θ gD:Nat}{l:List (Option l5)}{p:J}{n c:Nat}{ls:List b9.cP}(υ:vj w0 p n ls)(φ:j<8)(aj:∀b,(cont l b).length=64)(h:ib w0 pp W N (tP j l))(eG:N<=3000){t:Int}{r:gS}{dz:J}{cU dc:Nat}{dD:J}{dH dJ:Nat}(ai:μ W gD dm 5 (some ⟨θ,0,none⟩) 1 1 (jj t r dz cU dc dD dH dJ))(oz:r.id=j):
  dZ.cz p n c (some ⟨pp,0,none⟩) θ (cat l 5) W (χ λv w'=>v=.bool true/\η w0 w'):=by
 unfold dZ.cz dZ.xd;refine⟨λcR cM de t10 t15 t16 t18 W=>p=cR/\n=cM/\c=de/\some ⟨pp,0,none⟩=t10/\θ=t15/\cat l 5=t16/\0<=t18/\t18<=60/\ib w0 pp W (N+12*t18.toNat) (tP j l)/\μ W gD dm 5 (some ⟨θ,0,none⟩) 1 1 (jj t r dz cU dc dD dH dJ),λ_ _ _ _ _ _ t18 _=>(60-t18).toNat,⟨rfl,rfl,rfl,rfl,rfl,rfl,by omega,by omega,h.more (by omega) λ_ h=>h,ai⟩,?_⟩;clear h ai;rintro _ _ _ _ _ _ t18 W ⟨rfl,rfl,rfl,rfl,rfl,rfl,g0,g1,h,ai⟩;unfold dZ.ae;obtain⟨i,rfl⟩:=eH g0;rw[cy]at h⊢;refine bz (λo=>?_) λo=>XD φ aj h (by omega) ai oz;refine bz (λhk=>?_) λhk=>XD φ aj h (by omega) ai oz;have o:=b7 o;have hk:=b7 hk;obtain⟨a,q,aQ,aC,ω⟩:=υ.get (i:=i) (by omega);have g2:∀{b6:World},μ b6 gD dm 5 (some ⟨θ,0,none⟩) 1 1 (jj t r dz cU dc dD dH dJ)->b6.cell? (⟨θ,2,none⟩:Addr)=some (.int .i64 j):=λε=>by
  have:=ε.at (j:=2) rfl
  rw[oz]at this;exact this
 have aO:((i:Int)+1).toNat=i+1:=by omega
 have go:∀(b6:World)(rn:Nat),rn<=N+12*(i+1)->ib w0 pp b6 rn (tP j l)->μ b6 gD dm 5 (some ⟨θ,0,none⟩) 1 1 (jj t r dz cU dc dD dH dJ)->
   (p=p/\n=n/\c=c/\(some ⟨pp,0,none⟩:J)=some ⟨pp,0,none⟩/\θ=θ/\cat l 5=cat l 5/\0<=IntKind.i64.wrap ((i:Int)+1)/\IntKind.i64.wrap ((i:Int)+1)<=60/\ib w0 pp b6 (N+12*(IntKind.i64.wrap ((i:Int)+1)).toNat) (tP j l)/\μ b6 gD dm 5 (some ⟨θ,0,none⟩) 1 1 (jj t r dz cU dc dD dH dJ))/\(60-IntKind.i64.wrap ((i:Int)+1)).toNat<(60-(i:Int)).toNat:=λb6 rn ame hH hO=>by
  rw[bY (x:=(i:Int)+1) (by omega) (by omega),aO];exact⟨⟨rfl,rfl,rfl,rfl,rfl,rfl,by omega,by omega,hH.more ame λ_ h=>h,hO⟩,by omega⟩
 have dN:∀(b6:World),¬(q.k=2/\q.v=j)->ib w0 pp b6 (N+12*i) (tP j l)->μ b6 gD dm 5 (some ⟨θ,0,none⟩) 1 1 (jj t r dz cU dc dD dH dJ)->∀(t109:Int)(t110:Bool),
   dZ.dN p n c (some ⟨pp,0,none⟩) θ (cat l 5) (i:Int) t109 t110 b6 (χ λv w'=>v=.bool true/\η w0 w') λAO AN xG ati PB PC PF w'=>(p=AO/\n=AN/\c=xG/\some ⟨pp,0,none⟩=ati/\θ=PB/\cat l 5=PC/\0<=PF/\PF<=60/\ib w0 pp w' (N+12*PF.toNat) (tP j l)/\μ w' gD dm 5 (some ⟨θ,0,none⟩) 1 1 (jj t r dz cU dc dD dH dJ))/\(60-PF).toNat<(60-(i:Int)).toNat:=λb6 nk hH hO t109 t110=>by
  unfold dZ.dN;refine aW (by omega) (aW (by omega) ?_);rw[aQ]
  try dsimp only[bk]
  rw[cy,<-aQ];refine⟨q.cells.toArray,rfl,(aC b6 hH.ex).1,?_⟩;refine ik hH (by omega) q (aC b6 hH.ex).2 ω λqq A u fb SE Hr hu=>hu.agg λkJ=>?_;have SE:=SE.more (ew _) (P':=tP j l) λnE e=>e▸apb (a:=ef q) fb nk;exact ajZ SE (by omega) _ λw' fU k'=>go w' _ (by omega) fU (k' _ _ _ _ _ _ _ (Hr _ _ _ _ _ _ _ hO (by decide)) (by decide))
 refine aW (by omega) (aW (by omega) ?_);rw[aQ]
 try dsimp only[bk]
 have fz:=YU (aC W h.ex).1 (j:=0) (v:=.int .i64 q.k) rfl;have c1:=YU (aC W h.ex).1 (j:=1) (v:=.int .i64 q.v) rfl;have hl:∀(x:Addr),x.add 0=x:=λx=>by cases x;rfl
 rw[hl]at fz;refine⟨q.k,fz,bz (λni=>?_) λni=>?_⟩
 ·refine aW (by omega) (aW (by omega) ⟨q.v,c1,_,g2 ai,λa1=>?_⟩);have dT:=η.drewN W a1;rw[<-aQ];refine bz (λaJ=>?_) λaJ=>?_
  ·exact go _ _ (by omega) (h.to dT) (ai.ex dT)
  ·exact dN _ (λdS=>by simp at aJ;exact aJ dS.2) (h.to dT) (ai.ex dT) _ _
 ·intro a1;have dT:=η.drewN W a1;rw[<-aQ];exact dN _ (λdS=>by simp at ni;exact ni dS.1) (h.to dT) (ai.ex dT) _ _
theorem aiO{j θ gD:Nat}{l:List (Option l5)}{p:J}{n c:Nat}{ls:List b9.cP}(υ:vj w0 p n ls)(φ:j<8)(aj:∀b,(cont l b).length=64)(h:ib w0 pp W N (tP j l))(eG:N<=2000){t:Int}{r:gS}{dz:J}{cU dc:Nat}{dD:J}{dH dJ:Nat}(ai:μ W gD dm 5 (some ⟨θ,0,none⟩) 1 1 (jj t r dz cU dc dD dH dJ))(oz:r.id=j):
  dZ.xc p n c (some ⟨pp,0,none⟩) θ (⟨#[]⟩:ByteArray) 0 W (χ λv w'=>v=.bool true/\η w0 w'):=by
 unfold dZ.xc;refine⟨λcR cM de t10 t15 t16 t17 W=>p=cR/\n=cM/\c=de/\some ⟨pp,0,none⟩=t10/\θ=t15/\t16=cat l t17.toNat/\0<=t17/\t17<=5/\ib w0 pp W (N+6*t17.toNat) (tP j l)/\μ W gD dm 5 (some ⟨θ,0,none⟩) 1 1 (jj t r dz cU dc dD dH dJ),λ_ _ _ _ _ _ t17 _=>(5-t17).toNat,⟨rfl,rfl,rfl,rfl,rfl,rfl,by omega,by omega,h.more (by omega) λ_ h=>h,ai⟩,?_⟩;clear h ai;rintro _ _ _ _ _ _ t17 W ⟨rfl,rfl,rfl,rfl,rfl,rfl,g0,g1,h,ai⟩;unfold dZ.aF;obtain⟨b,rfl⟩:=eH g0;rw[cy]at h⊢;have g2:∀{b6:World},μ b6 gD dm 5 (some ⟨θ,0,none⟩) 1 1 (jj t r dz cU dc dD dH dJ)->b6.cell? (⟨θ,2,none⟩:Addr)=some (.int .i64 j):=λε=>by
  have:=ε.at (j:=2) rfl
  rw[oz]at this;exact this
 refine bz (λψ=>?_) λψ=>?_
 ·have ψ:=b7 ψ;refine⟨_,g2 ai,?_⟩;refine Hj h (by omega) j b λGi A fb SF Ui=>?_;have yy:yV A j b=strOf (cont l b):=adM fb φ (by decide) (by omega);rw[yy]
  try dsimp only[RN]
  refine ZC (by rw[Rl aj,V9,aj,BP];omega) ?_;have aO:((b:Int)+1).toNat=b+1:=by omega
  rw[bY (x:=(b:Int)+1) (by omega) (by omega)];refine⟨⟨by trivial,by trivial,by trivial,by trivial,by trivial,?_,by omega,by omega,?_,Ui _ _ _ _ _ _ _ ai (by decide)⟩,by((try dsimp only);omega)⟩
  ·rw[aO];rfl
  ·rw[aO];exact SF.more (by omega) λnE e=>e▸fb
 ·have ψ:=dd ψ;obtain rfl:b=5:=by omega
  exact aiM υ φ aj h (by omega) ai oz
theorem aiN{i θ gD:Nat}{p:J}{n c:Nat}{ls:List b9.cP}(υ:vj w0 p n ls)(o:i<7)(h:ib w0 pp W N λA=>∃l,CI i l A)(eG:N<=1000){t:Int}{r:gS}{dz:J}{cU dc:Nat}{dD:J}{dH dJ:Nat}(ai:μ W gD dm 5 (some ⟨θ,0,none⟩) 1 1 (jj t r dz cU dc dD dH dJ))(oz:r.id=i):
  dZ.fG p n c (some ⟨pp,0,none⟩) θ 0 W (χ λv w'=>v=.bool true/\η w0 w'):=by
 unfold dZ.fG;refine⟨λcR cM de t10 t12 t13 W=>p=cR/\n=cM/\c=de/\some ⟨pp,0,none⟩=t10/\θ=t12/\0<=t13/\t13<=5/\ib w0 pp W (N+6*t13.toNat) (λA=>∃l,CI i l A)/\μ W gD dm 5 (some ⟨θ,0,none⟩) 1 1 (jj t r dz cU dc dD dH dJ),λ_ _ _ _ _ t13 _=>(5-t13).toNat,⟨rfl,rfl,rfl,rfl,rfl,by omega,by omega,h.more (by omega) λ_ h=>h,ai⟩,?_⟩;clear h ai;rintro _ _ _ _ _ t13 W ⟨rfl,rfl,rfl,rfl,rfl,g0,g1,h,ai⟩;unfold dZ.θ;obtain⟨b,rfl⟩:=eH g0;rw[cy]at h;refine bz (λψ=>?_) λψ=>?_
 ·have ψ:=b7 ψ;have hu:IntKind.u8.wrap (IntKind.i64.wrap ((b:Int)+1))=(b:Int)+1:=by rw[bY (x:=(b:Int)+1) (by omega) (by omega),wi];omega
  rw[hu];have h:=h.to (η.drew W);have ai:=ai.ex (η.drew W);generalize W.drew=W at h ai⊢;refine Zz h (by omega) (x:=(b:Int)+1) (by omega) ai oz λaF w' A CA t3 RU RT RP UM UL UH fb hH ai bo=>?_;obtain⟨l,fb⟩:=fb;obtain⟨he,al3⟩:=avM fb o (b:=b) (by omega) (bs:=List.replicate 64 ((b:Int)+1)) (by simp);have aO:((b:Int)+1).toNat=b+1:=by omega
  have fin:((p=p/\n=n/\c=c/\(some ⟨pp,0,none⟩:J)=some ⟨pp,0,none⟩/\θ=θ/\0<=IntKind.i64.wrap ((b:Int)+1)/\IntKind.i64.wrap ((b:Int)+1)<=5/\ib w0 pp w' (N+6*(IntKind.i64.wrap ((b:Int)+1)).toNat) (λA=>∃l,CI i l A)/\μ w' gD dm 5 (some ⟨θ,0,none⟩) 1 1 (jj t r dz cU dc dD dH dJ))/\(5-IntKind.i64.wrap ((b:Int)+1)).toNat<(5-(b:Int)).toNat):=by rw[bY (x:=(b:Int)+1) (by omega) (by omega),aO];exact⟨⟨rfl,rfl,rfl,rfl,rfl,by omega,by omega,hH.more (by omega) λnE e=>e▸al3,ai⟩,by omega⟩
  unfold dZ.bP;refine⟨_,bo.at (j:=1) rfl,?_⟩;rcases he with he|he
  ·rw[he,cond_neg (by rfl)];exact fin
  ·rw[he,cond_pos (by rfl)];refine⟨_,bo.at (j:=1) rfl,?_⟩;rw[he,cond_neg (by rfl)];exact fin
 ·have ψ:=dd ψ;obtain rfl:b=5:=by omega
  unfold dZ.cd
  have:=ai.at (j:=2) rfl
  rw[oz]at this;refine⟨_,this,?_⟩;refine ik h (by omega) (th 3 i 0 0) (Lj _ _ _ _ _) (Lk _ _ _ _) λsr A u fb Z7 Oe hu=>?_;obtain⟨l,fb⟩:=fb;have w6:ef (th 3 i 0 0)=Jb i:=rfl;rw[w6]at Z7 hu;obtain⟨j,φ,dQ,fQ⟩:=avL fb o;rw[dQ]at hu;refine TY hu λfq o2 t6 awD awC awA axT axR axP WL yl bS _ _=>?_;refine⟨_,bS.at (j:=1) rfl,?_⟩;rw[cond_neg (by rfl)];exact aiO υ φ fb.2.2.2.2 ((Z7.to WL).more (ew _) λnE e=>e▸fQ) (by omega) bS rfl
theorem XC{p:J}{n c:Nat}{ls:List b9.cP}(υ:vj w0 p n ls)(h:ib w0 pp W N λA=>A.E.length=8)(eG:N<=900):
  dZ.a1 p n c (some ⟨pp,0,none⟩) W (χ λv w'=>v=.bool true/\η w0 w'):=by
 unfold dZ.a1;refine ik h (by omega) (th 2 7 0 0) (Lj _ _ _ _ _) (Lk _ _ _ _) λcf A u fb jP iL hu=>hu.agg λbW=>?_;have w6:ef (th 2 7 0 0)=x4 ((7:Nat):Int):=rfl;rw[w6]at jP;have d7:=Y8 fb (v:=7) (by omega);have Up:=Ph fb (x4 ((7:Nat):Int));generalize(fB A (x4 ((7:Nat):Int))).1=Qt at jP d7 Up;refine ik jP (by omega) (th 2 6 0 0) (Lj _ _ _ _ _) (Lk _ _ _ _) λcA Cy u al4 mf yF hu=>hu.agg λcE=>?_;subst al4;have w6:ef (th 2 6 0 0)=x4 ((6:Nat):Int):=rfl;rw[w6]at mf;have d6:=Y8 Up (v:=6) (by omega);have abN:=Ph Up (x4 ((6:Nat):Int));have d76:∃e,(fB Cy (x4 ((6:Nat):Int))).1.E[7]?=some e/\e.1=0:=by
  unfold fB;rw[aS ⟨show(1:Int)<=2 by decide,show(2:Int)<=9 by decide⟩];unfold lI x4;dsimp only;rw[aM (by omega),aS rfl];cases ja Cy.E ((6:Nat):Int)with
  |none=>exact d7
  |some e=>
   obtain⟨qJ,dQ,fQ⟩:=d7;refine⟨qJ,?_,fQ⟩;show(Cy.E.set 6 _)[7]?=_;rw[List.getElem?_set,aM (by omega)];exact dQ
 generalize(fB Cy (x4 ((6:Nat):Int))).1=awk at mf d6 abN d76;refine ik mf (by omega) (th 1 0 0 5) (Lj _ _ _ _ _) (Lk _ _ _ _) λdn awl u al5 GX rS hu=>?_;subst al5;have w6:ef (th 1 0 0 5)=GA 5:=rfl;rw[w6]at GX hu;obtain⟨i,o,dQ,fQ⟩:=avK abN d6 d76;rw[dQ]at hu;refine TY hu λθ eR t dz cU dc dD dH dJ jm eu ai _ _=>?_;refine⟨_,ai.at (j:=1) rfl,?_⟩;rw[cond_neg (by rfl)];exact aiN υ o ((GX.to jm).more (ew _) λnE e=>e▸⟨_,fQ⟩) (by omega) ai rfl
end
theorem Pj{w:World}{p:J}{n c:Nat}{rows:List aU}(aj:zr w rm 56 (lH w rm yW) p n c rows):∃ls,vj w p n ls:=by obtain⟨ls,rfl,He⟩:=Ll aj.each;exact⟨ls,aj.cells,by simpa using aj.size,He⟩
theorem ajc(a b:Int)(p:J)(n c:Nat)(rows:List aU)(bT:J)(eX aT:Nat)(ash:List aU)(w:World)(aQ:0<=a/\a<256)(ψ:0<=b/\b<256)(aj:zr w rm 56 (lH w rm yW) p n c rows)(pa:zr w rm 56 (lH w rm yW) bT eX aT ash):
  dZ.C a b p n c bT eX aT w (χ λv w'=>v=.bool true/\η w w'):=by
 obtain⟨ls,υ⟩:=Pj aj;obtain⟨axN,eC⟩:=Pj pa;apply dZ.ok;unfold dZ.main;refine aot aQ ψ λpp aE h=>?_;unfold dZ.bd;have dS:ib w pp aE (10+6*(0:Int).toNat) (λA=>A.E.length=8):=h.more (by omega) λA e=>by subst e;rfl
 refine⟨λe8 e0 fN cR cM de t10 t11 W=>p=e8/\n=e0/\c=fN/\bT=cR/\eX=cM/\aT=de/\some ⟨pp,0,none⟩=t10/\0<=t11/\t11<=60/\ib w pp W (10+6*t11.toNat) λA=>A.E.length=8,λ_ _ _ _ _ _ _ t11 _=>(60-t11).toNat,⟨rfl,rfl,rfl,rfl,rfl,rfl,rfl,by omega,by omega,dS⟩,?_⟩;clear h dS;rintro _ _ _ _ _ _ _ t11 W ⟨rfl,rfl,rfl,rfl,rfl,rfl,rfl,g0,g1,h⟩;unfold dZ.δ;obtain⟨j,rfl⟩:=eH g0;rw[cy]at h⊢;refine bz (λφ=>?_) λφ=>XC eC h (by omega);refine bz (λhk=>?_) λhk=>XC eC h (by omega);have φ:=b7 φ;have hk:=b7 hk;obtain⟨a0,q,rfl,aC,ω⟩:=υ.get (i:=j) (by omega);refine aW (by omega) (aW (by omega) ?_)
 try dsimp only[bk]
 refine⟨q.cells.toArray,rfl,(aC W h.ex).1,?_⟩;refine ik h (by omega) q (aC W h.ex).2 ω λbm A u fb ih hA hu=>hu.agg λbZ=>?_;have aO:((j:Int)+1).toNat=j+1:=by omega
 rw[bY (x:=(j:Int)+1) (by omega) (by omega)];refine⟨⟨by trivial,by trivial,by trivial,by trivial,by trivial,by trivial,by trivial,by omega,by omega,?_⟩,by((try dsimp only);omega)⟩;rw[aO];exact ih.more (by omega) λnE e=>e▸Ph fb _
end Go.Proofs.YtcpdfhkhaekekaaGreat.G.eb

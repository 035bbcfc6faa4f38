/- The walk of the functions, and the plain laws of the model: part of the proof. Conditions: none. -/
import Derived.Test.YtcpdfhkhaekekaaGreatA4
set_option linter.unusedVariables false
set_option linter.unusedSimpArgs false
namespace Go.Proofs.YtcpdfhkhaekekaaGreat.G
open Tryz
open Go.bI
set_option maxRecDepth 100000
def Fy.main(a0:J)(e0 e1 j3 j4:Int)(RM RL:Nat)(w:World)(R:ak):Prop:=
 aR w #[e0,e1,j3,j4,.complex .f64 RM RL] 155 λε δ=>
 ξ a0 λd1=>
 ∃ad aD c1,δ.drew.cell? (d1.add 8)=some (.slice ad aD c1)/\
 (∃(aQ:ah),aQ.size=5/\aw δ.drew ⟨ε,0,none⟩ aQ.toList/\
  (ξ (Instr.fill (λi=>some (i*5,5)) (madeCells #[(0:Int),(0:Int),(0:Int),(0:Int),.complex .f64 0 0] (1*5)) [(0,(.agg aQ))]) λbK=>
   aR δ.drew bK 155 λι υ=>
   υ.cell? (d1.add 8)=some (.slice ad aD c1)/\
   (gD υ ad aD c1 1 (a8 υ (some ⟨ι,0,none⟩)) 155 5 48 #[(0:Int),(0:Int),(0:Int),(0:Int),.complex .f64 0 0] λaX c2 aa=>
    ξ a0 λd2=>
    ef aa (d2.add 8) (.slice aX (aD+1) c2) λax=>
    (ξ a0 λd3=>
     ef ax (d3.add 9) (.bool true) λaG=>
     (R (.returned (.tuple #[])) aG)))))
abbrev Fy.C(a0:J)(e0 e1 j3 j4:Int)(RM RL:Nat):=Calls prog 75 #[.pointer a0,.agg #[e0,e1,j3,j4,.complex .f64 RM RL]]
theorem Fy.ok:GU Fy.main Fy.C:=λh=>dt func75 [] 17 h
def FT.main(a0:J)(aq:Int)(w:World)(R:ak):Prop:=
 κ prog 84 #[.pointer a0,aq] w (λv1 δ=>
  b6 v1 λbT=>
  ξ (bT[0]?) λv2=>
  dZ v2 λaQ=>
  ξ (bT[1]?) λv3=>
  bq .i64 v3 λζ=>
  aR δ #[(0:Int),(0:Int)] 84 λε aa=>
  ο (decide (aQ.size=2)) (
   bM aa ⟨ε,0,none⟩ aQ.toList λax=>
   (cond (ζ==0) (
    ξ a0 λd1=>
    ο (decide (0<=aq)) (
     ο (decide (aq<(8:Int))) (
      ξ a0 λd2=>
      bM ax.drew (d1.add (aq.toNat*2)) [(.int .i64 0),(.int .i64 0)] λaG=>
      (ο (decide (0<=aq)) (
       ο (decide (aq<(8:Int))) (
        ef aG ((d2.add 16).add (aq.toNat*1)) (.pointer none) λba=>
        (R (.returned (.int .i64 ζ)) ba))))))) (
    R (.returned (.int .i64 ζ)) ax)))) (aB R)
abbrev FT.C(a0:J)(aq:Int):=Calls prog 76 #[.pointer a0,aq]
theorem FT.ok:jT FT.main FT.C:=λh=>dt func76 [.tmp 4] 27 h
def FW.main(a0:J)(aq:Int)(w:World)(R:ak):Prop:=
 κ prog 84 #[.pointer a0,aq] w (λv1 δ=>
  b6 v1 λbT=>
  ξ (bT[0]?) λv2=>
  dZ v2 λaQ=>
  ξ (bT[1]?) λv3=>
  bq .i64 v3 λζ=>
  aR δ #[(0:Int),(0:Int)] 84 λε aa=>
  ο (decide (aQ.size=2)) (
   bM aa ⟨ε,0,none⟩ aQ.toList λax=>
   (cond (ζ !=0) (
    R (.returned (.tuple #[(0:Int),ζ])) ax) (
    κ prog 118 #[.pointer a0] ax (λv4 aG=>
     b6 v4 λeV=>
     ξ (eV[0]?) λv5=>
     bq .i64 v5 λτ=>
     ξ (eV[1]?) λv6=>
     bq .i64 v6 λab=>
     cond (ab==0) (
      ∃aA,aG.drew.cell? ⟨ε,1,none⟩=some (.int .i64 aA)/\
      (ξ a0 λd1=>
       ο (decide (0<=aq)) (
        ο (decide (aq<(8:Int))) (
         ∃ad,aG.drew.cell? ((d1.add 16).add (aq.toNat*1))=some (.pointer ad)/\
         (ξ a0 λd2=>
          ο (decide (0<=τ)) (
           ο (decide (τ<(8:Int))) (
            ξ a0 λd3=>
            bM aG.drew (d2.add (τ.toNat*2)) [(.int .i64 2),(.int .i64 aA)] λbk=>
            (ο (decide (0<=τ)) (
            ο (decide (τ<(8:Int))) (
            ef bk ((d3.add 16).add (τ.toNat*1)) (.pointer ad) λb9=>
            (R (.returned (.tuple #[τ,ab])) b9))))))))))) (
      R (.returned (.tuple #[τ,ab])) aG)) (aB R))))) (aB R)
abbrev FW.C(a0:J)(aq:Int):=Calls prog 77 #[.pointer a0,aq]
theorem FW.ok:jT FW.main FW.C:=λh=>dt func77 [.tmp 4,.tmp 5] 46 h
def FA.main(a0:J)(e0 e1 j3 j4:Int)(kS:J)(kR kQ:Nat)(w:World)(R:ak):Prop:=
 aR w #[e0,e1,j3,j4,.slice kS kR kQ] 40 λε δ=>
 ξ a0 λd1=>
 ∃ad,δ.drew.cell? (d1.add 4)=some (.pointer ad)/\
 (∃ζ,δ.drew.cell? ⟨ε,1,none⟩=some (.int .i64 ζ)/\
  (∃τ,δ.drew.cell? ⟨ε,2,none⟩=some (.int .i64 τ)/\
   (κ prog 119 #[.pointer ad,ζ,τ] δ.drew (λv1 υ=>
    b6 v1 λbT=>
    ξ (bT[0]?) λv2=>
    lG v2 λcS m1=>
    ξ (bT[1]?) λv3=>
    dD v3 λι=>
    ξ (bT[2]?) λv4=>
    bq .i64 v4 λab=>
    κ prog 52 #[ab] υ (λv5 ax=>
     b6 v5 λeV=>
     cond (!ι) (
      aR ax (madeCells #[.int .u8 0] (64*1)) 5 λaH ba=>
      R (.returned (.slice (some ⟨aH,0,none⟩) 64 64)) ba) (
      ξ a0 λd2=>
      ∃(aQ:ah),aQ.size=2/\aw ax (d2.add 2) aQ.toList/\
      (κ prog 54 #[.agg aQ,.complex .f64 cS m1] ax (λv6 bk=>
       b6 v6 λhQ=>
       ξ (hQ[0]?) λfS=>
       bq .i64 fS λaA=>
       ξ (hQ[1]?) λbg=>
       bq .i64 bg λal=>
       ξ a0 λd3=>
       ∃aX,bk.cell? (d3.add 1)=some (.pointer aX)/\
       (κ prog 23 #[.pointer aX,aA] bk (λv9 ca=>
        b6 v9 λlU=>
        ξ (lU[0]?) λv10=>
        df v10 λbl aD c1=>
        ξ (lU[1]?) λv11=>
        bq .i64 v11 λaJ=>
        κ prog 52 #[aJ] ca (λv12 cH=>
         b6 v12 λvk=>
         R (.returned (.slice bl aD c1)) cH) (aB R)) (aB R))) (aB R)))) (aB R)) (aB R))))
abbrev FA.C(a0:J)(e0 e1 j3 j4:Int)(kS:J)(kR kQ:Nat):=Calls prog 78 #[.pointer a0,.agg #[e0,e1,j3,j4,.slice kS kR kQ]]
theorem FA.ok:C8 FA.main FA.C:=λh=>dt func78 [.tmp 4] 50 h
def kl.b7(t0:J)(t3:Nat)(w:World)(R:ak):Prop:=
 ∃ej br c2,w.cell? ⟨t3,4,none⟩=some (.slice ej br c2)/\
 (κ prog 55 #[.pointer t0,.slice ej br c2,(2:Int)] w (λv21 k3=>
  lG v21 λcS m1=>
  ξ t0 λd4=>
  ∃fD,k3.drew.cell? (d4.add 4)=some (.pointer fD)/\
  (∃dG,k3.drew.cell? ⟨t3,1,none⟩=some (.int .i64 dG)/\
   (∃gV,k3.drew.cell? ⟨t3,2,none⟩=some (.int .i64 gV)/\
    (κ prog 80 #[.pointer fD,dG,gV,.complex .f64 cS m1,.bool true] k3.drew (λv22 jr=>
     bq .i64 v22 λjs=>
     κ prog 52 #[js] jr (λv23 sr=>
      b6 v23 λahF=>
      ∃mn,sr.cell? ⟨t3,1,none⟩=some (.int .i64 mn)/\
      (∃jR,sr.cell? ⟨t3,2,none⟩=some (.int .i64 jR)/\
       (κ prog 75 #[.pointer t0,.agg #[(4:Int),mn,(0:Int),jR,.complex .f64 cS m1]] sr (λv24 ss=>
        b6 v24 λQM=>
        R (.returned (.tuple #[])) ss) (aB R)))) (aB R)) (aB R))))) (aB R))
def kl.bP(t0:J)(t3:Nat)(t6 t8:Int)(t42:Bool)(w:World)(R:ak):Prop:=
 cond t42 (
  κ prog 52 #[(5:Int)] w (λsq eK=>
   b6 sq λQN=>
   kl.b7 t0 t3 eK R) (aB R)) (
  ∃aX aD c1,w.cell? ⟨t3,4,none⟩=some (.slice aX aD c1)/\
  (cond (((aD:Nat):Int)!=64) (
    κ prog 52 #[(6:Int)] w (λv17 fb=>
     b6 v17 λQO=>
     kl.b7 t0 t3 fb R) (aB R)) (
    cond (decide ((IntKind.i64.wrap (t6+1))>t8)) (
     κ prog 52 #[(9:Int)] w (λvh fT=>
      b6 vh λahJ=>
      kl.b7 t0 t3 fT R) (aB R)) (
     ξ t0 λd3=>
     ∃bl,w.cell? (d3.add 5)=some (.pointer bl)/\
     (κ prog 120 #[.pointer bl,(2:Int)] w (λvi hg=>
       dD vi λaf=>
       cond (!af) (
        κ prog 52 #[(12:Int)] hg (λv20 jf=>
         b6 v20 λQL=>
         kl.b7 t0 t3 jf R) (aB R)) (
        kl.b7 t0 t3 hg R)) (aB R))))))
def kl.aZ(t0:J)(t3 t4:Nat)(t5:Int)(w:World)(R:ak):Prop:=
 κ prog 52 #[t5] w (λfS dk=>
  b6 fS λhQ=>
  κ prog 48 #[.pointer t0] dk (λbg cn=>
   dZ bg λb2=>
   κ prog 82 #[.agg b2] cn (λv9 dJ=>
    b6 v9 λlU=>
    ξ (lU[0]?) λv10=>
    bq .i64 v10 λaA=>
    ξ (lU[1]?) λv11=>
    bq .i64 v11 λal=>
    ξ t0 λd2=>
    ∃(bY:ah),bY.size=2/\aw dJ (d2.add 2) bY.toList/\
    (κ prog 83 #[.agg bY] dJ (λv12 eO=>
     b6 v12 λvk=>
     ξ (vk[0]?) λpq=>
     bq .i64 pq λaJ=>
     ξ (vk[1]?) λsn=>
     bq .i64 sn λaV=>
     ∃ct,eO.cell? ⟨t4,0,none⟩=some (.int .i64 ct)/\
     (cond (ct==2) (
      κ prog 52 #[(8:Int)] eO (λso gj=>
       b6 so λBd=>
       kl.b7 t0 t3 gj R) (aB R)) (
      ∃cv,eO.cell? ⟨t3,2,none⟩=some (.int .i64 cv)/\
      (cond (decide (cv<0)) (
        kl.bP t0 t3 aA aJ true eO R) (
        ∃e7,eO.cell? ⟨t3,2,none⟩=some (.int .i64 e7)/\
        (∃fu,eO.cell? ⟨t4,1,none⟩=some (.int .i64 fu)/\
         (kl.bP t0 t3 aA aJ (decide (e7>=fu)) eO R))))))) (aB R))) (aB R)) (aB R)) (aB R)
def kl.main(a0:J)(e0 e1 j3 j4:Int)(kS:J)(kR kQ:Nat)(w:World)(R:ak):Prop:=
 aR w #[e0,e1,j3,j4,.slice kS kR kQ] 40 λε δ=>
 ξ a0 λd1=>
 ∃ad,δ.drew.cell? (d1.add 4)=some (.pointer ad)/\
 (∃ζ,δ.drew.cell? ⟨ε,1,none⟩=some (.int .i64 ζ)/\
  ((κ prog 84 #[.pointer ad,ζ] δ.drew (λv1 υ=>
     b6 v1 λbT=>
     ξ (bT[0]?) λv2=>
     dZ v2 λaQ=>
     ξ (bT[1]?) λv3=>
     bq .i64 v3 λτ=>
     aR υ #[(0:Int),(0:Int)] 84 λι ax=>
     ο (decide (aQ.size=2)) (
      bM ax ⟨ι,0,none⟩ aQ.toList λaG=>
      (kl.aZ a0 ε ι τ aG R))) (aB R))/\
   (aR δ.drew #[(0:Int),(0:Int)] 84 λaH ba=>
    ba.cell? ⟨ε,1,none⟩=some (.int .i64 ζ)/\
    (ba.cell? (d1.add 4)=some (.pointer ad)/\
     (κ prog 84 #[.pointer ad,ζ] ba (λv4 bk=>
       b6 v4 λeV=>
       ξ (eV[0]?) λv5=>
       dZ v5 λbK=>
       ξ (eV[1]?) λv6=>
       bq .i64 v6 λab=>
       ο (decide (bK.size=2)) (
        bM bk ⟨aH,0,none⟩ bK.toList λca=>
        (kl.aZ a0 ε aH ab ca R))) (aB R))))))
abbrev kl.C(a0:J)(e0 e1 j3 j4:Int)(kS:J)(kR kQ:Nat):=Calls prog 79 #[.pointer a0,.agg #[e0,e1,j3,j4,.slice kS kR kQ]]
theorem kl.ok:C8 kl.main kl.C:=λ{_ _ _ _ _ _ _ _ _ R}h=>fg func79 [] 97 (.seq .leaf (.cut [(0,.ptr),(3,.c5),(4,.c5),(5,.int .i64)] (kl.aZ · · · · · R) .leaf (.seq .leaf (.seq .leaf (.seq .leaf (.cut [(0,.ptr),(3,.c5)] (kl.b7 · · · R) (.block (.seq .leaf (.cond .leaf (.cut [(0,.ptr),(3,.c5),(6,.int .i64),(8,.int .i64),(42,.bool)] (kl.bP · · · · · · R) .leaf .leaf)))) .leaf)))))) h
def pe.bP(t0:J)(t1 t2:Int)(Mi Mh:Nat)(t4:Bool)(w:World)(R:ak):Prop:=
 ξ t0 λd1=>
 ο (decide (0<=t1)) (
  ο (decide (t1<(8:Int))) (
   ∃ad,w.cell? ((d1.add 16).add (t1.toNat*1))=some (.pointer ad)/\
   (cond t4 (
    κ prog 72 #[.pointer ad,t2,.complex .f64 Mi Mh] w (λv5 bk=>
     b6 v5 λeV=>
     ξ (eV[0]?) λv6=>
     hD v6 λaX=>
     ξ (eV[1]?) λfS=>
     bq .i64 fS λaA=>
     ξ t0 λd2=>
     ο (decide (0<=t1)) (
      ο (decide (t1<(8:Int))) (
       ef bk ((d2.add 16).add (t1.toNat*1)) (.pointer aX) λcH=>
       (R (.returned (.int .i64 0)) cH)))) (aB R)) (
    κ prog 121 #[.pointer ad,t2] w (λbg ca=>
     b6 bg λhQ=>
     ξ (hQ[0]?) λv9=>
     hD v9 λbl=>
     ξ (hQ[1]?) λv10=>
     bq .i64 v10 λal=>
     ξ t0 λd3=>
     ο (decide (0<=t1)) (
      ο (decide (t1<(8:Int))) (
       ef ca ((d3.add 16).add (t1.toNat*1)) (.pointer bl) λcn=>
       (R (.returned (.int .i64 0)) cn)))) (aB R)))))
def pe.aZ(t0:J)(t1 t2:Int)(Mi Mh:Nat)(t4 t28:Bool)(w:World)(R:ak):Prop:=
 cond t28 (
  R (.returned (.int .i64 5)) w) (
  cond t4 (
   κ prog 115 #[.complex .f64 Mi Mh] w (λv4 aG=>
    dD v4 λι=>
    cond (!ι) (
     R (.returned (.int .i64 2)) aG) (
     pe.bP t0 t1 t2 Mi Mh t4 aG R)) (aB R)) (
   pe.bP t0 t1 t2 Mi Mh t4 w R))
def pe.main(a0:J)(aq a2:Int)(Na M9:Nat)(a4:Bool)(w:World)(R:ak):Prop:=
 κ prog 84 #[.pointer a0,aq] w (λv1 δ=>
  b6 v1 λbT=>
  ξ (bT[0]?) λv2=>
  dZ v2 λaQ=>
  ξ (bT[1]?) λv3=>
  bq .i64 v3 λζ=>
  aR δ #[(0:Int),(0:Int)] 84 λε aa=>
  ο (decide (aQ.size=2)) (
   bM aa ⟨ε,0,none⟩ aQ.toList λax=>
   (cond (ζ !=0) (
    R (.returned (.int .i64 ζ)) ax) (
    ∃τ,ax.cell? ⟨ε,0,none⟩=some (.int .i64 τ)/\
    (cond (τ==2) (
     R (.returned (.int .i64 8)) ax) (
     cond (decide (a2<0)) (
      pe.aZ a0 aq a2 Na M9 a4 true ax R) (
      ∃ab,ax.cell? ⟨ε,1,none⟩=some (.int .i64 ab)/\
      (pe.aZ a0 aq a2 Na M9 a4 (decide (a2>=ab)) ax R)))))))) (aB R)
abbrev pe.C(a0:J)(aq a2:Int)(Na M9:Nat)(a4:Bool):=Calls prog 80 #[.pointer a0,aq,a2,.complex .f64 Na M9,.bool a4]
theorem pe.ok:yq pe.main pe.C:=λ{_ _ _ _ _ _ _ R}h=>fg func80 [.tmp 10] 70 (.seq .leaf (.seq .leaf (.cut [(0,.ptr),(1,.int .i64),(2,.int .i64),(3,.p5),(4,.bool)] (pe.bP · · · · · · · R) (.block (.seq .leaf (.cond .leaf (.seq .leaf (.cond .leaf (.cut [(0,.ptr),(1,.int .i64),(2,.int .i64),(3,.p5),(4,.bool),(28,.bool)] (pe.aZ · · · · · · · · R) .leaf .leaf)))))) .leaf))) h
def FC.main(a0:J)(w:World)(R:ak):Prop:=
 ξ a0 λd1=>
 ∃ε,w.cell? (d1.add 9)=some (.bool ε)/\
 (cond (!ε) (
  R (.returned (.tuple #[])) w) (
  ξ a0 λd2=>
  ∃ad aD c1,w.cell? (d2.add 8)=some (.slice ad aD c1)/\
  (ξ a0 λd3=>
   ∃ζ,w.cell? (d3.add 7)=some (.int .i64 ζ)/\
   (∀aZ:Nat,
    cond (decide (((aD:Nat):Int)>(IntKind.i64.wrap ((IntKind.i64.wrap (16-ζ))*6)))) (
     κ prog 32 #[.pointer a0] (w.drewN aZ) (λv1 δ=>
      b6 v1 λbT=>
      R (.returned (.tuple #[])) δ) (aB R)) (
     ξ a0 λd4=>
     ∃aX,(w.drewN aZ).cell? (d4.add 1)=some (.pointer aX)/\
     (κ prog 57 #[.pointer aX] (w.drewN aZ) (λv2 aa=>
       bq .i64 v2 λτ=>
       κ prog 52 #[τ] aa (λv3 aG=>
        b6 v3 λeV=>
        ξ a0 λd5=>
        ∃bl,aG.drew.cell? (d5.add 1)=some (.pointer bl)/\
        (ξ a0 λd6=>
         ∃ab,aG.drew.cell? (d6.add 6)=some (.int .i64 ab)/\
         (ξ a0 λd7=>
          ∃aA,aG.drew.cell? (d7.add 7)=some (.int .i64 aA)/\
          (ξ a0 λd8=>
           ∃ej br c2,aG.drew.cell? (d8.add 8)=some (.slice ej br c2)/\
           (κ prog 122 #[.pointer bl,ab,aA,.slice ej br c2] aG.drew (λv4 bk=>
            b6 v4 λhQ=>
            ξ (hQ[0]?) λv5=>
            bq .i64 v5 λal=>
            ξ (hQ[1]?) λv6=>
            bq .i64 v6 λaJ=>
            κ prog 52 #[aJ] bk (λfS ca=>
            b6 fS λlU=>
            ξ a0 λd9=>
            ∃fD,ca.cell? (d9.add 1)=some (.pointer fD)/\
            (κ prog 57 #[.pointer fD] ca (λbg cH=>
            bq .i64 bg λaV=>
            κ prog 52 #[aV] cH (λv9 de=>
            b6 v9 λvk=>
            ξ a0 λd10=>
            ef de (d10.add 7) (.int .i64 al) λep=>
            (ξ a0 λd11=>
            ef ep (d11.add 8) (.slice none 0 0) λeO=>
            (ξ a0 λd12=>
            ef eO (d12.add 9) (.bool false) λgP=>
            (R (.returned (.tuple #[])) gP)))) (aB R)) (aB R))) (aB R)) (aB R)))))) (aB R)) (aB R)))))))
abbrev FC.C(a0:J):=Calls prog 81 #[.pointer a0]
theorem FC.ok:ic FC.main FC.C:=λh=>dt func81 [] 67 h
def Fo.main(a0:ah)(w:World)(R:ak):Prop:=
 aR w a0 89 λε δ=>
 ∃(aQ:ah),aQ.size=24/\aw δ ⟨ε,0,none⟩ aQ.toList/\
 (κ prog 69 #[.agg aQ] δ (λv1 υ=>
  dD v1 λι=>
  cond (!ι) (
   R (.returned (.tuple #[(0:Int),(2:Int)])) υ) (
   ∃(bK:ah),bK.size=24/\aw υ ⟨ε,0,none⟩ bK.toList/\
   (κ prog 110 #[.agg bK] υ (λv2 ax=>
    p6 v2 λcS=>
    Vi ax cS λζ=>
    R (.returned (.tuple #[ζ,(0:Int)])) ax) (aB R)))) (aB R))
abbrev Fo.C(a0:ah):=Calls prog 82 #[.agg a0]
theorem Fo.ok:ic Fo.main Fo.C:=λh=>dt func82 [.tmp 2,.tmp 3] 10 h
def Ft.main(fl gn:Int)(w:World)(R:ak):Prop:=
 aR w #[fl,gn] 28 λε δ=>
 ∃(aQ:ah),aQ.size=2/\aw δ ⟨ε,0,none⟩ aQ.toList/\
 (κ prog 73 #[.agg aQ] δ (λv1 υ=>
  bq .i64 v1 λζ=>
  cond (ζ !=0) (
   R (.returned (.tuple #[(0:Int),ζ])) υ) (
   ∃τ,υ.cell? ⟨ε,0,none⟩=some (.int .i64 τ)/\
   (∃ab,υ.cell? ⟨ε,1,none⟩=some (.int .i64 ab)/\
    (R (.returned (.tuple #[(IntKind.i64.wrap ((IntKind.i64.wrap ((IntKind.i64.wrap (τ-2))-2))*ab)),(0:Int)])) υ)))) (aB R))
abbrev Ft.C(fl gn:Int):=Calls prog 83 #[.agg #[fl,gn]]
theorem Ft.ok:jT Ft.main Ft.C:=λh=>dt func83 [.tmp 2,.tmp 3] 17 h
def FU.main(a0:J)(aq:Int)(w:World)(R:ak):Prop:=
 aR w #[(0:Int),(0:Int)] 84 λε δ=>
 cond (Option.isNone a0) (
  bM δ ⟨ε,0,none⟩ [(.int .i64 0),(.int .i64 0)] λυ=>
  (∃(aQ:ah),aQ.size=2/\aw υ ⟨ε,0,none⟩ aQ.toList/\
   (R (.returned (.tuple #[.agg aQ,(1:Int)])) υ))) (
  cond (decide (aq<0)) (
   bM δ ⟨ε,0,none⟩ [(.int .i64 0),(.int .i64 0)] λaa=>
   (∃(bK:ah),bK.size=2/\aw aa ⟨ε,0,none⟩ bK.toList/\
    (R (.returned (.tuple #[.agg bK,(4:Int)])) aa))) (
   cond (decide (aq>=8)) (
    bM δ ⟨ε,0,none⟩ [(.int .i64 0),(.int .i64 0)] λax=>
    (∃(b2:ah),b2.size=2/\aw ax ⟨ε,0,none⟩ b2.toList/\
     (R (.returned (.tuple #[.agg b2,(4:Int)])) ax))) (
    ξ a0 λd1=>
    ο (decide (0<=aq)) (
     ο (decide (aq<(8:Int))) (
      ∃ζ,δ.cell? (d1.add (aq.toNat*2))=some (.int .i64 ζ)/\
      (cond (ζ==0) (
       bM δ ⟨ε,0,none⟩ [(.int .i64 0),(.int .i64 0)] λaG=>
       (∃(bY:ah),bY.size=2/\aw aG ⟨ε,0,none⟩ bY.toList/\
        (R (.returned (.tuple #[.agg bY,(4:Int)])) aG))) (
       ξ a0 λd2=>
       ο (decide (0<=aq)) (
        ο (decide (aq<(8:Int))) (
         ∃(cN:ah),cN.size=2/\aw δ (d2.add (aq.toNat*2)) cN.toList/\
         (ο (decide (cN.size=2)) (
          bM δ ⟨ε,0,none⟩ cN.toList λba=>
          (∃(dU:ah),dU.size=2/\aw ba ⟨ε,0,none⟩ dU.toList/\
           (R (.returned (.tuple #[.agg dU,(0:Int)])) ba)))))))))))))
abbrev FU.C(a0:J)(aq:Int):=Calls prog 84 #[.pointer a0,aq]
theorem FU.ok:jT FU.main FU.C:=λh=>dt func84 [.cell 4 84,.tmp 5] 34 h
def rI.ε(t1 t2:Nat)(t4:Int)(w:World)(R:ak)(aS:Nat->Nat->Int->ai):Prop:=
 cond (decide (t4<8)) (
  ο (decide (0<=t4)) (
   ο (decide (t4<(8:Int))) (
    ∃ad aD c1,w.cell? (Addr.add ⟨t1,16,none⟩ (t4.toNat*1))=some (.slice ad aD c1)/\
    (κ prog 123 #[.slice ad aD c1] w (λv1 aa=>
      df v1 λaX br c2=>
      ο (decide (0<=t4)) (
       ο (decide (t4<(8:Int))) (
        ef aa (Addr.add ⟨t1,16,none⟩ (t4.toNat*1)) (.slice aX br c2) λaG=>
        (aS t1 t2 (IntKind.i64.wrap (t4+1)) aG)))) (aB R))))) (
  ∃(aQ:ah),aQ.size=24/\aw w ⟨t1,0,none⟩ aQ.toList/\
  (ο (decide (aQ.size=24)) (
    bM w ⟨t2,0,none⟩ aQ.toList λba=>
    (∃(bK:ah),bK.size=24/\aw ba ⟨t2,0,none⟩ bK.toList/\
     (R (.returned (.agg bK)) ba)))))
def rI.bd:=HU rI.ε
def rI.main(a0:ah)(w:World)(R:ak):Prop:=
 aR w a0 89 λε δ=>
 aR δ #[(0:Int),(0:Int),(0:Int),(0:Int),(0:Int),(0:Int),(0:Int),(0:Int),(0:Int),(0:Int),(0:Int),(0:Int),(0:Int),(0:Int),(0:Int),(0:Int),.slice none 0 0,.slice none 0 0,.slice none 0 0,.slice none 0 0,.slice none 0 0,.slice none 0 0,.slice none 0 0,.slice none 0 0] 89 λι υ=>
 rI.bd ε ι 0 υ R
abbrev rI.C(a0:ah):=Calls prog 85 #[.agg a0]
theorem rI.ok:ic rI.main rI.C:=λ{_ _ R}h=>fg func85 [.cell 2 89] 17 (.seq .leaf (.seq (.seq .leaf (.block (.loop [(1,.c5),(2,.c5),(4,.int .i64)] (rI.bd · · · · R) λaS=>.leaf))) .leaf)) h
def sh.ε(t2 t3:Nat)(t17:ah)(t18:Int)(w:World)(R:ak)(aS:Nat->Nat->ah->Int->ai):Prop:=
 cond (decide (t18<8)) (
  ο (decide (0<=t18)) (
   ο (decide (t18<(8:Int))) (
    ξ (t17[(t18.toNat*1)]?) λv1=>
    hD v1 λad=>
    κ prog 124 #[.pointer ad] w (λv2 aG=>
     df v2 λaX aD c1=>
     ο (decide (0<=t18)) (
      ο (decide (t18<(8:Int))) (
       ef aG (Addr.add ⟨t3,16,none⟩ (t18.toNat*1)) (.slice aX aD c1) λbk=>
       (aS t2 t3 t17 (IntKind.i64.wrap (t18+1)) bk)))) (aB R)))) (
  ∃(cN:ah),cN.size=24/\aw w ⟨t3,0,none⟩ cN.toList/\
  (ο (decide (cN.size=24)) (
    bM w ⟨t2,0,none⟩ cN.toList λb9=>
    (∃(dU:ah),dU.size=24/\aw b9 ⟨t2,0,none⟩ dU.toList/\
     (R (.returned (.agg dU)) b9)))))
def sh.bd:=OY sh.ε
def sh.main(a0:J)(w:World)(R:ak):Prop:=
 aR w #[(0:Int),(0:Int),(0:Int),(0:Int),(0:Int),(0:Int),(0:Int),(0:Int),(0:Int),(0:Int),(0:Int),(0:Int),(0:Int),(0:Int),(0:Int),(0:Int),.slice none 0 0,.slice none 0 0,.slice none 0 0,.slice none 0 0,.slice none 0 0,.slice none 0 0,.slice none 0 0,.slice none 0 0] 89 λε δ=>
 aR δ #[(0:Int),(0:Int),(0:Int),(0:Int),(0:Int),(0:Int),(0:Int),(0:Int),(0:Int),(0:Int),(0:Int),(0:Int),(0:Int),(0:Int),(0:Int),(0:Int),.slice none 0 0,.slice none 0 0,.slice none 0 0,.slice none 0 0,.slice none 0 0,.slice none 0 0,.slice none 0 0,.slice none 0 0] 89 λι υ=>
 cond (Option.isNone a0) (
  ∃(aQ:ah),aQ.size=24/\aw υ ⟨ι,0,none⟩ aQ.toList/\
  (ο (decide (aQ.size=24)) (
   bM υ ⟨ε,0,none⟩ aQ.toList λaa=>
   (∃(bK:ah),bK.size=24/\aw aa ⟨ε,0,none⟩ bK.toList/\
    (R (.returned (.agg bK)) aa))))) (
  ξ a0 λd1=>
  ∃(b2:ah),b2.size=16/\aw υ d1 b2.toList/\
  (ο (decide (b2.size=16)) (
   bM υ ⟨ι,0,none⟩ b2.toList λax=>
   (ξ a0 λd2=>
    ∃(bY:ah),bY.size=8/\aw ax (d2.add 16) bY.toList/\
    (sh.bd ε ι bY 0 ax R)))))
abbrev sh.C(a0:J):=Calls prog 86 #[.pointer a0]
theorem sh.ok:ic sh.main sh.C:=λ{_ _ R}h=>fg func86 [.cell 2 89] 29 (.seq .leaf (.seq .leaf (.seq .leaf (.seq .leaf (.seq (.seq .leaf (.block (.loop [(2,.c5),(3,.c5),(17,.agg),(18,.int .i64)] (sh.bd · · · · · R) λaS=>.leaf))) .leaf))))) h
def tk.ε(t3:Nat)(t17:ah)(t18:Int)(w:World)(R:ak)(aS:Nat->ah->Int->ai):Prop:=
 cond (decide (t18<8)) (
  ο (decide (0<=t18)) (
   ο (decide (t18<(8:Int))) (
    ξ (t17[(t18.toNat*1)]?) λv3=>
    df v3 λad aD c1=>
    κ prog 113 #[.slice ad aD c1,.func (.func 125) #[] #[.pointer (some ⟨t3,0,none⟩)]] w (λv4 bk=>
     dD v4 λaf=>
     cond af (
      R (.returned (.int .i64 5)) bk) (
      aS t3 t17 (IntKind.i64.wrap (t18+1)) bk)) (aB R)))) (
  R (.returned (.int .i64 0)) w)
def tk.bd:=HU tk.ε
def tk.main(a0:ah)(e0 e1:Int)(w:World)(R:ak):Prop:=
 aR w a0 89 λε δ=>
 aR δ #[e0,e1] 28 λι υ=>
 ∃(aQ:ah),aQ.size=2/\aw υ ⟨ι,0,none⟩ aQ.toList/\
 (κ prog 73 #[.agg aQ] υ (λv1 aa=>
  bq .i64 v1 λζ=>
  cond (ζ !=0) (
   R (.returned (.int .i64 ζ)) aa) (
   ∃(bK:ah),bK.size=24/\aw aa ⟨ε,0,none⟩ bK.toList/\
   (κ prog 69 #[.agg bK] aa (λv2 aG=>
    dD v2 λaH=>
    cond (!aH) (
     R (.returned (.int .i64 2)) aG) (
     ∃(b2:ah),b2.size=8/\aw aG ⟨ε,16,none⟩ b2.toList/\
     (tk.bd ι b2 0 aG R))) (aB R)))) (aB R))
abbrev tk.C(a0:ah)(e0 e1:Int):=Calls prog 87 #[.agg a0,.agg #[e0,e1]]
theorem tk.ok:iL tk.main tk.C:=λ{_ _ _ _ R}h=>fg func87 [.tmp 4] 25 (.seq .leaf (.seq .leaf (.seq .leaf (.seq (.seq .leaf (.block (.loop [(3,.c5),(17,.agg),(18,.int .i64)] (tk.bd · · · · R) λaS=>.leaf))) .leaf)))) h
def kj.bP(kM:J)(ka lS:Nat)(jo:J)(ia je:Nat)(w:World)(R:ak):Prop:=
 R (.returned (.tuple #[.slice kM ka lS,.slice jo ia je,(0:Int)])) w
def kj.ι(t5:Option Nat)(kM:J)(ka lS:Nat)(jo:J)(ia je:Nat)(Mc:J)(Mb Qj:Nat)(t32 t33:Int)(w:World)(R:ak)(fG:Option Nat->J->Nat->Nat->J->Nat->Nat->J->Nat->Nat->Int->Int->ai):Prop:=
 cond (decide (t33<t32)) (
  ο (decide (0<=t33)) (
   ο (decide (t33<((Mb:Nat):Int))) (
    ξ Mc λd1=>
    ∃jC m2,w.cell? (d1.add (t33.toNat*1))=some (.complex .f64 jC m2)/\
    (HT prog w t5 jC m2 213 (.slice none 0 0) λbg=>
     df bg λbl br bJ=>
     aR w #[.slice bl br bJ] 213 λdC cn=>
     gD cn jo ia je 1 (a8 cn (some ⟨dC,0,none⟩)) 213 1 24 #[.slice none 0 0] λej fU de=>
     fG t5 kM ka lS ej (ia+1) fU Mc Mb Qj t32 (IntKind.i64.wrap (t33+1)) de)))) (
  kj.bP kM ka lS jo ia je w R)
def kj.fm:=ap9 kj.ι
def kj.aZ(t5:Option Nat)(kM:J)(ka lS:Nat)(w:World)(R:ak):Prop:=
 κ prog 126 #[.slice kM ka lS] w (λv5 dk=>
  b6 v5 λbT=>
  ξ (bT[0]?) λv6=>
  df v6 λaX aD c2=>
  ξ (bT[1]?) λfS=>
  bq .i64 fS λζ=>
  kj.fm t5 aX aD c2 none 0 0 aX aD c2 ((aD:Nat):Int) 0 dk R) (aB R)
def kj.ε(t5:Option Nat)(kM:J)(ka lS t17:Nat)(w:World)(R:ak)(aS:Option Nat->J->Nat->Nat->Nat->ai):Prop:=
 Vl w ⟨t17,0,none⟩ (
  kj.aZ t5 kM ka lS w R) λaM bk=>
 SK bk ⟨t17,0,none⟩ λv3 v4=>
 lG v3 λfX m1=>
 aR bk #[.complex .f64 fX m1] 113 λaf b9=>
 gD b9 kM ka lS 1 (a8 b9 (some ⟨af,0,none⟩)) 113 1 16 #[.complex .f64 0 0] λad c1 ca=>
 aS t5 ad (ka+1) c1 t17 ca
def kj.bd:=Cj kj.ε
def kj.main(a0:ah)(w:World)(R:ak):Prop:=
 aR w a0 89 λε δ=>
 ∃(aQ:ah),aQ.size=24/\aw δ ⟨ε,0,none⟩ aQ.toList/\
 (κ prog 69 #[.agg aQ] δ (λv1 υ=>
  dD v1 λι=>
  cond (!ι) (
   R (.returned (.tuple #[.slice none 0 0,.slice none 0 0,(2:Int)])) υ) (
   ∃(bK:ah),bK.size=24/\aw υ ⟨ε,0,none⟩ bK.toList/\
   (κ prog 110 #[.agg bK] υ (λv2 ax=>
    p6 v2 λcS=>
    ad6 ax cS λaH ba=>
    kj.bd cS none 0 0 aH ba R) (aB R)))) (aB R))
abbrev kj.C(a0:ah):=Calls prog 88 #[.agg a0]
theorem kj.ok:ic kj.main kj.C:=λ{_ _ R}h=>fg func88 [.tmp 2,.tmp 3,.tmp 4] 46 (.seq .leaf (.seq .leaf (.seq .leaf (.seq .leaf (.cut [(5,.map),(6,.slice)] (kj.aZ · · · · · R) (.seq .leaf (.block (.loop [(5,.map),(6,.slice),(17,.c5)] (kj.bd · · · · · · R) λaS=>.leaf))) (.seq .leaf (.seq .leaf (.cut [(6,.slice),(8,.slice)] (kj.bP · · · · · · · R) (.seq .leaf (.block (.loop [(5,.map),(6,.slice),(8,.slice),(31,.slice),(32,.int .i64),(33,.int .i64)] (kj.fm · · · · · · · · · · · · · R) λfG=>.leaf))) .leaf)))))))) h
def F7.main(bD:J)(a6 bx:Nat)(w:World)(R:ak):Prop:=
 cond (Option.isNone bD) (
  R (.returned (.slice none 0 0)) w) (
  aR w #[] 3 λε δ=>
  gD δ (some ⟨ε,0,none⟩) 0 0 a6 (a8 δ bD) 3 1 8 #[(0:Int)] λad c1 υ=>
  R (.returned (.slice ad (0+a6) c1)) υ)
abbrev F7.C(bD:J)(a6 bx:Nat):=Calls prog 89 #[.slice bD a6 bx]
theorem F7.ok:iL F7.main F7.C:=λh=>dt func89 [.tmp 2] 8 h
def DL.main(fl gn:Int)(gv:J)(fc gz:Nat)(w:World)(R:ak):Prop:=
 aR w #[fl,gn] 28 λε δ=>
 ∃(aQ:ah),aQ.size=2/\aw δ ⟨ε,0,none⟩ aQ.toList/\
 (κ prog 73 #[.agg aQ] δ (λv1 υ=>
  bq .i64 v1 λζ=>
  cond (ζ==0) (
   ∃τ,υ.cell? ⟨ε,0,none⟩=some (.int .i64 τ)/\
   (cond (((fc:Nat):Int)==τ) (
    κ prog 127 #[.slice gv fc gz,.func (.func 128) #[] #[.pointer (some ⟨ε,0,none⟩)]] υ (λv2 ax=>
     dD v2 λι=>
     R (.returned (.bool (!ι))) ax) (aB R)) (
    R (.returned (.bool false)) υ))) (
   R (.returned (.bool false)) υ)) (aB R))
abbrev DL.C(fl gn:Int)(gv:J)(fc gz:Nat):=Calls prog 90 #[.agg #[fl,gn],.slice gv fc gz]
theorem DL.ok:vy DL.main DL.C:=λh=>dt func90 [.tmp 4] 21 h
def FM.main(a0 aq a2:Int)(w:World)(R:ak):Prop:=
 cond (decide (aq<2)) (
  R (.returned (.tuple #[(0:Int),(0:Int),(1:Int)])) w) (
  cond (decide (aq>16)) (
   R (.returned (.tuple #[(0:Int),(0:Int),(1:Int)])) w) (
   cond (decide (a0<0)) (
    R (.returned (.tuple #[(0:Int),(0:Int),(1:Int)])) w) (
    cond (decide (a0>aq)) (
     R (.returned (.tuple #[(0:Int),(0:Int),(1:Int)])) w) (
     cond (decide (a2<0)) (
      R (.returned (.tuple #[(0:Int),(0:Int),(1:Int)])) w) (
      cond (decide (a2>=65536)) (
       R (.returned (.tuple #[(0:Int),(0:Int),(1:Int)])) w) (
       R (.returned (.tuple #[(IntKind.i64.wrap ((IntKind.i64.wrap (aq-a0))*(IntKind.i64.wrap (a2+1)))),(IntKind.i64.wrap (aq+a0)),(0:Int)])) w))))))
abbrev FM.C(a0 aq a2:Int):=Calls prog 91 #[a0,aq,a2]
theorem FM.ok:iL FM.main FM.C:=λh=>dt func91 [.tmp 6,.tmp 7,.tmp 8] 41 h
def tr.ε(cj:J)(cb cu:Nat)(mg:J)(mf pR:Nat)(t6 t24 t25:Int)(w:World)(R:ak)(aS:J->Nat->Nat->J->Nat->Nat->Int->Int->Int->ai):Prop:=
 cond (decide (t25<t24)) (
  ο (decide (0<=t25)) (
   ο (decide (t25<((cb:Nat):Int))) (
    ξ cj λd1=>
    ∃ζ,w.drew.cell? (d1.add (t25.toNat*1))=some (.int .i64 ζ)/\
    (ο (decide (0<=t25)) (
     ο (decide (t25<((mf:Nat):Int))) (
      ξ mg λd2=>
      ∃τ,w.drew.cell? (d2.add (t25.toNat*1))=some (.int .i64 τ)/\
      (κ prog 129 #[ζ,τ] w.drew (λv1 δ=>
       dD v1 λε=>
       cond (!ε) (
        R (.returned (.tuple #[(0:Int),(1:Int)])) δ) (
        ο (decide (0<=t25)) (
         ο (decide (t25<((cb:Nat):Int))) (
          ξ cj λd3=>
          ∃ab,δ.drew.cell? (d3.add (t25.toNat*1))=some (.int .i64 ab)/\
          (ο (decide (0<=t25)) (
           ο (decide (t25<((mf:Nat):Int))) (
           ξ mg λd4=>
           ∃aA,δ.drew.cell? (d4.add (t25.toNat*1))=some (.int .i64 aA)/\
           (ο (decide (0<=t6)) (
           ο (decide (t6<((cb:Nat):Int))) (
           ξ cj λd5=>
           ∃al,δ.drew.cell? (d5.add (t6.toNat*1))=some (.int .i64 al)/\
           (ο (decide (0<=t6)) (
           ο (decide (t6<((mf:Nat):Int))) (
           ξ mg λd6=>
           ∃aJ,δ.drew.cell? (d6.add (t6.toNat*1))=some (.int .i64 aJ)/\
           (κ prog 130 #[ab,aA,al,aJ] δ.drew (λv2 aa=>
           bq .i64 v2 λaV=>
           cond (decide (aV>0)) (
           aS cj cb cu mg mf pR t25 t24 (IntKind.i64.wrap (t25+1)) aa) (
           aS cj cb cu mg mf pR t6 t24 (IntKind.i64.wrap (t25+1)) aa)) (aB R))))))))))))))) (aB R)))))))) (
  R (.returned (.tuple #[t6,(0:Int)])) w)
def tr.bd:=K1 tr.ε
def tr.main(bD:J)(a6 bx:Nat)(gv:J)(fc gz:Nat)(w:World)(R:ak):Prop:=
 cond (((a6:Nat):Int)!=((fc:Nat):Int)) (
  R (.returned (.tuple #[(0:Int),(1:Int)])) w) (
  cond (((a6:Nat):Int)==0) (
   R (.returned (.tuple #[(0:Int),(1:Int)])) w) (
   cond (decide (((a6:Nat):Int)>4096)) (
    R (.returned (.tuple #[(0:Int),(1:Int)])) w) (
    tr.bd bD a6 bx gv fc gz 0 ((a6:Nat):Int) 0 w R)))
abbrev tr.C(bD:J)(a6 bx:Nat)(gv:J)(fc gz:Nat):=Calls prog 92 #[.slice bD a6 bx,.slice gv fc gz]
theorem tr.ok:yq tr.main tr.C:=λ{_ _ _ _ _ _ _ R}h=>fg func92 [.tmp 4,.tmp 5] 59 (.seq .leaf (.seq .leaf (.seq .leaf (.seq (.seq .leaf (.block (.loop [(0,.slice),(1,.slice),(6,.int .i64),(24,.int .i64),(25,.int .i64)] (tr.bd · · · · · · · · · · R) λaS=>.leaf))) .leaf)))) h
def DK.main(jv jJ dN:Nat)(w:World)(R:ak):Prop:=
 ξ ((FloatKind.f64.decode jv).toInt .zero) λζ=>
 ο (decide (IntKind.i64.min<=ζ)) (
  ο (decide (ζ<=IntKind.i64.max)) (
   ∃τ,w.cell? ⟨dN,0,none⟩=some (.int .i64 τ)/\
   (R (.returned (.bool (ζ !=τ))) w)))
abbrev DK.C(jv jJ dN:Nat):=Calls prog 94 #[.complex .f64 jv jJ,.pointer (some ⟨dN,0,none⟩)]
theorem DK.ok:iL DK.main DK.C:=λh=>dt func94 [.tmp 3] 9 h
def Dn.main(jv jJ:Nat)(aq:Int)(w:World)(R:ak):Prop:=
 κ prog 132 #[.complex .f64 jv jJ] w (λv1 δ=>
  b6 v1 λbT=>
  ξ (bT[0]?) λv2=>
  bq .i64 v2 λζ=>
  ξ (bT[1]?) λv3=>
  bq .i64 v3 λτ=>
  ξ (bT[2]?) λv4=>
  bq .i64 v4 λab=>
  κ prog 133 #[aq] δ (λv5 aa=>
   dD v5 λε=>
   cond (!ε) (
    R (.returned (.tuple #[(0:Int),(1:Int)])) aa) (
    cond (ab !=0) (
     R (.returned (.tuple #[(0:Int),ab])) aa) (
     cond (decide (τ>=aq)) (
      R (.returned (.tuple #[(0:Int),(5:Int)])) aa) (
      R (.returned (.tuple #[(IntKind.i64.wrap ((IntKind.i64.wrap (ζ*aq))+τ)),(0:Int)])) aa)))) (aB R)) (aB R)
abbrev Dn.C(jv jJ:Nat)(aq:Int):=Calls prog 95 #[.complex .f64 jv jJ,aq]
theorem Dn.ok:iL Dn.main Dn.C:=λh=>dt func95 [.tmp 4,.tmp 5] 32 h
def pQ.bP(t0:J)(w:World)(R:ak):Prop:=
 ξ t0 λd7=>
 ∃τ,w.drew.cell? (d7.add 3)=some (.int .i64 τ)/\
 (ξ t0 λd8=>
  ∃ab,w.drew.cell? (d8.add 1)=some (.int .i64 ab)/\
  (ξ t0 λd9=>
   ∃aA,w.drew.cell? (d9.add 4)=some (.int .i64 aA)/\
   (ξ t0 λd10=>
    ∃al,w.drew.cell? (d10.add 1)=some (.int .i64 al)/\
    (κ prog 135 #[(IntKind.i64.wrap ((IntKind.i64.wrap (τ*ab))+aA)),al] w.drew (λv4 dk=>
     b6 v4 λbT=>
     ξ (bT[0]?) λv5=>
     lG v5 λcS m1=>
     ξ (bT[1]?) λv6=>
     bq .i64 v6 λaJ=>
     ξ t0 λd11=>
     ∃aV,dk.cell? (d11.add 4)=some (.int .i64 aV)/\
     (ξ t0 λd12=>
      ef dk (d12.add 4) (.int .i64 (IntKind.i64.wrap (aV+1))) λcn=>
      (R (.returned (.tuple #[.complex .f64 cS m1,(0:Int)])) cn))) (aB R)))))
def pQ.aZ(t0:J)(t1:Int)(t8:Bool)(w:World)(R:ak):Prop:=
 cond t8 (
  R (.returned (.tuple #[.complex .f64 0 0,(1:Int)])) w) (
  κ prog 120 #[.pointer t0,t1] w (λv1 δ=>
   dD v1 λε=>
   cond (!ε) (
    R (.returned (.tuple #[.complex .f64 0 0,(9:Int)])) δ) (
    κ prog 134 #[.pointer t0] δ (λv2 aa=>
     dD v2 λι=>
     cond ι (
      ξ t0 λd1=>
      ∃ad aD c1,aa.drew.cell? (d1.add 2)=some (.slice ad aD c1)/\
      (ο (decide (0<((aD:Nat):Int))) (
       ξ ad λd2=>
       ∃ζ,aa.drew.cell? d2=some (.int .i64 ζ)/\
       (ξ t0 λd3=>
        ∃aX br c2,aa.drew.cell? (d3.add 2)=some (.slice aX br c2)/\
        (ο (decide (1<=((br:Nat):Int))) (
         κ prog 89 #[.slice (dA aX c2 1 1) (br-1) (c2-1)] aa.drew (λv3 aG=>
          df v3 λbl dz bJ=>
          aG.cell? d2=some (.int .i64 ζ)/\
          (aG.cell? (d1.add 2)=some (.slice ad aD c1)/\
           (ξ t0 λd4=>
           ef aG (d4.add 3) (.int .i64 ζ) λbk=>
           (ξ t0 λd5=>
           ef bk (d5.add 4) (.int .i64 0) λb9=>
           (ξ t0 λd6=>
           ef b9 (d6.add 2) (.slice bl dz bJ) λca=>
           (pQ.bP t0 ca R)))))) (aB R))))))) (
      pQ.bP t0 aa R)) (aB R))) (aB R))
def pQ.main(a0:J)(aq:Int)(w:World)(R:ak):Prop:=
 cond (Option.isNone a0) (
  pQ.aZ a0 aq true w R) (
  pQ.aZ a0 aq (decide (aq<0)) w R)
abbrev pQ.C(a0:J)(aq:Int):=Calls prog 96 #[.pointer a0,aq]
theorem pQ.ok:jT pQ.main pQ.C:=λ{_ _ _ R}h=>fg func96 [.tmp 4,.tmp 5] 76 (.seq .leaf (.cut [(0,.ptr)] (pQ.bP · · R) (.block (.cut [(0,.ptr),(1,.int .i64),(8,.bool)] (pQ.aZ · · · · R) .leaf .leaf)) .leaf)) h
def o8.ε(re rb t3 t6:Nat)(Qs:J)(Qr WK:Nat)(t51 t52:Int)(w:World)(R:ak)(aS:Nat->Nat->Nat->Nat->J->Nat->Nat->Int->Int->ai):Prop:=
 cond (decide (t52<t51)) (
  ο (decide (0<=t52)) (
   ο (decide (t52<((Qr:Nat):Int))) (
    ξ Qs λd1=>
    ∃(iN:ah),iN.size=2/\aw w (d1.add (t52.toNat*2)) iN.toList/\
    (aR w #[(0:Int),(0:Int)] 221 λgb fF=>
     ο (decide (iN.size=2)) (
      bM fF ⟨gb,0,none⟩ iN.toList λeK=>
      (∃ζ,eK.drew.cell? ⟨gb,0,none⟩=some (.int .i64 ζ)/\
       (ο (decide (0<=ζ)) (
        ο (decide (ζ<(8:Int))) (
         ∃ej iA fU,eK.drew.cell? (Addr.add ⟨t3,16,none⟩ (ζ.toNat*1))=some (.slice ej iA fU)/\
         (∃τ,eK.drew.cell? ⟨gb,1,none⟩=some (.int .i64 τ)/\
          (ξ (uh re 0) λfX=>
           ξ (uh rb 0) λm1=>
           ο (decide (0<=τ)) (
            ο (decide (τ<((iA:Nat):Int))) (
            ξ ej λd2=>
            (eK.drew.cell? (d2.add (τ.toNat*1))).isSome=true/\eK.drew.frozen? (d2.add (τ.toNat*1))=false/\∀fY,fY=eK.drew.setCell (d2.add (τ.toNat*1)) (.complex .f64 fX m1)->
            (aS re rb t3 t6 Qs Qr WK t51 (IntKind.i64.wrap (t52+1)) fY)))))))))))))) (
  ∃(ko:ah),ko.size=24/\aw w ⟨t3,0,none⟩ ko.toList/\
  (ο (decide (ko.size=24)) (
    bM w ⟨t6,0,none⟩ ko.toList λfb=>
    (∃(lF:ah),lF.size=24/\aw fb ⟨t6,0,none⟩ lF.toList/\
     (R (.returned (.tuple #[.agg lF,(0:Int)])) fb)))))
def o8.bd:=K1 o8.ε
def o8.aZ(atY atX re rb t3 t6:Nat)(t8:Option Nat)(w:World)(R:ak):Prop:=
 ∃(hB:ah),hB.size=24/\aw w ⟨t3,0,none⟩ hB.toList/\
 (κ prog 85 #[.agg hB] w (λfS eO=>
  dZ fS λhy=>
  ο (decide (hy.size=24)) (
   bM eO ⟨t3,0,none⟩ hy.toList λgj=>
   (HT prog gj t8 atY atX 213 (.slice none 0 0) λbg=>
    df bg λbl dz bJ=>
    o8.bd re rb t3 t6 bl dz bJ ((dz:Nat):Int) 0 gj R))) (aB R))
def o8.main(a0:ah)(rz ry p1 p0:Nat)(w:World)(R:ak):Prop:=
 aR w a0 89 λε δ=>
 aR δ #[(0:Int),(0:Int),(0:Int),(0:Int),(0:Int),(0:Int),(0:Int),(0:Int),(0:Int),(0:Int),(0:Int),(0:Int),(0:Int),(0:Int),(0:Int),(0:Int),.slice none 0 0,.slice none 0 0,.slice none 0 0,.slice none 0 0,.slice none 0 0,.slice none 0 0,.slice none 0 0,.slice none 0 0] 89 λι υ=>
 ∃(aQ:ah),aQ.size=24/\aw υ ⟨ε,0,none⟩ aQ.toList/\
 (κ prog 69 #[.agg aQ] υ (λv1 aa=>
  dD v1 λaH=>
  cond (!aH) (
   bM aa ⟨ι,0,none⟩ [(.int .i64 0),(.int .i64 0),(.int .i64 0),(.int .i64 0),(.int .i64 0),(.int .i64 0),(.int .i64 0),(.int .i64 0),(.int .i64 0),(.int .i64 0),(.int .i64 0),(.int .i64 0),(.int .i64 0),(.int .i64 0),(.int .i64 0),(.int .i64 0),(.slice none 0 0),(.slice none 0 0),(.slice none 0 0),(.slice none 0 0),(.slice none 0 0),(.slice none 0 0),(.slice none 0 0),(.slice none 0 0)] λca=>
   (∃(bK:ah),bK.size=24/\aw ca ⟨ι,0,none⟩ bK.toList/\
    (R (.returned (.tuple #[.agg bK,(2:Int)])) ca))) (
   κ prog 115 #[.complex .f64 rz ry] aa (λv2 aG=>
    dD v2 λaf=>
    cond (!af) (
     bM aG ⟨ι,0,none⟩ [(.int .i64 0),(.int .i64 0),(.int .i64 0),(.int .i64 0),(.int .i64 0),(.int .i64 0),(.int .i64 0),(.int .i64 0),(.int .i64 0),(.int .i64 0),(.int .i64 0),(.int .i64 0),(.int .i64 0),(.int .i64 0),(.int .i64 0),(.int .i64 0),(.slice none 0 0),(.slice none 0 0),(.slice none 0 0),(.slice none 0 0),(.slice none 0 0),(.slice none 0 0),(.slice none 0 0),(.slice none 0 0)] λdk=>
     (∃(b2:ah),b2.size=24/\aw dk ⟨ι,0,none⟩ b2.toList/\
      (R (.returned (.tuple #[.agg b2,(2:Int)])) dk))) (
     κ prog 115 #[.complex .f64 p1 p0] aG (λv3 bk=>
      dD v3 λdC=>
      cond (!dC) (
       bM bk ⟨ι,0,none⟩ [(.int .i64 0),(.int .i64 0),(.int .i64 0),(.int .i64 0),(.int .i64 0),(.int .i64 0),(.int .i64 0),(.int .i64 0),(.int .i64 0),(.int .i64 0),(.int .i64 0),(.int .i64 0),(.int .i64 0),(.int .i64 0),(.int .i64 0),(.int .i64 0),(.slice none 0 0),(.slice none 0 0),(.slice none 0 0),(.slice none 0 0),(.slice none 0 0),(.slice none 0 0),(.slice none 0 0),(.slice none 0 0)] λcH=>
       (∃(bY:ah),bY.size=24/\aw cH ⟨ι,0,none⟩ bY.toList/\
        (R (.returned (.tuple #[.agg bY,(2:Int)])) cH))) (
       ∃(cN:ah),cN.size=24/\aw bk ⟨ε,0,none⟩ cN.toList/\
       (κ prog 110 #[.agg cN] bk (λv4 cn=>
         p6 v4 λcS=>
         HT prog cn cS rz ry 213 (.slice none 0 0) λv5=>
         df v5 λad aD c1=>
         cond (((aD:Nat):Int)==0) (
          bM cn ⟨ι,0,none⟩ [(.int .i64 0),(.int .i64 0),(.int .i64 0),(.int .i64 0),(.int .i64 0),(.int .i64 0),(.int .i64 0),(.int .i64 0),(.int .i64 0),(.int .i64 0),(.int .i64 0),(.int .i64 0),(.int .i64 0),(.int .i64 0),(.int .i64 0),(.int .i64 0),(.slice none 0 0),(.slice none 0 0),(.slice none 0 0),(.slice none 0 0),(.slice none 0 0),(.slice none 0 0),(.slice none 0 0),(.slice none 0 0)] λdJ=>
          (∃(dU:ah),dU.size=24/\aw dJ ⟨ι,0,none⟩ dU.toList/\
           (R (.returned (.tuple #[.agg dU,(4:Int)])) dJ))) (
          cond (!(ey .eql rz p1&&ey .eql ry p0)) (
           HT prog cn cS p1 p0 213 (.slice none 0 0) λv6=>
           df v6 λaX br c2=>
           cond (decide (((br:Nat):Int)>0)) (
            bM cn ⟨ι,0,none⟩ [(.int .i64 0),(.int .i64 0),(.int .i64 0),(.int .i64 0),(.int .i64 0),(.int .i64 0),(.int .i64 0),(.int .i64 0),(.int .i64 0),(.int .i64 0),(.int .i64 0),(.int .i64 0),(.int .i64 0),(.int .i64 0),(.int .i64 0),(.int .i64 0),(.slice none 0 0),(.slice none 0 0),(.slice none 0 0),(.slice none 0 0),(.slice none 0 0),(.slice none 0 0),(.slice none 0 0),(.slice none 0 0)] λep=>
            (∃(hc:ah),hc.size=24/\aw ep ⟨ι,0,none⟩ hc.toList/\
            (R (.returned (.tuple #[.agg hc,(12:Int)])) ep))) (
            o8.aZ rz ry p1 p0 ε ι cS cn R)) (
           o8.aZ rz ry p1 p0 ε ι cS cn R))) (aB R)))) (aB R))) (aB R))) (aB R))
abbrev o8.C(a0:ah)(rz ry p1 p0:Nat):=Calls prog 97 #[.agg a0,.complex .f64 rz ry,.complex .f64 p1 p0]
theorem o8.ok:vy o8.main o8.C:=λ{_ _ _ _ _ _ R}h=>fg func97 [.cell 6 89,.tmp 7] 68 (.seq .leaf (.seq .leaf (.seq .leaf (.cut [(1,.p5),(2,.p5),(3,.c5),(6,.c5),(8,.map)] (o8.aZ · · · · · · · · R) .leaf (.seq .leaf (.seq (.seq .leaf (.block (.loop [(2,.p5),(3,.c5),(6,.c5),(50,.slice),(51,.int .i64),(52,.int .i64)] (o8.bd · · · · · · · · · · R) λaS=>.leaf))) .leaf)))))) h
def DC.main(a0:J)(w:World)(R:ak):Prop:=
 ξ a0 λd1=>
 ∃ζ,w.cell? (d1.add 3)=some (.int .i64 ζ)/\
 (cond (ζ==0) (
  ξ a0 λd2=>
  ef w (d2.add 4) (.bool true) λδ=>
  (ξ a0 λd6=>
   ∃ε,δ.cell? (d6.add 4)=some (.bool ε)/\
   (R (.returned (.bool ε)) δ))) (
  ξ a0 λd3=>
  ∃τ,w.cell? (d3.add 3)=some (.int .i64 τ)/\
  (cond (decide (τ>0)) (
    ξ a0 λd4=>
    ∃ab,w.cell? (d4.add 3)=some (.int .i64 ab)/\
    (ξ a0 λd5=>
     ef w (d5.add 3) (.int .i64 (IntKind.i64.wrap (ab-1))) λυ=>
     (ξ a0 λd7=>
      ∃ι,υ.cell? (d7.add 4)=some (.bool ι)/\
      (R (.returned (.bool ι)) υ)))) (
    ξ a0 λd8=>
    ∃aH,w.cell? (d8.add 4)=some (.bool aH)/\
    (R (.returned (.bool aH)) w)))))
abbrev DC.C(a0:J):=Calls prog 98 #[.pointer a0]
theorem DC.ok:ic DC.main DC.C:=λh=>dt func98 [.tmp 2] 27 h
def bo.ρ(α:Type)(fx:World->ai)(bw:List α->ai)(pre:List α)(x:α)(fT:World)(af:Nat)(eZ:J)(dz:Nat)(h3:Nat)(cH:World):Prop:=
 ef fT ⟨af,0,none⟩ (Value.slice eZ (dz+1) h3) λqF=>
 (KeepsOthers cH qF/\fx cH qF/\bw (pre++[x]) qF)
def bo.az(α:Type)(fx:World->ai)(bw:List α->ai)(pre:List α)(x:α)(iW:World)(bl:J)(dz:Nat)(bJ:Nat)(iZ:Nat)(af:Nat)(cH:World):Prop:=
 gD iW bl dz bJ 1 (a8 iW (some ⟨iZ,0,none⟩)) 34 1 24 #[(Value.slice none 0 0)] λeZ h3 fT=>
 bo.ρ α fx bw pre x fT af eZ dz h3 cH
def bo.bu(α:Type)(fx:World->ai)(bw:List α->ai)(pre:List α)(x:α)(fY:World)(iq:J)(n7:Nat)(mw:Nat)(af:Nat)(bl:J)(dz:Nat)(bJ:Nat)(cH:World):Prop:=
 aR fY #[(Value.slice iq n7 mw)] 34 λiZ iW=>
 iW.cell? (⟨af,0,none⟩:Addr)=some (Value.slice bl dz bJ)/\
 (bo.az α fx bw pre x iW bl dz bJ iZ af cH)
def bo.cm(α:Type)(fx:World->ai)(bw:List α->ai)(pre:List α)(x:α)(nD:J)(n6:Nat)(br:Nat)(lX:Nat)(eK:World)(af:Nat)(bl:J)(dz:Nat)(bJ:Nat)(cH:World):Prop:=
 κ prog 138 #[(Value.slice nD (n6+br) lX)] eK (λv6 fY=>
 df v6 λiq n7 mw=>
 fY.cell? (⟨af,0,none⟩:Addr)=some (Value.slice bl dz bJ)/\
 (bo.bu α fx bw pre x fY iq n7 mw af bl dz bJ cH)) λcX fb=>False
def bo.cz(α:Type)(fx:World->ai)(bw:List α->ai)(pre:List α)(x:α)(gj:World)(iB:J)(n6:Nat)(nt:Nat)(br:Nat)(aX:J)(af:Nat)(bl:J)(dz:Nat)(bJ:Nat)(cH:World):Prop:=
 gD gj iB n6 nt br (a8 gj aX) 5 1 1 #[(Value.int .u8 0)] λnD lX eK=>
 eK.cell? (⟨af,0,none⟩:Addr)=some (Value.slice bl dz bJ)/\
 (bo.cm α fx bw pre x nD n6 br lX eK af bl dz bJ cH)
def bo.bS(α:Type)(fx:World->ai)(bw:List α->ai)(pre:List α)(x:α)(fD:J)(pF:Nat)(h2:Nat)(gb:Nat)(gP:World)(af:Nat)(bl:J)(dz:Nat)(bJ:Nat)(br:Nat)(aX:J)(cH:World):Prop:=
 κ prog 139 #[(Value.slice fD pF h2),(Value.int .i64 1),(Value.slice (some ⟨gb,0,none⟩) 2 2)] gP (λv5 gj=>
 df v5 λiB n6 nt=>
 gj.cell? (⟨af,0,none⟩:Addr)=some (Value.slice bl dz bJ)/\
 (bo.cz α fx bw pre x gj iB n6 nt br aX af bl dz bJ cH)) λcX fF=>False
def bo.eM(α:Type)(fx:World->ai)(bw:List α->ai)(pre:List α)(x:α)(ep:World)(iA:Nat)(br:Nat)(af:Nat)(bl:J)(dz:Nat)(bJ:Nat)(fD:J)(pF:Nat)(h2:Nat)(aX:J)(cH:World):Prop:=
 aR ep #[(Value.int .i64 ((iA:Nat):Int)),(Value.int .i64 ((br:Nat):Int))] 3 λgb gP=>
 gP.cell? (⟨af,0,none⟩:Addr)=some (Value.slice bl dz bJ)/\
 (bo.bS α fx bw pre x fD pF h2 gb gP af bl dz bJ br aX cH)
def bo.ff(α:Type)(fx:World->ai)(bw:List α->ai)(pre:List α)(x:α)(dC:Nat)(hg:World)(af:Nat)(bl:J)(dz:Nat)(bJ:Nat)(qQ:Nat)(br:Nat)(aX:J)(cH:World):Prop:=
 κ prog 139 #[(Value.slice none 0 0),(Value.int .i64 4),(Value.slice (some ⟨dC,0,none⟩) 1 1)] hg (λfS iX=>
 df fS λH7 n8 akB=>
 iX.cell? (⟨af,0,none⟩:Addr)=some (Value.slice bl dz bJ)/\
 (bo.bS α fx bw pre x H7 n8 akB qQ iX af bl dz bJ br aX cH)) λcX jf=>False
def bo.jm(α:Type)(fx:World->ai)(bw:List α->ai)(pre:List α)(x:α)(dC:Nat)(dJ:World)(af:Nat)(ej:J)(iA:Nat)(fU:Nat)(bl:J)(dz:Nat)(bJ:Nat)(br:Nat)(aX:J)(cH:World):Prop:=
 (κ prog 139 #[(Value.slice none 0 0),(Value.int .i64 4),(Value.slice (some ⟨dC,0,none⟩) 1 1)] dJ (λv4 ep=>
 df v4 λfD pF h2=>
 ep.cell? (⟨af,0,none⟩:Addr)=some (Value.slice ej iA fU)/\
 (ep.cell? (⟨af,0,none⟩:Addr)=some (Value.slice bl dz bJ)/\
 (bo.eM α fx bw pre x ep iA br af bl dz bJ fD pF h2 aX cH))) λcX eO=>False)/\
 (aR dJ #[(Value.int .i64 ((iA:Nat):Int)),(Value.int .i64 ((br:Nat):Int))] 3 λqQ hg=>
 hg.cell? (⟨af,0,none⟩:Addr)=some (Value.slice bl dz bJ)/\
 (bo.ff α fx bw pre x dC hg af bl dz bJ qQ br aX cH))
def bo.qk(α:Type)(fx:World->ai)(bw:List α->ai)(pre:List α)(x:α)(nM:World)(aA:Int)(af:Nat)(bl:J)(dz:Nat)(bJ:Nat)(vI:Nat)(br:Nat)(aX:J)(cH:World):Prop:=
 aR nM #[(Value.int .i64 aA)] 3 λJB ox=>
 ox.cell? (⟨af,0,none⟩:Addr)=some (Value.slice bl dz bJ)/\
 (bo.ff α fx bw pre x JB ox af bl dz bJ vI br aX cH)
def bo.r2(α:Type)(fx:World->ai)(bw:List α->ai)(pre:List α)(x:α)(cH:World)(aA:Int)(af:Nat)(ej:J)(iA:Nat)(fU:Nat)(bl:J)(dz:Nat)(bJ:Nat)(br:Nat)(aX:J)(aH:Nat):Prop:=
 (aR cH.drew #[(Value.int .i64 aA)] 3 λdC dJ=>
 dJ.cell? (⟨af,0,none⟩:Addr)=some (Value.slice ej iA fU)/\
 (dJ.cell? (⟨af,0,none⟩:Addr)=some (Value.slice bl dz bJ)/\
 (bo.jm α fx bw pre x dC dJ af ej iA fU bl dz bJ br aX cH)))/\
 (aR cH.drew #[(Value.int .i64 ((iA:Nat):Int)),(Value.int .i64 ((br:Nat):Int))] 3 λvI nM=>
 nM.cell? (⟨aH,0,none⟩:Addr)=some (Value.int .i64 aA)/\
 (nM.cell? (⟨af,0,none⟩:Addr)=some (Value.slice bl dz bJ)/\
 (bo.qk α fx bw pre x nM aA af bl dz bJ vI br aX cH)))
def bo.AK(D:Nat)(Be:World)(xi:Nat)(n18:Nat)(nd:J)(R:ak):Prop:=
 gD Be (some ⟨xi,0,none⟩) 1 1 n18 (a8 Be nd) 34 1 24 #[(Value.slice none 0 0)] λVK R3 vo=>
 vo.heap[D]?=some (Obj.deferred (some []))/\
 R (.returned (Value.tuple #[(Value.slice VK (1+n18) R3),(Value.int .i64 0)])) (vo.putObj D (Obj.deferred none))
def bo.o3(D:Nat)(sv:World)(Cr:J)(n20:Nat)(BJ:Nat)(af:Nat)(nd:J)(n18:Nat)(oK:Nat)(R:ak):Prop:=
 aR sv #[(Value.slice Cr n20 BJ)] 34 λxi Be=>
 Be.cell? (⟨af,0,none⟩:Addr)=some (Value.slice nd n18 oK)/\
 (bo.AK D Be xi n18 nd R)
def bo.r3(D:Nat)(Lk:J)(n19:Nat)(JH:Nat)(CW:World)(af:Nat)(nd:J)(n18:Nat)(oK:Nat)(R:ak):Prop:=
 κ prog 138 #[(Value.slice Lk n19 JH)] CW (λvh sv=>
 df vh λCr n20 BJ=>
 sv.cell? (⟨af,0,none⟩:Addr)=some (Value.slice nd n18 oK)/\
 (bo.o3 D sv Cr n20 BJ af nd n18 oK R)) (λcX I6=>I6.heap[D]?=some (Obj.deferred (some []))/\
 R (.panicked cX) (I6.putObj D (Obj.deferred none)))
def bo.tg(D:Nat)(wy:J)(n17:Nat)(vJ:Nat)(Ds:Nat)(MF:World)(af:Nat)(nd:J)(n18:Nat)(oK:Nat)(R:ak):Prop:=
 κ prog 139 #[(Value.slice wy n17 vJ),(Value.int .i64 4),(Value.slice (some ⟨Ds,0,none⟩) 1 1)] MF (λv17 CW=>
 df v17 λLk n19 JH=>
 CW.cell? (⟨af,0,none⟩:Addr)=some (Value.slice nd n18 oK)/\
 (bo.r3 D Lk n19 JH CW af nd n18 oK R)) (λcX b3=>b3.heap[D]?=some (Obj.deferred (some []))/\
 R (.panicked cX) (b3.putObj D (Obj.deferred none)))
def bo.r4(D:Nat)(ME:World)(ct:Int)(af:Nat)(nd:J)(n18:Nat)(oK:Nat)(wy:J)(n17:Nat)(vJ:Nat)(R:ak):Prop:=
 aR ME #[(Value.int .i64 (IntKind.i64.wrap ct))] 3 λDs MF=>
 MF.cell? (⟨af,0,none⟩:Addr)=some (Value.slice nd n18 oK)/\
 (bo.tg D wy n17 vJ Ds MF af nd n18 oK R)
def bo.Cn(D:Nat)(ad:J)(aD:Nat)(c1:Nat)(qG:World)(af:Nat)(nd:J)(n18:Nat)(oK:Nat)(wy:J)(n17:Nat)(vJ:Nat)(R:ak):Prop:=
 κ prog 140 #[(Value.slice ad aD c1)] qG.drew (λsq ME=>
 bq .u32 sq λct=>
 ME.cell? (⟨af,0,none⟩:Addr)=some (Value.slice nd n18 oK)/\
 (bo.r4 D ME ct af nd n18 oK wy n17 vJ R)) (λcX QR=>QR.heap[D]?=some (Obj.deferred (some []))/\
 R (.panicked cX) (QR.putObj D (Obj.deferred none)))
def bo.pG(D:Nat)(r6:J)(n16:Nat)(rG:Nat)(p3:Nat)(yk:World)(af:Nat)(ad:J)(aD:Nat)(c1:Nat)(R:ak):Prop:=
 κ prog 139 #[(Value.slice r6 n16 rG),(Value.int .i64 2),(Value.slice (some ⟨p3,0,none⟩) 1 1)] yk (λso qG=>
 df so λwy n17 vJ=>
 ∃(nd:J)(n18:Nat)(oK:Nat),qG.drew.cell? (⟨af,0,none⟩:Addr)=some (Value.slice nd n18 oK)/\
 (bo.Cn D ad aD c1 qG af nd n18 oK wy n17 vJ R)) (λcX MD=>MD.heap[D]?=some (Obj.deferred (some []))/\
 R (.panicked cX) (MD.putObj D (Obj.deferred none)))
def bo.K9(D:Nat)(CV:World)(aD:Nat)(r6:J)(n16:Nat)(rG:Nat)(af:Nat)(ad:J)(c1:Nat)(R:ak):Prop:=
 aR CV #[(Value.int .i64 ((aD:Nat):Int))] 3 λp3 yk=>
 bo.pG D r6 n16 rG p3 yk af ad aD c1 R
def bo.o4(D:Nat)(kZ:J)(n15:Nat)(kU:Nat)(oI:Nat)(zL:World)(yB:Nat)(af:Nat)(ad:J)(aD:Nat)(c1:Nat)(R:ak):Prop:=
 κ prog 139 #[(Value.slice kZ n15 kU),(Value.int .i64 1),(Value.slice (some ⟨oI,0,none⟩) 3 3)] zL (λvi QS=>
 df vi λadw n21 G1=>
 bo.pG D adw n21 G1 yB QS af ad aD c1 R) (λcX QT=>QT.heap[D]?=some (Obj.deferred (some []))/\
 R (.panicked cX) (QT.putObj D (Obj.deferred none)))
def bo.l9(D:Nat)(kZ:J)(n15:Nat)(kU:Nat)(oI:Nat)(pr:World)(aD:Nat)(af:Nat)(ad:J)(c1:Nat)(R:ak):Prop:=
 (κ prog 139 #[(Value.slice kZ n15 kU),(Value.int .i64 1),(Value.slice (some ⟨oI,0,none⟩) 3 3)] pr (λsn CV=>
 df sn λr6 n16 rG=>
 bo.K9 D CV aD r6 n16 rG af ad c1 R) (λcX QQ=>QQ.heap[D]?=some (Obj.deferred (some []))/\
 R (.panicked cX) (QQ.putObj D (Obj.deferred none))))/\
 (aR pr #[(Value.int .i64 ((aD:Nat):Int))] 3 λyB zL=>
 bo.o4 D kZ n15 kU oI zL yB af ad aD c1 R)
def bo.AL(D:Nat)(tT:World)(aJ:Int)(aV:Int)(n14:Nat)(kZ:J)(n15:Nat)(kU:Nat)(Dt:Nat)(af:Nat)(ad:J)(aD:Nat)(c1:Nat)(R:ak):Prop:=
 aR tT #[(Value.int .i64 aJ),(Value.int .i64 aV),(Value.int .i64 ((n14:Nat):Int))] 3 λYR QU=>
 bo.o4 D kZ n15 kU YR QU Dt af ad aD c1 R
def bo.za(D:Nat)(tS:World)(aJ:Int)(aV:Int)(n14:Nat)(kZ:J)(n15:Nat)(kU:Nat)(aD:Nat)(af:Nat)(ad:J)(c1:Nat)(cB:J)(cA:Nat)(ι:Nat)(R:ak):Prop:=
 (aR tS #[(Value.int .i64 aJ),(Value.int .i64 aV),(Value.int .i64 ((n14:Nat):Int))] 3 λoI pr=>
 bo.l9 D kZ n15 kU oI pr aD af ad c1 R)/\
 (aR tS #[(Value.int .i64 ((aD:Nat):Int))] 3 λDt tT=>
 tT.cell? (⟨af,0,none⟩:Addr)=some (Value.slice cB n14 cA)/\
 (tT.cell? (⟨ι,1,none⟩:Addr)=some (Value.int .i64 aV)/\
 (tT.cell? (⟨ι,0,none⟩:Addr)=some (Value.int .i64 aJ)/\
 (bo.AL D tT aJ aV n14 kZ n15 kU Dt af ad aD c1 R))))
def bo.Co(D:Nat)(cZ:Nat)(jV:Nat)(ye:World)(ue:Nat)(Dv:Nat)(af:Nat)(ad:J)(aD:Nat)(c1:Nat)(R:ak):Prop:=
 κ prog 139 #[(Value.slice (some ⟨cZ,0,none⟩) 4 4),(Value.int .i64 4),(Value.slice (some ⟨jV,0,none⟩) 1 1)] ye (λv40 ahO=>
 df v40 λady n42 Zd=>
 bo.o4 D ady n42 Zd ue ahO Dv af ad aD c1 R) (λcX ahP=>ahP.heap[D]?=some (Obj.deferred (some []))/\
 R (.panicked cX) (ahP.putObj D (Obj.deferred none)))
def bo.E6(D:Nat)(cZ:Nat)(jV:Nat)(yl:World)(ue:Nat)(aD:Nat)(af:Nat)(ad:J)(c1:Nat)(R:ak):Prop:=
 (κ prog 139 #[(Value.slice (some ⟨cZ,0,none⟩) 4 4),(Value.int .i64 4),(Value.slice (some ⟨jV,0,none⟩) 1 1)] yl (λMu ah3=>
 df Mu λadx n31 Zc=>
 bo.l9 D adx n31 Zc ue ah3 aD af ad c1 R) (λcX ahK=>ahK.heap[D]?=some (Obj.deferred (some []))/\
 R (.panicked cX) (ahK.putObj D (Obj.deferred none))))/\
 (aR yl #[(Value.int .i64 ((aD:Nat):Int))] 3 λDv ye=>
 bo.Co D cZ jV ye ue Dv af ad aD c1 R)
def bo.E7(D:Nat)(cZ:Nat)(jV:Nat)(tM:World)(af:Nat)(cB:J)(n14:Nat)(cA:Nat)(ι:Nat)(aV:Int)(aJ:Int)(BD:Nat)(ad:J)(aD:Nat)(c1:Nat)(R:ak):Prop:=
 (κ prog 139 #[(Value.slice (some ⟨cZ,0,none⟩) 4 4),(Value.int .i64 4),(Value.slice (some ⟨jV,0,none⟩) 1 1)] tM (λv46 Mx=>
 df v46 λadz n48 Ze=>
 Mx.cell? (⟨af,0,none⟩:Addr)=some (Value.slice cB n14 cA)/\
 (Mx.cell? (⟨ι,1,none⟩:Addr)=some (Value.int .i64 aV)/\
 (Mx.cell? (⟨ι,0,none⟩:Addr)=some (Value.int .i64 aJ)/\
 (bo.AL D Mx aJ aV n14 adz n48 Ze BD af ad aD c1 R)))) (λcX ahR=>ahR.heap[D]?=some (Obj.deferred (some []))/\
 R (.panicked cX) (ahR.putObj D (Obj.deferred none))))/\
 (aR tM #[(Value.int .i64 aJ),(Value.int .i64 aV),(Value.int .i64 ((n14:Nat):Int))] 3 λY3 ahT=>
 bo.Co D cZ jV ahT Y3 BD af ad aD c1 R)
def bo.wm(D:Nat)(cZ:Nat)(jV:Nat)(oy:World)(af:Nat)(cB:J)(n14:Nat)(cA:Nat)(ι:Nat)(aV:Int)(aJ:Int)(aD:Nat)(ad:J)(c1:Nat)(R:ak):Prop:=
 (κ prog 139 #[(Value.slice (some ⟨cZ,0,none⟩) 4 4),(Value.int .i64 4),(Value.slice (some ⟨jV,0,none⟩) 1 1)] oy (λpq tS=>
 df pq λkZ n15 kU=>
 tS.cell? (⟨af,0,none⟩:Addr)=some (Value.slice cB n14 cA)/\
 (tS.cell? (⟨ι,1,none⟩:Addr)=some (Value.int .i64 aV)/\
 (tS.cell? (⟨ι,0,none⟩:Addr)=some (Value.int .i64 aJ)/\
 (bo.za D tS aJ aV n14 kZ n15 kU aD af ad c1 cB cA ι R)))) (λcX vn=>vn.heap[D]?=some (Obj.deferred (some []))/\
 R (.panicked cX) (vn.putObj D (Obj.deferred none))))/\
 (aR oy #[(Value.int .i64 aJ),(Value.int .i64 aV),(Value.int .i64 ((n14:Nat):Int))] 3 λue yl=>
 bo.E6 D cZ jV yl ue aD af ad c1 R)/\
 (aR oy #[(Value.int .i64 ((aD:Nat):Int))] 3 λBD tM=>
 tM.cell? (⟨af,0,none⟩:Addr)=some (Value.slice cB n14 cA)/\
 (tM.cell? (⟨ι,1,none⟩:Addr)=some (Value.int .i64 aV)/\
 (tM.cell? (⟨ι,0,none⟩:Addr)=some (Value.int .i64 aJ)/\
 (bo.E7 D cZ jV tM af cB n14 cA ι aV aJ BD ad aD c1 R))))
def bo.Lb(D:Nat)(yh:World)(al:Int)(cZ:Nat)(uf:Nat)(Dw:Nat)(af:Nat)(ad:J)(aD:Nat)(c1:Nat)(R:ak):Prop:=
 aR yh #[(Value.int .i64 al)] 3 λY5 ahV=>
 bo.Co D cZ Y5 ahV uf Dw af ad aD c1 R
def bo.O9(D:Nat)(yg:World)(al:Int)(cZ:Nat)(uf:Nat)(aD:Nat)(af:Nat)(ad:J)(c1:Nat)(aH:Nat)(R:ak):Prop:=
 (aR yg #[(Value.int .i64 al)] 3 λY4 ahU=>
 bo.E6 D cZ Y4 ahU uf aD af ad c1 R)/\
 (aR yg #[(Value.int .i64 ((aD:Nat):Int))] 3 λDw yh=>
 yh.cell? (⟨aH,0,none⟩:Addr)=some (Value.int .i64 al)/\
 (bo.Lb D yh al cZ uf Dw af ad aD c1 R))
def bo.H5(D:Nat)(tO:World)(al:Int)(af:Nat)(cB:J)(n14:Nat)(cA:Nat)(ι:Nat)(aV:Int)(aJ:Int)(cZ:Nat)(BE:Nat)(ad:J)(aD:Nat)(c1:Nat)(aH:Nat)(R:ak):Prop:=
 (aR tO #[(Value.int .i64 al)] 3 λY6 Mz=>
 Mz.cell? (⟨af,0,none⟩:Addr)=some (Value.slice cB n14 cA)/\
 (Mz.cell? (⟨ι,1,none⟩:Addr)=some (Value.int .i64 aV)/\
 (Mz.cell? (⟨ι,0,none⟩:Addr)=some (Value.int .i64 aJ)/\
 (bo.E7 D cZ Y6 Mz af cB n14 cA ι aV aJ BE ad aD c1 R))))/\
 (aR tO #[(Value.int .i64 aJ),(Value.int .i64 aV),(Value.int .i64 ((n14:Nat):Int))] 3 λY7 Xc=>
 Xc.cell? (⟨aH,0,none⟩:Addr)=some (Value.int .i64 al)/\
 (bo.Lb D Xc al cZ Y7 BE af ad aD c1 R))
def bo.Vp(D:Nat)(pV:World)(al:Int)(af:Nat)(cB:J)(n14:Nat)(cA:Nat)(ι:Nat)(aV:Int)(aJ:Int)(cZ:Nat)(aD:Nat)(ad:J)(c1:Nat)(aH:Nat)(R:ak):Prop:=
 (aR pV #[(Value.int .i64 al)] 3 λjV oy=>
 oy.cell? (⟨af,0,none⟩:Addr)=some (Value.slice cB n14 cA)/\
 (oy.cell? (⟨ι,1,none⟩:Addr)=some (Value.int .i64 aV)/\
 (oy.cell? (⟨ι,0,none⟩:Addr)=some (Value.int .i64 aJ)/\
 (bo.wm D cZ jV oy af cB n14 cA ι aV aJ aD ad c1 R))))/\
 (aR pV #[(Value.int .i64 aJ),(Value.int .i64 aV),(Value.int .i64 ((n14:Nat):Int))] 3 λuf yg=>
 yg.cell? (⟨aH,0,none⟩:Addr)=some (Value.int .i64 al)/\
 (bo.O9 D yg al cZ uf aD af ad c1 aH R))/\
 (aR pV #[(Value.int .i64 ((aD:Nat):Int))] 3 λBE tO=>
 tO.cell? (⟨af,0,none⟩:Addr)=some (Value.slice cB n14 cA)/\
 (tO.cell? (⟨ι,1,none⟩:Addr)=some (Value.int .i64 aV)/\
 (tO.cell? (⟨ι,0,none⟩:Addr)=some (Value.int .i64 aJ)/\
 (tO.cell? (⟨aH,0,none⟩:Addr)=some (Value.int .i64 al)/\
 (bo.H5 D tO al af cB n14 cA ι aV aJ cZ BE ad aD c1 aH R)))))
def bo.wo(D:Nat)(yj:World)(cZ:Nat)(la:Nat)(ug:Nat)(Dr:Nat)(af:Nat)(ad:J)(aD:Nat)(c1:Nat)(R:ak):Prop:=
 xP yj ⟨cZ,0,none⟩ λahX=>
 bo.Co D cZ la ahX ug Dr af ad aD c1 R
def bo.E8(D:Nat)(yi:World)(cZ:Nat)(la:Nat)(ug:Nat)(aD:Nat)(af:Nat)(ad:J)(c1:Nat)(R:ak):Prop:=
 (xP yi ⟨cZ,0,none⟩ λahW=>
 bo.E6 D cZ la ahW ug aD af ad c1 R)/\
 (aR yi #[(Value.int .i64 ((aD:Nat):Int))] 3 λDr yj=>
 bo.wo D yj cZ la ug Dr af ad aD c1 R)
def bo.Lc(D:Nat)(tR:World)(cZ:Nat)(af:Nat)(cB:J)(n14:Nat)(cA:Nat)(ι:Nat)(aV:Int)(aJ:Int)(la:Nat)(Bz:Nat)(ad:J)(aD:Nat)(c1:Nat)(R:ak):Prop:=
 (xP tR ⟨cZ,0,none⟩ λMC=>
 MC.cell? (⟨af,0,none⟩:Addr)=some (Value.slice cB n14 cA)/\
 (MC.cell? (⟨ι,1,none⟩:Addr)=some (Value.int .i64 aV)/\
 (MC.cell? (⟨ι,0,none⟩:Addr)=some (Value.int .i64 aJ)/\
 (bo.E7 D cZ la MC af cB n14 cA ι aV aJ Bz ad aD c1 R))))/\
 (aR tR #[(Value.int .i64 aJ),(Value.int .i64 aV),(Value.int .i64 ((n14:Nat):Int))] 3 λYL ahY=>
 bo.wo D ahY cZ la YL Bz af ad aD c1 R)
def bo.Pa(D:Nat)(tP:World)(cZ:Nat)(af:Nat)(cB:J)(n14:Nat)(cA:Nat)(ι:Nat)(aV:Int)(aJ:Int)(la:Nat)(aD:Nat)(ad:J)(c1:Nat)(R:ak):Prop:=
 (xP tP ⟨cZ,0,none⟩ λMA=>
 MA.cell? (⟨af,0,none⟩:Addr)=some (Value.slice cB n14 cA)/\
 (MA.cell? (⟨ι,1,none⟩:Addr)=some (Value.int .i64 aV)/\
 (MA.cell? (⟨ι,0,none⟩:Addr)=some (Value.int .i64 aJ)/\
 (bo.wm D cZ la MA af cB n14 cA ι aV aJ aD ad c1 R))))/\
 (aR tP #[(Value.int .i64 aJ),(Value.int .i64 aV),(Value.int .i64 ((n14:Nat):Int))] 3 λug yi=>
 bo.E8 D yi cZ la ug aD af ad c1 R)/\
 (aR tP #[(Value.int .i64 ((aD:Nat):Int))] 3 λBz tR=>
 tR.cell? (⟨af,0,none⟩:Addr)=some (Value.slice cB n14 cA)/\
 (tR.cell? (⟨ι,1,none⟩:Addr)=some (Value.int .i64 aV)/\
 (tR.cell? (⟨ι,0,none⟩:Addr)=some (Value.int .i64 aJ)/\
 (bo.Lc D tR cZ af cB n14 cA ι aV aJ la Bz ad aD c1 R))))
def bo.E9(D:Nat)(w3:World)(cZ:Nat)(aH:Nat)(al:Int)(rC:Nat)(BA:Nat)(af:Nat)(ad:J)(aD:Nat)(c1:Nat)(R:ak):Prop:=
 (xP w3 ⟨cZ,0,none⟩ λXi=>
 Xi.cell? (⟨aH,0,none⟩:Addr)=some (Value.int .i64 al)/\
 (bo.Lb D Xi al cZ rC BA af ad aD c1 R))/\
 (aR w3 #[(Value.int .i64 al)] 3 λYN ah0=>
 bo.wo D ah0 cZ YN rC BA af ad aD c1 R)
def bo.Fa(D:Nat)(w2:World)(cZ:Nat)(aH:Nat)(al:Int)(rC:Nat)(aD:Nat)(af:Nat)(ad:J)(c1:Nat)(R:ak):Prop:=
 (xP w2 ⟨cZ,0,none⟩ λXh=>
 Xh.cell? (⟨aH,0,none⟩:Addr)=some (Value.int .i64 al)/\
 (bo.O9 D Xh al cZ rC aD af ad c1 aH R))/\
 (aR w2 #[(Value.int .i64 al)] 3 λYM ahZ=>
 bo.E8 D ahZ cZ YM rC aD af ad c1 R)/\
 (aR w2 #[(Value.int .i64 ((aD:Nat):Int))] 3 λBA w3=>
 w3.cell? (⟨aH,0,none⟩:Addr)=some (Value.int .i64 al)/\
 (bo.E9 D w3 cZ aH al rC BA af ad aD c1 R))
def bo.H6(D:Nat)(sw:World)(cZ:Nat)(af:Nat)(cB:J)(n14:Nat)(cA:Nat)(ι:Nat)(aV:Int)(aJ:Int)(aH:Nat)(al:Int)(z6:Nat)(ad:J)(aD:Nat)(c1:Nat)(R:ak):Prop:=
 (xP sw ⟨cZ,0,none⟩ λI7=>
 I7.cell? (⟨af,0,none⟩:Addr)=some (Value.slice cB n14 cA)/\
 (I7.cell? (⟨ι,1,none⟩:Addr)=some (Value.int .i64 aV)/\
 (I7.cell? (⟨ι,0,none⟩:Addr)=some (Value.int .i64 aJ)/\
 (I7.cell? (⟨aH,0,none⟩:Addr)=some (Value.int .i64 al)/\
 (bo.H5 D I7 al af cB n14 cA ι aV aJ cZ z6 ad aD c1 aH R)))))/\
 (aR sw #[(Value.int .i64 al)] 3 λYO MG=>
 MG.cell? (⟨af,0,none⟩:Addr)=some (Value.slice cB n14 cA)/\
 (MG.cell? (⟨ι,1,none⟩:Addr)=some (Value.int .i64 aV)/\
 (MG.cell? (⟨ι,0,none⟩:Addr)=some (Value.int .i64 aJ)/\
 (bo.Lc D MG cZ af cB n14 cA ι aV aJ YO z6 ad aD c1 R))))/\
 (aR sw #[(Value.int .i64 aJ),(Value.int .i64 aV),(Value.int .i64 ((n14:Nat):Int))] 3 λYP Xk=>
 Xk.cell? (⟨aH,0,none⟩:Addr)=some (Value.int .i64 al)/\
 (bo.E9 D Xk cZ aH al YP z6 af ad aD c1 R))
def bo.Ld(D:Nat)(su:World)(cZ:Nat)(af:Nat)(cB:J)(n14:Nat)(cA:Nat)(ι:Nat)(aV:Int)(aJ:Int)(aH:Nat)(al:Int)(aD:Nat)(ad:J)(c1:Nat)(R:ak):Prop:=
 (xP su ⟨cZ,0,none⟩ λpV=>
 pV.cell? (⟨af,0,none⟩:Addr)=some (Value.slice cB n14 cA)/\
 (pV.cell? (⟨ι,1,none⟩:Addr)=some (Value.int .i64 aV)/\
 (pV.cell? (⟨ι,0,none⟩:Addr)=some (Value.int .i64 aJ)/\
 (pV.cell? (⟨aH,0,none⟩:Addr)=some (Value.int .i64 al)/\
 (bo.Vp D pV al af cB n14 cA ι aV aJ cZ aD ad c1 aH R)))))/\
 (aR su #[(Value.int .i64 al)] 3 λla tP=>
 tP.cell? (⟨af,0,none⟩:Addr)=some (Value.slice cB n14 cA)/\
 (tP.cell? (⟨ι,1,none⟩:Addr)=some (Value.int .i64 aV)/\
 (tP.cell? (⟨ι,0,none⟩:Addr)=some (Value.int .i64 aJ)/\
 (bo.Pa D tP cZ af cB n14 cA ι aV aJ la aD ad c1 R))))/\
 (aR su #[(Value.int .i64 aJ),(Value.int .i64 aV),(Value.int .i64 ((n14:Nat):Int))] 3 λrC w2=>
 w2.cell? (⟨aH,0,none⟩:Addr)=some (Value.int .i64 al)/\
 (bo.Fa D w2 cZ aH al rC aD af ad c1 R))/\
 (aR su #[(Value.int .i64 ((aD:Nat):Int))] 3 λz6 sw=>
 sw.cell? (⟨af,0,none⟩:Addr)=some (Value.slice cB n14 cA)/\
 (sw.cell? (⟨ι,1,none⟩:Addr)=some (Value.int .i64 aV)/\
 (sw.cell? (⟨ι,0,none⟩:Addr)=some (Value.int .i64 aJ)/\
 (sw.cell? (⟨aH,0,none⟩:Addr)=some (Value.int .i64 al)/\
 (bo.H6 D sw cZ af cB n14 cA ι aV aJ aH al z6 ad aD c1 R)))))
def bo.Fc(D:Nat)(zK:World)(k9:Nat)(ud:Nat)(Du:Nat)(af:Nat)(ad:J)(aD:Nat)(c1:Nat)(R:ak):Prop:=
 aR zK #[(Value.int .u8 83),(Value.int .u8 76),(Value.int .u8 65),(Value.int .u8 84)] 5 λYT ahM=>
 bo.wo D ahM YT k9 ud Du af ad aD c1 R
def bo.Fe(D:Nat)(zJ:World)(k9:Nat)(ud:Nat)(aD:Nat)(af:Nat)(ad:J)(c1:Nat)(R:ak):Prop:=
 (aR zJ #[(Value.int .u8 83),(Value.int .u8 76),(Value.int .u8 65),(Value.int .u8 84)] 5 λYS ahL=>
 bo.E8 D ahL YS k9 ud aD af ad c1 R)/\
 (aR zJ #[(Value.int .i64 ((aD:Nat):Int))] 3 λDu zK=>
 bo.Fc D zK k9 ud Du af ad aD c1 R)
def bo.Pb(D:Nat)(vl:World)(af:Nat)(cB:J)(n14:Nat)(cA:Nat)(ι:Nat)(aV:Int)(aJ:Int)(k9:Nat)(BB:Nat)(ad:J)(aD:Nat)(c1:Nat)(R:ak):Prop:=
 (aR vl #[(Value.int .u8 83),(Value.int .u8 76),(Value.int .u8 65),(Value.int .u8 84)] 5 λYU Mw=>
 Mw.cell? (⟨af,0,none⟩:Addr)=some (Value.slice cB n14 cA)/\
 (Mw.cell? (⟨ι,1,none⟩:Addr)=some (Value.int .i64 aV)/\
 (Mw.cell? (⟨ι,0,none⟩:Addr)=some (Value.int .i64 aJ)/\
 (bo.Lc D Mw YU af cB n14 cA ι aV aJ k9 BB ad aD c1 R))))/\
 (aR vl #[(Value.int .i64 aJ),(Value.int .i64 aV),(Value.int .i64 ((n14:Nat):Int))] 3 λYV ahN=>
 bo.Fc D ahN k9 YV BB af ad aD c1 R)
def bo.Vq(D:Nat)(vp:World)(af:Nat)(cB:J)(n14:Nat)(cA:Nat)(ι:Nat)(aV:Int)(aJ:Int)(k9:Nat)(aD:Nat)(ad:J)(c1:Nat)(R:ak):Prop:=
 (aR vp #[(Value.int .u8 83),(Value.int .u8 76),(Value.int .u8 65),(Value.int .u8 84)] 5 λYQ MH=>
 MH.cell? (⟨af,0,none⟩:Addr)=some (Value.slice cB n14 cA)/\
 (MH.cell? (⟨ι,1,none⟩:Addr)=some (Value.int .i64 aV)/\
 (MH.cell? (⟨ι,0,none⟩:Addr)=some (Value.int .i64 aJ)/\
 (bo.Pa D MH YQ af cB n14 cA ι aV aJ k9 aD ad c1 R))))/\
 (aR vp #[(Value.int .i64 aJ),(Value.int .i64 aV),(Value.int .i64 ((n14:Nat):Int))] 3 λud zJ=>
 bo.Fe D zJ k9 ud aD af ad c1 R)/\
 (aR vp #[(Value.int .i64 ((aD:Nat):Int))] 3 λBB vl=>
 vl.cell? (⟨af,0,none⟩:Addr)=some (Value.slice cB n14 cA)/\
 (vl.cell? (⟨ι,1,none⟩:Addr)=some (Value.int .i64 aV)/\
 (vl.cell? (⟨ι,0,none⟩:Addr)=some (Value.int .i64 aJ)/\
 (bo.Pb D vl af cB n14 cA ι aV aJ k9 BB ad aD c1 R))))
def bo.Pc(D:Nat)(yf:World)(aH:Nat)(al:Int)(rD:Nat)(BC:Nat)(af:Nat)(ad:J)(aD:Nat)(c1:Nat)(R:ak):Prop:=
 (aR yf #[(Value.int .u8 83),(Value.int .u8 76),(Value.int .u8 65),(Value.int .u8 84)] 5 λYY Xa=>
 Xa.cell? (⟨aH,0,none⟩:Addr)=some (Value.int .i64 al)/\
 (bo.E9 D Xa YY aH al rD BC af ad aD c1 R))/\
 (aR yf #[(Value.int .i64 al)] 3 λYZ ahS=>
 bo.Fc D ahS YZ rD BC af ad aD c1 R)
def bo.Vr(D:Nat)(yd:World)(aH:Nat)(al:Int)(rD:Nat)(aD:Nat)(af:Nat)(ad:J)(c1:Nat)(R:ak):Prop:=
 (aR yd #[(Value.int .u8 83),(Value.int .u8 76),(Value.int .u8 65),(Value.int .u8 84)] 5 λYW W9=>
 W9.cell? (⟨aH,0,none⟩:Addr)=some (Value.int .i64 al)/\
 (bo.Fa D W9 YW aH al rD aD af ad c1 R))/\
 (aR yd #[(Value.int .i64 al)] 3 λYX ahQ=>
 bo.Fe D ahQ YX rD aD af ad c1 R)/\
 (aR yd #[(Value.int .i64 ((aD:Nat):Int))] 3 λBC yf=>
 yf.cell? (⟨aH,0,none⟩:Addr)=some (Value.int .i64 al)/\
 (bo.Pc D yf aH al rD BC af ad aD c1 R))
def bo.Vs(D:Nat)(tN:World)(af:Nat)(cB:J)(n14:Nat)(cA:Nat)(ι:Nat)(aV:Int)(aJ:Int)(aH:Nat)(al:Int)(z7:Nat)(ad:J)(aD:Nat)(c1:Nat)(R:ak):Prop:=
 (aR tN #[(Value.int .u8 83),(Value.int .u8 76),(Value.int .u8 65),(Value.int .u8 84)] 5 λY0 I4=>
 I4.cell? (⟨af,0,none⟩:Addr)=some (Value.slice cB n14 cA)/\
 (I4.cell? (⟨ι,1,none⟩:Addr)=some (Value.int .i64 aV)/\
 (I4.cell? (⟨ι,0,none⟩:Addr)=some (Value.int .i64 aJ)/\
 (I4.cell? (⟨aH,0,none⟩:Addr)=some (Value.int .i64 al)/\
 (bo.H6 D I4 Y0 af cB n14 cA ι aV aJ aH al z7 ad aD c1 R)))))/\
 (aR tN #[(Value.int .i64 al)] 3 λY1 My=>
 My.cell? (⟨af,0,none⟩:Addr)=some (Value.slice cB n14 cA)/\
 (My.cell? (⟨ι,1,none⟩:Addr)=some (Value.int .i64 aV)/\
 (My.cell? (⟨ι,0,none⟩:Addr)=some (Value.int .i64 aJ)/\
 (bo.Pb D My af cB n14 cA ι aV aJ Y1 z7 ad aD c1 R))))/\
 (aR tN #[(Value.int .i64 aJ),(Value.int .i64 aV),(Value.int .i64 ((n14:Nat):Int))] 3 λY2 Xb=>
 Xb.cell? (⟨aH,0,none⟩:Addr)=some (Value.int .i64 al)/\
 (bo.Pc D Xb aH al Y2 z7 af ad aD c1 R))
def bo.Vt(D:Nat)(cn:World)(af:Nat)(cB:J)(n14:Nat)(cA:Nat)(ι:Nat)(aV:Int)(aJ:Int)(aH:Nat)(al:Int)(aD:Nat)(ad:J)(c1:Nat)(R:ak):Prop:=
 (aR cn.drew #[(Value.int .u8 83),(Value.int .u8 76),(Value.int .u8 65),(Value.int .u8 84)] 5 λcZ su=>
 su.cell? (⟨af,0,none⟩:Addr)=some (Value.slice cB n14 cA)/\
 (su.cell? (⟨ι,1,none⟩:Addr)=some (Value.int .i64 aV)/\
 (su.cell? (⟨ι,0,none⟩:Addr)=some (Value.int .i64 aJ)/\
 (su.cell? (⟨aH,0,none⟩:Addr)=some (Value.int .i64 al)/\
 (bo.Ld D su cZ af cB n14 cA ι aV aJ aH al aD ad c1 R)))))/\
 (aR cn.drew #[(Value.int .i64 al)] 3 λk9 vp=>
 vp.cell? (⟨af,0,none⟩:Addr)=some (Value.slice cB n14 cA)/\
 (vp.cell? (⟨ι,1,none⟩:Addr)=some (Value.int .i64 aV)/\
 (vp.cell? (⟨ι,0,none⟩:Addr)=some (Value.int .i64 aJ)/\
 (bo.Vq D vp af cB n14 cA ι aV aJ k9 aD ad c1 R))))/\
 (aR cn.drew #[(Value.int .i64 aJ),(Value.int .i64 aV),(Value.int .i64 ((n14:Nat):Int))] 3 λrD yd=>
 yd.cell? (⟨aH,0,none⟩:Addr)=some (Value.int .i64 al)/\
 (bo.Vr D yd aH al rD aD af ad c1 R))/\
 (aR cn.drew #[(Value.int .i64 ((aD:Nat):Int))] 3 λz7 tN=>
 tN.cell? (⟨af,0,none⟩:Addr)=some (Value.slice cB n14 cA)/\
 (tN.cell? (⟨ι,1,none⟩:Addr)=some (Value.int .i64 aV)/\
 (tN.cell? (⟨ι,0,none⟩:Addr)=some (Value.int .i64 aJ)/\
 (tN.cell? (⟨aH,0,none⟩:Addr)=some (Value.int .i64 al)/\
 (bo.Vs D tN af cB n14 cA ι aV aJ aH al z7 ad aD c1 R)))))
def bo.main(a0:ah)(e0 e1 a2:Int)(w:World)(R:ak):Prop:=
 aR w a0 89 λε δ=>
 aR δ #[e0,e1] 28 λι υ=>
 aR υ #[a2] 3 λaH aa=>
 ∃ζ,aa.cell? ⟨aH,0,none⟩=some (.int .i64 ζ)/\
 (cond (decide (ζ<1)) (
  R (.returned (.tuple #[.slice none 0 0,(1:Int)])) aa) (
  ∃τ,aa.cell? ⟨aH,0,none⟩=some (.int .i64 τ)/\
  (cond (decide (τ>1073741824)) (
   R (.returned (.tuple #[.slice none 0 0,(1:Int)])) aa) (
   ∃(aQ:ah),aQ.size=24/\aw aa ⟨ε,0,none⟩ aQ.toList/\
   (∃(bK:ah),bK.size=2/\aw aa ⟨ι,0,none⟩ bK.toList/\
    (κ prog 67 #[.agg aQ,.agg bK] aa (λv1 ax=>
     bq .i64 v1 λab=>
     cond (ab !=0) (
      R (.returned (.tuple #[.slice none 0 0,ab])) ax) (
      ∃(b2:ah),b2.size=24/\aw ax ⟨ε,0,none⟩ b2.toList/\
      (∃(bY:ah),bY.size=2/\aw ax ⟨ι,0,none⟩ bY.toList/\
       (κ prog 136 #[.agg b2,.agg bY] ax (λv2 ba=>
        df v2 λad aD c1=>
        aR ba #[.slice none 0 0] 178 λaf b9=>
        κ prog 137 #[.slice ad aD c1,(52:Int)] b9 (λv3 ca=>
         JM v3 λgf jM lb=>
         ο (Nat.beq jM.size 0&&bB.fns.contains gf&&true&&true&&true&&true) (
         ∃(α:Type)(enc:α->Value)(fx:World->ai)(S Sp:List α->Prop)(N:Nat)(bw pX:List α->ai),Rw prog gf lb enc fx S Sp N bw pX ca/\
         ((∀(pre:List α)(x:α)(cH:World),bw pre cH->pre.length<N->
         df (enc x) λaX br c2=>
         ∃bl dz bJ,cH.drew.cell? ⟨af,0,none⟩=some (.slice bl dz bJ)/\
         (∃aA,cH.drew.cell? ⟨aH,0,none⟩=some (.int .i64 aA)/\
         (∃ej iA fU,cH.drew.cell? ⟨af,0,none⟩=some (.slice ej iA fU)/\
         (bo.r2 α fx bw pre x cH aA af ej iA fU bl dz bJ br aX aH))))/\
         ((∀(D:Nat)(xs:List α)(cn:World),ca.heap.size<=D->S xs->bw xs cn->cn.heap[D]?=some (Obj.deferred (some []))->
         ∃al,cn.drew.cell? ⟨aH,0,none⟩=some (.int .i64 al)/\
         (∃aJ,cn.drew.cell? ⟨ι,0,none⟩=some (.int .i64 aJ)/\
         (∃aV,cn.drew.cell? ⟨ι,1,none⟩=some (.int .i64 aV)/\
         (∃cB n14 cA,cn.drew.cell? ⟨af,0,none⟩=some (.slice cB n14 cA)/\
         (bo.Vt D cn af cB n14 cA ι aV aJ aH al aD ad c1 R)))))/\
         (∀(D:Nat)(pre:List α)(de:World),ca.heap.size<=D->Sp pre->pX pre de->de.heap[D]?=some (Obj.deferred (some []))->
         de.heap[D]?=some (Obj.deferred (some []))/\
         R (.returned (.tuple #[.slice none 0 0,(0:Int)])) (de.putObj D (Obj.deferred none))))))) (aB R)) (aB R))))) (aB R)))))))
abbrev bo.C(a0:ah)(e0 e1 a2:Int):=Calls prog 99 #[.agg a0,.agg #[e0,e1],a2]
theorem bo.ok:k6 bo.main bo.C:=λ{_ _ _ _ _ R}h=>adh func99 [.tmp 6,.tmp 7] 73 (.seq .leaf (.seq .leaf (.seq .leaf (.seq .leaf (.seq .leaf (.x7 .leaf)))))) h
def F3.main(a0:Int)(w:World)(R:ak):Prop:=
 R (.returned (.int .i64 (IntKind.i64.wrap (0+(IntKind.i64.wrap ((Int.tmod a0 2)*12)))))) w
abbrev F3.C(a0:Int):=Calls prog 100 #[a0]
theorem F3.ok:ic F3.main F3.C:=λh=>dt func100 [.tmp 2] 7 h
def qy.aZ(cj:J)(cb cu:Nat)(t1 t6 t7:Int)(w:World)(R:ak):Prop:=
 cond (decide (t7<t6)) (
  ο (decide (0<=t7)) (
   ο (decide (t7<((cb:Nat):Int))) (
    ξ cj λd2=>
    ∃τ,w.cell? (d2.add (t7.toNat*1))=some (.int .i64 τ)/\
    (cond (τ==t1) (
     R (.returned (.tuple #[t7,.bool true])) w) (
     ο (decide (0<=t7)) (
      ο (decide (t7<((cb:Nat):Int))) (
       ξ cj λd3=>
       ∃ab,w.cell? (d3.add (t7.toNat*1))=some (.int .i64 ab)/\
       (κ prog 142 #[ab] w (λv2 aa=>
        dD v2 λι=>
        cond ι (
         κ prog 142 #[t1] aa (λv3 aG=>
          dD v3 λaH=>
          R (.returned (.tuple #[t7,.bool aH])) aG) (aB R)) (
         R (.returned (.tuple #[t7,.bool false])) aa)) (aB R))))))))) (
  R (.returned (.tuple #[t7,.bool false])) w)
def qy.ε(cj:J)(cb cu:Nat)(t1 t6 t7 t8:Int)(w:World)(R:ak)(aS:J->Nat->Nat->Int->Int->Int->Int->ai):Prop:=
 cond (decide (t7<t8)) (
  ο (decide (0<=(IntKind.i64.wrap (Int.fdiv (IntKind.u64.wrap (IntKind.i64.wrap (t7+t8))) (2^(min 1 IntKind.u64.bits)))))) (
   ο (decide ((IntKind.i64.wrap (Int.fdiv (IntKind.u64.wrap (IntKind.i64.wrap (t7+t8))) (2^(min 1 IntKind.u64.bits))))<((cb:Nat):Int))) (
    ξ cj λd1=>
    ∃ζ,w.cell? (d1.add ((IntKind.i64.wrap (Int.fdiv (IntKind.u64.wrap (IntKind.i64.wrap (t7+t8))) (2^(min 1 IntKind.u64.bits)))).toNat*1))=some (.int .i64 ζ)/\
    (κ prog 141 #[ζ,t1] w (λv1 δ=>
     dD v1 λε=>
     cond ε (
      aS cj cb cu t1 t6 (IntKind.i64.wrap ((IntKind.i64.wrap (Int.fdiv (IntKind.u64.wrap (IntKind.i64.wrap (t7+t8))) (2^(min 1 IntKind.u64.bits))))+1)) t8 δ) (
      aS cj cb cu t1 t6 t7 (IntKind.i64.wrap (Int.fdiv (IntKind.u64.wrap (IntKind.i64.wrap (t7+t8))) (2^(min 1 IntKind.u64.bits)))) δ)) (aB R))))) (
  qy.aZ cj cb cu t1 t6 t7 w R)
def qy.bd:=KZ qy.ε
def qy.main(bD:J)(a6 bx:Nat)(aq:Int)(w:World)(R:ak):Prop:=
 qy.bd bD a6 bx aq ((a6:Nat):Int) 0 ((a6:Nat):Int) w R
abbrev qy.C(bD:J)(a6 bx:Nat)(aq:Int):=Calls prog 101 #[.slice bD a6 bx,aq]
theorem qy.ok:k6 qy.main qy.C:=λ{_ _ _ _ _ R}h=>fg func101 [.tmp 4,.tmp 5] 54 (.seq .leaf (.seq .leaf (.seq .leaf (.cut [(0,.slice),(1,.int .i64),(6,.int .i64),(7,.int .i64)] (qy.aZ · · · · · · · R) (.block (.loop [(0,.slice),(1,.int .i64),(6,.int .i64),(7,.int .i64),(8,.int .i64)] (qy.bd · · · · · · · · R) λaS=>.leaf)) .leaf)))) h
def F9.main(bD:J)(a6 bx:Nat)(aq:Int)(jg:J)(eD j5:Nat)(w:World)(R:ak):Prop:=
 ο (decide (0<=aq)) (
  ο (decide (aq<=((a6:Nat):Int))) (
   cond (((eD:Nat):Int)==0) (
    R (.returned (.slice bD a6 bx)) w) (
    cond (aq==((a6:Nat):Int)) (
     gD w bD a6 bx eD (a8 w jg) 3 1 8 #[(0:Int)] λad c1 δ=>
     R (.returned (.slice ad (a6+eD) c1)) δ) (
     cond (decide ((IntKind.i64.wrap (((a6:Nat):Int)+((eD:Nat):Int)))>((bx:Nat):Int))) (
      ο (decide (0<=aq)) (
       ο (decide (aq<=((bx:Nat):Int))) (
        ο (decide (0<=(IntKind.i64.wrap ((IntKind.i64.wrap (((a6:Nat):Int)+((eD:Nat):Int)))-aq)))) (
         Nd w (dA bD bx 0 1) aq.toNat bx ((IntKind.i64.wrap ((IntKind.i64.wrap (((a6:Nat):Int)+((eD:Nat):Int)))-aq)).toNat) 3 1 8 #[(0:Int)] λaX c2 υ=>
         ο (decide (0<=aq)) (
          ο (decide (aq<=(((aq.toNat+(IntKind.i64.wrap ((IntKind.i64.wrap (((a6:Nat):Int)+((eD:Nat):Int)))-aq)).toNat):Nat):Int))) (
           vL υ (dA aX c2 aq.toNat 1) ((aq.toNat+(IntKind.i64.wrap ((IntKind.i64.wrap (((a6:Nat):Int)+((eD:Nat):Int)))-aq)).toNat)-aq.toNat) jg eD 1 λaa=>
           ο (decide (0<=(IntKind.i64.wrap (aq+((eD:Nat):Int))))) (
            ο (decide ((IntKind.i64.wrap (aq+((eD:Nat):Int)))<=(((aq.toNat+(IntKind.i64.wrap ((IntKind.i64.wrap (((a6:Nat):Int)+((eD:Nat):Int)))-aq)).toNat):Nat):Int))) (
             ο (decide (0<=aq)) (
             ο (decide (aq<=((a6:Nat):Int))) (
             vL aa.drew (dA aX c2 ((IntKind.i64.wrap (aq+((eD:Nat):Int))).toNat) 1) ((aq.toNat+(IntKind.i64.wrap ((IntKind.i64.wrap (((a6:Nat):Int)+((eD:Nat):Int)))-aq)).toNat)-(IntKind.i64.wrap (aq+((eD:Nat):Int))).toNat) (dA bD bx aq.toNat 1) (a6-aq.toNat) 1 λax=>
             R (.returned (.slice aX (aq.toNat+(IntKind.i64.wrap ((IntKind.i64.wrap (((a6:Nat):Int)+((eD:Nat):Int)))-aq)).toNat) c2)) ax)))))))))) (
      ο (decide (0<=(IntKind.i64.wrap (((a6:Nat):Int)+((eD:Nat):Int))))) (
       ο (decide ((IntKind.i64.wrap (((a6:Nat):Int)+((eD:Nat):Int)))<=((bx:Nat):Int))) (
        ο (decide (0<=(IntKind.i64.wrap (aq+((eD:Nat):Int))))) (
         ο (decide ((IntKind.i64.wrap (aq+((eD:Nat):Int)))<=(((IntKind.i64.wrap (((a6:Nat):Int)+((eD:Nat):Int))).toNat:Nat):Int))) (
          SS prog 143 #[.slice jg eD j5,.slice (dA (dA bD bx 0 1) bx ((IntKind.i64.wrap (aq+((eD:Nat):Int))).toNat) 1) ((IntKind.i64.wrap (((a6:Nat):Int)+((eD:Nat):Int))).toNat-(IntKind.i64.wrap (aq+((eD:Nat):Int))).toNat) (bx-(IntKind.i64.wrap (aq+((eD:Nat):Int))).toNat)] w λv1 aG=>
          dD v1 λε=>
          cond (!ε) (
           ο (decide (0<=(IntKind.i64.wrap (aq+((eD:Nat):Int))))) (
            ο (decide ((IntKind.i64.wrap (aq+((eD:Nat):Int)))<=(((IntKind.i64.wrap (((a6:Nat):Int)+((eD:Nat):Int))).toNat:Nat):Int))) (
             ο (decide (0<=aq)) (
             ο (decide (aq<=(((IntKind.i64.wrap (((a6:Nat):Int)+((eD:Nat):Int))).toNat:Nat):Int))) (
             vL aG.drew (dA (dA bD bx 0 1) bx ((IntKind.i64.wrap (aq+((eD:Nat):Int))).toNat) 1) ((IntKind.i64.wrap (((a6:Nat):Int)+((eD:Nat):Int))).toNat-(IntKind.i64.wrap (aq+((eD:Nat):Int))).toNat) (dA (dA bD bx 0 1) bx aq.toNat 1) ((IntKind.i64.wrap (((a6:Nat):Int)+((eD:Nat):Int))).toNat-aq.toNat) 1 λba=>
             ο (decide (0<=aq)) (
             ο (decide (aq<=(((IntKind.i64.wrap (((a6:Nat):Int)+((eD:Nat):Int))).toNat:Nat):Int))) (
             vL ba (dA (dA bD bx 0 1) bx aq.toNat 1) ((IntKind.i64.wrap (((a6:Nat):Int)+((eD:Nat):Int))).toNat-aq.toNat) jg eD 1 λbk=>
             R (.returned (.slice (dA bD bx 0 1) ((IntKind.i64.wrap (((a6:Nat):Int)+((eD:Nat):Int))).toNat) bx)) bk))))))) (
           ο (decide (0<=((a6:Nat):Int))) (
            ο (decide (((a6:Nat):Int)<=(((IntKind.i64.wrap (((a6:Nat):Int)+((eD:Nat):Int))).toNat:Nat):Int))) (
             vL aG (dA (dA bD bx 0 1) bx a6 1) ((IntKind.i64.wrap (((a6:Nat):Int)+((eD:Nat):Int))).toNat-a6) jg eD 1 λb9=>
             ο (decide (0<=aq)) (
             ο (decide (aq<=(((IntKind.i64.wrap (((a6:Nat):Int)+((eD:Nat):Int))).toNat:Nat):Int))) (
             κ prog 144 #[.slice (dA (dA bD bx 0 1) bx aq.toNat 1) ((IntKind.i64.wrap (((a6:Nat):Int)+((eD:Nat):Int))).toNat-aq.toNat) (bx-aq.toNat),((eD:Nat):Int)] b9 (λv2 ca=>
             b6 v2 λbT=>
             R (.returned (.slice (dA bD bx 0 1) ((IntKind.i64.wrap (((a6:Nat):Int)+((eD:Nat):Int))).toNat) bx)) ca) (aB R)))))))))))))))
abbrev F9.C(bD:J)(a6 bx:Nat)(aq:Int)(jg:J)(eD j5:Nat):=Calls prog 102 #[.slice bD a6 bx,aq,.slice jg eD j5]
theorem F9.ok:GU F9.main F9.C:=λh=>dt func102 [.tmp 6] 95 h
def yx.main(bD:J)(a6 bx:Nat)(aq:Value)(w:World)(R:ak):Prop:=
 κ prog 145 #[.slice bD a6 bx,aq] w (λv1 δ=>
  bq .i64 v1 λζ=>
  R (.returned (.bool (decide (ζ>=0)))) δ) (aB R)
abbrev yx.C(bD:J)(a6 bx:Nat)(aq:Value):=Calls prog 103 #[.slice bD a6 bx,aq]
theorem yx.ok:k6 yx.main yx.C:=λh=>dt func103 [.tmp 4] 9 h
def Dy.main(fl:Int)(Dg:J)(Df De:Nat)(w:World)(R:ak):Prop:=
 aR w #[fl,.slice Dg Df De] 130 λε δ=>
 ∃ad aD c1,δ.cell? ⟨ε,1,none⟩=some (.slice ad aD c1)/\
 (R (.returned (.bool (((aD:Nat):Int)!=64))) δ)
abbrev Dy.C(fl:Int)(Dg:J)(Df De:Nat):=Calls prog 104 #[.agg #[fl,.slice Dg Df De]]
theorem Dy.ok:k6 Dy.main Dy.C:=λh=>dt func104 [.tmp 2] 7 h
def Dz.main(fl:Int)(Dg:J)(Df De dN:Nat)(w:World)(R:ak):Prop:=
 aR w #[fl,.slice Dg Df De] 130 λε δ=>
 ∃ζ,δ.cell? ⟨ε,0,none⟩=some (.int .i64 ζ)/\
 (cond (decide (ζ<0)) (
  ∀aZ:Nat,
  R (.returned (.bool true)) (δ.drewN aZ)) (
  ∃τ,δ.cell? ⟨ε,0,none⟩=some (.int .i64 τ)/\
  (∃ad,δ.cell? ⟨dN,0,none⟩=some (.pointer ad)/\
   (ξ ad λd1=>
    ∃aX aD c1,δ.cell? (d1.add 1)=some (.slice aX aD c1)/\
    (∀aZ:Nat,
     R (.returned (.bool (decide (τ>=((aD:Nat):Int))))) (δ.drewN aZ))))))
abbrev Dz.C(fl:Int)(Dg:J)(Df De dN:Nat):=Calls prog 105 #[.agg #[fl,.slice Dg Df De],.pointer (some ⟨dN,0,none⟩)]
theorem Dz.ok:vy Dz.main Dz.C:=λh=>dt func105 [.tmp 3] 17 h
end Go.Proofs.YtcpdfhkhaekekaaGreat.G
